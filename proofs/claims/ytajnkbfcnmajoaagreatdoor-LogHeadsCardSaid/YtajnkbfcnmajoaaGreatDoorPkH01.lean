/-
  PROVED HERE: what chapter 21's world.do answers where it is asked to append: true, and the world stays one; conditions: the world is as WAt says.
-/
import Derived.Test.YtajnkbfcnmajoaaGreatDoorPkB00
import Derived.Test.YtajnkbfcnmajoaaGreatDoorPkH00
namespace Go.Proofs.YtajnkbfcnmajoaaGreatDoor
open Go.RowKit
theorem three_cells {w : World} {g : Nat} {c0 c1 c2 : Value} {t : TypeId} (h : w.heap[g]? = some (.cells #[c0, c1, c2] t (0, 0))) (x0 x1 x2 : Value) :
  (((w.setCell ⟨g, 0, none⟩ x0).setCell ⟨g, 1, none⟩ x1).setCell ⟨g, 2, none⟩ x2).heap[g]? = some (.cells #[x0, x1, x2] t (0, 0)) ∧ Keep (fun b => b ≠ g) w (((w.setCell ⟨g, 0, none⟩ x0).setCell ⟨g, 1, none⟩ x1).setCell ⟨g, 2, none⟩ x2) := by
 have no : ∀ (W : World) (k : Nat) (u : Value), Keep (fun b => b ≠ g) w W → Keep (fun b => b ≠ g) w (W.setCell ⟨g, k, none⟩ u) := fun W k u hW => hW.setCell (p := ⟨g, k, none⟩) (fun hd => absurd rfl hd) u
 exact ⟨setCell_block (setCell_block (setCell_block h 0 x0) 1 x1) 2 x2, no _ _ _ (no _ _ _ (no _ _ _ (Keep.refl _ w)))⟩
def LogS.ask (n : Nat) (s : LogS) (next : Int) (mk : Bool) (by' : Int) (body : List UInt8) : LogS := if by'.tmod 7 = 1 then s else match s.append n (askRec mk next body) with | some s' => s' | none => s
section
variable {w w' : World} {D DL F : Nat → Prop} {base bw : Nat} {q : DiskB} {v : W21V} {s : LogS} {A : Option Addr} {c : Nat} {S : List UInt8}
def Do1RetE (J : Prop) (E : Nat → Prop) (w : World) (D DL B : Nat → Prop) (base bw : Nat) (q : DiskB) (v : W21V) (A : Option Addr) (s' : LogS) (e : Ending) (w' : World) : Prop := e = .returned (.bool true) ∧ Keep E w w' ∧
 ∃ (v' : W21V) (D' DL' : Nat → Prop) (A' : Option Addr) (c' : Nat) (S' : List UInt8), WAt J w' D' DL' base bw q v' s' A' c' S' ∧ v'.k = v.k ∧ v'.p = v.p ∧ v'.g = v.g ∧ (∀ b, b < w.heap.size → FarOf bw q v A b → FarOf bw q v' A' b) ∧ ∀ b, b < w.heap.size → (D' b → D b ∨ B b) ∧ (DL' b → DL b)
theorem Mid.wait {lv : LogV} {r : RecP} {A9 : Option Addr} {c9 : Nat} {wA wB : World} (h : Mid w D DL base bw q v s lv A c S) (kA : New w wA) (s8 : Keep (fun j => j ≠ bw ∧ some j ≠ blk v.Aw) w w') (kS : Keep (fun j => j ≠ bw) wB w') (hc : W21At w' bw { v with Aw := A9, nw := v.nw + 1, cw := c9 })
  (o9 : OwnSl 70 recElt wB base (fun b => D b ∧ b < w.heap.size) A9 (v.nw + 1) c9 (s.waits ++ [r])) (hbk : blk A9 = blk v.Aw ∨ blk A9 = some wA.heap.size) :
  Keep (fun b => b < base) w w' ∧ ∃ (D' DL' : Nat → Prop), Mid w' D' DL' base bw q { v with Aw := A9, nw := v.nw + 1, cw := c9 } ⟨s.segs, s.waits ++ [r]⟩ lv A c S ∧ (∀ b, D' b → D b) ∧ ∀ b, DL' b → DL b := by
 have n := h.doc.no
 have hz := kA.size
 have hbw := h.doc.cells.lt
 obtain ⟨_, ow⟩ := h.doc.waits.own
 obtain ⟨_, oh⟩ := h.doc.heads.own
 obtain ⟨_, oa⟩ := h.doc.all.own
 obtain ⟨_, oi⟩ := h.doc.image.own
 have hA9 : ∀ k, blk A9 = some k → blk v.Aw = some k ∨ w.heap.size ≤ k := fun k hk => by
  rcases hbk with e | e
  ·exact .inl (e.symm.trans hk)
  ·rw [e] at hk; injection hk with hk; exact .inr (by omega)
 have hA9b : blk A9 ≠ some bw := fun e => by
  rcases hA9 bw e with e | e
  ·exact n.1 e
  ·omega
 have ha : ∀ k, blk v.Aa = some k → some k ≠ blk v.Aw := fun k hk e => h.doc.apart k e.symm hk
 have hd : DocAt w' (fun b => D b ∧ b < w.heap.size) base bw { v with Aw := A9, nw := v.nw + 1, cw := c9 } ⟨s.segs, s.waits ++ [r]⟩ := by
  have hi : ∀ b, D b ∧ b < w.heap.size → b ≠ bw ∧ some b ≠ blk v.Aw := fun b hb => ⟨(h.doc.out b hb.1).1, (h.doc.out b hb.1).2.1⟩
  have h2 := h.doc.imp (F := fun b => D b ∧ b < w.heap.size) (fun b hb hd => ⟨hd, hb⟩) (fun b hb => h.doc.out b hb.1)
  have hsz := kS.size
  refine ⟨hc, by show v.nw + 1 = _; rw [h.doc.nw]; simp, h.doc.nh, h.doc.na, h.doc.ni, ?_, h2.heads.keepE s8 (fun k hk => ⟨fun e => n.2.1 (by rw [hk, e]), fun e => own_two ow oh (by decide) k hk e.symm⟩) hi, h2.all.keepE s8 (fun k hk => ⟨fun e => n.2.2.1 (by rw [hk, e]), ha k hk⟩) hi, h2.image.keepE s8 (fun k hk => ⟨fun e => n.2.2.2 (by rw [hk, e]), fun e => own_two ow oi (by decide) k hk e.symm⟩) hi, fun b hb => ?_, fun k hk e => ?_⟩
  ·exact o9.keepE kS (fun k hk e => hA9b (by rw [hk, e])) (fun b hb => (hi b hb).1)
  ·have hq := h.doc.out b hb.1
   exact ⟨hq.1, fun e => by rcases hA9 b e.symm with h1 | h1; exact hq.2.1 h1.symm; have := hb.2; omega, hq.2.2⟩
  ·have := (h.doc.all.lt k e).2
   rcases hA9 k hk with h1 | h1
   ·exact h.doc.apart k h1 e
   ·omega
 exact ⟨h.below (s8.imp fun j _ hj => ⟨hj.1, hj.2.2.2.2.1⟩), _, _, h.lists (s8.imp fun j _ hj => ⟨hj.1, hj.2.1⟩) hd rfl rfl (fun b hb => .inl hb.1) ⟨hA9, fun k hk => .inl hk, fun k hk => .inl hk, fun k hk => .inl hk⟩, fun _ h => h.1, fun _ h => h.1⟩
set_option maxRecDepth 100000 in
set_option maxHeartbeats 4000000 in
theorem do1_farE {J : Prop} {E B : Nat → Prop} (hBE : ∀ b, B b → E b) (h : WAt J w D DL base bw q v s A c S) (hE : ∀ b, E b → b < w.heap.size ∧ FarOf bw q v A b) (hED : ∀ b, b < w.heap.size → FarOf bw q v A b → E b) (by' : Int) (_hy0 : -9223372036854775808 ≤ by') (_hy1 : by' ≤ 9223372036854775807) (mk : Bool) (Ab : Option Addr) (nb cb : Nat) (bs : List UInt8) (hB : Bs w B Ab nb bs) (hcb : nb ≤ cb) (hcm : cb ≤ 9223372036854775807) (ht : v.m.next < 1000000) :
  Calls Tryz.prog 10 #[.pointer (some ⟨bw, 0, none⟩), .agg #[.int .i64 1, .int .i64 by', .bool mk, .slice Ab nb cb]] w (Do1RetE J E w D DL B base bw q v A (s.ask v.g v.m.next mk by' bs)) := by
 have HED := Lib.hid hED
 clear hED
 have k1 := (New.refl w).alloc (.cells #[.int .i64 1, .int .i64 by', .bool mk, .slice Ab nb cb] 27)
 have x1 := heap_alloc_new w (.cells #[.int .i64 1, .int .i64 by', .bool mk, .slice Ab nb cb] 27)
 have hlt := h.mid.doc.cells.lt
 have HBO := Lib.hid (fun W (hW : New w W) => body21_any 1 by' mk Ab nb cb bs (hB.new hW) hcb hcm)
 have HH := Lib.hid (And.intro h hB)
 have HE := Lib.hid hE
 clear hE
 have hn0 : 0 ≤ v.m.next := by have := (small_of h.st).next.1; rw [h.m]; exact this
 obtain ⟨nx, hnx⟩ : ∃ nx, nx = v.m.next := ⟨_, rfl⟩
 rw [← hnx] at ht hn0 ⊢
 have y12 : ∀ W, New w W → W.cell? ⟨bw, 12, none⟩ = some (.int .u64 nx) := fun W hW => by rw [hnx]; exact (h.mid.doc.cells.new hW).cell rfl
 replace hnx := Lib.hid hnx
 clear h hB
 generalize hw1 : w.alloc (.cells #[.int .i64 1, .int .i64 by', .bool mk, .slice Ab nb cb] 27) = w1 at *
 have x0 := cellOf x1 (k := 0) rfl
 have HX := Lib.hid (And.intro x1 k1)
 go_enter Tryz.func10, Tryz.ntmps10
 go_upto_region 3 with fail
 clear hw1 x0 x1 k1
 obtain ⟨n3, hn3⟩ : ∃ n3, n3 = (bs.take 300).length := ⟨_, rfl⟩
 have hBO := HBO.out
 rw [← hn3] at hBO
 have HBO := Lib.hid hBO
 clear hBO
 replace hn3 := Lib.hid hn3
 go_cut [5] (fun s5 wx => ∃ (g5 cc : Nat), s5 = .pointer (some ⟨g5, 0, none⟩) ∧ w1.heap.size ≤ g5 ∧ wx.heap[g5]? = some (.cells #[.int .i64 1, .int .u64 nx, .slice Ab n3 cc] 70 (0, 0)) ∧ n3 ≤ cc ∧ cc ≤ cb ∧ New w1 wx)
 case first =>
  have n3r : New w1 w1.drew := (New.refl w1).drew
  refine hold_beginS (New w1.drew) (by kernel_rfl) ?_
  have HK4 := Lib.hid (HX.out.2.new n3r)
  have hz7 : w1.heap.size = w1.drew.heap.size := rfl
  have r0 : ∀ W, New w1.drew W → W.cell? ⟨w.heap.size, 0, none⟩ = some (.int .i64 1) := fun W hW => cellOf (k := 0) ((n3r.new hW).blockAt HX.out.1 trivial) rfl
  have r1 : ∀ W, New w1.drew W → W.cell? ⟨w.heap.size, 1, none⟩ = some (.int .i64 by') := fun W hW => cellOf (k := 1) ((n3r.new hW).blockAt HX.out.1 trivial) rfl
  have r2 : ∀ W, New w1.drew W → W.cell? ⟨w.heap.size, 2, none⟩ = some (.bool mk) := fun W hW => cellOf (k := 2) ((n3r.new hW).blockAt HX.out.1 trivial) rfl
  have r3 : ∀ W, New w1.drew W → W.cell? ⟨w.heap.size, 3, none⟩ = some (.slice Ab nb cb) := fun W hW => cellOf (k := 3) ((n3r.new hW).blockAt HX.out.1 trivial) rfl
  have r12 : ∀ W, New w1.drew W → W.cell? ⟨bw, 12, none⟩ = some (.int .u64 nx) := fun W hW => y12 W (HK4.out.new hW)
  clear y12
  generalize w1.drew = w4 at *
  have n0 : New w4 w4 := New.refl _
  refine take0 0 n0 ?_
  refine take0 1 n0 ?_
  refine take0 2 n0 ?_
  refine take0 3 n0 ?_
  refine take0 4 n0 ?_
  refine take0 5 n0 ?_
  clear r0 r1 r2 r3 r12
  refine hold_fork0 (i := 6) (j := 8) (by kernel_rfl) rfl rfl rfl rfl (fun K hK => ?_) (fun K hK => ?_)
  ·skip
   go_simp
   refine (HBO.out _ (HK4.out.new n0)).mono ?_
   rintro e w5 ⟨⟨cc, rfl, hc1, hc2, -⟩, k5⟩
   go_wp2_with fail
   have n1 := Keep.new n0 k5
   refine hK.out _ _ n1 ?_
   clear hK K
   try simp only [Act.put, ly1, ly2, ly3, ly4, ly5, ly6]
   refine take0 7 n1 ?_
   refine hold_step0 (i := 8) (by kernel_rfl) rfl rfl (fun K hK => ?_)
   go_simp
   try go_wp2_with fail
   have n2 := n1.alloc (.cells #[.int .i64 0, .int .u64 0, .slice none 0 0] 70)
   have hxz := heap_alloc_new w5 (.cells #[.int .i64 0, .int .u64 0, .slice none 0 0] 70)
   have hgz := Keep.size n1
   refine hK.out _ _ n2 ?_
   clear hK K
   try simp only [Act.put, ly1, ly2, ly3, ly4, ly5, ly6]
   generalize w5.alloc (.cells #[.int .i64 0, .int .u64 0, .slice none 0 0] 70) = wz at *
   generalize hge : w5.heap.size = gh at hxz ⊢
   obtain ⟨z0, z1, z2⟩ := fz3 hxz
   obtain ⟨d0, d1, d2⟩ := cs3 hxz
   refine hold_step0 (i := 9) (by kernel_rfl) rfl rfl (fun K hK => ?_)
   go_simp
   obtain ⟨hxf, kf⟩ := three_cells hxz (.int .i64 1) (.int .u64 nx) (.slice Ab n3 cc)
   have nf := ((Keep.of_new (D := fun b => b < w4.heap.size) n2).trans2 kf (fun b _ hb e => by omega)).toNew (fun b hb => hb)
   refine hK.out _ _ nf ?_
   clear hK K z0 z1 z2 d0 d1 d2
   try simp only [Act.put, ly1, ly2, ly3, ly4, ly5, ly6]
   generalize World.setCell _ _ _ = wf at *
   refine wpAnyH_done (by kernel_rfl) ?_ _
   go_wp2_with fail
   go_meet
   exact ⟨gh, cc, rfl, by omega, hxf, hc1, hc2, n3r.new nf⟩
  ·skip
   go_simp
   try go_wp2_with fail
   have n1 := n0.alloc (.cells #[.int .i64 0, .int .u64 0, .slice none 0 0] 70)
   have hxz := heap_alloc_new w4 (.cells #[.int .i64 0, .int .u64 0, .slice none 0 0] 70)
   have hgz := Keep.size n0
   refine hK.out _ _ n1 ?_
   clear hK K
   try simp only [Act.put, ly1, ly2, ly3, ly4, ly5, ly6]
   generalize w4.alloc (.cells #[.int .i64 0, .int .u64 0, .slice none 0 0] 70) = wz at *
   generalize hge : w4.heap.size = gh at hxz ⊢
   refine hold_step0 (i := 6) (by kernel_rfl) rfl rfl (fun K hK => ?_)
   go_simp
   refine (HBO.out _ (HK4.out.new n1)).mono ?_
   rintro e w5 ⟨⟨cc, rfl, hc1, hc2, -⟩, k5⟩
   go_wp2_with fail
   have n2 := Keep.new n1 k5
   refine hK.out _ _ n2 ?_
   clear hK K
   try simp only [Act.put, ly1, ly2, ly3, ly4, ly5, ly6]
   have hxz := k5.blockAt hxz trivial
   refine take0 7 n2 ?_
   obtain ⟨z0, z1, z2⟩ := fz3 hxz
   obtain ⟨d0, d1, d2⟩ := cs3 hxz
   refine hold_step0 (i := 9) (by kernel_rfl) rfl rfl (fun K hK => ?_)
   go_simp
   obtain ⟨hxf, kf⟩ := three_cells hxz (.int .i64 1) (.int .u64 nx) (.slice Ab n3 cc)
   have nf := ((Keep.of_new (D := fun b => b < w4.heap.size) n2).trans2 kf (fun b _ hb e => by omega)).toNew (fun b hb => hb)
   refine hK.out _ _ nf ?_
   clear hK K z0 z1 z2 d0 d1 d2
   try simp only [Act.put, ly1, ly2, ly3, ly4, ly5, ly6]
   generalize World.setCell _ _ _ = wf at *
   refine wpAnyH_done (by kernel_rfl) ?_ _
   go_wp2_with fail
   go_meet
   exact ⟨gh, cc, rfl, by omega, hxf, hc1, hc2, n3r.new nf⟩
 case rest =>
  obtain ⟨g5, cc, rfl, hg5, hx5, hc1, hc2, k5⟩ := hcut
  generalize wc = w5 at *
  have HK5 := Lib.hid (HX.out.2.new k5)
  have HX5 := Lib.hid (k5.blockAt HX.out.1 trivial)
  have hzw : w.heap.size < w1.heap.size := (Array.getElem?_eq_some_iff.1 HX.out.1).1
  clear HX k5 y12 HBO
  have xm := cellOf HX5.out (k := 2) rfl
  cases mk
  ·skip
   go_upto_region 6 with fail
   obtain ⟨r, hr⟩ : ∃ r, r = askRec false nx bs := ⟨_, rfl⟩
   have hrk : r.kind = 1 := by rw [hr]; rfl
   have hrs : r.seq = nx := by rw [hr]; rfl
   have hrb : r.body.length = n3 := by rw [hr]; exact hn3.out.symm
   have hrB : ∀ W, New w W → Bs W B Ab n3 r.body := fun W hW => by rw [hr]; have h1 := Bs.cutTo (HH.out.2.new hW) (hi := min 300 nb) (by omega); have h2 := take_min bs 300 (HH.out.2).len; have h3 := hn3.out; rw [List.length_take, (HH.out.2).len] at h3; rw [h2, ← h3] at h1; exact h1
   have hrc : n3 ≤ cc ∧ cc ≤ 9223372036854775807 ∧ n3 ≤ 1000000 := by have h3 := hn3.out; rw [List.length_take] at h3; omega
   have hrr : recRight r = true := by rw [hr]; exact ask_right (by omega)
   have HWT := Lib.hid (HH.out.1.new HK5.out)
   have HRB := Lib.hid hrB
   have HXR : Hid (w5.heap[g5]? = some (.cells #[.int .i64 r.kind, .int .u64 r.seq, .slice Ab n3 cc] 70 (0, 0))) := Lib.hid (by rw [hrk, hrs]; exact hx5)
   have HRR := Lib.hid (And.intro hrr (And.intro hrb hrs))
   have HAS : Hid (s.ask v.g nx false by' bs = if by'.tmod 7 = 1 then s else match s.append v.g r with | some s' => s' | none => s) := Lib.hid (by rw [hr]; rfl)
   generalize s.ask v.g nx false by' bs = sa at *
   replace hr := Lib.hid hr
   clear hrk hrs hrb hrB hrr
   have xb := cellOf HX5.out (k := 1) rfl
   have hg5l := (Array.getElem?_eq_some_iff.1 HXR.out).1
   by_cases b7 : by'.tmod 7 = 1
   ·skip
    have e7 : (by'.tmod 7 == 1) = true := by simpa using b7
    replace b7 := Lib.hid b7
    go_upto_region 7 with fail
    have c7 := fun W (hW : New w5 W) => (show W.cell? ⟨bw, 7, none⟩ = some (.pointer (some ⟨v.bl, 0, none⟩)) from (HWT.out.mid.doc.cells.new hW).cell rfl)
    have r0 : ∀ W, New w5 W → W.cell? ⟨g5, 0, none⟩ = some (.int .i64 r.kind) := fun W hW => cellOf (k := 0) (hW.blockAt HXR.out trivial) rfl
    have r1 : ∀ W, New w5 W → W.cell? ⟨g5, 1, none⟩ = some (.int .u64 r.seq) := fun W hW => cellOf (k := 1) (hW.blockAt HXR.out trivial) rfl
    have r2 : ∀ W, New w5 W → W.cell? ⟨g5, 2, none⟩ = some (.slice Ab n3 cc) := fun W hW => cellOf (k := 2) (hW.blockAt HXR.out trivial) rfl
    have hu : IntKind.u64.wrap (r.seq + 1) = r.seq + 1 := by rw [IntKind.wrap_u64, HRR.out.2.2]; omega
    have HLB := Lib.hid (fun W (hW : New w5 W) => lappend_bad (HWT.out.mid.on.new hW) ⟨r.kind, r.seq + 1, r.body⟩ Ab n3 cc HRR.out.2.1 hrc.2.2 (.inr (by show r.seq + 1 ≠ _; rw [HRR.out.2.2, hnx.out, HH.out.1.m]; show _ ≠ (logOf id21 s.segs).next + (s.waits.length : Int); simp only [refOf]; omega)))
    clear xb xm
    refine hold_begin (by kernel_rfl) ?_
    have n0 : New w5 w5.drew := (New.refl w5).drew
    replace c7 := fun W (hW : New w5.drew W) => c7 W (Keep.new n0 hW)
    replace r0 := fun W (hW : New w5.drew W) => r0 W (Keep.new n0 hW)
    replace r1 := fun W (hW : New w5.drew W) => r1 W (Keep.new n0 hW)
    replace r2 := fun W (hW : New w5.drew W) => r2 W (Keep.new n0 hW)
    refine take1 0 ?_
    refine take1 1 ?_
    refine take1 2 ?_
    refine take1 3 ?_
    refine take1 4 ?_
    refine take1 5 ?_
    refine take1 6 ?_
    refine take1 7 ?_
    refine take1 8 ?_
    refine take1 9 ?_
    refine take1 10 ?_
    refine take1 11 ?_
    refine hold_step (i := 12) (by kernel_rfl) rfl rfl (fun K hK => ?_)
    go_simp
    refine (HLB.out _ n0).mono ?_
    rintro e w6 ⟨rfl, k6⟩
    go_wp2_with fail
    refine hK.out _ _ k6 ?_
    clear hK K
    try simp only [Act.put, ly1, ly2, ly3, ly4, ly5, ly6]
    replace n0 := Keep.new n0 k6
    replace c7 := fun W (hW : New w6 W) => c7 W (Keep.new k6 hW)
    replace r0 := fun W (hW : New w6 W) => r0 W (Keep.new k6 hW)
    replace r1 := fun W (hW : New w6 W) => r1 W (Keep.new k6 hW)
    replace r2 := fun W (hW : New w6 W) => r2 W (Keep.new k6 hW)
    refine take1 13 ?_
    refine wpAnyH_done (by kernel_rfl) ?_ _
    have HSM := Lib.hid (HWT.out.new n0).same
    go_wp2_with fail
    refine HSM.out.mono ?_
    rintro e w7 ⟨rfl, k7⟩
    go_wp2_with fail
    go_ret
    unfold Do1RetE
    refine ⟨rfl, Keep.of_new ((HK5.out.new n0).new k7), v, D, DL, A, c, S, ?_, rfl, rfl, rfl, fun _ _ hf => hf, fun _ _ => ⟨.inl, id⟩⟩
    rw [HAS.out, if_pos b7.out]
    exact (HWT.out.new n0).new k7
   have e7 : (by'.tmod 7 == 1) = false := by simpa using b7
   replace b7 := Lib.hid b7
   have x9 : w5.cell? ⟨bw, 9, none⟩ = some (.int .i64 v.m.sealed) := HWT.out.mid.doc.cells.cell rfl
   go_upto_region 10 with fail
   clear x9 xb xm e7
   have hgw : w.heap.size ≤ g5 := by omega
   have kdr : New w5 w5.drew := (New.refl w5).drew
   refine hold_beginS (Keep (fun j => j ≠ bw) w5.drew) (by kernel_rfl) ?_
   have HWT := Lib.hid (HWT.out.new kdr)
   have HXR := Lib.hid (kdr.blockAt HXR.out trivial)
   have HKT := Lib.hid (HK5.out.new kdr)
   generalize w5.drew = wu at *
   have n0 : Keep (fun j => j ≠ bw) wu wu := Keep.refl _ _
   have r0 : ∀ W, Keep (fun j => j ≠ bw) wu W → W.cell? ⟨g5, 0, none⟩ = some (.int .i64 r.kind) := fun W hW => cellOf (k := 0) (hW.blockAt HXR.out (by omega)) rfl
   have r1 : ∀ W, Keep (fun j => j ≠ bw) wu W → W.cell? ⟨g5, 1, none⟩ = some (.int .u64 r.seq) := fun W hW => cellOf (k := 1) (hW.blockAt HXR.out (by omega)) rfl
   have r2 : ∀ W, Keep (fun j => j ≠ bw) wu W → W.cell? ⟨g5, 2, none⟩ = some (.slice Ab n3 cc) := fun W hW => cellOf (k := 2) (hW.blockAt HXR.out (by omega)) rfl
   refine take0 0 n0 ?_
   refine take0 1 n0 ?_
   refine take0 2 n0 ?_
   refine take0 3 n0 ?_
   clear r0 r1 r2 kdr
   have HSZ := Lib.hid (size16_any r.kind r.seq Ab n3 cc r wu rfl rfl HRR.out.2.1 (by omega))
   have hrz : (recSize r : Int) ≤ 1000 := by unfold recSize; rw [if_pos HRR.out.1]; have h1 := recRight_def r; rw [HRR.out.1] at h1; have h2 := of_decide_eq_true h1.symm; omega
   have HRA := Lib.hid (fun W (hW : New wu W) => rappend_any (HWT.out.mid.doc.cells.new hW) (by rw [HH.out.1.m]; exact small_of HH.out.1.st) (recSize r) (by omega) hrz)
   have hap := ref_append HH.out.1.st HRR.out.1
   rw [← HH.out.1.m] at hap
   generalize v.m.append (recSize r : Int) = ap at *
   generalize recSize r = rz at *
   replace hap := Lib.hid hap
   clear hrz
   refine hold_step0 (i := 4) (by kernel_rfl) rfl rfl (fun K hK => ?_)
   go_simp
   refine HSZ.out.mono ?_
   rintro e w7 ⟨rfl, k7⟩
   go_wp2_with fail
   have n1 := Keep.new n0 k7
   refine hK.out _ _ n1 ?_
   clear hK K
   try simp only [Act.put, ly1, ly2, ly3, ly4, ly5, ly6]
   have HRA1 := Lib.hid (HRA.out _ k7)
   refine hold_step0 (i := 5) (by kernel_rfl) rfl rfl (fun K hK => ?_)
   go_simp
   refine HRA1.out.mono ?_
   rintro e w8 ⟨rfl, k8, hc8⟩
   go_wp2_with fail
   have n2 := n1.trans k8
   refine hK.out _ _ n2 ?_
   clear hK K
   try simp only [Act.put, ly1, ly2, ly3, ly4, ly5, ly6]
   refine take0 6 n2 ?_
   refine wpAnyH_done (by kernel_rfl) ?_ _
   have M8 := Lib.hid ((HWT.out.mid.new k7).setm k8 hc8)
   have HX8 := Lib.hid (n2.blockAt HXR.out (by omega))
   have HB8 := Lib.hid ((Keep.of_new (D := E) HKT.out).trans2 n2 (fun b _ hb e => (HE.out b hb).2.1 e))
   have hz8 := (HKT.out.size)
   have hz9 := n2.size
   clear n0 n1 n2 k7 k8 hc8 HRA HRA1 HSZ HWT HXR HKT
   go_upto_region 11 with fail
   have M8n := Lib.hid (M8.out.new (New.refl w8).drew)
   have HX8 := Lib.hid (((New.refl w8).drew).blockAt HX8.out trivial)
   have HB8 := Lib.hid (HB8.out.new (New.refl w8).drew)
   have hz10 : w.heap.size ≤ w8.drew.heap.size := by show w.heap.size ≤ w8.heap.size; omega
   refine hold_beginS (Keep (fun j => j ≠ v.bl ∧ DiskOf q j ∧ some j ≠ blk A) w8.drew) (by kernel_rfl) ?_
   generalize w8.drew = w9 at *
   clear M8
   have n0 : Keep (fun j => j ≠ v.bl ∧ DiskOf q j ∧ some j ≠ blk A) w9 w9 := Keep.refl _ _
   have hgA : g5 ≠ v.bl ∧ DiskOf q g5 ∧ some g5 ≠ blk A := ⟨by have := HH.out.1.mid.on.log.lt; omega, HH.out.1.mid.on.disk.beyond g5 hgw, fun e => by have := (HH.out.1.mid.on.log.rowLt g5 e.symm).2; omega⟩
   have hap2 := HH.out.1.mid.apart
   have r7 : ∀ W, Keep (fun j => j ≠ v.bl ∧ DiskOf q j ∧ some j ≠ blk A) w9 W → W.cell? ⟨bw, 7, none⟩ = some (.pointer (some ⟨v.bl, 0, none⟩)) := fun W hW => ((M8n.out.doc.cells.keep hW ⟨hap2.wl, hap2.wd, fun e => hap2.wA e.symm⟩).cell rfl)
   have r0 : ∀ W, Keep (fun j => j ≠ v.bl ∧ DiskOf q j ∧ some j ≠ blk A) w9 W → W.cell? ⟨g5, 0, none⟩ = some (.int .i64 r.kind) := fun W hW => cellOf (k := 0) (hW.blockAt HX8.out hgA) rfl
   have r1 : ∀ W, Keep (fun j => j ≠ v.bl ∧ DiskOf q j ∧ some j ≠ blk A) w9 W → W.cell? ⟨g5, 1, none⟩ = some (.int .u64 r.seq) := fun W hW => cellOf (k := 1) (hW.blockAt HX8.out hgA) rfl
   have r2 : ∀ W, Keep (fun j => j ≠ v.bl ∧ DiskOf q j ∧ some j ≠ blk A) w9 W → W.cell? ⟨g5, 2, none⟩ = some (.slice Ab n3 cc) := fun W hW => cellOf (k := 2) (hW.blockAt HX8.out hgA) rfl
   refine take0 0 n0 ?_
   refine take0 1 n0 ?_
   refine take0 2 n0 ?_
   refine take0 3 n0 ?_
   refine take0 4 n0 ?_
   refine take0 5 n0 ?_
   refine take0 6 n0 ?_
   refine take0 7 n0 ?_
   refine take0 8 n0 ?_
   refine take0 9 n0 ?_
   refine take0 10 n0 ?_
   clear r0 r1 r2 r7 hap2
   have HLA := Lib.hid (lappend_any M8n.out.on r Ab n3 cc HRR.out.2.1 (D2 := B) (by have h1 := HRB.out w (New.refl w); exact h1.keep HB8.out (fun b _ hb => hBE b hb)) hrc.1 hrc.2.1 (fun j hj => by obtain ⟨_, _, e2, e3, e4, _⟩ := HE.out j (hBE j hj); exact ⟨e2, e3, e4⟩) M8n.out.size HRR.out.1 (by have := HRR.out.2.2; omega) (by rw [HRR.out.2.2, hnx.out, HH.out.1.m]; rfl) HH.out.1.st.right HH.out.1.st.bytes (fun hne => HH.out.1.st.seg hne))
   refine hold_step0 (i := 11) (by kernel_rfl) rfl rfl (fun K hK => ?_)
   go_simp
   refine HLA.out.mono ?_
   rintro e wa ⟨rfl, ka, A8, c8, hl8, hA8⟩
   go_wp2_with fail
   have n1 := n0.trans (ka.imp fun j _ hj => hj)
   refine hK.out _ _ n1 ?_
   clear hK K
   try simp only [Act.put, ly1, ly2, ly3, ly4, ly5, ly6]
   refine take0 12 n1 ?_
   refine wpAnyH_done (by kernel_rfl) ?_ _
   have MA0 := M8n.out.log ka hl8 (fun b hb => hb) hA8
   have HD0 : Hid (∀ b, b < w.heap.size → ((D b ∧ b < w9.heap.size) → D b) ∧ ((DL b ∨ w9.heap.size ≤ b) → DL b)) := Lib.hid (fun b hb => ⟨fun h => h.1, fun h => h.elim id (fun h => by omega)⟩)
   obtain ⟨DA, hDA⟩ : ∃ DA : Nat → Prop, DA = fun b => D b ∧ b < w9.heap.size := ⟨_, rfl⟩
   obtain ⟨DLA, hDLA⟩ : ∃ DLA : Nat → Prop, DLA = fun b => DL b ∨ w9.heap.size ≤ b := ⟨_, rfl⟩
   rw [← hDA, ← hDLA] at MA0
   have HDA : Hid (∀ b, b < w.heap.size → (DA b → D b) ∧ (DLA b → DL b)) := Lib.hid (by rw [hDA, hDLA]; exact HD0.out)
   have MA := Lib.hid MA0
   clear MA0 hDA hDLA HD0
   have HXA := Lib.hid (ka.blockAt HX8.out hgA)
   have HBA := Lib.hid (HB8.out.trans (ka.imp fun j _ hj => by obtain ⟨_, _, e2, e3, e4, _⟩ := HE.out j hj; exact ⟨e2, e3, e4⟩))
   have HF8 : Hid (∀ b, E b → some b ≠ blk A8) := Lib.hid (fun b hb e => by rcases hA8 with h1 | h1; exact (HE.out b hb).2.2.2.2.1 (e.trans h1); (have h2 := h1 b e.symm; have h3 := (HE.out b hb).1; omega))
   have hza := ka.size
   clear n0 n1 ka hl8 hA8 HLA M8n HX8 HB8 hgA
   have hco := code_append HH.out.1.st r
   cases he : s.append v.g r with
   | none =>
    rw [he] at hco
    have hco : (lvOf v s).code r = 15 := hco
    have hapn : ap = (false, v.m) := by have h1 := hap.out; rw [he] at h1; exact h1
    have hsa : sa = s := by rw [HAS.out, if_neg b7.out, he]
    have hlv : (lvOf v s).append r = lvOf v s ∧ (lvOf v s).adisk r S = S := by unfold LogV.append LogV.adisk; rw [if_pos hco, if_pos hco]; exact ⟨rfl, rfl⟩
    rw [hco]
    subst hapn
    rw [hlv.1, hlv.2] at MA
    have hfin : WAt J wa _ _ base bw q { v with m := v.m } s A8 c8 S := ⟨MA.out, HH.out.1.st, HH.out.1.m, HH.out.1.laid⟩
    have HSM := Lib.hid hfin.same
    have HF := Lib.hid hfin
    have HSA := Lib.hid hsa
    clear hfin hsa hlv hco he MA
    go_wp2_with fail
    refine HSM.out.mono ?_
    rintro e wb ⟨rfl, kb⟩
    go_wp2_with fail
    go_ret
    unfold Do1RetE
    rw [HSA.out]
    exact ⟨rfl, HBA.out.new kb, _, _, _, A8, c8, S, HF.out.new kb, rfl, rfl, rfl, fun b hb hf => by have h1 := HF8.out b (HED.out b hb hf); obtain ⟨f1, f2, f3, f4, f5⟩ := hf; exact ⟨f1, f2, f3, h1, f5⟩, fun b hb => ⟨fun h => .inl ((HDA.out b hb).1 h), (HDA.out b hb).2⟩⟩
   | some s' =>
    rw [he] at hco
    have hco : (lvOf v s).code r = 0 := hco
    have hapn : ap = (true, refOf id21 v.g s') := by have h1 := hap.out; rw [he] at h1; exact h1
    have hsa : sa = s' := by rw [HAS.out, if_neg b7.out, he]
    have hlv := lv_append HH.out.1.st HRR.out.1 he
    have hdk := HH.out.1.laid.imp id fun hl => disk_append HH.out.1.st HRR.out.1 he hl HH.out.1.fit
    have hst' : LogSt id21 v.g s' := HH.out.1.st.appended HRR.out.1 (by rw [HRR.out.2.2, hnx.out, HH.out.1.m]; rfl) (by rw [HRR.out.2.2]; omega) he
    rw [hco]
    subst hapn
    rw [hlv] at MA
    generalize (lvOf v s).adisk r S = S8 at *
    have HFS := Lib.hid (And.intro hsa (And.intro hst' hdk))
    clear hsa hst' hdk hlv hco
    have hcase : (s' = ⟨s.segs, s.waits ++ [r]⟩) ∨ (s' = ⟨s.shut.segs, s.shut.waits ++ [r]⟩ ∧ s.shut.segs.length = s.segs.length + 1) := by
     unfold LogS.append at he
     split at he
     ·cases he
     ·split at he
      ·injection he with he; exact .inl he.symm
      ·rename_i h2
       split at he
       ·cases he
       ·injection he with he
        have hw := wait_some HH.out.1.st HRR.out.1 h2
        refine .inr ⟨?_, ?_⟩
        ·unfold LogS.shut; rw [if_neg hw]; exact he.symm
        ·unfold LogS.shut; rw [if_neg hw]; simp
    have c9 : wa.cell? ⟨bw, 9, none⟩ = some (.int .i64 s'.segs.length) := MA.out.doc.cells.cell rfl
    have hvs : v.m.sealed = (s.segs.length : Int) := by rw [HH.out.1.m]; rfl
    rw [hvs]
    replace hvs := Lib.hid hvs
    clear he
    rcases hcase with hsq | ⟨hsq, hsl⟩
    ·skip
     have hll : (s'.segs.length : Int) = (s.segs.length : Int) := by rw [hsq]
     rw [hll] at c9
     replace hll := Lib.hid hll
     have HSQ := Lib.hid hsq
     clear hsq
     obtain ⟨V, hV⟩ : ∃ V : W21V, V = { v with m := refOf id21 v.g s' } := ⟨_, rfl⟩
     have HDV := HDA
     have MB : Hid (Mid wa DA DLA base bw q V s (lvOf v s') A8 c8 S8) := Lib.hid (by rw [hV]; exact MA.out)
     have HKP : Hid (V.bl = v.bl ∧ V.k = v.k ∧ V.p = v.p ∧ V.g = v.g ∧ V.m = refOf id21 v.g s') := Lib.hid (by rw [hV]; exact ⟨rfl, rfl, rfl, rfl, rfl⟩)
     have HEV : Hid (∀ b, E b → FarOf bw q V A8 b) := Lib.hid (fun b hb => by obtain ⟨_, e1, e2, e3, _, e5⟩ := HE.out b hb; rw [hV]; exact ⟨e1, e2, e3, HF8.out b hb, e5⟩)
     have hVA : V.Aw = v.Aw := by rw [hV]
     replace hV := Lib.hid hV
     replace hVA := Lib.hid hVA
     clear MA
     have e15 : decide ((s.segs.length : Int) < (s.segs.length : Int)) = false := decide_eq_false (by omega)
     go_upto_region 17 with fail
     have kdr : New wa wa.drew := (New.refl wa).drew
     have M0 := Lib.hid ((MB.out.withFar (E := B) (fun b hb => HEV.out b (hBE b hb))).new kdr)
     have HXB := Lib.hid (kdr.blockAt HXA.out trivial)
     have HB0 := Lib.hid (HBA.out.new kdr)
     have hzq : w.heap.size ≤ wa.drew.heap.size := by show w.heap.size ≤ wa.heap.size; omega
     refine holdW_begin [7, 10] (Keep (fun j => j ≠ bw ∧ some j ≠ blk V.Aw) wa.drew) (New wa.drew) (by kernel_rfl) ?_
     generalize wa.drew = wq at *
     clear kdr
     have s0 : Keep (fun j => j ≠ bw ∧ some j ≠ blk V.Aw) wq wq := Keep.refl _ _
     have t0 : New wq wq := New.refl _
     have hgg : g5 ≠ bw ∧ some g5 ≠ blk V.Aw := ⟨by omega, fun e => by rw [hVA.out] at e; have := (HH.out.1.mid.doc.waits.lt g5 e.symm).2; omega⟩
     have r0 : ∀ W, Keep (fun j => j ≠ bw ∧ some j ≠ blk V.Aw) wq W → W.cell? ⟨g5, 0, none⟩ = some (.int .i64 r.kind) := fun W hW => cellOf (k := 0) (hW.blockAt HXB.out hgg) rfl
     have r1 : ∀ W, Keep (fun j => j ≠ bw ∧ some j ≠ blk V.Aw) wq W → W.cell? ⟨g5, 1, none⟩ = some (.int .u64 r.seq) := fun W hW => cellOf (k := 1) (hW.blockAt HXB.out hgg) rfl
     have r2 : ∀ W, Keep (fun j => j ≠ bw ∧ some j ≠ blk V.Aw) wq W → W.cell? ⟨g5, 2, none⟩ = some (.slice Ab n3 cc) := fun W hW => cellOf (k := 2) (hW.blockAt HXB.out hgg) rfl
     have r13 : ∀ W, New wq W → W.cell? ⟨bw, 13, none⟩ = some (.slice V.Aw V.nw V.cw) := fun W hW => (M0.out.doc.cells.new hW).cell rfl
     refine holdW_read (i := 0) (v := ?_) ⟨s0, fun _ => t0⟩ rfl (by kernel_rfl) (by kernel_rfl) (by kernel_rfl) rfl (fun _ _ _ h => h) rfl ?_ ?_
     rotate_left
     ·intro w' hN
      go_simp
      try with_reducible rfl
     simp only [Act.put, ly1]
     refine holdW_read (i := 1) (v := ?_) ⟨s0, fun _ => t0⟩ rfl (by kernel_rfl) (by kernel_rfl) (by kernel_rfl) rfl (fun _ _ _ h => h) rfl ?_ ?_
     rotate_left
     ·intro w' hN
      go_simp
      try with_reducible rfl
     simp only [Act.put, ly1, ly2, ly3, ly4, ly5, ly6]
     refine holdW_read (i := 2) (v := ?_) ⟨s0, fun _ => t0⟩ rfl (by kernel_rfl) (by kernel_rfl) (by kernel_rfl) rfl (fun _ _ _ h => h) rfl ?_ ?_
     rotate_left
     ·intro w' hN
      go_simp
      try with_reducible rfl
     simp only [Act.put, ly1, ly2, ly3, ly4, ly5, ly6]
     refine holdW_read (i := 3) (v := ?_) ⟨s0, fun _ => t0⟩ rfl (by kernel_rfl) (by kernel_rfl) (by kernel_rfl) rfl (fun _ _ _ h => h) rfl ?_ ?_
     rotate_left
     ·intro w' hN
      go_simp
      try with_reducible rfl
     simp only [Act.put, ly1, ly2, ly3, ly4, ly5, ly6]
     refine holdW_readT (i := 4) (v := ?_) ⟨s0, fun _ => t0⟩ rfl (by kernel_rfl) (by kernel_rfl) (by kernel_rfl) (by kernel_rfl) (by kernel_rfl) (fun _ _ _ h => h) rfl ?_ ?_
     rotate_left
     ·intro w' hN
      go_simp
      try with_reducible rfl
     simp only [Act.put, ly1, ly2, ly3, ly4, ly5, ly6]
     refine holdW_read (i := 5) (v := ?_) ⟨s0, fun _ => t0⟩ rfl (by kernel_rfl) (by kernel_rfl) (by kernel_rfl) rfl (fun _ _ _ h => h) rfl ?_ ?_
     rotate_left
     ·intro w' hN
      go_simp
      try with_reducible rfl
     simp only [Act.put, ly1, ly2, ly3, ly4, ly5, ly6]
     clear r0 r1 r2 r13 hgg
     refine holdW_step (i := 6) (by kernel_rfl) rfl rfl (fun K hK => ?_)
     go_simp
     try go_wp2_with fail
     have kA : New wq (wq.alloc (.cells #[.int .i64 r.kind, .int .u64 r.seq, .slice Ab n3 cc] 70)) := (New.refl wq).alloc _
     have hrw := (Row.made wq 70 #[.int .i64 r.kind, .int .u64 r.seq, .slice Ab n3 cc] 1 3 rfl).imp (E := fun _ => True) fun _ _ _ => trivial
     refine hK.out _ _ ⟨s0.new kA, fun _ => kA⟩ ?_
     clear hK K
     try simp only [Act.put, ly1, ly2, ly3, ly4, ly5, ly6]
     generalize wq.alloc (.cells #[.int .i64 r.kind, .int .u64 r.seq, .slice Ab n3 cc] 70) = wr1 at *
     refine holdW_step (i := 7) (by kernel_rfl) rfl rfl (fun K hK => ?_)
     obtain ⟨q0, hq0, hqz, hqs, hqb⟩ := info_parts info_refrec
     have hnw62 : V.nw ≤ 62 := by have hwl := wait_many HH.out.1.st.right; have hwb := HH.out.1.st.bytes; have hnwv := M0.out.doc.nw; rw [hnwv]; omega
     have hwq := (M0.out.doc.waits.imp (fun b hb hd => And.intro hd hb)).new kA
     refine wp_sl (E := recElt) _ _ _ 37 70 rfl q0 (.agg #[.int .i64 0, .int .u64 0, .slice none 0 0]) 40 Tryz.underlying37 hq0 hqz hqs hqb rfl base _ V.Aw V.nw V.cw s.waits rfl hwq (fun _ => True) (some ⟨wq.heap.size, 0, none⟩) 1 [.int .i64 r.kind, .int .u64 r.seq, .slice Ab n3 cc] r rfl hrw ⟨Ab, cc, rfl, rfl, by rw [HRR.out.2.1]; rfl, by rw [HRR.out.2.1]; exact hrc.1, by rw [HRR.out.2.1]; exact (((HRB.out w (New.refl w)).keep HB0.out (fun b _ hb => hBE b hb)).new kA).imp (fun b _ hb => ⟨⟨.inr hb, by have := (HE.out b (hBE b hb)).1; omega⟩, (HEV.out b (hBE b hb)).2.2.2.2.1⟩), by rw [HRR.out.2.2]; exact hn0, by rw [HRR.out.2.2]; omega, by rw [HRR.out.2.1]; omega, hrc.2.1⟩ (by omega) (by omega) (by have := M0.out.size; have := kA.size; omega) ?_
     intro A9 c9 wr2 o9 hg9 hbk9
     have kB : Keep (fun j => some j ≠ blk V.Aw) wr1 wr2 := Keep.grown (Keep.refl _ _) hg9 (fun j hj hd => absurd hj.symm hd)
     have s7 : Keep (fun j => j ≠ bw ∧ some j ≠ blk V.Aw) wq wr2 := (s0.new kA).trans2 kB (fun b _ hb => hb.2)
     refine hK.out _ _ ⟨s7, fun h => absurd h (by decide)⟩ ?_
     clear hK K
     try simp only [Act.put, ly1, ly2, ly3, ly4, ly5, ly6]
     refine holdW_read (i := 8) (v := ?_) ⟨s7, fun h => absurd h (by decide)⟩ rfl (by kernel_rfl) (by kernel_rfl) (by kernel_rfl) rfl (fun _ _ _ h => h) rfl ?_ ?_
     rotate_left
     ·intro w' hN
      go_simp
      try with_reducible rfl
     simp only [Act.put, ly1, ly2, ly3, ly4, ly5, ly6]
     refine holdW_read (i := 9) (v := ?_) ⟨s7, fun h => absurd h (by decide)⟩ rfl (by kernel_rfl) (by kernel_rfl) (by kernel_rfl) rfl (fun _ _ _ h => h) rfl ?_ ?_
     rotate_left
     ·intro w' hN
      go_simp
      try with_reducible rfl
     simp only [Act.put, ly1, ly2, ly3, ly4, ly5, ly6]
     have hcB := (M0.out.doc.cells.new kA).keep kB (fun e => M0.out.doc.no.1 e.symm)
     have d13 : wr2.cell? ⟨bw, 13, none⟩ = some (.slice V.Aw V.nw V.cw) := hcB.cell rfl
     have f13 := hcB.free 13
     refine holdW_step (i := 10) (by kernel_rfl) rfl rfl (fun K hK => ?_)
     go_simp
     have hcC : W21At (wr2.setCell ⟨bw, 13, none⟩ (.slice A9 (V.nw + 1) c9)) bw { V with Aw := A9, nw := V.nw + 1, cw := c9 } := hcB.set 13 _ rfl
     have kS := keep_cell wr2 bw 13 (.slice A9 (V.nw + 1) c9)
     have s8 := s7.trans2 kS (fun b _ hb => hb.1)
     refine hK.out _ _ ⟨s8, fun h => absurd h (by decide)⟩ ?_
     clear hK K d13 f13 hcB
     try simp only [Act.put, ly1, ly2, ly3, ly4, ly5, ly6]
     generalize wr2.setCell _ _ = wr3 at *
     refine wpAnyW_done (by kernel_rfl) ?_ _
     have HS8 := Lib.hid (s8.imp fun b _ hb => (show b ≠ bw ∧ some b ≠ blk V.Aw from ⟨(HEV.out b hb).1, (HEV.out b hb).2.2.2.2.1⟩))
     have HA9 : Hid (∀ b, E b → some b ≠ blk A9) := Lib.hid (fun b hb => far_row (n := w.heap.size) (fun k hk => hbk9.elim (fun e => .inl (e ▸ hk)) (fun e => .inr (by rw [e] at hk; injection hk with hk; have h1 := kA.size; omega))) (HEV.out b hb).2.2.2.2.1 (HE.out b hb).1)
     obtain ⟨hkb, D9, DL9, M9, hd9, hdl9⟩ := M0.out.wait kA s8 kS hcC o9 hbk9
     have HD9 : Hid (∀ b, b < w.heap.size → (D9 b → D b ∨ B b) ∧ (DL9 b → DL b)) := Lib.hid (fun b hb => ⟨fun h => (hd9 b h).elim (fun h => .inl ((HDV.out b hb).1 h)) .inr, fun h => (HDV.out b hb).2 (hdl9 b h)⟩)
     clear hd9 hdl9
     clear s0 t0 hwq hrw o9 hg9 hbk9 kB s7 hcC kS s8 kA hnw62 hq0 hqz hqs hqb
     have hfin : WAt J wr3 D9 DL9 base bw q { V with Aw := A9, nw := V.nw + 1, cw := c9 } s' A8 c8 S8 := by
      obtain ⟨e1, e2, e3, e4, e5⟩ := HKP.out
      refine ⟨?_, by show LogSt id21 V.g s'; rw [e4]; exact HFS.out.2.1, by show V.m = refOf id21 V.g s'; rw [e5, e4], by show J ∨ LaidOn S8 V.p V.g _; rw [e3, e4]; exact HFS.out.2.2⟩
      rw [show lvOf { V with Aw := A9, nw := V.nw + 1, cw := c9 } s' = lvOf v s' from by unfold lvOf; rw [e2, e3, e4]]
      have h9 := M9
      rw [← HSQ.out] at h9
      exact h9
     have HSM := Lib.hid hfin.same
     have HF := Lib.hid hfin
     have HBZ := Lib.hid (HB0.out.trans HS8.out)
     clear hfin M9 hkb HB0
     go_wp2_with fail
     refine HSM.out.mono ?_
     rintro e wz ⟨rfl, kz⟩
     go_wp2_with fail
     go_ret
     unfold Do1RetE
     rw [HFS.out.1]
     exact ⟨rfl, HBZ.out.new kz, _, D9, DL9, A8, c8, S8, HF.out.new kz, HKP.out.2.1, HKP.out.2.2.1, HKP.out.2.2.2.1, fun b hb hf => by have h1 := HEV.out b (HED.out b hb hf); have h2 := HA9.out b (HED.out b hb hf); obtain ⟨f1, f2, f3, f4, f5, f6⟩ := h1; exact ⟨f1, f2, f3, f4, h2, f6⟩, HD9.out⟩
    ·skip
     have hll : (s'.segs.length : Int) = (s.segs.length : Int) + 1 := by rw [hsq]; show (s.shut.segs.length : Int) = _; omega
     rw [hll] at c9
     have HSQ := Lib.hid hsq
     clear hsq hsl
     replace hll := Lib.hid hll
     have e15 : decide ((s.segs.length : Int) < (s.segs.length : Int) + 1) = true := decide_eq_true (by omega)
     have HWS := Lib.hid (mid_seal MA.out (show LogSt id21 v.g s from HH.out.1.st))
     have hza2 := MA.out.doc.waits.lt
     clear MA
     go_wp2_with fail
     refine HWS.out.mono ?_
     rintro e ws ⟨rfl, hbs, hks, V, DV, DLV, mV, ⟨q1, q2, q3, q4, q5⟩, hVw, hdV⟩
     have HDV : Hid (∀ b, b < w.heap.size → (DV b → D b) ∧ (DLV b → DL b)) := Lib.hid (fun b hb => ⟨fun h => (HDA.out b hb).1 ((hdV b (by omega)).1 h), fun h => (HDA.out b hb).2 ((hdV b (by omega)).2 h)⟩)
     have HKP : Hid (V.bl = v.bl ∧ V.k = v.k ∧ V.p = v.p ∧ V.g = v.g ∧ V.m = refOf id21 v.g s') := Lib.hid ⟨q1, q2, q3, q4, q5⟩
     have MB := Lib.hid mV
     have HBS := Lib.hid (HBA.out.trans (hks.imp fun b _ hb => by obtain ⟨_, e1, e2, e3, e4, e5, e6, e7, e8⟩ := HE.out b hb; exact ⟨e1, e6, e7, e8⟩))
     have HEV : Hid (∀ b, E b → FarOf bw q V A8 b) := Lib.hid (fun b hb => by obtain ⟨e0, e1, e2, e3, e4, e5, e6, e7, e8⟩ := HE.out b hb; have hor : ∀ {B B2 : Option Addr}, (∀ k, blk B2 = some k → blk B = some k ∨ wa.heap.size ≤ k) → some b ≠ blk B → some b ≠ blk B2 := (fun ho hn e => (ho b e.symm).elim (fun h1 => hn h1.symm) (fun h1 => by omega)); exact ⟨e1, by rw [q1]; exact e2, e3, HF8.out b hb, hor hVw.1 e5, hor hVw.2.1 e6, hor hVw.2.2.1 e7, hor hVw.2.2.2 e8⟩)
     have hVg : some g5 ≠ blk V.Aw := fun e => by rcases hVw.1 g5 e.symm with h1 | h1; exact (by have h2 := (HH.out.1.mid.doc.waits.lt g5 h1).2; omega); (have h3 := (Array.getElem?_eq_some_iff.1 HXA.out).1; omega)
     have HXS := Lib.hid (hks.blockAt HXA.out ⟨by omega, fun e => by have := (HH.out.1.mid.doc.heads.lt g5 e.symm).2; omega, fun e => by have := (HH.out.1.mid.doc.all.lt g5 e.symm).2; omega, fun e => by have := (HH.out.1.mid.doc.image.lt g5 e.symm).2; omega⟩)
     have hzs := hks.size
     have HVG := Lib.hid hVg
     clear hbs hks mV q1 q2 q3 q4 q5 hVw hdV hVg HWS HXA HBA hza2
     go_upto_region 17 with fail
     have kdr : New ws ws.drew := (New.refl ws).drew
     have M0 := Lib.hid ((MB.out.withFar (E := B) (fun b hb => HEV.out b (hBE b hb))).new kdr)
     have HXB := Lib.hid (kdr.blockAt HXS.out trivial)
     have HB0 := Lib.hid (HBS.out.new kdr)
     have hzq : w.heap.size ≤ ws.drew.heap.size := by show w.heap.size ≤ ws.heap.size; omega
     refine holdW_begin [7, 10] (Keep (fun j => j ≠ bw ∧ some j ≠ blk V.Aw) ws.drew) (New ws.drew) (by kernel_rfl) ?_
     generalize ws.drew = wq at *
     clear kdr
     have s0 : Keep (fun j => j ≠ bw ∧ some j ≠ blk V.Aw) wq wq := Keep.refl _ _
     have t0 : New wq wq := New.refl _
     have hgg : g5 ≠ bw ∧ some g5 ≠ blk V.Aw := ⟨by omega, HVG.out⟩
     have r0 : ∀ W, Keep (fun j => j ≠ bw ∧ some j ≠ blk V.Aw) wq W → W.cell? ⟨g5, 0, none⟩ = some (.int .i64 r.kind) := fun W hW => cellOf (k := 0) (hW.blockAt HXB.out hgg) rfl
     have r1 : ∀ W, Keep (fun j => j ≠ bw ∧ some j ≠ blk V.Aw) wq W → W.cell? ⟨g5, 1, none⟩ = some (.int .u64 r.seq) := fun W hW => cellOf (k := 1) (hW.blockAt HXB.out hgg) rfl
     have r2 : ∀ W, Keep (fun j => j ≠ bw ∧ some j ≠ blk V.Aw) wq W → W.cell? ⟨g5, 2, none⟩ = some (.slice Ab n3 cc) := fun W hW => cellOf (k := 2) (hW.blockAt HXB.out hgg) rfl
     have r13 : ∀ W, New wq W → W.cell? ⟨bw, 13, none⟩ = some (.slice V.Aw V.nw V.cw) := fun W hW => (M0.out.doc.cells.new hW).cell rfl
     refine holdW_read (i := 0) (v := ?_) ⟨s0, fun _ => t0⟩ rfl (by kernel_rfl) (by kernel_rfl) (by kernel_rfl) rfl (fun _ _ _ h => h) rfl ?_ ?_
     rotate_left
     ·intro w' hN
      go_simp
      try with_reducible rfl
     simp only [Act.put, ly1]
     refine holdW_read (i := 1) (v := ?_) ⟨s0, fun _ => t0⟩ rfl (by kernel_rfl) (by kernel_rfl) (by kernel_rfl) rfl (fun _ _ _ h => h) rfl ?_ ?_
     rotate_left
     ·intro w' hN
      go_simp
      try with_reducible rfl
     simp only [Act.put, ly1, ly2, ly3, ly4, ly5, ly6]
     refine holdW_read (i := 2) (v := ?_) ⟨s0, fun _ => t0⟩ rfl (by kernel_rfl) (by kernel_rfl) (by kernel_rfl) rfl (fun _ _ _ h => h) rfl ?_ ?_
     rotate_left
     ·intro w' hN
      go_simp
      try with_reducible rfl
     simp only [Act.put, ly1, ly2, ly3, ly4, ly5, ly6]
     refine holdW_read (i := 3) (v := ?_) ⟨s0, fun _ => t0⟩ rfl (by kernel_rfl) (by kernel_rfl) (by kernel_rfl) rfl (fun _ _ _ h => h) rfl ?_ ?_
     rotate_left
     ·intro w' hN
      go_simp
      try with_reducible rfl
     simp only [Act.put, ly1, ly2, ly3, ly4, ly5, ly6]
     refine holdW_readT (i := 4) (v := ?_) ⟨s0, fun _ => t0⟩ rfl (by kernel_rfl) (by kernel_rfl) (by kernel_rfl) (by kernel_rfl) (by kernel_rfl) (fun _ _ _ h => h) rfl ?_ ?_
     rotate_left
     ·intro w' hN
      go_simp
      try with_reducible rfl
     simp only [Act.put, ly1, ly2, ly3, ly4, ly5, ly6]
     refine holdW_read (i := 5) (v := ?_) ⟨s0, fun _ => t0⟩ rfl (by kernel_rfl) (by kernel_rfl) (by kernel_rfl) rfl (fun _ _ _ h => h) rfl ?_ ?_
     rotate_left
     ·intro w' hN
      go_simp
      try with_reducible rfl
     simp only [Act.put, ly1, ly2, ly3, ly4, ly5, ly6]
     clear r0 r1 r2 r13 hgg
     refine holdW_step (i := 6) (by kernel_rfl) rfl rfl (fun K hK => ?_)
     go_simp
     try go_wp2_with fail
     have kA : New wq (wq.alloc (.cells #[.int .i64 r.kind, .int .u64 r.seq, .slice Ab n3 cc] 70)) := (New.refl wq).alloc _
     have hrw := (Row.made wq 70 #[.int .i64 r.kind, .int .u64 r.seq, .slice Ab n3 cc] 1 3 rfl).imp (E := fun _ => True) fun _ _ _ => trivial
     refine hK.out _ _ ⟨s0.new kA, fun _ => kA⟩ ?_
     clear hK K
     try simp only [Act.put, ly1, ly2, ly3, ly4, ly5, ly6]
     generalize wq.alloc (.cells #[.int .i64 r.kind, .int .u64 r.seq, .slice Ab n3 cc] 70) = wr1 at *
     refine holdW_step (i := 7) (by kernel_rfl) rfl rfl (fun K hK => ?_)
     obtain ⟨q0, hq0, hqz, hqs, hqb⟩ := info_parts info_refrec
     have hnw62 : V.nw ≤ 62 := by have hwl := wait_many HH.out.1.st.right; have hwb := HH.out.1.st.bytes; have hnwv := M0.out.doc.nw; rw [hnwv]; unfold LogS.shut; split <;> simp <;> omega
     have hwq := (M0.out.doc.waits.imp (fun b hb hd => And.intro hd hb)).new kA
     refine wp_sl (E := recElt) _ _ _ 37 70 rfl q0 (.agg #[.int .i64 0, .int .u64 0, .slice none 0 0]) 40 Tryz.underlying37 hq0 hqz hqs hqb rfl base _ V.Aw V.nw V.cw s.shut.waits rfl hwq (fun _ => True) (some ⟨wq.heap.size, 0, none⟩) 1 [.int .i64 r.kind, .int .u64 r.seq, .slice Ab n3 cc] r rfl hrw ⟨Ab, cc, rfl, rfl, by rw [HRR.out.2.1]; rfl, by rw [HRR.out.2.1]; exact hrc.1, by rw [HRR.out.2.1]; exact (((HRB.out w (New.refl w)).keep HB0.out (fun b _ hb => hBE b hb)).new kA).imp (fun b _ hb => ⟨⟨.inr hb, by have := (HE.out b (hBE b hb)).1; omega⟩, (HEV.out b (hBE b hb)).2.2.2.2.1⟩), by rw [HRR.out.2.2]; exact hn0, by rw [HRR.out.2.2]; omega, by rw [HRR.out.2.1]; omega, hrc.2.1⟩ (by omega) (by omega) (by have := M0.out.size; have := kA.size; omega) ?_
     intro A9 c9 wr2 o9 hg9 hbk9
     have kB : Keep (fun j => some j ≠ blk V.Aw) wr1 wr2 := Keep.grown (Keep.refl _ _) hg9 (fun j hj hd => absurd hj.symm hd)
     have s7 : Keep (fun j => j ≠ bw ∧ some j ≠ blk V.Aw) wq wr2 := (s0.new kA).trans2 kB (fun b _ hb => hb.2)
     refine hK.out _ _ ⟨s7, fun h => absurd h (by decide)⟩ ?_
     clear hK K
     try simp only [Act.put, ly1, ly2, ly3, ly4, ly5, ly6]
     refine holdW_read (i := 8) (v := ?_) ⟨s7, fun h => absurd h (by decide)⟩ rfl (by kernel_rfl) (by kernel_rfl) (by kernel_rfl) rfl (fun _ _ _ h => h) rfl ?_ ?_
     rotate_left
     ·intro w' hN
      go_simp
      try with_reducible rfl
     simp only [Act.put, ly1, ly2, ly3, ly4, ly5, ly6]
     refine holdW_read (i := 9) (v := ?_) ⟨s7, fun h => absurd h (by decide)⟩ rfl (by kernel_rfl) (by kernel_rfl) (by kernel_rfl) rfl (fun _ _ _ h => h) rfl ?_ ?_
     rotate_left
     ·intro w' hN
      go_simp
      try with_reducible rfl
     simp only [Act.put, ly1, ly2, ly3, ly4, ly5, ly6]
     have hcB := (M0.out.doc.cells.new kA).keep kB (fun e => M0.out.doc.no.1 e.symm)
     have d13 : wr2.cell? ⟨bw, 13, none⟩ = some (.slice V.Aw V.nw V.cw) := hcB.cell rfl
     have f13 := hcB.free 13
     refine holdW_step (i := 10) (by kernel_rfl) rfl rfl (fun K hK => ?_)
     go_simp
     have hcC : W21At (wr2.setCell ⟨bw, 13, none⟩ (.slice A9 (V.nw + 1) c9)) bw { V with Aw := A9, nw := V.nw + 1, cw := c9 } := hcB.set 13 _ rfl
     have kS := keep_cell wr2 bw 13 (.slice A9 (V.nw + 1) c9)
     have s8 := s7.trans2 kS (fun b _ hb => hb.1)
     refine hK.out _ _ ⟨s8, fun h => absurd h (by decide)⟩ ?_
     clear hK K d13 f13 hcB
     try simp only [Act.put, ly1, ly2, ly3, ly4, ly5, ly6]
     generalize wr2.setCell _ _ = wr3 at *
     refine wpAnyW_done (by kernel_rfl) ?_ _
     have HS8 := Lib.hid (s8.imp fun b _ hb => (show b ≠ bw ∧ some b ≠ blk V.Aw from ⟨(HEV.out b hb).1, (HEV.out b hb).2.2.2.2.1⟩))
     have HA9 : Hid (∀ b, E b → some b ≠ blk A9) := Lib.hid (fun b hb => far_row (n := w.heap.size) (fun k hk => hbk9.elim (fun e => .inl (e ▸ hk)) (fun e => .inr (by rw [e] at hk; injection hk with hk; have h1 := kA.size; omega))) (HEV.out b hb).2.2.2.2.1 (HE.out b hb).1)
     obtain ⟨hkb, D9, DL9, M9, hd9, hdl9⟩ := M0.out.wait kA s8 kS hcC o9 hbk9
     have HD9 : Hid (∀ b, b < w.heap.size → (D9 b → D b ∨ B b) ∧ (DL9 b → DL b)) := Lib.hid (fun b hb => ⟨fun h => (hd9 b h).elim (fun h => .inl ((HDV.out b hb).1 h)) .inr, fun h => (HDV.out b hb).2 (hdl9 b h)⟩)
     clear hd9 hdl9
     clear s0 t0 hwq hrw o9 hg9 hbk9 kB s7 hcC kS s8 kA hnw62 hq0 hqz hqs hqb
     have hfin : WAt J wr3 D9 DL9 base bw q { V with Aw := A9, nw := V.nw + 1, cw := c9 } s' A8 c8 S8 := by
      obtain ⟨e1, e2, e3, e4, e5⟩ := HKP.out
      refine ⟨?_, by show LogSt id21 V.g s'; rw [e4]; exact HFS.out.2.1, by show V.m = refOf id21 V.g s'; rw [e5, e4], by show J ∨ LaidOn S8 V.p V.g _; rw [e3, e4]; exact HFS.out.2.2⟩
      rw [show lvOf { V with Aw := A9, nw := V.nw + 1, cw := c9 } s' = lvOf v s' from by unfold lvOf; rw [e2, e3, e4]]
      have h9 := M9
      rw [← HSQ.out] at h9
      exact h9
     have HSM := Lib.hid hfin.same
     have HF := Lib.hid hfin
     have HBZ := Lib.hid (HB0.out.trans HS8.out)
     clear hfin M9 hkb HB0
     go_wp2_with fail
     refine HSM.out.mono ?_
     rintro e wz ⟨rfl, kz⟩
     go_wp2_with fail
     go_ret
     unfold Do1RetE
     rw [HFS.out.1]
     exact ⟨rfl, HBZ.out.new kz, _, D9, DL9, A8, c8, S8, HF.out.new kz, HKP.out.2.1, HKP.out.2.2.1, HKP.out.2.2.2.1, fun b hb hf => by have h1 := HEV.out b (HED.out b hb hf); have h2 := HA9.out b (HED.out b hb hf); obtain ⟨f1, f2, f3, f4, f5, f6⟩ := h1; exact ⟨f1, f2, f3, f4, h2, f6⟩, HD9.out⟩
  ·skip
   have e0 := cellOf hx5 (k := 0) rfl
   have f0 := frozenOf hx5 0
   have hx6 := setCell_block hx5 0 (.int .i64 2)
   have e2 := cellOf hx6 (k := 2) rfl
   have f2 := frozenOf hx6 2
   have hx7 := setCell_block hx6 2 (.slice none 0 0)
   go_upto_region 6 with fail
   have kk : Keep (fun j => j ≠ g5) w5 ((w5.setCell ⟨g5, 0, none⟩ (.int .i64 2)).setCell ⟨g5, 2, none⟩ (.slice none 0 0)) := ((Keep.refl _ w5).setCell (p := ⟨g5, 0, none⟩) (fun hd => absurd rfl hd) _).setCell (p := ⟨g5, 2, none⟩) (fun hd => absurd rfl hd) _
   clear e0 f0 e2 f2 hx6
   generalize (w5.setCell ⟨g5, 0, none⟩ (.int .i64 2)).setCell ⟨g5, 2, none⟩ (.slice none 0 0) = w6 at *
   have HK6 := Lib.hid (((Keep.of_new (D := fun b => b < w.heap.size) HK5.out).trans2 kk (fun b _ hb e => by omega)).toNew (fun b hb => hb))
   have HX5 := Lib.hid (kk.blockAt HX5.out (by omega))
   clear kk
   obtain ⟨r, hr⟩ : ∃ r, r = askRec true nx bs := ⟨_, rfl⟩
   have hrk : r.kind = 2 := by rw [hr]; rfl
   have hrs : r.seq = nx := by rw [hr]; rfl
   have hrb : r.body.length = 0 := by rw [hr]; rfl
   have hrB : ∀ W, New w W → Bs W B none 0 r.body := fun W hW => by rw [hr]; exact Row.nil _ _ _ _
   have hrc : 0 ≤ 0 ∧ 0 ≤ 9223372036854775807 ∧ 0 ≤ 1000000 := by decide
   have hrr : recRight r = true := by rw [hr]; exact ask_right (by omega)
   have HWT := Lib.hid (HH.out.1.new HK6.out)
   have HRB := Lib.hid hrB
   have HXR : Hid (w6.heap[g5]? = some (.cells #[.int .i64 r.kind, .int .u64 r.seq, .slice none 0 0] 70 (0, 0))) := Lib.hid (by rw [hrk, hrs]; exact hx7)
   have HRR := Lib.hid (And.intro hrr (And.intro hrb hrs))
   have HAS : Hid (s.ask v.g nx true by' bs = if by'.tmod 7 = 1 then s else match s.append v.g r with | some s' => s' | none => s) := Lib.hid (by rw [hr]; rfl)
   generalize s.ask v.g nx true by' bs = sa at *
   replace hr := Lib.hid hr
   clear hrk hrs hrb hrB hrr
   have xb := cellOf HX5.out (k := 1) rfl
   have hg5l := (Array.getElem?_eq_some_iff.1 HXR.out).1
   by_cases b7 : by'.tmod 7 = 1
   ·skip
    have e7 : (by'.tmod 7 == 1) = true := by simpa using b7
    replace b7 := Lib.hid b7
    go_upto_region 7 with fail
    have c7 := fun W (hW : New w6 W) => (show W.cell? ⟨bw, 7, none⟩ = some (.pointer (some ⟨v.bl, 0, none⟩)) from (HWT.out.mid.doc.cells.new hW).cell rfl)
    have r0 : ∀ W, New w6 W → W.cell? ⟨g5, 0, none⟩ = some (.int .i64 r.kind) := fun W hW => cellOf (k := 0) (hW.blockAt HXR.out trivial) rfl
    have r1 : ∀ W, New w6 W → W.cell? ⟨g5, 1, none⟩ = some (.int .u64 r.seq) := fun W hW => cellOf (k := 1) (hW.blockAt HXR.out trivial) rfl
    have r2 : ∀ W, New w6 W → W.cell? ⟨g5, 2, none⟩ = some (.slice none 0 0) := fun W hW => cellOf (k := 2) (hW.blockAt HXR.out trivial) rfl
    have hu : IntKind.u64.wrap (r.seq + 1) = r.seq + 1 := by rw [IntKind.wrap_u64, HRR.out.2.2]; omega
    have HLB := Lib.hid (fun W (hW : New w6 W) => lappend_bad (HWT.out.mid.on.new hW) ⟨r.kind, r.seq + 1, r.body⟩ none 0 0 HRR.out.2.1 hrc.2.2 (.inr (by show r.seq + 1 ≠ _; rw [HRR.out.2.2, hnx.out, HH.out.1.m]; show _ ≠ (logOf id21 s.segs).next + (s.waits.length : Int); simp only [refOf]; omega)))
    clear xb xm
    refine hold_begin (by kernel_rfl) ?_
    have n0 : New w6 w6.drew := (New.refl w6).drew
    replace c7 := fun W (hW : New w6.drew W) => c7 W (Keep.new n0 hW)
    replace r0 := fun W (hW : New w6.drew W) => r0 W (Keep.new n0 hW)
    replace r1 := fun W (hW : New w6.drew W) => r1 W (Keep.new n0 hW)
    replace r2 := fun W (hW : New w6.drew W) => r2 W (Keep.new n0 hW)
    refine take1 0 ?_
    refine take1 1 ?_
    refine take1 2 ?_
    refine take1 3 ?_
    refine take1 4 ?_
    refine take1 5 ?_
    refine take1 6 ?_
    refine take1 7 ?_
    refine take1 8 ?_
    refine take1 9 ?_
    refine take1 10 ?_
    refine take1 11 ?_
    refine hold_step (i := 12) (by kernel_rfl) rfl rfl (fun K hK => ?_)
    go_simp
    refine (HLB.out _ n0).mono ?_
    rintro e w6 ⟨rfl, k6⟩
    go_wp2_with fail
    refine hK.out _ _ k6 ?_
    clear hK K
    try simp only [Act.put, ly1, ly2, ly3, ly4, ly5, ly6]
    replace n0 := Keep.new n0 k6
    replace c7 := fun W (hW : New w6 W) => c7 W (Keep.new k6 hW)
    replace r0 := fun W (hW : New w6 W) => r0 W (Keep.new k6 hW)
    replace r1 := fun W (hW : New w6 W) => r1 W (Keep.new k6 hW)
    replace r2 := fun W (hW : New w6 W) => r2 W (Keep.new k6 hW)
    refine take1 13 ?_
    refine wpAnyH_done (by kernel_rfl) ?_ _
    have HSM := Lib.hid (HWT.out.new n0).same
    go_wp2_with fail
    refine HSM.out.mono ?_
    rintro e w7 ⟨rfl, k7⟩
    go_wp2_with fail
    go_ret
    unfold Do1RetE
    refine ⟨rfl, Keep.of_new ((HK6.out.new n0).new k7), v, D, DL, A, c, S, ?_, rfl, rfl, rfl, fun _ _ hf => hf, fun _ _ => ⟨.inl, id⟩⟩
    rw [HAS.out, if_pos b7.out]
    exact (HWT.out.new n0).new k7
   have e7 : (by'.tmod 7 == 1) = false := by simpa using b7
   replace b7 := Lib.hid b7
   have x9 : w6.cell? ⟨bw, 9, none⟩ = some (.int .i64 v.m.sealed) := HWT.out.mid.doc.cells.cell rfl
   go_upto_region 10 with fail
   clear x9 xb xm e7
   have hgw : w.heap.size ≤ g5 := by omega
   have kdr : New w6 w6.drew := (New.refl w6).drew
   refine hold_beginS (Keep (fun j => j ≠ bw) w6.drew) (by kernel_rfl) ?_
   have HWT := Lib.hid (HWT.out.new kdr)
   have HXR := Lib.hid (kdr.blockAt HXR.out trivial)
   have HKT := Lib.hid (HK6.out.new kdr)
   generalize w6.drew = wu at *
   have n0 : Keep (fun j => j ≠ bw) wu wu := Keep.refl _ _
   have r0 : ∀ W, Keep (fun j => j ≠ bw) wu W → W.cell? ⟨g5, 0, none⟩ = some (.int .i64 r.kind) := fun W hW => cellOf (k := 0) (hW.blockAt HXR.out (by omega)) rfl
   have r1 : ∀ W, Keep (fun j => j ≠ bw) wu W → W.cell? ⟨g5, 1, none⟩ = some (.int .u64 r.seq) := fun W hW => cellOf (k := 1) (hW.blockAt HXR.out (by omega)) rfl
   have r2 : ∀ W, Keep (fun j => j ≠ bw) wu W → W.cell? ⟨g5, 2, none⟩ = some (.slice none 0 0) := fun W hW => cellOf (k := 2) (hW.blockAt HXR.out (by omega)) rfl
   refine take0 0 n0 ?_
   refine take0 1 n0 ?_
   refine take0 2 n0 ?_
   refine take0 3 n0 ?_
   clear r0 r1 r2 kdr
   have HSZ := Lib.hid (size16_any r.kind r.seq none 0 0 r wu rfl rfl HRR.out.2.1 (by omega))
   have hrz : (recSize r : Int) ≤ 1000 := by unfold recSize; rw [if_pos HRR.out.1]; have h1 := recRight_def r; rw [HRR.out.1] at h1; have h2 := of_decide_eq_true h1.symm; omega
   have HRA := Lib.hid (fun W (hW : New wu W) => rappend_any (HWT.out.mid.doc.cells.new hW) (by rw [HH.out.1.m]; exact small_of HH.out.1.st) (recSize r) (by omega) hrz)
   have hap := ref_append HH.out.1.st HRR.out.1
   rw [← HH.out.1.m] at hap
   generalize v.m.append (recSize r : Int) = ap at *
   generalize recSize r = rz at *
   replace hap := Lib.hid hap
   clear hrz
   refine hold_step0 (i := 4) (by kernel_rfl) rfl rfl (fun K hK => ?_)
   go_simp
   refine HSZ.out.mono ?_
   rintro e w7 ⟨rfl, k7⟩
   go_wp2_with fail
   have n1 := Keep.new n0 k7
   refine hK.out _ _ n1 ?_
   clear hK K
   try simp only [Act.put, ly1, ly2, ly3, ly4, ly5, ly6]
   have HRA1 := Lib.hid (HRA.out _ k7)
   refine hold_step0 (i := 5) (by kernel_rfl) rfl rfl (fun K hK => ?_)
   go_simp
   refine HRA1.out.mono ?_
   rintro e w8 ⟨rfl, k8, hc8⟩
   go_wp2_with fail
   have n2 := n1.trans k8
   refine hK.out _ _ n2 ?_
   clear hK K
   try simp only [Act.put, ly1, ly2, ly3, ly4, ly5, ly6]
   refine take0 6 n2 ?_
   refine wpAnyH_done (by kernel_rfl) ?_ _
   have M8 := Lib.hid ((HWT.out.mid.new k7).setm k8 hc8)
   have HX8 := Lib.hid (n2.blockAt HXR.out (by omega))
   have HB8 := Lib.hid ((Keep.of_new (D := E) HKT.out).trans2 n2 (fun b _ hb e => (HE.out b hb).2.1 e))
   have hz8 := (HKT.out.size)
   have hz9 := n2.size
   clear n0 n1 n2 k7 k8 hc8 HRA HRA1 HSZ HWT HXR HKT
   go_upto_region 11 with fail
   have M8n := Lib.hid (M8.out.new (New.refl w8).drew)
   have HX8 := Lib.hid (((New.refl w8).drew).blockAt HX8.out trivial)
   have HB8 := Lib.hid (HB8.out.new (New.refl w8).drew)
   have hz10 : w.heap.size ≤ w8.drew.heap.size := by show w.heap.size ≤ w8.heap.size; omega
   refine hold_beginS (Keep (fun j => j ≠ v.bl ∧ DiskOf q j ∧ some j ≠ blk A) w8.drew) (by kernel_rfl) ?_
   generalize w8.drew = w9 at *
   clear M8
   have n0 : Keep (fun j => j ≠ v.bl ∧ DiskOf q j ∧ some j ≠ blk A) w9 w9 := Keep.refl _ _
   have hgA : g5 ≠ v.bl ∧ DiskOf q g5 ∧ some g5 ≠ blk A := ⟨by have := HH.out.1.mid.on.log.lt; omega, HH.out.1.mid.on.disk.beyond g5 hgw, fun e => by have := (HH.out.1.mid.on.log.rowLt g5 e.symm).2; omega⟩
   have hap2 := HH.out.1.mid.apart
   have r7 : ∀ W, Keep (fun j => j ≠ v.bl ∧ DiskOf q j ∧ some j ≠ blk A) w9 W → W.cell? ⟨bw, 7, none⟩ = some (.pointer (some ⟨v.bl, 0, none⟩)) := fun W hW => ((M8n.out.doc.cells.keep hW ⟨hap2.wl, hap2.wd, fun e => hap2.wA e.symm⟩).cell rfl)
   have r0 : ∀ W, Keep (fun j => j ≠ v.bl ∧ DiskOf q j ∧ some j ≠ blk A) w9 W → W.cell? ⟨g5, 0, none⟩ = some (.int .i64 r.kind) := fun W hW => cellOf (k := 0) (hW.blockAt HX8.out hgA) rfl
   have r1 : ∀ W, Keep (fun j => j ≠ v.bl ∧ DiskOf q j ∧ some j ≠ blk A) w9 W → W.cell? ⟨g5, 1, none⟩ = some (.int .u64 r.seq) := fun W hW => cellOf (k := 1) (hW.blockAt HX8.out hgA) rfl
   have r2 : ∀ W, Keep (fun j => j ≠ v.bl ∧ DiskOf q j ∧ some j ≠ blk A) w9 W → W.cell? ⟨g5, 2, none⟩ = some (.slice none 0 0) := fun W hW => cellOf (k := 2) (hW.blockAt HX8.out hgA) rfl
   refine take0 0 n0 ?_
   refine take0 1 n0 ?_
   refine take0 2 n0 ?_
   refine take0 3 n0 ?_
   refine take0 4 n0 ?_
   refine take0 5 n0 ?_
   refine take0 6 n0 ?_
   refine take0 7 n0 ?_
   refine take0 8 n0 ?_
   refine take0 9 n0 ?_
   refine take0 10 n0 ?_
   clear r0 r1 r2 r7 hap2
   have HLA := Lib.hid (lappend_any M8n.out.on r none 0 0 HRR.out.2.1 (D2 := B) (by have h1 := HRB.out w (New.refl w); exact h1.keep HB8.out (fun b _ hb => hBE b hb)) hrc.1 hrc.2.1 (fun j hj => by obtain ⟨_, _, e2, e3, e4, _⟩ := HE.out j (hBE j hj); exact ⟨e2, e3, e4⟩) M8n.out.size HRR.out.1 (by have := HRR.out.2.2; omega) (by rw [HRR.out.2.2, hnx.out, HH.out.1.m]; rfl) HH.out.1.st.right HH.out.1.st.bytes (fun hne => HH.out.1.st.seg hne))
   refine hold_step0 (i := 11) (by kernel_rfl) rfl rfl (fun K hK => ?_)
   go_simp
   refine HLA.out.mono ?_
   rintro e wa ⟨rfl, ka, A8, c8, hl8, hA8⟩
   go_wp2_with fail
   have n1 := n0.trans (ka.imp fun j _ hj => hj)
   refine hK.out _ _ n1 ?_
   clear hK K
   try simp only [Act.put, ly1, ly2, ly3, ly4, ly5, ly6]
   refine take0 12 n1 ?_
   refine wpAnyH_done (by kernel_rfl) ?_ _
   have MA0 := M8n.out.log ka hl8 (fun b hb => hb) hA8
   have HD0 : Hid (∀ b, b < w.heap.size → ((D b ∧ b < w9.heap.size) → D b) ∧ ((DL b ∨ w9.heap.size ≤ b) → DL b)) := Lib.hid (fun b hb => ⟨fun h => h.1, fun h => h.elim id (fun h => by omega)⟩)
   obtain ⟨DA, hDA⟩ : ∃ DA : Nat → Prop, DA = fun b => D b ∧ b < w9.heap.size := ⟨_, rfl⟩
   obtain ⟨DLA, hDLA⟩ : ∃ DLA : Nat → Prop, DLA = fun b => DL b ∨ w9.heap.size ≤ b := ⟨_, rfl⟩
   rw [← hDA, ← hDLA] at MA0
   have HDA : Hid (∀ b, b < w.heap.size → (DA b → D b) ∧ (DLA b → DL b)) := Lib.hid (by rw [hDA, hDLA]; exact HD0.out)
   have MA := Lib.hid MA0
   clear MA0 hDA hDLA HD0
   have HXA := Lib.hid (ka.blockAt HX8.out hgA)
   have HBA := Lib.hid (HB8.out.trans (ka.imp fun j _ hj => by obtain ⟨_, _, e2, e3, e4, _⟩ := HE.out j hj; exact ⟨e2, e3, e4⟩))
   have HF8 : Hid (∀ b, E b → some b ≠ blk A8) := Lib.hid (fun b hb e => by rcases hA8 with h1 | h1; exact (HE.out b hb).2.2.2.2.1 (e.trans h1); (have h2 := h1 b e.symm; have h3 := (HE.out b hb).1; omega))
   have hza := ka.size
   clear n0 n1 ka hl8 hA8 HLA M8n HX8 HB8 hgA
   have hco := code_append HH.out.1.st r
   cases he : s.append v.g r with
   | none =>
    rw [he] at hco
    have hco : (lvOf v s).code r = 15 := hco
    have hapn : ap = (false, v.m) := by have h1 := hap.out; rw [he] at h1; exact h1
    have hsa : sa = s := by rw [HAS.out, if_neg b7.out, he]
    have hlv : (lvOf v s).append r = lvOf v s ∧ (lvOf v s).adisk r S = S := by unfold LogV.append LogV.adisk; rw [if_pos hco, if_pos hco]; exact ⟨rfl, rfl⟩
    rw [hco]
    subst hapn
    rw [hlv.1, hlv.2] at MA
    have hfin : WAt J wa _ _ base bw q { v with m := v.m } s A8 c8 S := ⟨MA.out, HH.out.1.st, HH.out.1.m, HH.out.1.laid⟩
    have HSM := Lib.hid hfin.same
    have HF := Lib.hid hfin
    have HSA := Lib.hid hsa
    clear hfin hsa hlv hco he MA
    go_wp2_with fail
    refine HSM.out.mono ?_
    rintro e wb ⟨rfl, kb⟩
    go_wp2_with fail
    go_ret
    unfold Do1RetE
    rw [HSA.out]
    exact ⟨rfl, HBA.out.new kb, _, _, _, A8, c8, S, HF.out.new kb, rfl, rfl, rfl, fun b hb hf => by have h1 := HF8.out b (HED.out b hb hf); obtain ⟨f1, f2, f3, f4, f5⟩ := hf; exact ⟨f1, f2, f3, h1, f5⟩, fun b hb => ⟨fun h => .inl ((HDA.out b hb).1 h), (HDA.out b hb).2⟩⟩
   | some s' =>
    rw [he] at hco
    have hco : (lvOf v s).code r = 0 := hco
    have hapn : ap = (true, refOf id21 v.g s') := by have h1 := hap.out; rw [he] at h1; exact h1
    have hsa : sa = s' := by rw [HAS.out, if_neg b7.out, he]
    have hlv := lv_append HH.out.1.st HRR.out.1 he
    have hdk := HH.out.1.laid.imp id fun hl => disk_append HH.out.1.st HRR.out.1 he hl HH.out.1.fit
    have hst' : LogSt id21 v.g s' := HH.out.1.st.appended HRR.out.1 (by rw [HRR.out.2.2, hnx.out, HH.out.1.m]; rfl) (by rw [HRR.out.2.2]; omega) he
    rw [hco]
    subst hapn
    rw [hlv] at MA
    generalize (lvOf v s).adisk r S = S8 at *
    have HFS := Lib.hid (And.intro hsa (And.intro hst' hdk))
    clear hsa hst' hdk hlv hco
    have hcase : (s' = ⟨s.segs, s.waits ++ [r]⟩) ∨ (s' = ⟨s.shut.segs, s.shut.waits ++ [r]⟩ ∧ s.shut.segs.length = s.segs.length + 1) := by
     unfold LogS.append at he
     split at he
     ·cases he
     ·split at he
      ·injection he with he; exact .inl he.symm
      ·rename_i h2
       split at he
       ·cases he
       ·injection he with he
        have hw := wait_some HH.out.1.st HRR.out.1 h2
        refine .inr ⟨?_, ?_⟩
        ·unfold LogS.shut; rw [if_neg hw]; exact he.symm
        ·unfold LogS.shut; rw [if_neg hw]; simp
    have c9 : wa.cell? ⟨bw, 9, none⟩ = some (.int .i64 s'.segs.length) := MA.out.doc.cells.cell rfl
    have hvs : v.m.sealed = (s.segs.length : Int) := by rw [HH.out.1.m]; rfl
    rw [hvs]
    replace hvs := Lib.hid hvs
    clear he
    rcases hcase with hsq | ⟨hsq, hsl⟩
    ·skip
     have hll : (s'.segs.length : Int) = (s.segs.length : Int) := by rw [hsq]
     rw [hll] at c9
     replace hll := Lib.hid hll
     have HSQ := Lib.hid hsq
     clear hsq
     obtain ⟨V, hV⟩ : ∃ V : W21V, V = { v with m := refOf id21 v.g s' } := ⟨_, rfl⟩
     have HDV := HDA
     have MB : Hid (Mid wa DA DLA base bw q V s (lvOf v s') A8 c8 S8) := Lib.hid (by rw [hV]; exact MA.out)
     have HKP : Hid (V.bl = v.bl ∧ V.k = v.k ∧ V.p = v.p ∧ V.g = v.g ∧ V.m = refOf id21 v.g s') := Lib.hid (by rw [hV]; exact ⟨rfl, rfl, rfl, rfl, rfl⟩)
     have HEV : Hid (∀ b, E b → FarOf bw q V A8 b) := Lib.hid (fun b hb => by obtain ⟨_, e1, e2, e3, _, e5⟩ := HE.out b hb; rw [hV]; exact ⟨e1, e2, e3, HF8.out b hb, e5⟩)
     have hVA : V.Aw = v.Aw := by rw [hV]
     replace hV := Lib.hid hV
     replace hVA := Lib.hid hVA
     clear MA
     have e15 : decide ((s.segs.length : Int) < (s.segs.length : Int)) = false := decide_eq_false (by omega)
     go_upto_region 17 with fail
     have kdr : New wa wa.drew := (New.refl wa).drew
     have M0 := Lib.hid ((MB.out.withFar (E := B) (fun b hb => HEV.out b (hBE b hb))).new kdr)
     have HXB := Lib.hid (kdr.blockAt HXA.out trivial)
     have HB0 := Lib.hid (HBA.out.new kdr)
     have hzq : w.heap.size ≤ wa.drew.heap.size := by show w.heap.size ≤ wa.heap.size; omega
     refine holdW_begin [7, 10] (Keep (fun j => j ≠ bw ∧ some j ≠ blk V.Aw) wa.drew) (New wa.drew) (by kernel_rfl) ?_
     generalize wa.drew = wq at *
     clear kdr
     have s0 : Keep (fun j => j ≠ bw ∧ some j ≠ blk V.Aw) wq wq := Keep.refl _ _
     have t0 : New wq wq := New.refl _
     have hgg : g5 ≠ bw ∧ some g5 ≠ blk V.Aw := ⟨by omega, fun e => by rw [hVA.out] at e; have := (HH.out.1.mid.doc.waits.lt g5 e.symm).2; omega⟩
     have r0 : ∀ W, Keep (fun j => j ≠ bw ∧ some j ≠ blk V.Aw) wq W → W.cell? ⟨g5, 0, none⟩ = some (.int .i64 r.kind) := fun W hW => cellOf (k := 0) (hW.blockAt HXB.out hgg) rfl
     have r1 : ∀ W, Keep (fun j => j ≠ bw ∧ some j ≠ blk V.Aw) wq W → W.cell? ⟨g5, 1, none⟩ = some (.int .u64 r.seq) := fun W hW => cellOf (k := 1) (hW.blockAt HXB.out hgg) rfl
     have r2 : ∀ W, Keep (fun j => j ≠ bw ∧ some j ≠ blk V.Aw) wq W → W.cell? ⟨g5, 2, none⟩ = some (.slice none 0 0) := fun W hW => cellOf (k := 2) (hW.blockAt HXB.out hgg) rfl
     have r13 : ∀ W, New wq W → W.cell? ⟨bw, 13, none⟩ = some (.slice V.Aw V.nw V.cw) := fun W hW => (M0.out.doc.cells.new hW).cell rfl
     refine holdW_read (i := 0) (v := ?_) ⟨s0, fun _ => t0⟩ rfl (by kernel_rfl) (by kernel_rfl) (by kernel_rfl) rfl (fun _ _ _ h => h) rfl ?_ ?_
     rotate_left
     ·intro w' hN
      go_simp
      try with_reducible rfl
     simp only [Act.put, ly1, ly4]
     refine holdW_read (i := 1) (v := ?_) ⟨s0, fun _ => t0⟩ rfl (by kernel_rfl) (by kernel_rfl) (by kernel_rfl) rfl (fun _ _ _ h => h) rfl ?_ ?_
     rotate_left
     ·intro w' hN
      go_simp
      try with_reducible rfl
     simp only [Act.put, ly1, ly2, ly3, ly4, ly5, ly6]
     refine holdW_read (i := 2) (v := ?_) ⟨s0, fun _ => t0⟩ rfl (by kernel_rfl) (by kernel_rfl) (by kernel_rfl) rfl (fun _ _ _ h => h) rfl ?_ ?_
     rotate_left
     ·intro w' hN
      go_simp
      try with_reducible rfl
     simp only [Act.put, ly1, ly2, ly3, ly4, ly5, ly6]
     refine holdW_read (i := 3) (v := ?_) ⟨s0, fun _ => t0⟩ rfl (by kernel_rfl) (by kernel_rfl) (by kernel_rfl) rfl (fun _ _ _ h => h) rfl ?_ ?_
     rotate_left
     ·intro w' hN
      go_simp
      try with_reducible rfl
     simp only [Act.put, ly1, ly2, ly3, ly4, ly5, ly6]
     refine holdW_readT (i := 4) (v := ?_) ⟨s0, fun _ => t0⟩ rfl (by kernel_rfl) (by kernel_rfl) (by kernel_rfl) (by kernel_rfl) (by kernel_rfl) (fun _ _ _ h => h) rfl ?_ ?_
     rotate_left
     ·intro w' hN
      go_simp
      try with_reducible rfl
     simp only [Act.put, ly1, ly2, ly3, ly4, ly5, ly6]
     refine holdW_read (i := 5) (v := ?_) ⟨s0, fun _ => t0⟩ rfl (by kernel_rfl) (by kernel_rfl) (by kernel_rfl) rfl (fun _ _ _ h => h) rfl ?_ ?_
     rotate_left
     ·intro w' hN
      go_simp
      try with_reducible rfl
     simp only [Act.put, ly1, ly2, ly3, ly4, ly5, ly6]
     clear r0 r1 r2 r13 hgg
     refine holdW_step (i := 6) (by kernel_rfl) rfl rfl (fun K hK => ?_)
     go_simp
     try go_wp2_with fail
     have kA : New wq (wq.alloc (.cells #[.int .i64 r.kind, .int .u64 r.seq, .slice none 0 0] 70)) := (New.refl wq).alloc _
     have hrw := (Row.made wq 70 #[.int .i64 r.kind, .int .u64 r.seq, .slice none 0 0] 1 3 rfl).imp (E := fun _ => True) fun _ _ _ => trivial
     refine hK.out _ _ ⟨s0.new kA, fun _ => kA⟩ ?_
     clear hK K
     try simp only [Act.put, ly1, ly2, ly3, ly4, ly5, ly6]
     generalize wq.alloc (.cells #[.int .i64 r.kind, .int .u64 r.seq, .slice none 0 0] 70) = wr1 at *
     refine holdW_step (i := 7) (by kernel_rfl) rfl rfl (fun K hK => ?_)
     obtain ⟨q0, hq0, hqz, hqs, hqb⟩ := info_parts info_refrec
     have hnw62 : V.nw ≤ 62 := by have hwl := wait_many HH.out.1.st.right; have hwb := HH.out.1.st.bytes; have hnwv := M0.out.doc.nw; rw [hnwv]; omega
     have hwq := (M0.out.doc.waits.imp (fun b hb hd => And.intro hd hb)).new kA
     refine wp_sl (E := recElt) _ _ _ 37 70 rfl q0 (.agg #[.int .i64 0, .int .u64 0, .slice none 0 0]) 40 Tryz.underlying37 hq0 hqz hqs hqb rfl base _ V.Aw V.nw V.cw s.waits rfl hwq (fun _ => True) (some ⟨wq.heap.size, 0, none⟩) 1 [.int .i64 r.kind, .int .u64 r.seq, .slice none 0 0] r rfl hrw ⟨none, 0, rfl, rfl, by rw [HRR.out.2.1]; rfl, by rw [HRR.out.2.1]; exact hrc.1, by rw [HRR.out.2.1]; exact (((HRB.out w (New.refl w)).keep HB0.out (fun b _ hb => hBE b hb)).new kA).imp (fun b _ hb => ⟨⟨.inr hb, by have := (HE.out b (hBE b hb)).1; omega⟩, (HEV.out b (hBE b hb)).2.2.2.2.1⟩), by rw [HRR.out.2.2]; exact hn0, by rw [HRR.out.2.2]; omega, by rw [HRR.out.2.1]; omega, hrc.2.1⟩ (by omega) (by omega) (by have := M0.out.size; have := kA.size; omega) ?_
     intro A9 c9 wr2 o9 hg9 hbk9
     have kB : Keep (fun j => some j ≠ blk V.Aw) wr1 wr2 := Keep.grown (Keep.refl _ _) hg9 (fun j hj hd => absurd hj.symm hd)
     have s7 : Keep (fun j => j ≠ bw ∧ some j ≠ blk V.Aw) wq wr2 := (s0.new kA).trans2 kB (fun b _ hb => hb.2)
     refine hK.out _ _ ⟨s7, fun h => absurd h (by decide)⟩ ?_
     clear hK K
     try simp only [Act.put, ly1, ly2, ly3, ly4, ly5, ly6]
     refine holdW_read (i := 8) (v := ?_) ⟨s7, fun h => absurd h (by decide)⟩ rfl (by kernel_rfl) (by kernel_rfl) (by kernel_rfl) rfl (fun _ _ _ h => h) rfl ?_ ?_
     rotate_left
     ·intro w' hN
      go_simp
      try with_reducible rfl
     simp only [Act.put, ly1, ly2, ly3, ly4, ly5, ly6]
     refine holdW_read (i := 9) (v := ?_) ⟨s7, fun h => absurd h (by decide)⟩ rfl (by kernel_rfl) (by kernel_rfl) (by kernel_rfl) rfl (fun _ _ _ h => h) rfl ?_ ?_
     rotate_left
     ·intro w' hN
      go_simp
      try with_reducible rfl
     simp only [Act.put, ly1, ly2, ly3, ly4, ly5, ly6]
     have hcB := (M0.out.doc.cells.new kA).keep kB (fun e => M0.out.doc.no.1 e.symm)
     have d13 : wr2.cell? ⟨bw, 13, none⟩ = some (.slice V.Aw V.nw V.cw) := hcB.cell rfl
     have f13 := hcB.free 13
     refine holdW_step (i := 10) (by kernel_rfl) rfl rfl (fun K hK => ?_)
     go_simp
     have hcC : W21At (wr2.setCell ⟨bw, 13, none⟩ (.slice A9 (V.nw + 1) c9)) bw { V with Aw := A9, nw := V.nw + 1, cw := c9 } := hcB.set 13 _ rfl
     have kS := keep_cell wr2 bw 13 (.slice A9 (V.nw + 1) c9)
     have s8 := s7.trans2 kS (fun b _ hb => hb.1)
     refine hK.out _ _ ⟨s8, fun h => absurd h (by decide)⟩ ?_
     clear hK K d13 f13 hcB
     try simp only [Act.put, ly1, ly2, ly3, ly4, ly5, ly6]
     generalize wr2.setCell _ _ = wr3 at *
     refine wpAnyW_done (by kernel_rfl) ?_ _
     have HS8 := Lib.hid (s8.imp fun b _ hb => (show b ≠ bw ∧ some b ≠ blk V.Aw from ⟨(HEV.out b hb).1, (HEV.out b hb).2.2.2.2.1⟩))
     have HA9 : Hid (∀ b, E b → some b ≠ blk A9) := Lib.hid (fun b hb => far_row (n := w.heap.size) (fun k hk => hbk9.elim (fun e => .inl (e ▸ hk)) (fun e => .inr (by rw [e] at hk; injection hk with hk; have h1 := kA.size; omega))) (HEV.out b hb).2.2.2.2.1 (HE.out b hb).1)
     obtain ⟨hkb, D9, DL9, M9, hd9, hdl9⟩ := M0.out.wait kA s8 kS hcC o9 hbk9
     have HD9 : Hid (∀ b, b < w.heap.size → (D9 b → D b ∨ B b) ∧ (DL9 b → DL b)) := Lib.hid (fun b hb => ⟨fun h => (hd9 b h).elim (fun h => .inl ((HDV.out b hb).1 h)) .inr, fun h => (HDV.out b hb).2 (hdl9 b h)⟩)
     clear hd9 hdl9
     clear s0 t0 hwq hrw o9 hg9 hbk9 kB s7 hcC kS s8 kA hnw62 hq0 hqz hqs hqb
     have hfin : WAt J wr3 D9 DL9 base bw q { V with Aw := A9, nw := V.nw + 1, cw := c9 } s' A8 c8 S8 := by
      obtain ⟨e1, e2, e3, e4, e5⟩ := HKP.out
      refine ⟨?_, by show LogSt id21 V.g s'; rw [e4]; exact HFS.out.2.1, by show V.m = refOf id21 V.g s'; rw [e5, e4], by show J ∨ LaidOn S8 V.p V.g _; rw [e3, e4]; exact HFS.out.2.2⟩
      rw [show lvOf { V with Aw := A9, nw := V.nw + 1, cw := c9 } s' = lvOf v s' from by unfold lvOf; rw [e2, e3, e4]]
      have h9 := M9
      rw [← HSQ.out] at h9
      exact h9
     have HSM := Lib.hid hfin.same
     have HF := Lib.hid hfin
     have HBZ := Lib.hid (HB0.out.trans HS8.out)
     clear hfin M9 hkb HB0
     go_wp2_with fail
     refine HSM.out.mono ?_
     rintro e wz ⟨rfl, kz⟩
     go_wp2_with fail
     go_ret
     unfold Do1RetE
     rw [HFS.out.1]
     exact ⟨rfl, HBZ.out.new kz, _, D9, DL9, A8, c8, S8, HF.out.new kz, HKP.out.2.1, HKP.out.2.2.1, HKP.out.2.2.2.1, fun b hb hf => by have h1 := HEV.out b (HED.out b hb hf); have h2 := HA9.out b (HED.out b hb hf); obtain ⟨f1, f2, f3, f4, f5, f6⟩ := h1; exact ⟨f1, f2, f3, f4, h2, f6⟩, HD9.out⟩
    ·skip
     have hll : (s'.segs.length : Int) = (s.segs.length : Int) + 1 := by rw [hsq]; show (s.shut.segs.length : Int) = _; omega
     rw [hll] at c9
     have HSQ := Lib.hid hsq
     clear hsq hsl
     replace hll := Lib.hid hll
     have e15 : decide ((s.segs.length : Int) < (s.segs.length : Int) + 1) = true := decide_eq_true (by omega)
     have HWS := Lib.hid (mid_seal MA.out (show LogSt id21 v.g s from HH.out.1.st))
     have hza2 := MA.out.doc.waits.lt
     clear MA
     go_wp2_with fail
     refine HWS.out.mono ?_
     rintro e ws ⟨rfl, hbs, hks, V, DV, DLV, mV, ⟨q1, q2, q3, q4, q5⟩, hVw, hdV⟩
     have HDV : Hid (∀ b, b < w.heap.size → (DV b → D b) ∧ (DLV b → DL b)) := Lib.hid (fun b hb => ⟨fun h => (HDA.out b hb).1 ((hdV b (by omega)).1 h), fun h => (HDA.out b hb).2 ((hdV b (by omega)).2 h)⟩)
     have HKP : Hid (V.bl = v.bl ∧ V.k = v.k ∧ V.p = v.p ∧ V.g = v.g ∧ V.m = refOf id21 v.g s') := Lib.hid ⟨q1, q2, q3, q4, q5⟩
     have MB := Lib.hid mV
     have HBS := Lib.hid (HBA.out.trans (hks.imp fun b _ hb => by obtain ⟨_, e1, e2, e3, e4, e5, e6, e7, e8⟩ := HE.out b hb; exact ⟨e1, e6, e7, e8⟩))
     have HEV : Hid (∀ b, E b → FarOf bw q V A8 b) := Lib.hid (fun b hb => by obtain ⟨e0, e1, e2, e3, e4, e5, e6, e7, e8⟩ := HE.out b hb; have hor : ∀ {B B2 : Option Addr}, (∀ k, blk B2 = some k → blk B = some k ∨ wa.heap.size ≤ k) → some b ≠ blk B → some b ≠ blk B2 := (fun ho hn e => (ho b e.symm).elim (fun h1 => hn h1.symm) (fun h1 => by omega)); exact ⟨e1, by rw [q1]; exact e2, e3, HF8.out b hb, hor hVw.1 e5, hor hVw.2.1 e6, hor hVw.2.2.1 e7, hor hVw.2.2.2 e8⟩)
     have hVg : some g5 ≠ blk V.Aw := fun e => by rcases hVw.1 g5 e.symm with h1 | h1; exact (by have h2 := (HH.out.1.mid.doc.waits.lt g5 h1).2; omega); (have h3 := (Array.getElem?_eq_some_iff.1 HXA.out).1; omega)
     have HXS := Lib.hid (hks.blockAt HXA.out ⟨by omega, fun e => by have := (HH.out.1.mid.doc.heads.lt g5 e.symm).2; omega, fun e => by have := (HH.out.1.mid.doc.all.lt g5 e.symm).2; omega, fun e => by have := (HH.out.1.mid.doc.image.lt g5 e.symm).2; omega⟩)
     have hzs := hks.size
     have HVG := Lib.hid hVg
     clear hbs hks mV q1 q2 q3 q4 q5 hVw hdV hVg HWS HXA HBA hza2
     go_upto_region 17 with fail
     have kdr : New ws ws.drew := (New.refl ws).drew
     have M0 := Lib.hid ((MB.out.withFar (E := B) (fun b hb => HEV.out b (hBE b hb))).new kdr)
     have HXB := Lib.hid (kdr.blockAt HXS.out trivial)
     have HB0 := Lib.hid (HBS.out.new kdr)
     have hzq : w.heap.size ≤ ws.drew.heap.size := by show w.heap.size ≤ ws.heap.size; omega
     refine holdW_begin [7, 10] (Keep (fun j => j ≠ bw ∧ some j ≠ blk V.Aw) ws.drew) (New ws.drew) (by kernel_rfl) ?_
     generalize ws.drew = wq at *
     clear kdr
     have s0 : Keep (fun j => j ≠ bw ∧ some j ≠ blk V.Aw) wq wq := Keep.refl _ _
     have t0 : New wq wq := New.refl _
     have hgg : g5 ≠ bw ∧ some g5 ≠ blk V.Aw := ⟨by omega, HVG.out⟩
     have r0 : ∀ W, Keep (fun j => j ≠ bw ∧ some j ≠ blk V.Aw) wq W → W.cell? ⟨g5, 0, none⟩ = some (.int .i64 r.kind) := fun W hW => cellOf (k := 0) (hW.blockAt HXB.out hgg) rfl
     have r1 : ∀ W, Keep (fun j => j ≠ bw ∧ some j ≠ blk V.Aw) wq W → W.cell? ⟨g5, 1, none⟩ = some (.int .u64 r.seq) := fun W hW => cellOf (k := 1) (hW.blockAt HXB.out hgg) rfl
     have r2 : ∀ W, Keep (fun j => j ≠ bw ∧ some j ≠ blk V.Aw) wq W → W.cell? ⟨g5, 2, none⟩ = some (.slice none 0 0) := fun W hW => cellOf (k := 2) (hW.blockAt HXB.out hgg) rfl
     have r13 : ∀ W, New wq W → W.cell? ⟨bw, 13, none⟩ = some (.slice V.Aw V.nw V.cw) := fun W hW => (M0.out.doc.cells.new hW).cell rfl
     refine holdW_read (i := 0) (v := ?_) ⟨s0, fun _ => t0⟩ rfl (by kernel_rfl) (by kernel_rfl) (by kernel_rfl) rfl (fun _ _ _ h => h) rfl ?_ ?_
     rotate_left
     ·intro w' hN
      go_simp
      try with_reducible rfl
     simp only [Act.put, ly1, ly3, ly4, ly5, ly6]
     refine holdW_read (i := 1) (v := ?_) ⟨s0, fun _ => t0⟩ rfl (by kernel_rfl) (by kernel_rfl) (by kernel_rfl) rfl (fun _ _ _ h => h) rfl ?_ ?_
     rotate_left
     ·intro w' hN
      go_simp
      try with_reducible rfl
     simp only [Act.put, ly1, ly2, ly3, ly4, ly5, ly6]
     refine holdW_read (i := 2) (v := ?_) ⟨s0, fun _ => t0⟩ rfl (by kernel_rfl) (by kernel_rfl) (by kernel_rfl) rfl (fun _ _ _ h => h) rfl ?_ ?_
     rotate_left
     ·intro w' hN
      go_simp
      try with_reducible rfl
     simp only [Act.put, ly1, ly2, ly3, ly4, ly5, ly6]
     refine holdW_read (i := 3) (v := ?_) ⟨s0, fun _ => t0⟩ rfl (by kernel_rfl) (by kernel_rfl) (by kernel_rfl) rfl (fun _ _ _ h => h) rfl ?_ ?_
     rotate_left
     ·intro w' hN
      go_simp
      try with_reducible rfl
     simp only [Act.put, ly1, ly2, ly3, ly4, ly5, ly6]
     refine holdW_readT (i := 4) (v := ?_) ⟨s0, fun _ => t0⟩ rfl (by kernel_rfl) (by kernel_rfl) (by kernel_rfl) (by kernel_rfl) (by kernel_rfl) (fun _ _ _ h => h) rfl ?_ ?_
     rotate_left
     ·intro w' hN
      go_simp
      try with_reducible rfl
     simp only [Act.put, ly1, ly2, ly3, ly4, ly5, ly6]
     refine holdW_read (i := 5) (v := ?_) ⟨s0, fun _ => t0⟩ rfl (by kernel_rfl) (by kernel_rfl) (by kernel_rfl) rfl (fun _ _ _ h => h) rfl ?_ ?_
     rotate_left
     ·intro w' hN
      go_simp
      try with_reducible rfl
     simp only [Act.put, ly1, ly2, ly3, ly4, ly5, ly6]
     clear r0 r1 r2 r13 hgg
     refine holdW_step (i := 6) (by kernel_rfl) rfl rfl (fun K hK => ?_)
     go_simp
     try go_wp2_with fail
     have kA : New wq (wq.alloc (.cells #[.int .i64 r.kind, .int .u64 r.seq, .slice none 0 0] 70)) := (New.refl wq).alloc _
     have hrw := (Row.made wq 70 #[.int .i64 r.kind, .int .u64 r.seq, .slice none 0 0] 1 3 rfl).imp (E := fun _ => True) fun _ _ _ => trivial
     refine hK.out _ _ ⟨s0.new kA, fun _ => kA⟩ ?_
     clear hK K
     try simp only [Act.put, ly1, ly2, ly3, ly4, ly5, ly6]
     generalize wq.alloc (.cells #[.int .i64 r.kind, .int .u64 r.seq, .slice none 0 0] 70) = wr1 at *
     refine holdW_step (i := 7) (by kernel_rfl) rfl rfl (fun K hK => ?_)
     obtain ⟨q0, hq0, hqz, hqs, hqb⟩ := info_parts info_refrec
     have hnw62 : V.nw ≤ 62 := by have hwl := wait_many HH.out.1.st.right; have hwb := HH.out.1.st.bytes; have hnwv := M0.out.doc.nw; rw [hnwv]; unfold LogS.shut; split <;> simp <;> omega
     have hwq := (M0.out.doc.waits.imp (fun b hb hd => And.intro hd hb)).new kA
     refine wp_sl (E := recElt) _ _ _ 37 70 rfl q0 (.agg #[.int .i64 0, .int .u64 0, .slice none 0 0]) 40 Tryz.underlying37 hq0 hqz hqs hqb rfl base _ V.Aw V.nw V.cw s.shut.waits rfl hwq (fun _ => True) (some ⟨wq.heap.size, 0, none⟩) 1 [.int .i64 r.kind, .int .u64 r.seq, .slice none 0 0] r rfl hrw ⟨none, 0, rfl, rfl, by rw [HRR.out.2.1]; rfl, by rw [HRR.out.2.1]; exact hrc.1, by rw [HRR.out.2.1]; exact (((HRB.out w (New.refl w)).keep HB0.out (fun b _ hb => hBE b hb)).new kA).imp (fun b _ hb => ⟨⟨.inr hb, by have := (HE.out b (hBE b hb)).1; omega⟩, (HEV.out b (hBE b hb)).2.2.2.2.1⟩), by rw [HRR.out.2.2]; exact hn0, by rw [HRR.out.2.2]; omega, by rw [HRR.out.2.1]; omega, hrc.2.1⟩ (by omega) (by omega) (by have := M0.out.size; have := kA.size; omega) ?_
     intro A9 c9 wr2 o9 hg9 hbk9
     have kB : Keep (fun j => some j ≠ blk V.Aw) wr1 wr2 := Keep.grown (Keep.refl _ _) hg9 (fun j hj hd => absurd hj.symm hd)
     have s7 : Keep (fun j => j ≠ bw ∧ some j ≠ blk V.Aw) wq wr2 := (s0.new kA).trans2 kB (fun b _ hb => hb.2)
     refine hK.out _ _ ⟨s7, fun h => absurd h (by decide)⟩ ?_
     clear hK K
     try simp only [Act.put, ly1, ly2, ly3, ly4, ly5, ly6]
     refine holdW_read (i := 8) (v := ?_) ⟨s7, fun h => absurd h (by decide)⟩ rfl (by kernel_rfl) (by kernel_rfl) (by kernel_rfl) rfl (fun _ _ _ h => h) rfl ?_ ?_
     rotate_left
     ·intro w' hN
      go_simp
      try with_reducible rfl
     simp only [Act.put, ly1, ly2, ly3, ly4, ly5, ly6]
     refine holdW_read (i := 9) (v := ?_) ⟨s7, fun h => absurd h (by decide)⟩ rfl (by kernel_rfl) (by kernel_rfl) (by kernel_rfl) rfl (fun _ _ _ h => h) rfl ?_ ?_
     rotate_left
     ·intro w' hN
      go_simp
      try with_reducible rfl
     simp only [Act.put, ly1, ly2, ly3, ly4, ly5, ly6]
     have hcB := (M0.out.doc.cells.new kA).keep kB (fun e => M0.out.doc.no.1 e.symm)
     have d13 : wr2.cell? ⟨bw, 13, none⟩ = some (.slice V.Aw V.nw V.cw) := hcB.cell rfl
     have f13 := hcB.free 13
     refine holdW_step (i := 10) (by kernel_rfl) rfl rfl (fun K hK => ?_)
     go_simp
     have hcC : W21At (wr2.setCell ⟨bw, 13, none⟩ (.slice A9 (V.nw + 1) c9)) bw { V with Aw := A9, nw := V.nw + 1, cw := c9 } := hcB.set 13 _ rfl
     have kS := keep_cell wr2 bw 13 (.slice A9 (V.nw + 1) c9)
     have s8 := s7.trans2 kS (fun b _ hb => hb.1)
     refine hK.out _ _ ⟨s8, fun h => absurd h (by decide)⟩ ?_
     clear hK K d13 f13 hcB
     try simp only [Act.put, ly1, ly2, ly3, ly4, ly5, ly6]
     generalize wr2.setCell _ _ = wr3 at *
     refine wpAnyW_done (by kernel_rfl) ?_ _
     have HS8 := Lib.hid (s8.imp fun b _ hb => (show b ≠ bw ∧ some b ≠ blk V.Aw from ⟨(HEV.out b hb).1, (HEV.out b hb).2.2.2.2.1⟩))
     have HA9 : Hid (∀ b, E b → some b ≠ blk A9) := Lib.hid (fun b hb => far_row (n := w.heap.size) (fun k hk => hbk9.elim (fun e => .inl (e ▸ hk)) (fun e => .inr (by rw [e] at hk; injection hk with hk; have h1 := kA.size; omega))) (HEV.out b hb).2.2.2.2.1 (HE.out b hb).1)
     obtain ⟨hkb, D9, DL9, M9, hd9, hdl9⟩ := M0.out.wait kA s8 kS hcC o9 hbk9
     have HD9 : Hid (∀ b, b < w.heap.size → (D9 b → D b ∨ B b) ∧ (DL9 b → DL b)) := Lib.hid (fun b hb => ⟨fun h => (hd9 b h).elim (fun h => .inl ((HDV.out b hb).1 h)) .inr, fun h => (HDV.out b hb).2 (hdl9 b h)⟩)
     clear hd9 hdl9
     clear s0 t0 hwq hrw o9 hg9 hbk9 kB s7 hcC kS s8 kA hnw62 hq0 hqz hqs hqb
     have hfin : WAt J wr3 D9 DL9 base bw q { V with Aw := A9, nw := V.nw + 1, cw := c9 } s' A8 c8 S8 := by
      obtain ⟨e1, e2, e3, e4, e5⟩ := HKP.out
      refine ⟨?_, by show LogSt id21 V.g s'; rw [e4]; exact HFS.out.2.1, by show V.m = refOf id21 V.g s'; rw [e5, e4], by show J ∨ LaidOn S8 V.p V.g _; rw [e3, e4]; exact HFS.out.2.2⟩
      rw [show lvOf { V with Aw := A9, nw := V.nw + 1, cw := c9 } s' = lvOf v s' from by unfold lvOf; rw [e2, e3, e4]]
      have h9 := M9
      rw [← HSQ.out] at h9
      exact h9
     have HSM := Lib.hid hfin.same
     have HF := Lib.hid hfin
     have HBZ := Lib.hid (HB0.out.trans HS8.out)
     clear hfin M9 hkb HB0
     go_wp2_with fail
     refine HSM.out.mono ?_
     rintro e wz ⟨rfl, kz⟩
     go_wp2_with fail
     go_ret
     unfold Do1RetE
     rw [HFS.out.1]
     exact ⟨rfl, HBZ.out.new kz, _, D9, DL9, A8, c8, S8, HF.out.new kz, HKP.out.2.1, HKP.out.2.2.1, HKP.out.2.2.2.1, fun b hb hf => by have h1 := HEV.out b (HED.out b hb hf); have h2 := HA9.out b (HED.out b hb hf); obtain ⟨f1, f2, f3, f4, f5, f6⟩ := h1; exact ⟨f1, f2, f3, f4, h2, f6⟩, HD9.out⟩
theorem do1_farB {J : Prop} {B : Nat → Prop} (h : WAt J w D DL base bw q v s A c S) (hBF : ∀ b, B b → b < w.heap.size ∧ FarOf bw q v A b) (by' : Int) (hy0 : -9223372036854775808 ≤ by') (hy1 : by' ≤ 9223372036854775807) (mk : Bool) (Ab : Option Addr) (nb cb : Nat) (bs : List UInt8) (hB : Bs w B Ab nb bs) (hcb : nb ≤ cb) (hcm : cb ≤ 9223372036854775807) (ht : v.m.next < 1000000) :
  Calls Tryz.prog 10 #[.pointer (some ⟨bw, 0, none⟩), .agg #[.int .i64 1, .int .i64 by', .bool mk, .slice Ab nb cb]] w (Do1Ret J w D DL B base bw q v A (s.ask v.g v.m.next mk by' bs)) :=
 do1_farE hBF h (fun _ hb => hb) (fun _ h1 h2 => ⟨h1, h2⟩) by' hy0 hy1 mk Ab nb cb bs hB hcb hcm ht
theorem do1_far {J : Prop} (h : WAt J w D DL base bw q v s A c S) (by' : Int) (hy0 : -9223372036854775808 ≤ by') (hy1 : by' ≤ 9223372036854775807) (mk : Bool) (Ab : Option Addr) (nb cb : Nat) (bs : List UInt8) (hB : Bs w (fun b => b < w.heap.size ∧ FarOf bw q v A b) Ab nb bs) (hcb : nb ≤ cb) (hcm : cb ≤ 9223372036854775807) (ht : v.m.next < 1000000) :
  Calls Tryz.prog 10 #[.pointer (some ⟨bw, 0, none⟩), .agg #[.int .i64 1, .int .i64 by', .bool mk, .slice Ab nb cb]] w (Do1Ret J w D DL (fun b => b < w.heap.size ∧ FarOf bw q v A b) base bw q v A (s.ask v.g v.m.next mk by' bs)) :=
 do1_farE (fun _ h => h) h (fun _ hb => hb) (fun _ h1 h2 => ⟨h1, h2⟩) by' hy0 hy1 mk Ab nb cb bs hB hcb hcm ht
end
end Go.Proofs.YtajnkbfcnmajoaaGreatDoor
