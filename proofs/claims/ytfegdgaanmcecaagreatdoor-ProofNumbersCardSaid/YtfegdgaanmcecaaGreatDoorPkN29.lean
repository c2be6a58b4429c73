/-
  PROVED HERE: what permafrostref24.Check answers: what proof.Check does; conditions: lengths that a slice may have.
-/
import Derived.Deep.CutRange
import Derived.Test.YtfegdgaanmcecaaGreatDoorPkN28
namespace Go.Proofs.YtfegdgaanmcecaaGreatDoor
open Go.RowKit
set_option maxRecDepth 100000 in
set_option maxHeartbeats 2000000 in
theorem pcheck24_any (D D1 D2 D3 D4 D5 : Nat → Prop) (A P1 R1 L Pa La : Option Addr) (n c p1 r1 lc m pc q lac : Nat) (hd : List UInt8) (p : ProofP) (w : World) (hA : Bs w D A n hd) (hP1 : Bs w D1 P1 p.head.prev.length p.head.prev) (hp1 : p.head.prev.length ≤ p1) (hR1 : Bs w D2 R1 p.head.root.length p.head.root) (hr1 : p.head.root.length ≤ r1)
  (hL : Bs w D3 L p.leaf.length p.leaf) (hlc : p.leaf.length ≤ lc) (hlc9 : lc ≤ 9223372036854775807) (hl9 : p.leaf.length ≤ 1099511620000) (hPa : Bss w D4 Pa m p.path) (hpc : m ≤ pc) (hpc9 : pc ≤ 9223372036854775807) (hpb : ∀ b ∈ p.path, b.length ≤ 549755810000) (hLa : Heads w D5 La q p.later) (hq : q ≤ 1000000) (hn : p.head.count ≤ 1099511627776) (hf0 : 0 ≤ p.head.first) (hf1 : p.head.first ≤ 18446744073709551615) :
  Calls Tryz.prog 19 #[.slice A n c, .agg #[.int .i64 p.head.index, .int .u64 p.head.first, .int .i64 p.head.count, .int .i64 p.head.bytes, .slice P1 p.head.prev.length p1, .slice R1 p.head.root.length r1, .int .i64 p.place, .slice L p.leaf.length lc, .slice Pa m pc, .slice La q lac]] w (CheckRet (checkProof hd p) w) := by
 have HN1 := Lib.hid (((New.refl w).alloc (.cells #[.int .i64 p.head.index, .int .u64 p.head.first, .int .i64 p.head.count, .int .i64 p.head.bytes, .slice P1 p.head.prev.length p1, .slice R1 p.head.root.length r1, .int .i64 p.place, .slice L p.leaf.length lc, .slice Pa m pc, .slice La q lac] 50)).alloc (.cells #[.int .i64 0, .int .u64 0, .slice none 0 0] 53))
 have hXB := ((New.refl (w.alloc (.cells #[.int .i64 p.head.index, .int .u64 p.head.first, .int .i64 p.head.count, .int .i64 p.head.bytes, .slice P1 p.head.prev.length p1, .slice R1 p.head.root.length r1, .int .i64 p.place, .slice L p.leaf.length lc, .slice Pa m pc, .slice La q lac] 50))).alloc (.cells #[.int .i64 0, .int .u64 0, .slice none 0 0] 53)).blockAt (heap_alloc_new w (.cells #[.int .i64 p.head.index, .int .u64 p.head.first, .int .i64 p.head.count, .int .i64 p.head.bytes, .slice P1 p.head.prev.length p1, .slice R1 p.head.root.length r1, .int .i64 p.place, .slice L p.leaf.length lc, .slice Pa m pc, .slice La q lac] 50)) trivial
 have hXR := heap_alloc_new (w.alloc (.cells #[.int .i64 p.head.index, .int .u64 p.head.first, .int .i64 p.head.count, .int .i64 p.head.bytes, .slice P1 p.head.prev.length p1, .slice R1 p.head.root.length r1, .int .i64 p.place, .slice L p.leaf.length lc, .slice Pa m pc, .slice La q lac] 50)) (.cells #[.int .i64 0, .int .u64 0, .slice none 0 0] 53)
 rw [World.size_alloc] at hXR
 have HCH := Lib.hid (fun W (h : New w W) => check6_any D2 D3 D4 R1 L Pa p.head.root.length r1 p.leaf.length lc m pc p.head.root p.leaf p.place p.head.count p.path W (hR1.new h) (hL.new h) hl9 (hPa.new h) hpc hpc9 hpb hn)
 have HDE := Lib.hid (fun W (h : New w W) => decode16_any D3 L p.leaf.length lc p.leaf W (hL.new h) hlc hlc9 (by omega))
 have HA := Lib.hid hA
 have HP1 := Lib.hid (hP1.imp (E := fun b => b < w.heap.size) fun b hb _ => hb)
 have HR1 := Lib.hid (hR1.imp (E := fun b => b < w.heap.size) fun b hb _ => hb)
 have HLA := Lib.hid (hLa.imp (E := fun b => b < w.heap.size) fun b hb _ => hb)
 clear hA hP1 hR1 hL hPa hLa hpb
 obtain ⟨y0, y1, y2, y3, y4, y5, y6, y7, y8, y9⟩ := cs10 hXB
 go_enter Tryz.func19, Tryz.ntmps19
 by_cases ho : 0 ≤ p.place ∧ p.place < p.head.count
 case neg =>
  have HR : Hid (checkProof hd p = none) := Lib.hid (by unfold checkProof; rw [checkOf_out _ _ _ _ _ ho]; rfl)
  obtain ⟨f0, f1, f2⟩ := cs3 hXR
  obtain ⟨z0, z1, z2⟩ := fz3 hXR
  by_cases h1 : p.place < 0
  ·clear hXB hXR ho
   go_wp2_with fail
   refine bodyPost_ret (v := .tuple #[.agg #[.int .i64 0, .int .u64 0, .slice none 0 0], .bool false]) (by simp [results, Tryz.results19, go_sem, f0, f1, f2]) rfl ?_
   rw [HR.out]
   exact ⟨⟨none, 0, rfl, Row.nil _ _ _ _⟩, HN1.out⟩
  ·have h2 : p.head.count ≤ p.place := by omega
   clear hXB hXR ho
   go_wp2_with fail
   refine bodyPost_ret (v := .tuple #[.agg #[.int .i64 0, .int .u64 0, .slice none 0 0], .bool false]) (by simp [results, Tryz.results19, go_sem, f0, f1, f2]) rfl ?_
   rw [HR.out]
   exact ⟨⟨none, 0, rfl, Row.nil _ _ _ _⟩, HN1.out⟩
 have p1' : ¬ p.place < 0 := by omega
 have p2' : ¬ p.head.count ≤ p.place := by omega
 clear ho
 go_wp2_with fail
 clear y0 y1 y2 y3 y4 y5 y6 y7 y8 y9
 have HXB := Lib.hid hXB
 have HXR := Lib.hid hXR
 clear hXB hXR
 generalize (w.alloc (.cells #[.int .i64 p.head.index, .int .u64 p.head.first, .int .i64 p.head.count, .int .i64 p.head.bytes, .slice P1 p.head.prev.length p1, .slice R1 p.head.root.length r1, .int .i64 p.place, .slice L p.leaf.length lc, .slice Pa m pc, .slice La q lac] 50)).alloc (.cells #[.int .i64 0, .int .u64 0, .slice none 0 0] 53) = w1 at *
 refine (HCH.out _ HN1.out).mono ?_
 rintro e w2 ⟨rfl, k2⟩
 have HN2 := Lib.hid (HN1.out.new k2)
 have HXB2 := Lib.hid (k2.blockAt HXB.out trivial)
 have HXR2 := Lib.hid (k2.blockAt HXR.out trivial)
 have HSZ : Hid (w.heap.size + 1 < w2.heap.size) := Lib.hid (Array.getElem?_eq_some_iff.1 HXR2.out).1
 clear k2 HXB HXR HN1 HCH p1' p2'
 cases hck : checkOf p.head.root p.leaf p.place p.head.count p.path
 ·have HR : Hid (checkProof hd p = none) := Lib.hid (by unfold checkProof; rw [hck]; rfl)
  obtain ⟨d0, d1, d2⟩ := cs3 HXR2.out
  obtain ⟨z0, z1, z2⟩ := fz3 HXR2.out
  go_wp2_with fail
  clear d0 d1 d2 z0 z1 z2
  have hE := set_three HXR2.out (.int .i64 0) (.int .u64 0) (.slice none 0 0)
  have hKE := new_three HN2.out (g := w.heap.size + 1) (Nat.le_succ _) (.int .i64 0) (.int .u64 0) (.slice none 0 0)
  generalize hwE : World.setCell _ _ _ = wE at *
  obtain ⟨f0, f1, f2⟩ := cs3 hE
  refine bodyPost_ret (v := .tuple #[.agg #[.int .i64 0, .int .u64 0, .slice none 0 0], .bool false]) (by simp [results, Tryz.results19, go_sem, f0, f1, f2]) rfl ?_
  rw [HR.out]
  exact ⟨⟨none, 0, rfl, Row.nil _ _ _ _⟩, hKE⟩
 ·have HCK := Lib.hid hck
  clear hck
  obtain ⟨y0, y1, y2, y3, y4, y5, y6, y7, y8, y9⟩ := cs10 HXB2.out
  have hX3 := ((New.refl w2).alloc (.cells #[.int .i64 p.head.index, .int .u64 p.head.first, .int .i64 p.head.count, .int .i64 p.head.bytes, .slice P1 p.head.prev.length p1, .slice R1 p.head.root.length r1] 40)).blockAt HXB2.out trivial
  have hR3 := ((New.refl w2).alloc (.cells #[.int .i64 p.head.index, .int .u64 p.head.first, .int .i64 p.head.count, .int .i64 p.head.bytes, .slice P1 p.head.prev.length p1, .slice R1 p.head.root.length r1] 40)).blockAt HXR2.out trivial
  have hG3 := heap_alloc_new w2 (.cells #[.int .i64 p.head.index, .int .u64 p.head.first, .int .i64 p.head.count, .int .i64 p.head.bytes, .slice P1 p.head.prev.length p1, .slice R1 p.head.root.length r1] 40)
  have HN3 := Lib.hid (HN2.out.alloc (.cells #[.int .i64 p.head.index, .int .u64 p.head.first, .int .i64 p.head.count, .int .i64 p.head.bytes, .slice P1 p.head.prev.length p1, .slice R1 p.head.root.length r1] 40))
  go_wp2_with fail
  clear y0 y1 y2 y3 y4 y5 y6 y7 y8 y9
  have HX3 := Lib.hid hX3
  have HR3 := Lib.hid hR3
  have HG3 := Lib.hid hG3
  clear hX3 hR3 hG3 HXB2 HXR2
  generalize w2.alloc (.cells #[.int .i64 p.head.index, .int .u64 p.head.first, .int .i64 p.head.count, .int .i64 p.head.bytes, .slice P1 p.head.prev.length p1, .slice R1 p.head.root.length r1] 40) = w3 at *
  generalize w2.heap.size = g6 at *
  have HS6 : Hid (w.heap.size + 1 < g6) := Lib.hid HSZ.out
  have hg6a : w.heap.size ≠ g6 := by have := HS6.out; omega
  have hg6b : w.heap.size + 1 ≠ g6 := by have := HS6.out; omega
  have HNE := Lib.hid (And.intro hg6a hg6b)
  clear hg6a hg6b
  go_loopw [7] (fun i wx => ∃ (k : Nat) (l : HeadP) (P R : Option Addr) (pp rr : Nat), k ≤ q ∧ i = .int .i64 (k : Int) ∧ lastOf p.head p.later = lastOf l (p.later.drop k) ∧ wx.heap[g6]? = some (.cells #[.int .i64 l.index, .int .u64 l.first, .int .i64 l.count, .int .i64 l.bytes, .slice P l.prev.length pp, .slice R l.root.length rr] 40 (0, 0)) ∧ Bs wx (fun b => b ≠ g6) P l.prev.length l.prev ∧ l.prev.length ≤ pp ∧ Bs wx (fun b => b ≠ g6) R l.root.length l.root ∧ l.root.length ≤ rr ∧ 0 ≤ l.first ∧ l.first ≤ 18446744073709551615 ∧ Keep (fun b => b ≠ g6) w3 wx) (fun i _ => q - (intOf i).toNat)
  case atStart => exact ⟨0, p.head, P1, R1, p1, r1, Nat.zero_le _, rfl, rfl, HG3.out, (Row.new HP1.out HN3.out).imp (fun b _ hd => by have := HS6.out; show b ≠ g6; omega), hp1, (Row.new HR1.out HN3.out).imp (fun b _ hd => by have := HS6.out; show b ≠ g6; omega), hr1, hf0, hf1, Keep.refl _ _⟩
  case round =>
   obtain ⟨k, l, P, R, pp, rr, hk, rfl, hlo, hG, hlP, hpp, hlR, hrr, hl0, hl1, hK⟩ := hrel
   have y9 := cellOf (hK.blockAt HX3.out HNE.out.1) (k := 9) rfl
   by_cases hlt : k < q
   ·have hlk : k < p.later.length := by have := HLA.out.len; omega
    have hdr : p.later.drop k = p.later[k] :: p.later.drop (k + 1) := List.drop_eq_getElem_cons hlk
    rw [hdr, lastOf] at hlo
    obtain ⟨b, off, A1, c1, A2, c2, rfl, hbD, u0, u1, u2, u3, u4, u5, l1, l2, b1, b2, f0, f1⟩ := ((HLA.out.new HN3.out).keep hK (fun b _ hd => by have := HS6.out; show b ≠ g6; omega)).at_ hlk
    generalize p.later[k] = x at *
    have HF := Lib.hid (fun W (q : New wr W) => behind_any _ _ _ (fun _ => True) P R A1 A2 pp rr c1 c2 l x W (hlP.new q) hpp (hlR.new q) hrr (b1.new q) hl0 hl1)
    have HX4 := Lib.hid (hK.blockAt HX3.out HNE.out.1)
    have HR4 := Lib.hid (hK.blockAt HR3.out HNE.out.2)
    have HG4 := Lib.hid hG
    have HN4 := Lib.hid ((Keep.trans2 (D := fun b => b < w.heap.size) (Keep.of_new HN3.out) hK (fun i _ hi e => by have := HS6.out; omega)).toNew (fun i hi => hi))
    have HB1 := Lib.hid b1
    have HB2 := Lib.hid b2
    have HKA := Lib.hid hK
    have HLO := Lib.hid hlo
    have HTL : Hid (∀ b, b < w.heap.size → b ≠ g6) := Lib.hid (fun b hb => by have := HS6.out; omega)
    have HU : Hid (∀ W, New wr W → W.cell? ⟨b, off + k * 6, none⟩ = some (.int .i64 x.index) ∧ W.cell? ⟨b, off + k * 6 + 1, none⟩ = some (.int .u64 x.first) ∧ W.cell? ⟨b, off + k * 6 + 2, none⟩ = some (.int .i64 x.count) ∧ W.cell? ⟨b, off + k * 6 + 3, none⟩ = some (.int .i64 x.bytes) ∧ W.cell? ⟨b, off + k * 6 + 4, none⟩ = some (.slice A1 x.prev.length c1) ∧ W.cell? ⟨b, off + k * 6 + 5, none⟩ = some (.slice A2 x.root.length c2)) := Lib.hid fun W q => ⟨q.cell_some u0 trivial, q.cell_some u1 trivial, q.cell_some u2 trivial, q.cell_some u3 trivial, q.cell_some u4 trivial, q.cell_some u5 trivial⟩
    have t0 := fun W (q : New wr W) => cellOf (q.blockAt HG4.out trivial) (k := 0) rfl
    have t1 := fun W (q : New wr W) => cellOf (q.blockAt HG4.out trivial) (k := 1) rfl
    have t2 := fun W (q : New wr W) => cellOf (q.blockAt HG4.out trivial) (k := 2) rfl
    have t3 := fun W (q : New wr W) => cellOf (q.blockAt HG4.out trivial) (k := 3) rfl
    have t4 := fun W (q : New wr W) => cellOf (q.blockAt HG4.out trivial) (k := 4) rfl
    have t5 := fun W (q : New wr W) => cellOf (q.blockAt HG4.out trivial) (k := 5) rfl
    have t9 := fun W (q : New wr W) => cellOf (q.blockAt HX4.out trivial) (k := 9) rfl
    have s0 := fun W (q : New wr W) => (HU.out W q).1
    have s1 := fun W (q : New wr W) => (HU.out W q).2.1
    have s2 := fun W (q : New wr W) => (HU.out W q).2.2.1
    have s3 := fun W (q : New wr W) => (HU.out W q).2.2.2.1
    have s4 := fun W (q : New wr W) => (HU.out W q).2.2.2.2.1
    have s5 := fun W (q : New wr W) => (HU.out W q).2.2.2.2.2
    clear b1 b2 hlo hdr hG hlP hlR hK u0 u1 u2 u3 u4 u5
    go_wp2_with fail
    refine hold_begin (by kernel_rfl) ?_
    have n0 : New wr wr.drew := (New.refl wr).drew
    replace t0 := fun W (hW : New wr.drew W) => t0 W (Keep.new n0 hW)
    replace t1 := fun W (hW : New wr.drew W) => t1 W (Keep.new n0 hW)
    replace t2 := fun W (hW : New wr.drew W) => t2 W (Keep.new n0 hW)
    replace t3 := fun W (hW : New wr.drew W) => t3 W (Keep.new n0 hW)
    replace t4 := fun W (hW : New wr.drew W) => t4 W (Keep.new n0 hW)
    replace t5 := fun W (hW : New wr.drew W) => t5 W (Keep.new n0 hW)
    replace t9 := fun W (hW : New wr.drew W) => t9 W (Keep.new n0 hW)
    replace s0 := fun W (hW : New wr.drew W) => s0 W (Keep.new n0 hW)
    replace s1 := fun W (hW : New wr.drew W) => s1 W (Keep.new n0 hW)
    replace s2 := fun W (hW : New wr.drew W) => s2 W (Keep.new n0 hW)
    replace s3 := fun W (hW : New wr.drew W) => s3 W (Keep.new n0 hW)
    replace s4 := fun W (hW : New wr.drew W) => s4 W (Keep.new n0 hW)
    replace s5 := fun W (hW : New wr.drew W) => s5 W (Keep.new n0 hW)
    refine take1 0 ?_
    refine take1 1 ?_
    refine take1 2 ?_
    refine take1 3 ?_
    refine take1 4 ?_
    refine take1 5 ?_
    refine hold_step (i := 6) (by kernel_rfl) rfl rfl (fun K hK => ?_)
    go_simp
    refine (HF.out _ n0).mono ?_
    rintro e w5 ⟨rfl, k5⟩
    go_wp2_with fail
    refine hK.out _ _ k5 ?_
    clear hK K
    try simp only [Act.put, ly1, ly2, ly3, ly4, ly5, ly6]
    replace n0 := Keep.new n0 k5
    replace t0 := fun W (hW : New w5 W) => t0 W (Keep.new k5 hW)
    replace t1 := fun W (hW : New w5 W) => t1 W (Keep.new k5 hW)
    replace t2 := fun W (hW : New w5 W) => t2 W (Keep.new k5 hW)
    replace t3 := fun W (hW : New w5 W) => t3 W (Keep.new k5 hW)
    replace t4 := fun W (hW : New w5 W) => t4 W (Keep.new k5 hW)
    replace t5 := fun W (hW : New w5 W) => t5 W (Keep.new k5 hW)
    replace t9 := fun W (hW : New w5 W) => t9 W (Keep.new k5 hW)
    replace s0 := fun W (hW : New w5 W) => s0 W (Keep.new k5 hW)
    replace s1 := fun W (hW : New w5 W) => s1 W (Keep.new k5 hW)
    replace s2 := fun W (hW : New w5 W) => s2 W (Keep.new k5 hW)
    replace s3 := fun W (hW : New w5 W) => s3 W (Keep.new k5 hW)
    replace s4 := fun W (hW : New w5 W) => s4 W (Keep.new k5 hW)
    replace s5 := fun W (hW : New w5 W) => s5 W (Keep.new k5 hW)
    refine take1 7 ?_
    refine wpAnyH_done (by kernel_rfl) ?_ _
    clear t0 t1 t2 t3 t4 t5 t9 s0 s1 s2 s3 s4 s5 y9
    cases hfo : followOf l x
    ·have HR : Hid (checkProof hd p = none) := Lib.hid (by unfold checkProof; rw [HCK.out, if_pos rfl, HLO.out, hfo]; rfl)
     have hR5 := n0.blockAt HR4.out trivial
     have hN5 := HN4.out.new n0
     obtain ⟨d0, d1, d2⟩ := cs3 hR5
     obtain ⟨z0, z1, z2⟩ := fz3 hR5
     go_wp2_with fail
     clear d0 d1 d2 z0 z1 z2
     have hE := set_three hR5 (.int .i64 0) (.int .u64 0) (.slice none 0 0)
     have hKE := new_three hN5 (g := w.heap.size + 1) (Nat.le_succ _) (.int .i64 0) (.int .u64 0) (.slice none 0 0)
     generalize hwE : World.setCell _ _ _ = wE at *
     obtain ⟨f0, f1, f2⟩ := cs3 hE
     refine bodyPost_ret (v := .tuple #[.agg #[.int .i64 0, .int .u64 0, .slice none 0 0], .bool false]) (by simp [results, Tryz.results19, go_sem, f0, f1, f2]) rfl ?_
     rw [HR.out]
     exact ⟨⟨none, 0, rfl, Row.nil _ _ _ _⟩, hKE⟩
    ·have HL2 : Hid (lastOf p.head p.later = lastOf x (p.later.drop (k + 1))) := Lib.hid (by rw [HLO.out, hfo, if_pos rfl])
     go_upto_region 9 with fail
     have hG5 := n0.blockAt HG4.out trivial
     have y9 := cellOf (n0.blockAt HX4.out trivial) (k := 9) rfl
     obtain ⟨v0, v1, v2, v3, v4, v5⟩ := HU.out w5 n0
     obtain ⟨y0, y1, y2, y3, y4, y5⟩ := cs6 hG5
     obtain ⟨z0, z1, z2, z3, z4, z5⟩ := fz6 hG5
     have HE := Lib.hid (set_six hG5 (.int .i64 x.index) (.int .u64 x.first) (.int .i64 x.count) (.int .i64 x.bytes) (.slice A1 x.prev.length c1) (.slice A2 x.root.length c2))
     have hKK := HKA.out.new n0
     have HKE := Lib.hid ((((((hKK.setCell (p := ⟨g6, 0, none⟩) (fun h => absurd rfl h) (.int .i64 x.index)).setCell (p := ⟨g6, 1, none⟩) (fun h => absurd rfl h) (.int .u64 x.first)).setCell (p := ⟨g6, 2, none⟩) (fun h => absurd rfl h) (.int .i64 x.count)).setCell (p := ⟨g6, 3, none⟩) (fun h => absurd rfl h) (.int .i64 x.bytes)).setCell (p := ⟨g6, 4, none⟩) (fun h => absurd rfl h) (.slice A1 x.prev.length c1)).setCell (p := ⟨g6, 5, none⟩) (fun h => absurd rfl h) (.slice A2 x.root.length c2))
     have HQ := Lib.hid ((((((((Keep.refl (fun b => b ≠ g6) w5).setCell (p := ⟨g6, 0, none⟩) (fun h => absurd rfl h) (.int .i64 x.index)).setCell (p := ⟨g6, 1, none⟩) (fun h => absurd rfl h) (.int .u64 x.first)).setCell (p := ⟨g6, 2, none⟩) (fun h => absurd rfl h) (.int .i64 x.count)).setCell (p := ⟨g6, 3, none⟩) (fun h => absurd rfl h) (.int .i64 x.bytes)).setCell (p := ⟨g6, 4, none⟩) (fun h => absurd rfl h) (.slice A1 x.prev.length c1)).setCell (p := ⟨g6, 5, none⟩) (fun h => absurd rfl h) (.slice A2 x.root.length c2)))
     have HB1 := Lib.hid (HB1.out.new n0)
     have HB2 := Lib.hid (HB2.out.new n0)
     clear hKK hG5 n0
     go_wp2_with fail
     clear y0 y1 y2 y3 y4 y5 z0 z1 z2 z3 z4 z5 v0 v1 v2 v3 v4 v5 y9
     generalize hwE : World.setCell _ _ _ = wE at *
     go_roundw
     case rel => exact ⟨k + 1, x, A1, A2, c1, c2, by omega, by go_num, HL2.out, HE.out, (Row.keep HB1.out HQ.out (fun b _ hd => HTL.out b hd)).imp (fun b _ hd => HTL.out b hd), l1, (Row.keep HB2.out HQ.out (fun b _ hd => HTL.out b hd)).imp (fun b _ hd => HTL.out b hd), l2, f0, f1, HKE.out⟩
     case measure => simp [intOf]; omega
   ·obtain rfl : k = q := by omega
    have hlen := HLA.out.len
    rw [List.drop_eq_nil_of_le (by omega), lastOf] at hlo
    have hX4 := hK.blockAt HX3.out HNE.out.1
    have hR4 := hK.blockAt HR3.out HNE.out.2
    have HN4 := Lib.hid ((Keep.trans2 (D := fun b => b < w.heap.size) (Keep.of_new HN3.out) hK (fun i _ hi e => by have := HS6.out; omega)).toNew (fun i hi => hi))
    have y7 := cellOf hX4 (k := 7) rfl
    have HX4 := Lib.hid hX4
    have HR4 := Lib.hid hR4
    have HG4 := Lib.hid hG
    have HE0 : Hid (checkProof hd p = checkEnd hd p l) := Lib.hid (by unfold checkProof; rw [HCK.out, if_pos rfl, hlo]; rfl)
    have HSW : Hid (w.heap.size + 1 < wr.heap.size) := Lib.hid (Array.getElem?_eq_some_iff.1 hR4).1
    clear hX4 hR4 hG hlo hlen hK
    go_wp2_with fail
    clear y7 y9
    have HB4 : Hid (w.heap.size ≤ wr.heap.size) := Lib.hid HN4.out.size
    refine (HDE.out wr HN4.out).mono ?_
    rintro e w5 ⟨⟨A5, c5, rfl, o5⟩, k5⟩
    have HCE : Hid (checkEnd hd p l = if (sealOf l == hd && (recDec p.leaf).2.2 == 0 && ((recDec p.leaf).2.1 : Int) == (p.leaf.length : Int) && (recDec p.leaf).1.seq == IntKind.u64.wrap (p.head.first + IntKind.u64.wrap p.place)) = true then some (recDec p.leaf).1 else none) := Lib.hid rfl
    clear HDE
    generalize recDec p.leaf = d at *
    obtain ⟨r, nn, en⟩ := d
    dsimp only at o5 HCE ⊢
    have kB := (New.refl w5).alloc (.cells #[.int .i64 r.kind, .int .u64 r.seq, .slice A5 r.body.length c5] 53)
    have HSE := Lib.hid (fun W (q : New (w5.alloc (.cells #[.int .i64 r.kind, .int .u64 r.seq, .slice A5 r.body.length c5] 53)) W) => seal17_any _ _ P R l.prev.length pp l.root.length rr l W (((hlP.new k5).new kB).new q) hpp (((hlR.new k5).new kB).new q) hrr hl0 hl1)
    have HG6 := Lib.hid (kB.blockAt (k5.blockAt HG4.out trivial) trivial)
    have HX6 := Lib.hid (kB.blockAt (k5.blockAt HX4.out trivial) trivial)
    have HR6 := Lib.hid (kB.blockAt (k5.blockAt HR4.out trivial) trivial)
    have HV6 := Lib.hid (heap_alloc_new w5 (.cells #[.int .i64 r.kind, .int .u64 r.seq, .slice A5 r.body.length c5] 53))
    have HN6 := Lib.hid ((HN4.out.new k5).new kB)
    have HO6 := Lib.hid (Own.keepNew o5 kB)
    clear hlP hlR o5 k5 kB
    go_wp2_with fail
    generalize w5.alloc (.cells #[.int .i64 r.kind, .int .u64 r.seq, .slice A5 r.body.length c5] 53) = w6 at *
    generalize w5.heap.size = g9 at *
    have t0 := fun W (q : New w6 W) => cellOf (q.blockAt HG6.out trivial) (k := 0) rfl
    have t1 := fun W (q : New w6 W) => cellOf (q.blockAt HG6.out trivial) (k := 1) rfl
    have t2 := fun W (q : New w6 W) => cellOf (q.blockAt HG6.out trivial) (k := 2) rfl
    have t3 := fun W (q : New w6 W) => cellOf (q.blockAt HG6.out trivial) (k := 3) rfl
    have t4 := fun W (q : New w6 W) => cellOf (q.blockAt HG6.out trivial) (k := 4) rfl
    have t5 := fun W (q : New w6 W) => cellOf (q.blockAt HG6.out trivial) (k := 5) rfl
    have s1 := fun W (q : New w6 W) => cellOf (q.blockAt HX6.out trivial) (k := 1) rfl
    have s6 := fun W (q : New w6 W) => cellOf (q.blockAt HX6.out trivial) (k := 6) rfl
    have s7 := fun W (q : New w6 W) => cellOf (q.blockAt HX6.out trivial) (k := 7) rfl
    have q1 := fun W (q : New w6 W) => cellOf (q.blockAt HV6.out trivial) (k := 1) rfl
    have vh := fun W (q : New w6 W) => run_str (c := c) (HA.out.new (HN6.out.new q))
    generalize sealOf l = sl at *
    cases h2 : (en == 0)
    ·have e2 : (en != 0) = true := by simp [bne, h2]
     go_wp2_with fail
     refine hold_begin (by kernel_rfl) ?_
     have n0 : New w6 w6.drew := (New.refl w6).drew
     replace t0 := fun W (hW : New w6.drew W) => t0 W (Keep.new n0 hW)
     replace t1 := fun W (hW : New w6.drew W) => t1 W (Keep.new n0 hW)
     replace t2 := fun W (hW : New w6.drew W) => t2 W (Keep.new n0 hW)
     replace t3 := fun W (hW : New w6.drew W) => t3 W (Keep.new n0 hW)
     replace t4 := fun W (hW : New w6.drew W) => t4 W (Keep.new n0 hW)
     replace t5 := fun W (hW : New w6.drew W) => t5 W (Keep.new n0 hW)
     replace s1 := fun W (hW : New w6.drew W) => s1 W (Keep.new n0 hW)
     replace s6 := fun W (hW : New w6.drew W) => s6 W (Keep.new n0 hW)
     replace s7 := fun W (hW : New w6.drew W) => s7 W (Keep.new n0 hW)
     replace q1 := fun W (hW : New w6.drew W) => q1 W (Keep.new n0 hW)
     replace vh := fun W (hW : New w6.drew W) => vh W (Keep.new n0 hW)
     refine take1 0 ?_
     refine take1 1 ?_
     refine take1 2 ?_
     refine skip1 3 ?_
     refine skip1 4 ?_
     refine skip1 5 ?_
     refine skip1 6 ?_
     refine skip1 7 ?_
     refine take1 8 ?_
     refine take1 9 ?_
     refine skip1 10 ?_
     refine skip1 11 ?_
     refine skip1 12 ?_
     refine skip1 13 ?_
     refine skip1 14 ?_
     refine skip1 15 ?_
     refine take1 16 ?_
     refine take1 17 ?_
     refine skip1 18 ?_
     refine skip1 19 ?_
     refine skip1 20 ?_
     refine skip1 21 ?_
     refine skip1 22 ?_
     refine skip1 23 ?_
     refine skip1 24 ?_
     refine skip1 25 ?_
     refine skip1 26 ?_
     refine skip1 27 ?_
     refine take1 28 ?_
     refine wpAnyH_done (by kernel_rfl) ?_ _
     clear t0 t1 t2 t3 t4 t5 s1 s6 s7 q1 vh
     have HR7 := Lib.hid (n0.blockAt HR6.out trivial)
     have HN7 := Lib.hid (HN6.out.new n0)
     have HR : Hid (checkProof hd p = none) := Lib.hid (by rw [HE0.out, HCE.out, h2]; simp)
     obtain ⟨d0, d1, d2⟩ := cs3 HR6.out
     obtain ⟨z0, z1, z2⟩ := fz3 HR6.out
     go_wp2_with fail
     clear d0 d1 d2 z0 z1 z2
     have hE := set_three HR6.out (.int .i64 0) (.int .u64 0) (.slice none 0 0)
     have hKE := new_three HN6.out (g := w.heap.size + 1) (Nat.le_succ _) (.int .i64 0) (.int .u64 0) (.slice none 0 0)
     generalize hwE : World.setCell _ _ _ = wE at *
     obtain ⟨f0, f1, f2⟩ := cs3 hE
     refine bodyPost_ret (v := .tuple #[.agg #[.int .i64 0, .int .u64 0, .slice none 0 0], .bool false]) (by simp [results, Tryz.results19, go_sem, f0, f1, f2]) rfl ?_
     rw [HR.out]
     exact ⟨⟨none, 0, rfl, Row.nil _ _ _ _⟩, hKE.drew⟩
    ·have e2 : (en != 0) = false := by simp [bne, h2]
     cases h3 : ((nn : Int) == (p.leaf.length : Int))
     ·have e3 : ((nn : Int) != (p.leaf.length : Int)) = true := by rw [bne, h3]; rfl
      go_wp2_with fail
      refine hold_begin (by kernel_rfl) ?_
      have n0 : New w6 w6.drew := (New.refl w6).drew
      replace t0 := fun W (hW : New w6.drew W) => t0 W (Keep.new n0 hW)
      replace t1 := fun W (hW : New w6.drew W) => t1 W (Keep.new n0 hW)
      replace t2 := fun W (hW : New w6.drew W) => t2 W (Keep.new n0 hW)
      replace t3 := fun W (hW : New w6.drew W) => t3 W (Keep.new n0 hW)
      replace t4 := fun W (hW : New w6.drew W) => t4 W (Keep.new n0 hW)
      replace t5 := fun W (hW : New w6.drew W) => t5 W (Keep.new n0 hW)
      replace s1 := fun W (hW : New w6.drew W) => s1 W (Keep.new n0 hW)
      replace s6 := fun W (hW : New w6.drew W) => s6 W (Keep.new n0 hW)
      replace s7 := fun W (hW : New w6.drew W) => s7 W (Keep.new n0 hW)
      replace q1 := fun W (hW : New w6.drew W) => q1 W (Keep.new n0 hW)
      replace vh := fun W (hW : New w6.drew W) => vh W (Keep.new n0 hW)
      refine take1 0 ?_
      refine take1 1 ?_
      refine take1 2 ?_
      refine take1 3 ?_
      refine take1 4 ?_
      refine take1 5 ?_
      refine take1 6 ?_
      refine take1 7 ?_
      refine take1 8 ?_
      refine take1 9 ?_
      refine skip1 10 ?_
      refine skip1 11 ?_
      refine skip1 12 ?_
      refine skip1 13 ?_
      refine skip1 14 ?_
      refine skip1 15 ?_
      refine take1 16 ?_
      refine take1 17 ?_
      refine skip1 18 ?_
      refine skip1 19 ?_
      refine skip1 20 ?_
      refine skip1 21 ?_
      refine skip1 22 ?_
      refine skip1 23 ?_
      refine skip1 24 ?_
      refine skip1 25 ?_
      refine skip1 26 ?_
      refine skip1 27 ?_
      refine take1 28 ?_
      refine wpAnyH_done (by kernel_rfl) ?_ _
      clear t0 t1 t2 t3 t4 t5 s1 s6 s7 q1 vh
      have HR7 := Lib.hid (n0.blockAt HR6.out trivial)
      have HN7 := Lib.hid (HN6.out.new n0)
      have HR : Hid (checkProof hd p = none) := Lib.hid (by rw [HE0.out, HCE.out, h3]; simp)
      obtain ⟨d0, d1, d2⟩ := cs3 HR6.out
      obtain ⟨z0, z1, z2⟩ := fz3 HR6.out
      go_wp2_with fail
      clear d0 d1 d2 z0 z1 z2
      have hE := set_three HR6.out (.int .i64 0) (.int .u64 0) (.slice none 0 0)
      have hKE := new_three HN6.out (g := w.heap.size + 1) (Nat.le_succ _) (.int .i64 0) (.int .u64 0) (.slice none 0 0)
      generalize hwE : World.setCell _ _ _ = wE at *
      obtain ⟨f0, f1, f2⟩ := cs3 hE
      refine bodyPost_ret (v := .tuple #[.agg #[.int .i64 0, .int .u64 0, .slice none 0 0], .bool false]) (by simp [results, Tryz.results19, go_sem, f0, f1, f2]) rfl ?_
      rw [HR.out]
      exact ⟨⟨none, 0, rfl, Row.nil _ _ _ _⟩, hKE.drew⟩
     ·have e3 : ((nn : Int) != (p.leaf.length : Int)) = false := by rw [bne, h3]; rfl
      cases h1 : (sl == hd)
      ·have e1 : (sl != hd) = true := by rw [bne, h1]; rfl
       go_wp2_with fail
       refine hold_begin (by kernel_rfl) ?_
       have n0 : New w6 w6.drew := (New.refl w6).drew
       replace t0 := fun W (hW : New w6.drew W) => t0 W (Keep.new n0 hW)
       replace t1 := fun W (hW : New w6.drew W) => t1 W (Keep.new n0 hW)
       replace t2 := fun W (hW : New w6.drew W) => t2 W (Keep.new n0 hW)
       replace t3 := fun W (hW : New w6.drew W) => t3 W (Keep.new n0 hW)
       replace t4 := fun W (hW : New w6.drew W) => t4 W (Keep.new n0 hW)
       replace t5 := fun W (hW : New w6.drew W) => t5 W (Keep.new n0 hW)
       replace s1 := fun W (hW : New w6.drew W) => s1 W (Keep.new n0 hW)
       replace s6 := fun W (hW : New w6.drew W) => s6 W (Keep.new n0 hW)
       replace s7 := fun W (hW : New w6.drew W) => s7 W (Keep.new n0 hW)
       replace q1 := fun W (hW : New w6.drew W) => q1 W (Keep.new n0 hW)
       replace vh := fun W (hW : New w6.drew W) => vh W (Keep.new n0 hW)
       refine take1 0 ?_
       refine take1 1 ?_
       refine take1 2 ?_
       refine take1 3 ?_
       refine take1 4 ?_
       refine take1 5 ?_
       refine take1 6 ?_
       refine take1 7 ?_
       refine take1 8 ?_
       refine take1 9 ?_
       refine take1 10 ?_
       refine take1 13 ?_
       refine take1 14 ?_
       refine hold_step (i := 11) (by kernel_rfl) rfl rfl (fun K hK => ?_)
       go_simp
       refine (HSE.out _ n0).mono ?_
       rintro e w7 ⟨⟨A7, c7, rfl, o7⟩, k7⟩; have v7 := fun W (q : New w7 W) => run_str (c := c7) (Row.of_own (Own.keepNew o7 q))
       go_wp2_with fail
       refine hK.out _ _ k7 ?_
       clear hK K
       try simp only [Act.put, ly1, ly2, ly3, ly4, ly5, ly6]
       replace n0 := Keep.new n0 k7
       replace t0 := fun W (hW : New w7 W) => t0 W (Keep.new k7 hW)
       replace t1 := fun W (hW : New w7 W) => t1 W (Keep.new k7 hW)
       replace t2 := fun W (hW : New w7 W) => t2 W (Keep.new k7 hW)
       replace t3 := fun W (hW : New w7 W) => t3 W (Keep.new k7 hW)
       replace t4 := fun W (hW : New w7 W) => t4 W (Keep.new k7 hW)
       replace t5 := fun W (hW : New w7 W) => t5 W (Keep.new k7 hW)
       replace s1 := fun W (hW : New w7 W) => s1 W (Keep.new k7 hW)
       replace s6 := fun W (hW : New w7 W) => s6 W (Keep.new k7 hW)
       replace s7 := fun W (hW : New w7 W) => s7 W (Keep.new k7 hW)
       replace q1 := fun W (hW : New w7 W) => q1 W (Keep.new k7 hW)
       replace vh := fun W (hW : New w7 W) => vh W (Keep.new k7 hW)
       refine take1 12 ?_
       refine take1 15 ?_
       refine take1 16 ?_
       refine take1 17 ?_
       refine skip1 18 ?_
       refine skip1 19 ?_
       refine skip1 20 ?_
       refine skip1 21 ?_
       refine skip1 22 ?_
       refine skip1 23 ?_
       refine skip1 24 ?_
       refine skip1 25 ?_
       refine skip1 26 ?_
       refine skip1 27 ?_
       refine take1 28 ?_
       refine wpAnyH_done (by kernel_rfl) ?_ _
       clear t0 t1 t2 t3 t4 t5 s1 s6 s7 q1 vh
       have HR7 := Lib.hid (n0.blockAt HR6.out trivial)
       have HN7 := Lib.hid (HN6.out.new n0)
       have HR : Hid (checkProof hd p = none) := Lib.hid (by rw [HE0.out, HCE.out, h1]; simp)
       obtain ⟨d0, d1, d2⟩ := cs3 HR7.out
       obtain ⟨z0, z1, z2⟩ := fz3 HR7.out
       go_wp2_with fail
       clear d0 d1 d2 z0 z1 z2
       have hE := set_three HR7.out (.int .i64 0) (.int .u64 0) (.slice none 0 0)
       have hKE := new_three HN7.out (g := w.heap.size + 1) (Nat.le_succ _) (.int .i64 0) (.int .u64 0) (.slice none 0 0)
       generalize hwE : World.setCell _ _ _ = wE at *
       obtain ⟨f0, f1, f2⟩ := cs3 hE
       refine bodyPost_ret (v := .tuple #[.agg #[.int .i64 0, .int .u64 0, .slice none 0 0], .bool false]) (by simp [results, Tryz.results19, go_sem, f0, f1, f2]) rfl ?_
       rw [HR.out]
       exact ⟨⟨none, 0, rfl, Row.nil _ _ _ _⟩, hKE⟩
      ·have e1 : (sl != hd) = false := by rw [bne, h1]; rfl
       cases h4 : (r.seq == IntKind.u64.wrap (p.head.first + IntKind.u64.wrap p.place))
       ·have e4 : (r.seq != IntKind.u64.wrap (p.head.first + IntKind.u64.wrap p.place)) = true := by rw [bne, h4]; rfl
        go_wp2_with fail
        refine hold_begin (by kernel_rfl) ?_
        have n0 : New w6 w6.drew := (New.refl w6).drew
        replace t0 := fun W (hW : New w6.drew W) => t0 W (Keep.new n0 hW)
        replace t1 := fun W (hW : New w6.drew W) => t1 W (Keep.new n0 hW)
        replace t2 := fun W (hW : New w6.drew W) => t2 W (Keep.new n0 hW)
        replace t3 := fun W (hW : New w6.drew W) => t3 W (Keep.new n0 hW)
        replace t4 := fun W (hW : New w6.drew W) => t4 W (Keep.new n0 hW)
        replace t5 := fun W (hW : New w6.drew W) => t5 W (Keep.new n0 hW)
        replace s1 := fun W (hW : New w6.drew W) => s1 W (Keep.new n0 hW)
        replace s6 := fun W (hW : New w6.drew W) => s6 W (Keep.new n0 hW)
        replace s7 := fun W (hW : New w6.drew W) => s7 W (Keep.new n0 hW)
        replace q1 := fun W (hW : New w6.drew W) => q1 W (Keep.new n0 hW)
        replace vh := fun W (hW : New w6.drew W) => vh W (Keep.new n0 hW)
        refine take1 0 ?_
        refine take1 1 ?_
        refine take1 2 ?_
        refine take1 3 ?_
        refine take1 4 ?_
        refine take1 5 ?_
        refine take1 6 ?_
        refine take1 7 ?_
        refine take1 8 ?_
        refine take1 9 ?_
        refine take1 10 ?_
        refine take1 13 ?_
        refine take1 14 ?_
        refine hold_step (i := 11) (by kernel_rfl) rfl rfl (fun K hK => ?_)
        go_simp
        refine (HSE.out _ n0).mono ?_
        rintro e w7 ⟨⟨A7, c7, rfl, o7⟩, k7⟩; have v7 := fun W (q : New w7 W) => run_str (c := c7) (Row.of_own (Own.keepNew o7 q))
        go_wp2_with fail
        refine hK.out _ _ k7 ?_
        clear hK K
        try simp only [Act.put, ly1, ly2, ly3, ly4, ly5, ly6]
        replace n0 := Keep.new n0 k7
        replace t0 := fun W (hW : New w7 W) => t0 W (Keep.new k7 hW)
        replace t1 := fun W (hW : New w7 W) => t1 W (Keep.new k7 hW)
        replace t2 := fun W (hW : New w7 W) => t2 W (Keep.new k7 hW)
        replace t3 := fun W (hW : New w7 W) => t3 W (Keep.new k7 hW)
        replace t4 := fun W (hW : New w7 W) => t4 W (Keep.new k7 hW)
        replace t5 := fun W (hW : New w7 W) => t5 W (Keep.new k7 hW)
        replace s1 := fun W (hW : New w7 W) => s1 W (Keep.new k7 hW)
        replace s6 := fun W (hW : New w7 W) => s6 W (Keep.new k7 hW)
        replace s7 := fun W (hW : New w7 W) => s7 W (Keep.new k7 hW)
        replace q1 := fun W (hW : New w7 W) => q1 W (Keep.new k7 hW)
        replace vh := fun W (hW : New w7 W) => vh W (Keep.new k7 hW)
        refine take1 12 ?_
        refine take1 15 ?_
        refine take1 16 ?_
        refine take1 17 ?_
        refine take1 18 ?_
        refine take1 19 ?_
        refine take1 20 ?_
        refine take1 21 ?_
        refine take1 22 ?_
        refine take1 23 ?_
        refine take1 24 ?_
        refine take1 25 ?_
        refine take1 26 ?_
        refine take1 27 ?_
        refine take1 28 ?_
        refine wpAnyH_done (by kernel_rfl) ?_ _
        clear t0 t1 t2 t3 t4 t5 s1 s6 s7 q1 vh
        have HR7 := Lib.hid (n0.blockAt HR6.out trivial)
        have HN7 := Lib.hid (HN6.out.new n0)
        have HR : Hid (checkProof hd p = none) := Lib.hid (by rw [HE0.out, HCE.out, h4]; simp)
        obtain ⟨d0, d1, d2⟩ := cs3 HR7.out
        obtain ⟨z0, z1, z2⟩ := fz3 HR7.out
        go_wp2_with fail
        clear d0 d1 d2 z0 z1 z2
        have hE := set_three HR7.out (.int .i64 0) (.int .u64 0) (.slice none 0 0)
        have hKE := new_three HN7.out (g := w.heap.size + 1) (Nat.le_succ _) (.int .i64 0) (.int .u64 0) (.slice none 0 0)
        generalize hwE : World.setCell _ _ _ = wE at *
        obtain ⟨f0, f1, f2⟩ := cs3 hE
        refine bodyPost_ret (v := .tuple #[.agg #[.int .i64 0, .int .u64 0, .slice none 0 0], .bool false]) (by simp [results, Tryz.results19, go_sem, f0, f1, f2]) rfl ?_
        rw [HR.out]
        exact ⟨⟨none, 0, rfl, Row.nil _ _ _ _⟩, hKE⟩
       ·have e4 : (r.seq != IntKind.u64.wrap (p.head.first + IntKind.u64.wrap p.place)) = false := by rw [bne, h4]; rfl
        go_wp2_with fail
        refine hold_begin (by kernel_rfl) ?_
        have n0 : New w6 w6.drew := (New.refl w6).drew
        replace t0 := fun W (hW : New w6.drew W) => t0 W (Keep.new n0 hW)
        replace t1 := fun W (hW : New w6.drew W) => t1 W (Keep.new n0 hW)
        replace t2 := fun W (hW : New w6.drew W) => t2 W (Keep.new n0 hW)
        replace t3 := fun W (hW : New w6.drew W) => t3 W (Keep.new n0 hW)
        replace t4 := fun W (hW : New w6.drew W) => t4 W (Keep.new n0 hW)
        replace t5 := fun W (hW : New w6.drew W) => t5 W (Keep.new n0 hW)
        replace s1 := fun W (hW : New w6.drew W) => s1 W (Keep.new n0 hW)
        replace s6 := fun W (hW : New w6.drew W) => s6 W (Keep.new n0 hW)
        replace s7 := fun W (hW : New w6.drew W) => s7 W (Keep.new n0 hW)
        replace q1 := fun W (hW : New w6.drew W) => q1 W (Keep.new n0 hW)
        replace vh := fun W (hW : New w6.drew W) => vh W (Keep.new n0 hW)
        refine take1 0 ?_
        refine take1 1 ?_
        refine take1 2 ?_
        refine take1 3 ?_
        refine take1 4 ?_
        refine take1 5 ?_
        refine take1 6 ?_
        refine take1 7 ?_
        refine take1 8 ?_
        refine take1 9 ?_
        refine take1 10 ?_
        refine take1 13 ?_
        refine take1 14 ?_
        refine hold_step (i := 11) (by kernel_rfl) rfl rfl (fun K hK => ?_)
        go_simp
        refine (HSE.out _ n0).mono ?_
        rintro e w7 ⟨⟨A7, c7, rfl, o7⟩, k7⟩; have v7 := fun W (q : New w7 W) => run_str (c := c7) (Row.of_own (Own.keepNew o7 q))
        go_wp2_with fail
        refine hK.out _ _ k7 ?_
        clear hK K
        try simp only [Act.put, ly1, ly2, ly3, ly4, ly5, ly6]
        replace n0 := Keep.new n0 k7
        replace t0 := fun W (hW : New w7 W) => t0 W (Keep.new k7 hW)
        replace t1 := fun W (hW : New w7 W) => t1 W (Keep.new k7 hW)
        replace t2 := fun W (hW : New w7 W) => t2 W (Keep.new k7 hW)
        replace t3 := fun W (hW : New w7 W) => t3 W (Keep.new k7 hW)
        replace t4 := fun W (hW : New w7 W) => t4 W (Keep.new k7 hW)
        replace t5 := fun W (hW : New w7 W) => t5 W (Keep.new k7 hW)
        replace s1 := fun W (hW : New w7 W) => s1 W (Keep.new k7 hW)
        replace s6 := fun W (hW : New w7 W) => s6 W (Keep.new k7 hW)
        replace s7 := fun W (hW : New w7 W) => s7 W (Keep.new k7 hW)
        replace q1 := fun W (hW : New w7 W) => q1 W (Keep.new k7 hW)
        replace vh := fun W (hW : New w7 W) => vh W (Keep.new k7 hW)
        refine take1 12 ?_
        refine take1 15 ?_
        refine take1 16 ?_
        refine take1 17 ?_
        refine take1 18 ?_
        refine take1 19 ?_
        refine take1 20 ?_
        refine take1 21 ?_
        refine take1 22 ?_
        refine take1 23 ?_
        refine take1 24 ?_
        refine take1 25 ?_
        refine take1 26 ?_
        refine take1 27 ?_
        refine take1 28 ?_
        refine wpAnyH_done (by kernel_rfl) ?_ _
        clear t0 t1 t2 t3 t4 t5 s1 s6 s7 q1 vh
        have HR7 := Lib.hid (n0.blockAt HR6.out trivial)
        have HN7 := Lib.hid (HN6.out.new n0)
        have HO7 := Lib.hid (Own.keepNew HO6.out n0)
        have HV7 := Lib.hid (n0.blockAt HV6.out trivial)
        have HR : Hid (checkProof hd p = some r) := Lib.hid (by rw [HE0.out, HCE.out, h1, h2, h3, h4]; rfl)
        obtain ⟨v0, v1, v2⟩ := cs3 HV7.out
        obtain ⟨d0, d1, d2⟩ := cs3 HR7.out
        obtain ⟨z0, z1, z2⟩ := fz3 HR7.out
        go_wp2_with fail
        clear d0 d1 d2 z0 z1 z2
        have hE := set_three HR7.out (.int .i64 r.kind) (.int .u64 r.seq) (.slice A5 r.body.length c5)
        have hKE := new_three HN7.out (g := w.heap.size + 1) (Nat.le_succ _) (.int .i64 r.kind) (.int .u64 r.seq) (.slice A5 r.body.length c5)
        have hOE := own_three HO7.out (g := w.heap.size + 1) HSW.out (.int .i64 r.kind) (.int .u64 r.seq) (.slice A5 r.body.length c5)
        generalize hwE : World.setCell _ _ _ = wE at *
        obtain ⟨f0, f1, f2⟩ := cs3 hE
        refine bodyPost_ret (v := .tuple #[.agg #[.int .i64 r.kind, .int .u64 r.seq, .slice A5 r.body.length c5], .bool true]) (by simp [results, Tryz.results19, go_sem, f0, f1, f2]) rfl ?_
        rw [HR.out]
        exact ⟨⟨A5, c5, rfl, (Row.of_own hOE).imp fun b _ hb => Nat.le_trans HB4.out hb⟩, hKE⟩
end Go.Proofs.YtfegdgaanmcecaaGreatDoor
