/-
  PROVED HERE: what law21's world.seal does: what waits becomes a segment, by the document; conditions: the world is as DocAt says, what waits makes a segment.
-/
import Derived.Test.YtajnkbfcnmajoaaGreatDoorPkB34
namespace Go.Proofs.YtajnkbfcnmajoaaGreatDoor
open Go.RowKit
theorem info_img : (Tryz.prog.info? 25).map (fun i => (i.zero, i.size, i.bytes)) = some (some (.slice none 0 0), 1, 24) := by kernel_rfl
structure DocAt (w : World) (D : Nat → Prop) (base bw : Nat) (v : W21V) (s : LogS) : Prop where
 cells : W21At w bw v
 nw : v.nw = s.waits.length
 nh : v.nh = s.segs.length
 na : v.na = (logOf id21 s.segs).recs.length
 ni : v.ni = s.segs.length
 waits : OwnSl 70 recElt w base D v.Aw v.nw v.cw s.waits
 heads : OwnSl 94 headElt w base D v.Ah v.nh v.ch (logOf id21 s.segs).heads
 all : OwnSl 70 recElt w base D v.Aa v.na v.ca (logOf id21 s.segs).recs
 image : OwnSl 25 imgElt w base D v.Ai v.ni v.ci (logOf id21 s.segs).images
 out : ∀ b, D b → b ≠ bw ∧ some b ≠ blk v.Aw ∧ some b ≠ blk v.Ah ∧ some b ≠ blk v.Aa ∧ some b ≠ blk v.Ai
 apart : ∀ k, blk v.Aw = some k → blk v.Aa ≠ some k
def RowsOf (w : World) (v v' : W21V) : Prop := (∀ k, blk v'.Aw = some k → blk v.Aw = some k ∨ w.heap.size ≤ k) ∧ (∀ k, blk v'.Ah = some k → blk v.Ah = some k ∨ w.heap.size ≤ k) ∧ (∀ k, blk v'.Aa = some k → blk v.Aa = some k ∨ w.heap.size ≤ k) ∧ (∀ k, blk v'.Ai = some k → blk v.Ai = some k ∨ w.heap.size ≤ k)
section
variable {w w' : World} {D F : Nat → Prop} {base bw : Nat} {v : W21V} {s : LogS}
theorem DocAt.keep (h : DocAt w D base bw v s) (hk : Keep F w w') (hb : F bw) (h1 : ∀ k, blk v.Aw = some k → F k) (h2 : ∀ k, blk v.Ah = some k → F k) (h3 : ∀ k, blk v.Aa = some k → F k) (h4 : ∀ k, blk v.Ai = some k → F k) (hD : ∀ b, D b → F b) : DocAt w' D base bw v s :=
 ⟨h.cells.keep hk hb, h.nw, h.nh, h.na, h.ni, h.waits.keepE hk h1 hD, h.heads.keepE hk h2 hD, h.all.keepE hk h3 hD, h.image.keepE hk h4 hD, h.out, h.apart⟩
theorem DocAt.new (h : DocAt w D base bw v s) (hk : New w w') : DocAt w' D base bw v s := h.keep hk trivial (fun _ _ => trivial) (fun _ _ => trivial) (fun _ _ => trivial) (fun _ _ => trivial) (fun _ _ => trivial)
theorem DocAt.imp (h : DocAt w D base bw v s) (hF : ∀ b, b < w.heap.size → D b → F b) (ho : ∀ b, F b → b ≠ bw ∧ some b ≠ blk v.Aw ∧ some b ≠ blk v.Ah ∧ some b ≠ blk v.Aa ∧ some b ≠ blk v.Ai) : DocAt w F base bw v s :=
 ⟨h.cells, h.nw, h.nh, h.na, h.ni, h.waits.imp hF, h.heads.imp hF, h.all.imp hF, h.image.imp hF, ho, h.apart⟩
theorem DocAt.no (h : DocAt w D base bw v s) : blk v.Aw ≠ some bw ∧ blk v.Ah ≠ some bw ∧ blk v.Aa ≠ some bw ∧ blk v.Ai ≠ some bw := by
 obtain ⟨_, h1⟩ := h.waits.own
 obtain ⟨_, h2⟩ := h.heads.own
 obtain ⟨_, h3⟩ := h.all.own
 obtain ⟨_, h4⟩ := h.image.own
 exact ⟨own_not h1 h.cells (by decide), own_not h2 h.cells (by decide), own_not h3 h.cells (by decide), own_not h4 h.cells (by decide)⟩
end
theorem own_two {w : World} {b1 b2 : Nat} {t1 t2 : TypeId} {s1 s2 : Nat} {A A' : Option Addr} {n c n' c' : Nat} {xs ys : List Value} (h : Own w b1 t1 s1 A n c xs) (h' : Own w b2 t2 s2 A' n' c' ys) (ht : t1 ≠ t2) : ∀ k, blk A' = some k → blk A ≠ some k :=
 fun k hk e => own_apart6 h h' ht k hk e.symm
set_option maxRecDepth 100000 in
set_option maxHeartbeats 4000000 in
theorem wseal_any {w : World} {D : Nat → Prop} {base bw : Nat} {v : W21V} {s : LogS} (h : DocAt w D base bw v s) (hbase : base ≤ w.heap.size) (hf : SegFine s.segs.length (logOf id21 s.segs).next (logOf id21 s.segs).prev s.waits) (hl : LogFine id21 s.segs) (hrl : (logOf id21 s.segs).recs.length ≤ 1000000) :
  Calls Tryz.prog 30 #[.pointer (some ⟨bw, 0, none⟩)] w fun e w' => e = .returned (.tuple #[]) ∧ Keep (fun j => j ≠ bw ∧ some j ≠ blk v.Ah ∧ some j ≠ blk v.Aa ∧ some j ≠ blk v.Ai) w w' ∧
   ∃ (v' : W21V) (D' : Nat → Prop), DocAt w' D' base bw v' ⟨s.segs ++ [s.waits], []⟩ ∧ (v'.bd = v.bd ∧ v'.bl = v.bl ∧ v'.k = v.k ∧ v'.p = v.p ∧ v'.g = v.g ∧ v'.m = v.m) ∧ RowsOf w v v' ∧ ∀ b, D' b → D b ∨ w.heap.size ≤ b := by
 have HH := Lib.hid (And.intro h (And.intro hf hl))
 have hany := hf.any
 have hmany := hf.many
 have hfew := hl.few
 have hnw := h.nw
 have hnh := h.nh
 have hwl : v.nw ≠ 0 ∧ v.nw ≤ 62 := by omega
 have hhl : v.nh ≤ 1000 := by omega
 have hr0 : 0 < s.waits.length := by omega
 obtain ⟨rb, roff, us, hAw, hDr, hrbl, hat, hul, hcell⟩ := h.waits.sl.at_ hr0
 obtain ⟨Ar, cr, u0, u1, u2, -⟩ := hat
 have hsq : s.waits[0].seq = (logOf id21 s.segs).next := by have := hf.seqs 0 hr0; simpa using this
 rw [hsq] at u1
 have cs := hcell 1 _ u1
 rw [show roff + 0 * recElt.size + 1 = roff + 1 from by simp] at cs
 have c13 : ∀ W, New w W → W.cell? ⟨bw, 13, none⟩ = some (.slice (some ⟨rb, roff, none⟩) v.nw v.cw) := fun W hW => by rw [← hAw]; exact (h.cells.new hW).cell rfl
 have c14 : ∀ W, New w W → W.cell? ⟨bw, 14, none⟩ = some (.slice v.Ah v.nh v.ch) := fun W hW => (h.cells.new hW).cell rfl
 have cq : ∀ W, New w W → W.cell? ⟨rb, roff + 1, none⟩ = some (.int .u64 (logOf id21 s.segs).next) := fun W hW => hW.cell_some cs trivial
 have HHD := Lib.hid (fun (W : World) (J : Option Addr) (cj : Nat) (E : Nat → Prop) (hW : New w W) (hI : Bs W E J 16 id21) => head18_any E _ J v.Ah 16 cj v.nh v.ch id21 _ W hI (by decide) (heads_sl.2 (h.heads.sl.new hW)) (by omega))
 have hBD := fun (W : World) (J : Option Addr) (cj : Nat) (E : Nat → Prop) (hW : New w W) (hJ : Bs W E J (logOf id21 s.segs).prev.length (logOf id21 s.segs).prev) (hcj : (logOf id21 s.segs).prev.length ≤ cj) => build17_any E _ (s.segs.length : Nat) (logOf id21 s.segs).next J v.Aw cj v.nw v.cw (logOf id21 s.segs).prev s.waits W hJ hcj (recs_sl.2 (h.waits.sl.new hW)) (by omega) hf.f0
 rw [hf.build, hf.prev, hAw, ← hnh] at hBD
 have HBD := Lib.hid hBD
 have hlast : headSeal id21 (logOf id21 s.segs).heads = (logOf id21 s.segs).prev := hl.ok.last.symm
 rw [hlast] at HHD
 have hbl0 := segBytes_length (s.segs.length : Nat) (logOf id21 s.segs).next (logOf id21 s.segs).prev s.waits hf.prev hf.room
 have hrd : segRead (segBytes (s.segs.length : Nat) (logOf id21 s.segs).next (logOf id21 s.segs).prev s.waits) = (chainHead s.segs.length (logOf id21 s.segs).next (logOf id21 s.segs).prev s.waits, s.waits, 0) := hf.read
 have hst : logOf id21 (s.segs ++ [s.waits]) = ⟨(logOf id21 s.segs).images ++ [segBytes (s.segs.length : Nat) (logOf id21 s.segs).next (logOf id21 s.segs).prev s.waits], (logOf id21 s.segs).heads ++ [chainHead s.segs.length (logOf id21 s.segs).next (logOf id21 s.segs).prev s.waits], (logOf id21 s.segs).recs ++ s.waits, sealOf (chainHead s.segs.length (logOf id21 s.segs).next (logOf id21 s.segs).prev s.waits), (logOf id21 s.segs).next + s.waits.length⟩ := by rw [logOf_snoc]; unfold logStep; rw [hl.ok.heads]
 rw [← hnh] at hbl0 hrd hst
 have hchf : 0 ≤ (chainHead v.nh (logOf id21 s.segs).next (logOf id21 s.segs).prev s.waits).first ∧ (chainHead v.nh (logOf id21 s.segs).next (logOf id21 s.segs).prev s.waits).first ≤ 18446744073709551615 := ⟨hf.f0, by have := hf.f1; show (logOf id21 s.segs).next ≤ _; omega⟩
 generalize segBytes (v.nh : Nat) (logOf id21 s.segs).next (logOf id21 s.segs).prev s.waits = bb at *
 generalize chainHead v.nh (logOf id21 s.segs).next (logOf id21 s.segs).prev s.waits = ch at *
 have HST := Lib.hid (And.intro hst (And.intro hnw hnh))
 generalize hnx : (logOf id21 s.segs).next = nx at *
 replace hnx := Lib.hid hnx
 have y13 := c13 w (New.refl _)
 have hz1 : ((v.nw : Int) == 0) = false := by simp; omega
 have hz2 : 0 < v.nw := by omega
 clear h hf hl hany hmany hfew hnw hnh hr0 hcell u0 u1 u2 cs hsq hBD hlast hst hDr hrbl hul
 go_enter Tryz.func30, Tryz.ntmps30
 go_upto_region 1 with fail
 clear y13
 refine hold_begin (by kernel_rfl) ?_
 have n0 : New w w.drew := (New.refl w).drew
 replace c13 := fun W (hW : New w.drew W) => c13 W (Keep.new n0 hW)
 replace c14 := fun W (hW : New w.drew W) => c14 W (Keep.new n0 hW)
 replace cq := fun W (hW : New w.drew W) => cq W (Keep.new n0 hW)
 refine take1 0 ?_
 refine take1 1 ?_
 refine take1 2 ?_
 refine take1 3 ?_
 refine take1 4 ?_
 refine take1 5 ?_
 refine take1 6 ?_
 refine take1 7 ?_
 refine take1 8 ?_
 refine take1 9 ?_
 refine take1 10 ?_
 refine take1 11 ?_
 refine take1 13 ?_
 refine take1 14 ?_
 refine take1 15 ?_
 refine take1 16 ?_
 refine take1 18 ?_
 refine take1 19 ?_
 refine take1 20 ?_
 refine take1 21 ?_
 refine hold_step (i := 12) (by kernel_rfl) rfl rfl (fun K hK => ?_)
 go_simp
 refine (id21_any _).mono ?_
 rintro e w1 ⟨⟨A1, rfl, hb1⟩, k1⟩; have HHD1 := Lib.hid (HHD.out w1 A1 16 _ (n0.new k1) hb1)
 go_wp2_with fail
 refine hK.out _ _ k1 ?_
 clear hK K
 try simp only [Act.put, ly1, ly2, ly3, ly4, ly5, ly6]
 replace n0 := Keep.new n0 k1
 replace c13 := fun W (hW : New w1 W) => c13 W (Keep.new k1 hW)
 replace c14 := fun W (hW : New w1 W) => c14 W (Keep.new k1 hW)
 replace cq := fun W (hW : New w1 W) => cq W (Keep.new k1 hW)
 refine hold_step (i := 17) (by kernel_rfl) rfl rfl (fun K hK => ?_)
 go_simp
 refine HHD1.out.mono ?_
 rintro e w2 ⟨⟨A2, c2, rfl, o2⟩, k2⟩; have HBD1 := Lib.hid (HBD.out w2 A2 c2 _ (n0.new k2) (Row.of_own o2) (own_cap o2))
 go_wp2_with fail
 refine hK.out _ _ k2 ?_
 clear hK K
 try simp only [Act.put, ly1, ly2, ly3, ly4, ly5, ly6]
 replace n0 := Keep.new n0 k2
 replace c13 := fun W (hW : New w2 W) => c13 W (Keep.new k2 hW)
 replace c14 := fun W (hW : New w2 W) => c14 W (Keep.new k2 hW)
 replace cq := fun W (hW : New w2 W) => cq W (Keep.new k2 hW)
 refine hold_step (i := 22) (by kernel_rfl) rfl rfl (fun K hK => ?_)
 go_simp
 refine HBD1.out.mono ?_
 rintro e w3 ⟨⟨A3, c3, rfl, o3⟩, k3⟩; dsimp only at o3 ⊢; rw [hbl0] at o3 ⊢
 go_wp2_with fail
 refine hK.out _ _ k3 ?_
 clear hK K
 try simp only [Act.put, ly1, ly2, ly3, ly4, ly5, ly6]
 replace n0 := Keep.new n0 k3
 replace c13 := fun W (hW : New w3 W) => c13 W (Keep.new k3 hW)
 replace c14 := fun W (hW : New w3 W) => c14 W (Keep.new k3 hW)
 replace cq := fun W (hW : New w3 W) => cq W (Keep.new k3 hW)
 refine take1 23 ?_
 refine take1 24 ?_
 refine take1 25 ?_
 refine take1 26 ?_
 refine take1 27 ?_
 refine wpAnyH_done (by kernel_rfl) ?_ _
 have HRD := read17_any _ A3 1024 c3 bb w3 (Row.of_own o3) (own_cap o3) (own_capMax o3)
 rw [hrd] at HRD
 replace HRD := Lib.hid HRD
 clear hrd
 have HB3 := Lib.hid (Row.of_own o3)
 have hc3 : 1024 ≤ c3 ∧ c3 ≤ 9223372036854775807 := ⟨own_cap o3, own_capMax o3⟩
 have HK3 := Lib.hid n0
 have hz3 := k3.size
 have hz2b : w.heap.size ≤ w2.heap.size := (k1.new k2).size
 clear n0 c13 c14 cq k1 k2 k3 hb1 o2 o3 HHD HBD HHD1 HBD1 hz1 hAw
 go_wp2_with fail
 refine HRD.out.mono ?_
 rintro e w4 ⟨⟨P1, p1, P2, p2, A4, c4, rfl, hp1, hp2, hb1, hb2, -⟩, k4⟩
 dsimp only at hp1 hp2 hb1 hb2 ⊢
 have x5 := heap_alloc_new w4 (.cells #[.int .i64 ch.index, .int .u64 ch.first, .int .i64 ch.count, .int .i64 ch.bytes, .slice P1 ch.prev.length p1, .slice P2 ch.root.length p2] 94)
 have k5 := k4.alloc (.cells #[.int .i64 ch.index, .int .u64 ch.first, .int .i64 ch.count, .int .i64 ch.bytes, .slice P1 ch.prev.length p1, .slice P2 ch.root.length p2] 94)
 have hb1 := hb1.alloc (.cells #[.int .i64 ch.index, .int .u64 ch.first, .int .i64 ch.count, .int .i64 ch.bytes, .slice P1 ch.prev.length p1, .slice P2 ch.root.length p2] 94)
 have hb2 := hb2.alloc (.cells #[.int .i64 ch.index, .int .u64 ch.first, .int .i64 ch.count, .int .i64 ch.bytes, .slice P1 ch.prev.length p1, .slice P2 ch.root.length p2] 94)
 clear HRD
 go_upto_region 3 with fail
 generalize w4.alloc (.cells #[.int .i64 ch.index, .int .u64 ch.first, .int .i64 ch.count, .int .i64 ch.bytes, .slice P1 ch.prev.length p1, .slice P2 ch.root.length p2] 94) = w5 at *
 have hg4 := k4.size
 generalize w4.heap.size = g5 at *
 have HK5 := Lib.hid (HK3.out.new k5)
 have HB3 := Lib.hid (HB3.out.new k5)
 have hg5 : g5 < w5.heap.size := (Array.getElem?_eq_some_iff.1 x5).1
 have hzw : w.heap.size ≤ w3.heap.size := HK3.out.size
 obtain ⟨N, hN⟩ : ∃ N, N = w5.heap.size := ⟨_, rfl⟩
 have hD5 := HH.out.1.new HK5.out
 have hlw := HH.out.1.waits.lt
 have hlh := HH.out.1.heads.lt
 have hla := HH.out.1.all.lt
 have hli := HH.out.1.image.lt
 have hout := HH.out.1.out
 have hno := HH.out.1.no
 have hap := HH.out.1.apart
 have hlt := HH.out.1.cells.lt
 have hDD : ∀ b, ((D b ∨ w.heap.size ≤ b) ∧ b < N) → b ≠ bw ∧ some b ≠ blk v.Aw ∧ some b ≠ blk v.Ah ∧ some b ≠ blk v.Aa ∧ some b ≠ blk v.Ai := fun b hb => by
  rcases hb.1 with h1 | h1
  ·exact hout b h1
  ·exact ⟨by omega, fun e => by have := (hlw b e.symm).2; omega, fun e => by have := (hlh b e.symm).2; omega, fun e => by have := (hla b e.symm).2; omega, fun e => by have := (hli b e.symm).2; omega⟩
 have h5 : DocAt w5 (fun b => (D b ∨ w.heap.size ≤ b) ∧ b < N) base bw v s := hD5.imp (fun b hb hd => ⟨.inl hd, by omega⟩) hDD
 obtain ⟨DD, hDDe⟩ : ∃ DD : Nat → Prop, DD = fun b => (D b ∨ w.heap.size ≤ b) ∧ b < N := ⟨_, rfl⟩
 rw [← hDDe] at h5
 have hb1D : Bs w5 DD P1 ch.prev.length ch.prev := hb1.imp fun b hb hd => by rw [hDDe]; exact ⟨.inr (by omega), by omega⟩
 have hb2D : Bs w5 DD P2 ch.root.length ch.root := hb2.imp fun b hb hd => by rw [hDDe]; exact ⟨.inr (by omega), by omega⟩
 have hb3D : Bs w5 DD A3 1024 bb := HB3.out.imp fun b hb hd => by rw [hDDe]; exact ⟨.inr (by have h9 : w2.heap.size ≤ b := hd; omega), by omega⟩
 have hNw : w.heap.size ≤ N := by have := HK5.out.size; omega
 have HOUT : Hid (∀ b, DD b → b ≠ bw ∧ some b ≠ blk v.Aw ∧ some b ≠ blk v.Ah ∧ some b ≠ blk v.Aa ∧ some b ≠ blk v.Ai) := Lib.hid h5.out
 have HDL : Hid (∀ b, DD b → b < N ∧ (D b ∨ w.heap.size ≤ b)) := Lib.hid fun b hb => by rw [hDDe] at hb; exact ⟨hb.2, hb.1⟩
 have H5 := Lib.hid h5
 have HBB := Lib.hid (And.intro hb1D (And.intro hb2D hb3D))
 have HNO := Lib.hid (And.intro hno hap)
 have HLL := Lib.hid (And.intro hlw (And.intro hlh (And.intro hla (And.intro hli hlt))))
 have hgb : g5 ≠ bw ∧ some g5 ≠ blk v.Ah := ⟨by omega, fun e => by have := (hlh g5 e.symm).2; omega⟩
 clear hb1 hb2 hb1D hb2D hb3D h5 hDDe hDD hout hno hap hlw hlh hla hli k4 k5 hD5 HB3
 refine holdW_begin [7, 10] (Keep (fun j => j ≠ bw ∧ some j ≠ blk v.Ah) w5.drew) (New w5.drew) (by kernel_rfl) ?_
 have kdr : New w5 w5.drew := (New.refl w5).drew
 have H9 := Lib.hid (H5.out.new kdr)
 have HBB := Lib.hid (And.intro (HBB.out.1.new kdr) (And.intro (HBB.out.2.1.new kdr) (HBB.out.2.2.new kdr)))
 have hz9 : N = w5.drew.heap.size := hN
 have x9 := kdr.blockAt x5 trivial
 have HK9 := Lib.hid (HK5.out.new kdr)
 generalize w5.drew = w9 at *
 have s0 : Keep (fun j => j ≠ bw ∧ some j ≠ blk v.Ah) w9 w9 := Keep.refl _ _
 have t0 : New w9 w9 := New.refl _
 have r0 : ∀ W, Keep (fun j => j ≠ bw ∧ some j ≠ blk v.Ah) w9 W → W.cell? ⟨g5, 0, none⟩ = some (.int .i64 ch.index) := fun W h => cellOf (h.blockAt x9 hgb) (k := 0) rfl
 have r1 : ∀ W, Keep (fun j => j ≠ bw ∧ some j ≠ blk v.Ah) w9 W → W.cell? ⟨g5, 1, none⟩ = some (.int .u64 ch.first) := fun W h => cellOf (h.blockAt x9 hgb) (k := 1) rfl
 have r2 : ∀ W, Keep (fun j => j ≠ bw ∧ some j ≠ blk v.Ah) w9 W → W.cell? ⟨g5, 2, none⟩ = some (.int .i64 ch.count) := fun W h => cellOf (h.blockAt x9 hgb) (k := 2) rfl
 have r3 : ∀ W, Keep (fun j => j ≠ bw ∧ some j ≠ blk v.Ah) w9 W → W.cell? ⟨g5, 3, none⟩ = some (.int .i64 ch.bytes) := fun W h => cellOf (h.blockAt x9 hgb) (k := 3) rfl
 have r4 : ∀ W, Keep (fun j => j ≠ bw ∧ some j ≠ blk v.Ah) w9 W → W.cell? ⟨g5, 4, none⟩ = some (.slice P1 ch.prev.length p1) := fun W h => cellOf (h.blockAt x9 hgb) (k := 4) rfl
 have r5 : ∀ W, Keep (fun j => j ≠ bw ∧ some j ≠ blk v.Ah) w9 W → W.cell? ⟨g5, 5, none⟩ = some (.slice P2 ch.root.length p2) := fun W h => cellOf (h.blockAt x9 hgb) (k := 5) rfl
 have r9 : ∀ W, New w9 W → W.cell? ⟨bw, 14, none⟩ = some (.slice v.Ah v.nh v.ch) := fun W h => (H9.out.cells.new h).cell rfl
 clear kdr x5 x9 H5 hN
 refine holdW_read (i := 0) (v := ?_) ⟨s0, fun _ => t0⟩ rfl (by kernel_rfl) (by kernel_rfl) (by kernel_rfl) rfl (fun _ _ _ h => h) rfl ?_ ?_
 rotate_left
 ·intro w' hN
  go_simp
  try with_reducible rfl
 simp only [Act.put, ly1, ly4]
 refine holdW_read (i := 1) (v := ?_) ⟨s0, fun _ => t0⟩ rfl (by kernel_rfl) (by kernel_rfl) (by kernel_rfl) rfl (fun _ _ _ h => h) rfl ?_ ?_
 rotate_left
 ·intro w' hN
  go_simp
  try with_reducible rfl
 simp only [Act.put, ly1, ly2, ly3, ly4, ly5, ly6]
 refine holdW_read (i := 2) (v := ?_) ⟨s0, fun _ => t0⟩ rfl (by kernel_rfl) (by kernel_rfl) (by kernel_rfl) rfl (fun _ _ _ h => h) rfl ?_ ?_
 rotate_left
 ·intro w' hN
  go_simp
  try with_reducible rfl
 simp only [Act.put, ly1, ly2, ly3, ly4, ly5, ly6]
 refine holdW_read (i := 3) (v := ?_) ⟨s0, fun _ => t0⟩ rfl (by kernel_rfl) (by kernel_rfl) (by kernel_rfl) rfl (fun _ _ _ h => h) rfl ?_ ?_
 rotate_left
 ·intro w' hN
  go_simp
  try with_reducible rfl
 simp only [Act.put, ly1, ly2, ly3, ly4, ly5, ly6]
 refine holdW_readT (i := 4) (v := ?_) ⟨s0, fun _ => t0⟩ rfl (by kernel_rfl) (by kernel_rfl) (by kernel_rfl) (by kernel_rfl) (by kernel_rfl) (fun _ _ _ h => h) rfl ?_ ?_
 rotate_left
 ·intro w' hN
  go_simp
  try with_reducible rfl
 simp only [Act.put, ly1, ly2, ly3, ly4, ly5, ly6]
 refine holdW_read (i := 5) (v := ?_) ⟨s0, fun _ => t0⟩ rfl (by kernel_rfl) (by kernel_rfl) (by kernel_rfl) rfl (fun _ _ _ h => h) rfl ?_ ?_
 rotate_left
 ·intro w' hN
  go_simp
  try with_reducible rfl
 simp only [Act.put, ly1, ly2, ly3, ly4, ly5, ly6]
 clear r0 r1 r2 r3 r4 r5 r9
 refine holdW_step (i := 6) (by kernel_rfl) rfl rfl (fun K hK => ?_)
 go_simp
 try go_wp2_with fail
 have kA : New w9 (w9.alloc (.cells #[.int .i64 ch.index, .int .u64 ch.first, .int .i64 ch.count, .int .i64 ch.bytes, .slice P1 ch.prev.length p1, .slice P2 ch.root.length p2] 94)) := (New.refl w9).alloc _
 have hrw := (Row.made w9 94 #[.int .i64 ch.index, .int .u64 ch.first, .int .i64 ch.count, .int .i64 ch.bytes, .slice P1 ch.prev.length p1, .slice P2 ch.root.length p2] 1 6 rfl).imp (E := fun _ => True) fun _ _ _ => trivial
 refine hK.out _ _ ⟨s0.new kA, fun _ => kA⟩ ?_
 clear hK K
 try simp only [Act.put, ly1, ly2, ly3, ly4, ly5, ly6]
 generalize w9.alloc (.cells #[.int .i64 ch.index, .int .u64 ch.first, .int .i64 ch.count, .int .i64 ch.bytes, .slice P1 ch.prev.length p1, .slice P2 ch.root.length p2] 94) = wA at *
 refine holdW_step (i := 7) (by kernel_rfl) rfl rfl (fun K hK => ?_)
 obtain ⟨q0, hq0, hqz, hqs, hqb⟩ := info_parts info_headR
 have hA9 := H9.out.new kA
 refine wp_sl (E := headElt) _ _ _ 38 94 rfl q0 (.agg #[.int .i64 0, .int .u64 0, .int .i64 0, .int .i64 0, .slice none 0 0, .slice none 0 0]) 80 Tryz.underlying38 hq0 hqz hqs hqb rfl base DD v.Ah v.nh v.ch (logOf id21 s.segs).heads rfl hA9.heads (fun _ => True) (some ⟨w9.heap.size, 0, none⟩) 1 _ ch rfl hrw ⟨P1, p1, P2, p2, rfl, rfl, rfl, rfl, rfl, rfl, hp1, hp2, (HBB.out.1.new kA).imp (fun b _ hb => ⟨hb, (HOUT.out b hb).2.2.1⟩), (HBB.out.2.1.new kA).imp (fun b _ hb => ⟨hb, (HOUT.out b hb).2.2.1⟩), hchf.1, hchf.2⟩ (by omega) (by omega) (by have := kA.size; have := HK9.out.size; omega) ?_
 intro A7 c7 wB o7 hg7 hbk7
 have kB : Keep (fun j => some j ≠ blk v.Ah) wA wB := Keep.grown (Keep.refl _ _) hg7 (fun j hj hd => absurd hj.symm hd)
 have s7 : Keep (fun j => j ≠ bw ∧ some j ≠ blk v.Ah) w9 wB := (s0.new kA).trans2 kB (fun b _ hb => hb.2)
 refine hK.out _ _ ⟨s7, fun h => absurd h (by decide)⟩ ?_
 clear hK K
 try simp only [Act.put, ly1, ly2, ly3, ly4, ly5, ly6]
 refine holdW_read (i := 8) (v := ?_) ⟨s7, fun h => absurd h (by decide)⟩ rfl (by kernel_rfl) (by kernel_rfl) (by kernel_rfl) rfl (fun _ _ _ h => h) rfl ?_ ?_
 rotate_left
 ·intro w' hN
  go_simp
  try with_reducible rfl
 simp only [Act.put, ly1, ly2, ly3, ly4, ly5, ly6]
 refine holdW_read (i := 9) (v := ?_) ⟨s7, fun h => absurd h (by decide)⟩ rfl (by kernel_rfl) (by kernel_rfl) (by kernel_rfl) rfl (fun _ _ _ h => h) rfl ?_ ?_
 rotate_left
 ·intro w' hN
  go_simp
  try with_reducible rfl
 simp only [Act.put, ly1, ly2, ly3, ly4, ly5, ly6]
 have hcB : W21At wB bw v := hA9.cells.keep kB (fun e => HNO.out.1.2.1 e.symm)
 have d14 : wB.cell? ⟨bw, 14, none⟩ = some (.slice v.Ah v.nh v.ch) := hcB.cell rfl
 have f14 := hcB.free 14
 refine holdW_step (i := 10) (by kernel_rfl) rfl rfl (fun K hK => ?_)
 go_simp
 have hcC : W21At (wB.setCell ⟨bw, 14, none⟩ (.slice A7 (v.nh + 1) c7)) bw { v with Ah := A7, nh := v.nh + 1, ch := c7 } := hcB.set 14 _ rfl
 have kS := keep_cell wB bw 14 (.slice A7 (v.nh + 1) c7)
 have s8 := s7.trans2 kS (fun b _ hb => hb.1)
 refine hK.out _ _ ⟨s8, fun h => absurd h (by decide)⟩ ?_
 clear hK K d14 f14 hcB
 try simp only [Act.put, ly1, ly2, ly3, ly4, ly5, ly6]
 generalize wB.setCell _ _ = wC at *
 refine wpAnyW_done (by kernel_rfl) ?_ _
 have hAb7 : blk A7 ≠ some bw := fun e => by rcases hbk7 with h1 | h1; exact HNO.out.1.2.1 (h1.symm.trans e); rw [h1] at e; injection e with e; have := kA.size; have := HK9.out.size; have := HLL.out.2.2.2.2; omega
 have hA7N : ∀ k, blk A7 = some k → blk v.Ah = some k ∨ N ≤ k := fun k hk => by rcases hbk7 with h1 | h1; exact .inl (h1.symm.trans hk); rw [h1] at hk; injection hk with hk; have := kA.size; exact .inr (by omega)
 obtain ⟨_, ow⟩ := H9.out.waits.own
 obtain ⟨_, oh⟩ := H9.out.heads.own
 obtain ⟨_, oa⟩ := H9.out.all.own
 obtain ⟨_, oi⟩ := H9.out.image.own
 have HC1 : Hid (OwnSl 70 recElt wC base DD v.Aw v.nw v.cw s.waits ∧ OwnSl 94 headElt wC base DD A7 (v.nh + 1) c7 ((logOf id21 s.segs).heads ++ [ch]) ∧ OwnSl 70 recElt wC base DD v.Aa v.na v.ca (logOf id21 s.segs).recs ∧ OwnSl 25 imgElt wC base DD v.Ai v.ni v.ci (logOf id21 s.segs).images) := Lib.hid ⟨
  H9.out.waits.keepE s8 (fun k hk => ⟨fun e => HNO.out.1.1 (by rw [hk, e]), fun e => own_two oh ow (by decide) k hk e.symm⟩) (fun b hb => ⟨(HOUT.out b hb).1, (HOUT.out b hb).2.2.1⟩),
  o7.keepE kS (fun k hk e => hAb7 (by rw [hk, e])) (fun b hb => (HOUT.out b hb).1),
  H9.out.all.keepE s8 (fun k hk => ⟨fun e => HNO.out.1.2.2.1 (by rw [hk, e]), fun e => own_two oh oa (by decide) k hk e.symm⟩) (fun b hb => ⟨(HOUT.out b hb).1, (HOUT.out b hb).2.2.1⟩),
  H9.out.image.keepE s8 (fun k hk => ⟨fun e => HNO.out.1.2.2.2 (by rw [hk, e]), fun e => own_two oh oi (by decide) k hk e.symm⟩) (fun b hb => ⟨(HOUT.out b hb).1, (HOUT.out b hb).2.2.1⟩)⟩
 have HBI := Lib.hid (HBB.out.2.2.keep s8 (fun b _ hb => ⟨(HOUT.out b hb).1, (HOUT.out b hb).2.2.1⟩))
 have HKC : Hid (Keep (fun j => j ≠ bw ∧ some j ≠ blk v.Ah ∧ some j ≠ blk v.Aa ∧ some j ≠ blk v.Ai) w wC) := Lib.hid ((Keep.of_new HK9.out).trans2 s8 (fun j _ hj => ⟨hj.1, hj.2.1⟩))
 have hNC : N ≤ wC.heap.size := by have := s8.size; omega
 replace hcC := Lib.hid hcC
 have H7 := Lib.hid (And.intro hAb7 hA7N)
 clear s0 t0 kA hrw hA9 o7 hg7 hbk7 kB s7 kS s8 hAb7 hA7N ow oh oa oi H9 HBB hgb hp1 hp2 hchf
 go_upto_region 4 with fail
 refine holdW_begin [9, 12] (Keep (fun j => j ≠ bw ∧ some j ≠ blk v.Aa) wC.drew) (New wC.drew) (by kernel_rfl) ?_
 have kdr : New wC wC.drew := (New.refl wC).drew
 have HC2 := Lib.hid (And.intro (HC1.out.1.new kdr) (And.intro (HC1.out.2.1.new kdr) (And.intro (HC1.out.2.2.1.new kdr) (HC1.out.2.2.2.new kdr))))
 have HBI := Lib.hid (HBI.out.new kdr)
 have HKD := Lib.hid (HKC.out.new kdr)
 have HcD := Lib.hid (hcC.out.new kdr)
 have hND : N ≤ wC.drew.heap.size := hNC
 generalize wC.drew = wD at *
 clear kdr HC1 HKC hcC hNC
 have s0 : Keep (fun j => j ≠ bw ∧ some j ≠ blk v.Aa) wD wD := Keep.refl _ _
 have t0 : New wD wD := New.refl _
 have r15 : ∀ W, New wD W → W.cell? ⟨bw, 15, none⟩ = some (.slice v.Aa v.na v.ca) := fun W h => (HcD.out.new h).cell rfl
 have r13 : ∀ W, New wD W → W.cell? ⟨bw, 13, none⟩ = some (.slice v.Aw v.nw v.cw) := fun W h => (HcD.out.new h).cell rfl
 refine holdW_read (i := 0) (v := ?_) ⟨s0, fun _ => t0⟩ rfl (by kernel_rfl) (by kernel_rfl) (by kernel_rfl) rfl (fun _ _ _ h => h) rfl ?_ ?_
 rotate_left
 ·intro w' hN
  go_simp
  try with_reducible rfl
 simp only [Act.put, ly1, ly3, ly4, ly5, ly6]
 refine holdW_read (i := 1) (v := ?_) ⟨s0, fun _ => t0⟩ rfl (by kernel_rfl) (by kernel_rfl) (by kernel_rfl) rfl (fun _ _ _ h => h) rfl ?_ ?_
 rotate_left
 ·intro w' hN
  go_simp
  try with_reducible rfl
 simp only [Act.put, ly1, ly2, ly3, ly4, ly5, ly6]
 refine holdW_read (i := 2) (v := ?_) ⟨s0, fun _ => t0⟩ rfl (by kernel_rfl) (by kernel_rfl) (by kernel_rfl) rfl (fun _ _ _ h => h) rfl ?_ ?_
 rotate_left
 ·intro w' hN
  go_simp
  try with_reducible rfl
 simp only [Act.put, ly1, ly2, ly3, ly4, ly5, ly6]
 refine holdW_read (i := 3) (v := ?_) ⟨s0, fun _ => t0⟩ rfl (by kernel_rfl) (by kernel_rfl) (by kernel_rfl) rfl (fun _ _ _ h => h) rfl ?_ ?_
 rotate_left
 ·intro w' hN
  go_simp
  try with_reducible rfl
 simp only [Act.put, ly1, ly2, ly3, ly4, ly5, ly6]
 refine holdW_readT (i := 4) (v := ?_) ⟨s0, fun _ => t0⟩ rfl (by kernel_rfl) (by kernel_rfl) (by kernel_rfl) (by kernel_rfl) (by kernel_rfl) (fun _ _ _ h => h) rfl ?_ ?_
 rotate_left
 ·intro w' hN
  go_simp
  try with_reducible rfl
 simp only [Act.put, ly1, ly2, ly3, ly4, ly5, ly6]
 refine holdW_read (i := 5) (v := ?_) ⟨s0, fun _ => t0⟩ rfl (by kernel_rfl) (by kernel_rfl) (by kernel_rfl) rfl (fun _ _ _ h => h) rfl ?_ ?_
 rotate_left
 ·intro w' hN
  go_simp
  try with_reducible rfl
 simp only [Act.put, ly1, ly2, ly3, ly4, ly5, ly6]
 refine holdW_read (i := 6) (v := ?_) ⟨s0, fun _ => t0⟩ rfl (by kernel_rfl) (by kernel_rfl) (by kernel_rfl) rfl (fun _ _ _ h => h) rfl ?_ ?_
 rotate_left
 ·intro w' hN
  go_simp
  try with_reducible rfl
 simp only [Act.put, ly1, ly2, ly3, ly4, ly5, ly6]
 refine holdW_read (i := 7) (v := ?_) ⟨s0, fun _ => t0⟩ rfl (by kernel_rfl) (by kernel_rfl) (by kernel_rfl) rfl (fun _ _ _ h => h) rfl ?_ ?_
 rotate_left
 ·intro w' hN
  go_simp
  try with_reducible rfl
 simp only [Act.put, ly1, ly2, ly3, ly4, ly5, ly6]
 refine holdW_readT (i := 8) (v := ?_) ⟨s0, fun _ => t0⟩ rfl (by kernel_rfl) (by kernel_rfl) (by kernel_rfl) (by kernel_rfl) (by kernel_rfl) (fun _ _ _ h => h) rfl ?_ ?_
 rotate_left
 ·intro w' hN
  go_simp
  try with_reducible rfl
 simp only [Act.put, ly1, ly2, ly3, ly4, ly5, ly6]
 clear r15 r13
 refine holdW_step (i := 9) (by kernel_rfl) rfl rfl (fun K hK => ?_)
 obtain ⟨q0, hq0, hqz, hqs, hqb⟩ := info_parts info_refrec
 obtain ⟨us, huo, hul, hua⟩ := HC2.out.1
 have hnal : v.na ≤ 1000000 := by have := HH.out.1.na; omega
 refine wp_slM (E := recElt) _ _ _ 37 70 rfl q0 (.agg #[.int .i64 0, .int .u64 0, .slice none 0 0]) 40 Tryz.underlying37 hq0 hqz hqs hqb rfl base DD v.Aa v.na v.ca (logOf id21 s.segs).recs rfl HC2.out.2.2.1 _ v.Aw v.nw v.cw us s.waits rfl (Row.of_own huo) hul (fun k hk => recElt.imp (hua k hk) fun b _ hb => ⟨hb.1, (HOUT.out b hb.1).2.2.2.1⟩) (by omega) (by omega) (by have := HKD.out.size; omega) ?_
 intro A8 c8 wE o8 hg8 hbk8
 have kE : Keep (fun j => some j ≠ blk v.Aa) wD wE := Keep.grown (Keep.refl _ _) hg8 (fun j hj hd => absurd hj.symm hd)
 have s7 : Keep (fun j => j ≠ bw ∧ some j ≠ blk v.Aa) wD wE := s0.trans2 kE (fun b _ hb => hb.2)
 refine hK.out _ _ ⟨s7, fun h => absurd h (by decide)⟩ ?_
 clear hK K
 try simp only [Act.put, ly1, ly2, ly3, ly4, ly5, ly6]
 refine holdW_read (i := 10) (v := ?_) ⟨s7, fun h => absurd h (by decide)⟩ rfl (by kernel_rfl) (by kernel_rfl) (by kernel_rfl) rfl (fun _ _ _ h => h) rfl ?_ ?_
 rotate_left
 ·intro w' hN
  go_simp
  try with_reducible rfl
 simp only [Act.put, ly1, ly2, ly3, ly4, ly5, ly6]
 refine holdW_read (i := 11) (v := ?_) ⟨s7, fun h => absurd h (by decide)⟩ rfl (by kernel_rfl) (by kernel_rfl) (by kernel_rfl) rfl (fun _ _ _ h => h) rfl ?_ ?_
 rotate_left
 ·intro w' hN
  go_simp
  try with_reducible rfl
 simp only [Act.put, ly1, ly2, ly3, ly4, ly5, ly6]
 have hcE := HcD.out.keep kE (fun e => HNO.out.1.2.2.1 e.symm)
 have d15 : wE.cell? ⟨bw, 15, none⟩ = some (.slice v.Aa v.na v.ca) := hcE.cell rfl
 have f15 := hcE.free 15
 refine holdW_step (i := 12) (by kernel_rfl) rfl rfl (fun K hK => ?_)
 go_simp
 have hcF : W21At (wE.setCell ⟨bw, 15, none⟩ (.slice A8 (v.na + v.nw) c8)) bw { v with Ah := A7, nh := v.nh + 1, ch := c7, Aa := A8, na := v.na + v.nw, ca := c8 } := hcE.set 15 _ rfl
 have kS := keep_cell wE bw 15 (.slice A8 (v.na + v.nw) c8)
 have s8 := s7.trans2 kS (fun b _ hb => hb.1)
 refine hK.out _ _ ⟨s8, fun h => absurd h (by decide)⟩ ?_
 clear hK K d15 f15 hcE
 try simp only [Act.put, ly1, ly2, ly3, ly4, ly5, ly6]
 generalize wE.setCell _ _ = wF at *
 refine wpAnyW_done (by kernel_rfl) ?_ _
 have hAb8 : blk A8 ≠ some bw := fun e => by rcases hbk8 with h1 | h1; exact HNO.out.1.2.2.1 (h1.symm.trans e); rw [h1] at e; injection e with e; have := HKD.out.size; have := HLL.out.2.2.2.2; omega
 have hA8N : ∀ k, blk A8 = some k → blk v.Aa = some k ∨ N ≤ k := fun k hk => by rcases hbk8 with h1 | h1; exact .inl (h1.symm.trans hk); rw [h1] at hk; injection hk with hk; exact .inr (by omega)
 obtain ⟨_, oh⟩ := HC2.out.2.1.own
 obtain ⟨_, oa⟩ := HC2.out.2.2.1.own
 obtain ⟨_, oi⟩ := HC2.out.2.2.2.own
 have HF1 : Hid (OwnSl 94 headElt wF base DD A7 (v.nh + 1) c7 ((logOf id21 s.segs).heads ++ [ch]) ∧ OwnSl 70 recElt wF base DD A8 (v.na + v.nw) c8 ((logOf id21 s.segs).recs ++ s.waits) ∧ OwnSl 25 imgElt wF base DD v.Ai v.ni v.ci (logOf id21 s.segs).images) := Lib.hid ⟨
  HC2.out.2.1.keepE s8 (fun k hk => ⟨fun e => H7.out.1 (by rw [hk, e]), fun e => own_two oa oh (by decide) k hk e.symm⟩) (fun b hb => ⟨(HOUT.out b hb).1, (HOUT.out b hb).2.2.2.1⟩),
  o8.keepE kS (fun k hk e => hAb8 (by rw [hk, e])) (fun b hb => (HOUT.out b hb).1),
  HC2.out.2.2.2.keepE s8 (fun k hk => ⟨fun e => HNO.out.1.2.2.2 (by rw [hk, e]), fun e => own_two oa oi (by decide) k hk e.symm⟩) (fun b hb => ⟨(HOUT.out b hb).1, (HOUT.out b hb).2.2.2.1⟩)⟩
 have HBI := Lib.hid (HBI.out.keep s8 (fun b _ hb => ⟨(HOUT.out b hb).1, (HOUT.out b hb).2.2.2.1⟩))
 have HKF : Hid (Keep (fun j => j ≠ bw ∧ some j ≠ blk v.Ah ∧ some j ≠ blk v.Aa ∧ some j ≠ blk v.Ai) w wF) := Lib.hid (HKD.out.trans2 s8 (fun j _ hj => ⟨hj.1, hj.2.2.1⟩))
 have hNF : N ≤ wF.heap.size := by have := s8.size; omega
 have H8 := Lib.hid (And.intro hAb8 hA8N)
 clear s0 t0 huo hul hua o8 hg8 hbk8 kE s7 kS s8 hAb8 hA8N oh oa oi HC2 HcD HKD hND
 have kG : New wF (wF.alloc (.cells #[.slice A3 1024 c3] 25)) := (New.refl wF).alloc _
 have hrw := (Row.made wF 25 #[.slice A3 1024 c3] 1 1 rfl).imp (E := fun _ => True) fun _ _ _ => trivial
 have HFG := Lib.hid (And.intro (HF1.out.1.new kG) (And.intro (HF1.out.2.1.new kG) (HF1.out.2.2.new kG)))
 have hbiG := (HBI.out.new kG).imp (E := fun b => DD b ∧ some b ≠ blk v.Ai) fun b _ hb => ⟨hb, (HOUT.out b hb).2.2.2.2⟩
 have hcG := hcF.new kG
 have i16 : wF.cell? ⟨bw, 16, none⟩ = some (.slice v.Ai v.ni v.ci) := hcF.cell rfl
 have hni : v.ni ≤ 1000 := by have h1 := HH.out.1.ni; have h2 := HH.out.1.nh; omega
 have hzG : base ≤ (wF.alloc (.cells #[.slice A3 1024 c3] 25)).heap.size := by have := kG.size; have := HKF.out.size; omega
 have hbiG : imgElt.At _ (fun b => DD b ∧ some b ≠ blk v.Ai) [.slice A3 1024 c3] 0 bb := ⟨A3, c3, by rw [hbl0]; rfl, by omega, hc3.2, by rw [hbl0]; exact hbiG⟩
 obtain ⟨q0, hq0, hqz, hqs, hqb⟩ := info_parts info_img
 replace hcG := Lib.hid hcG
 have HcF := Lib.hid hcF
 replace hbiG := Lib.hid hbiG
 have HkG := Lib.hid kG
 clear hcF kG
 go_upto_region 6 with (first
  | (at_builtin; refine app_sl (E := imgElt) _ rfl _ _ 39 25 rfl q0 (.slice none 0 0) 24 Tryz.underlying39 hq0 hqz hqs hqb rfl base DD v.Ai v.ni v.ci (logOf id21 s.segs).images rfl HFG.out.2.2 (fun _ => True) (some ⟨wF.heap.size, 0, none⟩) 1 [.slice A3 1024 c3] bb rfl hrw hbiG.out (by omega) (by omega) hzG ?_; intro A9 c9 wH o9 hg9 hbk9; have kH : Keep (fun j => some j ≠ blk v.Ai) _ wH := Keep.grown (Keep.refl _ _) hg9 (fun j hj hd => absurd hj.symm hd); have hcH := hcG.out.keep kH (fun e => HNO.out.1.2.2.2 e.symm); have i16 : wH.cell? ⟨bw, 16, none⟩ = some (.slice v.Ai v.ni v.ci) := hcH.cell rfl; have f16 := hcH.free 16)
  | fail)
 clear i16 f16
 have hcI : W21At (wH.setCell ⟨bw, 16, none⟩ (.slice A9 (v.ni + 1) c9)) bw { v with Ah := A7, nh := v.nh + 1, ch := c7, Aa := A8, na := v.na + v.nw, ca := c8, Ai := A9, ni := v.ni + 1, ci := c9 } := hcH.set 16 _ rfl
 have kS := keep_cell wH bw 16 (.slice A9 (v.ni + 1) c9)
 generalize wH.setCell ⟨bw, 16, none⟩ (.slice A9 (v.ni + 1) c9) = wI at *
 have i13 : wI.cell? ⟨bw, 13, none⟩ = some (.slice v.Aw v.nw v.cw) := hcI.cell rfl
 have f13 := hcI.free 13
 go_wp2_with fail
 go_end0
 have hcJ : W21At (wI.setCell ⟨bw, 13, none⟩ (.slice none 0 0)) bw { v with Aw := none, nw := 0, cw := 0, Ah := A7, nh := v.nh + 1, ch := c7, Aa := A8, na := v.na + v.nw, ca := c8, Ai := A9, ni := v.ni + 1, ci := c9 } := hcI.set 13 _ rfl
 have kT := keep_cell wI bw 13 (.slice none 0 0)
 have kST := kS.trans kT
 have hGs := HkG.out.size
 have hAb9 : blk A9 ≠ some bw := fun e => by rcases hbk9 with h1 | h1; exact HNO.out.1.2.2.2 (h1.symm.trans e); rw [h1] at e; injection e with e; have := HKF.out.size; have := HLL.out.2.2.2.2; omega
 have hA9N : ∀ k, blk A9 = some k → blk v.Ai = some k ∨ N ≤ k := fun k hk => by rcases hbk9 with h1 | h1; exact .inl (h1.symm.trans hk); rw [h1] at hk; injection hk with hk; exact .inr (by omega)
 obtain ⟨_, oh⟩ := HFG.out.1.own
 obtain ⟨_, oa⟩ := HFG.out.2.1.own
 obtain ⟨_, oi⟩ := HFG.out.2.2.own
 have hD9 : ∀ b, DD b → some b ≠ blk v.Ai ∧ b ≠ bw := fun b hb => ⟨(HOUT.out b hb).2.2.2.2, (HOUT.out b hb).1⟩
 have hheads := (HFG.out.1.keepE kH (fun k hk e => own_two oi oh (by decide) k hk e.symm) (fun b hb => (hD9 b hb).1)).keepE kST (fun k hk e => H7.out.1 (by rw [hk, e])) (fun b hb => (hD9 b hb).2)
 have hall := (HFG.out.2.1.keepE kH (fun k hk e => own_two oi oa (by decide) k hk e.symm) (fun b hb => (hD9 b hb).1)).keepE kST (fun k hk e => H8.out.1 (by rw [hk, e])) (fun b hb => (hD9 b hb).2)
 have himg := o9.keepE kST (fun k hk e => hAb9 (by rw [hk, e])) (fun b hb => (hD9 b hb).2)
 have hst := HST.out.1
 refine ⟨rfl, (((HKF.out.new HkG.out).trans2 kH (fun j _ hj => hj.2.2.2)).trans2 kST (fun j _ hj => hj.1)), { v with Aw := none, nw := 0, cw := 0, Ah := A7, nh := v.nh + 1, ch := c7, Aa := A8, na := v.na + v.nw, ca := c8, Ai := A9, ni := v.ni + 1, ci := c9 }, DD, ⟨hcJ, rfl, ?_, ?_, ?_, OwnSl.nil _ _ _ _ _, ?_, ?_, ?_, fun b hb => ⟨(hD9 b hb).2, by simp [blk], fun e => ?_, fun e => ?_, fun e => ?_⟩, fun k hk => (by cases hk)⟩, ⟨rfl, rfl, rfl, rfl, rfl, rfl⟩, ⟨fun k hk => (by cases hk), fun k hk => (H7.out.2 k hk).imp (fun h => h) (fun h => by omega), fun k hk => (H8.out.2 k hk).imp (fun h => h) (fun h => by omega), fun k hk => (hA9N k hk).imp (fun h => h) (fun h => by omega)⟩, fun b hb => (HDL.out b hb).2⟩
 ·simp [HST.out.2.2]
 ·rw [hst]; simp [HST.out.2.1, HH.out.1.na]
 ·simp [HH.out.1.ni]
 ·rw [hst]; exact hheads
 ·rw [hst]; exact hall
 ·rw [hst]; exact himg
 ·rcases H7.out.2 b e.symm with h1 | h1
  ·exact (HOUT.out b hb).2.2.1 h1.symm
  ·have := (HDL.out b hb).1; omega
 ·rcases H8.out.2 b e.symm with h1 | h1
  ·exact (HOUT.out b hb).2.2.2.1 h1.symm
  ·have := (HDL.out b hb).1; omega
 ·rcases hA9N b e.symm with h1 | h1
  ·exact (HOUT.out b hb).2.2.2.2 h1.symm
  ·have := (HDL.out b hb).1; omega
set_option maxRecDepth 100000 in
theorem wseal_none {w : World} {bw : Nat} {v : W21V} (h : W21At w bw v) (hn : v.nw = 0) : Calls Tryz.prog 30 #[.pointer (some ⟨bw, 0, none⟩)] w fun e w' => e = .returned (.tuple #[]) ∧ New w w' := by
 have c13 : w.cell? ⟨bw, 13, none⟩ = some (.slice v.Aw v.nw v.cw) := h.cell rfl
 rw [hn] at c13
 clear h hn
 go_enter Tryz.func30, Tryz.ntmps30
 go_wp2_with fail
 refine bodyPost_ret (results_none rfl _ _ _) rfl ?_
 exact ⟨rfl, New.refl _⟩
end Go.Proofs.YtajnkbfcnmajoaaGreatDoor
