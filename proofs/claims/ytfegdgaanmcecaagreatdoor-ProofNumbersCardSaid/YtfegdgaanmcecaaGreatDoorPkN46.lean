/-
  PROVED HERE: what permafrostref24.readHead and Decode answer; condition: lengths that a slice may have.
-/
import Derived.Test.YtfegdgaanmcecaaGreatDoorPkN42
import Derived.Test.YtfegdgaanmcecaaGreatDoorPkN44
namespace Go.Proofs.YtfegdgaanmcecaaGreatDoor
open Go.RowKit
theorem getRows_add (s : RdS) (k : Nat) : ∀ j, (getRows (k + j) s).2 = (getRows j (getRows k s).2).2
 | 0 => rfl
 | j + 1 => by
  show ((getRows (k + j) s).2.raw 32).2 = ((getRows j (getRows k s).2).2.raw 32).2
  rw [getRows_add s k j]
theorem getHeads_add (s : RdS) (k : Nat) : ∀ j, (getHeads (k + j) s).2 = (getHeads j (getHeads k s).2).2
 | 0 => rfl
 | j + 1 => by
  show (getHead (getHeads (k + j) s).2).2 = (getHead (getHeads j (getHeads k s).2).2).2
  rw [getHeads_add s k j]
theorem endOf_why {s : RdS} (h : s.endOf = 0) : s.why = 0 := by
 unfold RdS.endOf at h
 split at h
 ·exact absurd h (by decide)
 ·exact h
theorem dec_stop {bs : List UInt8} {h : HeadP} {s1 s2 s3 s4 s5 s6 s7 : RdS} {pl np nl k k2 : Nat} {lf : List UInt8} {ps : List (List UInt8)} {ls : List HeadP} (e0 : getHead ⟨bs, 0⟩ = (h, s1)) (e1 : s1.num 2 = (pl, s2)) (e2 : s2.lenRow = (lf, s3)) (e3 : s3.num 1 = (np, s4)) (e4 : getRows k s4 = (ps, s5)) (hk : k ≤ np) (x1 : k = np ∨ s5.why ≠ 0) (e5 : s5.num 2 = (nl, s6)) (e6 : getHeads k2 s6 = (ls, s7)) (hk2 : k2 ≤ nl) (x2 : k2 = nl ∨ s7.why ≠ 0) :
  (s7.endOf = 0 → decParts bs = (⟨h, (pl : Nat), lf, ps, ls⟩, s7)) ∧ (s7.endOf ≠ 0 → decodeOf bs = (noProof, 12)) := by
 constructor
 ·intro he
  have w7 := endOf_why he
  obtain rfl : k2 = nl := x2.resolve_right (fun h => h w7)
  have w6 : s6.why = 0 := (getHeads_ok (s := s6) k2 (by rw [e6]; exact w7)).1
  have w5 : s5.why = 0 := (num_ok (s := s5) (k := 2) (by rw [e5]; exact w6)).1
  obtain rfl : k = np := x1.resolve_right (fun h => h w5)
  simp only [decParts, e0, e1, e2, e3, e4, e5, e6]
 ·intro he
  unfold decodeOf
  rw [if_neg]
  rintro ⟨hz, _⟩
  apply he
  have hd : (decParts bs).2 = (getHeads ((getRows np s4).2.num 2).1 ((getRows np s4).2.num 2).2).2 := by simp only [decParts, e0, e1, e2, e3]
  rw [hd] at hz
  have w1 := endOf_why hz
  have w2 := (getHeads_ok _ w1).1
  have w3 := (num_ok w2).1
  have w5 : s5.why = 0 := by
   have h4 : (getRows np s4).2 = (getRows (np - k) s5).2 := by
    have := getRows_add s4 k (np - k)
    rw [show k + (np - k) = np from by omega, e4] at this
    exact this
   rw [h4] at w3
   exact (getRows_ok _ w3).1
  obtain rfl : k = np := x1.resolve_right (fun h => h w5)
  rw [e4] at hz w1
  dsimp only at hz w1
  rw [e5] at hz w1
  dsimp only at hz w1
  have w7 : s7.why = 0 := by
   have h4 : (getHeads nl s6).2 = (getHeads (nl - k2) s7).2 := by
    have := getHeads_add s6 k2 (nl - k2)
    rw [show k2 + (nl - k2) = nl from by omega, e6] at this
    exact this
   rw [h4] at w1
   exact (getHeads_ok _ w1).1
  obtain rfl : k2 = nl := x2.resolve_right (fun h => h w7)
  rw [e6] at hz
  exact hz
set_option maxRecDepth 100000 in
theorem r4end_any (p : Nat) (b0 : List UInt8) (s : RdS) (w : World) (hR : Rd4 w p b0 s) :
  Calls Tryz.prog 64 #[.pointer (some ⟨p, 0, none⟩)] w fun e w' => e = .returned (.int .i64 s.endOf) ∧ New w w' := by
 obtain ⟨A, m, c, h1, h2, h3, h4⟩ := hR.row
 have hy := hR.why
 have ha := hR.at_
 obtain ⟨j, hj, hb⟩ := hR.cut
 have hl := h4.len
 have hsl : s.bs.length = m - j := by rw [hb, List.length_drop, hl]
 have hat : b0.length - s.bs.length = j := by omega
 rw [hat] at ha
 have HE : Hid (s.endOf = if s.why = 0 ∧ 0 < m - j then 11 else s.why) := Lib.hid (by unfold RdS.endOf; rw [hsl])
 have hjm : j ≤ m := by omega
 clear hR h4 hl hsl hat hb hj
 by_cases h0 : s.why = 0
 ·rw [h0] at hy HE
  by_cases hm : (j : Int) < (m : Int)
  ·have HE2 : Hid (s.endOf = 11) := Lib.hid (by rw [HE.out, if_pos ⟨rfl, by omega⟩])
   clear h0 HE
   have hm2 : j < m := by omega
   go_enter Tryz.func64, Tryz.ntmps64
   go_upto_region 3 with fail
   go_quiet (fail)
   go_wp2_with fail
   go_ret
   exact ⟨by rw [HE2.out]; rfl, (New.refl w).drewN _⟩
  ·have HE2 : Hid (s.endOf = 0) := Lib.hid (by rw [HE.out, if_neg (fun h => hm (by omega))])
   clear h0 HE
   have hm2 : ¬ j < m := by omega
   go_enter Tryz.func64, Tryz.ntmps64
   go_upto_region 3 with fail
   go_quiet (fail)
   go_wp2_with fail
   go_ret
   exact ⟨by rw [HE2.out]; rfl, (New.refl w).drewN _⟩
 ·have HE2 : Hid (s.endOf = s.why) := Lib.hid (by rw [HE.out, if_neg (fun h => h0 h.1)])
  have h0' : (s.why != 0) = true := by simpa using h0
  clear HE
  generalize s.why = y at *
  generalize s.endOf = z at *
  clear h0
  go_enter Tryz.func64, Tryz.ntmps64
  go_wp2_with fail
  go_ret
  exact ⟨by rw [HE2.out]; rfl, New.refl w⟩
set_option maxRecDepth 100000 in
set_option maxHeartbeats 2000000 in
theorem rget_any (q : Nat) (b0 : List UInt8) (s : RdS) (w : World) (hR : Rd4 w q b0 s) :
  Calls Tryz.prog 59 #[.pointer (some ⟨q, 0, none⟩)] w fun e w' => (∃ P1 R1 p1 r1, e = .returned (.agg #[.int .i64 (getHead s).1.index, .int .u64 (getHead s).1.first, .int .i64 (getHead s).1.count, .int .i64 (getHead s).1.bytes, .slice P1 (getHead s).1.prev.length p1, .slice R1 (getHead s).1.root.length r1]) ∧ (getHead s).1.prev.length ≤ p1 ∧ (getHead s).1.root.length ≤ r1 ∧ Bs w' (fun b => w.heap.size ≤ b) P1 (getHead s).1.prev.length (getHead s).1.prev ∧ Bs w' (fun b => w.heap.size ≤ b) R1 (getHead s).1.root.length (getHead s).1.root) ∧ Rd4 w' q b0 (getHead s).2 ∧ Keep (fun b => b ≠ q) w w' := by
 obtain ⟨a, s1, e0⟩ : ∃ a s1, s.num 2 = (a, s1) := ⟨_, _, rfl⟩
 obtain ⟨b, s2, e1⟩ : ∃ b s2, s1.num 8 = (b, s2) := ⟨_, _, rfl⟩
 obtain ⟨c, s3, e2⟩ : ∃ c s3, s2.num 2 = (c, s3) := ⟨_, _, rfl⟩
 obtain ⟨d, s4, e3⟩ : ∃ d s4, s3.num 2 = (d, s4) := ⟨_, _, rfl⟩
 obtain ⟨pv, s5, e4⟩ : ∃ pv s5, s4.raw 32 = (pv, s5) := ⟨_, _, rfl⟩
 obtain ⟨rt, s6, e5⟩ : ∃ rt s6, s5.raw 32 = (rt, s6) := ⟨_, _, rfl⟩
 have HE : Hid (getHead s = (⟨(a : Nat), (b : Nat), (c : Nat), (d : Nat), pv, rt⟩, s6)) := Lib.hid (by simp only [getHead, e0, e1, e2, e3, e4, e5])
 rw [HE.out]
 dsimp only
 have kB := (New.refl w).alloc (.cells #[.int .i64 0, .int .u64 0, .int .i64 0, .int .i64 0, .slice none 0 0, .slice none 0 0] 40)
 have hG := heap_alloc_new w (.cells #[.int .i64 0, .int .u64 0, .int .i64 0, .int .i64 0, .slice none 0 0, .slice none 0 0] 40)
 have hql : q < w.heap.size := hR.lt
 have HR := Lib.hid (hR.keep kB)
 have HG := Lib.hid hG
 have HK : Hid (Keep (fun b => b ≠ q) w (w.alloc _)) := Lib.hid (Keep.of_new kB)
 have HQ := Lib.hid hql
 have E0 := Lib.hid e0
 have E1 := Lib.hid e1
 have E2 := Lib.hid e2
 have E3 := Lib.hid e3
 have E4 := Lib.hid e4
 have E5 := Lib.hid e5
 clear hR kB hG hql HE e0 e1 e2 e3 e4 e5
 go_enter Tryz.func59, Tryz.ntmps59
 go_wp2_with fail
 generalize w.alloc (.cells #[.int .i64 0, .int .u64 0, .int .i64 0, .int .i64 0, .slice none 0 0, .slice none 0 0] 40) = w0 at *
 generalize hgb : w.heap.size = gb at *
 have hgq : gb ≠ q := by have := HQ.out; omega
 have HNQ := Lib.hid hgq
 clear hgq
 have hC := r4short_any q b0 s w0 HR.out
 rw [E0.out] at hC
 dsimp only at hC
 have HC := Lib.hid hC
 clear hC
 refine HC.out.mono ?_
 rintro e w1 ⟨rfl, hR, kK⟩
 have HR := Lib.hid hR
 have HG := Lib.hid (kK.blockAt HG.out HNQ.out)
 have HK := Lib.hid (HK.out.trans kK)
 clear hR kK HC
 go_wp2_with fail
 have hC := r4long_any q b0 s1 w1 HR.out
 rw [E1.out] at hC
 dsimp only at hC
 have HC := Lib.hid hC
 clear hC
 refine HC.out.mono ?_
 rintro e w2 ⟨rfl, hR, kK⟩
 have HR := Lib.hid hR
 have HG := Lib.hid (kK.blockAt HG.out HNQ.out)
 have HK := Lib.hid (HK.out.trans kK)
 clear hR kK HC
 go_wp2_with fail
 have hC := r4short_any q b0 s2 w2 HR.out
 rw [E2.out] at hC
 dsimp only at hC
 have HC := Lib.hid hC
 clear hC
 refine HC.out.mono ?_
 rintro e w3 ⟨rfl, hR, kK⟩
 have HR := Lib.hid hR
 have HG := Lib.hid (kK.blockAt HG.out HNQ.out)
 have HK := Lib.hid (HK.out.trans kK)
 clear hR kK HC
 go_wp2_with fail
 have hC := r4short_any q b0 s3 w3 HR.out
 rw [E3.out] at hC
 dsimp only at hC
 have HC := Lib.hid hC
 clear hC
 refine HC.out.mono ?_
 rintro e w4 ⟨rfl, hR, kK⟩
 have HR := Lib.hid hR
 have HG := Lib.hid (kK.blockAt HG.out HNQ.out)
 have HK := Lib.hid (HK.out.trans kK)
 clear hR kK HC
 go_wp2_with fail
 have hC := r4raw_any q b0 s4 32 w4 HR.out (by decide) (by decide)
 rw [E4.out] at hC
 dsimp only at hC
 have HC := Lib.hid hC
 clear hC
 refine HC.out.mono ?_
 rintro e w5 ⟨⟨A4, c4, rfl, oB⟩, hR, kK⟩
 have HR := Lib.hid hR
 have HG := Lib.hid (kK.blockAt HG.out HNQ.out)
 have HCP4 := Lib.hid (own_cap oB)
 have HO4 := Lib.hid ((Row.of_own oB).imp (E := fun b => gb ≤ b) (fun b _ hb => Nat.le_trans (by have := HK.out.size; rw [hgb] at this; exact this) hb))
 have HK := Lib.hid (HK.out.trans kK)
 clear hR kK HC oB
 go_wp2_with fail
 have hC := r4raw_any q b0 s5 32 w5 HR.out (by decide) (by decide)
 rw [E5.out] at hC
 dsimp only at hC
 have HC := Lib.hid hC
 clear hC
 refine HC.out.mono ?_
 rintro e w6 ⟨⟨A5, c5, rfl, oB⟩, hR, kK⟩
 have HR := Lib.hid hR
 have HG := Lib.hid (kK.blockAt HG.out HNQ.out)
 have HO4 := Lib.hid (HO4.out.keep kK (fun b _ hb => by have h1 := HQ.out; have h2 : gb ≤ b := hb; omega))
 have HCP5 := Lib.hid (own_cap oB)
 have HO5 := Lib.hid ((Row.of_own oB).imp (E := fun b => gb ≤ b) (fun b _ hb => Nat.le_trans (by have := HK.out.size; rw [hgb] at this; exact this) hb))
 have HK := Lib.hid (HK.out.trans kK)
 clear hR kK HC oB
 obtain ⟨d0, d1, d2, d3, d4, d5⟩ := cs6 HG.out
 obtain ⟨z0, z1, z2, z3, z4, z5⟩ := fz6 HG.out
 go_wp2_with fail
 clear d0 z0 d1 z1 d2 z2 d3 z3 d4 z4 d5 z5
 have hE := set_six HG.out (.int .i64 (a : Nat)) (.int .u64 (b : Nat)) (.int .i64 (c : Nat)) (.int .i64 (d : Nat)) (.slice A4 pv.length c4) (.slice A5 rt.length c5)
 have kE := keep_six w6 gb (.int .i64 (a : Nat)) (.int .u64 (b : Nat)) (.int .i64 (c : Nat)) (.int .i64 (d : Nat)) (.slice A4 pv.length c4) (.slice A5 rt.length c5)
 generalize hwE : World.setCell _ _ _ = wE at *
 obtain ⟨f0, f1, f2, f3, f4, f5⟩ := cs6 hE
 refine bodyPost_ret (v := .agg #[.int .i64 (a : Nat), .int .u64 (b : Nat), .int .i64 (c : Nat), .int .i64 (d : Nat), .slice A4 pv.length c4, .slice A5 rt.length c5]) (by simp [results, Tryz.results59, go_sem, f0, f1, f2, f3, f4, f5]) rfl ?_
 have hsz : gb < w6.heap.size := (Array.getElem?_eq_some_iff.1 HG.out).1
 have hb4 := HO4.out; have hb5 := HO5.out
 have hr4 := bs_off hb4 HG.out; have hr5 := bs_off hb5 HG.out
 simp only [hgb]
 refine ⟨⟨A4, A5, c4, c5, rfl, HCP4.out, HCP5.out, (hr4.keep kE (fun b _ hb => hb.2)).imp fun b _ hb => hb.1, (hr5.keep kE (fun b _ hb => hb.2)).imp fun b _ hb => hb.1⟩, HR.out.keepE kE (fun b hb => by have := HQ.out; omega), ?_⟩
 exact (Keep.trans2 (D := fun b => b ≠ q) (E := fun b => b ≠ q ∧ b ≠ gb) HK.out (Keep.imp kE (E := fun b => b ≠ q ∧ b ≠ gb) (fun b _ hb => hb.2)) (fun b hb hd => ⟨hd, by rw [hgb] at hb; omega⟩))
set_option maxRecDepth 100000 in
set_option maxHeartbeats 8000000 in
theorem rdecode_any (D : Nat → Prop) (A : Option Addr) (n c : Nat) (bs : List UInt8) (w : World) (hB : Bs w D A n bs) (hn : n ≤ 1099511627776) (hnc : n ≤ c) (hc9 : c ≤ 9223372036854775807) : Calls Tryz.prog 26 #[.slice A n c] w (DecRet (decodeOf bs) w) := by
 obtain ⟨h, s1, e0⟩ : ∃ h s1, getHead ⟨bs, 0⟩ = (h, s1) := ⟨_, _, rfl⟩
 obtain ⟨pl, s2, e1⟩ : ∃ pl s2, s1.num 2 = (pl, s2) := ⟨_, _, rfl⟩
 obtain ⟨lf, s3, e2⟩ : ∃ lf s3, s2.lenRow = (lf, s3) := ⟨_, _, rfl⟩
 obtain ⟨np, s4, e3⟩ : ∃ np s4, s3.num 1 = (np, s4) := ⟨_, _, rfl⟩
 have hf : 0 ≤ h.first ∧ h.first ≤ 18446744073709551615 := by have q := getHead_first ⟨bs, 0⟩; rw [e0] at q; exact q
 have hnp : np ≤ 255 := by have q := num_lt s3 1; rw [e3] at q; dsimp only at q; omega
 have kZ := (New.refl w).alloc (.cells #[.int .i64 0, .int .u64 0, .int .i64 0, .int .i64 0, .slice none 0 0, .slice none 0 0, .int .i64 0, .slice none 0 0, .slice none 0 0, .slice none 0 0] 50)
 have kB := kZ.alloc (.cells #[.slice A n c, .int .i64 0, .int .i64 0] 109)
 have hG := ((New.refl (w.alloc (.cells #[.int .i64 0, .int .u64 0, .int .i64 0, .int .i64 0, .slice none 0 0, .slice none 0 0, .int .i64 0, .slice none 0 0, .slice none 0 0, .slice none 0 0] 50))).alloc (.cells #[.slice A n c, .int .i64 0, .int .i64 0] 109)).blockAt (heap_alloc_new w (.cells #[.int .i64 0, .int .u64 0, .int .i64 0, .int .i64 0, .slice none 0 0, .slice none 0 0, .int .i64 0, .slice none 0 0, .slice none 0 0, .slice none 0 0] 50)) trivial
 have hR := Rd4.made (hB.new kZ) hnc hc9 hn
 have hsz : (w.alloc (.cells #[.int .i64 0, .int .u64 0, .int .i64 0, .int .i64 0, .slice none 0 0, .slice none 0 0, .int .i64 0, .slice none 0 0, .slice none 0 0, .slice none 0 0] 50)).heap.size = w.heap.size + 1 := by simp
 rw [hsz] at hR
 have HG := Lib.hid hG
 have HN1 := Lib.hid kB
 have HF := Lib.hid hf
 have HR := Lib.hid hR
 have E0 := Lib.hid e0
 have E1 := Lib.hid e1
 have E2 := Lib.hid e2
 have E3 := Lib.hid e3
 clear hB kZ kB hG hf hR hsz e0 e1 e2 e3
 go_enter Tryz.func26, Tryz.ntmps26
 go_wp2_with fail
 generalize (w.alloc (.cells #[.int .i64 0, .int .u64 0, .int .i64 0, .int .i64 0, .slice none 0 0, .slice none 0 0, .int .i64 0, .slice none 0 0, .slice none 0 0, .slice none 0 0] 50)).alloc (.cells #[.slice A n c, .int .i64 0, .int .i64 0] 109) = w1 at *
 generalize hgb : w.heap.size = gb at *
 obtain ⟨q, hq⟩ : ∃ q, q = gb + 1 := ⟨_, rfl⟩
 rw [← hq] at HR ⊢
 have HQ : Hid (gb < q ∧ q < w1.heap.size) := Lib.hid ⟨by omega, HR.out.lt⟩
 have HNQ : Hid (gb ≠ q) := Lib.hid (by have := HQ.out; omega)
 have hC := rget_any q bs ⟨bs, 0⟩ w1 HR.out
 rw [E0.out] at hC
 dsimp only at hC
 have HC := Lib.hid hC
 clear hC HR hq
 refine HC.out.mono ?_
 rintro e w2 ⟨⟨P1, R1, p1, r1, rfl, hp1, hr1, hP, hR1⟩, hR, k2⟩
 have HP := Lib.hid (Row.imp hP (E := fun b => (gb < b ∧ b < w2.heap.size) ∧ b ≠ q) (fun b hb hd => by have := HQ.out; have h2 : w1.heap.size ≤ b := hd; omega))
 have HR1 := Lib.hid (Row.imp hR1 (E := fun b => (gb < b ∧ b < w2.heap.size) ∧ b ≠ q) (fun b hb hd => by have := HQ.out; have h2 : w1.heap.size ≤ b := hd; omega))
 have HCP := Lib.hid (And.intro hp1 hr1)
 have HG := Lib.hid (k2.blockAt HG.out HNQ.out)
 have HK := Lib.hid k2
 have hC := r4short_any q bs s1 w2 hR
 rw [E1.out] at hC
 dsimp only at hC
 have HC := Lib.hid hC
 clear hC hR k2 hP hR1 hp1 hr1
 go_wp2_with fail
 refine HC.out.mono ?_
 rintro e w3 ⟨rfl, hR, k3⟩
 have HP := Lib.hid ((Row.keep HP.out k3 (fun b _ hb => hb.2)).imp (E := fun b => (gb < b ∧ b < w3.heap.size) ∧ b ≠ q) (fun b hb hd => ⟨⟨hd.1.1, hb⟩, hd.2⟩))
 have HR1 := Lib.hid ((Row.keep HR1.out k3 (fun b _ hb => hb.2)).imp (E := fun b => (gb < b ∧ b < w3.heap.size) ∧ b ≠ q) (fun b hb hd => ⟨⟨hd.1.1, hb⟩, hd.2⟩))
 have HG := Lib.hid (k3.blockAt HG.out HNQ.out)
 have HK := Lib.hid (HK.out.trans k3)
 have hC := r4bytes_any q bs s2 w3 hR
 rw [E2.out] at hC
 dsimp only at hC
 have HC := Lib.hid hC
 clear hC hR k3
 go_wp2_with fail
 refine HC.out.mono ?_
 rintro e w4 ⟨⟨L, lc, rfl, oL⟩, hR, k4⟩
 have HP := Lib.hid ((Row.keep HP.out k4 (fun b _ hb => hb.2)).imp (E := fun b => (gb < b ∧ b < w4.heap.size) ∧ b ≠ q) (fun b hb hd => ⟨⟨hd.1.1, hb⟩, hd.2⟩))
 have HR1 := Lib.hid ((Row.keep HR1.out k4 (fun b _ hb => hb.2)).imp (E := fun b => (gb < b ∧ b < w4.heap.size) ∧ b ≠ q) (fun b hb hd => ⟨⟨hd.1.1, hb⟩, hd.2⟩))
 have HL := Lib.hid ((Row.of_own oL).imp (E := fun b => (gb < b ∧ b < w4.heap.size) ∧ b ≠ q) (fun b hb hd => by have h1 := HQ.out; have h2 := HK.out.size; have h3 : w3.heap.size ≤ b := hd; omega))
 have HLC := Lib.hid (And.intro (own_cap oL) (own_capMax oL))
 have HG := Lib.hid (k4.blockAt HG.out HNQ.out)
 have HK := Lib.hid (HK.out.trans k4)
 have kX := (New.refl w4).alloc (.cells #[.int .i64 h.index, .int .u64 h.first, .int .i64 h.count, .int .i64 h.bytes, .slice P1 h.prev.length p1, .slice R1 h.root.length r1, .int .i64 (pl : Nat), .slice L lf.length lc, .slice none 0 0, .slice none 0 0] 50)
 have hX := heap_alloc_new w4 (.cells #[.int .i64 h.index, .int .u64 h.first, .int .i64 h.count, .int .i64 h.bytes, .slice P1 h.prev.length p1, .slice R1 h.root.length r1, .int .i64 (pl : Nat), .slice L lf.length lc, .slice none 0 0, .slice none 0 0] 50)
 have HR := Lib.hid (hR.keep kX)
 have HX := Lib.hid hX
 have HKX := Lib.hid kX
 clear hR k4 oL kX hX HC
 go_upto_region 3 with fail
 generalize w4.alloc (.cells #[.int .i64 h.index, .int .u64 h.first, .int .i64 h.count, .int .i64 h.bytes, .slice P1 h.prev.length p1, .slice R1 h.root.length r1, .int .i64 (pl : Nat), .slice L lf.length lc, .slice none 0 0, .slice none 0 0] 50) = w5 at *
 generalize hgx : w4.heap.size = gx at *
 have HGX : Hid (w1.heap.size ≤ gx ∧ gx < w5.heap.size) := Lib.hid ⟨by rw [← hgx]; exact HK.out.size, (Array.getElem?_eq_some_iff.1 HX.out).1⟩
 have HXQ : Hid (gx ≠ q) := Lib.hid (by have := HQ.out; have := HGX.out; omega)
 have HP := Lib.hid (Row.new HP.out HKX.out)
 have HR1 := Lib.hid (Row.new HR1.out HKX.out)
 have HL := Lib.hid (Row.new HL.out HKX.out)
 have HG := Lib.hid (HKX.out.blockAt HG.out trivial)
 have HK := Lib.hid (HK.out.new HKX.out)
 have hC := r4byte_any q bs s3 w5 HR.out
 rw [E3.out] at hC
 dsimp only at hC
 have HC := Lib.hid hC
 clear hC HKX HR
 go_wp2_with fail
 refine HC.out.mono ?_
 rintro e w6 ⟨rfl, hR, k6⟩
 have HP := Lib.hid (Row.keep HP.out k6 (fun b _ hb => hb.2))
 have HR1 := Lib.hid (Row.keep HR1.out k6 (fun b _ hb => hb.2))
 have HL := Lib.hid (Row.keep HL.out k6 (fun b _ hb => hb.2))
 have HG := Lib.hid (k6.blockAt HG.out HNQ.out)
 have HX := Lib.hid (k6.blockAt HX.out HXQ.out)
 have HK := Lib.hid (HK.out.trans k6)
 have HR := Lib.hid hR
 have HG6 : Hid (gx < w6.heap.size) := Lib.hid (Array.getElem?_eq_some_iff.1 HX.out).1
 clear hR k6 HC
 go_wp2_with fail
 go_loopw [6] (fun i wx => ∃ (k m : Nat) (A : Option Addr) (c : Nat), k + m = np ∧ i = .int .i64 (m : Int) ∧ wx.heap[gx]? = some (.cells #[.int .i64 h.index, .int .u64 h.first, .int .i64 h.count, .int .i64 h.bytes, .slice P1 h.prev.length p1, .slice R1 h.root.length r1, .int .i64 (pl : Nat), .slice L lf.length lc, .slice A k c, .slice none 0 0] 50 (0, 0)) ∧ OwnImgs wx w6.heap.size (fun b => w6.heap.size ≤ b) A k c (getRows k s4).1 ∧ Rd4 wx q bs (getRows k s4).2 ∧ Keep (fun b => (b ≠ q ∧ b ≠ gx) ∧ b < w6.heap.size) w6 wx) (fun i _ => (intOf i).toNat)
 case atStart => exact ⟨0, np, none, 0, Nat.zero_add _, rfl, HX.out, OwnImgs.nil _ _ _, HR.out, Keep.refl _ _⟩
 case round =>
  obtain ⟨k, m, A, c, hkm, rfl, hgr, hO, hRd, hK⟩ := hrel
  have hgRd := hRd.why
  go_upto_region 4 with fail
  go_cut [30] from 22 to 39 (fun sx wx => sx = .bool (decide (0 < m ∧ (getRows k s4).2.why = 0)) ∧ wr = wx)
  case first =>
   by_cases hm0 : 0 < m
   ·have hmi : (0 : Int) < (m : Int) := by omega
    by_cases hy0 : (getRows k s4).2.why = 0
    ·have hD := Lib.hid (decide_eq_true (p := 0 < m ∧ (getRows k s4).2.why = 0) ⟨hm0, hy0⟩)
     rw [hy0] at hgRd
     clear hy0 hRd hO hK
     go_wp2_with fail
     go_meet
     exact ⟨by rw [hD.out], rfl⟩
    ·have hD := Lib.hid (decide_eq_false (p := 0 < m ∧ (getRows k s4).2.why = 0) (fun h => hy0 h.2))
     have hy1 : ((getRows k s4).2.why == 0) = false := by rw [beq_eq_false_iff_ne]; exact hy0
     clear hy0 hRd hO hK
     go_wp2_with fail
     go_meet
     exact ⟨by rw [hD.out], rfl⟩
   ·have hD := Lib.hid (decide_eq_false (p := 0 < m ∧ (getRows k s4).2.why = 0) (fun h => hm0 h.1))
    have hmi : ¬ (0 : Int) < (m : Int) := by omega
    clear hRd hO hK
    go_wp2_with fail
    go_meet
    exact ⟨by rw [hD.out], rfl⟩
  case rest =>
   obtain ⟨rfl, rfl⟩ := hcut
   clear hgRd
   by_cases hgo : 0 < m ∧ (getRows k s4).2.why = 0
   ·rw [decide_eq_true hgo]
    have hmw : IntKind.i64.wrap ((m : Int) - 1) = ((m - 1 : Nat) : Int) := by rw [IntWalk.i64_in _ (by omega)]; omega
    have hlt : k < np := by omega
    have HTK : Hid (getRows (k + 1) s4 = ((getRows k s4).1 ++ [((getRows k s4).2.raw 32).1], ((getRows k s4).2.raw 32).2)) := Lib.hid rfl
    have hTK := HTK.out
    generalize hst : getRows k s4 = st at hO hRd hTK
    obtain ⟨l, s⟩ := st
    dsimp only at hO hRd hTK
    have HTK := Lib.hid hTK
    clear hTK
    have HO := Lib.hid hO
    have HRd := Lib.hid hRd
    have HKK := Lib.hid hK
    have HGR := Lib.hid hgr
    clear hst hO hRd hK hgr
    go_upto_region 6 with fail
    have hwb : w6.heap.size ≤ wr.heap.size := HKK.out.size
    refine holdW_begin [5, 7] (fun _ => True) (Keep (fun b => b ≠ q) wr.drew) (by kernel_rfl) ?_
    have t0 : Keep (fun b => b ≠ q) wr.drew wr.drew := Keep.refl _ _
    have r9 : ∀ W, Keep (fun b => b ≠ q) wr.drew W → W.cell? ⟨gx, 8, none⟩ = some (.slice A k c) := fun W h => cellOf (h.blockAt (show wr.drew.heap[gx]? = _ from HGR.out) HXQ.out) (k := 8) rfl
    refine holdW_read (i := 0) (v := ?_) ⟨trivial, fun _ => t0⟩ rfl (by kernel_rfl) (by kernel_rfl) (by kernel_rfl) rfl (fun _ _ _ h => h) rfl ?_ ?_
    rotate_left
    ·intro w' hN
     go_simp
     try with_reducible rfl
    simp only [Act.put, ly1, ly3, ly4, ly5, ly6]
    refine holdW_readT (i := 1) (v := ?_) ⟨trivial, fun _ => t0⟩ rfl (by kernel_rfl) (by kernel_rfl) (by kernel_rfl) (by kernel_rfl) (by kernel_rfl) (fun _ _ _ h => h) rfl ?_ ?_
    rotate_left
    ·intro w' hN
     go_simp
     try with_reducible rfl
    simp only [Act.put, ly1, ly2, ly3, ly4, ly5, ly6]
    refine holdW_read (i := 2) (v := ?_) ⟨trivial, fun _ => t0⟩ rfl (by kernel_rfl) (by kernel_rfl) (by kernel_rfl) rfl (fun _ _ _ h => h) rfl ?_ ?_
    rotate_left
    ·intro w' hN
     go_simp
     try with_reducible rfl
    simp only [Act.put, ly1, ly2, ly3, ly4, ly5, ly6]
    refine holdW_step (i := 3) (by kernel_rfl) rfl rfl (fun K hK2 => ?_)
    go_simp
    refine (r4raw_any q bs s 32 wr.drew (HRd.out.keep (New.refl wr).drew) (by decide) (by decide)).mono ?_
    rintro e x7 ⟨⟨A9, c9, rfl, oB⟩, hR7, k7⟩
    go_wp2_with fail
    have hcb := own_cap oB
    have hcm := own_capMax oB
    have hb7 := (Row.of_own oB).imp (E := fun b => w6.heap.size ≤ b ∧ some b ≠ blk A) (fun b _ hb => by have h2 : wr.heap.size ≤ b := hb; exact ⟨by omega, fun e => by have h1 := (HO.out.lt b e.symm).2; omega⟩)
    clear oB
    refine hK2.out _ _ ⟨trivial, fun _ => k7⟩ ?_
    clear hK2 K
    try simp only [Act.put, ly1, ly2, ly3, ly4, ly5, ly6]
    refine holdW_step (i := 4) (by kernel_rfl) rfl rfl (fun K hK2 => ?_)
    go_simp
    go_wp2_with fail
    have k8 := k7.alloc (.cells #[.slice A9 (s.raw 32).1.length c9] 31)
    have hrow := Row.made x7 31 #[.slice A9 (s.raw 32).1.length c9] 1 1 rfl
    have kA := (New.refl x7).alloc (.cells #[.slice A9 (s.raw 32).1.length c9] 31)
    have hb8 := Row.new hb7 kA
    have hR8 := hR7.keep kA
    generalize x7.alloc (.cells #[.slice A9 (s.raw 32).1.length c9] 31) = x8 at *
    generalize x7.heap.size = g7 at *
    refine hK2.out _ _ ⟨trivial, fun _ => k8⟩ ?_
    clear hK2 K kA
    try simp only [Act.put, ly1, ly2, ly3, ly4, ly5, ly6]
    have k8r : Keep (fun b => b ≠ q) wr x8 := ((Keep.refl (fun b => b ≠ q) wr).drew).trans k8
    have hAq : blk A ≠ some q := fun e => by have h1 := (HO.out.lt q e).1; have h2 := HQ.out; have h3 := HGX.out; have h4 := HG6.out; omega
    have HO8 := Lib.hid ((ownImgs_sl.1 HO.out).keepE (F := fun b => b ≠ q) k8r (fun j hj e => hAq (by rw [← e]; exact hj)) (fun b hb => by have h2 := HQ.out; have h3 := HGX.out; have h4 := HG6.out; show b ≠ q; have h5 : w6.heap.size ≤ b := hb; omega))
    have hlo := HO.out.lt
    have hw8 : wr.heap.size ≤ x8.heap.size := k8r.size
    refine holdW_step (i := 5) (by kernel_rfl) rfl rfl (fun K hK2 => ?_)
    obtain ⟨i0, hi0, hz0, hs0, hb0⟩ := info_parts info_bytes
    refine wp_sl (E := imgElt) _ _ _ 23 31 rfl i0 (.slice none 0 0) 24 Tryz.underlying23 hi0 hz0 hs0 hb0 rfl w6.heap.size (fun b => w6.heap.size ≤ b) A k c l rfl HO8.out _ _ 1 _ (s.raw 32).1 rfl hrow ⟨A9, c9, rfl, hcb, hcm, hb8⟩ (by omega) (by omega) (Nat.le_trans hwb hw8) ?_
    intro A7 c7 x9 o7 hg7 hbk7
    have kG : Keep (fun b => some b ≠ blk A) x8 x9 := Keep.grown (D := fun b => some b ≠ blk A) (Keep.refl _ _) hg7 (fun j hj hd => absurd hj.symm hd)
    have hAx : some gx ≠ blk A := fun e => by have h1 := (hlo gx e.symm).1; have h2 := HG6.out; omega
    refine hK2.out _ _ ⟨trivial, fun h => absurd h (by decide)⟩ ?_
    clear hK2 K
    try simp only [Act.put, ly1, ly2, ly3, ly4, ly5, ly6]
    have hg9 : x9.heap[gx]? = _ := kG.blockAt (k8r.blockAt HGR.out HXQ.out) hAx
    have hR9 := hR8.keepE kG (fun b hb e => by have h1 := (hlo b e.symm).1; have h2 := HQ.out; have h3 := HGX.out; have h4 := HG6.out; omega)
    refine holdW_step (i := 6) (by kernel_rfl) rfl rfl (fun K hK2 => ?_)
    go_simp
    refine hK2.out _ _ ⟨trivial, fun h => absurd h (by decide)⟩ ?_
    clear hK2 K
    try simp only [Act.put, ly1, ly2, ly3, ly4, ly5, ly6]
    have d9 := cellOf hg9 (k := 8) rfl
    have z9 := frozenOf hg9 8
    refine holdW_step (i := 7) (by kernel_rfl) rfl rfl (fun K hK2 => ?_)
    go_simp
    have hgE := setCell_block hg9 8 (.slice A7 (k + 1) c7)
    have kS : Keep (fun b => b ≠ gx) x9 (x9.setCell ⟨gx, 8, none⟩ (.slice A7 (k + 1) c7)) := (Keep.refl _ x9).setCell (p := ⟨gx, 8, none⟩) (fun hd => absurd rfl hd) _
    have o8 := (ownImgs_sl.2 o7).keepE kS (fun j hj e => by rw [e] at hj; have h1 := (o7.lt gx hj).1; have h2 := HG6.out; omega) (fun b hb => by have h2 := HG6.out; show b ≠ gx; have h5 : w6.heap.size ≤ b := hb; omega)
    have hRE := hR9.keepE kS (fun b hb => by have h2 := HQ.out; have h3 := HGX.out; show b ≠ gx; omega)
    have kW := ((HKK.out.trans2 (E := fun b => b ≠ q) k8r (fun b _ hb => hb.1.1)).trans2 kG (fun b hb hd e => by have h1 := (hlo b e.symm).1; omega)).trans2 kS (fun b _ hb => hb.1.2)
    refine hK2.out _ _ ⟨trivial, fun h => absurd h (by decide)⟩ ?_
    clear hK2 K d9 z9
    try simp only [Act.put, ly1, ly2, ly3, ly4, ly5, ly6]
    generalize x9.setCell _ _ = wz at *
    refine wpAnyW_done (by kernel_rfl) ?_ _
    clear r9
    go_wp2_with fail
    go_roundw
    case rel => exact ⟨k + 1, m - 1, A7, c7, by omega, by first | rfl | go_num, hgE, by rw [HTK.out]; exact o8, by rw [HTK.out]; exact hRE, kW⟩
    case measure => simp [intOf]; omega
   ·rw [decide_eq_false hgo]
    have hex : k = np ∨ (getRows k s4).2.why ≠ 0 := if h0 : (getRows k s4).2.why = 0 then .inl (by have : ¬ 0 < m := fun h => hgo ⟨h, h0⟩; omega) else .inr h0
    have HEX := Lib.hid hex
    have HKL : Hid (k ≤ np) := Lib.hid (by omega)
    clear hgo hex
    obtain ⟨ps, s5, e4⟩ : ∃ ps s5, getRows k s4 = (ps, s5) := ⟨_, _, rfl⟩
    rw [e4] at hO hRd HEX
    dsimp only at hO hRd HEX
    have hpl : ps.length = k := by have q := getRows_len k s4; rw [e4] at q; exact q
    have HPL := Lib.hid hpl
    have E4 := Lib.hid e4
    obtain ⟨nl, s6, e5⟩ : ∃ nl s6, s5.num 2 = (nl, s6) := ⟨_, _, rfl⟩
    have E5 := Lib.hid e5
    have hnl : nl ≤ 65535 := by have q := num_lt s5 2; rw [e5] at q; dsimp only at q; omega
    clear e4 e5 hpl
    obtain ⟨HE1, HK1⟩ : Hid (k = np ∨ s5.why ≠ 0) ∧ Hid (k ≤ np) := ⟨HEX, HKL⟩
    clear HEX HKL
    have HO1 := Lib.hid (hO.imgs.imp (E := fun b => (gb < b ∧ b < wr.heap.size) ∧ (b ≠ q ∧ b ≠ gx)) (fun b hb hd => by have h1 := HQ.out; have h2 := HGX.out; have h3 := HG6.out; have h4 : w6.heap.size ≤ b := hd.elim id id; omega))
    have HOC := Lib.hid (And.intro hO.cap hO.capMax)
    have HX := Lib.hid hgr
    have HP := Lib.hid ((Row.keep HP.out hK (fun b _ hb => ⟨⟨hb.2, by have := hb.1; omega⟩, by have := hb.1; have := HG6.out; omega⟩)).imp (E := fun b => (gb < b ∧ b < gx) ∧ b ≠ q) (fun b _ hb => hb))
    have HR1 := Lib.hid ((Row.keep HR1.out hK (fun b _ hb => ⟨⟨hb.2, by have := hb.1; omega⟩, by have := hb.1; have := HG6.out; omega⟩)).imp (E := fun b => (gb < b ∧ b < gx) ∧ b ≠ q) (fun b _ hb => hb))
    have HL := Lib.hid ((Row.keep HL.out hK (fun b _ hb => ⟨⟨hb.2, by have := hb.1; omega⟩, by have := hb.1; have := HG6.out; omega⟩)).imp (E := fun b => (gb < b ∧ b < gx) ∧ b ≠ q) (fun b _ hb => hb))
    have HG := Lib.hid (hK.blockAt HG.out ⟨⟨HNQ.out, by have h1 := HQ.out; have h2 := HGX.out; omega⟩, by have h1 := HQ.out; have h2 := HGX.out; have h3 := HG6.out; omega⟩)
    have HK6 := Lib.hid hK
    have HKN : Hid (Keep (fun b => b < w1.heap.size ∧ b ≠ q) w1 wr) := Lib.hid (Keep.trans2 (HK.out.imp fun _ _ hd => hd.2) hK (fun b hb hd => ⟨⟨hd.2, by have h2 := HGX.out; omega⟩, by have h2 := HGX.out; have h3 := HG6.out; omega⟩))
    have hC := r4short_any q bs s5 wr hRd
    rw [E5.out] at hC
    dsimp only at hC
    have HC := Lib.hid hC
    clear hC hO hRd hK hgr HK6 HK HR
    go_wp2_with fail
    refine HC.out.mono ?_
    rintro e w8 ⟨rfl, hR, k8⟩
    have HP := Lib.hid (Row.keep HP.out k8 (fun b _ hb => hb.2))
    have HR1 := Lib.hid (Row.keep HR1.out k8 (fun b _ hb => hb.2))
    have HL := Lib.hid (Row.keep HL.out k8 (fun b _ hb => hb.2))
    have HO1 := Lib.hid ((HO1.out.keep k8 (fun b _ hb => hb.2.1)).imp (E := fun b => (gb < b ∧ b < w8.heap.size) ∧ (b ≠ q ∧ b ≠ gx)) (fun b hb hd => ⟨⟨hd.1.1, hb⟩, hd.2⟩))
    have HG := Lib.hid (k8.blockAt HG.out HNQ.out)
    have HX := Lib.hid (k8.blockAt HX.out HXQ.out)
    have HKN := Lib.hid (HKN.out.trans2 k8 (fun b _ hb => hb.2))
    have HR := Lib.hid hR
    have HG8 : Hid (gx < w8.heap.size) := Lib.hid (Array.getElem?_eq_some_iff.1 HX.out).1
    clear hR k8 HC
    obtain ⟨Pa, hPa⟩ : ∃ Pa, Pa = A := ⟨_, rfl⟩
    obtain ⟨pc, hpc⟩ : ∃ pc, pc = c := ⟨_, rfl⟩
    subst hPa
    subst hpc
    obtain ⟨k1, hk1⟩ : ∃ k1, k1 = k := ⟨_, rfl⟩
    subst hk1
    go_wp2_with fail
    go_loopw [7] (fun i wx => ∃ (k m : Nat) (A : Option Addr) (c : Nat), k + m = nl ∧ i = .int .i64 (m : Int) ∧ wx.heap[gx]? = some (.cells #[.int .i64 h.index, .int .u64 h.first, .int .i64 h.count, .int .i64 h.bytes, .slice P1 h.prev.length p1, .slice R1 h.root.length r1, .int .i64 (pl : Nat), .slice L lf.length lc, .slice Pa k1 pc, .slice A k c] 50 (0, 0)) ∧ OwnHeadsR wx w8.heap.size (fun b => w8.heap.size ≤ b) A k c (getHeads k s6).1 ∧ Rd4 wx q bs (getHeads k s6).2 ∧ Keep (fun b => (b ≠ q ∧ b ≠ gx) ∧ b < w8.heap.size) w8 wx) (fun i _ => (intOf i).toNat)
    case atStart => exact ⟨0, nl, none, 0, Nat.zero_add _, rfl, HX.out, OwnHeadsR.nil _ _ _, HR.out, Keep.refl _ _⟩
    case round =>
     obtain ⟨k, m, A, c, hkm, rfl, hgr, hO, hRd, hK⟩ := hrel
     have hgRd := hRd.why
     go_upto_region 8 with fail
     go_cut [50] from 42 to 59 (fun sx wx => sx = .bool (decide (0 < m ∧ (getHeads k s6).2.why = 0)) ∧ wr = wx)
     case first =>
      by_cases hm0 : 0 < m
      ·have hmi : (0 : Int) < (m : Int) := by omega
       by_cases hy0 : (getHeads k s6).2.why = 0
       ·have hD := Lib.hid (decide_eq_true (p := 0 < m ∧ (getHeads k s6).2.why = 0) ⟨hm0, hy0⟩)
        rw [hy0] at hgRd
        clear hy0 hRd hO hK
        go_wp2_with fail
        go_meet
        exact ⟨by rw [hD.out], rfl⟩
       ·have hD := Lib.hid (decide_eq_false (p := 0 < m ∧ (getHeads k s6).2.why = 0) (fun h => hy0 h.2))
        have hy1 : ((getHeads k s6).2.why == 0) = false := by rw [beq_eq_false_iff_ne]; exact hy0
        clear hy0 hRd hO hK
        go_wp2_with fail
        go_meet
        exact ⟨by rw [hD.out], rfl⟩
      ·have hD := Lib.hid (decide_eq_false (p := 0 < m ∧ (getHeads k s6).2.why = 0) (fun h => hm0 h.1))
       have hmi : ¬ (0 : Int) < (m : Int) := by omega
       clear hRd hO hK
       go_wp2_with fail
       go_meet
       exact ⟨by rw [hD.out], rfl⟩
     case rest =>
      obtain ⟨rfl, rfl⟩ := hcut
      clear hgRd
      by_cases hgo : 0 < m ∧ (getHeads k s6).2.why = 0
      ·rw [decide_eq_true hgo]
       have hmw : IntKind.i64.wrap ((m : Int) - 1) = ((m - 1 : Nat) : Int) := by rw [IntWalk.i64_in _ (by omega)]; omega
       have hlt : k < nl := by omega
       have HTK : Hid (getHeads (k + 1) s6 = ((getHeads k s6).1 ++ [(getHead (getHeads k s6).2).1], (getHead (getHeads k s6).2).2)) := Lib.hid rfl
       have hTK := HTK.out
       generalize hst : getHeads k s6 = st at hO hRd hTK
       obtain ⟨l, s⟩ := st
       dsimp only at hO hRd hTK
       have HTK := Lib.hid hTK
       clear hTK
       have HO := Lib.hid hO
       have HRd := Lib.hid hRd
       have HKK := Lib.hid hK
       have HGR := Lib.hid hgr
       clear hst hO hRd hK hgr
       go_upto_region 10 with fail
       have hwb : w8.heap.size ≤ wr.heap.size := HKK.out.size
       refine holdW_begin [5, 7] (fun _ => True) (Keep (fun b => b ≠ q) wr.drew) (by kernel_rfl) ?_
       have t0 : Keep (fun b => b ≠ q) wr.drew wr.drew := Keep.refl _ _
       have r9 : ∀ W, Keep (fun b => b ≠ q) wr.drew W → W.cell? ⟨gx, 9, none⟩ = some (.slice A k c) := fun W h => cellOf (h.blockAt (show wr.drew.heap[gx]? = _ from HGR.out) HXQ.out) (k := 9) rfl
       refine holdW_read (i := 0) (v := ?_) ⟨trivial, fun _ => t0⟩ rfl (by kernel_rfl) (by kernel_rfl) (by kernel_rfl) rfl (fun _ _ _ h => h) rfl ?_ ?_
       rotate_left
       ·intro w' hN
        go_simp
        try with_reducible rfl
       simp only [Act.put, ly1, ly3, ly4, ly5, ly6]
       refine holdW_readT (i := 1) (v := ?_) ⟨trivial, fun _ => t0⟩ rfl (by kernel_rfl) (by kernel_rfl) (by kernel_rfl) (by kernel_rfl) (by kernel_rfl) (fun _ _ _ h => h) rfl ?_ ?_
       rotate_left
       ·intro w' hN
        go_simp
        try with_reducible rfl
       simp only [Act.put, ly1, ly2, ly3, ly4, ly5, ly6]
       refine holdW_read (i := 2) (v := ?_) ⟨trivial, fun _ => t0⟩ rfl (by kernel_rfl) (by kernel_rfl) (by kernel_rfl) rfl (fun _ _ _ h => h) rfl ?_ ?_
       rotate_left
       ·intro w' hN
        go_simp
        try with_reducible rfl
       simp only [Act.put, ly1, ly2, ly3, ly4, ly5, ly6]
       refine holdW_step (i := 3) (by kernel_rfl) rfl rfl (fun K hK2 => ?_)
       go_simp
       refine (rget_any q bs s wr.drew (HRd.out.keep (New.refl wr).drew)).mono ?_
       rintro e x7 ⟨⟨B1, B2, d1, d2, rfl, l1, l2, b1, b2⟩, hR7, k7⟩
       go_wp2_with fail
       have b1 := b1.imp (E := fun b => w8.heap.size ≤ b ∧ some b ≠ blk A) (fun b _ hb => by have h2 : wr.heap.size ≤ b := hb; exact ⟨by omega, fun e => by have h1 := (HO.out.lt b e.symm).2; omega⟩)
       have b2 := b2.imp (E := fun b => w8.heap.size ≤ b ∧ some b ≠ blk A) (fun b _ hb => by have h2 : wr.heap.size ≤ b := hb; exact ⟨by omega, fun e => by have h1 := (HO.out.lt b e.symm).2; omega⟩)
       have hfx := getHead_first s
       refine hK2.out _ _ ⟨trivial, fun _ => k7⟩ ?_
       clear hK2 K
       try simp only [Act.put, ly1, ly2, ly3, ly4, ly5, ly6]
       refine holdW_step (i := 4) (by kernel_rfl) rfl rfl (fun K hK2 => ?_)
       go_simp
       go_wp2_with fail
       have k8 := k7.alloc (.cells #[.int .i64 (getHead s).1.index, .int .u64 (getHead s).1.first, .int .i64 (getHead s).1.count, .int .i64 (getHead s).1.bytes, .slice B1 (getHead s).1.prev.length d1, .slice B2 (getHead s).1.root.length d2] 40)
       have hrow := Row.made x7 40 #[.int .i64 (getHead s).1.index, .int .u64 (getHead s).1.first, .int .i64 (getHead s).1.count, .int .i64 (getHead s).1.bytes, .slice B1 (getHead s).1.prev.length d1, .slice B2 (getHead s).1.root.length d2] 1 6 rfl
       have kA := (New.refl x7).alloc (.cells #[.int .i64 (getHead s).1.index, .int .u64 (getHead s).1.first, .int .i64 (getHead s).1.count, .int .i64 (getHead s).1.bytes, .slice B1 (getHead s).1.prev.length d1, .slice B2 (getHead s).1.root.length d2] 40)
       have b18 := Row.new b1 kA
       have b28 := Row.new b2 kA
       have hR8 := hR7.keep kA
       generalize x7.alloc (.cells #[.int .i64 (getHead s).1.index, .int .u64 (getHead s).1.first, .int .i64 (getHead s).1.count, .int .i64 (getHead s).1.bytes, .slice B1 (getHead s).1.prev.length d1, .slice B2 (getHead s).1.root.length d2] 40) = x8 at *
       generalize x7.heap.size = g7 at *
       refine hK2.out _ _ ⟨trivial, fun _ => k8⟩ ?_
       clear hK2 K kA
       try simp only [Act.put, ly1, ly2, ly3, ly4, ly5, ly6]
       have k8r : Keep (fun b => b ≠ q) wr x8 := ((Keep.refl (fun b => b ≠ q) wr).drew).trans k8
       have hAq : blk A ≠ some q := fun e => by have h1 := (HO.out.lt q e).1; have h2 := HQ.out; have h3 := HGX.out; have h4 := HG8.out; omega
       have HO8 := Lib.hid ((ownHeadsR_sl.1 HO.out).keepE (F := fun b => b ≠ q) k8r (fun j hj e => hAq (by rw [← e]; exact hj)) (fun b hb => by have h2 := HQ.out; have h3 := HGX.out; have h4 := HG8.out; show b ≠ q; have h5 : w8.heap.size ≤ b := hb; omega))
       have hlo := HO.out.lt
       have hw8 : wr.heap.size ≤ x8.heap.size := k8r.size
       refine holdW_step (i := 5) (by kernel_rfl) rfl rfl (fun K hK2 => ?_)
       obtain ⟨i0, hi0, hz0, hs0, hb0⟩ := info_parts info_headR
       refine wp_sl (E := headElt) _ _ _ 24 40 rfl i0 (.agg #[.int .i64 0, .int .u64 0, .int .i64 0, .int .i64 0, .slice none 0 0, .slice none 0 0]) 80 Tryz.underlying24 hi0 hz0 hs0 hb0 rfl w8.heap.size (fun b => w8.heap.size ≤ b) A k c l rfl HO8.out _ _ 1 _ (getHead s).1 rfl hrow ⟨B1, d1, B2, d2, rfl, rfl, rfl, rfl, rfl, rfl, l1, l2, b18, b28, hfx.1, hfx.2⟩ (by omega) (by omega) (Nat.le_trans hwb hw8) ?_
       intro A7 c7 x9 o7 hg7 hbk7
       have kG : Keep (fun b => some b ≠ blk A) x8 x9 := Keep.grown (D := fun b => some b ≠ blk A) (Keep.refl _ _) hg7 (fun j hj hd => absurd hj.symm hd)
       have hAx : some gx ≠ blk A := fun e => by have h1 := (hlo gx e.symm).1; have h2 := HG8.out; omega
       refine hK2.out _ _ ⟨trivial, fun h => absurd h (by decide)⟩ ?_
       clear hK2 K
       try simp only [Act.put, ly1, ly2, ly3, ly4, ly5, ly6]
       have hg9 : x9.heap[gx]? = _ := kG.blockAt (k8r.blockAt HGR.out HXQ.out) hAx
       have hR9 := hR8.keepE kG (fun b hb e => by have h1 := (hlo b e.symm).1; have h2 := HQ.out; have h3 := HGX.out; have h4 := HG8.out; omega)
       refine holdW_step (i := 6) (by kernel_rfl) rfl rfl (fun K hK2 => ?_)
       go_simp
       refine hK2.out _ _ ⟨trivial, fun h => absurd h (by decide)⟩ ?_
       clear hK2 K
       try simp only [Act.put, ly1, ly2, ly3, ly4, ly5, ly6]
       have d9 := cellOf hg9 (k := 9) rfl
       have z9 := frozenOf hg9 9
       refine holdW_step (i := 7) (by kernel_rfl) rfl rfl (fun K hK2 => ?_)
       go_simp
       have hgE := setCell_block hg9 9 (.slice A7 (k + 1) c7)
       have kS : Keep (fun b => b ≠ gx) x9 (x9.setCell ⟨gx, 9, none⟩ (.slice A7 (k + 1) c7)) := (Keep.refl _ x9).setCell (p := ⟨gx, 9, none⟩) (fun hd => absurd rfl hd) _
       have o8 := (ownHeadsR_sl.2 o7).keepE kS (fun j hj e => by rw [e] at hj; have h1 := (o7.lt gx hj).1; have h2 := HG8.out; omega) (fun b hb => by have h2 := HG8.out; show b ≠ gx; have h5 : w8.heap.size ≤ b := hb; omega)
       have hRE := hR9.keepE kS (fun b hb => by have h2 := HQ.out; have h3 := HGX.out; show b ≠ gx; omega)
       have kW := ((HKK.out.trans2 (E := fun b => b ≠ q) k8r (fun b _ hb => hb.1.1)).trans2 kG (fun b hb hd e => by have h1 := (hlo b e.symm).1; omega)).trans2 kS (fun b _ hb => hb.1.2)
       refine hK2.out _ _ ⟨trivial, fun h => absurd h (by decide)⟩ ?_
       clear hK2 K d9 z9
       try simp only [Act.put, ly1, ly2, ly3, ly4, ly5, ly6]
       generalize x9.setCell _ _ = wz at *
       refine wpAnyW_done (by kernel_rfl) ?_ _
       clear r9
       go_wp2_with fail
       go_roundw
       case rel => exact ⟨k + 1, m - 1, A7, c7, by omega, by first | rfl | go_num, hgE, by rw [HTK.out]; exact o8, by rw [HTK.out]; exact hRE, kW⟩
       case measure => simp [intOf]; omega
      ·rw [decide_eq_false hgo]
       have hex : k = nl ∨ (getHeads k s6).2.why ≠ 0 := if h0 : (getHeads k s6).2.why = 0 then .inl (by have : ¬ 0 < m := fun h => hgo ⟨h, h0⟩; omega) else .inr h0
       have HEX := Lib.hid hex
       have HKL : Hid (k ≤ nl) := Lib.hid (by omega)
       clear hgo hex
       obtain ⟨ls, s7, e6⟩ : ∃ ls s7, getHeads k s6 = (ls, s7) := ⟨_, _, rfl⟩
       rw [e6] at hO hRd HEX
       dsimp only at hO hRd HEX
       have hll : ls.length = k := by have q := getHeads_len k s6; rw [e6] at q; exact q
       have HLL := Lib.hid hll
       have hds := dec_stop E0.out E1.out E2.out E3.out E4.out HK1.out HE1.out E5.out e6 HKL.out HEX.out
       have HDP := Lib.hid hds.1
       have HDF := Lib.hid hds.2
       clear hds e6 hll HEX HKL
       have HO2 := Lib.hid (hO.heads.imp (E := fun b => (gb < b ∧ b < wr.heap.size)) (fun b hb hd => by have h1 := HQ.out; have h2 := HGX.out; have h3 := HG8.out; have h4 : w8.heap.size ≤ b := hd.elim id id; omega))
       have HOD := Lib.hid hO.cap
       have HX := Lib.hid hgr
       have HP := Lib.hid (Row.keep HP.out hK (fun b _ hb => ⟨⟨hb.2, by have := hb.1; omega⟩, by have := hb.1; have := HG8.out; omega⟩))
       have HR1 := Lib.hid (Row.keep HR1.out hK (fun b _ hb => ⟨⟨hb.2, by have := hb.1; omega⟩, by have := hb.1; have := HG8.out; omega⟩))
       have HL := Lib.hid (Row.keep HL.out hK (fun b _ hb => ⟨⟨hb.2, by have := hb.1; omega⟩, by have := hb.1; have := HG8.out; omega⟩))
       have HO1 := Lib.hid (HO1.out.keep hK (fun b _ hb => ⟨hb.2, hb.1.2⟩))
       have HG := Lib.hid (hK.blockAt HG.out ⟨⟨HNQ.out, by have h1 := HQ.out; have h2 := HGX.out; omega⟩, by have h1 := HQ.out; have h2 := HGX.out; have h3 := HG8.out; omega⟩)
       have HKN := Lib.hid (HKN.out.trans2 hK (fun b hb hd => ⟨⟨hd.2, by have h1 := hd.1; have h2 := HGX.out; omega⟩, by have h1 := hd.1; have h2 := HGX.out; have h3 := HG8.out; omega⟩))
       have HNN : Hid (New w wr) := Lib.hid (((HN1.out.imp (E := fun b => b < gb) fun _ _ _ => trivial).trans2 HKN.out (fun b hb hd => by have h1 := HQ.out; omega)).toNew (fun b hb => by rw [hgb] at hb; exact hb))
       have HRE := Lib.hid (r4end_any q bs s7 wr hRd)
       have HAT : Hid (PrAt wr (fun _ => True) ⟨h, (pl : Nat), lf, ps, ls⟩ P1 R1 L Pa p1 r1 lc pc ∧ Heads wr (fun _ => True) A k ls) := Lib.hid ⟨⟨HP.out.imp fun _ _ _ => trivial, HR1.out.imp fun _ _ _ => trivial, HL.out.imp fun _ _ _ => trivial, by show Imgs wr _ Pa ps.length ps; rw [HPL.out]; exact HO1.out.imp fun _ _ _ => trivial, HCP.out.1, HCP.out.2, HLC.out.1, HLC.out.2, by show ps.length ≤ pc; rw [HPL.out]; exact HOC.out.1, HOC.out.2, HF.out.1, HF.out.2⟩, HO2.out.imp fun _ _ _ => trivial⟩
       have hpx := fun W (hW : New wr W) => rencode_any (fun _ => True) (fun _ => True) P1 R1 L Pa A p1 r1 lc pc c ⟨h, (pl : Nat), lf, ps, ls⟩ W (HAT.out.1.new hW) (by show Heads W _ A ls.length ls; rw [HLL.out]; exact HAT.out.2.new hW) (by show ps.length ≤ _; rw [HPL.out]; omega) (by show ls.length ≤ _; rw [HLL.out]; omega)
       dsimp only at hpx
       rw [HPL.out, HLL.out] at hpx
       have HPX := Lib.hid hpx
       clear hpx hO hRd hK hgr HK HR
       go_wp2_with fail
       refine HRE.out.mono ?_
       rintro e w9 ⟨rfl, kE⟩
       have HX := Lib.hid (kE.blockAt HX.out trivial)
       have HG := Lib.hid (kE.blockAt HG.out trivial)
       have HNN := Lib.hid (HNN.out.new kE)
       have HPX := Lib.hid (HPX.out w9 kE)
       have HO1 := Lib.hid (HO1.out.new kE)
       have HO2 := Lib.hid (HO2.out.new kE)
       have HP := Lib.hid (Row.new HP.out kE)
       have HR1 := Lib.hid (Row.new HR1.out kE)
       have HL := Lib.hid (Row.new HL.out kE)
       clear HRE kE
       by_cases hwhy : s7.endOf = 0
       ·have HDQ := Lib.hid (HDP.out hwhy)
        have HY : Hid (decodeOf bs = if rightProof ⟨h, (pl : Nat), lf, ps, ls⟩ = true then (⟨h, (pl : Nat), lf, ps, ls⟩, 0) else (noProof, 12)) := Lib.hid (by unfold decodeOf; rw [HDQ.out]; dsimp only; rw [hwhy]; simp)
        rw [hwhy]
        obtain ⟨x0, x1, x2, x3, x4, x5, x6, x7, x8, x9⟩ := cs10 HX.out
        clear hwhy HDP HDF HDQ
        go_wp2_with fail
        clear x0 x1 x2 x3 x4 x5 x6 x7 x8 x9
        cases hri : rightProof ⟨h, (pl : Nat), lf, ps, ls⟩
        ·have HR : Hid (decodeOf bs = (noProof, 12)) := Lib.hid (by rw [HY.out, hri]; rfl)
         have HEN : Hid (encodeOf ⟨h, (pl : Nat), lf, ps, ls⟩ = ([], 12)) := Lib.hid (by unfold encodeOf; rw [hri]; rfl)
         clear hri HY
         have hpx := HPX.out
         rw [HEN.out] at hpx
         dsimp only at hpx
         refine hpx.mono ?_
         rintro e wf ⟨⟨Ae, ce, rfl, -⟩, kf⟩
         clear hpx HPX
         have HNF := Lib.hid (HNN.out.new kf)
         have HGf := Lib.hid (kf.blockAt HG.out trivial)
         have hGc := HGf.out
         obtain ⟨d0, d1, d2, d3, d4, d5, d6, d7, d8, d9⟩ := cs10 hGc
         obtain ⟨z0, z1, z2, z3, z4, z5, z6, z7, z8, z9⟩ := fz10 hGc
         have HGc := Lib.hid hGc
         clear hGc
         go_wp2_with fail
         clear d0 z0 d1 z1 d2 z2 d3 z3 d4 z4 d5 z5 d6 z6 d7 z7 d8 z8 d9 z9
         have hE := set_ten HGc.out (.int .i64 0) (.int .u64 0) (.int .i64 0) (.int .i64 0) (.slice none 0 0) (.slice none 0 0) (.int .i64 0) (.slice none 0 0) (.slice none 0 0) (.slice none 0 0)
         have hKE := new_ten (g := gb) HNF.out (by rw [hgb]; exact Nat.le_refl _) (.int .i64 0) (.int .u64 0) (.int .i64 0) (.int .i64 0) (.slice none 0 0) (.slice none 0 0) (.int .i64 0) (.slice none 0 0) (.slice none 0 0) (.slice none 0 0)
         generalize hwE : World.setCell _ _ _ = wE at *
         obtain ⟨f0, f1, f2, f3, f4, f5, f6, f7, f8, f9⟩ := cs10 hE
         refine bodyPost_ret (v := .tuple #[.agg #[.int .i64 0, .int .u64 0, .int .i64 0, .int .i64 0, .slice none 0 0, .slice none 0 0, .int .i64 0, .slice none 0 0, .slice none 0 0, .slice none 0 0], .int .i64 12]) (by simp [results, Tryz.results26, go_sem, f0, f1, f2, f3, f4, f5, f6, f7, f8, f9]) rfl ?_
         rw [HR.out]
         exact ⟨⟨none, none, none, none, none, 0, 0, 0, 0, 0, rfl, ⟨Row.nil _ _ _ _, Row.nil _ _ _ _, Row.nil _ _ _ _, imgs_sl.2 (Sl.nil _ _ _ _), Nat.le_refl _, Nat.le_refl _, Nat.le_refl _, by decide, Nat.le_refl _, by decide, by decide, by decide⟩, Heads.nil _ _ _⟩, hKE⟩
        ·have HR : Hid (decodeOf bs = (⟨h, (pl : Nat), lf, ps, ls⟩, 0)) := Lib.hid (by rw [HY.out, hri]; rfl)
         have HEN : Hid ((encodeOf ⟨h, (pl : Nat), lf, ps, ls⟩).2 = 0) := Lib.hid (by unfold encodeOf; rw [hri]; rfl)
         clear hri HY
         have hpx := HPX.out
         rw [HEN.out] at hpx
         try dsimp only at hpx
         refine hpx.mono ?_
         rintro e wf ⟨⟨Ae, ce, rfl, -⟩, kf⟩
         clear hpx HPX
         generalize (encodeOf ⟨h, (pl : Nat), lf, ps, ls⟩).1.length = el at *
         have HNF := Lib.hid (HNN.out.new kf)
         have HXf := Lib.hid (kf.blockAt HX.out trivial)
         have HGf := Lib.hid (kf.blockAt HG.out trivial)
         obtain ⟨x0, x1, x2, x3, x4, x5, x6, x7, x8, x9⟩ := cs10 HXf.out
         obtain ⟨d0, d1, d2, d3, d4, d5, d6, d7, d8, d9⟩ := cs10 HGf.out
         obtain ⟨z0, z1, z2, z3, z4, z5, z6, z7, z8, z9⟩ := fz10 HGf.out
         go_wp2_with fail
         clear d0 z0 x0 d1 z1 x1 d2 z2 x2 d3 z3 x3 d4 z4 x4 d5 z5 x5 d6 z6 x6 d7 z7 x7 d8 z8 x8 d9 z9 x9
         have hE := set_ten HGf.out (.int .i64 h.index) (.int .u64 h.first) (.int .i64 h.count) (.int .i64 h.bytes) (.slice P1 h.prev.length p1) (.slice R1 h.root.length r1) (.int .i64 (pl : Nat)) (.slice L lf.length lc) (.slice Pa k1 pc) (.slice A k c)
         have kE := keep_ten wf gb (.int .i64 h.index) (.int .u64 h.first) (.int .i64 h.count) (.int .i64 h.bytes) (.slice P1 h.prev.length p1) (.slice R1 h.root.length r1) (.int .i64 (pl : Nat)) (.slice L lf.length lc) (.slice Pa k1 pc) (.slice A k c)
         have hKE := new_ten (g := gb) HNF.out (by rw [hgb]; exact Nat.le_refl _) (.int .i64 h.index) (.int .u64 h.first) (.int .i64 h.count) (.int .i64 h.bytes) (.slice P1 h.prev.length p1) (.slice R1 h.root.length r1) (.int .i64 (pl : Nat)) (.slice L lf.length lc) (.slice Pa k1 pc) (.slice A k c)
         generalize hwE : World.setCell _ _ _ = wE at *
         obtain ⟨f0, f1, f2, f3, f4, f5, f6, f7, f8, f9⟩ := cs10 hE
         refine bodyPost_ret (v := .tuple #[.agg #[.int .i64 h.index, .int .u64 h.first, .int .i64 h.count, .int .i64 h.bytes, .slice P1 h.prev.length p1, .slice R1 h.root.length r1, .int .i64 (pl : Nat), .slice L lf.length lc, .slice Pa k1 pc, .slice A k c], .int .i64 0]) (by simp [results, Tryz.results26, go_sem, f0, f1, f2, f3, f4, f5, f6, f7, f8, f9]) rfl ?_
         rw [HR.out]
         refine ⟨⟨P1, R1, L, Pa, A, p1, r1, lc, pc, c, by dsimp only; rw [HPL.out, HLL.out], ⟨?_, ?_, ?_, ?_, HCP.out.1, HCP.out.2, HLC.out.1, HLC.out.2, by show ps.length ≤ pc; rw [HPL.out]; exact HOC.out.1, HOC.out.2, HF.out.1, HF.out.2⟩, ?_⟩, hKE⟩
         ·exact ((Row.new HP.out kf).keep kE (fun b _ hb => by have := hb.1; show b ≠ gb; omega)).imp fun _ _ _ => trivial
         ·exact ((Row.new HR1.out kf).keep kE (fun b _ hb => by have := hb.1; show b ≠ gb; omega)).imp fun _ _ _ => trivial
         ·exact ((Row.new HL.out kf).keep kE (fun b _ hb => by have := hb.1; show b ≠ gb; omega)).imp fun _ _ _ => trivial
         ·show Imgs wE _ Pa ps.length ps
          rw [HPL.out]
          exact ((HO1.out.new kf).keep kE (fun b _ hb => by have := hb.1; show b ≠ gb; omega)).imp fun _ _ _ => trivial
         ·show Heads wE _ A ls.length ls
          rw [HLL.out]
          exact ((HO2.out.new kf).keep kE (fun b _ hb => by have := hb.1; show b ≠ gb; omega)).imp fun _ _ _ => trivial
       ·have hwb : (s7.endOf != 0) = true := by simpa using hwhy
        have HR : Hid (decodeOf bs = (noProof, 12)) := Lib.hid (HDF.out hwhy)
        have HNF := Lib.hid HNN.out
        clear HDP HDF
        have hGc := HG.out
        obtain ⟨d0, d1, d2, d3, d4, d5, d6, d7, d8, d9⟩ := cs10 hGc
        obtain ⟨z0, z1, z2, z3, z4, z5, z6, z7, z8, z9⟩ := fz10 hGc
        have HGc := Lib.hid hGc
        clear hGc
        go_wp2_with fail
        clear d0 z0 d1 z1 d2 z2 d3 z3 d4 z4 d5 z5 d6 z6 d7 z7 d8 z8 d9 z9
        have hE := set_ten HGc.out (.int .i64 0) (.int .u64 0) (.int .i64 0) (.int .i64 0) (.slice none 0 0) (.slice none 0 0) (.int .i64 0) (.slice none 0 0) (.slice none 0 0) (.slice none 0 0)
        have hKE := new_ten (g := gb) HNF.out (by rw [hgb]; exact Nat.le_refl _) (.int .i64 0) (.int .u64 0) (.int .i64 0) (.int .i64 0) (.slice none 0 0) (.slice none 0 0) (.int .i64 0) (.slice none 0 0) (.slice none 0 0) (.slice none 0 0)
        generalize hwE : World.setCell _ _ _ = wE at *
        obtain ⟨f0, f1, f2, f3, f4, f5, f6, f7, f8, f9⟩ := cs10 hE
        refine bodyPost_ret (v := .tuple #[.agg #[.int .i64 0, .int .u64 0, .int .i64 0, .int .i64 0, .slice none 0 0, .slice none 0 0, .int .i64 0, .slice none 0 0, .slice none 0 0, .slice none 0 0], .int .i64 12]) (by simp [results, Tryz.results26, go_sem, f0, f1, f2, f3, f4, f5, f6, f7, f8, f9]) rfl ?_
        rw [HR.out]
        exact ⟨⟨none, none, none, none, none, 0, 0, 0, 0, 0, rfl, ⟨Row.nil _ _ _ _, Row.nil _ _ _ _, Row.nil _ _ _ _, imgs_sl.2 (Sl.nil _ _ _ _), Nat.le_refl _, Nat.le_refl _, Nat.le_refl _, by decide, Nat.le_refl _, by decide, by decide, by decide⟩, Heads.nil _ _ _⟩, hKE⟩
end Go.Proofs.YtfegdgaanmcecaaGreatDoor
