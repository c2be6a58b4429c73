/-
  PROVED HERE: what proof.get and Decode answer; condition: lengths that a slice may have.
-/
import Derived.Test.YtfegdgaanmcecaaGreatDoorPkN31
import Derived.Test.YtfegdgaanmcecaaGreatDoorPkN39
import Derived.Test.YtfegdgaanmcecaaGreatDoorPkN40
namespace Go.Proofs.YtfegdgaanmcecaaGreatDoor
open Go.RowKit
def getHead (s : RdS) : HeadP × RdS :=
 (⟨((s.num 2).1 : Nat), ((s.num 2).2.num 8).1, (((s.num 2).2.num 8).2.num 2).1, ((((s.num 2).2.num 8).2.num 2).2.num 2).1, (((((s.num 2).2.num 8).2.num 2).2.num 2).2.raw 32).1, ((((((s.num 2).2.num 8).2.num 2).2.num 2).2.raw 32).2.raw 32).1⟩,
  ((((((s.num 2).2.num 8).2.num 2).2.num 2).2.raw 32).2.raw 32).2)
def getRows : Nat → RdS → List (List UInt8) × RdS
 | 0, s => ([], s)
 | n + 1, s => ((getRows n s).1 ++ [((getRows n s).2.raw 32).1], ((getRows n s).2.raw 32).2)
def getHeads : Nat → RdS → List HeadP × RdS
 | 0, s => ([], s)
 | n + 1, s => ((getHeads n s).1 ++ [(getHead (getHeads n s).2).1], (getHead (getHeads n s).2).2)
theorem getRows_len : ∀ (n : Nat) (s : RdS), (getRows n s).1.length = n
 | 0, _ => rfl
 | n + 1, s => by rw [getRows]; simp [getRows_len n s]
theorem getHeads_len : ∀ (n : Nat) (s : RdS), (getHeads n s).1.length = n
 | 0, _ => rfl
 | n + 1, s => by rw [getHeads]; simp [getHeads_len n s]
def decParts (bs : List UInt8) : ProofP × RdS :=
 let h := getHead ⟨bs, 0⟩
 let pl := h.2.num 2
 let lf := pl.2.lenRow
 let np := lf.2.num 1
 let ps := getRows np.1 np.2
 let nl := ps.2.num 2
 let ls := getHeads nl.1 nl.2
 (⟨h.1, (pl.1 : Nat), lf.1, ps.1, ls.1⟩, ls.2)
def decodeOf (bs : List UInt8) : ProofP × Int := if (decParts bs).2.endOf = 0 ∧ rightProof (decParts bs).1 = true then ((decParts bs).1, 0) else (noProof, 12)
def DecRet (d : ProofP × Int) (w : World) (e : Ending) (w' : World) : Prop :=
 (∃ P1 R1 L Pa La p1 r1 lc pc lac, e = .returned (.tuple #[.agg #[.int .i64 d.1.head.index, .int .u64 d.1.head.first, .int .i64 d.1.head.count, .int .i64 d.1.head.bytes, .slice P1 d.1.head.prev.length p1, .slice R1 d.1.head.root.length r1, .int .i64 d.1.place, .slice L d.1.leaf.length lc, .slice Pa d.1.path.length pc, .slice La d.1.later.length lac], .int .i64 d.2]) ∧
  PrAt w' (fun _ => True) d.1 P1 R1 L Pa p1 r1 lc pc ∧ Heads w' (fun _ => True) La d.1.later.length d.1.later) ∧ New w w'
theorem bs_off {w : World} {D : Nat → Prop} {A : Option Addr} {n : Nat} {bs : List UInt8} {g : Nat} {t : TypeId} (h : Bs w D A n bs) (hg : w.heap[g]? = some (.cells #[.int .i64 0, .int .u64 0, .int .i64 0, .int .i64 0, .slice none 0 0, .slice none 0 0] t (0, 0))) : Bs w (fun b => D b ∧ b ≠ g) A n bs := by
 refine ⟨h.1, fun hn => ?_⟩
 obtain ⟨b, off, hA, hD, hb, hc⟩ := h.2 hn
 refine ⟨b, off, hA, ⟨hD, fun e => ?_⟩, hb, hc⟩
 subst e
 have hl := h.len
 have h0 := hc 0 (byteVal (bs[0]'(by omega))) (by rw [List.getElem?_map, List.getElem?_eq_getElem (by omega)]; rfl)
 rw [cell_of_row w b (off + 0) _ t (0, 0) hg] at h0
 match off, h0 with
 | 0, h0 => simp [byteVal] at h0
 | 1, h0 => simp [byteVal] at h0
 | 2, h0 => simp [byteVal] at h0
 | 3, h0 => simp [byteVal] at h0
 | 4, h0 => simp [byteVal] at h0
 | 5, h0 => simp [byteVal] at h0
 | k + 6, h0 => simp at h0
set_option maxRecDepth 100000 in
set_option maxHeartbeats 2000000 in
theorem pget_any (D : Nat → Prop) (q : Nat) (s : RdS) (w : World) (hR : RdD D w q s) (hD : ∀ b, D b → b < w.heap.size) :
  Calls Tryz.prog 74 #[.pointer (some ⟨q, 0, none⟩)] w fun e w' => (∃ P1 R1 p1 r1, e = .returned (.agg #[.int .i64 (getHead s).1.index, .int .u64 (getHead s).1.first, .int .i64 (getHead s).1.count, .int .i64 (getHead s).1.bytes, .slice P1 (getHead s).1.prev.length p1, .slice R1 (getHead s).1.root.length r1]) ∧ (getHead s).1.prev.length ≤ p1 ∧ (getHead s).1.root.length ≤ r1 ∧ Bs w' (fun b => w.heap.size ≤ b) P1 (getHead s).1.prev.length (getHead s).1.prev ∧ Bs w' (fun b => w.heap.size ≤ b) R1 (getHead s).1.root.length (getHead s).1.root) ∧ RdD D w' q (getHead s).2 ∧ Keep (fun b => b ≠ q) w w' := by
 obtain ⟨a, s1, e0⟩ : ∃ a s1, s.num 2 = (a, s1) := ⟨_, _, rfl⟩
 obtain ⟨b, s2, e1⟩ : ∃ b s2, s1.num 8 = (b, s2) := ⟨_, _, rfl⟩
 obtain ⟨c, s3, e2⟩ : ∃ c s3, s2.num 2 = (c, s3) := ⟨_, _, rfl⟩
 obtain ⟨d, s4, e3⟩ : ∃ d s4, s3.num 2 = (d, s4) := ⟨_, _, rfl⟩
 obtain ⟨pv, s5, e4⟩ : ∃ pv s5, s4.raw 32 = (pv, s5) := ⟨_, _, rfl⟩
 obtain ⟨rt, s6, e5⟩ : ∃ rt s6, s5.raw 32 = (rt, s6) := ⟨_, _, rfl⟩
 have HE : Hid (getHead s = (⟨(a : Nat), (b : Nat), (c : Nat), (d : Nat), pv, rt⟩, s6)) := Lib.hid (by simp only [getHead, e0, e1, e2, e3, e4, e5])
 rw [HE.out]
 dsimp only
 have kB := (New.refl w).alloc (.cells #[.int .i64 0, .int .u64 0, .int .i64 0, .int .i64 0, .slice none 0 0, .slice none 0 0] 33)
 have hG := heap_alloc_new w (.cells #[.int .i64 0, .int .u64 0, .int .i64 0, .int .i64 0, .slice none 0 0, .slice none 0 0] 33)
 have hql : q < w.heap.size := hR.lt
 have HR := Lib.hid (hR.keep kB)
 have HG := Lib.hid hG
 have HK : Hid (Keep (fun b => b ≠ q) w (w.alloc _)) := Lib.hid (Keep.of_new kB)
 have HQ := Lib.hid hql
 have E0 := Lib.hid e0
 have E1 := Lib.hid e1
 have E2 := Lib.hid e2
 have E3 := Lib.hid e3
 have E4 := Lib.hid e4
 have E5 := Lib.hid e5
 clear hR kB hG hql HE e0 e1 e2 e3 e4 e5
 go_enter Tryz.func74, Tryz.ntmps74
 go_wp2_with fail
 generalize w.alloc (.cells #[.int .i64 0, .int .u64 0, .int .i64 0, .int .i64 0, .slice none 0 0, .slice none 0 0] 33) = w0 at *
 generalize hgb : w.heap.size = gb at *
 have hgq : gb ≠ q := by have := HQ.out; omega
 have HNQ := Lib.hid hgq
 clear hgq
 have hC := rshortD_any D q s w0 HR.out
 rw [E0.out] at hC
 dsimp only at hC
 have HC := Lib.hid hC
 clear hC
 refine HC.out.mono ?_
 rintro e w1 ⟨rfl, hR, kK⟩
 have HR := Lib.hid hR
 have HG := Lib.hid (kK.blockAt HG.out HNQ.out)
 have HK := Lib.hid (HK.out.trans kK)
 clear hR kK HC
 go_wp2_with fail
 have hC := rlongD_any D q s1 w1 HR.out
 rw [E1.out] at hC
 dsimp only at hC
 have HC := Lib.hid hC
 clear hC
 refine HC.out.mono ?_
 rintro e w2 ⟨rfl, hR, kK⟩
 have HR := Lib.hid hR
 have HG := Lib.hid (kK.blockAt HG.out HNQ.out)
 have HK := Lib.hid (HK.out.trans kK)
 clear hR kK HC
 go_wp2_with fail
 have hC := rshortD_any D q s2 w2 HR.out
 rw [E2.out] at hC
 dsimp only at hC
 have HC := Lib.hid hC
 clear hC
 refine HC.out.mono ?_
 rintro e w3 ⟨rfl, hR, kK⟩
 have HR := Lib.hid hR
 have HG := Lib.hid (kK.blockAt HG.out HNQ.out)
 have HK := Lib.hid (HK.out.trans kK)
 clear hR kK HC
 go_wp2_with fail
 have hC := rshortD_any D q s3 w3 HR.out
 rw [E3.out] at hC
 dsimp only at hC
 have HC := Lib.hid hC
 clear hC
 refine HC.out.mono ?_
 rintro e w4 ⟨rfl, hR, kK⟩
 have HR := Lib.hid hR
 have HG := Lib.hid (kK.blockAt HG.out HNQ.out)
 have HK := Lib.hid (HK.out.trans kK)
 clear hR kK HC
 go_wp2_with fail
 have hC := rrawD_any D q s4 32 w4 HR.out
 rw [E4.out] at hC
 dsimp only at hC
 have HC := Lib.hid hC
 clear hC
 refine HC.out.mono ?_
 rintro e w5 ⟨⟨A4, c4, rfl, oB⟩, hR, kK⟩
 have HR := Lib.hid hR
 have HG := Lib.hid (kK.blockAt HG.out HNQ.out)
 have HCP4 := Lib.hid (own_cap oB)
 have HO4 := Lib.hid ((Row.of_own oB).imp (E := fun b => gb ≤ b) (fun b _ hb => Nat.le_trans (by have := HK.out.size; rw [hgb] at this; exact this) hb))
 have HK := Lib.hid (HK.out.trans kK)
 clear hR kK HC oB
 go_wp2_with fail
 have hC := rrawD_any D q s5 32 w5 HR.out
 rw [E5.out] at hC
 dsimp only at hC
 have HC := Lib.hid hC
 clear hC
 refine HC.out.mono ?_
 rintro e w6 ⟨⟨A5, c5, rfl, oB⟩, hR, kK⟩
 have HR := Lib.hid hR
 have HG := Lib.hid (kK.blockAt HG.out HNQ.out)
 have HO4 := Lib.hid (HO4.out.keep kK (fun b _ hb => by have h1 := HQ.out; have h2 : gb ≤ b := hb; omega))
 have HCP5 := Lib.hid (own_cap oB)
 have HO5 := Lib.hid ((Row.of_own oB).imp (E := fun b => gb ≤ b) (fun b _ hb => Nat.le_trans (by have := HK.out.size; rw [hgb] at this; exact this) hb))
 have HK := Lib.hid (HK.out.trans kK)
 clear hR kK HC oB
 obtain ⟨d0, d1, d2, d3, d4, d5⟩ := cs6 HG.out
 obtain ⟨z0, z1, z2, z3, z4, z5⟩ := fz6 HG.out
 go_wp2_with fail
 clear d0 z0 d1 z1 d2 z2 d3 z3 d4 z4 d5 z5
 have hE := set_six HG.out (.int .i64 (a : Nat)) (.int .u64 (b : Nat)) (.int .i64 (c : Nat)) (.int .i64 (d : Nat)) (.slice A4 pv.length c4) (.slice A5 rt.length c5)
 have kE := keep_six w6 gb (.int .i64 (a : Nat)) (.int .u64 (b : Nat)) (.int .i64 (c : Nat)) (.int .i64 (d : Nat)) (.slice A4 pv.length c4) (.slice A5 rt.length c5)
 generalize hwE : World.setCell _ _ _ = wE at *
 obtain ⟨f0, f1, f2, f3, f4, f5⟩ := cs6 hE
 refine bodyPost_ret (v := .agg #[.int .i64 (a : Nat), .int .u64 (b : Nat), .int .i64 (c : Nat), .int .i64 (d : Nat), .slice A4 pv.length c4, .slice A5 rt.length c5]) (by simp [results, Tryz.results74, go_sem, f0, f1, f2, f3, f4, f5]) rfl ?_
 have hsz : gb < w6.heap.size := (Array.getElem?_eq_some_iff.1 HG.out).1
 have hb4 := HO4.out; have hb5 := HO5.out
 have hr4 := bs_off hb4 HG.out; have hr5 := bs_off hb5 HG.out
 simp only [hgb]
 refine ⟨⟨A4, A5, c4, c5, rfl, HCP4.out, HCP5.out, (hr4.keep kE (fun b _ hb => hb.2)).imp fun b _ hb => hb.1, (hr5.keep kE (fun b _ hb => hb.2)).imp fun b _ hb => hb.1⟩, HR.out.keepE kE (fun e => HNQ.out e.symm) (fun b _ hd => by have := hD b hd; omega), ?_⟩
 exact (Keep.trans2 (D := fun b => b ≠ q) (E := fun b => b ≠ q ∧ b ≠ gb) HK.out (Keep.imp kE (E := fun b => b ≠ q ∧ b ≠ gb) (fun b _ hb => hb.2)) (fun b hb hd => ⟨hd, by rw [hgb] at hb; omega⟩))
theorem getHead_first (s : RdS) : 0 ≤ (getHead s).1.first ∧ (getHead s).1.first ≤ 18446744073709551615 := by
 have h := num_lt (s.num 2).2 8
 refine ⟨Int.natCast_nonneg _, ?_⟩
 show ((((s.num 2).2.num 8).1 : Nat) : Int) ≤ _
 have e : 256 ^ 8 = 18446744073709551616 := by decide
 omega
set_option maxRecDepth 100000 in
set_option maxHeartbeats 8000000 in
theorem pdecode_any (D : Nat → Prop) (A : Option Addr) (n c : Nat) (bs : List UInt8) (w : World) (hB : Bs w D A n bs) (hn : n ≤ 1099511627776) : Calls Tryz.prog 28 #[.slice A n c] w (DecRet (decodeOf bs) w) := by
 obtain ⟨h, s1, e0⟩ : ∃ h s1, getHead ⟨bs, 0⟩ = (h, s1) := ⟨_, _, rfl⟩
 obtain ⟨pl, s2, e1⟩ : ∃ pl s2, s1.num 2 = (pl, s2) := ⟨_, _, rfl⟩
 obtain ⟨lf, s3, e2⟩ : ∃ lf s3, s2.lenRow = (lf, s3) := ⟨_, _, rfl⟩
 obtain ⟨np, s4, e3⟩ : ∃ np s4, s3.num 1 = (np, s4) := ⟨_, _, rfl⟩
 obtain ⟨ps, s5, e4⟩ : ∃ ps s5, getRows np s4 = (ps, s5) := ⟨_, _, rfl⟩
 obtain ⟨nl, s6, e5⟩ : ∃ nl s6, s5.num 2 = (nl, s6) := ⟨_, _, rfl⟩
 obtain ⟨ls, s7, e6⟩ : ∃ ls s7, getHeads nl s6 = (ls, s7) := ⟨_, _, rfl⟩
 have HDP : Hid (decParts bs = (⟨h, (pl : Nat), lf, ps, ls⟩, s7)) := Lib.hid (by simp only [decParts, e0, e1, e2, e3, e4, e5, e6])
 have hf : 0 ≤ h.first ∧ h.first ≤ 18446744073709551615 := by have q := getHead_first ⟨bs, 0⟩; rw [e0] at q; exact q
 have hnp : np ≤ 255 := by have q := num_lt s3 1; rw [e3] at q; dsimp only at q; omega
 have hnl : nl ≤ 65535 := by have q := num_lt s5 2; rw [e5] at q; dsimp only at q; omega
 have hpl : ps.length = np := by have q := getRows_len np s4; rw [e4] at q; exact q
 have hll : ls.length = nl := by have q := getHeads_len nl s6; rw [e6] at q; exact q
 have kB := (New.refl w).alloc (.cells #[.int .i64 0, .int .u64 0, .int .i64 0, .int .i64 0, .slice none 0 0, .slice none 0 0, .int .i64 0, .slice none 0 0, .slice none 0 0, .slice none 0 0] 36)
 have hG := heap_alloc_new w (.cells #[.int .i64 0, .int .u64 0, .int .i64 0, .int .i64 0, .slice none 0 0, .slice none 0 0, .int .i64 0, .slice none 0 0, .slice none 0 0, .slice none 0 0] 36)
 have HNR := Lib.hid (newReaderD_any D A n c bs (w.alloc (.cells #[.int .i64 0, .int .u64 0, .int .i64 0, .int .i64 0, .slice none 0 0, .slice none 0 0, .int .i64 0, .slice none 0 0, .slice none 0 0, .slice none 0 0] 36)) (Row.new hB kB) hn)
 have HG := Lib.hid hG
 have HN := Lib.hid kB
 have HF := Lib.hid hf
 have HPL := Lib.hid hpl
 have HLL := Lib.hid hll
 have E0 := Lib.hid e0
 have E1 := Lib.hid e1
 have E2 := Lib.hid e2
 have E3 := Lib.hid e3
 have E4 := Lib.hid e4
 have E5 := Lib.hid e5
 have E6 := Lib.hid e6
 clear hB kB hG hf hpl hll e0 e1 e2 e3 e4 e5 e6
 go_enter Tryz.func28, Tryz.ntmps28
 go_wp2_with fail
 generalize w.alloc (.cells #[.int .i64 0, .int .u64 0, .int .i64 0, .int .i64 0, .slice none 0 0, .slice none 0 0, .int .i64 0, .slice none 0 0, .slice none 0 0, .slice none 0 0] 36) = w0 at *
 generalize hgb : w.heap.size = gb at *
 have HS0 : Hid (gb < w0.heap.size) := Lib.hid (Array.getElem?_eq_some_iff.1 HG.out).1
 refine HNR.out.mono ?_
 rintro e w1 ⟨⟨q, rfl, hq, hR⟩, k1⟩
 have HG := Lib.hid (k1.blockAt HG.out trivial)
 have HN1 := Lib.hid (HN.out.new k1)
 have HQ : Hid (gb < q ∧ q < w1.heap.size) := Lib.hid ⟨by have := HS0.out; omega, hR.lt⟩
 have HNQ : Hid (gb ≠ q) := Lib.hid (by have := HQ.out; omega)
 have hC := pget_any (fun b => b < q) q ⟨bs, 0⟩ w1 hR (fun b hb => by have := HQ.out; omega)
 rw [E0.out] at hC
 dsimp only at hC
 have HC := Lib.hid hC
 clear hC hR k1 hq HNR
 go_wp2_with fail
 refine HC.out.mono ?_
 rintro e w2 ⟨⟨P1, R1, p1, r1, rfl, hp1, hr1, hP, hR1⟩, hR, k2⟩
 have HP := Lib.hid (Row.imp hP (E := fun b => (gb < b ∧ b < w2.heap.size) ∧ b ≠ q) (fun b hb hd => by have := HQ.out; have h2 : w1.heap.size ≤ b := hd; omega))
 have HR1 := Lib.hid (Row.imp hR1 (E := fun b => (gb < b ∧ b < w2.heap.size) ∧ b ≠ q) (fun b hb hd => by have := HQ.out; have h2 : w1.heap.size ≤ b := hd; omega))
 have HCP := Lib.hid (And.intro hp1 hr1)
 have HG := Lib.hid (k2.blockAt HG.out HNQ.out)
 have HK := Lib.hid k2
 have hC := rshortD_any _ q s1 w2 hR
 rw [E1.out] at hC
 dsimp only at hC
 have HC := Lib.hid hC
 clear hC hR k2 hP hR1 hp1 hr1
 go_wp2_with fail
 refine HC.out.mono ?_
 rintro e w3 ⟨rfl, hR, k3⟩
 have HP := Lib.hid ((Row.keep HP.out k3 (fun b _ hb => hb.2)).imp (E := fun b => (gb < b ∧ b < w3.heap.size) ∧ b ≠ q) (fun b hb hd => ⟨⟨hd.1.1, hb⟩, hd.2⟩))
 have HR1 := Lib.hid ((Row.keep HR1.out k3 (fun b _ hb => hb.2)).imp (E := fun b => (gb < b ∧ b < w3.heap.size) ∧ b ≠ q) (fun b hb hd => ⟨⟨hd.1.1, hb⟩, hd.2⟩))
 have HG := Lib.hid (k3.blockAt HG.out HNQ.out)
 have HK := Lib.hid (HK.out.trans k3)
 have hC := rbytesD_any _ q s2 w3 hR
 rw [E2.out] at hC
 dsimp only at hC
 have HC := Lib.hid hC
 clear hC hR k3
 go_wp2_with fail
 refine HC.out.mono ?_
 rintro e w4 ⟨⟨L, lc, rfl, oL⟩, hR, k4⟩
 have HP := Lib.hid ((Row.keep HP.out k4 (fun b _ hb => hb.2)).imp (E := fun b => (gb < b ∧ b < w4.heap.size) ∧ b ≠ q) (fun b hb hd => ⟨⟨hd.1.1, hb⟩, hd.2⟩))
 have HR1 := Lib.hid ((Row.keep HR1.out k4 (fun b _ hb => hb.2)).imp (E := fun b => (gb < b ∧ b < w4.heap.size) ∧ b ≠ q) (fun b hb hd => ⟨⟨hd.1.1, hb⟩, hd.2⟩))
 have HL := Lib.hid ((Row.of_own oL).imp (E := fun b => (gb < b ∧ b < w4.heap.size) ∧ b ≠ q) (fun b hb hd => by have h1 := HQ.out; have h2 := HK.out.size; have h3 : w3.heap.size ≤ b := hd; omega))
 have HLC := Lib.hid (And.intro (own_cap oL) (own_capMax oL))
 have HG := Lib.hid (k4.blockAt HG.out HNQ.out)
 have HK := Lib.hid (HK.out.trans k4)
 have kX := (New.refl w4).alloc (.cells #[.int .i64 h.index, .int .u64 h.first, .int .i64 h.count, .int .i64 h.bytes, .slice P1 h.prev.length p1, .slice R1 h.root.length r1, .int .i64 (pl : Nat), .slice L lf.length lc, .slice none 0 0, .slice none 0 0] 36)
 have hX := heap_alloc_new w4 (.cells #[.int .i64 h.index, .int .u64 h.first, .int .i64 h.count, .int .i64 h.bytes, .slice P1 h.prev.length p1, .slice R1 h.root.length r1, .int .i64 (pl : Nat), .slice L lf.length lc, .slice none 0 0, .slice none 0 0] 36)
 have HR := Lib.hid (hR.keep kX)
 have HX := Lib.hid hX
 have HKX := Lib.hid kX
 clear hR k4 oL kX hX HC
 go_upto_region 3 with fail
 generalize w4.alloc (.cells #[.int .i64 h.index, .int .u64 h.first, .int .i64 h.count, .int .i64 h.bytes, .slice P1 h.prev.length p1, .slice R1 h.root.length r1, .int .i64 (pl : Nat), .slice L lf.length lc, .slice none 0 0, .slice none 0 0] 36) = w5 at *
 generalize hgx : w4.heap.size = gx at *
 have HGX : Hid (w1.heap.size ≤ gx ∧ gx < w5.heap.size) := Lib.hid ⟨by rw [← hgx]; exact HK.out.size, (Array.getElem?_eq_some_iff.1 HX.out).1⟩
 have HXQ : Hid (gx ≠ q) := Lib.hid (by have := HQ.out; have := HGX.out; omega)
 have HP := Lib.hid (Row.new HP.out HKX.out)
 have HR1 := Lib.hid (Row.new HR1.out HKX.out)
 have HL := Lib.hid (Row.new HL.out HKX.out)
 have HG := Lib.hid (HKX.out.blockAt HG.out trivial)
 have HK := Lib.hid (HK.out.new HKX.out)
 have hC := rbyteD_any _ q s3 w5 HR.out
 rw [E3.out] at hC
 dsimp only at hC
 have HC := Lib.hid hC
 clear hC HKX HR
 go_wp2_with fail
 refine HC.out.mono ?_
 rintro e w6 ⟨rfl, hR, k6⟩
 have HP := Lib.hid (Row.keep HP.out k6 (fun b _ hb => hb.2))
 have HR1 := Lib.hid (Row.keep HR1.out k6 (fun b _ hb => hb.2))
 have HL := Lib.hid (Row.keep HL.out k6 (fun b _ hb => hb.2))
 have HG := Lib.hid (k6.blockAt HG.out HNQ.out)
 have HX := Lib.hid (k6.blockAt HX.out HXQ.out)
 have HK := Lib.hid (HK.out.trans k6)
 have HR := Lib.hid hR
 have HG6 : Hid (gx < w6.heap.size) := Lib.hid (Array.getElem?_eq_some_iff.1 HX.out).1
 clear hR k6 HC
 go_wp2_with fail
 go_loopw [17] (fun i wx => ∃ (k : Nat) (A : Option Addr) (c : Nat), k ≤ np ∧ i = .int .i64 (k : Int) ∧ wx.heap[gx]? = some (.cells #[.int .i64 h.index, .int .u64 h.first, .int .i64 h.count, .int .i64 h.bytes, .slice P1 h.prev.length p1, .slice R1 h.root.length r1, .int .i64 (pl : Nat), .slice L lf.length lc, .slice A k c, .slice none 0 0] 36 (0, 0)) ∧ OwnImgs wx w6.heap.size (fun b => w6.heap.size ≤ b) A k c (getRows k s4).1 ∧ RdD (fun b => b < q) wx q (getRows k s4).2 ∧ Keep (fun b => (b ≠ q ∧ b ≠ gx) ∧ b < w6.heap.size) w6 wx) (fun i _ => np - (intOf i).toNat)
 case atStart => exact ⟨0, none, 0, Nat.zero_le _, rfl, HX.out, OwnImgs.nil _ _ _, HR.out, Keep.refl _ _⟩
 case round =>
  obtain ⟨k, A, c, hk, rfl, hgr, hO, hRd, hK⟩ := hrel
  by_cases hlt : k < np
  ·have HTK : Hid (getRows (k + 1) s4 = ((getRows k s4).1 ++ [((getRows k s4).2.raw 32).1], ((getRows k s4).2.raw 32).2)) := Lib.hid rfl
   have hTK := HTK.out
   generalize hst : getRows k s4 = st at hO hRd hTK
   obtain ⟨l, s⟩ := st
   dsimp only at hO hRd hTK
   have HTK := Lib.hid hTK
   clear hTK
   have HO := Lib.hid hO
   have HRd := Lib.hid hRd
   have HKK := Lib.hid hK
   have HGR := Lib.hid hgr
   clear hst hO hRd hK hgr
   go_upto_region 5 with fail
   have hwb : w6.heap.size ≤ wr.heap.size := HKK.out.size
   refine holdW_begin [5, 7] (fun _ => True) (Keep (fun b => b ≠ q) wr.drew) (by kernel_rfl) ?_
   have t0 : Keep (fun b => b ≠ q) wr.drew wr.drew := Keep.refl _ _
   have r9 : ∀ W, Keep (fun b => b ≠ q) wr.drew W → W.cell? ⟨gx, 8, none⟩ = some (.slice A k c) := fun W h => cellOf (h.blockAt (show wr.drew.heap[gx]? = _ from HGR.out) HXQ.out) (k := 8) rfl
   refine holdW_read (i := 0) (v := ?_) ⟨trivial, fun _ => t0⟩ rfl (by kernel_rfl) (by kernel_rfl) (by kernel_rfl) rfl (fun _ _ _ h => h) rfl ?_ ?_
   rotate_left
   ·intro w' hN
    go_simp
    try with_reducible rfl
   simp only [Act.put, ly1, ly3, ly4, ly5, ly6]
   refine holdW_readT (i := 1) (v := ?_) ⟨trivial, fun _ => t0⟩ rfl (by kernel_rfl) (by kernel_rfl) (by kernel_rfl) (by kernel_rfl) (by kernel_rfl) (fun _ _ _ h => h) rfl ?_ ?_
   rotate_left
   ·intro w' hN
    go_simp
    try with_reducible rfl
   simp only [Act.put, ly1, ly2, ly3, ly4, ly5, ly6]
   refine holdW_read (i := 2) (v := ?_) ⟨trivial, fun _ => t0⟩ rfl (by kernel_rfl) (by kernel_rfl) (by kernel_rfl) rfl (fun _ _ _ h => h) rfl ?_ ?_
   rotate_left
   ·intro w' hN
    go_simp
    try with_reducible rfl
   simp only [Act.put, ly1, ly2, ly3, ly4, ly5, ly6]
   refine holdW_step (i := 3) (by kernel_rfl) rfl rfl (fun K hK2 => ?_)
   go_simp
   refine (rrawD_any (fun b => b < q) q s 32 wr.drew (HRd.out.keep (New.refl wr).drew)).mono ?_
   rintro e x7 ⟨⟨A9, c9, rfl, oB⟩, hR7, k7⟩
   go_wp2_with fail
   have hcb := own_cap oB
   have hcm := own_capMax oB
   have hb7 := (Row.of_own oB).imp (E := fun b => w6.heap.size ≤ b ∧ some b ≠ blk A) (fun b _ hb => by have h2 : wr.heap.size ≤ b := hb; exact ⟨by omega, fun e => by have h1 := (HO.out.lt b e.symm).2; omega⟩)
   clear oB
   refine hK2.out _ _ ⟨trivial, fun _ => k7⟩ ?_
   clear hK2 K
   try simp only [Act.put, ly1, ly2, ly3, ly4, ly5, ly6]
   refine holdW_step (i := 4) (by kernel_rfl) rfl rfl (fun K hK2 => ?_)
   go_simp
   go_wp2_with fail
   have k8 := k7.alloc (.cells #[.slice A9 (s.raw 32).1.length c9] 31)
   have hrow := Row.made x7 31 #[.slice A9 (s.raw 32).1.length c9] 1 1 rfl
   have kA := (New.refl x7).alloc (.cells #[.slice A9 (s.raw 32).1.length c9] 31)
   have hb8 := Row.new hb7 kA
   have hR8 := hR7.keep kA
   generalize x7.alloc (.cells #[.slice A9 (s.raw 32).1.length c9] 31) = x8 at *
   generalize x7.heap.size = g7 at *
   refine hK2.out _ _ ⟨trivial, fun _ => k8⟩ ?_
   clear hK2 K kA
   try simp only [Act.put, ly1, ly2, ly3, ly4, ly5, ly6]
   have k8r : Keep (fun b => b ≠ q) wr x8 := ((Keep.refl (fun b => b ≠ q) wr).drew).trans k8
   have hAq : blk A ≠ some q := fun e => by have h1 := (HO.out.lt q e).1; have h2 := HQ.out; have h3 := HGX.out; have h4 := HG6.out; omega
   have HO8 := Lib.hid ((ownImgs_sl.1 HO.out).keepE (F := fun b => b ≠ q) k8r (fun j hj e => hAq (by rw [← e]; exact hj)) (fun b hb => by have h2 := HQ.out; have h3 := HGX.out; have h4 := HG6.out; show b ≠ q; have h5 : w6.heap.size ≤ b := hb; omega))
   have hlo := HO.out.lt
   have hw8 : wr.heap.size ≤ x8.heap.size := k8r.size
   refine holdW_step (i := 5) (by kernel_rfl) rfl rfl (fun K hK2 => ?_)
   obtain ⟨i0, hi0, hz0, hs0, hb0⟩ := info_parts info_bytes
   refine wp_sl (E := imgElt) _ _ _ 23 31 rfl i0 (.slice none 0 0) 24 Tryz.underlying23 hi0 hz0 hs0 hb0 rfl w6.heap.size (fun b => w6.heap.size ≤ b) A k c l rfl HO8.out _ _ 1 _ (s.raw 32).1 rfl hrow ⟨A9, c9, rfl, hcb, hcm, hb8⟩ (by omega) (by omega) (Nat.le_trans hwb hw8) ?_
   intro A7 c7 x9 o7 hg7 hbk7
   have kG : Keep (fun b => some b ≠ blk A) x8 x9 := Keep.grown (D := fun b => some b ≠ blk A) (Keep.refl _ _) hg7 (fun j hj hd => absurd hj.symm hd)
   have hAx : some gx ≠ blk A := fun e => by have h1 := (hlo gx e.symm).1; have h2 := HG6.out; omega
   refine hK2.out _ _ ⟨trivial, fun h => absurd h (by decide)⟩ ?_
   clear hK2 K
   try simp only [Act.put, ly1, ly2, ly3, ly4, ly5, ly6]
   have hg9 : x9.heap[gx]? = _ := kG.blockAt (k8r.blockAt HGR.out HXQ.out) hAx
   have hR9 := hR8.keepE kG (fun e => hAq e.symm) (fun b _ hb e => by have h1 := (hlo b e.symm).1; have h2 := HQ.out; have h3 := HGX.out; have h4 := HG6.out; have h5 : b < q := hb; omega)
   refine holdW_step (i := 6) (by kernel_rfl) rfl rfl (fun K hK2 => ?_)
   go_simp
   refine hK2.out _ _ ⟨trivial, fun h => absurd h (by decide)⟩ ?_
   clear hK2 K
   try simp only [Act.put, ly1, ly2, ly3, ly4, ly5, ly6]
   have d9 := cellOf hg9 (k := 8) rfl
   have z9 := frozenOf hg9 8
   refine holdW_step (i := 7) (by kernel_rfl) rfl rfl (fun K hK2 => ?_)
   go_simp
   have hgE := setCell_block hg9 8 (.slice A7 (k + 1) c7)
   have kS : Keep (fun b => b ≠ gx) x9 (x9.setCell ⟨gx, 8, none⟩ (.slice A7 (k + 1) c7)) := (Keep.refl _ x9).setCell (p := ⟨gx, 8, none⟩) (fun hd => absurd rfl hd) _
   have o8 := (ownImgs_sl.2 o7).keepE kS (fun j hj e => by rw [e] at hj; have h1 := (o7.lt gx hj).1; have h2 := HG6.out; omega) (fun b hb => by have h2 := HG6.out; show b ≠ gx; have h5 : w6.heap.size ≤ b := hb; omega)
   have hRE := hR9.keepE kS (fun e => HXQ.out e.symm) (fun b _ hb => by have h2 := HQ.out; have h3 := HGX.out; show b ≠ gx; have h5 : b < q := hb; omega)
   have kW := ((HKK.out.trans2 (E := fun b => b ≠ q) k8r (fun b _ hb => hb.1.1)).trans2 kG (fun b hb hd e => by have h1 := (hlo b e.symm).1; omega)).trans2 kS (fun b _ hb => hb.1.2)
   refine hK2.out _ _ ⟨trivial, fun h => absurd h (by decide)⟩ ?_
   clear hK2 K d9 z9
   try simp only [Act.put, ly1, ly2, ly3, ly4, ly5, ly6]
   generalize x9.setCell _ _ = wz at *
   refine wpAnyW_done (by kernel_rfl) ?_ _
   clear r9
   go_wp2_with fail
   go_roundw
   case rel => exact ⟨k + 1, A7, c7, by omega, by go_num, hgE, by rw [HTK.out]; exact o8, by rw [HTK.out]; exact hRE, kW⟩
   case measure => simp [intOf]; omega
  ·obtain rfl : k = np := by omega
   rw [E4.out] at hO hRd
   dsimp only at hO hRd
   have HO1 := Lib.hid (hO.imgs.imp (E := fun b => (gb < b ∧ b < wr.heap.size) ∧ (b ≠ q ∧ b ≠ gx)) (fun b hb hd => by have h1 := HQ.out; have h2 := HGX.out; have h3 := HG6.out; have h4 : w6.heap.size ≤ b := hd.elim id id; omega))
   have HOC := Lib.hid (And.intro hO.cap hO.capMax)
   have HX := Lib.hid hgr
   have HP := Lib.hid ((Row.keep HP.out hK (fun b _ hb => ⟨⟨hb.2, by have := hb.1; omega⟩, by have := hb.1; have := HG6.out; omega⟩)).imp (E := fun b => (gb < b ∧ b < gx) ∧ b ≠ q) (fun b _ hb => hb))
   have HR1 := Lib.hid ((Row.keep HR1.out hK (fun b _ hb => ⟨⟨hb.2, by have := hb.1; omega⟩, by have := hb.1; have := HG6.out; omega⟩)).imp (E := fun b => (gb < b ∧ b < gx) ∧ b ≠ q) (fun b _ hb => hb))
   have HL := Lib.hid ((Row.keep HL.out hK (fun b _ hb => ⟨⟨hb.2, by have := hb.1; omega⟩, by have := hb.1; have := HG6.out; omega⟩)).imp (E := fun b => (gb < b ∧ b < gx) ∧ b ≠ q) (fun b _ hb => hb))
   have HG := Lib.hid (hK.blockAt HG.out ⟨⟨HNQ.out, by have h1 := HQ.out; have h2 := HGX.out; omega⟩, by have h1 := HQ.out; have h2 := HGX.out; have h3 := HG6.out; omega⟩)
   have HK6 := Lib.hid hK
   have HKN : Hid (Keep (fun b => b < w1.heap.size ∧ b ≠ q) w1 wr) := Lib.hid (Keep.trans2 (HK.out.imp fun _ _ hd => hd.2) hK (fun b hb hd => ⟨⟨hd.2, by have h2 := HGX.out; omega⟩, by have h2 := HGX.out; have h3 := HG6.out; omega⟩))
   have hC := rshortD_any _ q s5 wr hRd
   rw [E5.out] at hC
   dsimp only at hC
   have HC := Lib.hid hC
   clear hC hO hRd hK hgr HK6 HK HR
   go_wp2_with fail
   refine HC.out.mono ?_
   rintro e w8 ⟨rfl, hR, k8⟩
   have HP := Lib.hid (Row.keep HP.out k8 (fun b _ hb => hb.2))
   have HR1 := Lib.hid (Row.keep HR1.out k8 (fun b _ hb => hb.2))
   have HL := Lib.hid (Row.keep HL.out k8 (fun b _ hb => hb.2))
   have HO1 := Lib.hid ((HO1.out.keep k8 (fun b _ hb => hb.2.1)).imp (E := fun b => (gb < b ∧ b < w8.heap.size) ∧ (b ≠ q ∧ b ≠ gx)) (fun b hb hd => ⟨⟨hd.1.1, hb⟩, hd.2⟩))
   have HG := Lib.hid (k8.blockAt HG.out HNQ.out)
   have HX := Lib.hid (k8.blockAt HX.out HXQ.out)
   have HKN := Lib.hid (HKN.out.trans2 k8 (fun b _ hb => hb.2))
   have HR := Lib.hid hR
   have HG8 : Hid (gx < w8.heap.size) := Lib.hid (Array.getElem?_eq_some_iff.1 HX.out).1
   clear hR k8 HC
   obtain ⟨Pa, hPa⟩ : ∃ Pa, Pa = A := ⟨_, rfl⟩
   obtain ⟨pc, hpc⟩ : ∃ pc, pc = c := ⟨_, rfl⟩
   subst hPa
   subst hpc
   obtain ⟨k1, hk1⟩ : ∃ k1, k1 = k := ⟨_, rfl⟩
   subst hk1
   go_wp2_with fail
   go_loopw [29] (fun i wx => ∃ (k : Nat) (A : Option Addr) (c : Nat), k ≤ nl ∧ i = .int .i64 (k : Int) ∧ wx.heap[gx]? = some (.cells #[.int .i64 h.index, .int .u64 h.first, .int .i64 h.count, .int .i64 h.bytes, .slice P1 h.prev.length p1, .slice R1 h.root.length r1, .int .i64 (pl : Nat), .slice L lf.length lc, .slice Pa k1 pc, .slice A k c] 36 (0, 0)) ∧ OwnHeads wx w8.heap.size (fun b => w8.heap.size ≤ b) A k c (getHeads k s6).1 ∧ RdD (fun b => b < q) wx q (getHeads k s6).2 ∧ Keep (fun b => (b ≠ q ∧ b ≠ gx) ∧ b < w8.heap.size) w8 wx) (fun i _ => nl - (intOf i).toNat)
   case atStart => exact ⟨0, none, 0, Nat.zero_le _, rfl, HX.out, OwnHeads.nil _ _ _, HR.out, Keep.refl _ _⟩
   case round =>
    obtain ⟨k, A, c, hk, rfl, hgr, hO, hRd, hK⟩ := hrel
    by_cases hlt : k < nl
    ·have HTK : Hid (getHeads (k + 1) s6 = ((getHeads k s6).1 ++ [(getHead (getHeads k s6).2).1], (getHead (getHeads k s6).2).2)) := Lib.hid rfl
     have hTK := HTK.out
     generalize hst : getHeads k s6 = st at hO hRd hTK
     obtain ⟨l, s⟩ := st
     dsimp only at hO hRd hTK
     have HTK := Lib.hid hTK
     clear hTK
     have HO := Lib.hid hO
     have HRd := Lib.hid hRd
     have HKK := Lib.hid hK
     have HGR := Lib.hid hgr
     clear hst hO hRd hK hgr
     go_upto_region 9 with fail
     have hwb : w8.heap.size ≤ wr.heap.size := HKK.out.size
     refine holdW_begin [5, 7] (fun _ => True) (Keep (fun b => b ≠ q) wr.drew) (by kernel_rfl) ?_
     have t0 : Keep (fun b => b ≠ q) wr.drew wr.drew := Keep.refl _ _
     have r9 : ∀ W, Keep (fun b => b ≠ q) wr.drew W → W.cell? ⟨gx, 9, none⟩ = some (.slice A k c) := fun W h => cellOf (h.blockAt (show wr.drew.heap[gx]? = _ from HGR.out) HXQ.out) (k := 9) rfl
     refine holdW_read (i := 0) (v := ?_) ⟨trivial, fun _ => t0⟩ rfl (by kernel_rfl) (by kernel_rfl) (by kernel_rfl) rfl (fun _ _ _ h => h) rfl ?_ ?_
     rotate_left
     ·intro w' hN
      go_simp
      try with_reducible rfl
     simp only [Act.put, ly1, ly3, ly4, ly5, ly6]
     refine holdW_readT (i := 1) (v := ?_) ⟨trivial, fun _ => t0⟩ rfl (by kernel_rfl) (by kernel_rfl) (by kernel_rfl) (by kernel_rfl) (by kernel_rfl) (fun _ _ _ h => h) rfl ?_ ?_
     rotate_left
     ·intro w' hN
      go_simp
      try with_reducible rfl
     simp only [Act.put, ly1, ly2, ly3, ly4, ly5, ly6]
     refine holdW_read (i := 2) (v := ?_) ⟨trivial, fun _ => t0⟩ rfl (by kernel_rfl) (by kernel_rfl) (by kernel_rfl) rfl (fun _ _ _ h => h) rfl ?_ ?_
     rotate_left
     ·intro w' hN
      go_simp
      try with_reducible rfl
     simp only [Act.put, ly1, ly2, ly3, ly4, ly5, ly6]
     refine holdW_step (i := 3) (by kernel_rfl) rfl rfl (fun K hK2 => ?_)
     go_simp
     refine (pget_any (fun b => b < q) q s wr.drew (HRd.out.keep (New.refl wr).drew) (fun b hb => by have h1 := HRd.out.lt; have h5 : b < q := hb; show b < wr.heap.size; omega)).mono ?_
     rintro e x7 ⟨⟨B1, B2, d1, d2, rfl, l1, l2, b1, b2⟩, hR7, k7⟩
     go_wp2_with fail
     have b1 := b1.imp (E := fun b => w8.heap.size ≤ b ∧ some b ≠ blk A) (fun b _ hb => by have h2 : wr.heap.size ≤ b := hb; exact ⟨by omega, fun e => by have h1 := (HO.out.lt b e.symm).2; omega⟩)
     have b2 := b2.imp (E := fun b => w8.heap.size ≤ b ∧ some b ≠ blk A) (fun b _ hb => by have h2 : wr.heap.size ≤ b := hb; exact ⟨by omega, fun e => by have h1 := (HO.out.lt b e.symm).2; omega⟩)
     have hfx := getHead_first s
     refine hK2.out _ _ ⟨trivial, fun _ => k7⟩ ?_
     clear hK2 K
     try simp only [Act.put, ly1, ly2, ly3, ly4, ly5, ly6]
     refine holdW_step (i := 4) (by kernel_rfl) rfl rfl (fun K hK2 => ?_)
     go_simp
     go_wp2_with fail
     have k8 := k7.alloc (.cells #[.int .i64 (getHead s).1.index, .int .u64 (getHead s).1.first, .int .i64 (getHead s).1.count, .int .i64 (getHead s).1.bytes, .slice B1 (getHead s).1.prev.length d1, .slice B2 (getHead s).1.root.length d2] 33)
     have hrow := Row.made x7 33 #[.int .i64 (getHead s).1.index, .int .u64 (getHead s).1.first, .int .i64 (getHead s).1.count, .int .i64 (getHead s).1.bytes, .slice B1 (getHead s).1.prev.length d1, .slice B2 (getHead s).1.root.length d2] 1 6 rfl
     have kA := (New.refl x7).alloc (.cells #[.int .i64 (getHead s).1.index, .int .u64 (getHead s).1.first, .int .i64 (getHead s).1.count, .int .i64 (getHead s).1.bytes, .slice B1 (getHead s).1.prev.length d1, .slice B2 (getHead s).1.root.length d2] 33)
     have b18 := Row.new b1 kA
     have b28 := Row.new b2 kA
     have hR8 := hR7.keep kA
     generalize x7.alloc (.cells #[.int .i64 (getHead s).1.index, .int .u64 (getHead s).1.first, .int .i64 (getHead s).1.count, .int .i64 (getHead s).1.bytes, .slice B1 (getHead s).1.prev.length d1, .slice B2 (getHead s).1.root.length d2] 33) = x8 at *
     generalize x7.heap.size = g7 at *
     refine hK2.out _ _ ⟨trivial, fun _ => k8⟩ ?_
     clear hK2 K kA
     try simp only [Act.put, ly1, ly2, ly3, ly4, ly5, ly6]
     have k8r : Keep (fun b => b ≠ q) wr x8 := ((Keep.refl (fun b => b ≠ q) wr).drew).trans k8
     have hAq : blk A ≠ some q := fun e => by have h1 := (HO.out.lt q e).1; have h2 := HQ.out; have h3 := HGX.out; have h4 := HG8.out; omega
     have HO8 := Lib.hid ((ownHeads_sl.1 HO.out).keepE (F := fun b => b ≠ q) k8r (fun j hj e => hAq (by rw [← e]; exact hj)) (fun b hb => by have h2 := HQ.out; have h3 := HGX.out; have h4 := HG8.out; show b ≠ q; have h5 : w8.heap.size ≤ b := hb; omega))
     have hlo := HO.out.lt
     have hw8 : wr.heap.size ≤ x8.heap.size := k8r.size
     refine holdW_step (i := 5) (by kernel_rfl) rfl rfl (fun K hK2 => ?_)
     obtain ⟨i0, hi0, hz0, hs0, hb0⟩ := info_parts info_head
     refine wp_sl (E := headElt) _ _ _ 34 33 rfl i0 (.agg #[.int .i64 0, .int .u64 0, .int .i64 0, .int .i64 0, .slice none 0 0, .slice none 0 0]) 80 Tryz.underlying34 hi0 hz0 hs0 hb0 rfl w8.heap.size (fun b => w8.heap.size ≤ b) A k c l rfl HO8.out _ _ 1 _ (getHead s).1 rfl hrow ⟨B1, d1, B2, d2, rfl, rfl, rfl, rfl, rfl, rfl, l1, l2, b18, b28, hfx.1, hfx.2⟩ (by omega) (by omega) (Nat.le_trans hwb hw8) ?_
     intro A7 c7 x9 o7 hg7 hbk7
     have kG : Keep (fun b => some b ≠ blk A) x8 x9 := Keep.grown (D := fun b => some b ≠ blk A) (Keep.refl _ _) hg7 (fun j hj hd => absurd hj.symm hd)
     have hAx : some gx ≠ blk A := fun e => by have h1 := (hlo gx e.symm).1; have h2 := HG8.out; omega
     refine hK2.out _ _ ⟨trivial, fun h => absurd h (by decide)⟩ ?_
     clear hK2 K
     try simp only [Act.put, ly1, ly2, ly3, ly4, ly5, ly6]
     have hg9 : x9.heap[gx]? = _ := kG.blockAt (k8r.blockAt HGR.out HXQ.out) hAx
     have hR9 := hR8.keepE kG (fun e => hAq e.symm) (fun b _ hb e => by have h1 := (hlo b e.symm).1; have h2 := HQ.out; have h3 := HGX.out; have h4 := HG8.out; have h5 : b < q := hb; omega)
     refine holdW_step (i := 6) (by kernel_rfl) rfl rfl (fun K hK2 => ?_)
     go_simp
     refine hK2.out _ _ ⟨trivial, fun h => absurd h (by decide)⟩ ?_
     clear hK2 K
     try simp only [Act.put, ly1, ly2, ly3, ly4, ly5, ly6]
     have d9 := cellOf hg9 (k := 9) rfl
     have z9 := frozenOf hg9 9
     refine holdW_step (i := 7) (by kernel_rfl) rfl rfl (fun K hK2 => ?_)
     go_simp
     have hgE := setCell_block hg9 9 (.slice A7 (k + 1) c7)
     have kS : Keep (fun b => b ≠ gx) x9 (x9.setCell ⟨gx, 9, none⟩ (.slice A7 (k + 1) c7)) := (Keep.refl _ x9).setCell (p := ⟨gx, 9, none⟩) (fun hd => absurd rfl hd) _
     have o8 := (ownHeads_sl.2 o7).keepE kS (fun j hj e => by rw [e] at hj; have h1 := (o7.lt gx hj).1; have h2 := HG8.out; omega) (fun b hb => by have h2 := HG8.out; show b ≠ gx; have h5 : w8.heap.size ≤ b := hb; omega)
     have hRE := hR9.keepE kS (fun e => HXQ.out e.symm) (fun b _ hb => by have h2 := HQ.out; have h3 := HGX.out; show b ≠ gx; have h5 : b < q := hb; omega)
     have kW := ((HKK.out.trans2 (E := fun b => b ≠ q) k8r (fun b _ hb => hb.1.1)).trans2 kG (fun b hb hd e => by have h1 := (hlo b e.symm).1; omega)).trans2 kS (fun b _ hb => hb.1.2)
     refine hK2.out _ _ ⟨trivial, fun h => absurd h (by decide)⟩ ?_
     clear hK2 K d9 z9
     try simp only [Act.put, ly1, ly2, ly3, ly4, ly5, ly6]
     generalize x9.setCell _ _ = wz at *
     refine wpAnyW_done (by kernel_rfl) ?_ _
     clear r9
     go_wp2_with fail
     go_roundw
     case rel => exact ⟨k + 1, A7, c7, by omega, by go_num, hgE, by rw [HTK.out]; exact o8, by rw [HTK.out]; exact hRE, kW⟩
     case measure => simp [intOf]; omega
    ·obtain rfl : k = nl := by omega
     rw [E6.out] at hO hRd
     dsimp only at hO hRd
     have HO2 := Lib.hid (hO.heads.imp (E := fun b => (gb < b ∧ b < wr.heap.size)) (fun b hb hd => by have h1 := HQ.out; have h2 := HGX.out; have h3 := HG8.out; have h4 : w8.heap.size ≤ b := hd.elim id id; omega))
     have HOD := Lib.hid hO.cap
     have HX := Lib.hid hgr
     have HP := Lib.hid (Row.keep HP.out hK (fun b _ hb => ⟨⟨hb.2, by have := hb.1; omega⟩, by have := hb.1; have := HG8.out; omega⟩))
     have HR1 := Lib.hid (Row.keep HR1.out hK (fun b _ hb => ⟨⟨hb.2, by have := hb.1; omega⟩, by have := hb.1; have := HG8.out; omega⟩))
     have HL := Lib.hid (Row.keep HL.out hK (fun b _ hb => ⟨⟨hb.2, by have := hb.1; omega⟩, by have := hb.1; have := HG8.out; omega⟩))
     have HO1 := Lib.hid (HO1.out.keep hK (fun b _ hb => ⟨hb.2, hb.1.2⟩))
     have HG := Lib.hid (hK.blockAt HG.out ⟨⟨HNQ.out, by have h1 := HQ.out; have h2 := HGX.out; omega⟩, by have h1 := HQ.out; have h2 := HGX.out; have h3 := HG8.out; omega⟩)
     have HKN := Lib.hid (HKN.out.trans2 hK (fun b hb hd => ⟨⟨hd.2, by have h1 := hd.1; have h2 := HGX.out; omega⟩, by have h1 := hd.1; have h2 := HGX.out; have h3 := HG8.out; omega⟩))
     have HNN : Hid (New w wr) := Lib.hid (((HN1.out.imp (E := fun b => b < gb) fun _ _ _ => trivial).trans2 HKN.out (fun b hb hd => by have h1 := HQ.out; omega)).toNew (fun b hb => by rw [hgb] at hb; exact hb))
     have HRE := Lib.hid (rend_any _ q s7 wr hRd)
     have HPX := Lib.hid (pright_any _ _ P1 R1 L Pa A p1 r1 lc pc c ⟨h, (pl : Nat), lf, ps, ls⟩ wr (by rw [show (ProofP.mk h (pl : Nat) lf ps ls).path.length = k1 from HPL.out]; exact HO1.out) (by rw [show (ProofP.mk h (pl : Nat) lf ps ls).later.length = k from HLL.out]; exact HO2.out) (by show ps.length ≤ _; rw [HPL.out]; omega) (by show ls.length ≤ _; rw [HLL.out]; omega))
     have hpx := HPX.out
     dsimp only at hpx
     rw [HPL.out, HLL.out] at hpx
     have HPX := Lib.hid hpx
     clear hpx hO hRd hK hgr HK HR
     go_wp2_with fail
     refine HRE.out.mono ?_
     rintro e w' ⟨rfl, rfl⟩
     have HY : Hid (decodeOf bs = if s7.endOf = 0 ∧ rightProof ⟨h, (pl : Nat), lf, ps, ls⟩ = true then (⟨h, (pl : Nat), lf, ps, ls⟩, 0) else (noProof, 12)) := Lib.hid (by unfold decodeOf; rw [HDP.out])
     clear HRE HDP
     by_cases hwhy : s7.endOf = 0
     ·rw [hwhy]
      obtain ⟨x0, x1, x2, x3, x4, x5, x6, x7, x8, x9⟩ := cs10 HX.out
      rw [hwhy] at HY
      clear hwhy
      go_wp2_with fail
      clear x0 x1 x2 x3 x4 x5 x6 x7 x8 x9
      refine HPX.out.mono ?_
      rintro e wf ⟨rfl, kf⟩
      have HNF := Lib.hid (HNN.out.new kf)
      have HXf := Lib.hid (kf.blockAt HX.out trivial)
      have HGf := Lib.hid (kf.blockAt HG.out trivial)
      cases hri : rightProof ⟨h, (pl : Nat), lf, ps, ls⟩
      ·have HR : Hid (decodeOf bs = (noProof, 12)) := Lib.hid (by rw [HY.out, hri]; rfl)
       clear hri
       have hGc := HGf.out
       obtain ⟨d0, d1, d2, d3, d4, d5, d6, d7, d8, d9⟩ := cs10 hGc
       obtain ⟨z0, z1, z2, z3, z4, z5, z6, z7, z8, z9⟩ := fz10 hGc
       have HGc := Lib.hid hGc
       clear hGc
       go_wp2_with fail
       clear d0 z0 d1 z1 d2 z2 d3 z3 d4 z4 d5 z5 d6 z6 d7 z7 d8 z8 d9 z9
       have hE := set_ten HGc.out (.int .i64 0) (.int .u64 0) (.int .i64 0) (.int .i64 0) (.slice none 0 0) (.slice none 0 0) (.int .i64 0) (.slice none 0 0) (.slice none 0 0) (.slice none 0 0)
       have hKE := new_ten (g := gb) HNF.out (by rw [hgb]; exact Nat.le_refl _) (.int .i64 0) (.int .u64 0) (.int .i64 0) (.int .i64 0) (.slice none 0 0) (.slice none 0 0) (.int .i64 0) (.slice none 0 0) (.slice none 0 0) (.slice none 0 0)
       generalize hwE : World.setCell _ _ _ = wE at *
       obtain ⟨f0, f1, f2, f3, f4, f5, f6, f7, f8, f9⟩ := cs10 hE
       refine bodyPost_ret (v := .tuple #[.agg #[.int .i64 0, .int .u64 0, .int .i64 0, .int .i64 0, .slice none 0 0, .slice none 0 0, .int .i64 0, .slice none 0 0, .slice none 0 0, .slice none 0 0], .int .i64 12]) (by simp [results, Tryz.results28, go_sem, f0, f1, f2, f3, f4, f5, f6, f7, f8, f9]) rfl ?_
       rw [HR.out]
       exact ⟨⟨none, none, none, none, none, 0, 0, 0, 0, 0, rfl, ⟨Row.nil _ _ _ _, Row.nil _ _ _ _, Row.nil _ _ _ _, imgs_sl.2 (Sl.nil _ _ _ _), Nat.le_refl _, Nat.le_refl _, Nat.le_refl _, by decide, Nat.le_refl _, by decide, by decide, by decide⟩, Heads.nil _ _ _⟩, hKE⟩
      ·have HR : Hid (decodeOf bs = (⟨h, (pl : Nat), lf, ps, ls⟩, 0)) := Lib.hid (by rw [HY.out, hri]; rfl)
       clear hri
       obtain ⟨x0, x1, x2, x3, x4, x5, x6, x7, x8, x9⟩ := cs10 HXf.out
       obtain ⟨d0, d1, d2, d3, d4, d5, d6, d7, d8, d9⟩ := cs10 HGf.out
       obtain ⟨z0, z1, z2, z3, z4, z5, z6, z7, z8, z9⟩ := fz10 HGf.out
       go_wp2_with fail
       clear d0 z0 x0 d1 z1 x1 d2 z2 x2 d3 z3 x3 d4 z4 x4 d5 z5 x5 d6 z6 x6 d7 z7 x7 d8 z8 x8 d9 z9 x9
       have hE := set_ten HGf.out (.int .i64 h.index) (.int .u64 h.first) (.int .i64 h.count) (.int .i64 h.bytes) (.slice P1 h.prev.length p1) (.slice R1 h.root.length r1) (.int .i64 (pl : Nat)) (.slice L lf.length lc) (.slice Pa k1 pc) (.slice A k c)
       have kE := keep_ten wf gb (.int .i64 h.index) (.int .u64 h.first) (.int .i64 h.count) (.int .i64 h.bytes) (.slice P1 h.prev.length p1) (.slice R1 h.root.length r1) (.int .i64 (pl : Nat)) (.slice L lf.length lc) (.slice Pa k1 pc) (.slice A k c)
       have hKE := new_ten (g := gb) HNF.out (by rw [hgb]; exact Nat.le_refl _) (.int .i64 h.index) (.int .u64 h.first) (.int .i64 h.count) (.int .i64 h.bytes) (.slice P1 h.prev.length p1) (.slice R1 h.root.length r1) (.int .i64 (pl : Nat)) (.slice L lf.length lc) (.slice Pa k1 pc) (.slice A k c)
       generalize hwE : World.setCell _ _ _ = wE at *
       obtain ⟨f0, f1, f2, f3, f4, f5, f6, f7, f8, f9⟩ := cs10 hE
       refine bodyPost_ret (v := .tuple #[.agg #[.int .i64 h.index, .int .u64 h.first, .int .i64 h.count, .int .i64 h.bytes, .slice P1 h.prev.length p1, .slice R1 h.root.length r1, .int .i64 (pl : Nat), .slice L lf.length lc, .slice Pa k1 pc, .slice A k c], .int .i64 0]) (by simp [results, Tryz.results28, go_sem, f0, f1, f2, f3, f4, f5, f6, f7, f8, f9]) rfl ?_
       rw [HR.out]
       refine ⟨⟨P1, R1, L, Pa, A, p1, r1, lc, pc, c, by dsimp only; rw [HPL.out, HLL.out], ⟨?_, ?_, ?_, ?_, HCP.out.1, HCP.out.2, HLC.out.1, HLC.out.2, by show ps.length ≤ pc; rw [HPL.out]; exact HOC.out.1, HOC.out.2, HF.out.1, HF.out.2⟩, ?_⟩, hKE⟩
       ·exact ((Row.new HP.out kf).keep kE (fun b _ hb => by have := hb.1; show b ≠ gb; omega)).imp fun _ _ _ => trivial
       ·exact ((Row.new HR1.out kf).keep kE (fun b _ hb => by have := hb.1; show b ≠ gb; omega)).imp fun _ _ _ => trivial
       ·exact ((Row.new HL.out kf).keep kE (fun b _ hb => by have := hb.1; show b ≠ gb; omega)).imp fun _ _ _ => trivial
       ·show Imgs wE _ Pa ps.length ps
        rw [HPL.out]
        exact ((HO1.out.new kf).keep kE (fun b _ hb => by have := hb.1; show b ≠ gb; omega)).imp fun _ _ _ => trivial
       ·show Heads wE _ A ls.length ls
        rw [HLL.out]
        exact ((HO2.out.new kf).keep kE (fun b _ hb => by have := hb.1; show b ≠ gb; omega)).imp fun _ _ _ => trivial
     ·have hwb : (s7.endOf != 0) = true := by simpa using hwhy
      have HR : Hid (decodeOf bs = (noProof, 12)) := Lib.hid (by rw [HY.out, if_neg (fun h => hwhy h.1)])
      have HNF := Lib.hid HNN.out
      have hGc := HG.out
      obtain ⟨d0, d1, d2, d3, d4, d5, d6, d7, d8, d9⟩ := cs10 hGc
      obtain ⟨z0, z1, z2, z3, z4, z5, z6, z7, z8, z9⟩ := fz10 hGc
      have HGc := Lib.hid hGc
      clear hGc
      go_wp2_with fail
      clear d0 z0 d1 z1 d2 z2 d3 z3 d4 z4 d5 z5 d6 z6 d7 z7 d8 z8 d9 z9
      have hE := set_ten HGc.out (.int .i64 0) (.int .u64 0) (.int .i64 0) (.int .i64 0) (.slice none 0 0) (.slice none 0 0) (.int .i64 0) (.slice none 0 0) (.slice none 0 0) (.slice none 0 0)
      have hKE := new_ten (g := gb) HNF.out (by rw [hgb]; exact Nat.le_refl _) (.int .i64 0) (.int .u64 0) (.int .i64 0) (.int .i64 0) (.slice none 0 0) (.slice none 0 0) (.int .i64 0) (.slice none 0 0) (.slice none 0 0) (.slice none 0 0)
      generalize hwE : World.setCell _ _ _ = wE at *
      obtain ⟨f0, f1, f2, f3, f4, f5, f6, f7, f8, f9⟩ := cs10 hE
      refine bodyPost_ret (v := .tuple #[.agg #[.int .i64 0, .int .u64 0, .int .i64 0, .int .i64 0, .slice none 0 0, .slice none 0 0, .int .i64 0, .slice none 0 0, .slice none 0 0, .slice none 0 0], .int .i64 12]) (by simp [results, Tryz.results28, go_sem, f0, f1, f2, f3, f4, f5, f6, f7, f8, f9]) rfl ?_
      rw [HR.out]
      exact ⟨⟨none, none, none, none, none, 0, 0, 0, 0, 0, rfl, ⟨Row.nil _ _ _ _, Row.nil _ _ _ _, Row.nil _ _ _ _, imgs_sl.2 (Sl.nil _ _ _ _), Nat.le_refl _, Nat.le_refl _, Nat.le_refl _, by decide, Nat.le_refl _, by decide, by decide, by decide⟩, Heads.nil _ _ _⟩, hKE⟩
end Go.Proofs.YtfegdgaanmcecaaGreatDoor
