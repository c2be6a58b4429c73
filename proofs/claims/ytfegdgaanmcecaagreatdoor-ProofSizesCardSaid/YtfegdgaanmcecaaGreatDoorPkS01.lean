/-
  PROVED HERE: the law ProofSizes answers true; conditions: lengths that a slice may have.
-/
import Derived.Test.YtfegdgaanmcecaaGreatDoorPkT04
import Derived.Test.YtfegdgaanmcecaaGreatDoorPkT43
import Derived.Test.YtfegdgaanmcecaaGreatDoorPkS00
namespace Go.Proofs.YtfegdgaanmcecaaGreatDoor
open Go.RowKit
theorem chain_proof_seq (id : List UInt8) (l : List (List (List UInt8))) {n i : Nat} {s : Int} (h0 : (chainTo id l i).next ≤ s) : (chainProof id l n i s).head.first + (chainProof id l n i s).place = s := by
 show (chainTo id l i).next + (((s - (chainTo id l i).next).toNat : Nat) : Int) = s
 omega
theorem bytes_pos (p : ProofP) : 0 < (proofBytes p).length := by
 unfold proofBytes
 simp only [List.length_append, beI_length, headBytes_length]
 omega
theorem decode_pair {bs : List UInt8} (h : (decodeOf bs).2 = 12) : ∃ z, decodeOf bs = (z, 12) := ⟨_, Prod.ext rfl h⟩
set_option maxRecDepth 100000 in
set_option maxHeartbeats 8000000 in
theorem psizes_any (D2 D3 : Nat → Prop) (A2 X : Option Addr) (n2 c2 nx cx : Nat) (l : List (List (List UInt8))) (xs : List UInt8) (a b : Int) (w : World) (hR : Raws8 w D2 A2 n2 l) (hX : Bs w D3 X nx xs) (hn2 : n2 ≤ 9223372036854775807) (hxc : nx ≤ cx) (hx9 : nx ≤ 9223372036854775807) (ha0 : -9223372036854775808 ≤ a) (ha1 : a ≤ 9223372036854775807) (hb0 : -9223372036854775808 ≤ b) (hb1 : b ≤ 9223372036854775807) :
  Calls Tryz.prog 8 #[.slice A2 n2 c2, .int .i64 a, .int .i64 b, .slice X nx cx] w fun e w' => e = .returned (.bool true) ∧ New w w' := by
 have HCH := Lib.hid (chain24_any D2 A2 n2 c2 l w hR hn2)
 have HX := Lib.hid hX
 have hk6 : min n2 6 ≤ 6 := Nat.min_le_right _ _
 generalize min n2 6 = k at *
 have hok := chain_ok id24 l k (by omega)
 have hrl : (((chainTo id24 l k).recs.length : Nat) : Int) + 1 = (chainTo id24 l k).next := hok.recs
 have hq1 := hok.next1
 have HKN := Lib.hid known24_any
 have hil := hok.images
 have hhl := hok.heads
 have hr36 : (chainTo id24 l k).recs.length ≤ 36 := by omega
 clear hR hX
 by_cases hlt : (chainTo id24 l k).recs.length = 0
 ·generalize chainTo id24 l k = s at *
  clear hok hrl hq1 hil hhl hr36
  go_enter Tryz.func8, Tryz.ntmps8
  go_wp2_with fail
  refine HCH.out.mono ?_
  rintro e w1 ⟨⟨O, oc, H, hc, R, rc, rfl, -⟩, k1⟩
  rw [hlt]
  go_wp2_with fail
  refine (HKN.out w1).mono ?_
  rintro e w2 ⟨rfl, k2⟩
  go_wp2_with fail
  go_ret
  exact ⟨rfl, k1.new k2⟩
 ·obtain ⟨i, hi, hiv⟩ := mod_placeB a (chainTo id24 l k).recs.length (by omega)
  obtain ⟨j, hj, hjv⟩ := mod_placeB b (chainTo id24 l k).recs.length (by omega)
  have HWI : Hid (∀ W, Calls Tryz.prog 11 #[.int .i64 a, .int .i64 0, .int .i64 (((chainTo id24 l k).recs.length : Int) - 1)] W fun e w' => e = .returned (.int .i64 (i : Int)) ∧ W = w') := Lib.hid fun W => by
   have h := within_any a 0 (((chainTo id24 l k).recs.length : Int) - 1) W ha0 ha1 (by decide) (by omega) (by omega)
   rwa [hiv] at h
  have HWJ : Hid (∀ W, Calls Tryz.prog 11 #[.int .i64 b, .int .i64 0, .int .i64 (((chainTo id24 l k).recs.length : Int) - 1)] W fun e w' => e = .returned (.int .i64 (j : Int)) ∧ W = w') := Lib.hid fun W => by
   have h := within_any b 0 (((chainTo id24 l k).recs.length : Int) - 1) W hb0 hb1 (by decide) (by omega) (by omega)
   rwa [hjv] at h
  obtain ⟨i1, hi1, hi2, hi3⟩ := chain_find id24 l k ((i : Int) + 1) (by omega) (by omega)
  have hmi := chain_make_in id24 l (by omega) hi1 hi2 hi3
  have hgi := chain_good id24 l (n := k) (by omega) hi1 hi2 hi3
  have hsi := chain_proof_seq id24 l (n := k) hi2
  obtain ⟨j1, hj1, hj2, hj3⟩ := chain_find id24 l k ((j : Int) + 1) (by omega) (by omega)
  have hmj := chain_make_in id24 l (by omega) hj1 hj2 hj3
  have hgj := chain_good id24 l (n := k) (by omega) hj1 hj2 hj3
  have hsj := chain_proof_seq id24 l (n := k) hj2
  clear hi2 hi3 hj2 hj3 hiv hjv hok ha0 ha1 hb0 hb1
  have hbij : ((chainProof id24 l k i1 ((i : Int) + 1)) = (chainProof id24 l k j1 ((j : Int) + 1))) ↔ i = j := by
   constructor
   ·intro h; rw [h] at hsi; omega
   ·intro h; subst h
    have h1 := hmi.symm.trans hmj
    injection h1
  clear hsi hsj hi1 hj1
  generalize chainProof id24 l k i1 ((i : Int) + 1) = p at *
  generalize chainProof id24 l k j1 ((j : Int) + 1) = q at *
  generalize chainTo id24 l k = s at *
  generalize id24 = idv at *
  obtain ⟨im, he, al, pv, nxt⟩ := s
  dsimp only at hil hhl hlt hi hj hrl hq1 hmi hmj hr36 HWI HWJ
  have HEI : Hid (encodeOf p = (proofBytes p, 0)) := Lib.hid (by unfold encodeOf; rw [hgi.right]; rfl)
  have HMI := Lib.hid hmi
  have HPI : Hid (p.path.length ≤ 9223372036854775806 ∧ p.later.length ≤ 9223372036854775806) := Lib.hid ⟨by have := (right_parts hgi.right).2.1; omega, by have := (right_parts hgi.right).2.2.1; omega⟩
  have HEJ : Hid (encodeOf q = (proofBytes q, 0)) := Lib.hid (by unfold encodeOf; rw [hgj.right]; rfl)
  have HMJ := Lib.hid hmj
  have HPJ : Hid (q.path.length ≤ 9223372036854775806 ∧ q.later.length ≤ 9223372036854775806) := Lib.hid ⟨by have := (right_parts hgj.right).2.1; omega, by have := (right_parts hgj.right).2.2.1; omega⟩
  obtain ⟨zl, hzl⟩ := decode_pair (decode_less p hgi)
  obtain ⟨zm, hzm⟩ := decode_pair (decode_more p 0 hgi)
  have HDL := Lib.hid hzl
  have HDM := Lib.hid hzm
  have hbl := bytes_small hgi
  have hdl := bytes_small hgj
  have hbp := bytes_pos p
  have hcd : (proofBytes p == proofBytes q) = decide (i = j) := by
   rw [Bool.eq_iff_iff, beq_iff_eq, decide_eq_true_eq, ← hbij]
   exact ⟨bytes_inj hgi hgj, fun h => by rw [h]⟩
  have hij : ((i : Int) == (j : Int)) = decide (i = j) := by
   rw [Bool.eq_iff_iff, beq_iff_eq, decide_eq_true_eq]
   omega
  generalize decide (i = j) = dij at *
  have HIL := Lib.hid hil
  have HHL := Lib.hid hhl
  clear hmi hmj hzl hzm hgi hgj hbij hil hhl
  rw [List.dropLast_eq_take] at HDL
  generalize proofBytes p = pbs at *
  generalize proofBytes q = qbs at *
  have hwi1 : IntKind.i64.wrap ((i : Int) + 1) = (i : Int) + 1 := IntWalk.i64_in _ (by omega)
  have hwi3 : IntKind.u64.wrap ((i : Int) + 1) = (i : Int) + 1 := by rw [IntKind.wrap_u64]; omega
  have hwj1 : IntKind.i64.wrap ((j : Int) + 1) = (j : Int) + 1 := IntWalk.i64_in _ (by omega)
  have hwj3 : IntKind.u64.wrap ((j : Int) + 1) = (j : Int) + 1 := by rw [IntKind.wrap_u64]; omega
  have hw5 : IntKind.i64.wrap ((al.length : Int) - 1) = (al.length : Int) - 1 := IntWalk.i64_in _ (by omega)
  have hlz : ((al.length : Int) == 0) = false := by rw [beq_eq_false_iff_ne]; omega
  clear hrl hq1 hlt
  go_enter Tryz.func8, Tryz.ntmps8
  go_wp2_with fail
  refine HCH.out.mono ?_
  rintro e w1 ⟨⟨O, oc, H, hc, R, rc, rfl, ht⟩, k1⟩
  dsimp only at ht ⊢
  rw [HIL.out, HHL.out] at ht ⊢
  have HI := Lib.hid ht.imgs.imgs
  have HK := Lib.hid k1
  have HX := Lib.hid (Row.new HX.out k1)
  clear ht k1 HCH
  generalize hrlq : al.length = rl at *
  clear hrlq
  go_wp2_with fail
  refine (HWI.out w1).mono ?_
  rintro e w' ⟨rfl, rfl⟩
  go_wp2_with fail
  refine (HWJ.out w1).mono ?_
  rintro e w' ⟨rfl, rfl⟩
  go_wp2_with fail
  have hM := make_any _ O k oc im ((i : Int) + 1) w1 HI.out (by omega)
  rw [HMI.out] at hM
  refine hM.mono ?_
  rintro e w2 ⟨⟨P1, R1, L1, Pa1, La1, p1, r1, lc1, pc1, lac1, rfl, hp, ho⟩, kk⟩
  dsimp only at hp ho ⊢
  replace ho := ho.heads
  clear hM
  have kX := kk.alloc (.cells #[.int .i64 p.head.index, .int .u64 p.head.first, .int .i64 p.head.count, .int .i64 p.head.bytes, .slice P1 p.head.prev.length p1, .slice R1 p.head.root.length r1, .int .i64 p.place, .slice L1 p.leaf.length lc1, .slice Pa1 p.path.length pc1, .slice La1 p.later.length lac1] 36)
  have hXX := heap_alloc_new w2 (.cells #[.int .i64 p.head.index, .int .u64 p.head.first, .int .i64 p.head.count, .int .i64 p.head.bytes, .slice P1 p.head.prev.length p1, .slice R1 p.head.root.length r1, .int .i64 p.place, .slice L1 p.leaf.length lc1, .slice Pa1 p.path.length pc1, .slice La1 p.later.length lac1] 36)
  have HP1 := Lib.hid ((hp.imp (E := fun _ => True) fun _ _ _ => trivial).new ((New.refl w2).alloc (.cells #[.int .i64 p.head.index, .int .u64 p.head.first, .int .i64 p.head.count, .int .i64 p.head.bytes, .slice P1 p.head.prev.length p1, .slice R1 p.head.root.length r1, .int .i64 p.place, .slice L1 p.leaf.length lc1, .slice Pa1 p.path.length pc1, .slice La1 p.later.length lac1] 36)))
  have HO1 := Lib.hid ((ho.imp (E := fun _ => True) fun _ _ _ => trivial).new ((New.refl w2).alloc (.cells #[.int .i64 p.head.index, .int .u64 p.head.first, .int .i64 p.head.count, .int .i64 p.head.bytes, .slice P1 p.head.prev.length p1, .slice R1 p.head.root.length r1, .int .i64 p.place, .slice L1 p.leaf.length lc1, .slice Pa1 p.path.length pc1, .slice La1 p.later.length lac1] 36)))
  have HI := Lib.hid (HI.out.new kX)
  have HX := Lib.hid (Row.new HX.out kX)
  have HK := Lib.hid (HK.out.new kX)
  obtain ⟨x0, x1, x2, x3, x4, x5, x6, x7, x8, x9⟩ := cs10 hXX
  have HX1 := Lib.hid hXX
  clear hp ho kk kX hXX
  go_wp2_with fail
  clear x0 x1 x2 x3 x4 x5 x6 x7 x8 x9
  generalize w2.alloc (.cells #[.int .i64 p.head.index, .int .u64 p.head.first, .int .i64 p.head.count, .int .i64 p.head.bytes, .slice P1 p.head.prev.length p1, .slice R1 p.head.root.length r1, .int .i64 p.place, .slice L1 p.leaf.length lc1, .slice Pa1 p.path.length pc1, .slice La1 p.later.length lac1] 36) = w3 at *
  generalize w2.heap.size = g1 at *
  have hM := make_any _ O k oc im ((j : Int) + 1) w3 HI.out (by omega)
  rw [HMJ.out] at hM
  refine hM.mono ?_
  rintro e w4 ⟨⟨P2, R2, L2, Pa2, La2, p2, r2, lc2, pc2, lac2, rfl, hp, ho⟩, kk⟩
  dsimp only at hp ho ⊢
  replace ho := ho.heads
  clear hM HI
  have kX := kk.alloc (.cells #[.int .i64 q.head.index, .int .u64 q.head.first, .int .i64 q.head.count, .int .i64 q.head.bytes, .slice P2 q.head.prev.length p2, .slice R2 q.head.root.length r2, .int .i64 q.place, .slice L2 q.leaf.length lc2, .slice Pa2 q.path.length pc2, .slice La2 q.later.length lac2] 36)
  have hXX := heap_alloc_new w4 (.cells #[.int .i64 q.head.index, .int .u64 q.head.first, .int .i64 q.head.count, .int .i64 q.head.bytes, .slice P2 q.head.prev.length p2, .slice R2 q.head.root.length r2, .int .i64 q.place, .slice L2 q.leaf.length lc2, .slice Pa2 q.path.length pc2, .slice La2 q.later.length lac2] 36)
  have HP2 := Lib.hid ((hp.imp (E := fun _ => True) fun _ _ _ => trivial).new ((New.refl w4).alloc (.cells #[.int .i64 q.head.index, .int .u64 q.head.first, .int .i64 q.head.count, .int .i64 q.head.bytes, .slice P2 q.head.prev.length p2, .slice R2 q.head.root.length r2, .int .i64 q.place, .slice L2 q.leaf.length lc2, .slice Pa2 q.path.length pc2, .slice La2 q.later.length lac2] 36)))
  have HO2 := Lib.hid ((ho.imp (E := fun _ => True) fun _ _ _ => trivial).new ((New.refl w4).alloc (.cells #[.int .i64 q.head.index, .int .u64 q.head.first, .int .i64 q.head.count, .int .i64 q.head.bytes, .slice P2 q.head.prev.length p2, .slice R2 q.head.root.length r2, .int .i64 q.place, .slice L2 q.leaf.length lc2, .slice Pa2 q.path.length pc2, .slice La2 q.later.length lac2] 36)))
  have HX := Lib.hid (Row.new HX.out kX)
  have HK := Lib.hid (HK.out.new kX)
  have HP1 := Lib.hid (HP1.out.new kX)
  have HO1 := Lib.hid (HO1.out.new kX)
  have HX1 := Lib.hid (kX.blockAt HX1.out trivial)
  obtain ⟨x0, x1, x2, x3, x4, x5, x6, x7, x8, x9⟩ := cs10 hXX
  have HX2 := Lib.hid hXX
  clear hp ho kk kX hXX
  go_upto_region 7 with fail
  clear x0 x1 x2 x3 x4 x5 x6 x7 x8 x9
  generalize w4.alloc (.cells #[.int .i64 q.head.index, .int .u64 q.head.first, .int .i64 q.head.count, .int .i64 q.head.bytes, .slice P2 q.head.prev.length p2, .slice R2 q.head.root.length r2, .int .i64 q.place, .slice L2 q.leaf.length lc2, .slice Pa2 q.path.length pc2, .slice La2 q.later.length lac2] 36) = w5 at *
  generalize w4.heap.size = g2 at *
  have hE := pencode_any _ _ P1 R1 L1 Pa1 La1 p1 r1 lc1 pc1 lac1 p w5 HP1.out HO1.out HPI.out.1 HPI.out.2
  rw [HEI.out] at hE
  dsimp only at hE
  have HEC := Lib.hid hE
  clear hE
  obtain ⟨x0, x1, x2, x3, x4, x5, x6, x7, x8, x9⟩ := cs10 HX1.out
  go_wp2_with fail
  clear x0 x1 x2 x3 x4 x5 x6 x7 x8 x9
  refine HEC.out.mono ?_
  rintro e w6 ⟨⟨B, bc, rfl, hB⟩, kk⟩
  have HX := Lib.hid (Row.new HX.out kk)
  have HK := Lib.hid (HK.out.new kk)
  have HP2 := Lib.hid (HP2.out.new kk)
  have HO2 := Lib.hid (HO2.out.new kk)
  have HX2 := Lib.hid (kk.blockAt HX2.out trivial)
  clear HEC
  have hbc : (pbs.length : Int) ≤ bc := by have := own_cap hB; omega
  have HBS := Lib.hid (Row.of_own hB)
  clear hB kk HP1 HO1 HX1
  have hE := pencode_any _ _ P2 R2 L2 Pa2 La2 p2 r2 lc2 pc2 lac2 q w6 HP2.out HO2.out HPJ.out.1 HPJ.out.2
  rw [HEJ.out] at hE
  dsimp only at hE
  have HEC := Lib.hid hE
  clear hE
  obtain ⟨x0, x1, x2, x3, x4, x5, x6, x7, x8, x9⟩ := cs10 HX2.out
  go_wp2_with fail
  clear x0 x1 x2 x3 x4 x5 x6 x7 x8 x9
  refine HEC.out.mono ?_
  rintro e w7 ⟨⟨C, cc, rfl, hB⟩, kk⟩
  have HX := Lib.hid (Row.new HX.out kk)
  have HK := Lib.hid (HK.out.new kk)
  have HBS := Lib.hid (Row.new HBS.out kk)
  clear HEC
  have HCS := Lib.hid (Row.of_own hB)
  clear hB kk HP2 HO2 HX2
  have hr1 := run_str (c := bc) HBS.out
  have hr2 := run_str (c := cc) HCS.out
  have hpz : ((pbs.length : Int) == 0) = false := by rw [beq_eq_false_iff_ne]; omega
  have hwp : IntKind.i64.wrap ((pbs.length : Int) - 1) = (pbs.length : Int) - 1 := IntWalk.i64_in _ (by omega)
  have hcast : ((pbs.length : Int) - 1) = ((pbs.length - 1 : Nat) : Int) := by omega
  have hle1 : ((pbs.length - 1 : Nat) : Int) ≤ bc := by omega
  rw [hcast] at hwp
  generalize hpl : pbs.length = pl at *
  go_upto_region 11 with fail
  clear hr1 hr2 HCS
  go_wp2_with fail
  have hD := pdecode_any _ B (pl - 1) bc _ w7 (Bs.cutTo HBS.out (by omega)) (by omega)
  rw [HDL.out] at hD
  refine hD.mono ?_
  rintro e w8 ⟨⟨P3, R3, L3, Pa3, La3, p3, r3, lc3, pc3, lac3, rfl, hp, ho⟩, kk⟩
  dsimp only at hp ho ⊢
  clear hD HDL
  have kX := kk.alloc (.cells #[.int .i64 zl.head.index, .int .u64 zl.head.first, .int .i64 zl.head.count, .int .i64 zl.head.bytes, .slice P3 zl.head.prev.length p3, .slice R3 zl.head.root.length r3, .int .i64 zl.place, .slice L3 zl.leaf.length lc3, .slice Pa3 zl.path.length pc3, .slice La3 zl.later.length lac3] 36)
  have hXX := heap_alloc_new w8 (.cells #[.int .i64 zl.head.index, .int .u64 zl.head.first, .int .i64 zl.head.count, .int .i64 zl.head.bytes, .slice P3 zl.head.prev.length p3, .slice R3 zl.head.root.length r3, .int .i64 zl.place, .slice L3 zl.leaf.length lc3, .slice Pa3 zl.path.length pc3, .slice La3 zl.later.length lac3] 36)
  have HX := Lib.hid (Row.new HX.out kX)
  have HK := Lib.hid (HK.out.new kX)
  have HBS := Lib.hid (Row.new HBS.out kX)
  obtain ⟨x0, x1, x2, x3, x4, x5, x6, x7, x8, x9⟩ := cs10 hXX
  clear hp ho kk kX hXX
  go_upto_region 12 with fail
  clear x0 x1 x2 x3 x4 x5 x6 x7 x8 x9
  generalize w8.alloc (.cells #[.int .i64 zl.head.index, .int .u64 zl.head.first, .int .i64 zl.head.count, .int .i64 zl.head.bytes, .slice P3 zl.head.prev.length p3, .slice R3 zl.head.root.length r3, .int .i64 zl.place, .slice L3 zl.leaf.length lc3, .slice Pa3 zl.path.length pc3, .slice La3 zl.later.length lac3] 36) = w9 at *
  have hoA : OwnB (w9.alloc (.cells #[] 5)) w9.heap.size 5 (some ⟨w9.heap.size, 0, none⟩) 0 0 [] := World.ownsRow_made w9 #[] 0 (Nat.le_refl _) (by decide) rfl
  have hsA : w9.heap.size ≤ (w9.alloc (.cells #[] 5)).heap.size := by simp
  have hbA := Row.alloc HBS.out (.cells #[] 5)
  have hpls : 0 + pl ≤ 140737488355328 := by omega
  have hpls1 : pl + 1 ≤ 140737488355328 := by omega
  go_wp2_with (first
   | (at_builtin; refine app_bytes _ rfl _ _ rfl w9.heap.size _ 0 0 [] rfl hoA _ B pl bc pbs rfl hbA hpls hsA ?_; intro A10 c10 w10 o10 g10 q10; rw [Nat.zero_add] at o10; have hz10 := bs_one w10 5 0 _ rfl; have o10b := o10.alloc (.cells #[.int .u8 0] 5); have hN10 : w9.heap.size ≤ (w10.alloc (.cells #[.int .u8 0] 5)).heap.size := Nat.le_trans (Nat.le_trans hsA g10.size) ((New.refl w10).alloc _).size)
   | (at_builtin; refine app_bytes _ rfl _ _ rfl w9.heap.size A10 pl c10 _ rfl o10b _ _ 1 1 [0] rfl hz10 hpls1 hN10 ?_; intro A11 c11 w11 o11 g11 q11))
  have k10 : New w9 w10 := ((New.refl w9).alloc _).grown g10 (fun k hk _ => (own_lt hoA k hk).1)
  have k11 : New w9 w11 := (k10.alloc (.cells #[.int .u8 0] 5)).grown g11 (fun k hk _ => (own_lt o10 k hk).1)
  have HX := Lib.hid (Row.new HX.out k11)
  have HK := Lib.hid (HK.out.new k11)
  have hD := pdecode_any _ A11 _ c11 _ w11 (Row.of_own o11) (by omega)
  rw [List.nil_append, HDM.out] at hD
  clear q10 q11 hz10 o10 o10b g10 g11 k10 k11 hN10 hoA hsA hbA hpls hpls1 o11 HBS HDM
  refine hD.mono ?_
  rintro e w12 ⟨⟨P4, R4, L4, Pa4, La4, p4, r4, lc4, pc4, lac4, rfl, hp, ho⟩, kk⟩
  dsimp only at hp ho ⊢
  clear hD
  have kX := kk.alloc (.cells #[.int .i64 zm.head.index, .int .u64 zm.head.first, .int .i64 zm.head.count, .int .i64 zm.head.bytes, .slice P4 zm.head.prev.length p4, .slice R4 zm.head.root.length r4, .int .i64 zm.place, .slice L4 zm.leaf.length lc4, .slice Pa4 zm.path.length pc4, .slice La4 zm.later.length lac4] 36)
  have hXX := heap_alloc_new w12 (.cells #[.int .i64 zm.head.index, .int .u64 zm.head.first, .int .i64 zm.head.count, .int .i64 zm.head.bytes, .slice P4 zm.head.prev.length p4, .slice R4 zm.head.root.length r4, .int .i64 zm.place, .slice L4 zm.leaf.length lc4, .slice Pa4 zm.path.length pc4, .slice La4 zm.later.length lac4] 36)
  have HX := Lib.hid (Row.new HX.out kX)
  have HK := Lib.hid (HK.out.new kX)
  obtain ⟨x0, x1, x2, x3, x4, x5, x6, x7, x8, x9⟩ := cs10 hXX
  clear hp ho kk kX hXX
  go_wp2_with fail
  clear x0 x1 x2 x3 x4 x5 x6 x7 x8 x9
  generalize w12.alloc (.cells #[.int .i64 zm.head.index, .int .u64 zm.head.first, .int .i64 zm.head.count, .int .i64 zm.head.bytes, .slice P4 zm.head.prev.length p4, .slice R4 zm.head.root.length r4, .int .i64 zm.place, .slice L4 zm.leaf.length lc4, .slice Pa4 zm.path.length pc4, .slice La4 zm.later.length lac4] 36) = w13 at *
  have hm := cut_any X nx cx 300 xs _ w13 HX.out hx9 hxc (by decide)
  refine hm.mono ?_
  rintro e w' ⟨rfl, rfl⟩
  clear hm
  have HXC := Lib.hid (Bs.cutTo HX.out (Nat.min_le_left nx 300))
  have hxl := HXC.out.len
  have hx3 : min nx 300 ≤ 300 := Nat.min_le_right _ _
  generalize xs.take (min nx 300) = ys at *
  generalize min nx 300 = ny at *
  subst hxl
  clear HX hx9
  go_wp2_with fail
  obtain ⟨d, e, hde⟩ : ∃ d e, decodeOf ys = (d, e) := ⟨_, _, rfl⟩
  have HDE := Lib.hid hde
  clear hde
  have hD := pdecode_any _ X ys.length cx ys w13 HXC.out (by omega)
  rw [HDE.out] at hD
  refine hD.mono ?_
  rintro e5 w14 ⟨⟨P5, R5, L5, Pa5, La5, p5, r5, lc5, pc5, lac5, rfl, hp, ho⟩, kk⟩
  dsimp only at hp ho ⊢
  clear hD
  have kX := kk.alloc (.cells #[.int .i64 d.head.index, .int .u64 d.head.first, .int .i64 d.head.count, .int .i64 d.head.bytes, .slice P5 d.head.prev.length p5, .slice R5 d.head.root.length r5, .int .i64 d.place, .slice L5 d.leaf.length lc5, .slice Pa5 d.path.length pc5, .slice La5 d.later.length lac5] 36)
  have hXX := heap_alloc_new w14 (.cells #[.int .i64 d.head.index, .int .u64 d.head.first, .int .i64 d.head.count, .int .i64 d.head.bytes, .slice P5 d.head.prev.length p5, .slice R5 d.head.root.length r5, .int .i64 d.place, .slice L5 d.leaf.length lc5, .slice Pa5 d.path.length pc5, .slice La5 d.later.length lac5] 36)
  have HP5 := Lib.hid ((hp.imp (E := fun _ => True) fun _ _ _ => trivial).new ((New.refl w14).alloc (.cells #[.int .i64 d.head.index, .int .u64 d.head.first, .int .i64 d.head.count, .int .i64 d.head.bytes, .slice P5 d.head.prev.length p5, .slice R5 d.head.root.length r5, .int .i64 d.place, .slice L5 d.leaf.length lc5, .slice Pa5 d.path.length pc5, .slice La5 d.later.length lac5] 36)))
  have HO5 := Lib.hid ((ho.imp (E := fun _ => True) fun _ _ _ => trivial).new ((New.refl w14).alloc (.cells #[.int .i64 d.head.index, .int .u64 d.head.first, .int .i64 d.head.count, .int .i64 d.head.bytes, .slice P5 d.head.prev.length p5, .slice R5 d.head.root.length r5, .int .i64 d.place, .slice L5 d.leaf.length lc5, .slice Pa5 d.path.length pc5, .slice La5 d.later.length lac5] 36)))
  have HXC := Lib.hid (Row.new HXC.out kX)
  have HK := Lib.hid (HK.out.new kX)
  obtain ⟨x0, x1, x2, x3, x4, x5, x6, x7, x8, x9⟩ := cs10 hXX
  have HX5 := Lib.hid hXX
  clear hp ho kk kX hXX
  go_upto_region 15 with fail
  clear x0 x1 x2 x3 x4 x5 x6 x7 x8 x9
  generalize w14.alloc (.cells #[.int .i64 d.head.index, .int .u64 d.head.first, .int .i64 d.head.count, .int .i64 d.head.bytes, .slice P5 d.head.prev.length p5, .slice R5 d.head.root.length r5, .int .i64 d.place, .slice L5 d.leaf.length lc5, .slice Pa5 d.path.length pc5, .slice La5 d.later.length lac5] 36) = w15 at *
  generalize w14.heap.size = g5 at *
  by_cases he : e = 0
  ·subst he
   have hok := decode_good (bs := ys) (by rw [HDE.out])
   rw [HDE.out] at hok
   dsimp only at hok
   have HEY : Hid (encodeOf d = (ys, 0)) := Lib.hid (by unfold encodeOf; rw [hok.1.right, hok.2]; rfl)
   have HPY : Hid (d.path.length ≤ 9223372036854775806 ∧ d.later.length ≤ 9223372036854775806) := Lib.hid ⟨by have := (right_parts hok.1.right).2.1; omega, by have := (right_parts hok.1.right).2.2.1; omega⟩
   clear hok
   have hE := pencode_any _ _ P5 R5 L5 Pa5 La5 p5 r5 lc5 pc5 lac5 d w15 HP5.out HO5.out HPY.out.1 HPY.out.2
   rw [HEY.out] at hE
   dsimp only at hE
   have HEC := Lib.hid hE
   clear hE
   obtain ⟨x0, x1, x2, x3, x4, x5, x6, x7, x8, x9⟩ := cs10 HX5.out
   go_wp2_with fail
   clear x0 x1 x2 x3 x4 x5 x6 x7 x8 x9
   refine HEC.out.mono ?_
   rintro e w16 ⟨⟨Y, yc, rfl, hB⟩, kk⟩
   have HXC := Lib.hid (Row.new HXC.out kk)
   have HK := Lib.hid (HK.out.new kk)
   clear HEC
   have hr1 := run_str (c := yc) (Row.of_own hB)
   have hr2 := run_str (c := cx) HXC.out
   clear hB kk HP5 HO5 HX5
   go_wp2_with fail
   refine (HKN.out _).mono ?_
   rintro e w17 ⟨rfl, k17⟩
   clear hr1 hr2
   go_wp2_with fail
   go_ret
   exact ⟨rfl, HK.out.new k17⟩
  ·have hez : (e == 0) = false := by rw [beq_eq_false_iff_ne]; exact he
   clear HP5 HO5 HX5
   go_wp2_with fail
   refine (HKN.out _).mono ?_
   rintro e6 w17 ⟨rfl, k17⟩
   go_wp2_with fail
   go_ret
   exact ⟨rfl, HK.out.new k17⟩
end Go.Proofs.YtfegdgaanmcecaaGreatDoor
