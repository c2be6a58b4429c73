/-
  PROVED HERE: the law ProofTells answers true; conditions: lengths that a slice may have.
-/
import Derived.Test.YtfegdgaanmcecaaGreatDoorPkT04
import Derived.Test.YtfegdgaanmcecaaGreatDoorPkT24
import Derived.Test.YtfegdgaanmcecaaGreatDoorPkT43
import Derived.Test.YtfegdgaanmcecaaGreatDoorPkT45
import Derived.Test.YtfegdgaanmcecaaGreatDoorPkT47
namespace Go.Proofs.YtfegdgaanmcecaaGreatDoor
open Go.RowKit
theorem imgs_set {w : World} {D : Nat → Prop} {A : Option Addr} {n : Nat} {vs : List Value} {ls : List (List UInt8)} {j : Nat} {Q : Option Addr} {c' : Nat} {y : List UInt8} (hrow : Row w D A n 1 (vs.set j (.slice Q y.length c'))) (hl : ls.length = n) (hvl : vs.length = n) (h : ∀ k (h : k < ls.length), k ≠ j → ImgAt w D vs k ls[k]) (hj : j < n) (hyc : y.length ≤ c') (hc9 : c' ≤ 9223372036854775807) (hb : Bs w D Q y.length y) : Imgs w D A n (ls.set j y) := by
 refine ⟨_, hrow, by rw [List.length_set]; exact hl, fun k hk => ?_⟩
 rw [List.length_set] at hk
 by_cases hkj : k = j
 ·subst hkj
  rw [List.getElem_set_self]
  exact ⟨Q, c', by rw [List.getElem?_set_self (by omega)], hyc, hc9, hb⟩
 ·rw [List.getElem_set_ne (fun e => hkj e.symm)]
  obtain ⟨A', c2, e, r⟩ := h k hk hkj
  exact ⟨A', c2, by rw [List.getElem?_set_ne (fun e => hkj e.symm)]; exact e, r⟩
theorem pbytes_pos (p : ProofP) : 0 < (proofBytes p).length := by
 unfold proofBytes
 simp only [List.length_append, beI_length, headBytes_length]
 omega
theorem seek_later (s : Int) : ∀ (hs : List HeadP) (rss : List (List RecP)) (p : ProofP), seekIn s hs rss = some p → p.later.length ≤ hs.length
 | [], _, p, h => by simp [seekIn] at h
 | _ :: _, [], p, h => by simp [seekIn] at h
 | h :: hs, rs :: rss, p, hp => by
  rw [seekIn] at hp
  split at hp
  ·injection hp with hp
   subst hp
   show hs.length ≤ _
   simp
  ·have := seek_later s hs rss p hp
   simp only [List.length_cons]
   omega
theorem makeOf_later (ls : List (List UInt8)) (s : Int) : (makeOf ls s).1.later.length ≤ ls.length := by
 unfold makeOf
 split
 ·exact Nat.zero_le _
 ·rename_i hs rss hg
  have hl := (gather_lens ls none (hs, rss) hg).1
  split
  ·exact Nat.zero_le _
  ·rename_i p hp
   have := seek_later s hs rss p hp
   dsimp only at hl ⊢
   omega
theorem chain_any (id : List UInt8) (l : List (List (List UInt8))) {n : Nat} (hn : n ≤ 1000) (s : Int) : ∃ p why, makeOf (chainTo id l n).images s = (p, why) ∧ p.later.length ≤ 1000000 ∧ (why = 0 → GoodP p ∧ rightProof p = true ∧ 0 < n) := by
 by_cases h : s < 1 ∨ (chainTo id l n).next ≤ s
 ·exact ⟨noProof, 20, chain_make_out id l hn h, by decide, fun h => absurd h (by decide)⟩
 ·obtain ⟨i, hi, h0, h1⟩ := chain_find id l n s (by omega) (by omega)
  have hg := chain_good id l hn hi h0 h1
  exact ⟨_, 0, chain_make_in id l hn hi h0 h1, by have := (right_parts hg.right).2.2.1; omega, fun _ => ⟨hg, hg.right, by omega⟩⟩
set_option maxRecDepth 100000 in
set_option maxHeartbeats 8000000 in
theorem ptells_any (D2 D5 : Nat → Prop) (A2 X : Option Addr) (n2 c2 nx cx : Nat) (l : List (List (List UInt8))) (xs : List UInt8) (s a hw : Int) (turn : UInt8) (w : World) (hR : Raws8 w D2 A2 n2 l) (hX : Bs w D5 X nx xs) (hn2 : n2 ≤ 9223372036854775807) (hxc : nx ≤ cx) (hx9 : cx ≤ 9223372036854775807) (hs0 : 0 ≤ s) (_hs1 : s ≤ 18446744073709551615) (ha0 : -9223372036854775808 ≤ a) (ha1 : a ≤ 9223372036854775807) (hb0 : -9223372036854775808 ≤ hw) (hb1 : hw ≤ 9223372036854775807) :
  Calls Tryz.prog 6 #[.slice A2 n2 c2, .int .u64 s, .int .i64 a, .int .u8 (bv turn), .int .i64 hw, .slice X nx cx] w fun e w' => e = .returned (.bool true) ∧ New w w' := by
 have HCH := Lib.hid (chain24_any D2 A2 n2 c2 l w hR hn2)
 have HX := Lib.hid hX
 have hk6 : min n2 6 ≤ 6 := Nat.min_le_right _ _
 generalize min n2 6 = k at *
 have hok := chain_ok id24 l k (by omega)
 have hrl : (((chainTo id24 l k).recs.length : Nat) : Int) + 1 = (chainTo id24 l k).next := hok.recs
 have HID := Lib.hid id24_any
 have HKN := Lib.hid known24_any
 have HSI := Lib.hid hok.sizes
 have hil := hok.images
 have hhl := hok.heads
 have hr36 : (chainTo id24 l k).recs.length ≤ 36 := by have := hok.next1; omega
 obtain ⟨p, why, hmk, hlater, hcase⟩ := chain_any id24 l (n := k) (by omega) (s % (((chainTo id24 l k).recs.length : Nat) + 2))
 clear hR hX hok hrl
 generalize chainTo id24 l k = st at *
 generalize id24 = idv at *
 obtain ⟨im, he, al, pv, nxt⟩ := st
 dsimp only at hil hhl hr36 hmk HSI
 have hw2 : IntKind.i64.wrap ((al.length : Int) + 2) = (al.length : Int) + 2 := IntWalk.i64_in _ (by omega)
 have hw3 : IntKind.u64.wrap ((al.length : Int) + 2) = (al.length : Int) + 2 := by rw [IntKind.wrap_u64]; omega
 have hne : ((al.length : Int) + 2 == 0) = false := by rw [beq_eq_false_iff_ne]; omega
 have htm : s.tmod ((al.length : Int) + 2) = s % ((al.length : Int) + 2) := Int.tmod_eq_emod_of_nonneg hs0
 have hnz : ¬ ((al.length : Int) + 2 = 0) := by omega
 have HMK := Lib.hid hmk
 have HLT := Lib.hid hlater
 have HCA := Lib.hid hcase
 have HIL := Lib.hid hil
 have HHL := Lib.hid hhl
 have hsm0 : 0 ≤ s % ((al.length : Int) + 2) := Int.emod_nonneg _ hnz
 have hsm1 : s % ((al.length : Int) + 2) < (al.length : Int) + 2 := Int.emod_lt_of_pos _ (by omega)
 have hw4 : IntKind.u64.wrap (s % ((al.length : Int) + 2)) = s % ((al.length : Int) + 2) := by rw [IntKind.wrap_u64]; omega
 clear hmk hlater hcase hil hhl
 go_enter Tryz.func6, Tryz.ntmps6
 go_wp2_with fail
 refine HCH.out.mono ?_
 rintro e w1 ⟨⟨O, oc, H, hc, R, rc, rfl, ht⟩, k1⟩
 dsimp only at ht ⊢
 rw [HIL.out, HHL.out] at ht ⊢
 have HI := Lib.hid ht.imgs
 have HE := Lib.hid (ht.heads.heads.imp (E := fun _ => True) fun _ _ _ => trivial)
 have HK := Lib.hid k1
 have HX := Lib.hid (Row.new HX.out k1)
 clear ht k1 HCH
 generalize hrlq : al.length = rl at *
 clear hrlq
 go_upto_region 3 with fail
 clear hw2 hw3 hne htm hnz hw4 hsm0 hsm1
 generalize s % ((rl : Int) + 2) = sq at *
 have hM := make_any _ O k oc im sq w1 HI.out.imgs (by omega)
 rw [HMK.out] at hM
 have HM := Lib.hid hM
 have hN := fun W (hW : New w1 W) => make24_any _ O k oc im sq W (HI.out.new hW).imgs (by omega)
 rw [HMK.out] at hN
 have HM2 := Lib.hid hN
 clear hM hN
 go_wp2_with fail
 refine HM.out.mono ?_
 rintro e w2 ⟨⟨P1, R1, L1, Pa1, La1, p1, r1, lc1, pc1, lac1, rfl, hp, ho⟩, kk⟩
 dsimp only at hp ho ⊢
 have kX := kk.alloc (.cells #[.int .i64 p.head.index, .int .u64 p.head.first, .int .i64 p.head.count, .int .i64 p.head.bytes, .slice P1 p.head.prev.length p1, .slice R1 p.head.root.length r1, .int .i64 p.place, .slice L1 p.leaf.length lc1, .slice Pa1 p.path.length pc1, .slice La1 p.later.length lac1] 36)
 have kA := (New.refl w2).alloc (.cells #[.int .i64 p.head.index, .int .u64 p.head.first, .int .i64 p.head.count, .int .i64 p.head.bytes, .slice P1 p.head.prev.length p1, .slice R1 p.head.root.length r1, .int .i64 p.place, .slice L1 p.leaf.length lc1, .slice Pa1 p.path.length pc1, .slice La1 p.later.length lac1] 36)
 have hXX := heap_alloc_new w2 (.cells #[.int .i64 p.head.index, .int .u64 p.head.first, .int .i64 p.head.count, .int .i64 p.head.bytes, .slice P1 p.head.prev.length p1, .slice R1 p.head.root.length r1, .int .i64 p.place, .slice L1 p.leaf.length lc1, .slice Pa1 p.path.length pc1, .slice La1 p.later.length lac1] 36)
 have HP1 := Lib.hid ((hp.imp (E := fun _ => True) fun _ _ _ => trivial).new kA)
 have HO1 := Lib.hid ((ho.heads.imp (E := fun _ => True) fun _ _ _ => trivial).new kA)
 have HI := Lib.hid (HI.out.new kX)
 have HE := Lib.hid (HE.out.new kX)
 have HX := Lib.hid (Row.new HX.out kX)
 have HK := Lib.hid (HK.out.new kX)
 have HX1 := Lib.hid hXX
 have HM2 := Lib.hid (HM2.out _ kX)
 clear hp ho kk kX kA hXX HM
 go_upto_region 4 with fail
 generalize w2.alloc (.cells #[.int .i64 p.head.index, .int .u64 p.head.first, .int .i64 p.head.count, .int .i64 p.head.bytes, .slice P1 p.head.prev.length p1, .slice R1 p.head.root.length r1, .int .i64 p.place, .slice L1 p.leaf.length lc1, .slice Pa1 p.path.length pc1, .slice La1 p.later.length lac1] 36) = w3 at *
 generalize w2.heap.size = g1 at *
 go_wp2_with fail
 refine HM2.out.mono ?_
 rintro e w4 ⟨⟨P2, R2, L2, Pa2, La2, p2, r2, lc2, pc2, lac2, rfl, hp, ho⟩, kk⟩
 dsimp only at hp ho ⊢
 have kX := kk.alloc (.cells #[.int .i64 p.head.index, .int .u64 p.head.first, .int .i64 p.head.count, .int .i64 p.head.bytes, .slice P2 p.head.prev.length p2, .slice R2 p.head.root.length r2, .int .i64 p.place, .slice L2 p.leaf.length lc2, .slice Pa2 p.path.length pc2, .slice La2 p.later.length lac2] 50)
 have kA := (New.refl w4).alloc (.cells #[.int .i64 p.head.index, .int .u64 p.head.first, .int .i64 p.head.count, .int .i64 p.head.bytes, .slice P2 p.head.prev.length p2, .slice R2 p.head.root.length r2, .int .i64 p.place, .slice L2 p.leaf.length lc2, .slice Pa2 p.path.length pc2, .slice La2 p.later.length lac2] 50)
 have hXX := heap_alloc_new w4 (.cells #[.int .i64 p.head.index, .int .u64 p.head.first, .int .i64 p.head.count, .int .i64 p.head.bytes, .slice P2 p.head.prev.length p2, .slice R2 p.head.root.length r2, .int .i64 p.place, .slice L2 p.leaf.length lc2, .slice Pa2 p.path.length pc2, .slice La2 p.later.length lac2] 50)
 have HP2 := Lib.hid (hp.new kA)
 have HO2 := Lib.hid (ho.new kA)
 have HI := Lib.hid (HI.out.new kX)
 have HE := Lib.hid (HE.out.new kX)
 have HX := Lib.hid (Row.new HX.out kX)
 have HK := Lib.hid (HK.out.new kX)
 have HP1 := Lib.hid (HP1.out.new kX)
 have HO1 := Lib.hid (HO1.out.new kX)
 have HX1 := Lib.hid (kX.blockAt HX1.out trivial)
 have HX2 := Lib.hid hXX
 clear hp ho kk kX kA hXX HM2
 go_upto_region 5 with fail
 generalize w4.alloc (.cells #[.int .i64 p.head.index, .int .u64 p.head.first, .int .i64 p.head.count, .int .i64 p.head.bytes, .slice P2 p.head.prev.length p2, .slice R2 p.head.root.length r2, .int .i64 p.place, .slice L2 p.leaf.length lc2, .slice Pa2 p.path.length pc2, .slice La2 p.later.length lac2] 50) = w5 at *
 generalize w4.heap.size = g2 at *
 have HAL := Lib.hid (alike24_any _ _ _ _ P1 R1 L1 Pa1 La1 P2 R2 L2 Pa2 La2 p1 r1 lc1 pc1 lac1 p2 r2 lc2 pc2 lac2 p.later.length p w5 HP1.out HO1.out HP2.out HO2.out HLT.out)
 obtain ⟨x0, x1, x2, x3, x4, x5, x6, x7, x8, x9⟩ := cs10 HX1.out
 obtain ⟨z0, z1, z2, z3, z4, z5, z6, z7, z8, z9⟩ := cs10 HX2.out
 clear HP1 HO1 HX1
 go_wp2_with fail
 clear x0 x1 x2 x3 x4 x5 x6 x7 x8 x9
 clear z0 z1 z2 z3 z4 z5 z6 z7 z8 z9
 refine HAL.out.mono ?_
 rintro e w6 ⟨rfl, k6⟩
 have HI := Lib.hid (HI.out.new k6)
 have HE := Lib.hid (HE.out.new k6)
 have HX := Lib.hid (Row.new HX.out k6)
 have HK := Lib.hid (HK.out.new k6)
 have HP2 := Lib.hid (HP2.out.new k6)
 have HO2 := Lib.hid (HO2.out.new k6)
 have HX2 := Lib.hid (k6.blockAt HX2.out trivial)
 clear k6 HAL
 have hcu := cut_any X nx cx 200 xs _ w6 HX.out (by omega) hxc (by decide)
 have HCU := Lib.hid hcu
 clear hcu
 have hxc2 := Bs.cutTo HX.out (Nat.min_le_left nx 200)
 have HRX := Lib.hid (read24_any _ X (min nx 200) cx _ w6 hxc2 (by omega) (by omega) hx9)
 clear hxc2
 have hwy : (why != why) = false := by simp
 go_wp2_with fail
 refine HCU.out.mono ?_
 rintro e w' ⟨rfl, rfl⟩
 go_wp2_with fail
 refine HRX.out.mono ?_
 rintro e w7 ⟨rfl, k7⟩
 have HI := Lib.hid (HI.out.new k7)
 have HE := Lib.hid (HE.out.new k7)
 have HK := Lib.hid (HK.out.new k7)
 have HP2 := Lib.hid (HP2.out.new k7)
 have HO2 := Lib.hid (HO2.out.new k7)
 have HX2 := Lib.hid (k7.blockAt HX2.out trivial)
 clear k7 HCU HRX HX hwy
 go_upto_region 7 with fail
 by_cases hy : why = 0
 rotate_left
 ·have hy0 : (why != 0) = true := by simpa using hy
  clear HP2 HO2 HX2 hy
  go_wp2_with fail
  refine (HKN.out w7).mono ?_
  rintro e w8 ⟨rfl, k8⟩
  go_wp2_with fail
  go_ret
  exact ⟨rfl, HK.out.new k8⟩
 ·subst hy
  obtain ⟨hgd, hri, hk0⟩ := HCA.out rfl
  have HSM := Lib.hid (good_small hri)
  have HEN : Hid (encodeOf p = (proofBytes p, 0)) := Lib.hid (by unfold encodeOf; rw [hri]; rfl)
  have hbl := bytes_small hgd
  have hbp := pbytes_pos p
  have HPP : Hid (p.path.length ≤ 9223372036854775806) := Lib.hid (by have := (right_parts hri).2.1; omega)
  clear hgd hri HCA
  go_wp2_with fail
  refine (HID.out w7).mono ?_
  rintro e w8 ⟨⟨Ai, rfl, hid⟩, k8⟩
  have HI := Lib.hid (HI.out.new k8)
  have HE := Lib.hid (HE.out.new k8)
  have HK := Lib.hid (HK.out.new k8)
  have HP2 := Lib.hid (HP2.out.new k8)
  have HO2 := Lib.hid (HO2.out.new k8)
  have HX2 := Lib.hid (k8.blockAt HX2.out trivial)
  have HIB := Lib.hid hid
  clear hid k8
  go_wp2_with fail
  refine (head18_any _ _ Ai H 16 16 k hc idv he w8 HIB.out (by decide) HE.out (by omega)).mono ?_
  rintro e w9 ⟨⟨T, tc, rfl, oT⟩, k9⟩
  have HI := Lib.hid (HI.out.new k9)
  have HK := Lib.hid (HK.out.new k9)
  have HP2 := Lib.hid (HP2.out.new k9)
  have HO2 := Lib.hid (HO2.out.new k9)
  have HX2 := Lib.hid (k9.blockAt HX2.out trivial)
  have HT := Lib.hid (Row.of_own oT)
  clear oT k9 HIB HE
  go_upto_region 10 with fail
  have hg9 : w.heap.size ≤ w9.heap.size := HK.out.size
  obtain ⟨g9, hg9e⟩ : ∃ g, g = w9.heap.size := ⟨_, rfl⟩
  rw [← hg9e] at hg9
  have HI := Lib.hid (HI.out.imgs.imp (E := fun b => b < g9) (fun b hb _ => by rw [hg9e]; exact hb))
  have HT := Lib.hid (Row.imp HT.out (E := fun b => b < g9) (fun b hb _ => by rw [hg9e]; exact hb))
  have hEC := rencode_any _ _ P2 R2 L2 Pa2 La2 p2 r2 lc2 pc2 lac2 p w9 HP2.out HO2.out HPP.out (by have := HLT.out; omega)
  rw [HEN.out] at hEC
  dsimp only at hEC
  have HEC := Lib.hid hEC
  clear hEC
  generalize proofBytes p = pbs at *
  generalize hpl : pbs.length = pl at *
  obtain ⟨x0, x1, x2, x3, x4, x5, x6, x7, x8, x9⟩ := cs10 HX2.out
  go_wp2_with fail
  clear x0 x1 x2 x3 x4 x5 x6 x7 x8 x9
  refine HEC.out.mono ?_
  rintro e wa ⟨⟨C, cc, rfl, oC⟩, ka⟩
  try rw [hpl] at oC ⊢
  have HI := Lib.hid (HI.out.new ka)
  have HK := Lib.hid (HK.out.new ka)
  have HP2 := Lib.hid (HP2.out.new ka)
  have HO2 := Lib.hid (HO2.out.new ka)
  have HT := Lib.hid (Row.new HT.out ka)
  have HX2 := Lib.hid (ka.blockAt HX2.out trivial)
  rw [← hg9e] at oC
  have HC := Lib.hid oC
  have HS9 : Hid (g9 ≤ wa.heap.size) := Lib.hid (by rw [hg9e]; exact ka.size)
  clear oC ka HEC
  have HCL := Lib.hid (check24l_any _ _ _ T P2 R2 L2 Pa2 La2 32 tc p2 r2 lc2 pc2 lac2 (headSeal idv he) p wa HT.out HP2.out HO2.out HSM.out)
  have HWL := Lib.hid (fun W (hW : New wa W) => write24_any _ _ P2 R2 L2 Pa2 La2 p2 r2 lc2 pc2 lac2 p W (HP2.out.new hW) (HO2.out.new hW) HSM.out HPP.out)
  have HRL := Lib.hid (fun W (hW : New wa W) => read24_any _ C pl cc pbs W (Row.new (Row.of_own HC.out) hW) (by omega) (own_cap HC.out) (own_capMax HC.out))
  go_upto_region 11 with fail
  obtain ⟨x0, x1, x2, x3, x4, x5, x6, x7, x8, x9⟩ := cs10 HX2.out
  go_wp2_with fail
  clear x0 x1 x2 x3 x4 x5 x6 x7 x8 x9
  refine HCL.out.mono ?_
  rintro e wb ⟨rfl, kb⟩
  obtain ⟨x0, x1, x2, x3, x4, x5, x6, x7, x8, x9⟩ := cs10 (kb.blockAt HX2.out trivial)
  go_wp2_with fail
  clear x0 x1 x2 x3 x4 x5 x6 x7 x8 x9
  refine (HWL.out wb kb).mono ?_
  rintro e wc ⟨rfl, kc⟩
  go_wp2_with fail
  refine (HRL.out wc (kb.new kc)).mono ?_
  rintro e wd ⟨rfl, kd⟩
  have kq := (kb.new kc).new kd
  have HI := Lib.hid (HI.out.new kq)
  have HK := Lib.hid (HK.out.new kq)
  have HT := Lib.hid (Row.new HT.out kq)
  have HC := Lib.hid (Own.keepNew HC.out kq)
  have HS9 := Lib.hid (Nat.le_trans HS9.out (kq).size)
  clear kb kc kd kq HCL HWL HRL HP2 HO2 HX2 HPP HSM HEN
  go_upto_region 13 with fail
  obtain ⟨m, hm, hmv⟩ := mod_placeB a pl (by omega)
  have HWA : Hid (∀ W, Calls Tryz.prog 11 #[.int .i64 a, .int .i64 0, .int .i64 ((pl : Int) - 1)] W fun e w' => e = .returned (.int .i64 (m : Int)) ∧ W = w') := Lib.hid fun W => by
   have h := within_any a 0 ((pl : Int) - 1) W ha0 ha1 (by decide) (by omega) (by omega)
   rwa [hmv] at h
  have hwp : IntKind.i64.wrap ((pl : Int) - 1) = (pl : Int) - 1 := IntWalk.i64_in _ (by omega)
  obtain ⟨gc, hgc⟩ : ∃ gc, C = some (Addr.mk gc 0 none) := by
   obtain ⟨g, cap, hv, _, _⟩ := HC.out.form (by omega)
   injection hv with hv
   exact ⟨g, hv⟩
  subst hgc
  have hml : m < pbs.length := by omega
  have ct : wd.cell? ⟨gc, m, none⟩ = some (.int .u8 (bv pbs[m])) := by simpa [Addr.add_lit] using HC.out.cells (g := gc) rfl m _ (by rw [List.getElem?_map, List.getElem?_eq_getElem hml]; rfl)
  have ft := HC.out.frozenAt (g := gc) m
  have hst := (HC.out.stored m (.int .u8 (bv (pbs[m] ^^^ turn)))).1
  have hset : (pbs.map byteVal).set m (.int .u8 (bv (pbs[m] ^^^ turn))) = (pbs.set m (pbs[m] ^^^ turn)).map byteVal := (List.map_set ..).symm
  rw [hset] at hst
  clear hset
  have HST := Lib.hid hst
  have hkS : Keep (fun b => b ≠ gc) wd (wd.setCell ⟨gc, m, none⟩ (.int .u8 (bv (pbs[m] ^^^ turn)))) := (Keep.refl _ wd).setCell (p := ⟨gc, m, none⟩) (fun hd => absurd rfl hd) _
  have hgtl := (own_lt HC.out gc rfl).1
  have hnl : (pbs.set m (pbs[m] ^^^ turn)).length = pl := by rw [List.length_set]; exact hpl
  generalize hyb : pbs[m] = yb at *
  generalize pbs.set m (yb ^^^ turn) = ys at *
  have HKS := Lib.hid hkS
  have HGC := Lib.hid hgtl
  clear hst hkS hgtl hyb
  have hty : bits .xor .u8 (bv yb) (bv turn) = bv (yb ^^^ turn) := bv_xor yb turn
  go_wp2_with fail
  refine (HWA.out wd).mono ?_
  rintro e w' ⟨rfl, rfl⟩
  go_upto_region 14 with fail
  clear ct ft hty hwp hml
  have HI := Lib.hid (HI.out.keep HKS.out (fun b _ hb => by have := HGC.out; show b ≠ gc; have h2 : b < g9 := hb; omega))
  have HT := Lib.hid (Row.keep HT.out HKS.out (fun b _ hb => by have := HGC.out; show b ≠ gc; have h2 : b < g9 := hb; omega))
  have HK := Lib.hid (HK.out.trans2 HKS.out (fun b hb _ => by have h1 := HGC.out; show b ≠ gc; omega))
  have HS9 := Lib.hid (Nat.le_trans HS9.out HKS.out.size)
  clear HKS
  generalize wd.setCell _ _ = we at *
  have HYS := Lib.hid (Row.of_own HST.out)
  have HCC := Lib.hid (And.intro (own_cap HST.out) (own_capMax HST.out))
  clear HST HC
  have HRY := Lib.hid (read24_any _ (some (Addr.mk gc 0 none)) pl cc ys we HYS.out (by omega) HCC.out.1 HCC.out.2)
  go_wp2_with fail
  refine HRY.out.mono ?_
  rintro e wf ⟨rfl, kf⟩
  have HI := Lib.hid (HI.out.new kf)
  have HK := Lib.hid (HK.out.new kf)
  have HT := Lib.hid (Row.new HT.out kf)
  have HS9 := Lib.hid (Nat.le_trans HS9.out (kf).size)
  have HYS := Lib.hid (Row.new HYS.out kf)
  clear kf HRY
  have HDY := Lib.hid (rdecode_any _ (some (Addr.mk gc 0 none)) pl cc ys wf HYS.out (by omega) HCC.out.1 HCC.out.2)
  obtain ⟨d, gg, hdg⟩ : ∃ d gg, decodeOf ys = (d, gg) := ⟨_, _, rfl⟩
  have hdgood : gg = 0 → rightProof d = true := fun h => by
   have h1 := decode_good (bs := ys) (by rw [hdg]; exact h)
   rw [hdg] at h1
   exact h1.1.right
  have HDG := Lib.hid hdgood
  rw [hdg] at HDY
  clear hdg hdgood
  go_wp2_with fail
  refine HDY.out.mono ?_
  rintro e wg ⟨⟨P3, R3, L3, Pa3, La3, p3, r3, lc3, pc3, lac3, rfl, hp, ho⟩, kk⟩
  dsimp only at hp ho ⊢
  have kX := kk.alloc (.cells #[.int .i64 d.head.index, .int .u64 d.head.first, .int .i64 d.head.count, .int .i64 d.head.bytes, .slice P3 d.head.prev.length p3, .slice R3 d.head.root.length r3, .int .i64 d.place, .slice L3 d.leaf.length lc3, .slice Pa3 d.path.length pc3, .slice La3 d.later.length lac3] 50)
  have kA := (New.refl wg).alloc (.cells #[.int .i64 d.head.index, .int .u64 d.head.first, .int .i64 d.head.count, .int .i64 d.head.bytes, .slice P3 d.head.prev.length p3, .slice R3 d.head.root.length r3, .int .i64 d.place, .slice L3 d.leaf.length lc3, .slice Pa3 d.path.length pc3, .slice La3 d.later.length lac3] 50)
  have hXX := heap_alloc_new wg (.cells #[.int .i64 d.head.index, .int .u64 d.head.first, .int .i64 d.head.count, .int .i64 d.head.bytes, .slice P3 d.head.prev.length p3, .slice R3 d.head.root.length r3, .int .i64 d.place, .slice L3 d.leaf.length lc3, .slice Pa3 d.path.length pc3, .slice La3 d.later.length lac3] 50)
  have HP3 := Lib.hid (hp.new kA)
  have HO3 := Lib.hid (ho.new kA)
  have HI := Lib.hid (HI.out.new kX)
  have HK := Lib.hid (HK.out.new kX)
  have HT := Lib.hid (Row.new HT.out kX)
  have HS9 := Lib.hid (Nat.le_trans HS9.out (kX).size)
  have HX3 := Lib.hid hXX
  clear hp ho kk kX kA hXX HDY HYS HCC
  go_upto_region 17 with fail
  generalize wg.alloc (.cells #[.int .i64 d.head.index, .int .u64 d.head.first, .int .i64 d.head.count, .int .i64 d.head.bytes, .slice P3 d.head.prev.length p3, .slice R3 d.head.root.length r3, .int .i64 d.place, .slice L3 d.leaf.length lc3, .slice Pa3 d.path.length pc3, .slice La3 d.later.length lac3] 50) = wh at *
  generalize wg.heap.size = g3 at *
  go_cut [126] (fun s126 wx => s126 = .bool false ∧ New wh wx)
  case first =>
   by_cases hgg : gg = 0
   ·subst hgg
    have HSM := Lib.hid (good_small (HDG.out rfl))
    have hdp : d.path.length ≤ 9223372036854775806 := by have := (right_parts (HDG.out rfl)).2.1; omega
    have HCL := Lib.hid (check24l_any _ _ _ T P3 R3 L3 Pa3 La3 32 tc p3 r3 lc3 pc3 lac3 (headSeal idv he) d wh HT.out HP3.out HO3.out HSM.out)
    have HWL := Lib.hid (fun W (hW : New wh W) => write24_any _ _ P3 R3 L3 Pa3 La3 p3 r3 lc3 pc3 lac3 d W (HP3.out.new hW) (HO3.out.new hW) HSM.out hdp)
    obtain ⟨x0, x1, x2, x3, x4, x5, x6, x7, x8, x9⟩ := cs10 HX3.out
    go_wp2_with fail
    clear x0 x1 x2 x3 x4 x5 x6 x7 x8 x9
    refine HCL.out.mono ?_
    rintro e wi ⟨rfl, ki⟩
    obtain ⟨x0, x1, x2, x3, x4, x5, x6, x7, x8, x9⟩ := cs10 (ki.blockAt HX3.out trivial)
    go_wp2_with fail
    clear x0 x1 x2 x3 x4 x5 x6 x7 x8 x9
    refine (HWL.out wi ki).mono ?_
    rintro e wj ⟨rfl, kj⟩
    go_wp2_with fail
    go_meet
    exact ⟨rfl, ki.new kj⟩
   ·have hg0 : (gg == 0) = false := by rw [beq_eq_false_iff_ne]; exact hgg
    clear hgg HP3 HO3 HX3
    go_wp2_with fail
    go_meet
    exact ⟨rfl, New.refl _⟩
  case rest =>
   obtain ⟨rfl, kw⟩ := hcut
   have HI := Lib.hid (HI.out.new kw)
   have HK := Lib.hid (HK.out.new kw)
   have HS9 := Lib.hid (Nat.le_trans HS9.out (kw).size)
   clear kw HP3 HO3 HX3 HDG HT
   generalize wc = wk at *
   obtain ⟨j, hj, hjv⟩ := mod_placeB hw k hk0
   have HWJ : Hid (∀ W, Calls Tryz.prog 11 #[.int .i64 hw, .int .i64 0, .int .i64 ((k : Int) - 1)] W fun e w' => e = .returned (.int .i64 (j : Int)) ∧ W = w') := Lib.hid fun W => by
    have h := within_any hw 0 ((k : Int) - 1) W hb0 hb1 (by decide) (by omega) (by omega)
    rwa [hjv] at h
   obtain ⟨q, hq, hqv⟩ := mod_placeB a 1024 (by decide)
   have HWQ : Hid (∀ W, Calls Tryz.prog 11 #[.int .i64 a, .int .i64 0, .int .i64 1023] W fun e w' => e = .returned (.int .i64 (q : Int)) ∧ W = w') := Lib.hid fun W => by
    have h := within_any a 0 1023 W ha0 ha1 (by decide) (by decide) (by decide)
    rw [show (1023 : Int) - 0 + 1 = (((1024 : Nat) : Int) - 1 - 0 + 1) from rfl, hqv] at h
    exact h
   have hkp : (0 : Int) < (k : Int) := by omega
   have hwk : IntKind.i64.wrap ((k : Int) - 1) = (k : Int) - 1 := IntWalk.i64_in _ (by omega)
   clear hjv hqv hmv
   go_wp2_with fail
   refine (HWJ.out wk).mono ?_
   rintro e w' ⟨rfl, rfl⟩
   go_upto_region 21 with fail
   obtain ⟨vs, hv1, hv2, hv3⟩ := HI.out
   have kA := (New.refl wk).alloc (.cells #[] 31)
   have h0 : OwnImgs (wk.alloc (.cells #[] 31)) wk.heap.size (fun b => b < g9) (some ⟨wk.heap.size, 0, none⟩) 0 0 [] := ⟨[], World.ownsRow_made wk #[] 0 (Nat.le_refl _) (by decide) rfl, rfl, fun k hk => absurd hk (by simp)⟩
   have hgk : g9 ≤ wk.heap.size := HS9.out
   have HKW : Hid (w.heap.size ≤ wk.heap.size) := Lib.hid HK.out.size
   have hy : ∀ k (h : k < im.length), ImgAt (wk.alloc (.cells #[] 31)) (fun b => b < g9 ∧ some b ≠ blk (some (Addr.mk wk.heap.size 0 none))) vs k im[k] := fun k hk => ((hv3 k hk).imp (E := fun b => b < g9 ∧ some b ≠ blk (some (Addr.mk wk.heap.size 0 none))) fun b hb hd => ⟨hd, fun e => by (have e1 : b = wk.heap.size := by injection e); omega⟩).keep kA (fun _ _ _ => trivial)
   have hr1 := hv1.new kA
   have hbd : 0 + k ≤ 1099511627776 := by omega
   have hsz : wk.heap.size ≤ (wk.alloc (.cells #[] 31)).heap.size := kA.size
   clear hv1 hv3
   go_upto_region 22 with (at_builtin; refine app_imgsM _ rfl _ _ rfl wk.heap.size (fun b => b < g9) (some ⟨wk.heap.size, 0, none⟩) 0 0 [] rfl h0 _ O k oc vs im rfl hr1 hv2 hy hbd hsz ?_; intro Z zc wl oz gz qz)
   rw [Nat.zero_add, List.nil_append] at oz
   have kl : New wk wl := kA.grown gz (fun j hj _ => (h0.lt j hj).1)
   have hgl : g9 ≤ wl.heap.size := Nat.le_trans hgk kl.size
   have HK := Lib.hid (HK.out.new kl)
   clear h0 hy hr1 hbd hsz kA gz qz HI kl hgk HS9 hv2
   obtain ⟨us, hu1, hu2, hu3⟩ := oz
   obtain ⟨bz, rfl⟩ : ∃ bz, Z = some (Addr.mk bz 0 none) := by
    obtain ⟨g, cap, hv, _, _⟩ := hu1.form (by omega)
    injection hv with hv
    exact ⟨g, hv⟩
   have hbz := own_lt hu1 bz rfl
   have hjl : j < im.length := by omega
   obtain ⟨Aj, cj, ej, hcj, hcj9, hbj⟩ := hu3 j hjl
   have hxl : im[j].length = 1024 := HSI.out _ (List.getElem_mem hjl)
   have cz : wl.cell? ⟨bz, j, none⟩ = some (.slice Aj im[j].length cj) := by simpa [Addr.add_lit] using hu1.cells (g := bz) rfl j _ ej
   have fz := hu1.frozenAt (g := bz) j
   generalize hx : im[j] = x at *
   rw [hxl] at cz hbj hcj
   have hoA : OwnB (wl.alloc (.cells #[] 5)) wl.heap.size 5 (some ⟨wl.heap.size, 0, none⟩) 0 0 [] := World.ownsRow_made wl #[] 0 (Nat.le_refl _) (by decide) rfl
   have hsA : wl.heap.size ≤ (wl.alloc (.cells #[] 5)).heap.size := by simp
   have hbA := Row.alloc hbj (.cells #[] 5)
   have cz1 := ((New.refl wl).alloc (.cells #[] 5)).cell_some cz trivial
   have hpls : 0 + 1024 ≤ 140737488355328 := by decide
   have HU1 := Lib.hid hu1
   have HU3 := Lib.hid hu3
   clear hu1 hu3 hbj hx ej
   have hjk : (j : Int) < (k : Int) := by omega
   go_upto_region 23 with (at_builtin; refine app_bytes _ rfl _ _ rfl wl.heap.size _ 0 0 [] rfl hoA _ Aj 1024 cj x rfl hbA hpls hsA ?_; intro A5 c5 wm o5 g5 q5; have k5 : New wl wm := ((New.refl wl).alloc _).grown g5 (fun k hk _ => (own_lt hoA k hk).1); have cm := k5.cell_some cz trivial; have fm := (k5.frozen (p := ⟨bz, j, none⟩) hbz.2 trivial).trans fz)
   rw [Nat.zero_add, List.nil_append] at o5
   obtain ⟨b5, rfl⟩ : ∃ b5, A5 = some (Addr.mk b5 0 none) := by
    obtain ⟨g, cap, hv, _, _⟩ := o5.form (by decide)
    injection hv with hv
    exact ⟨g, hv⟩
   have hb5 := own_lt o5 b5 rfl
   have hst := ((Own.keepNew HU1.out k5).stored j (.slice (some (Addr.mk b5 0 none)) 1024 c5)).1
   have kS : Keep (fun b => b ≠ bz) wm (wm.setCell ⟨bz, j, none⟩ (.slice (some (Addr.mk b5 0 none)) 1024 c5)) := (Keep.refl _ wm).setCell (p := ⟨bz, j, none⟩) (fun hd => absurd rfl hd) _
   have oS := own_keep o5 kS (fun q hq e => by (have h1 : b5 = q := by injection hq); omega)
   have cS := World.cell?_setCell_same wm ⟨bz, j, none⟩ (.slice (some (Addr.mk b5 0 none)) 1024 c5) cm
   have HK := Lib.hid ((HK.out.new k5).trans2 kS (fun b hb _ => by have h1 := hbz.1; have h2 := HKW.out; show b ≠ bz; omega))
   have HK5 := Lib.hid k5
   clear cz cz1 fz hoA hsA hbA g5 q5 o5 cm fm k5
   have HKS := Lib.hid kS
   clear kS
   generalize hws : wm.setCell _ _ = ws at *
   have HST := Lib.hid hst
   have hqx : q < x.length := by omega
   have cb : ws.cell? ⟨b5, q, none⟩ = some (.int .u8 (bv x[q])) := by simpa [Addr.add_lit] using oS.cells (g := b5) rfl q _ (by rw [List.getElem?_map, List.getElem?_eq_getElem hqx]; rfl)
   have fb := oS.frozenAt (g := b5) q
   have hso := (oS.stored q (.int .u8 (bv (x[q] ^^^ turn)))).1
   have hset : (x.map byteVal).set q (.int .u8 (bv (x[q] ^^^ turn))) = (x.set q (x[q] ^^^ turn)).map byteVal := (List.map_set ..).symm
   rw [hset] at hso
   have kQ : Keep (fun b => b ≠ b5) ws (ws.setCell ⟨b5, q, none⟩ (.int .u8 (bv (x[q] ^^^ turn)))) := (Keep.refl _ ws).setCell (p := ⟨b5, q, none⟩) (fun hd => absurd rfl hd) _
   have hyl : (x.set q (x[q] ^^^ turn)).length = 1024 := by rw [List.length_set]; exact hxl
   generalize hxq : x[q] = xq at *
   generalize x.set q (xq ^^^ turn) = y at *
   have hty : bits .xor .u8 (bv xq) (bv turn) = bv (xq ^^^ turn) := bv_xor xq turn
   have HSO := Lib.hid hso
   have HKQ := Lib.hid kQ
   clear hso hset kQ hst oS hws hxq hqx
   refine holdW_begin [11] (fun _ => True) (New ws.drew) (by kernel_rfl) ?_
   have t0 : New ws.drew ws.drew := New.refl _
   have hqi : (q : Int) < 1024 := by omega
   have r0 : ∀ W, New ws.drew W → W.cell? ⟨bz, j, none⟩ = some (.slice (some (Addr.mk b5 0 none)) 1024 c5) := fun W h => h.cell_some (a := ws.drew) cS trivial
   have r1 : ∀ W, New ws.drew W → W.cell? ⟨b5, q, none⟩ = some (.int .u8 (bv xq)) := fun W h => h.cell_some (a := ws.drew) cb trivial
   refine holdW_read (i := 0) (v := ?_) ⟨trivial, fun _ => t0⟩ rfl (by kernel_rfl) (by kernel_rfl) (by kernel_rfl) rfl (fun _ _ _ h => h) rfl ?_ ?_
   rotate_left
   ·intro w' hN
    go_simp
    try with_reducible rfl
   simp only [Act.put, List.getElem_toArray, List.getElem_cons_zero, List.setIfInBounds_toArray, List.set_cons_zero, List.set_cons_succ]
   refine holdW_read (i := 1) (v := ?_) ⟨trivial, fun _ => t0⟩ rfl (by kernel_rfl) (by kernel_rfl) (by kernel_rfl) rfl (fun _ _ _ h => h) rfl ?_ ?_
   rotate_left
   ·intro w' hN
    go_simp
    try with_reducible rfl
   simp only [Act.put, List.getElem_toArray, List.getElem_cons_succ, List.getElem_cons_zero, List.setIfInBounds_toArray, List.set_cons_zero, List.set_cons_succ]
   refine holdW_read (i := 2) (v := ?_) ⟨trivial, fun _ => t0⟩ rfl (by kernel_rfl) (by kernel_rfl) (by kernel_rfl) rfl (fun _ _ _ h => h) rfl ?_ ?_
   rotate_left
   ·intro w' hN
    go_simp
    try with_reducible rfl
   simp only [Act.put, List.getElem_toArray, List.getElem_cons_succ, List.getElem_cons_zero, List.setIfInBounds_toArray, List.set_cons_zero, List.set_cons_succ]
   refine holdW_readT (i := 3) (v := ?_) ⟨trivial, fun _ => t0⟩ rfl (by kernel_rfl) (by kernel_rfl) (by kernel_rfl) (by kernel_rfl) (by kernel_rfl) (fun _ _ _ h => h) rfl ?_ ?_
   rotate_left
   ·intro w' hN
    go_simp
    try with_reducible rfl
   simp only [Act.put, List.getElem_toArray, List.getElem_cons_succ, List.getElem_cons_zero, List.setIfInBounds_toArray, List.set_cons_zero, List.set_cons_succ]
   refine holdW_read (i := 4) (v := ?_) ⟨trivial, fun _ => t0⟩ rfl (by kernel_rfl) (by kernel_rfl) (by kernel_rfl) rfl (fun _ _ _ h => h) rfl ?_ ?_
   rotate_left
   ·intro w' hN
    go_simp
    try with_reducible rfl
   simp only [Act.put, List.getElem_toArray, List.getElem_cons_succ, List.getElem_cons_zero, List.setIfInBounds_toArray, List.set_cons_zero, List.set_cons_succ]
   refine holdW_read (i := 8) (v := ?_) ⟨trivial, fun _ => t0⟩ rfl (by kernel_rfl) (by kernel_rfl) (by kernel_rfl) rfl (fun _ _ _ h => h) rfl ?_ ?_
   rotate_left
   ·intro w' hN
    go_simp
    try with_reducible rfl
   simp only [Act.put, List.getElem_toArray, List.getElem_cons_succ, List.getElem_cons_zero, List.setIfInBounds_toArray, List.set_cons_zero, List.set_cons_succ]
   refine holdW_step (i := 5) (by kernel_rfl) rfl rfl (fun K hK2 => ?_)
   go_simp
   refine (HWQ.out _).mono ?_
   rintro e w' ⟨rfl, rfl⟩
   go_wp2_with fail
   refine hK2.out _ _ ⟨trivial, fun _ => t0⟩ ?_
   clear hK2 K
   try simp only [Act.put, List.getElem_toArray, List.getElem_cons_succ, List.getElem_cons_zero, List.setIfInBounds_toArray, List.set_cons_zero, List.set_cons_succ]
   refine holdW_read (i := 6) (v := ?_) ⟨trivial, fun _ => t0⟩ rfl (by kernel_rfl) (by kernel_rfl) (by kernel_rfl) rfl (fun _ _ _ h => h) rfl ?_ ?_
   rotate_left
   ·intro w' hN
    go_simp
    try with_reducible rfl
   simp only [Act.put, List.getElem_toArray, List.getElem_cons_succ, List.getElem_cons_zero, List.setIfInBounds_toArray, List.set_cons_zero, List.set_cons_succ]
   refine holdW_readT (i := 7) (v := ?_) ⟨trivial, fun _ => t0⟩ rfl (by kernel_rfl) (by kernel_rfl) (by kernel_rfl) (by kernel_rfl) (by kernel_rfl) (fun _ _ _ h => h) rfl ?_ ?_
   rotate_left
   ·intro w' hN
    go_simp
    try with_reducible rfl
   simp only [Act.put, List.getElem_toArray, List.getElem_cons_succ, List.getElem_cons_zero, List.setIfInBounds_toArray, List.set_cons_zero, List.set_cons_succ]
   refine holdW_read (i := 9) (v := ?_) ⟨trivial, fun _ => t0⟩ rfl (by kernel_rfl) (by kernel_rfl) (by kernel_rfl) rfl (fun _ _ _ h => h) rfl ?_ ?_
   rotate_left
   ·intro w' hN
    go_simp
    try with_reducible rfl
   simp only [Act.put, List.getElem_toArray, List.getElem_cons_succ, List.getElem_cons_zero, List.setIfInBounds_toArray, List.set_cons_zero, List.set_cons_succ]
   refine holdW_read (i := 10) (v := ?_) ⟨trivial, fun _ => t0⟩ rfl (by kernel_rfl) (by kernel_rfl) (by kernel_rfl) rfl (fun _ _ _ h => h) rfl ?_ ?_
   rotate_left
   ·intro w' hN
    go_simp
    try with_reducible rfl
   simp only [Act.put, List.getElem_toArray, List.getElem_cons_succ, List.getElem_cons_zero, List.setIfInBounds_toArray, List.set_cons_zero, List.set_cons_succ]
   clear r0 r1
   refine holdW_step (i := 11) (by kernel_rfl) rfl rfl (fun K hK2 => ?_)
   have cb2 : ws.drew.cell? ⟨b5, q, none⟩ = some (.int .u8 (bv xq)) := cb
   have fb2 : ws.drew.frozen? ⟨b5, q, none⟩ = false := fb
   go_simp
   refine hK2.out _ _ ⟨trivial, fun h => absurd h (by decide)⟩ ?_
   clear hK2 K cb2 fb2
   try simp only [Act.put, List.getElem_toArray, List.getElem_cons_succ, List.getElem_cons_zero, List.setIfInBounds_toArray, List.set_cons_zero, List.set_cons_succ]
   refine wpAnyW_done (by kernel_rfl) ?_ _
   have HK := Lib.hid ((HK.out.trans2 HKQ.out (fun b hb _ => by have h1 := hb5.1; have h2 := HKW.out; show b ≠ b5; omega)).drew)
   have hne5 : bz ≠ b5 := by omega
   have HIZ : Hid (Imgs (ws.setCell ⟨b5, q, none⟩ (.int .u8 (bv (xq ^^^ turn)))) (fun _ => True) (some (Addr.mk bz 0 none)) k (im.set j y)) := Lib.hid (by
    refine imgs_set (vs := us) (Q := some (Addr.mk b5 0 none)) (c' := c5) ?_ hu2 ?_ ?_ hj ?_ ?_ ?_
    ·rw [hyl]
     exact ((row_own HST.out).keep HKQ.out (fun b _ hb => by (have h1 : bz = b := by injection hb); show b ≠ b5; omega)).imp fun _ _ _ => trivial
    ·have := HU1.out.1; omega
    ·intro k2 hk2 hkj
     have h1 := (HU3.out k2 hk2).imp (E := fun b => b ≠ bz ∧ b < wl.heap.size) (fun b hb hd => ⟨fun e => hd.2 (by rw [e]; rfl), hb⟩)
     have h2 := (h1.keep HK5.out (fun _ _ _ => trivial)).keep HKS.out (fun b _ hb => hb.1)
     exact (h2.keep HKQ.out (fun b _ hb => by have := hb.2; show b ≠ b5; omega)).imp fun _ _ _ => trivial
    ·rw [hyl]; exact own_cap HSO.out
    ·exact own_capMax HSO.out
    ·rw [hyl]; exact (Row.of_own HSO.out).imp fun _ _ _ => trivial)
   have HIZ := Lib.hid (HIZ.out.new (New.refl _).drew)
   clear HSO HST HU1 HU3 HKQ HKS HK5 cb fb cS t0 hty
   obtain ⟨p4, why4, hmk4⟩ : ∃ p4 why4, makeOf (im.set j y) sq = (p4, why4) := ⟨_, _, rfl⟩
   have hl4 : p4.later.length ≤ 1000000 := by have h := makeOf_later (im.set j y) sq; rw [hmk4, List.length_set] at h; dsimp only at h; omega
   have HL4 := Lib.hid hl4
   have HMK4 := Lib.hid hmk4
   clear hl4 hmk4
   generalize im.set j y = im2 at *
   generalize hwn : World.drew _ = wn at HIZ HK ⊢
   have hM := make_any _ (some (Addr.mk bz 0 none)) k zc im2 sq wn HIZ.out (by omega)
   rw [HMK4.out] at hM
   have HM := Lib.hid hM
   have hN := fun W (hW : New wn W) => make24_any _ (some (Addr.mk bz 0 none)) k zc im2 sq W (HIZ.out.new hW) (by omega)
   rw [HMK4.out] at hN
   have HM2 := Lib.hid hN
   clear hM hN hwn
   go_wp2_with fail
   refine HM.out.mono ?_
   rintro e wo ⟨⟨P4, R4, L4, Pa4, La4, p4a, r4, lc4, pc4, lac4, rfl, hp, ho⟩, kk⟩
   dsimp only at hp ho ⊢
   have kX := kk.alloc (.cells #[.int .i64 p4.head.index, .int .u64 p4.head.first, .int .i64 p4.head.count, .int .i64 p4.head.bytes, .slice P4 p4.head.prev.length p4a, .slice R4 p4.head.root.length r4, .int .i64 p4.place, .slice L4 p4.leaf.length lc4, .slice Pa4 p4.path.length pc4, .slice La4 p4.later.length lac4] 36)
   have kA := (New.refl wo).alloc (.cells #[.int .i64 p4.head.index, .int .u64 p4.head.first, .int .i64 p4.head.count, .int .i64 p4.head.bytes, .slice P4 p4.head.prev.length p4a, .slice R4 p4.head.root.length r4, .int .i64 p4.place, .slice L4 p4.leaf.length lc4, .slice Pa4 p4.path.length pc4, .slice La4 p4.later.length lac4] 36)
   have hXX := heap_alloc_new wo (.cells #[.int .i64 p4.head.index, .int .u64 p4.head.first, .int .i64 p4.head.count, .int .i64 p4.head.bytes, .slice P4 p4.head.prev.length p4a, .slice R4 p4.head.root.length r4, .int .i64 p4.place, .slice L4 p4.leaf.length lc4, .slice Pa4 p4.path.length pc4, .slice La4 p4.later.length lac4] 36)
   have HP1 := Lib.hid ((hp.imp (E := fun _ => True) fun _ _ _ => trivial).new kA)
   have HO1 := Lib.hid ((ho.heads.imp (E := fun _ => True) fun _ _ _ => trivial).new kA)
   have HK := Lib.hid (HK.out.new kX)
   have HX1 := Lib.hid hXX
   have HM2 := Lib.hid (HM2.out _ kX)
   clear hp ho kk kX kA hXX HM
   go_upto_region 25 with fail
   generalize wo.alloc (.cells #[.int .i64 p4.head.index, .int .u64 p4.head.first, .int .i64 p4.head.count, .int .i64 p4.head.bytes, .slice P4 p4.head.prev.length p4a, .slice R4 p4.head.root.length r4, .int .i64 p4.place, .slice L4 p4.leaf.length lc4, .slice Pa4 p4.path.length pc4, .slice La4 p4.later.length lac4] 36) = wp at *
   generalize wo.heap.size = g5 at *
   go_wp2_with fail
   refine HM2.out.mono ?_
   rintro e wq ⟨⟨P5, R5, L5, Pa5, La5, p5a, r5, lc5, pc5, lac5, rfl, hp, ho⟩, kk⟩
   dsimp only at hp ho ⊢
   have kX := kk.alloc (.cells #[.int .i64 p4.head.index, .int .u64 p4.head.first, .int .i64 p4.head.count, .int .i64 p4.head.bytes, .slice P5 p4.head.prev.length p5a, .slice R5 p4.head.root.length r5, .int .i64 p4.place, .slice L5 p4.leaf.length lc5, .slice Pa5 p4.path.length pc5, .slice La5 p4.later.length lac5] 50)
   have kA := (New.refl wq).alloc (.cells #[.int .i64 p4.head.index, .int .u64 p4.head.first, .int .i64 p4.head.count, .int .i64 p4.head.bytes, .slice P5 p4.head.prev.length p5a, .slice R5 p4.head.root.length r5, .int .i64 p4.place, .slice L5 p4.leaf.length lc5, .slice Pa5 p4.path.length pc5, .slice La5 p4.later.length lac5] 50)
   have hXX := heap_alloc_new wq (.cells #[.int .i64 p4.head.index, .int .u64 p4.head.first, .int .i64 p4.head.count, .int .i64 p4.head.bytes, .slice P5 p4.head.prev.length p5a, .slice R5 p4.head.root.length r5, .int .i64 p4.place, .slice L5 p4.leaf.length lc5, .slice Pa5 p4.path.length pc5, .slice La5 p4.later.length lac5] 50)
   have HP2 := Lib.hid (hp.new kA)
   have HO2 := Lib.hid (ho.new kA)
   have HK := Lib.hid (HK.out.new kX)
   have HP1 := Lib.hid (HP1.out.new kX)
   have HO1 := Lib.hid (HO1.out.new kX)
   have HX1 := Lib.hid (kX.blockAt HX1.out trivial)
   have HX2 := Lib.hid hXX
   clear hp ho kk kX kA hXX HM2
   go_upto_region 26 with fail
   generalize wq.alloc (.cells #[.int .i64 p4.head.index, .int .u64 p4.head.first, .int .i64 p4.head.count, .int .i64 p4.head.bytes, .slice P5 p4.head.prev.length p5a, .slice R5 p4.head.root.length r5, .int .i64 p4.place, .slice L5 p4.leaf.length lc5, .slice Pa5 p4.path.length pc5, .slice La5 p4.later.length lac5] 50) = wr at *
   generalize wq.heap.size = g6 at *
   have HAL := Lib.hid (alike24_any _ _ _ _ P4 R4 L4 Pa4 La4 P5 R5 L5 Pa5 La5 p4a r4 lc4 pc4 lac4 p5a r5 lc5 pc5 lac5 p4.later.length p4 wr HP1.out HO1.out HP2.out HO2.out HL4.out)
   obtain ⟨x0, x1, x2, x3, x4, x5, x6, x7, x8, x9⟩ := cs10 HX1.out
   obtain ⟨z0, z1, z2, z3, z4, z5, z6, z7, z8, z9⟩ := cs10 HX2.out
   clear HP1 HO1 HX1 HP2 HO2 HX2
   have hwy : (why4 != why4) = false := by simp
   go_wp2_with fail
   clear x0 x1 x2 x3 x4 x5 x6 x7 x8 x9
   clear z0 z1 z2 z3 z4 z5 z6 z7 z8 z9
   refine HAL.out.mono ?_
   rintro e wt ⟨rfl, kt⟩
   go_wp2_with fail
   refine (HKN.out wt).mono ?_
   rintro e wu ⟨rfl, ku⟩
   go_wp2_with fail
   go_ret
   exact ⟨rfl, (HK.out.new kt).new ku⟩
end Go.Proofs.YtfegdgaanmcecaaGreatDoor
