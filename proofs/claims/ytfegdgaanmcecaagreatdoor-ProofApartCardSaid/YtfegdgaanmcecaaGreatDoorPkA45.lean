/-
  PROVED HERE: the law ProofApart answers true; conditions: lengths that a slice may have.
-/
import Derived.Test.YtfegdgaanmcecaaGreatDoorPkA44
namespace Go.Proofs.YtfegdgaanmcecaaGreatDoor
open Go.RowKit

theorem PrAt.any {w : World} {D : Nat → Prop} {p : ProofP} {P1 R1 L Pa : Option Addr} {p1 r1 lc pc : Nat} (h : PrAt w D p P1 R1 L Pa p1 r1 lc pc) : PrAt w (fun _ => True) p P1 R1 L Pa p1 r1 lc pc := h.imp fun _ _ _ => trivial
theorem mod_place (z : Int) (m : Nat) (hm : 0 < m) : ∃ kk : Nat, kk < m ∧ (0 : Int) + z % ((m : Int) - 1 - 0 + 1) = (kk : Int) := by
  have h0 := Int.emod_nonneg z (show (m : Int) ≠ 0 by omega)
  have h1 := Int.emod_lt_of_pos z (show (0 : Int) < (m : Int) by omega)
  refine ⟨(z % (m : Int)).toNat, by omega, ?_⟩
  rw [show (m : Int) - 1 - 0 + 1 = (m : Int) by omega]
  omega

set_option maxRecDepth 100000 in
set_option maxHeartbeats 8000000 in
theorem apart_any (D2 : Nat → Prop) (A2 : Option Addr) (n2 c2 : Nat) (l : List (List (List UInt8))) (a b : Int) (w : World) (hR : Raws8 w D2 A2 n2 l) (hn2 : n2 ≤ 9223372036854775807) (ha0 : -9223372036854775808 ≤ a) (ha1 : a ≤ 9223372036854775807) (hb0 : -9223372036854775808 ≤ b) (hb1 : b ≤ 9223372036854775807) :
    Calls Tryz.prog 4 #[.slice A2 n2 c2, .int .i64 a, .int .i64 b] w fun e w' => e = .returned (.bool true) ∧ New w w' := by
  have HCH := Lib.hid (chain24_any D2 A2 n2 c2 l w hR hn2)
  have hk6 : min n2 6 ≤ 6 := Nat.min_le_right _ _
  generalize min n2 6 = k at *
  have hok := chain_ok id24 l k (by omega)
  have hrl : (((chainTo id24 l k).recs.length : Nat) : Int) + 1 = (chainTo id24 l k).next := hok.recs
  have hq1 := hok.next1
  have HID := Lib.hid id24_any
  have HKN := Lib.hid known24_any
  have hil := hok.images
  have hhl := hok.heads
  have hr36 : (chainTo id24 l k).recs.length ≤ 36 := by omega
  clear hR
  by_cases hlt : (chainTo id24 l k).recs.length < 2
  · generalize chainTo id24 l k = s at *
    have hlt' : ((s.recs.length : Nat) : Int) < 2 := by omega
    clear hok hrl hq1 hil hhl hr36
    go_enter Tryz.func4, Tryz.ntmps4
    go_wp2_with fail
    refine HCH.out.mono ?_
    rintro e w1 ⟨⟨O, oc, H, hc, R, rc, rfl, -⟩, k1⟩
    generalize s.recs.length = rl at *
    go_wp2_with fail
    refine (HKN.out w1).mono ?_
    rintro e w2 ⟨rfl, k2⟩
    go_wp2_with fail
    go_ret
    exact ⟨rfl, k1.new k2⟩
  · obtain ⟨i, hi, hiv⟩ := mod_place a (chainTo id24 l k).recs.length (by omega)
    obtain ⟨j, hj, hjv⟩ := mod_place b (chainTo id24 l k).recs.length (by omega)
    have HWI : Hid (∀ W, Calls Tryz.prog 11 #[.int .i64 a, .int .i64 0, .int .i64 (((chainTo id24 l k).recs.length : Int) - 1)] W fun e w' => e = .returned (.int .i64 (i : Int)) ∧ W = w') := Lib.hid fun W => by
      have h := within_any a 0 (((chainTo id24 l k).recs.length : Int) - 1) W ha0 ha1 (by decide) (by omega) (by omega)
      rwa [hiv] at h
    have HWJ : Hid (∀ W, Calls Tryz.prog 11 #[.int .i64 b, .int .i64 0, .int .i64 (((chainTo id24 l k).recs.length : Int) - 1)] W fun e w' => e = .returned (.int .i64 (j : Int)) ∧ W = w') := Lib.hid fun W => by
      have h := within_any b 0 (((chainTo id24 l k).recs.length : Int) - 1) W hb0 hb1 (by decide) (by omega) (by omega)
      rwa [hjv] at h
    obtain ⟨i1, hi1, hi2, hi3⟩ := chain_find id24 l k ((i : Int) + 1) (by omega) (by omega)
    obtain ⟨j1, hj1, hj2, hj3⟩ := chain_find id24 l k ((j : Int) + 1) (by omega) (by omega)
    have hmi := chain_make_in id24 l (by omega) hi1 hi2 hi3
    have hmj := chain_make_in id24 l (by omega) hj1 hj2 hj3
    obtain ⟨ri, _, hci, _⟩ := chain_check id24 l (by omega) hi1 hi2 hi3
    have hsi := chain_small id24 l (n := k) (i := i1) (by omega) ((i : Int) + 1)
    have hsj := chain_small id24 l (n := k) (i := j1) (by omega) ((j : Int) + 1)
    have hpq : i = j → chainProof id24 l k i1 ((i : Int) + 1) = chainProof id24 l k j1 ((j : Int) + 1) := fun e => by
      subst e
      rw [hmi] at hmj
      injection hmj
    clear hi2 hi3 hj2 hj3 hiv hjv hi1 hj1 hok
    generalize chainProof id24 l k i1 ((i : Int) + 1) = p at *
    generalize chainProof id24 l k j1 ((j : Int) + 1) = q at *
    generalize chainTo id24 l k = s at *
    generalize id24 = idv at *
    obtain ⟨im, he, al, pv, nx⟩ := s
    dsimp only at hil hhl hlt hi hj hrl hq1 hmi hmj hci hr36 HWI HWJ
    obtain ⟨h1, pl1, lf1, pa1, la1⟩ := p
    obtain ⟨h2, pl2, lf2, pa2, la2⟩ := q
    have HYN : Hid (i = j → checkProof (headSeal idv he) ⟨h1, pl1, lf2, pa1, la1⟩ ≠ none) := Lib.hid fun e h => by
      have h3 := hpq e
      injection h3 with e1 e2 e3 e4 e5
      rw [← e3, hci] at h
      cases h
    have HZN : Hid (pl1 = pl2 → checkProof (headSeal idv he) ⟨h1, pl2, lf1, pa1, la1⟩ ≠ none) := Lib.hid fun e h => by
      rw [← e, hci] at h
      cases h
    have HSY : Hid (SmallP ⟨h1, pl1, lf2, pa1, la1⟩) := Lib.hid ⟨hsj.leaf, hsi.path, hsi.count, hsi.later⟩
    have HSZ : Hid (SmallP ⟨h1, pl2, lf1, pa1, la1⟩) := Lib.hid ⟨hsi.leaf, hsi.path, hsi.count, hsi.later⟩
    have hq6 : la1.length ≤ 1000000 := hsi.later
    generalize hcy : checkProof (headSeal idv he) ⟨h1, pl1, lf2, pa1, la1⟩ = cy at *
    generalize hcz : checkProof (headSeal idv he) ⟨h1, pl2, lf1, pa1, la1⟩ = cz at *
    have HCY := Lib.hid hcy
    have HCZ := Lib.hid hcz
    have HMI := Lib.hid hmi
    have HMJ := Lib.hid hmj
    have HIL := Lib.hid hil
    have HHL := Lib.hid hhl
    have hw1 : IntKind.i64.wrap ((i : Int) + 1) = (i : Int) + 1 := IntWalk.i64_in _ (by omega)
    have hw2 : IntKind.i64.wrap ((j : Int) + 1) = (j : Int) + 1 := IntWalk.i64_in _ (by omega)
    have hw3 : IntKind.u64.wrap ((i : Int) + 1) = (i : Int) + 1 := by rw [IntKind.wrap_u64]; omega
    have hw4 : IntKind.u64.wrap ((j : Int) + 1) = (j : Int) + 1 := by rw [IntKind.wrap_u64]; omega
    have hw5 : IntKind.i64.wrap ((al.length : Int) - 1) = (al.length : Int) - 1 := IntWalk.i64_in _ (by omega)
    have hlt' : ¬ ((al.length : Nat) : Int) < 2 := by omega
    clear hcy hcz hmi hmj hil hhl hpq hci hsi hsj hrl hq1 hlt ha0 ha1 hb0 hb1
    go_enter Tryz.func4, Tryz.ntmps4
    go_wp2_with fail
    refine HCH.out.mono ?_
    rintro e w1 ⟨⟨O, oc, H, hc, R, rc, rfl, ht⟩, k1⟩
    dsimp only at ht ⊢
    rw [HIL.out, HHL.out] at ht ⊢
    have HI := Lib.hid ht.imgs.imgs
    have HH := Lib.hid ht.heads.heads
    have HK1 := Lib.hid k1
    clear ht k1 HCH
    generalize al.length = rl at *
    go_wp2_with fail
    refine (HWI.out w1).mono ?_
    rintro e w' ⟨rfl, rfl⟩
    go_wp2_with fail
    refine (HWJ.out w1).mono ?_
    rintro e w' ⟨rfl, rfl⟩
    go_wp2_with fail
    have HM1 := make_any _ O k oc im ((i : Int) + 1) w1 (HI.out) (by omega)
    rw [HMI.out] at HM1
    refine HM1.mono ?_
    rintro e w20 ⟨⟨P1, R1, L1, Pa1, La1, p1, r1, lc1, pc1, lac1, rfl, hp1, ho1⟩, k10⟩
    dsimp only at hp1 ho1 ⊢
    have k1 := k10.alloc (.cells #[.int .i64 h1.index, .int .u64 h1.first, .int .i64 h1.count, .int .i64 h1.bytes, .slice P1 h1.prev.length p1, .slice R1 h1.root.length r1, .int .i64 pl1, .slice L1 lf1.length lc1, .slice Pa1 pa1.length pc1, .slice La1 la1.length lac1] 36)
    have hX1 := heap_alloc_new w20 (.cells #[.int .i64 h1.index, .int .u64 h1.first, .int .i64 h1.count, .int .i64 h1.bytes, .slice P1 h1.prev.length p1, .slice R1 h1.root.length r1, .int .i64 pl1, .slice L1 lf1.length lc1, .slice Pa1 pa1.length pc1, .slice La1 la1.length lac1] 36)
    have HP1 := Lib.hid (hp1.any.new ((New.refl w20).alloc (.cells #[.int .i64 h1.index, .int .u64 h1.first, .int .i64 h1.count, .int .i64 h1.bytes, .slice P1 h1.prev.length p1, .slice R1 h1.root.length r1, .int .i64 pl1, .slice L1 lf1.length lc1, .slice Pa1 pa1.length pc1, .slice La1 la1.length lac1] 36)))
    have HO1 := Lib.hid ((ho1.heads.imp (E := fun _ => True) fun _ _ _ => trivial).new ((New.refl w20).alloc (.cells #[.int .i64 h1.index, .int .u64 h1.first, .int .i64 h1.count, .int .i64 h1.bytes, .slice P1 h1.prev.length p1, .slice R1 h1.root.length r1, .int .i64 pl1, .slice L1 lf1.length lc1, .slice Pa1 pa1.length pc1, .slice La1 la1.length lac1] 36)))
    have HX1 := Lib.hid hX1
    have HK1m := Lib.hid k1
    clear hp1 ho1 k10 hX1 k1 HM1
    go_upto_region 6 with fail
    generalize w20.alloc (.cells #[.int .i64 h1.index, .int .u64 h1.first, .int .i64 h1.count, .int .i64 h1.bytes, .slice P1 h1.prev.length p1, .slice R1 h1.root.length r1, .int .i64 pl1, .slice L1 lf1.length lc1, .slice Pa1 pa1.length pc1, .slice La1 la1.length lac1] 36) = w2 at *
    generalize w20.heap.size = g1 at *
    go_wp2_with fail
    have HM2 := make_any _ O k oc im ((j : Int) + 1) w2 (HI.out.new HK1m.out) (by omega)
    rw [HMJ.out] at HM2
    refine HM2.mono ?_
    rintro e w30 ⟨⟨P2, R2, L2, Pa2, La2, p2, r2, lc2, pc2, lac2, rfl, hp2, ho2⟩, k20⟩
    dsimp only at hp2 ho2 ⊢
    have k2 := k20.alloc (.cells #[.int .i64 h2.index, .int .u64 h2.first, .int .i64 h2.count, .int .i64 h2.bytes, .slice P2 h2.prev.length p2, .slice R2 h2.root.length r2, .int .i64 pl2, .slice L2 lf2.length lc2, .slice Pa2 pa2.length pc2, .slice La2 la2.length lac2] 36)
    have hX2 := heap_alloc_new w30 (.cells #[.int .i64 h2.index, .int .u64 h2.first, .int .i64 h2.count, .int .i64 h2.bytes, .slice P2 h2.prev.length p2, .slice R2 h2.root.length r2, .int .i64 pl2, .slice L2 lf2.length lc2, .slice Pa2 pa2.length pc2, .slice La2 la2.length lac2] 36)
    have HP2 := Lib.hid (hp2.any.new ((New.refl w30).alloc (.cells #[.int .i64 h2.index, .int .u64 h2.first, .int .i64 h2.count, .int .i64 h2.bytes, .slice P2 h2.prev.length p2, .slice R2 h2.root.length r2, .int .i64 pl2, .slice L2 lf2.length lc2, .slice Pa2 pa2.length pc2, .slice La2 la2.length lac2] 36)))
    have HO2 := Lib.hid ((ho2.heads.imp (E := fun _ => True) fun _ _ _ => trivial).new ((New.refl w30).alloc (.cells #[.int .i64 h2.index, .int .u64 h2.first, .int .i64 h2.count, .int .i64 h2.bytes, .slice P2 h2.prev.length p2, .slice R2 h2.root.length r2, .int .i64 pl2, .slice L2 lf2.length lc2, .slice Pa2 pa2.length pc2, .slice La2 la2.length lac2] 36)))
    have HX2 := Lib.hid hX2
    have HK2m := Lib.hid k2
    clear hp2 ho2 k20 hX2 k2 HM2
    go_upto_region 7 with fail
    generalize w30.alloc (.cells #[.int .i64 h2.index, .int .u64 h2.first, .int .i64 h2.count, .int .i64 h2.bytes, .slice P2 h2.prev.length p2, .slice R2 h2.root.length r2, .int .i64 pl2, .slice L2 lf2.length lc2, .slice Pa2 pa2.length pc2, .slice La2 la2.length lac2] 36) = w3 at *
    generalize w30.heap.size = g2 at *
    have HP1 := Lib.hid (HP1.out.new HK2m.out)
    have HO1 := Lib.hid (HO1.out.new HK2m.out)
    have HX1 := Lib.hid (HK2m.out.blockAt HX1.out trivial)
    have HK3 := Lib.hid (HK1.out.new (HK1m.out.new HK2m.out))
    have HH := Lib.hid (HH.out.new (HK1m.out.new HK2m.out))
    clear HK1 HK1m HK2m HI
    go_wp2_with fail
    refine (HID.out w3).mono ?_
    rintro e w4 ⟨⟨A0, rfl, b0⟩, k4⟩
    go_wp2_with fail
    refine (head18_any _ _ A0 H 16 16 k hc idv he w4 b0 (by decide) (HH.out.new k4) (by omega)).mono ?_
    rintro e w5 ⟨⟨AT, cT, rfl, oT⟩, k5⟩
    have k45 := k4.new k5
    have HT := Lib.hid ((Row.of_own oT).imp (E := fun _ => True) fun _ _ _ => trivial)
    have HP1 := Lib.hid (HP1.out.new k45)
    have HO1 := Lib.hid (HO1.out.new k45)
    have HX1 := Lib.hid (k45.blockAt HX1.out trivial)
    have HP2 := Lib.hid (HP2.out.new k45)
    have HO2 := Lib.hid (HO2.out.new k45)
    have HX2 := Lib.hid (k45.blockAt HX2.out trivial)
    have HK3 := Lib.hid (HK3.out.new k45)
    clear b0 k4 k5 oT k45 HID HH
    generalize headSeal idv he = top at *
    have x0 := cellOf HX1.out (k := 0) rfl
    have x1 := cellOf HX1.out (k := 1) rfl
    have x2 := cellOf HX1.out (k := 2) rfl
    have x3 := cellOf HX1.out (k := 3) rfl
    have x4 := cellOf HX1.out (k := 4) rfl
    have x5 := cellOf HX1.out (k := 5) rfl
    have x6 := cellOf HX1.out (k := 6) rfl
    have x7 := cellOf HX1.out (k := 7) rfl
    have x8 := cellOf HX1.out (k := 8) rfl
    have x9 := cellOf HX1.out (k := 9) rfl
    have HKW := Lib.hid (fun o => (New.refl w5).alloc o)
    have y7 := cellOf ((HKW.out (.cells #[.int .i64 h1.index, .int .u64 h1.first, .int .i64 h1.count, .int .i64 h1.bytes, .slice P1 h1.prev.length p1, .slice R1 h1.root.length r1, .int .i64 pl1, .slice L1 lf1.length lc1, .slice Pa1 pa1.length pc1, .slice La1 la1.length lac1] 36)).blockAt HX2.out trivial) (k := 7) rfl
    have y6 := cellOf ((HKW.out (.cells #[.int .i64 h1.index, .int .u64 h1.first, .int .i64 h1.count, .int .i64 h1.bytes, .slice P1 h1.prev.length p1, .slice R1 h1.root.length r1, .int .i64 pl1, .slice L1 lf1.length lc1, .slice Pa1 pa1.length pc1, .slice La1 la1.length lac1] 36)).blockAt HX2.out trivial) (k := 6) rfl
    have hG := heap_alloc_new w5 (.cells #[.int .i64 h1.index, .int .u64 h1.first, .int .i64 h1.count, .int .i64 h1.bytes, .slice P1 h1.prev.length p1, .slice R1 h1.root.length r1, .int .i64 pl1, .slice L1 lf1.length lc1, .slice Pa1 pa1.length pc1, .slice La1 la1.length lac1] 36)
    have zG := frozenOf hG 7
    have dG := cellOf hG (k := 7) rfl
    go_upto_region 12 with fail
    clear x0 x1 x2 x3 x4 x5 x6 x7 x8 x9
    clear y6 y7 hG zG dG HKW
    have kA := (New.refl w5).alloc (.cells #[.int .i64 h1.index, .int .u64 h1.first, .int .i64 h1.count, .int .i64 h1.bytes, .slice P1 h1.prev.length p1, .slice R1 h1.root.length r1, .int .i64 pl1, .slice L2 lf2.length lc2, .slice Pa1 pa1.length pc1, .slice La1 la1.length lac1] 36)
    have HXY := Lib.hid (heap_alloc_new w5 (.cells #[.int .i64 h1.index, .int .u64 h1.first, .int .i64 h1.count, .int .i64 h1.bytes, .slice P1 h1.prev.length p1, .slice R1 h1.root.length r1, .int .i64 pl1, .slice L2 lf2.length lc2, .slice Pa1 pa1.length pc1, .slice La1 la1.length lac1] 36))
    have HP1 := Lib.hid (HP1.out.new kA)
    have HO1 := Lib.hid (HO1.out.new kA)
    have HX1 := Lib.hid (kA.blockAt HX1.out trivial)
    have HP2 := Lib.hid (HP2.out.new kA)
    have HO2 := Lib.hid (HO2.out.new kA)
    have HX2 := Lib.hid (kA.blockAt HX2.out trivial)
    have HK3 := Lib.hid (HK3.out.new kA)
    have HT := Lib.hid (HT.out.new kA)
    generalize w5.alloc (.cells #[.int .i64 h1.index, .int .u64 h1.first, .int .i64 h1.count, .int .i64 h1.bytes, .slice P1 h1.prev.length p1, .slice R1 h1.root.length r1, .int .i64 pl1, .slice L2 lf2.length lc2, .slice Pa1 pa1.length pc1, .slice La1 la1.length lac1] 36) = w6 at *
    generalize w5.heap.size = gy at *
    clear kA
    have x0 := cellOf HXY.out (k := 0) rfl
    have x1 := cellOf HXY.out (k := 1) rfl
    have x2 := cellOf HXY.out (k := 2) rfl
    have x3 := cellOf HXY.out (k := 3) rfl
    have x4 := cellOf HXY.out (k := 4) rfl
    have x5 := cellOf HXY.out (k := 5) rfl
    have x6 := cellOf HXY.out (k := 6) rfl
    have x7 := cellOf HXY.out (k := 7) rfl
    have x8 := cellOf HXY.out (k := 8) rfl
    have x9 := cellOf HXY.out (k := 9) rfl
    have hC := check_pr (c := cT) (lac := lac1) HT.out (show PrAt _ (fun _ => True) ⟨h1, pl1, lf2, pa1, la1⟩ P1 R1 L2 Pa1 p1 r1 lc2 pc1 from ⟨HP1.out.prev, HP1.out.root, HP2.out.leaf, HP1.out.path, HP1.out.hp, HP1.out.hr, HP2.out.hl, HP2.out.hlm, HP1.out.hpa, HP1.out.hpm, HP1.out.f0, HP1.out.f1⟩) HO1.out HSY.out
    rw [HCY.out] at hC
    dsimp only at hC
    have HC := Lib.hid hC
    clear hC
    go_wp2_with fail
    clear x0 x1 x2 x3 x4 x5 x6 x7 x8 x9
    refine HC.out.mono ?_
    rintro e w6a ⟨⟨AY, cY, rfl, -⟩, kc⟩
    clear HC
    have HP1 := Lib.hid (HP1.out.new kc)
    have HO1 := Lib.hid (HO1.out.new kc)
    have HX1 := Lib.hid (kc.blockAt HX1.out trivial)
    have HP2 := Lib.hid (HP2.out.new kc)
    have HO2 := Lib.hid (HO2.out.new kc)
    have HX2 := Lib.hid (kc.blockAt HX2.out trivial)
    have HK3 := Lib.hid (HK3.out.new kc)
    have HT := Lib.hid (HT.out.new kc)
    have HXY := Lib.hid (kc.blockAt HXY.out trivial)
    clear kc
    go_upto_region 13 with fail
    have kA := (New.refl w6a).alloc (.cells #[.int .i64 (recOr cy).kind, .int .u64 (recOr cy).seq, .slice AY (recOr cy).body.length cY] 42)
    have HRY := Lib.hid (heap_alloc_new w6a (.cells #[.int .i64 (recOr cy).kind, .int .u64 (recOr cy).seq, .slice AY (recOr cy).body.length cY] 42))
    have HP1 := Lib.hid (HP1.out.new kA)
    have HO1 := Lib.hid (HO1.out.new kA)
    have HX1 := Lib.hid (kA.blockAt HX1.out trivial)
    have HP2 := Lib.hid (HP2.out.new kA)
    have HO2 := Lib.hid (HO2.out.new kA)
    have HX2 := Lib.hid (kA.blockAt HX2.out trivial)
    have HK3 := Lib.hid (HK3.out.new kA)
    have HT := Lib.hid (HT.out.new kA)
    have HXY := Lib.hid (kA.blockAt HXY.out trivial)
    generalize w6a.alloc (.cells #[.int .i64 (recOr cy).kind, .int .u64 (recOr cy).seq, .slice AY (recOr cy).body.length cY] 42) = w6b at *
    generalize w6a.heap.size = rY at *
    clear kA
    have x0 := cellOf HXY.out (k := 0) rfl
    have x1 := cellOf HXY.out (k := 1) rfl
    have x2 := cellOf HXY.out (k := 2) rfl
    have x3 := cellOf HXY.out (k := 3) rfl
    have x4 := cellOf HXY.out (k := 4) rfl
    have x5 := cellOf HXY.out (k := 5) rfl
    have x6 := cellOf HXY.out (k := 6) rfl
    have x7 := cellOf HXY.out (k := 7) rfl
    have x8 := cellOf HXY.out (k := 8) rfl
    have x9 := cellOf HXY.out (k := 9) rfl
    have hI := in24_any _ P1 R1 L2 Pa1 La1 p1 r1 lc2 pc1 la1.length lac1 ⟨h1, pl1, lf2, pa1, la1⟩ w6b HO1.out hq6
    dsimp only at hI
    have HN := Lib.hid hI
    clear hI
    go_wp2_with fail
    clear x0 x1 x2 x3 x4 x5 x6 x7 x8 x9
    refine HN.out.mono ?_
    rintro e w6c ⟨⟨BY, dY, rfl, oB⟩, kc⟩
    clear HN
    have HP1 := Lib.hid (HP1.out.new kc)
    have HO1 := Lib.hid (HO1.out.new kc)
    have HX1 := Lib.hid (kc.blockAt HX1.out trivial)
    have HP2 := Lib.hid (HP2.out.new kc)
    have HO2 := Lib.hid (HO2.out.new kc)
    have HX2 := Lib.hid (kc.blockAt HX2.out trivial)
    have HK3 := Lib.hid (HK3.out.new kc)
    have HT := Lib.hid (HT.out.new kc)
    have HXY := Lib.hid (kc.blockAt HXY.out trivial)
    have HRY := Lib.hid (kc.blockAt HRY.out trivial)
    clear kc
    have hC := check24_pr (c := cT) (lac := dY) HT.out (show PrAt _ (fun _ => True) ⟨h1, pl1, lf2, pa1, la1⟩ P1 R1 L2 Pa1 p1 r1 lc2 pc1 from ⟨HP1.out.prev, HP1.out.root, HP2.out.leaf, HP1.out.path, HP1.out.hp, HP1.out.hr, HP2.out.hl, HP2.out.hlm, HP1.out.hpa, HP1.out.hpm, HP1.out.f0, HP1.out.f1⟩) oB.heads HSY.out
    rw [HCY.out] at hC
    dsimp only at hC
    have HC := Lib.hid hC
    clear hC oB
    go_wp2_with fail
    refine HC.out.mono ?_
    rintro e w6d ⟨⟨CY, eY, rfl, -⟩, kc⟩
    clear HC
    have HP1 := Lib.hid (HP1.out.new kc)
    have HO1 := Lib.hid (HO1.out.new kc)
    have HX1 := Lib.hid (kc.blockAt HX1.out trivial)
    have HP2 := Lib.hid (HP2.out.new kc)
    have HO2 := Lib.hid (HO2.out.new kc)
    have HX2 := Lib.hid (kc.blockAt HX2.out trivial)
    have HK3 := Lib.hid (HK3.out.new kc)
    have HT := Lib.hid (HT.out.new kc)
    have HXY := Lib.hid (kc.blockAt HXY.out trivial)
    have HRY := Lib.hid (kc.blockAt HRY.out trivial)
    clear kc
    go_upto_region 14 with fail
    have kA := (New.refl w6d).alloc (.cells #[.int .i64 (recOr cy).kind, .int .u64 (recOr cy).seq, .slice CY (recOr cy).body.length eY] 53)
    have HSYx := Lib.hid (heap_alloc_new w6d (.cells #[.int .i64 (recOr cy).kind, .int .u64 (recOr cy).seq, .slice CY (recOr cy).body.length eY] 53))
    have HP1 := Lib.hid (HP1.out.new kA)
    have HO1 := Lib.hid (HO1.out.new kA)
    have HX1 := Lib.hid (kA.blockAt HX1.out trivial)
    have HP2 := Lib.hid (HP2.out.new kA)
    have HO2 := Lib.hid (HO2.out.new kA)
    have HX2 := Lib.hid (kA.blockAt HX2.out trivial)
    have HK3 := Lib.hid (HK3.out.new kA)
    have HT := Lib.hid (HT.out.new kA)
    have HXY := Lib.hid (kA.blockAt HXY.out trivial)
    have HRY := Lib.hid (kA.blockAt HRY.out trivial)
    generalize w6d.alloc (.cells #[.int .i64 (recOr cy).kind, .int .u64 (recOr cy).seq, .slice CY (recOr cy).body.length eY] 53) = w6e at *
    generalize w6d.heap.size = sY at *
    clear kA
    cases cy with
    | none =>
      have hne : ¬ i = j := fun e => HYN.out e rfl
      have hnb : ((i : Int) == (j : Int)) = false := by rw [beq_eq_false_iff_ne]; omega
      have q1 := cellOf HRY.out (k := 1) rfl
      have q2 := cellOf HRY.out (k := 2) rfl
      simp only [recOr, Option.getD_none, noRec, List.length_nil, Option.isSome_none] at q1 q2 ⊢
      go_upto_region 16 with fail
      clear q1 q2 hne hnb
      clear HXY HRY HSYx
      have x0 := cellOf HX1.out (k := 0) rfl
      have x1 := cellOf HX1.out (k := 1) rfl
      have x2 := cellOf HX1.out (k := 2) rfl
      have x3 := cellOf HX1.out (k := 3) rfl
      have x4 := cellOf HX1.out (k := 4) rfl
      have x5 := cellOf HX1.out (k := 5) rfl
      have x6 := cellOf HX1.out (k := 6) rfl
      have x7 := cellOf HX1.out (k := 7) rfl
      have x8 := cellOf HX1.out (k := 8) rfl
      have x9 := cellOf HX1.out (k := 9) rfl
      have HKW := Lib.hid (fun o => (New.refl w6e).alloc o)
      have y6 := cellOf ((HKW.out (.cells #[.int .i64 h1.index, .int .u64 h1.first, .int .i64 h1.count, .int .i64 h1.bytes, .slice P1 h1.prev.length p1, .slice R1 h1.root.length r1, .int .i64 pl1, .slice L1 lf1.length lc1, .slice Pa1 pa1.length pc1, .slice La1 la1.length lac1] 36)).blockAt HX2.out trivial) (k := 6) rfl
      have hG := heap_alloc_new w6e (.cells #[.int .i64 h1.index, .int .u64 h1.first, .int .i64 h1.count, .int .i64 h1.bytes, .slice P1 h1.prev.length p1, .slice R1 h1.root.length r1, .int .i64 pl1, .slice L1 lf1.length lc1, .slice Pa1 pa1.length pc1, .slice La1 la1.length lac1] 36)
      have zG := frozenOf hG 6
      have dG := cellOf hG (k := 6) rfl
      go_upto_region 18 with fail
      clear x0 x1 x2 x3 x4 x5 x6 x7 x8 x9
      clear y6 hG zG dG HKW
      have kA := (New.refl w6e).alloc (.cells #[.int .i64 h1.index, .int .u64 h1.first, .int .i64 h1.count, .int .i64 h1.bytes, .slice P1 h1.prev.length p1, .slice R1 h1.root.length r1, .int .i64 pl2, .slice L1 lf1.length lc1, .slice Pa1 pa1.length pc1, .slice La1 la1.length lac1] 36)
      have HXZ := Lib.hid (heap_alloc_new w6e (.cells #[.int .i64 h1.index, .int .u64 h1.first, .int .i64 h1.count, .int .i64 h1.bytes, .slice P1 h1.prev.length p1, .slice R1 h1.root.length r1, .int .i64 pl2, .slice L1 lf1.length lc1, .slice Pa1 pa1.length pc1, .slice La1 la1.length lac1] 36))
      have HP1 := Lib.hid (HP1.out.new kA)
      have HO1 := Lib.hid (HO1.out.new kA)
      have HX1 := Lib.hid (kA.blockAt HX1.out trivial)
      have HP2 := Lib.hid (HP2.out.new kA)
      have HO2 := Lib.hid (HO2.out.new kA)
      have HX2 := Lib.hid (kA.blockAt HX2.out trivial)
      have HK3 := Lib.hid (HK3.out.new kA)
      have HT := Lib.hid (HT.out.new kA)
      generalize w6e.alloc (.cells #[.int .i64 h1.index, .int .u64 h1.first, .int .i64 h1.count, .int .i64 h1.bytes, .slice P1 h1.prev.length p1, .slice R1 h1.root.length r1, .int .i64 pl2, .slice L1 lf1.length lc1, .slice Pa1 pa1.length pc1, .slice La1 la1.length lac1] 36) = w7 at *
      generalize w6e.heap.size = gz at *
      clear kA
      have x0 := cellOf HXZ.out (k := 0) rfl
      have x1 := cellOf HXZ.out (k := 1) rfl
      have x2 := cellOf HXZ.out (k := 2) rfl
      have x3 := cellOf HXZ.out (k := 3) rfl
      have x4 := cellOf HXZ.out (k := 4) rfl
      have x5 := cellOf HXZ.out (k := 5) rfl
      have x6 := cellOf HXZ.out (k := 6) rfl
      have x7 := cellOf HXZ.out (k := 7) rfl
      have x8 := cellOf HXZ.out (k := 8) rfl
      have x9 := cellOf HXZ.out (k := 9) rfl
      have hC := check_pr (c := cT) (lac := lac1) HT.out (show PrAt _ (fun _ => True) ⟨h1, pl2, lf1, pa1, la1⟩ P1 R1 L1 Pa1 p1 r1 lc1 pc1 from ⟨HP1.out.prev, HP1.out.root, HP1.out.leaf, HP1.out.path, HP1.out.hp, HP1.out.hr, HP1.out.hl, HP1.out.hlm, HP1.out.hpa, HP1.out.hpm, HP1.out.f0, HP1.out.f1⟩) HO1.out HSZ.out
      rw [HCZ.out] at hC
      dsimp only at hC
      have HC := Lib.hid hC
      clear hC
      go_wp2_with fail
      clear x0 x1 x2 x3 x4 x5 x6 x7 x8 x9
      refine HC.out.mono ?_
      rintro e w7a ⟨⟨AZ, cZ, rfl, -⟩, kc⟩
      clear HC
      have HP1 := Lib.hid (HP1.out.new kc)
      have HO1 := Lib.hid (HO1.out.new kc)
      have HX1 := Lib.hid (kc.blockAt HX1.out trivial)
      have HP2 := Lib.hid (HP2.out.new kc)
      have HO2 := Lib.hid (HO2.out.new kc)
      have HX2 := Lib.hid (kc.blockAt HX2.out trivial)
      have HK3 := Lib.hid (HK3.out.new kc)
      have HT := Lib.hid (HT.out.new kc)
      have HXZ := Lib.hid (kc.blockAt HXZ.out trivial)
      clear kc
      go_upto_region 19 with fail
      have kA := (New.refl w7a).alloc (.cells #[.int .i64 (recOr cz).kind, .int .u64 (recOr cz).seq, .slice AZ (recOr cz).body.length cZ] 42)
      have HRZ := Lib.hid (heap_alloc_new w7a (.cells #[.int .i64 (recOr cz).kind, .int .u64 (recOr cz).seq, .slice AZ (recOr cz).body.length cZ] 42))
      have HP1 := Lib.hid (HP1.out.new kA)
      have HO1 := Lib.hid (HO1.out.new kA)
      have HX1 := Lib.hid (kA.blockAt HX1.out trivial)
      have HP2 := Lib.hid (HP2.out.new kA)
      have HO2 := Lib.hid (HO2.out.new kA)
      have HX2 := Lib.hid (kA.blockAt HX2.out trivial)
      have HK3 := Lib.hid (HK3.out.new kA)
      have HT := Lib.hid (HT.out.new kA)
      have HXZ := Lib.hid (kA.blockAt HXZ.out trivial)
      generalize w7a.alloc (.cells #[.int .i64 (recOr cz).kind, .int .u64 (recOr cz).seq, .slice AZ (recOr cz).body.length cZ] 42) = w7b at *
      generalize w7a.heap.size = rZ at *
      clear kA
      have x0 := cellOf HXZ.out (k := 0) rfl
      have x1 := cellOf HXZ.out (k := 1) rfl
      have x2 := cellOf HXZ.out (k := 2) rfl
      have x3 := cellOf HXZ.out (k := 3) rfl
      have x4 := cellOf HXZ.out (k := 4) rfl
      have x5 := cellOf HXZ.out (k := 5) rfl
      have x6 := cellOf HXZ.out (k := 6) rfl
      have x7 := cellOf HXZ.out (k := 7) rfl
      have x8 := cellOf HXZ.out (k := 8) rfl
      have x9 := cellOf HXZ.out (k := 9) rfl
      have hI := in24_any _ P1 R1 L1 Pa1 La1 p1 r1 lc1 pc1 la1.length lac1 ⟨h1, pl2, lf1, pa1, la1⟩ w7b HO1.out hq6
      dsimp only at hI
      have HN := Lib.hid hI
      clear hI
      go_wp2_with fail
      clear x0 x1 x2 x3 x4 x5 x6 x7 x8 x9
      refine HN.out.mono ?_
      rintro e w7c ⟨⟨BZ, dZ, rfl, oB⟩, kc⟩
      clear HN
      have HP1 := Lib.hid (HP1.out.new kc)
      have HO1 := Lib.hid (HO1.out.new kc)
      have HX1 := Lib.hid (kc.blockAt HX1.out trivial)
      have HP2 := Lib.hid (HP2.out.new kc)
      have HO2 := Lib.hid (HO2.out.new kc)
      have HX2 := Lib.hid (kc.blockAt HX2.out trivial)
      have HK3 := Lib.hid (HK3.out.new kc)
      have HT := Lib.hid (HT.out.new kc)
      have HXZ := Lib.hid (kc.blockAt HXZ.out trivial)
      have HRZ := Lib.hid (kc.blockAt HRZ.out trivial)
      clear kc
      have hC := check24_pr (c := cT) (lac := dZ) HT.out (show PrAt _ (fun _ => True) ⟨h1, pl2, lf1, pa1, la1⟩ P1 R1 L1 Pa1 p1 r1 lc1 pc1 from ⟨HP1.out.prev, HP1.out.root, HP1.out.leaf, HP1.out.path, HP1.out.hp, HP1.out.hr, HP1.out.hl, HP1.out.hlm, HP1.out.hpa, HP1.out.hpm, HP1.out.f0, HP1.out.f1⟩) oB.heads HSZ.out
      rw [HCZ.out] at hC
      dsimp only at hC
      have HC := Lib.hid hC
      clear hC oB
      go_wp2_with fail
      refine HC.out.mono ?_
      rintro e w7d ⟨⟨CZ, eZ, rfl, -⟩, kc⟩
      clear HC
      have HP1 := Lib.hid (HP1.out.new kc)
      have HO1 := Lib.hid (HO1.out.new kc)
      have HX1 := Lib.hid (kc.blockAt HX1.out trivial)
      have HP2 := Lib.hid (HP2.out.new kc)
      have HO2 := Lib.hid (HO2.out.new kc)
      have HX2 := Lib.hid (kc.blockAt HX2.out trivial)
      have HK3 := Lib.hid (HK3.out.new kc)
      have HT := Lib.hid (HT.out.new kc)
      have HXZ := Lib.hid (kc.blockAt HXZ.out trivial)
      have HRZ := Lib.hid (kc.blockAt HRZ.out trivial)
      clear kc
      go_upto_region 20 with fail
      have kA := (New.refl w7d).alloc (.cells #[.int .i64 (recOr cz).kind, .int .u64 (recOr cz).seq, .slice CZ (recOr cz).body.length eZ] 53)
      have HSZx := Lib.hid (heap_alloc_new w7d (.cells #[.int .i64 (recOr cz).kind, .int .u64 (recOr cz).seq, .slice CZ (recOr cz).body.length eZ] 53))
      have HP1 := Lib.hid (HP1.out.new kA)
      have HO1 := Lib.hid (HO1.out.new kA)
      have HX1 := Lib.hid (kA.blockAt HX1.out trivial)
      have HP2 := Lib.hid (HP2.out.new kA)
      have HO2 := Lib.hid (HO2.out.new kA)
      have HX2 := Lib.hid (kA.blockAt HX2.out trivial)
      have HK3 := Lib.hid (HK3.out.new kA)
      have HT := Lib.hid (HT.out.new kA)
      have HXZ := Lib.hid (kA.blockAt HXZ.out trivial)
      have HRZ := Lib.hid (kA.blockAt HRZ.out trivial)
      generalize w7d.alloc (.cells #[.int .i64 (recOr cz).kind, .int .u64 (recOr cz).seq, .slice CZ (recOr cz).body.length eZ] 53) = w7e at *
      generalize w7d.heap.size = sZ at *
      clear kA
      have x6 := cellOf HX1.out (k := 6) rfl
      have y6 := cellOf HX2.out (k := 6) rfl
      cases cz with
      | none =>
        have hne : ¬ pl1 = pl2 := fun e => HZN.out e rfl
        have hnb : (pl1 != pl2) = true := by simpa using hne
        simp only [Option.isSome_none]
        go_wp2_with fail
        refine (HKN.out w7e).mono ?_
        rintro e w8 ⟨rfl, k8⟩
        go_wp2_with fail
        go_ret
        exact ⟨rfl, HK3.out.new k8⟩
      | some r =>
        simp only [Option.isSome_some]
        cases hnb : (pl1 != pl2)
        · skip
          go_wp2_with fail
          refine (HKN.out w7e).mono ?_
          rintro e w8 ⟨rfl, k8⟩
          go_wp2_with fail
          go_ret
          exact ⟨rfl, HK3.out.new k8⟩
        · skip
          go_wp2_with fail
          refine (HKN.out w7e).mono ?_
          rintro e w8 ⟨rfl, k8⟩
          go_wp2_with fail
          go_ret
          exact ⟨rfl, HK3.out.new k8⟩
    | some r =>
      simp only [recOr, Option.getD_some, Option.isSome_some]
      cases hnb : ((i : Int) == (j : Int))
      · skip
        go_upto_region 16 with fail
        clear hnb
        clear HXY HRY HSYx
        have x0 := cellOf HX1.out (k := 0) rfl
        have x1 := cellOf HX1.out (k := 1) rfl
        have x2 := cellOf HX1.out (k := 2) rfl
        have x3 := cellOf HX1.out (k := 3) rfl
        have x4 := cellOf HX1.out (k := 4) rfl
        have x5 := cellOf HX1.out (k := 5) rfl
        have x6 := cellOf HX1.out (k := 6) rfl
        have x7 := cellOf HX1.out (k := 7) rfl
        have x8 := cellOf HX1.out (k := 8) rfl
        have x9 := cellOf HX1.out (k := 9) rfl
        have HKW := Lib.hid (fun o => (New.refl w6e).alloc o)
        have y6 := cellOf ((HKW.out (.cells #[.int .i64 h1.index, .int .u64 h1.first, .int .i64 h1.count, .int .i64 h1.bytes, .slice P1 h1.prev.length p1, .slice R1 h1.root.length r1, .int .i64 pl1, .slice L1 lf1.length lc1, .slice Pa1 pa1.length pc1, .slice La1 la1.length lac1] 36)).blockAt HX2.out trivial) (k := 6) rfl
        have hG := heap_alloc_new w6e (.cells #[.int .i64 h1.index, .int .u64 h1.first, .int .i64 h1.count, .int .i64 h1.bytes, .slice P1 h1.prev.length p1, .slice R1 h1.root.length r1, .int .i64 pl1, .slice L1 lf1.length lc1, .slice Pa1 pa1.length pc1, .slice La1 la1.length lac1] 36)
        have zG := frozenOf hG 6
        have dG := cellOf hG (k := 6) rfl
        go_upto_region 18 with fail
        clear x0 x1 x2 x3 x4 x5 x6 x7 x8 x9
        clear y6 hG zG dG HKW
        have kA := (New.refl w6e).alloc (.cells #[.int .i64 h1.index, .int .u64 h1.first, .int .i64 h1.count, .int .i64 h1.bytes, .slice P1 h1.prev.length p1, .slice R1 h1.root.length r1, .int .i64 pl2, .slice L1 lf1.length lc1, .slice Pa1 pa1.length pc1, .slice La1 la1.length lac1] 36)
        have HXZ := Lib.hid (heap_alloc_new w6e (.cells #[.int .i64 h1.index, .int .u64 h1.first, .int .i64 h1.count, .int .i64 h1.bytes, .slice P1 h1.prev.length p1, .slice R1 h1.root.length r1, .int .i64 pl2, .slice L1 lf1.length lc1, .slice Pa1 pa1.length pc1, .slice La1 la1.length lac1] 36))
        have HP1 := Lib.hid (HP1.out.new kA)
        have HO1 := Lib.hid (HO1.out.new kA)
        have HX1 := Lib.hid (kA.blockAt HX1.out trivial)
        have HP2 := Lib.hid (HP2.out.new kA)
        have HO2 := Lib.hid (HO2.out.new kA)
        have HX2 := Lib.hid (kA.blockAt HX2.out trivial)
        have HK3 := Lib.hid (HK3.out.new kA)
        have HT := Lib.hid (HT.out.new kA)
        generalize w6e.alloc (.cells #[.int .i64 h1.index, .int .u64 h1.first, .int .i64 h1.count, .int .i64 h1.bytes, .slice P1 h1.prev.length p1, .slice R1 h1.root.length r1, .int .i64 pl2, .slice L1 lf1.length lc1, .slice Pa1 pa1.length pc1, .slice La1 la1.length lac1] 36) = w7 at *
        generalize w6e.heap.size = gz at *
        clear kA
        have x0 := cellOf HXZ.out (k := 0) rfl
        have x1 := cellOf HXZ.out (k := 1) rfl
        have x2 := cellOf HXZ.out (k := 2) rfl
        have x3 := cellOf HXZ.out (k := 3) rfl
        have x4 := cellOf HXZ.out (k := 4) rfl
        have x5 := cellOf HXZ.out (k := 5) rfl
        have x6 := cellOf HXZ.out (k := 6) rfl
        have x7 := cellOf HXZ.out (k := 7) rfl
        have x8 := cellOf HXZ.out (k := 8) rfl
        have x9 := cellOf HXZ.out (k := 9) rfl
        have hC := check_pr (c := cT) (lac := lac1) HT.out (show PrAt _ (fun _ => True) ⟨h1, pl2, lf1, pa1, la1⟩ P1 R1 L1 Pa1 p1 r1 lc1 pc1 from ⟨HP1.out.prev, HP1.out.root, HP1.out.leaf, HP1.out.path, HP1.out.hp, HP1.out.hr, HP1.out.hl, HP1.out.hlm, HP1.out.hpa, HP1.out.hpm, HP1.out.f0, HP1.out.f1⟩) HO1.out HSZ.out
        rw [HCZ.out] at hC
        dsimp only at hC
        have HC := Lib.hid hC
        clear hC
        go_wp2_with fail
        clear x0 x1 x2 x3 x4 x5 x6 x7 x8 x9
        refine HC.out.mono ?_
        rintro e w7a ⟨⟨AZ, cZ, rfl, -⟩, kc⟩
        clear HC
        have HP1 := Lib.hid (HP1.out.new kc)
        have HO1 := Lib.hid (HO1.out.new kc)
        have HX1 := Lib.hid (kc.blockAt HX1.out trivial)
        have HP2 := Lib.hid (HP2.out.new kc)
        have HO2 := Lib.hid (HO2.out.new kc)
        have HX2 := Lib.hid (kc.blockAt HX2.out trivial)
        have HK3 := Lib.hid (HK3.out.new kc)
        have HT := Lib.hid (HT.out.new kc)
        have HXZ := Lib.hid (kc.blockAt HXZ.out trivial)
        clear kc
        go_upto_region 19 with fail
        have kA := (New.refl w7a).alloc (.cells #[.int .i64 (recOr cz).kind, .int .u64 (recOr cz).seq, .slice AZ (recOr cz).body.length cZ] 42)
        have HRZ := Lib.hid (heap_alloc_new w7a (.cells #[.int .i64 (recOr cz).kind, .int .u64 (recOr cz).seq, .slice AZ (recOr cz).body.length cZ] 42))
        have HP1 := Lib.hid (HP1.out.new kA)
        have HO1 := Lib.hid (HO1.out.new kA)
        have HX1 := Lib.hid (kA.blockAt HX1.out trivial)
        have HP2 := Lib.hid (HP2.out.new kA)
        have HO2 := Lib.hid (HO2.out.new kA)
        have HX2 := Lib.hid (kA.blockAt HX2.out trivial)
        have HK3 := Lib.hid (HK3.out.new kA)
        have HT := Lib.hid (HT.out.new kA)
        have HXZ := Lib.hid (kA.blockAt HXZ.out trivial)
        generalize w7a.alloc (.cells #[.int .i64 (recOr cz).kind, .int .u64 (recOr cz).seq, .slice AZ (recOr cz).body.length cZ] 42) = w7b at *
        generalize w7a.heap.size = rZ at *
        clear kA
        have x0 := cellOf HXZ.out (k := 0) rfl
        have x1 := cellOf HXZ.out (k := 1) rfl
        have x2 := cellOf HXZ.out (k := 2) rfl
        have x3 := cellOf HXZ.out (k := 3) rfl
        have x4 := cellOf HXZ.out (k := 4) rfl
        have x5 := cellOf HXZ.out (k := 5) rfl
        have x6 := cellOf HXZ.out (k := 6) rfl
        have x7 := cellOf HXZ.out (k := 7) rfl
        have x8 := cellOf HXZ.out (k := 8) rfl
        have x9 := cellOf HXZ.out (k := 9) rfl
        have hI := in24_any _ P1 R1 L1 Pa1 La1 p1 r1 lc1 pc1 la1.length lac1 ⟨h1, pl2, lf1, pa1, la1⟩ w7b HO1.out hq6
        dsimp only at hI
        have HN := Lib.hid hI
        clear hI
        go_wp2_with fail
        clear x0 x1 x2 x3 x4 x5 x6 x7 x8 x9
        refine HN.out.mono ?_
        rintro e w7c ⟨⟨BZ, dZ, rfl, oB⟩, kc⟩
        clear HN
        have HP1 := Lib.hid (HP1.out.new kc)
        have HO1 := Lib.hid (HO1.out.new kc)
        have HX1 := Lib.hid (kc.blockAt HX1.out trivial)
        have HP2 := Lib.hid (HP2.out.new kc)
        have HO2 := Lib.hid (HO2.out.new kc)
        have HX2 := Lib.hid (kc.blockAt HX2.out trivial)
        have HK3 := Lib.hid (HK3.out.new kc)
        have HT := Lib.hid (HT.out.new kc)
        have HXZ := Lib.hid (kc.blockAt HXZ.out trivial)
        have HRZ := Lib.hid (kc.blockAt HRZ.out trivial)
        clear kc
        have hC := check24_pr (c := cT) (lac := dZ) HT.out (show PrAt _ (fun _ => True) ⟨h1, pl2, lf1, pa1, la1⟩ P1 R1 L1 Pa1 p1 r1 lc1 pc1 from ⟨HP1.out.prev, HP1.out.root, HP1.out.leaf, HP1.out.path, HP1.out.hp, HP1.out.hr, HP1.out.hl, HP1.out.hlm, HP1.out.hpa, HP1.out.hpm, HP1.out.f0, HP1.out.f1⟩) oB.heads HSZ.out
        rw [HCZ.out] at hC
        dsimp only at hC
        have HC := Lib.hid hC
        clear hC oB
        go_wp2_with fail
        refine HC.out.mono ?_
        rintro e w7d ⟨⟨CZ, eZ, rfl, -⟩, kc⟩
        clear HC
        have HP1 := Lib.hid (HP1.out.new kc)
        have HO1 := Lib.hid (HO1.out.new kc)
        have HX1 := Lib.hid (kc.blockAt HX1.out trivial)
        have HP2 := Lib.hid (HP2.out.new kc)
        have HO2 := Lib.hid (HO2.out.new kc)
        have HX2 := Lib.hid (kc.blockAt HX2.out trivial)
        have HK3 := Lib.hid (HK3.out.new kc)
        have HT := Lib.hid (HT.out.new kc)
        have HXZ := Lib.hid (kc.blockAt HXZ.out trivial)
        have HRZ := Lib.hid (kc.blockAt HRZ.out trivial)
        clear kc
        go_upto_region 20 with fail
        have kA := (New.refl w7d).alloc (.cells #[.int .i64 (recOr cz).kind, .int .u64 (recOr cz).seq, .slice CZ (recOr cz).body.length eZ] 53)
        have HSZx := Lib.hid (heap_alloc_new w7d (.cells #[.int .i64 (recOr cz).kind, .int .u64 (recOr cz).seq, .slice CZ (recOr cz).body.length eZ] 53))
        have HP1 := Lib.hid (HP1.out.new kA)
        have HO1 := Lib.hid (HO1.out.new kA)
        have HX1 := Lib.hid (kA.blockAt HX1.out trivial)
        have HP2 := Lib.hid (HP2.out.new kA)
        have HO2 := Lib.hid (HO2.out.new kA)
        have HX2 := Lib.hid (kA.blockAt HX2.out trivial)
        have HK3 := Lib.hid (HK3.out.new kA)
        have HT := Lib.hid (HT.out.new kA)
        have HXZ := Lib.hid (kA.blockAt HXZ.out trivial)
        have HRZ := Lib.hid (kA.blockAt HRZ.out trivial)
        generalize w7d.alloc (.cells #[.int .i64 (recOr cz).kind, .int .u64 (recOr cz).seq, .slice CZ (recOr cz).body.length eZ] 53) = w7e at *
        generalize w7d.heap.size = sZ at *
        clear kA
        have x6 := cellOf HX1.out (k := 6) rfl
        have y6 := cellOf HX2.out (k := 6) rfl
        cases cz with
        | none =>
          have hne : ¬ pl1 = pl2 := fun e => HZN.out e rfl
          have hnb : (pl1 != pl2) = true := by simpa using hne
          simp only [Option.isSome_none]
          go_wp2_with fail
          refine (HKN.out w7e).mono ?_
          rintro e w8 ⟨rfl, k8⟩
          go_wp2_with fail
          go_ret
          exact ⟨rfl, HK3.out.new k8⟩
        | some r =>
          simp only [Option.isSome_some]
          cases hnb : (pl1 != pl2)
          · skip
            go_wp2_with fail
            refine (HKN.out w7e).mono ?_
            rintro e w8 ⟨rfl, k8⟩
            go_wp2_with fail
            go_ret
            exact ⟨rfl, HK3.out.new k8⟩
          · skip
            go_wp2_with fail
            refine (HKN.out w7e).mono ?_
            rintro e w8 ⟨rfl, k8⟩
            go_wp2_with fail
            go_ret
            exact ⟨rfl, HK3.out.new k8⟩
      · skip
        go_upto_region 16 with fail
        clear hnb
        clear HXY HRY HSYx
        have x0 := cellOf HX1.out (k := 0) rfl
        have x1 := cellOf HX1.out (k := 1) rfl
        have x2 := cellOf HX1.out (k := 2) rfl
        have x3 := cellOf HX1.out (k := 3) rfl
        have x4 := cellOf HX1.out (k := 4) rfl
        have x5 := cellOf HX1.out (k := 5) rfl
        have x6 := cellOf HX1.out (k := 6) rfl
        have x7 := cellOf HX1.out (k := 7) rfl
        have x8 := cellOf HX1.out (k := 8) rfl
        have x9 := cellOf HX1.out (k := 9) rfl
        have HKW := Lib.hid (fun o => (New.refl w6e).alloc o)
        have y6 := cellOf ((HKW.out (.cells #[.int .i64 h1.index, .int .u64 h1.first, .int .i64 h1.count, .int .i64 h1.bytes, .slice P1 h1.prev.length p1, .slice R1 h1.root.length r1, .int .i64 pl1, .slice L1 lf1.length lc1, .slice Pa1 pa1.length pc1, .slice La1 la1.length lac1] 36)).blockAt HX2.out trivial) (k := 6) rfl
        have hG := heap_alloc_new w6e (.cells #[.int .i64 h1.index, .int .u64 h1.first, .int .i64 h1.count, .int .i64 h1.bytes, .slice P1 h1.prev.length p1, .slice R1 h1.root.length r1, .int .i64 pl1, .slice L1 lf1.length lc1, .slice Pa1 pa1.length pc1, .slice La1 la1.length lac1] 36)
        have zG := frozenOf hG 6
        have dG := cellOf hG (k := 6) rfl
        go_upto_region 18 with fail
        clear x0 x1 x2 x3 x4 x5 x6 x7 x8 x9
        clear y6 hG zG dG HKW
        have kA := (New.refl w6e).alloc (.cells #[.int .i64 h1.index, .int .u64 h1.first, .int .i64 h1.count, .int .i64 h1.bytes, .slice P1 h1.prev.length p1, .slice R1 h1.root.length r1, .int .i64 pl2, .slice L1 lf1.length lc1, .slice Pa1 pa1.length pc1, .slice La1 la1.length lac1] 36)
        have HXZ := Lib.hid (heap_alloc_new w6e (.cells #[.int .i64 h1.index, .int .u64 h1.first, .int .i64 h1.count, .int .i64 h1.bytes, .slice P1 h1.prev.length p1, .slice R1 h1.root.length r1, .int .i64 pl2, .slice L1 lf1.length lc1, .slice Pa1 pa1.length pc1, .slice La1 la1.length lac1] 36))
        have HP1 := Lib.hid (HP1.out.new kA)
        have HO1 := Lib.hid (HO1.out.new kA)
        have HX1 := Lib.hid (kA.blockAt HX1.out trivial)
        have HP2 := Lib.hid (HP2.out.new kA)
        have HO2 := Lib.hid (HO2.out.new kA)
        have HX2 := Lib.hid (kA.blockAt HX2.out trivial)
        have HK3 := Lib.hid (HK3.out.new kA)
        have HT := Lib.hid (HT.out.new kA)
        generalize w6e.alloc (.cells #[.int .i64 h1.index, .int .u64 h1.first, .int .i64 h1.count, .int .i64 h1.bytes, .slice P1 h1.prev.length p1, .slice R1 h1.root.length r1, .int .i64 pl2, .slice L1 lf1.length lc1, .slice Pa1 pa1.length pc1, .slice La1 la1.length lac1] 36) = w7 at *
        generalize w6e.heap.size = gz at *
        clear kA
        have x0 := cellOf HXZ.out (k := 0) rfl
        have x1 := cellOf HXZ.out (k := 1) rfl
        have x2 := cellOf HXZ.out (k := 2) rfl
        have x3 := cellOf HXZ.out (k := 3) rfl
        have x4 := cellOf HXZ.out (k := 4) rfl
        have x5 := cellOf HXZ.out (k := 5) rfl
        have x6 := cellOf HXZ.out (k := 6) rfl
        have x7 := cellOf HXZ.out (k := 7) rfl
        have x8 := cellOf HXZ.out (k := 8) rfl
        have x9 := cellOf HXZ.out (k := 9) rfl
        have hC := check_pr (c := cT) (lac := lac1) HT.out (show PrAt _ (fun _ => True) ⟨h1, pl2, lf1, pa1, la1⟩ P1 R1 L1 Pa1 p1 r1 lc1 pc1 from ⟨HP1.out.prev, HP1.out.root, HP1.out.leaf, HP1.out.path, HP1.out.hp, HP1.out.hr, HP1.out.hl, HP1.out.hlm, HP1.out.hpa, HP1.out.hpm, HP1.out.f0, HP1.out.f1⟩) HO1.out HSZ.out
        rw [HCZ.out] at hC
        dsimp only at hC
        have HC := Lib.hid hC
        clear hC
        go_wp2_with fail
        clear x0 x1 x2 x3 x4 x5 x6 x7 x8 x9
        refine HC.out.mono ?_
        rintro e w7a ⟨⟨AZ, cZ, rfl, -⟩, kc⟩
        clear HC
        have HP1 := Lib.hid (HP1.out.new kc)
        have HO1 := Lib.hid (HO1.out.new kc)
        have HX1 := Lib.hid (kc.blockAt HX1.out trivial)
        have HP2 := Lib.hid (HP2.out.new kc)
        have HO2 := Lib.hid (HO2.out.new kc)
        have HX2 := Lib.hid (kc.blockAt HX2.out trivial)
        have HK3 := Lib.hid (HK3.out.new kc)
        have HT := Lib.hid (HT.out.new kc)
        have HXZ := Lib.hid (kc.blockAt HXZ.out trivial)
        clear kc
        go_upto_region 19 with fail
        have kA := (New.refl w7a).alloc (.cells #[.int .i64 (recOr cz).kind, .int .u64 (recOr cz).seq, .slice AZ (recOr cz).body.length cZ] 42)
        have HRZ := Lib.hid (heap_alloc_new w7a (.cells #[.int .i64 (recOr cz).kind, .int .u64 (recOr cz).seq, .slice AZ (recOr cz).body.length cZ] 42))
        have HP1 := Lib.hid (HP1.out.new kA)
        have HO1 := Lib.hid (HO1.out.new kA)
        have HX1 := Lib.hid (kA.blockAt HX1.out trivial)
        have HP2 := Lib.hid (HP2.out.new kA)
        have HO2 := Lib.hid (HO2.out.new kA)
        have HX2 := Lib.hid (kA.blockAt HX2.out trivial)
        have HK3 := Lib.hid (HK3.out.new kA)
        have HT := Lib.hid (HT.out.new kA)
        have HXZ := Lib.hid (kA.blockAt HXZ.out trivial)
        generalize w7a.alloc (.cells #[.int .i64 (recOr cz).kind, .int .u64 (recOr cz).seq, .slice AZ (recOr cz).body.length cZ] 42) = w7b at *
        generalize w7a.heap.size = rZ at *
        clear kA
        have x0 := cellOf HXZ.out (k := 0) rfl
        have x1 := cellOf HXZ.out (k := 1) rfl
        have x2 := cellOf HXZ.out (k := 2) rfl
        have x3 := cellOf HXZ.out (k := 3) rfl
        have x4 := cellOf HXZ.out (k := 4) rfl
        have x5 := cellOf HXZ.out (k := 5) rfl
        have x6 := cellOf HXZ.out (k := 6) rfl
        have x7 := cellOf HXZ.out (k := 7) rfl
        have x8 := cellOf HXZ.out (k := 8) rfl
        have x9 := cellOf HXZ.out (k := 9) rfl
        have hI := in24_any _ P1 R1 L1 Pa1 La1 p1 r1 lc1 pc1 la1.length lac1 ⟨h1, pl2, lf1, pa1, la1⟩ w7b HO1.out hq6
        dsimp only at hI
        have HN := Lib.hid hI
        clear hI
        go_wp2_with fail
        clear x0 x1 x2 x3 x4 x5 x6 x7 x8 x9
        refine HN.out.mono ?_
        rintro e w7c ⟨⟨BZ, dZ, rfl, oB⟩, kc⟩
        clear HN
        have HP1 := Lib.hid (HP1.out.new kc)
        have HO1 := Lib.hid (HO1.out.new kc)
        have HX1 := Lib.hid (kc.blockAt HX1.out trivial)
        have HP2 := Lib.hid (HP2.out.new kc)
        have HO2 := Lib.hid (HO2.out.new kc)
        have HX2 := Lib.hid (kc.blockAt HX2.out trivial)
        have HK3 := Lib.hid (HK3.out.new kc)
        have HT := Lib.hid (HT.out.new kc)
        have HXZ := Lib.hid (kc.blockAt HXZ.out trivial)
        have HRZ := Lib.hid (kc.blockAt HRZ.out trivial)
        clear kc
        have hC := check24_pr (c := cT) (lac := dZ) HT.out (show PrAt _ (fun _ => True) ⟨h1, pl2, lf1, pa1, la1⟩ P1 R1 L1 Pa1 p1 r1 lc1 pc1 from ⟨HP1.out.prev, HP1.out.root, HP1.out.leaf, HP1.out.path, HP1.out.hp, HP1.out.hr, HP1.out.hl, HP1.out.hlm, HP1.out.hpa, HP1.out.hpm, HP1.out.f0, HP1.out.f1⟩) oB.heads HSZ.out
        rw [HCZ.out] at hC
        dsimp only at hC
        have HC := Lib.hid hC
        clear hC oB
        go_wp2_with fail
        refine HC.out.mono ?_
        rintro e w7d ⟨⟨CZ, eZ, rfl, -⟩, kc⟩
        clear HC
        have HP1 := Lib.hid (HP1.out.new kc)
        have HO1 := Lib.hid (HO1.out.new kc)
        have HX1 := Lib.hid (kc.blockAt HX1.out trivial)
        have HP2 := Lib.hid (HP2.out.new kc)
        have HO2 := Lib.hid (HO2.out.new kc)
        have HX2 := Lib.hid (kc.blockAt HX2.out trivial)
        have HK3 := Lib.hid (HK3.out.new kc)
        have HT := Lib.hid (HT.out.new kc)
        have HXZ := Lib.hid (kc.blockAt HXZ.out trivial)
        have HRZ := Lib.hid (kc.blockAt HRZ.out trivial)
        clear kc
        go_upto_region 20 with fail
        have kA := (New.refl w7d).alloc (.cells #[.int .i64 (recOr cz).kind, .int .u64 (recOr cz).seq, .slice CZ (recOr cz).body.length eZ] 53)
        have HSZx := Lib.hid (heap_alloc_new w7d (.cells #[.int .i64 (recOr cz).kind, .int .u64 (recOr cz).seq, .slice CZ (recOr cz).body.length eZ] 53))
        have HP1 := Lib.hid (HP1.out.new kA)
        have HO1 := Lib.hid (HO1.out.new kA)
        have HX1 := Lib.hid (kA.blockAt HX1.out trivial)
        have HP2 := Lib.hid (HP2.out.new kA)
        have HO2 := Lib.hid (HO2.out.new kA)
        have HX2 := Lib.hid (kA.blockAt HX2.out trivial)
        have HK3 := Lib.hid (HK3.out.new kA)
        have HT := Lib.hid (HT.out.new kA)
        have HXZ := Lib.hid (kA.blockAt HXZ.out trivial)
        have HRZ := Lib.hid (kA.blockAt HRZ.out trivial)
        generalize w7d.alloc (.cells #[.int .i64 (recOr cz).kind, .int .u64 (recOr cz).seq, .slice CZ (recOr cz).body.length eZ] 53) = w7e at *
        generalize w7d.heap.size = sZ at *
        clear kA
        have x6 := cellOf HX1.out (k := 6) rfl
        have y6 := cellOf HX2.out (k := 6) rfl
        cases cz with
        | none =>
          have hne : ¬ pl1 = pl2 := fun e => HZN.out e rfl
          have hnb : (pl1 != pl2) = true := by simpa using hne
          simp only [Option.isSome_none]
          go_wp2_with fail
          refine (HKN.out w7e).mono ?_
          rintro e w8 ⟨rfl, k8⟩
          go_wp2_with fail
          go_ret
          exact ⟨rfl, HK3.out.new k8⟩
        | some r =>
          simp only [Option.isSome_some]
          cases hnb : (pl1 != pl2)
          · skip
            go_wp2_with fail
            refine (HKN.out w7e).mono ?_
            rintro e w8 ⟨rfl, k8⟩
            go_wp2_with fail
            go_ret
            exact ⟨rfl, HK3.out.new k8⟩
          · skip
            go_wp2_with fail
            refine (HKN.out w7e).mono ?_
            rintro e w8 ⟨rfl, k8⟩
            go_wp2_with fail
            go_ret
            exact ⟨rfl, HK3.out.new k8⟩
end Go.Proofs.YtfegdgaanmcecaaGreatDoor
