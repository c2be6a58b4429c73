/-
  PROVED HERE: the law LogFull answers true; conditions: arguments as they may come in.
-/
import Derived.Test.YtajnkbfcnmajoaaGreatDoorPkB00
import Derived.Test.YtajnkbfcnmajoaaGreatDoorPkB29
import Derived.Test.YtajnkbfcnmajoaaGreatDoorPkB47
namespace Go.Proofs.YtajnkbfcnmajoaaGreatDoor
open Go.RowKit
section
variable {w w' : World} {F : Nat → Prop} {bw n : Nat} {s s' : LogS}
theorem W21.actMade (h : W21 w F bw n s) (m : Nat) (Zc : Array Value) (hz : Zc.toList = (List.replicate m (0 : UInt8)).map byteVal) (hm : m ≤ 1000000) (ht : s.nxt < 1000000) :
  Calls Tryz.prog 10 #[.pointer (some ⟨bw, 0, none⟩), .agg #[.int .i64 1, .int .i64 0, .bool false, .slice (some ⟨w.heap.size, 0, none⟩) m m]] (w.alloc (.cells Zc 5)) fun e w' => e = .returned (.bool true) ∧ Keep F (w.alloc (.cells Zc 5)) w' ∧ W21 w' F bw n (s.step (segsOf n) ⟨1, 0, false, List.replicate m 0⟩) := by
 have kz := (New.refl w).alloc (.cells Zc 5)
 have hl : Zc.size = m := by rw [← Array.length_toList, hz]; simp
 have hb := Row.made w 5 Zc m 1 (by rw [hl, Nat.mul_one])
 rw [hz] at hb
 have hb2 : Bs (w.alloc (.cells Zc 5)) (fun b => w.heap.size ≤ b) (some ⟨w.heap.size, 0, none⟩) m (List.replicate m 0) := hb.imp fun b _ hb => by first | exact hb | exact Nat.le_of_eq hb.symm | omega
 have := h.actNew kz ⟨1, 0, false, List.replicate m 0⟩ ⟨(show (-9223372036854775808 : Int) ≤ 1 ∧ (1 : Int) ≤ 9223372036854775807 by decide), (show (-9223372036854775808 : Int) ≤ 0 ∧ (0 : Int) ≤ 9223372036854775807 by decide)⟩ (some ⟨w.heap.size, 0, none⟩) m (by simpa using hb2) (by simp) (by omega) ht
 simpa using this
end
set_option maxRecDepth 200000 in
set_option maxHeartbeats 8000000 in
theorem full21_any (z y : Int) (w : World) (hz : -9223372036854775808 ≤ z ∧ z ≤ 9223372036854775807) (hy : -9223372036854775808 ≤ y ∧ y ≤ 9223372036854775807) : Calls Tryz.prog 5 #[.int .i64 z, .int .i64 y] w fun e w' => e = .returned (.bool true) ∧ New w w' := by
 have HWZ := Lib.hid (fun W => within_any z 0 300 W hz.1 hz.2 (by decide) (by decide) (by decide))
 have HWY := Lib.hid (fun W => within_any y 0 9 W hy.1 hy.2 (by decide) (by decide) (by decide))
 obtain ⟨m, hm, hm3⟩ : ∃ m : Nat, (0 : Int) + z % (300 - 0 + 1) = (m : Int) ∧ m ≤ 300 := by
  have e1 := Int.emod_nonneg z (show (300 : Int) - 0 + 1 ≠ 0 by omega)
  have e2 := Int.emod_lt_of_pos z (show 0 < (300 : Int) - 0 + 1 by omega)
  exact ⟨((0 : Int) + z % (300 - 0 + 1)).toNat, by omega, by omega⟩
 obtain ⟨q, e, hq, hqe, he1, he2⟩ : ∃ (q : Int) (e : Nat), (0 : Int) + y % (9 - 0 + 1) = q ∧ 1 + q = (e : Int) ∧ 1 ≤ e ∧ e ≤ 10 := by
  have e1 := Int.emod_nonneg y (show (9 : Int) - 0 + 1 ≠ 0 by omega)
  have e2 := Int.emod_lt_of_pos y (show 0 < (9 : Int) - 0 + 1 by omega)
  exact ⟨_, ((1 : Int) + ((0 : Int) + y % (9 - 0 + 1))).toNat, rfl, by omega, by omega, by omega⟩
 rw [hm] at HWZ
 rw [hq] at HWY
 have hw : IntKind.i64.wrap (1 + q) = (e : Int) := by rw [hqe]; exact IntWalk.i64_in _ (by omega)
 have HQ := Lib.hid hqe
 clear hm hq hqe hz hy
 have HBE := Lib.hid (begin21_st 64 (by decide) (by decide) w)
 have HKN := Lib.hid (fun W => known21_any W)
 go_enter Tryz.func5, Tryz.ntmps5
 go_wp2_with fail
 refine HBE.out.mono ?_
 rintro e' w1 ⟨k1, bw, rfl, h1⟩
 have HK1 := Lib.hid k1
 have H1 := Lib.hid h1
 clear k1 h1 HBE
 go_wp2_with fail
 refine (HWZ.out _).mono ?_
 rintro e' w0 ⟨rfl, rfl⟩
 go_wp2_with fail
 refine (HWY.out _).mono ?_
 rintro e' w0 ⟨rfl, rfl⟩
 go_wp2_with fail
 go_loopw [8] (fun i wx => ∃ (i0 : Nat) (s : LogS), i0 ≤ 300 ∧ i = .int .i64 (i0 : Int) ∧ s.nxt ≤ 1 + (i0 : Int) ∧ Filled 3 e i0 s ∧ W21 wx (fun b => b < w.heap.size) bw 64 s ∧ Keep (fun b => b < w.heap.size) w1 wx) (fun i _ => 300 - (intOf i).toNat)
 case atStart => exact ⟨0, ⟨[], []⟩, Nat.zero_le _, rfl, by decide +kernel, ⟨by simp, fun h => absurd (Nat.zero_mod e) h⟩, H1.out, Keep.refl _ _⟩
 case round =>
  obtain ⟨i0, s, hi3, rfl, hnx, hfi, hs, hkb⟩ := hrel
  have HS := Lib.hid hs
  have HKB := Lib.hid hkb
  have HNX := Lib.hid hnx
  have HFI := Lib.hid hfi
  clear hs hkb hnx hfi
  by_cases hlt : i0 < 300
  ·have hl3 : (i0 : Int) < 300 := by omega
   obtain ⟨Zc, hZc⟩ : ∃ Zc : Array Value, Zc = ((List.replicate m (0 : UInt8)).map byteVal).toArray := ⟨_, rfl⟩
   have hmk : ∀ W, (Instr.makeSlice 25 (.int .i64 (m : Int)) (.int .i64 (m : Int))).run Tryz.prog W = .ok (.slice (some ⟨W.heap.size, 0, none⟩) m m) (W.alloc (.cells Zc 5)) := fun W => by rw [hZc]; exact make_noughts m (by omega) W
   have HDO := Lib.hid (HS.out.actMade m Zc (by rw [hZc]) (by omega) (by have := HNX.out; omega))
   replace hZc := Lib.hid hZc
   have he0 : ¬ (e : Int) = 0 := by omega
   obtain ⟨rm, hrm0⟩ : ∃ rm, rm = i0 % e := ⟨_, rfl⟩
   obtain ⟨em, hem0⟩ : ∃ em, em = e - 1 := ⟨_, rfl⟩
   have hrm : IntKind.i64.wrap ((i0 : Int).tmod (e : Int)) = (rm : Int) := by rw [hrm0, Int.tmod_eq_emod_of_nonneg (by omega), ← Int.natCast_emod]; exact IntWalk.i64_in _ (by have := Nat.mod_le i0 e; omega)
   have hrm2 : (i0 : Int) % (e : Int) = (rm : Int) := by rw [hrm0, Int.natCast_emod]
   have hrm3 : IntKind.i64.wrap (rm : Int) = (rm : Int) := IntWalk.i64_in _ (by rw [hrm0]; have := Nat.mod_le i0 e; omega)
   have hrm4 : (i0 : Int).tmod (e : Int) = (rm : Int) := by rw [Int.tmod_eq_emod_of_nonneg (by omega), hrm2]
   have hrm5 : i0 % e = rm := hrm0.symm
   have hsb : IntKind.i64.wrap ((e : Int) - 1) = (em : Int) := by rw [IntWalk.i64_in _ (by omega)]; omega
   replace hrm0 := Lib.hid hrm0
   replace hem0 := Lib.hid hem0
   have HML := Lib.hid (Nat.mod_lt i0 he1)
   obtain ⟨s1, hs1⟩ : ∃ s1, s1 = s.step (segsOf 64) ⟨1, 0, false, List.replicate m 0⟩ := ⟨_, rfl⟩
   have HF1 : Hid (s.segs.length ≤ s1.segs.length ∧ (s1.waits ≠ [] ∨ 3 ≤ s1.segs.length)) := Lib.hid (by rw [hs1]; exact append_fills (g := 3) (size_small (n := m) hm3 _ (by simp)))
   have HN1 := Lib.hid (step_nxt (segsOf 64) s ⟨1, 0, false, List.replicate m 0⟩)
   rw [← hs1] at HDO HN1
   replace hs1 := Lib.hid hs1
   go_wp2_with fail
   refine HDO.out.mono ?_
   rintro e' w2 ⟨rfl, b2, h2⟩
   have HB2 := Lib.hid ((Keep.of_new (D := fun b => b < w.heap.size) ((New.refl wr).alloc (.cells Zc 5))).trans b2)
   have H2 := Lib.hid h2
   clear b2 h2 HDO hmk
   by_cases hre : rm = em
   ·have HRE0 := Lib.hid hre
    have HD2 := Lib.hid (H2.out.actNil 2 0 false (by decide) (by decide) (by have := HNX.out; have := HN1.out; omega) rfl)
    have HRE : Hid (i0 % e = e - 1) := Lib.hid (by rw [← hrm0.out, ← hem0.out]; exact hre)
    subst hre
    go_wp2_with fail
    refine HD2.out.mono ?_
    rintro e' w3 ⟨rfl, b3, h3⟩
    have HF := Lib.hid (And.intro b3 h3)
    clear b3 h3 HD2
    go_wp2_with fail
    go_roundw
    case rel => exact ⟨i0 + 1, _, by omega, by go_num, by have h1 := HNX.out; have h2 := HN1.out; have h3 := shut_nxt s1; show s1.shut.nxt ≤ 1 + ((i0 + 1 : Nat) : Int); omega, (filled_round he1 HFI.out HF1.out.1 HF1.out.2).1 HRE.out, HF.out.2, (HKB.out.trans HB2.out).trans HF.out.1⟩
    case measure => simp [intOf]; omega
   ·have hrq : ¬ (rm : Int) = (em : Int) := by omega
    have HRE : Hid (i0 % e ≠ e - 1) := Lib.hid (by rw [← hrm0.out, ← hem0.out]; exact hre)
    clear hre
    go_wp2_with fail
    go_roundw
    case rel => exact ⟨i0 + 1, s1, by omega, by go_num, by have h1 := HNX.out; have h2 := HN1.out; omega, (filled_round he1 HFI.out HF1.out.1 HF1.out.2).2 HRE.out, H2.out, HKB.out.trans HB2.out⟩
    case measure => simp [intOf]; omega
  ·obtain rfl : i0 = 300 := by omega
   have hsg := filled_all he1 he2 HFI.out
   have hl3 : ¬ ((300 : Nat) : Int) < 300 := by decide
   obtain ⟨bl, hc, hse, hnx, hhd⟩ := HS.out.log
   have HC := Lib.hid hc
   have HSE := Lib.hid hse
   have HNXC := Lib.hid hnx
   have HHD := Lib.hid hhd
   obtain ⟨r, hr⟩ : ∃ r : RecP, r = ⟨1, s.nxt, List.replicate 900 0⟩ := ⟨_, rfl⟩
   have hrb : r.body.length = 900 := by rw [hr]; simp
   have hn9 := HNX.out
   have HRR : Hid (recRight r = true) := Lib.hid (by rw [recRight_def]; exact decide_eq_true ⟨by rw [hr]; show s.nxt ≤ _; omega, by rw [hrb]; decide, .inl (by rw [hr])⟩)
   have HNO : Hid (s.append (segsOf 64) r = none) := Lib.hid (by unfold LogS.append; rw [if_pos (by rw [show segsOf 64 = 3 from by decide]; omega)])
   clear hc hse hnx hhd hsg hn9
   obtain ⟨pv, hpv⟩ : ∃ pv, pv = (logOf id21 s.segs).prev := ⟨_, rfl⟩
   rw [← hpv] at HHD
   replace hpv := Lib.hid hpv
   have c7 : ∀ W, New wr W → W.cell? ⟨bw, 7, none⟩ = some (.pointer (some ⟨bl, 0, none⟩)) := HC.out
   go_upto_region 11 with fail
   refine hold_begin (by kernel_rfl) ?_
   have n0 : New wr wr.drew := (New.refl wr).drew
   replace c7 := fun W (hW : New wr.drew W) => c7 W (Keep.new n0 hW)
   refine take1 0 ?_
   refine take1 1 ?_
   refine take1 2 ?_
   refine take1 3 ?_
   refine take1 5 ?_
   refine take1 6 ?_
   refine take1 7 ?_
   refine take1 8 ?_
   refine take1 10 ?_
   refine take1 11 ?_
   refine take1 12 ?_
   refine take1 13 ?_
   refine hold_step (i := 4) (by kernel_rfl) rfl rfl (fun K hK => ?_)
   go_simp
   refine (HSE.out _ n0).mono ?_
   rintro e' wa ⟨rfl, ka⟩
   go_wp2_with fail
   refine hK.out _ _ ka ?_
   clear hK K
   try simp only [Act.put, ly1, ly2, ly3, ly4, ly5, ly6]
   replace n0 := Keep.new n0 ka
   replace c7 := fun W (hW : New wa W) => c7 W (Keep.new ka hW)
   refine hold_step (i := 9) (by kernel_rfl) rfl rfl (fun K hK => ?_)
   go_simp
   refine (HNXC.out _ n0).mono ?_
   rintro e' wb ⟨rfl, kb⟩
   go_wp2_with fail
   refine hK.out _ _ kb ?_
   clear hK K
   try simp only [Act.put, ly1, ly2, ly3, ly4, ly5, ly6]
   replace n0 := Keep.new n0 kb
   replace c7 := fun W (hW : New wb W) => c7 W (Keep.new kb hW)
   refine hold_step (i := 14) (by kernel_rfl) rfl rfl (fun K hK => ?_)
   go_simp
   refine (HHD.out _ n0).mono ?_
   rintro e' wd ⟨⟨A5, c5, rfl, o5⟩, kd⟩; have q5 := fun W (hW : New wd W) => run_str (c := c5) (Row.new (Row.of_own o5) hW); replace o5 := Lib.hid o5
   go_wp2_with fail
   refine hK.out _ _ kd ?_
   clear hK K
   try simp only [Act.put, ly1, ly2, ly3, ly4, ly5, ly6]
   replace n0 := Keep.new n0 kd
   replace c7 := fun W (hW : New wd W) => c7 W (Keep.new kd hW)
   refine take1 15 ?_
   refine take1 16 ?_
   refine take1 17 ?_
   refine take1 18 ?_
   refine wpAnyH_done (by kernel_rfl) ?_ _
   clear q5 o5 ka kb kd c7
   have HN0 := Lib.hid n0
   have HBW := Lib.hid ((Keep.of_new (D := fun b => b < w.heap.size) HK1.out).trans HKB.out)
   clear n0
   obtain ⟨Zc, hZc⟩ : ∃ Zc : Array Value, Zc = ((List.replicate 900 (0 : UInt8)).map byteVal).toArray := ⟨_, rfl⟩
   have hmk : ∀ W, (Instr.makeSlice 25 (.int .i64 900) (.int .i64 900)).run Tryz.prog W = .ok (.slice (some ⟨W.heap.size, 0, none⟩) 900 900) (W.alloc (.cells Zc 5)) := fun W => by rw [hZc]; exact make_noughts 900 (by decide) W
   have HMK := Lib.hid hmk
   clear hmk
   replace hZc := Lib.hid hZc
   obtain ⟨S, hS⟩ : ∃ S : World → Prop, S = fun W => W.cell? ⟨bw, 7, none⟩ = some (.pointer (some ⟨bl, 0, none⟩)) := ⟨_, rfl⟩
   have s7 : ∀ W, S W → W.cell? ⟨bw, 7, none⟩ = some (.pointer (some ⟨bl, 0, none⟩)) := fun W h => by rw [hS] at h; exact h
   have HSI : Hid (∀ W, W.cell? ⟨bw, 7, none⟩ = some (.pointer (some ⟨bl, 0, none⟩)) → S W) := Lib.hid (fun W h => by rw [hS]; exact h)
   clear hS
   go_upto_region 12 with fail
   refine hold_beginS S (by kernel_rfl) ?_
   have HN0 := Lib.hid (HN0.out.drew)
   generalize wd.drew = we at *
   have n0 : S we := HSI.out _ (HC.out _ HN0.out)
   refine take0 0 n0 ?_
   refine take0 1 n0 ?_
   refine take0 2 n0 ?_
   refine hold_read0 (i := 3) (v := ?_) n0 rfl (by kernel_rfl) (by kernel_rfl) (by kernel_rfl) (fun _ _ _ h => h) rfl ?_ ?_
   rotate_left
   ·intro w' hN
    have q7 := s7 w' hN
    go_simp
    try with_reducible rfl
   simp only [Act.put, ly1, ly2, ly3, ly4, ly5, ly6]
   refine take0 4 n0 ?_
   refine hold_step0 (i := 5) (by kernel_rfl) rfl rfl (fun K hK => ?_)
   have hmk := HMK.out
   go_simp
   try go_wp2_with fail
   have kz := (New.refl we).alloc (.cells Zc 5)
   have n1 : S (we.alloc (.cells Zc 5)) := HSI.out _ (HC.out _ (HN0.out.new kz))
   clear hmk
   refine hK.out _ _ n1 ?_
   clear hK K
   try simp only [Act.put, ly1, ly2, ly3, ly4, ly5, ly6]
   obtain ⟨bl2, hb2, hap⟩ := (HS.out.new HN0.out).full kz r (some ⟨we.heap.size, 0, none⟩) 900 (by
    have hb := Row.made we 5 Zc 900 1 (by rw [hZc.out]; simp)
    rw [show Zc.toList = (List.replicate 900 (0 : UInt8)).map byteVal from by rw [hZc.out]] at hb
    rw [hrb, hr]
    exact hb.imp fun b _ hb => by first | exact hb | exact Nat.le_of_eq hb.symm | omega) (by rw [hrb]; decide) (by decide) HRR.out (by rw [hr]) HNO.out
   obtain rfl : bl2 = bl := by have h1 := hb2 we (New.refl _); rw [HC.out _ HN0.out] at h1; injection h1 with h1; injection h1 with h1; injection h1 with h1; injection h1 with h1; exact h1.symm
   rw [hrb] at hap
   have HAP := Lib.hid hap
   have hrk : r.kind = 1 := by rw [hr]
   have hrs : r.seq = s.nxt := by rw [hr]
   rw [hrk, hrs] at HAP
   clear hap hb2 hrk hrs
   replace hr := Lib.hid hr
   replace hrb := Lib.hid hrb
   generalize hgw : we.alloc (.cells Zc 5) = wf at *
   generalize hgz : we.heap.size = gz at *
   refine take0 6 n1 ?_
   refine hold_step0 (i := 7) (by kernel_rfl) rfl rfl (fun K hK => ?_)
   go_simp
   refine HAP.out.mono ?_
   rintro e' wg ⟨rfl, bg, hg, hcg⟩
   try go_wp2_with fail
   have n2 : S wg := HSI.out _ (hcg wg (New.refl _))
   refine hK.out _ _ n2 ?_
   clear hK K
   try simp only [Act.put, ly1, ly2, ly3, ly4, ly5, ly6]
   have HBG := Lib.hid ((HBW.out.trans (Keep.of_new (D := fun b => b < w.heap.size) (HN0.out.new kz))).trans bg)
   have HG := Lib.hid hg
   have HCG := Lib.hid hcg
   clear bg hg hcg HAP n0 n1 kz
   obtain ⟨bl3, hc3, hse3, hnx3, hhd3⟩ := HG.out.log
   obtain rfl : bl3 = bl2 := by have h1 := hc3 wg (New.refl _); rw [HCG.out _ (New.refl _)] at h1; injection h1 with h1; injection h1 with h1; injection h1 with h1; injection h1 with h1; exact h1.symm
   have HSE := Lib.hid hse3
   have HNXC := Lib.hid hnx3
   have hhd3b := hhd3
   rw [← hpv.out] at hhd3b
   have HHD := Lib.hid hhd3b
   clear hc3 hse3 hnx3 hhd3 hhd3b
   have hsq : (s.nxt != s.nxt) = false := by simp
   have hsl : (((s.segs.length : Nat) : Int) != ((s.segs.length : Nat) : Int)) = false := by simp
   have hst : ((strOf pv).toList == (strOf pv).toList) = true := by simp
   refine take0 8 n2 ?_
   refine take0 9 n2 ?_
   refine take0 10 n2 ?_
   refine take0 11 n2 ?_
   refine take0 12 n2 ?_
   refine hold_read0 (i := 13) (v := ?_) n2 rfl (by kernel_rfl) (by kernel_rfl) (by kernel_rfl) (fun _ _ _ h => h) rfl ?_ ?_
   rotate_left
   ·intro w' hN
    have q7 := s7 w' hN
    go_simp
    try with_reducible rfl
   simp only [Act.put, ly1, ly2, ly3, ly4, ly5, ly6]
   refine take0 15 n2 ?_
   refine hold_step0 (i := 14) (by kernel_rfl) rfl rfl (fun K hK => ?_)
   go_simp
   refine (HSE.out _ (New.refl _)).mono ?_
   rintro e' wh ⟨rfl, kh⟩
   try go_wp2_with fail
   have n3 : S wh := HSI.out _ (HCG.out _ kh)
   refine hK.out _ _ n3 ?_
   clear hK K
   try simp only [Act.put, ly1, ly2, ly3, ly4, ly5, ly6]
   refine take0 16 n3 ?_
   refine take0 17 n3 ?_
   refine take0 18 n3 ?_
   refine take0 19 n3 ?_
   refine take0 20 n3 ?_
   refine take0 21 n3 ?_
   refine hold_read0 (i := 22) (v := ?_) n3 rfl (by kernel_rfl) (by kernel_rfl) (by kernel_rfl) (fun _ _ _ h => h) rfl ?_ ?_
   rotate_left
   ·intro w' hN
    have q7 := s7 w' hN
    go_simp
    try with_reducible rfl
   simp only [Act.put, ly1, ly2, ly3, ly4, ly5, ly6]
   refine take0 24 n3 ?_
   refine hold_step0 (i := 23) (by kernel_rfl) rfl rfl (fun K hK => ?_)
   go_simp
   refine (HNXC.out _ kh).mono ?_
   rintro e' wi ⟨rfl, ki⟩
   try go_wp2_with fail
   have k2 := kh.new ki
   have n4 : S wi := HSI.out _ (HCG.out _ k2)
   refine hK.out _ _ n4 ?_
   clear hK K
   try simp only [Act.put, ly1, ly2, ly3, ly4, ly5, ly6]
   refine take0 25 n4 ?_
   refine take0 26 n4 ?_
   refine take0 27 n4 ?_
   refine take0 28 n4 ?_
   refine take0 29 n4 ?_
   refine take0 30 n4 ?_
   refine hold_read0 (i := 31) (v := ?_) n4 rfl (by kernel_rfl) (by kernel_rfl) (by kernel_rfl) (fun _ _ _ h => h) rfl ?_ ?_
   rotate_left
   ·intro w' hN
    have q7 := s7 w' hN
    go_simp
    try with_reducible rfl
   simp only [Act.put, ly1, ly2, ly3, ly4, ly5, ly6]
   refine take0 34 n4 ?_
   refine hold_one (i := 32) (by kernel_rfl) rfl rfl (fun K hK => ?_)
   go_simp
   refine (HHD.out _ k2).mono ?_
   rintro e' wj ⟨⟨A6, c6, rfl, o6⟩, kj⟩
   try go_wp2_with fail
   have k3 := k2.new kj
   have n5 : New wj wj := New.refl _
   have q6 := fun W (hW : New wj W) => run_str (c := c6) (Row.new (Row.of_own o6) hW); replace o6 := Lib.hid o6
   refine hK.out (New wj) _ _ (fun W hW => HSI.out _ (HCG.out _ (k3.new hW))) n5 ?_
   clear hK K
   try simp only [Act.put, ly1, ly2, ly3, ly4, ly5, ly6]
   refine take0 33 n5 ?_
   refine take0 35 n5 ?_
   refine take0 36 n5 ?_
   refine wpAnyH_done (by kernel_rfl) ?_ _
   have HJ := Lib.hid (HG.out.new k3)
   have HBJ := Lib.hid (HBG.out.new k3)
   have HN9 := HNX.out
   clear q6 n2 n3 n4 n5 kh ki kj k2 k3 HSE HNXC HHD s7
   have HD1 := Lib.hid (HJ.out.actNil 2 0 false (by decide) (by decide) (by omega) rfl)
   replace HN9 := Lib.hid HN9
   go_wp2_with fail
   refine HD1.out.mono ?_
   rintro e' wa ⟨rfl, ba, ha⟩
   have HBA := Lib.hid (HBJ.out.trans ba)
   have HSF := Lib.hid ha.safe
   have HA := Lib.hid ha
   clear ba ha HD1
   go_wp2_with fail
   refine HSF.out.mono ?_
   rintro e' wb ⟨rfl, kb⟩
   have HBA := Lib.hid (HBA.out.new kb)
   have HD3 := Lib.hid ((HA.out.new kb).actNil 3 0 false (by decide) (by decide) (by have h1 := step_nxt (segsOf 64) s ⟨2, 0, false, []⟩; have h2 := HN9.out; omega) rfl)
   clear kb HSF
   go_wp2_with fail
   refine HD3.out.mono ?_
   rintro e' wd ⟨rfl, ba, ha⟩
   have HBA := Lib.hid (HBA.out.trans ba)
   clear ba ha HD3
   go_wp2_with fail
   refine (HKN.out _).mono ?_
   rintro e' w3 ⟨rfl, k3⟩
   go_wp2_with fail
   go_ret
   exact ⟨rfl, (HBA.out.new k3).toNew fun b hb => hb⟩
end Go.Proofs.YtajnkbfcnmajoaaGreatDoor
