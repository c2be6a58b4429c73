/-
  PROVED HERE: the law SegmentCuts returns true, and leaves all that was there; conditions: lengths and numbers that Go has.
-/
import Derived.Test.YtpbbfbgmpidgnaaDoorCutsLaw
import Derived.Test.YtpbbfbgmpidgnaaDoorHelp17
import Derived.Test.YtpbbfbgmpidgnaaDoorRef6
import Derived.Test.YtpbbfbgmpidgnaaDoorHold2
namespace Go.Proofs.YtpbbfbgmpidgnaaDoor
open Go.RowKit

set_option maxRecDepth 100000 in
set_option maxHeartbeats 4000000 in
theorem cuts_any (D D1 D2 : Nat → Prop) (A A1 A2 : Option Addr) (n c n1 c1 n2 c2 : Nat) (l l1 : List RawP) (pv : List UInt8) (nn : Int) (w : World) (hR : Raws w D A n l) (hR1 : Raws w D1 A1 n1 l1) (hB : Bs w D2 A2 n2 pv) (hn : n ≤ 9223372036854775807) (hn1 : n1 ≤ 9223372036854775807) (hn2 : n2 ≤ 9223372036854775807) (hnc2 : n2 ≤ c2)
    (ha0 : -9223372036854775808 ≤ nn) (ha1 : nn ≤ 9223372036854775807) :
    Calls Tryd.prog 4 #[.slice A n c, .slice A1 n1 c1, .int .i64 nn, .slice A2 n2 c2] w fun e w' => e = .returned (.bool true) ∧ New w w' := by
  have HPV := Lib.hid hB
  clear hB
  have HRE : Hid (∀ W, New w W → Calls Tryd.prog 9 #[.slice A n c, .int .u64 1, .int .i64 100] W fun e w' =>
      (∃ A1 c1 A2 c2, e = .returned (.tuple #[.slice A1 (min n 40) c1, .slice A2 (min n 40) c2]) ∧ OwnRecs w' W.heap.size (fun b => b < W.heap.size) A1 (min n 40) c1 (rawRecs 1 100 l (min n 40)) ∧ OwnRefs w' W.heap.size (fun b => b < W.heap.size) A2 (min n 40) c2 (rawRecs 1 100 l (min n 40))) ∧ New W w') :=
    Lib.hid fun W hW => records17_any D A n c 100 l 1 W (hR.new hW) hn (by decide) (by decide) (by decide)
  have HRE1 : Hid (∀ W, New w W → Calls Tryd.prog 9 #[.slice A1 n1 c1, .int .u64 1, .int .i64 100] W fun e w' =>
      (∃ A1 c1 A2 c2, e = .returned (.tuple #[.slice A1 (min n1 40) c1, .slice A2 (min n1 40) c2]) ∧ OwnRecs w' W.heap.size (fun b => b < W.heap.size) A1 (min n1 40) c1 (rawRecs 1 100 l1 (min n1 40)) ∧ OwnRefs w' W.heap.size (fun b => b < W.heap.size) A2 (min n1 40) c2 (rawRecs 1 100 l1 (min n1 40))) ∧ New W w') :=
    Lib.hid fun W hW => records17_any D1 A1 n1 c1 100 l1 1 W (hR1.new hW) hn1 (by decide) (by decide) (by decide)
  have hk400 : min n 40 ≤ 40 := Nat.min_le_right _ _
  have HBODY0 : Hid (∀ r ∈ rawRecs 1 100 l (min n 40), r.body.length ≤ 100) := Lib.hid fun r hr => rawRecs_body hr
  have HFINE0 := Lib.hid (fun pr hp hm => raw_fine (index := 0) (first := 1) (prev := pr) (l := l) (n := min n 40) (most := 100) (by decide) (by decide) (by decide) (by decide) hp hm)
  have HBLD0 := Lib.hid (fun hm => raw_build (index := 0) (first := 1) (l := l) (n := min n 40) (most := 100) (by decide) (by decide) (by decide) (by decide) hm)
  have HNONE0 := Lib.hid (fun hm => raw_none (index := 0) (first := 1) (l := l) (n := min n 40) (most := 100) hm)
  have hrl0 := rawRecs_length 1 100 l (min n 40)
  have hfl0 := fitsIn_le 942 (rawRecs 1 100 l (min n 40))
  rw [hrl0] at hfl0
  have HRL0 := Lib.hid hrl0
  clear hrl0
  obtain ⟨rs0, hrs0⟩ : ∃ x, x = rawRecs 1 100 l (min n 40) := ⟨_, rfl⟩
  obtain ⟨k0, hk0⟩ : ∃ x, x = min n 40 := ⟨_, rfl⟩
  rw [← hk0] at hrs0 hk400 hfl0 HRE HBODY0 HFINE0 HBLD0 HNONE0 HRL0
  rw [← hrs0] at hfl0 HRE HBODY0 HFINE0 HBLD0 HNONE0 HRL0
  clear hrs0 hk0
  have hk401 : min n1 40 ≤ 40 := Nat.min_le_right _ _
  have HBODY1 : Hid (∀ r ∈ rawRecs 1 100 l1 (min n1 40), r.body.length ≤ 100) := Lib.hid fun r hr => rawRecs_body hr
  have HFINE1 := Lib.hid (fun pr hp hm => raw_fine (index := 0) (first := 1) (prev := pr) (l := l1) (n := min n1 40) (most := 100) (by decide) (by decide) (by decide) (by decide) hp hm)
  have HBLD1 := Lib.hid (fun hm => raw_build (index := 0) (first := 1) (l := l1) (n := min n1 40) (most := 100) (by decide) (by decide) (by decide) (by decide) hm)
  have HNONE1 := Lib.hid (fun hm => raw_none (index := 0) (first := 1) (l := l1) (n := min n1 40) (most := 100) hm)
  have hrl1 := rawRecs_length 1 100 l1 (min n1 40)
  have hfl1 := fitsIn_le 942 (rawRecs 1 100 l1 (min n1 40))
  rw [hrl1] at hfl1
  have HRL1 := Lib.hid hrl1
  clear hrl1
  obtain ⟨ss0, hss0⟩ : ∃ x, x = rawRecs 1 100 l1 (min n1 40) := ⟨_, rfl⟩
  obtain ⟨k1, hk1⟩ : ∃ x, x = min n1 40 := ⟨_, rfl⟩
  rw [← hk1] at hss0 hk401 hfl1 HRE1 HBODY1 HFINE1 HBLD1 HNONE1 HRL1
  rw [← hss0] at hfl1 HRE1 HBODY1 HFINE1 HBLD1 HNONE1 HRL1
  clear hss0 hk1
  clear hR hR1
  go_enter Tryd.func4, Tryd.ntmps4
  go_wp2_with fail
  refine (HRE.out w (New.refl _)).mono ?_
  rintro e w1 ⟨⟨A4, c4, A5, c5, rfl, hr1, -⟩, hK1⟩
  go_wp2_with fail
  refine (HRE1.out w1 hK1).mono ?_
  rintro e w2 ⟨⟨B4, e4, B5, e5, rfl, hs2, -⟩, hK2⟩
  have hK02 := hK1.new hK2
  have hx2 := hr1.new hK2
  have hs2' := OwnRecs.rebase hs2 hK1.size
  have HX2 := Lib.hid (hx2.recs (fun r hr => by have := HBODY0.out r hr; omega))
  have HY2 := Lib.hid (hs2'.recs (fun r hr => by have := HBODY1.out r hr; omega))
  have hc4 := hx2.cap
  have he4 := hs2'.cap
  clear hK1 hK2 hr1 hs2 hx2 hs2' HRE HRE1
  have HF0 : Hid (∀ W, New w2 W → Calls Tryd.prog 10 #[.slice A4 k0 c4] W fun e w' => e = .returned (.int .i64 (fitsIn 942 rs0 : Nat)) ∧ New W w') := Lib.hid fun W hW => fits_any _ A4 k0 c4 rs0 W (HX2.out.new hW) (by omega)
  have HW0 : Hid (∀ W, Calls Tryd.prog 7 #[.int .i64 (fitsIn 942 rs0 : Nat), .int .i64 0, .int .i64 (k0 : Int)] W fun e w' => e = .returned (.int .i64 (fitsIn 942 rs0 : Nat)) ∧ W = w') := Lib.hid fun W => by
    have h := within_any (fitsIn 942 rs0 : Nat) 0 k0 W (by omega) (by omega) (by omega) (by omega) (by omega)
    rwa [show (0 : Int) + ((fitsIn 942 rs0 : Nat) : Int) % ((k0 : Int) - 0 + 1) = (fitsIn 942 rs0 : Nat) from by rw [Int.emod_eq_of_lt (by omega) (by omega)]; omega] at h
  obtain ⟨m0, hm0⟩ : ∃ x, x = fitsIn 942 rs0 := ⟨_, rfl⟩
  rw [← hm0] at HF0 HW0 hfl0 HFINE0 HBLD0 HNONE0
  have Hm0 := Lib.hid hm0
  clear hm0
  have hmc0 : (m0 : Int) ≤ c4 := by omega
  have HF1 : Hid (∀ W, New w2 W → Calls Tryd.prog 10 #[.slice B4 k1 e4] W fun e w' => e = .returned (.int .i64 (fitsIn 942 ss0 : Nat)) ∧ New W w') := Lib.hid fun W hW => fits_any _ B4 k1 e4 ss0 W (HY2.out.new hW) (by omega)
  have HW1 : Hid (∀ W, Calls Tryd.prog 7 #[.int .i64 (fitsIn 942 ss0 : Nat), .int .i64 0, .int .i64 (k1 : Int)] W fun e w' => e = .returned (.int .i64 (fitsIn 942 ss0 : Nat)) ∧ W = w') := Lib.hid fun W => by
    have h := within_any (fitsIn 942 ss0 : Nat) 0 k1 W (by omega) (by omega) (by omega) (by omega) (by omega)
    rwa [show (0 : Int) + ((fitsIn 942 ss0 : Nat) : Int) % ((k1 : Int) - 0 + 1) = (fitsIn 942 ss0 : Nat) from by rw [Int.emod_eq_of_lt (by omega) (by omega)]; omega] at h
  obtain ⟨m1, hm1⟩ : ∃ x, x = fitsIn 942 ss0 := ⟨_, rfl⟩
  rw [← hm1] at HF1 HW1 hfl1 HFINE1 HBLD1 HNONE1
  have Hm1 := Lib.hid hm1
  clear hm1
  have hmc1 : (m1 : Int) ≤ e4 := by omega
  go_wp2_with fail
  refine (HF0.out w2 (New.refl _)).mono ?_
  rintro e w3 ⟨rfl, hK3⟩
  go_wp2_with fail
  refine (HW0.out w3).mono ?_
  rintro e w' ⟨rfl, rfl⟩
  go_wp2_with fail
  refine (HF1.out w3 hK3).mono ?_
  rintro e w4 ⟨rfl, hK4⟩
  go_wp2_with fail
  refine (HW1.out w4).mono ?_
  rintro e w' ⟨rfl, rfl⟩
  have hK24 := hK3.new hK4
  have hK04 := hK02.new hK24
  go_wp2_with fail
  refine (sized_any A2 n2 c2 32 pv D2 w4 (HPV.out.new hK04) hn2 hnc2 (by decide)).mono ?_
  rintro e w5 ⟨⟨A3, c3, rfl, hp5⟩, hK5⟩
  have hpl : (sized pv 32).length = 32 := by simpa using hp5.1
  have hK05 := hK04.new hK5
  have HX5 := Lib.hid (((HX2.out.new hK24).new hK5).take hfl0)
  have HY5 := Lib.hid (((HY2.out.new hK24).new hK5).take hfl1)
  clear hK3 hK4 hK24 hK04 hK5 hK02 HX2 HY2 HF0 HF1 HW0 HW1 HPV
  go_wp2_with fail
  by_cases h0 : m0 = 0
  · subst h0
    refine (build_arg (fun b => w.heap.size ≤ b) _ 0 1 A3 A4 32 c3 0 c4 (rs0.take 0) w5 HX5.out (by decide) (HNONE0.out rfl)).mono ?_
    rintro e w6 ⟨rfl, hK6⟩
    have HY6 := Lib.hid (HY5.out.new hK6)
    have hp6 := Own.keepNew hp5 hK6
    go_wp2_with fail
    by_cases h1 : m1 = 0
    · subst h1
      refine (build_arg (fun b => w.heap.size ≤ b) _ 0 1 A3 B4 32 c3 0 e4 (ss0.take 0) w6 HY6.out (by decide) (HNONE1.out rfl)).mono ?_
      rintro e w7 ⟨rfl, hK7⟩
      go_wp2_with fail
      refine (known17_any _).mono ?_
      rintro e w8 ⟨rfl, hK8⟩
      go_wp2_with fail
      go_ret
      exact ⟨rfl, ((hK05.new hK6).new hK7).new hK8⟩
    · have hbl := HBLD1.out h1
      refine (build_ok (fun b => w4.heap.size ≤ b) _ 0 1 A3 B4 32 c3 m1 e4 (sized pv 32) (ss0.take m1) w6 (Row.of_own hp6) (own_cap hp6) HY6.out (by omega) (by decide) hbl.1 hbl.2).mono ?_
      rintro e w7 ⟨⟨A8, c8, rfl, ho7⟩, hK7⟩
      go_wp2_with fail
      refine (known17_any _).mono ?_
      rintro e w8 ⟨rfl, hK8⟩
      go_wp2_with fail
      go_ret
      exact ⟨rfl, ((hK05.new hK6).new hK7).new hK8⟩
  · have hbl0 := HBLD0.out h0
    have hm0' : ((m0 : Int) == 0) = false := by simpa using h0
    refine (build_ok (fun b => w4.heap.size ≤ b) _ 0 1 A3 A4 32 c3 m0 c4 (sized pv 32) (rs0.take m0) w5 (Row.of_own hp5) (own_cap hp5) HX5.out (by omega) (by decide) hbl0.1 hbl0.2).mono ?_
    rintro e w6 ⟨⟨A7, c7, rfl, ho6⟩, hK6⟩
    have HY6 := Lib.hid (HY5.out.new hK6)
    have hp6 := Own.keepNew hp5 hK6
    go_wp2_with fail
    by_cases h1 : m1 = 0
    · subst h1
      refine (build_arg (fun b => w.heap.size ≤ b) _ 0 1 A3 B4 32 c3 0 e4 (ss0.take 0) w6 HY6.out (by decide) (HNONE1.out rfl)).mono ?_
      rintro e w7 ⟨rfl, hK7⟩
      go_wp2_with fail
      refine (known17_any _).mono ?_
      rintro e w8 ⟨rfl, hK8⟩
      go_wp2_with fail
      go_ret
      exact ⟨rfl, ((hK05.new hK6).new hK7).new hK8⟩
    · have hbl1 := HBLD1.out h1
      refine (build_ok (fun b => w4.heap.size ≤ b) _ 0 1 A3 B4 32 c3 m1 e4 (sized pv 32) (ss0.take m1) w6 (Row.of_own hp6) (own_cap hp6) HY6.out (by omega) (by decide) hbl1.1 hbl1.2).mono ?_
      rintro e w7 ⟨⟨A8, c8, rfl, ho7⟩, hK7⟩
      have HFX := Lib.hid (HFINE0.out (sized pv 32) hpl h0)
      have HFY := Lib.hid (HFINE1.out (sized pv 32) hpl h1)
      have hxl : (rs0.take m0).length = m0 := by rw [List.length_take, HRL0.out]; omega
      have HX7 := Lib.hid ((HX5.out.new hK6).new hK7)
      have hm40 : m0 ≤ 40 := by omega
      generalize sized pv 32 = pr at *
      generalize rs0.take m0 = rs at *
      generalize ss0.take m1 = ss at *
      have ho6' := Own.keepNew ho6 hK7
      have hK07 := (hK05.new hK6).new hK7
      have hls := segBytes_length 0 1 pr rs hpl HFX.out.room
      have hsx := seg_split (index := 0) (first := 1) (rs := rs) hpl
      have hsy := seg_split (index := 0) (first := 1) (rs := ss) hpl
      have HSX := Lib.hid hsx
      have HSY := Lib.hid hsy
      have hA7 : Bs w7 (fun b => w.heap.size ≤ b ∧ b < w7.heap.size) A7 1024 (segBytes 0 1 pr rs) := (Row.of_own ho6').imp (fun b hb h => ⟨Nat.le_trans hK05.size h, hb⟩)
      have hA8 : Bs w7 (fun b => w.heap.size ≤ b ∧ b < w7.heap.size) A8 1024 (segBytes 0 1 pr ss) := (Row.of_own ho7).imp (fun b hb h => ⟨Nat.le_trans (hK05.new hK6).size h, hb⟩)
      have HA7 := Lib.hid hA7
      have HA8 := Lib.hid hA8
      have hc7 := own_cap ho6'
      have hc79 := own_capMax ho6'
      have hc8 := own_cap ho7
      have hc89 := own_capMax ho7
      have HK07 := Lib.hid hK07
      clear hK6 hK7 hK05 ho6 ho6' ho7 hp5 hp6 HX5 HY5 HY6 hK07 hA7 hA8 hsx hsy hbl0 hbl1 HBLD0 HBLD1 HFINE0 HFINE1 HNONE0 HNONE1 HRL0 HRL1 HBODY0 HBODY1 Hm0 Hm1 hfl0 hfl1 hls
      have HW3 : Hid (∀ W, Calls Tryd.prog 7 #[.int .i64 nn, .int .i64 0, .int .i64 1023] W fun e w' => e = .returned (.int .i64 (((nn % 1024).toNat : Nat) : Int)) ∧ W = w') := Lib.hid fun W => by
        have h := within_any nn 0 1023 W ha0 ha1 (by decide) (by decide) (by decide)
        rwa [show (0 : Int) + nn % (1023 - 0 + 1) = ((nn % 1024).toNat : Nat) from by omega] at h
      have hkk : (nn % 1024).toNat < 1024 := by omega
      generalize (nn % 1024).toNat = kk at *
      have hm1' : ((m1 : Int) == 0) = false := by simpa using h1
      go_wp2_with fail
      refine (HW3.out w7).mono ?_
      rintro e w' ⟨rfl, rfl⟩
      have i1 : (kk : Int) ≤ c7 := by omega
      go_wp2_with fail
      refine (read_no _ A7 kk c7 _ w7 (Bs.cutTo HA7.out (by omega)) (by omega)).mono ?_
      rintro e w8 ⟨⟨B1, e1, B2, e2, B3, e3, rfl⟩, hK8⟩
      have hW9 : New w8 (w8.alloc (.cells #[.int .i64 0, .int .u64 0, .int .i64 0, .int .i64 0, .slice B1 0 e1, .slice B2 0 e2] 37)) := (New.refl w8).alloc _
      have hkA : New (w8.alloc (.cells #[.int .i64 0, .int .u64 0, .int .i64 0, .int .i64 0, .slice B1 0 e1, .slice B2 0 e2] 37)) ((w8.alloc (.cells #[.int .i64 0, .int .u64 0, .int .i64 0, .int .i64 0, .slice B1 0 e1, .slice B2 0 e2] 37)).alloc (.cells #[] 5)) := (New.refl _).alloc _
      have hoA : OwnB ((w8.alloc (.cells #[.int .i64 0, .int .u64 0, .int .i64 0, .int .i64 0, .slice B1 0 e1, .slice B2 0 e2] 37)).alloc (.cells #[] 5)) (w8.alloc (.cells #[.int .i64 0, .int .u64 0, .int .i64 0, .int .i64 0, .slice B1 0 e1, .slice B2 0 e2] 37)).heap.size 5 (some ⟨(w8.alloc (.cells #[.int .i64 0, .int .u64 0, .int .i64 0, .int .i64 0, .slice B1 0 e1, .slice B2 0 e2] 37)).heap.size, 0, none⟩) 0 0 [] := World.ownsRow_made _ #[] 0 (Nat.le_refl _) (by decide) rfl
      have haA := HA7.out.new ((hK8.new hW9).new hkA)
      have hw9s : (w8.alloc (.cells #[.int .i64 0, .int .u64 0, .int .i64 0, .int .i64 0, .slice B1 0 e1, .slice B2 0 e2] 37)).heap.size = w8.heap.size + 1 := by simp
      rw [hw9s] at hoA
      have hsA : w8.heap.size + 1 ≤ ((w8.alloc (.cells #[.int .i64 0, .int .u64 0, .int .i64 0, .int .i64 0, .slice B1 0 e1, .slice B2 0 e2] 37)).alloc (.cells #[] 5)).heap.size := by simp
      have HK9 := Lib.hid (HK07.out.new (hK8.new hW9))
      have HkA := Lib.hid hkA
      have HoA := Lib.hid hoA
      clear hkA hW9 hoA hw9s
      go_wp2_with (first
        | (at_builtin; refine app_bytes _ rfl _ _ rfl (w8.heap.size + 1) _ 0 0 [] rfl HoA.out _ A7 1024 c7 _ rfl haA (by decide) hsA ?_; intro A10 c10 w10 hown10 hg10 hbk10; have hz10 := bs_one w10 5 0 _ rfl; have hown10' := hown10.alloc (.cells #[.int .u8 0] 5); have hN10 : w8.heap.size + 1 ≤ (w10.alloc (.cells #[.int .u8 0] 5)).heap.size := Nat.le_trans (Nat.le_trans hsA hg10.size) ((New.refl w10).alloc _).size)
        | (at_builtin; refine app_bytes _ rfl _ _ rfl (w8.heap.size + 1) A10 (0 + 1024) c10 _ rfl hown10' _ _ 1 1 [0] rfl hz10 (by decide) hN10 ?_; intro A11 c11 w11 hown11 hg11 hbk11))
      have hK10 : New w w10 := (HK9.out.new HkA.out).grown hg10 (fun k hk _ => by have := (own_lt HoA.out k hk).1; have := (HK07.out.new hK8).size; omega)
      have hK11 : New w w11 := (hK10.alloc (.cells #[.int .u8 0] 5)).grown hg11 (fun k hk _ => by have := (own_lt hown10 k hk).1; have := (HK07.out.new hK8).size; omega)
      have hK711 : New w7 w11 := by
        have h1 : New w7 w10 := ((hK8.new ((New.refl w8).alloc _)).new HkA.out).grown hg10 (fun k hk _ => by have := (own_lt HoA.out k hk).1; have := hK8.size; omega)
        exact (h1.alloc (.cells #[.int .u8 0] 5)).grown hg11 (fun k hk _ => by have := (own_lt hown10 k hk).1; have := hK8.size; omega)
      refine (read_no _ A11 _ c11 _ w11 (Row.of_own hown11) (by decide)).mono ?_
      rintro e w12 ⟨⟨D1', f1, D2', f2, D3, f3, rfl⟩, hK12⟩
      have hN13 : New w12 (w12.alloc (.cells #[.int .i64 0, .int .u64 0, .int .i64 0, .int .i64 0, .slice D1' 0 f1, .slice D2' 0 f2] 37)) := (New.refl w12).alloc _
      have HK713 := Lib.hid ((hK711.new hK12).new hN13)
      have hK013 := (hK11.new hK12).new hN13
      clear hK711 hK11 hK12 hN13 hown10 hown10' hown11 hg10 hg11 hbk10 hbk11 hz10 hN10 hK10 HK9 HkA HoA haA hsA hK8
      go_wp2_with fail
      generalize w12.alloc _ = w13 at *
      have hown0 : OwnB (w13.drew.alloc (.cells #[] 5)) w13.drew.heap.size 5 (some ⟨w13.drew.heap.size, 0, none⟩) 0 0 [] := World.ownsRow_made w13.drew #[] 0 (Nat.le_refl _) (by decide) rfl
      have hk0 : New w13.drew (w13.drew.alloc (.cells #[] 5)) := (New.refl _).alloc _
      have hca := Row.new (Row.new (Bs.cutTo HA7.out (hi := 82) (by decide)) HK713.out) ((New.refl w13).drew.new hk0)
      have hcb := Row.new (Bs.from_ HA8.out (l := 82) (by decide)) HK713.out
      have hbd0 : 0 + 82 ≤ 140737488355328 := by decide
      have hbd1 : 0 + 82 + 942 ≤ 140737488355328 := by decide
      have i2 : (82 : Int) ≤ c7 := by omega
      have i3 : (82 : Int) ≤ c8 := by omega
      have i4 : ¬ c8 = 82 := by omega
      have i5 : ¬ c7 = 82 := by omega
      have i6 : (1024 : Int) ≤ c8 := by omega
      have i7 : (1024 : Int) ≤ c7 := by omega
      refine hold_begin (by kernel_rfl) ?_
      have n0 : New w13.drew w13.drew := New.refl _
      refine hold_read0 (i := 1) (v := ?_) n0 rfl (by kernel_rfl) (by kernel_rfl) (by kernel_rfl) (fun _ _ _ h => h) rfl ?_ ?_
      rotate_left
      · intro w' hN
        go_simp
        try with_reducible rfl
      simp only [Act.put, List.getElem_toArray, List.getElem_cons_succ, List.getElem_cons_zero, List.setIfInBounds_toArray, List.set_cons_zero, List.set_cons_succ]
      refine hold_read0 (i := 2) (v := ?_) n0 rfl (by kernel_rfl) (by kernel_rfl) (by kernel_rfl) (fun _ _ _ h => h) rfl ?_ ?_
      rotate_left
      · intro w' hN
        go_simp
        try with_reducible rfl
      simp only [Act.put, List.getElem_toArray, List.getElem_cons_succ, List.getElem_cons_zero, List.setIfInBounds_toArray, List.set_cons_zero, List.set_cons_succ]
      refine hold_read0 (i := 4) (v := ?_) n0 rfl (by kernel_rfl) (by kernel_rfl) (by kernel_rfl) (fun _ _ _ h => h) rfl ?_ ?_
      rotate_left
      · intro w' hN
        go_simp
        try with_reducible rfl
      simp only [Act.put, List.getElem_toArray, List.getElem_cons_succ, List.getElem_cons_zero, List.setIfInBounds_toArray, List.set_cons_zero, List.set_cons_succ]
      refine hold_read0 (i := 5) (v := ?_) n0 rfl (by kernel_rfl) (by kernel_rfl) (by kernel_rfl) (fun _ _ _ h => h) rfl ?_ ?_
      rotate_left
      · intro w' hN
        go_simp
        try with_reducible rfl
      simp only [Act.put, List.getElem_toArray, List.getElem_cons_succ, List.getElem_cons_zero, List.setIfInBounds_toArray, List.set_cons_zero, List.set_cons_succ]
      refine hold_step0 (i := 0) (by kernel_rfl) rfl rfl (fun K hK => ?_)
      go_simp
      go_wp2_with fail
      have n1 := Keep.new n0 hk0
      refine hK.out _ _ n1 ?_
      clear hK K
      try simp only [Act.put, List.getElem_toArray, List.getElem_cons_succ, List.getElem_cons_zero, List.setIfInBounds_toArray, List.set_cons_zero, List.set_cons_succ]
      replace n0 := n1
      clear n1
      refine hold_step0 (i := 3) (by kernel_rfl) rfl rfl (fun K hK => ?_)
      refine wp_bytes _ _ _ rfl w13.drew.heap.size _ 0 0 [] rfl hown0 _ A7 82 c7 _ rfl hca hbd0 hk0.size ?_
      intro A17 c17 w17 hown17 hg17 hbk17; have hk17 := new_app0 hk0 hown0 hg17; have hcb' := hcb.new ((New.refl w13).drew.new hk17)
      have n1 := hk17
      refine hK.out _ _ n1 ?_
      clear hK K
      try simp only [Act.put, List.getElem_toArray, List.getElem_cons_succ, List.getElem_cons_zero, List.setIfInBounds_toArray, List.set_cons_zero, List.set_cons_succ]
      replace n0 := n1
      clear n1
      refine hold_step0 (i := 6) (by kernel_rfl) rfl rfl (fun K hK => ?_)
      refine wp_bytes _ _ _ rfl w13.drew.heap.size A17 (0 + 82) c17 _ rfl hown17 _ _ 942 (c8 - 82) _ rfl hcb' hbd1 hk17.size ?_
      intro A18 c18 w18 hown18 hg18 hbk18
      have n1 := new_app0 hk17 hown17 hg18
      refine hK.out _ _ n1 ?_
      clear hK K
      try simp only [Act.put, List.getElem_toArray, List.getElem_cons_succ, List.getElem_cons_zero, List.setIfInBounds_toArray, List.set_cons_zero, List.set_cons_succ]
      replace n0 := n1
      clear n1
      refine hold_read0 (i := 7) (v := ?_) n0 rfl (by kernel_rfl) (by kernel_rfl) (by kernel_rfl) (fun _ _ _ h => h) rfl ?_ ?_
      rotate_left
      · intro w' hN
        go_simp
        try with_reducible rfl
      simp only [Act.put, List.getElem_toArray, List.getElem_cons_succ, List.getElem_cons_zero, List.setIfInBounds_toArray, List.set_cons_zero, List.set_cons_succ]
      refine wpAnyH_done (by kernel_rfl) ?_ _
      have hK018 := hK013.new ((New.refl w13).drew.new n0)
      have HK718 := Lib.hid (HK713.out.new ((New.refl w13).drew.new n0))
      clear hown0 hk0 hca hcb hcb' hk17 hown17 hg17 hbk17 hg18 hbk18 n0 hK013 HK713
      have hzz : [] ++ (segBytes 0 1 pr rs).take 82 ++ (segBytes 0 1 pr ss).drop 82 = segHead 0 1 pr rs ++ be4 (crcSum (segHead 0 1 pr rs)) ++ ((leavesOf ss).flatten ++ List.replicate (942 - (leavesOf ss).flatten.length) 0) := by
        rw [List.nil_append]
        conv => lhs; rw [HSX.out.1, HSY.out.1]
        rw [List.take_left' HSX.out.2, List.drop_left' HSY.out.2]
      rw [hzz] at hown18
      have hbx : (segBytes 0 1 pr rs).drop 82 = (leavesOf rs).flatten ++ List.replicate (942 - (leavesOf rs).flatten.length) 0 := by
        rw [HSX.out.1, List.drop_left' HSX.out.2]
      have hby : (segBytes 0 1 pr ss).drop 82 = (leavesOf ss).flatten ++ List.replicate (942 - (leavesOf ss).flatten.length) 0 := by
        rw [HSY.out.1, List.drop_left' HSY.out.2]
      have hbyl : ((leavesOf ss).flatten ++ List.replicate (942 - (leavesOf ss).flatten.length) 0).length = 942 := by
        have := HFY.out.room
        rw [List.length_append, List.length_replicate]; omega
      have hRD := read_any _ A18 1024 c18 _ w18 (Row.of_own hown18) (own_cap hown18) (own_capMax hown18)
      have hsm := segRead_small (segHead 0 1 pr rs ++ be4 (crcSum (segHead 0 1 pr rs)) ++ ((leavesOf ss).flatten ++ List.replicate (942 - (leavesOf ss).flatten.length) 0))
      have hcu := HFX.out.cuts _ hbyl _ rfl
      have hX7 := Bs.from_ HA7.out (l := 82) (by decide)
      have hY7 := Bs.from_ HA8.out (l := 82) (by decide)
      rw [hbx] at hX7
      rw [hby] at hY7
      have hfx := HFX.out.room
      clear hzz hown18 hbx hby hbyl HSX HSY HA7 HA8
      generalize segRead _ = d at *
      obtain ⟨hd, rr, why⟩ := d
      dsimp only at hsm hcu
      generalize (leavesOf ss).flatten ++ List.replicate _ _ = by' at *
      generalize hbxx : (leavesOf rs).flatten ++ List.replicate _ _ = bx at *
      have HRD := Lib.hid hRD
      have HCU := Lib.hid hcu
      have HSM := Lib.hid hsm
      have HX8 := Lib.hid (Row.new hX7 HK718.out)
      have HY8 := Lib.hid (Row.new hY7 HK718.out)
      have HX18 := Lib.hid (HX7.out.new HK718.out)
      have HFXR := Lib.hid hfx
      clear hRD hcu hsm hX7 hY7 HX7 HK718 hbxx hfx
      go_wp2_with fail
      refine HRD.out.mono ?_
      rintro e w19 ⟨⟨E1, g1, E2, g2, E3, g3, rfl, -, -, -, -, ho3⟩, hK19⟩
      dsimp only at ho3
      have hN20 : New w19 (w19.alloc (.cells #[.int .i64 hd.index, .int .u64 hd.first, .int .i64 hd.count, .int .i64 hd.bytes, .slice E1 hd.prev.length g1, .slice E2 hd.root.length g2] 37)) := (New.refl w19).alloc _
      have ho20 := ho3.new hN20
      have hK1820 := hK19.new hN20
      clear ho3 hK19 hN20
      go_wp2_with fail
      generalize w19.alloc _ = w20 at *
      have k1 : ∀ m, (convert 24 9 (.slice (Option.map (fun x => ({ block := x.block, off := x.off + 82 } : Addr)) A7) 942 (c7 - 82))).run Tryd.prog (w20.drewN m) = .ok (.string (strOf bx)) (w20.drewN m) := fun m => run_str (Row.new HX8.out (hK1820.new ((New.refl w20).drewN m)))
      have k2 : ∀ m, (convert 24 9 (.slice (Option.map (fun x => ({ block := x.block, off := x.off + 82 } : Addr)) A8) 942 (c8 - 82))).run Tryd.prog (w20.drewN m) = .ok (.string (strOf by')) (w20.drewN m) := fun m => run_str (Row.new HY8.out (hK1820.new ((New.refl w20).drewN m)))
      have HB20 := Lib.hid ho20
      have HK020 := Lib.hid (hK018.new hK1820)
      have HX20 := Lib.hid (HX18.out.new hK1820)
      clear ho20 hK018 hK1820 HX18 HX8 HY8
      have hcase : (bx = by' ∧ (bx == by') = true) ∨ (bx ≠ by' ∧ (bx == by') = false) := by
        by_cases h : bx = by'
        · exact .inl ⟨h, by simpa using h⟩
        · exact .inr ⟨h, by simpa using h⟩
      rcases hcase with ⟨hs, hs'⟩ | ⟨hs, hs'⟩
      · have HS := Lib.hid hs
        clear hs
        go_quiet (fail)
        have hNq : New w20 (w20.drewN nq) := (New.refl w20).drewN nq
        have hK0q := HK020.out.new hNq
        generalize w20.drewN nq = wq at *
        clear hNq k1 k2 HK020
        have hw0 : why = 0 := Decidable.byContradiction fun h => (HCU.out.2 h).2 HS.out.symm
        subst hw0
        -- BEGIN same
        go_wp2_with fail
        refine (known17_any _).mono ?_
        rintro e w21 ⟨rfl, hK21⟩
        go_wp2_with fail
        go_ret
        exact ⟨rfl, hK0q.new hK21⟩
        -- END same
      · have HS := Lib.hid hs
        clear hs
        go_quiet (fail)
        have hNq : New w20 (w20.drewN nq) := (New.refl w20).drewN nq
        have hK0q := HK020.out.new hNq
        have HBq := Lib.hid (HB20.out.new hNq)
        have HXq := Lib.hid (HX20.out.new hNq)
        generalize w20.drewN nq = wq at *
        clear hNq k1 k2 HK020 HB20 HX20
        by_cases hw0 : why = 0
        · have hcu := HCU.out.1 hw0
          subst hw0
          have hne : decide (leavesOf rr = leavesOf rs) = false := decide_eq_false fun h => HS.out (hcu.2 h).symm
          have HNE := Lib.hid hne
          have hsm := HSM.out
          have hrb : ∀ r ∈ rr, r.body.length ≤ 9223372036854770000 := fun r hr => by
            have h := hsm.1 r hr
            unfold recRight at h
            rw [decide_eq_true_eq] at h
            omega
          have HRR := Lib.hid (HBq.out.recs hrb)
          have hl1 := hsm.2.1
          have hl2 := hsm.2.2
          have hfx := HFXR.out
          have hll : (leavesOf rr).length = rr.length := by unfold leavesOf; rw [List.length_map]
          have HLR : Hid (∀ W, New wq W → Calls Tryd.prog 17 #[.slice E3 rr.length g3] W fun e w' => (∃ A' c', e = .returned (.slice A' rr.length c') ∧ OwnBss w' W.heap.size (fun b => W.heap.size ≤ b) A' rr.length c' (leavesOf rr)) ∧ New W w') :=
            Lib.hid fun W h => leaves_any _ E3 rr.length g3 rr W (HRR.out.new h) (by omega)
          have HLX : Hid (∀ W, New wq W → Calls Tryd.prog 17 #[.slice A4 m0 c4] W fun e w' => (∃ A' c', e = .returned (.slice A' m0 c') ∧ OwnBss w' W.heap.size (fun b => W.heap.size ≤ b) A' m0 c' (leavesOf rs)) ∧ New W w') :=
            Lib.hid fun W h => leaves_any _ A4 m0 c4 rs W (HXq.out.new h) (by omega)
          have HR1 : Hid (∀ W b (E : Nat → Prop) A14 c14, OwnBss W b E A14 rr.length c14 (leavesOf rr) → Calls Tryd.prog 16 #[.slice A14 rr.length c14] W fun e w' => (∃ A' c', e = .returned (.slice A' 32 c') ∧ OwnB w' W.heap.size 5 A' 32 c' (rootOf (leavesOf rs))) ∧ New W w') :=
            Lib.hid fun W b E A14 c14 ho => by rw [← hcu.1]; exact root6_any rr.length _ A14 c14 (leavesOf rr) W ho.bss ho.cap (by omega) (by omega) ho.capMax
          have HR2 : Hid (∀ W b (E : Nat → Prop) A14 c14, OwnBss W b E A14 m0 c14 (leavesOf rs) → Calls Tryd.prog 16 #[.slice A14 m0 c14] W fun e w' => (∃ A' c', e = .returned (.slice A' 32 c') ∧ OwnB w' W.heap.size 5 A' 32 c' (rootOf (leavesOf rs))) ∧ New W w') :=
            Lib.hid fun W b E A14 c14 ho => root6_any m0 _ A14 c14 (leavesOf rs) W ho.bss ho.cap (by omega) (by omega) ho.capMax
          have HV : Hid (∀ W b A15 c15, OwnB W b 5 A15 32 c15 (rootOf (leavesOf rs)) → ∀ W', New W W' → (convert 24 9 (.slice A15 32 c15)).run Tryd.prog W' = .ok (.string (strOf (rootOf (leavesOf rs)))) W') :=
            Lib.hid fun W b A15 c15 ho W' h => run_str (Row.of_own (Own.keepNew ho h))
          have hrl2 : rr.length ≤ 9223372036854775807 := by omega
          generalize rootOf (leavesOf rs) = rt at *
          clear hne hsm hrb hl1 hl2 hfx hll hcu HRR HXq HBq HCU HSM HFXR HS
          -- BEGIN unlike
          go_wp2_with fail
          refine hold_begin (by kernel_rfl) ?_
          have n0 : New wq wq.drew := (New.refl wq).drew
          refine hold_read (i := 0) (v := ?_) rfl (by kernel_rfl) (by kernel_rfl) (by kernel_rfl) (fun _ _ _ h => h) rfl ?_ ?_
          rotate_left
          · intro w' hN
            go_simp
            try with_reducible rfl
          simp only [Act.put, List.getElem_toArray, List.getElem_cons_succ, List.getElem_cons_zero, List.setIfInBounds_toArray, List.set_cons_zero, List.set_cons_succ]
          refine hold_read (i := 2) (v := ?_) rfl (by kernel_rfl) (by kernel_rfl) (by kernel_rfl) (fun _ _ _ h => h) rfl ?_ ?_
          rotate_left
          · intro w' hN
            go_simp
            try with_reducible rfl
          simp only [Act.put, List.getElem_toArray, List.getElem_cons_succ, List.getElem_cons_zero, List.setIfInBounds_toArray, List.set_cons_zero, List.set_cons_succ]
          refine hold_step (i := 1) (by kernel_rfl) rfl rfl (fun K hK => ?_)
          go_simp
          refine (HLR.out _ n0).mono ?_
          rintro e w21 ⟨⟨A21, c21, rfl, o21⟩, k21⟩
          go_wp2_with fail
          refine hK.out _ _ k21 ?_
          clear hK K
          try simp only [Act.put, List.getElem_toArray, List.getElem_cons_succ, List.getElem_cons_zero, List.setIfInBounds_toArray, List.set_cons_zero, List.set_cons_succ]
          replace n0 := Keep.new n0 k21
          refine hold_step (i := 3) (by kernel_rfl) rfl rfl (fun K hK => ?_)
          go_simp
          refine (HLX.out _ n0).mono ?_
          rintro e w22 ⟨⟨A22, c22, rfl, o22⟩, k22⟩
          go_wp2_with fail
          refine hK.out _ _ k22 ?_
          clear hK K
          try simp only [Act.put, List.getElem_toArray, List.getElem_cons_succ, List.getElem_cons_zero, List.setIfInBounds_toArray, List.set_cons_zero, List.set_cons_succ]
          replace n0 := Keep.new n0 k22
          refine hold_step (i := 4) (by kernel_rfl) rfl rfl (fun K hK => ?_)
          go_simp
          refine (lists_any _ _ A21 A22 _ c21 _ c22 _ _ _ ((o21.new k22).bss) o22.bss hrl2).mono ?_
          rintro e w23 ⟨he23, k23⟩; rw [HNE.out] at he23; subst he23
          go_wp2_with fail
          refine hK.out _ _ k23 ?_
          clear hK K
          try simp only [Act.put, List.getElem_toArray, List.getElem_cons_succ, List.getElem_cons_zero, List.setIfInBounds_toArray, List.set_cons_zero, List.set_cons_succ]
          replace n0 := Keep.new n0 k23
          refine hold_read (i := 5) (v := ?_) rfl (by kernel_rfl) (by kernel_rfl) (by kernel_rfl) (fun _ _ _ h => h) rfl ?_ ?_
          rotate_left
          · intro w' hN
            go_simp
            try with_reducible rfl
          simp only [Act.put, List.getElem_toArray, List.getElem_cons_succ, List.getElem_cons_zero, List.setIfInBounds_toArray, List.set_cons_zero, List.set_cons_succ]
          refine hold_read (i := 6) (v := ?_) rfl (by kernel_rfl) (by kernel_rfl) (by kernel_rfl) (fun _ _ _ h => h) rfl ?_ ?_
          rotate_left
          · intro w' hN
            go_simp
            try with_reducible rfl
          simp only [Act.put, List.getElem_toArray, List.getElem_cons_succ, List.getElem_cons_zero, List.setIfInBounds_toArray, List.set_cons_zero, List.set_cons_succ]
          refine hold_read (i := 7) (v := ?_) rfl (by kernel_rfl) (by kernel_rfl) (by kernel_rfl) (fun _ _ _ h => h) rfl ?_ ?_
          rotate_left
          · intro w' hN
            go_simp
            try with_reducible rfl
          simp only [Act.put, List.getElem_toArray, List.getElem_cons_succ, List.getElem_cons_zero, List.setIfInBounds_toArray, List.set_cons_zero, List.set_cons_succ]
          refine hold_read (i := 11) (v := ?_) rfl (by kernel_rfl) (by kernel_rfl) (by kernel_rfl) (fun _ _ _ h => h) rfl ?_ ?_
          rotate_left
          · intro w' hN
            go_simp
            try with_reducible rfl
          simp only [Act.put, List.getElem_toArray, List.getElem_cons_succ, List.getElem_cons_zero, List.setIfInBounds_toArray, List.set_cons_zero, List.set_cons_succ]
          refine hold_step (i := 8) (by kernel_rfl) rfl rfl (fun K hK => ?_)
          go_simp
          refine (HLR.out _ n0).mono ?_
          rintro e w24 ⟨⟨A24, c24, rfl, o24⟩, k24⟩
          go_wp2_with fail
          refine hK.out _ _ k24 ?_
          clear hK K
          try simp only [Act.put, List.getElem_toArray, List.getElem_cons_succ, List.getElem_cons_zero, List.setIfInBounds_toArray, List.set_cons_zero, List.set_cons_succ]
          replace n0 := Keep.new n0 k24
          refine hold_step (i := 9) (by kernel_rfl) rfl rfl (fun K hK => ?_)
          go_simp
          refine (HR1.out _ _ _ _ _ o24).mono ?_
          rintro e w25 ⟨⟨A25, c25, rfl, o25⟩, k25⟩; have v25 := HV.out w25 _ A25 c25 o25
          go_wp2_with fail
          refine hK.out _ _ k25 ?_
          clear hK K
          try simp only [Act.put, List.getElem_toArray, List.getElem_cons_succ, List.getElem_cons_zero, List.setIfInBounds_toArray, List.set_cons_zero, List.set_cons_succ]
          replace n0 := Keep.new n0 k25
          refine hold_read (i := 10) (v := ?_) rfl (by kernel_rfl) (by kernel_rfl) (by kernel_rfl) (fun _ _ _ h => h) rfl ?_ ?_
          rotate_left
          · intro w' hN
            go_simp
            try with_reducible rfl
          simp only [Act.put, List.getElem_toArray, List.getElem_cons_succ, List.getElem_cons_zero, List.setIfInBounds_toArray, List.set_cons_zero, List.set_cons_succ]
          refine hold_step (i := 12) (by kernel_rfl) rfl rfl (fun K hK => ?_)
          go_simp
          refine (HLX.out _ n0).mono ?_
          rintro e w26 ⟨⟨A26, c26, rfl, o26⟩, k26⟩
          go_wp2_with fail
          refine hK.out _ _ k26 ?_
          clear hK K
          try simp only [Act.put, List.getElem_toArray, List.getElem_cons_succ, List.getElem_cons_zero, List.setIfInBounds_toArray, List.set_cons_zero, List.set_cons_succ]
          replace n0 := Keep.new n0 k26
          replace v25 := fun W (hW : New w26 W) => v25 W (Keep.new k26 hW)
          refine hold_step (i := 13) (by kernel_rfl) rfl rfl (fun K hK => ?_)
          go_simp
          refine (HR2.out _ _ _ _ _ o26).mono ?_
          rintro e w27 ⟨⟨A27, c27, rfl, o27⟩, k27⟩; have v27 := HV.out w27 _ A27 c27 o27
          go_wp2_with fail
          refine hK.out _ _ k27 ?_
          clear hK K
          try simp only [Act.put, List.getElem_toArray, List.getElem_cons_succ, List.getElem_cons_zero, List.setIfInBounds_toArray, List.set_cons_zero, List.set_cons_succ]
          replace n0 := Keep.new n0 k27
          replace v25 := fun W (hW : New w27 W) => v25 W (Keep.new k27 hW)
          refine hold_read (i := 14) (v := ?_) rfl (by kernel_rfl) (by kernel_rfl) (by kernel_rfl) (fun _ _ _ h => h) rfl ?_ ?_
          rotate_left
          · intro w' hN
            go_simp
            try with_reducible rfl
          simp only [Act.put, List.getElem_toArray, List.getElem_cons_succ, List.getElem_cons_zero, List.setIfInBounds_toArray, List.set_cons_zero, List.set_cons_succ]
          refine hold_read (i := 15) (v := ?_) rfl (by kernel_rfl) (by kernel_rfl) (by kernel_rfl) (fun _ _ _ h => h) rfl ?_ ?_
          rotate_left
          · intro w' hN
            go_simp
            try with_reducible rfl
          simp only [Act.put, List.getElem_toArray, List.getElem_cons_succ, List.getElem_cons_zero, List.setIfInBounds_toArray, List.set_cons_zero, List.set_cons_succ]
          refine hold_read (i := 16) (v := ?_) rfl (by kernel_rfl) (by kernel_rfl) (by kernel_rfl) (fun _ _ _ h => h) rfl ?_ ?_
          rotate_left
          · intro w' hN
            go_simp
            try with_reducible rfl
          simp only [Act.put, List.getElem_toArray, List.getElem_cons_succ, List.getElem_cons_zero, List.setIfInBounds_toArray, List.set_cons_zero, List.set_cons_succ]
          refine hold_read (i := 17) (v := ?_) rfl (by kernel_rfl) (by kernel_rfl) (by kernel_rfl) (fun _ _ _ h => h) rfl ?_ ?_
          rotate_left
          · intro w' hN
            go_simp
            try with_reducible rfl
          simp only [Act.put, List.getElem_toArray, List.getElem_cons_succ, List.getElem_cons_zero, List.setIfInBounds_toArray, List.set_cons_zero, List.set_cons_succ]
          refine hold_step (i := 18) (by kernel_rfl) rfl rfl (fun K hK => ?_)
          go_simp
          refine (known17_any _).mono ?_
          rintro e w28 ⟨rfl, k28⟩
          go_wp2_with fail
          refine hK.out _ _ k28 ?_
          clear hK K
          try simp only [Act.put, List.getElem_toArray, List.getElem_cons_succ, List.getElem_cons_zero, List.setIfInBounds_toArray, List.set_cons_zero, List.set_cons_succ]
          replace n0 := Keep.new n0 k28
          replace v25 := fun W (hW : New w28 W) => v25 W (Keep.new k28 hW)
          replace v27 := fun W (hW : New w28 W) => v27 W (Keep.new k28 hW)
          refine hold_read (i := 19) (v := ?_) rfl (by kernel_rfl) (by kernel_rfl) (by kernel_rfl) (fun _ _ _ h => h) rfl ?_ ?_
          rotate_left
          · intro w' hN
            go_simp
            try with_reducible rfl
          simp only [Act.put, List.getElem_toArray, List.getElem_cons_succ, List.getElem_cons_zero, List.setIfInBounds_toArray, List.set_cons_zero, List.set_cons_succ]
          refine hold_read (i := 20) (v := ?_) rfl (by kernel_rfl) (by kernel_rfl) (by kernel_rfl) (fun _ _ _ h => h) rfl ?_ ?_
          rotate_left
          · intro w' hN
            go_simp
            try with_reducible rfl
          simp only [Act.put, List.getElem_toArray, List.getElem_cons_succ, List.getElem_cons_zero, List.setIfInBounds_toArray, List.set_cons_zero, List.set_cons_succ]
          refine wpAnyH_done (by kernel_rfl) ?_ _
          go_wp2_with fail
          go_ret
          exact ⟨rfl, hK0q.new n0⟩
          -- END unlike
        · have hcu := HCU.out.2 hw0
          have hr0 := hcu.1
          subst hr0
          have hw1 : (why == 0) = false := by simpa using hw0
          clear hcu HSM HBq HXq
          -- BEGIN refused
          go_wp2_with fail
          refine (known17_any _).mono ?_
          rintro e w21 ⟨rfl, hK21⟩
          go_wp2_with fail
          go_ret
          exact ⟨rfl, hK0q.new hK21⟩
          -- END refused
end Go.Proofs.YtpbbfbgmpidgnaaDoor
