/-
  PROVED HERE: the law SegmentBack returns true, and leaves all that was there; conditions: lengths and numbers that Go has.
-/
import Derived.Test.YtpbbfbgmpidgnaaDoorBackLaw
import Derived.Test.YtpbbfbgmpidgnaaDoorHelp17
import Derived.Test.YtpbbfbgmpidgnaaDoorRef6
namespace Go.Proofs.YtpbbfbgmpidgnaaDoor
open Go.RowKit

theorem Recs.at3 {w : World} {D : Nat → Prop} {A : Option Addr} {n : Nat} {rs : List RecP} (h : Recs w D A n rs) {k : Nat} (hk : k < rs.length) :
    ∃ b off A' c', A = some ⟨b, off, none⟩ ∧ D b ∧ w.cell? ⟨b, off + k * 3, none⟩ = some (.int .i64 rs[k].kind) ∧ w.cell? ⟨b, off + k * 3 + 1, none⟩ = some (.int .u64 rs[k].seq) ∧
      w.cell? ⟨b, off + k * 3 + 2, none⟩ = some (.slice A' rs[k].body.length c') ∧ Bs w D A' rs[k].body.length rs[k].body := by
  obtain ⟨vs, h1, h2, h3⟩ := h
  obtain ⟨A', c', e1, e2, e3, hc, hb, h5, h6, h7⟩ := h3 k hk
  obtain ⟨b, off, hA, hD, _, hcell⟩ := h1.2 (by omega)
  refine ⟨b, off, A', c', hA, hD, hcell _ _ e1, ?_, ?_, hb⟩
  · rw [Nat.add_assoc]; exact hcell _ _ e2
  · rw [Nat.add_assoc]; exact hcell _ _ e3
theorem List.map_set_bool (l : List Bool) (j : Nat) (b : Bool) : (l.set j b).map Value.bool = (l.map Value.bool).set j (.bool b) := by rw [List.map_set]
theorem lenFlag_get (rs : List RecP) (i k : Nat) (h : lenFlag rs i k = false) : ∀ j, j < i → k ≠ 82 + offOf rs j + 9 ∧ k ≠ 82 + offOf rs j + 10 := by
  unfold lenFlag at h
  rw [decide_eq_false_iff_not] at h
  exact fun j hj => ⟨fun e => h ⟨j, hj, .inl e⟩, fun e => h ⟨j, hj, .inr e⟩⟩
theorem xor_ne (x t : UInt8) (h : t ≠ 0) : x ^^^ t ≠ x := by
  intro e
  apply h
  have := congrArg (fun z => x ^^^ z) e
  simpa [← UInt8.xor_assoc] using this
theorem flag_some (rs : List RecP) (k j : Nat) (hj : j < 1100) : ((lenFlags rs k).map Value.bool)[j]? = some (.bool (lenFlag rs k j)) := by
  unfold lenFlags
  rw [List.getElem?_map, List.getElem?_map, List.getElem?_range hj]; rfl
set_option maxRecDepth 100000 in
set_option maxHeartbeats 4000000 in
theorem back_any (D D2 : Nat → Prop) (A A2 : Option Addr) (n c n2 c2 : Nat) (l : List RawP) (pv : List UInt8) (ix fi at' : Int) (tn : UInt8) (w : World) (hR : Raws w D A n l) (hB : Bs w D2 A2 n2 pv) (hn : n ≤ 9223372036854775807) (hn2 : n2 ≤ 9223372036854775807) (hnc2 : n2 ≤ c2)
    (hi0 : -9223372036854775808 ≤ ix) (hi1 : ix ≤ 9223372036854775807) (ha0 : -9223372036854775808 ≤ at') (ha1 : at' ≤ 9223372036854775807) (hf0 : 0 ≤ fi) (hf1 : fi ≤ 18446744073709551615) :
    Calls Tryd.prog 3 #[.slice A n c, .int .i64 ix, .int .u64 fi, .slice A2 n2 c2, .int .i64 at', .int .u8 (bv tn)] w fun e w' => e = .returned (.bool true) ∧ New w w' := by
  have HPV := Lib.hid hB
  clear hB
  have HW1 : Hid (∀ W, Calls Tryd.prog 7 #[.int .i64 ix, .int .i64 0, .int .i64 65535] W fun e w' => e = .returned (.int .i64 (ix % 65536)) ∧ W = w') := Lib.hid fun W => by
    have h := within_any ix 0 65535 W hi0 hi1 (by decide) (by decide) (by decide)
    rwa [show (0 : Int) + ix % (65535 - 0 + 1) = ix % 65536 from by omega] at h
  have HI : Hid (0 ≤ ix % 65536 ∧ ix % 65536 ≤ 65535) := Lib.hid (by omega)
  have qf : fi.tmod 1099511627776 = fi % 1099511627776 := Int.tmod_eq_emod_of_nonneg hf0
  have HF : Hid (0 ≤ fi % 1099511627776 ∧ fi % 1099511627776 ≤ 1099511627775) := Lib.hid (by omega)
  generalize ix % 65536 = i0 at *
  generalize fi % 1099511627776 = f at *
  have HRE : Hid (∀ W, New w W → Calls Tryd.prog 9 #[.slice A n c, .int .u64 f, .int .i64 100] W fun e w' =>
      (∃ A1 c1 A2 c2, e = .returned (.tuple #[.slice A1 (min n 40) c1, .slice A2 (min n 40) c2]) ∧ OwnRecs w' W.heap.size (fun b => b < W.heap.size) A1 (min n 40) c1 (rawRecs f 100 l (min n 40)) ∧ OwnRefs w' W.heap.size (fun b => b < W.heap.size) A2 (min n 40) c2 (rawRecs f 100 l (min n 40))) ∧ New W w') :=
    Lib.hid fun W hW => records17_any D A n c 100 l f W (hR.new hW) hn HF.out.1 (by have := HF.out.2; omega) (by decide)
  have hk40 : min n 40 ≤ 40 := Nat.min_le_right _ _
  have HBODY : Hid (∀ r ∈ rawRecs f 100 l (min n 40), r.body.length ≤ 100) := Lib.hid fun r hr => rawRecs_body hr
  have HFINE := Lib.hid (fun pr hp hm => raw_fine (index := i0) (first := f) (prev := pr) (l := l) (n := min n 40) (most := 100) HI.out.1 HI.out.2 HF.out.1 (by have := HF.out.2; omega) hp hm)
  have HBLD := Lib.hid (fun hm => raw_build (index := i0) (first := f) (l := l) (n := min n 40) (most := 100) HI.out.1 HI.out.2 HF.out.1 (by have := HF.out.2; omega) hm)
  have HNONE := Lib.hid (fun hm => raw_none (index := i0) (first := f) (l := l) (n := min n 40) (most := 100) hm)
  have hrl := rawRecs_length f 100 l (min n 40)
  have hfl := fitsIn_le 942 (rawRecs f 100 l (min n 40))
  rw [hrl] at hfl
  have HRL := Lib.hid hrl
  clear hrl hR
  generalize rawRecs f 100 l (min n 40) = rs0 at *
  generalize min n 40 = k0 at *
  go_enter Tryd.func3, Tryd.ntmps3
  go_wp2_with fail
  refine (HW1.out w).mono ?_
  rintro e w' ⟨rfl, rfl⟩
  go_wp2_with fail
  refine (sized_any A2 n2 c2 32 pv D2 w HPV.out hn2 hnc2 (by decide)).mono ?_
  rintro e w1 ⟨⟨A3, c3, rfl, hp1⟩, hK1⟩
  go_wp2_with fail
  refine (HRE.out w1 hK1).mono ?_
  rintro e w2 ⟨⟨A4, c4, A5, c5, rfl, hr2, -⟩, hK2⟩
  have hprl := hp1.1
  have hp2 := Own.keepNew hp1 hK2
  have hK02 := hK1.new hK2
  have hw1 := hK1.size
  have hr2' := OwnRecs.rebase hr2 hw1
  clear hp1 hK1 hK2 hw1 HRE HPV HW1
  have HRS2 := Lib.hid (hr2'.recs (fun r hr => by have := HBODY.out r hr; omega))
  have hc4 := hr2'.cap
  have hc49 := hr2'.capMax
  have HF1 : Hid (∀ W, New w2 W → Calls Tryd.prog 10 #[.slice A4 k0 c4] W fun e w' => e = .returned (.int .i64 (fitsIn 942 rs0 : Nat)) ∧ New W w') := Lib.hid fun W hW => fits_any _ A4 k0 c4 rs0 W (HRS2.out.new hW) (by omega)
  have HW2 : Hid (∀ W, Calls Tryd.prog 7 #[.int .i64 (fitsIn 942 rs0 : Nat), .int .i64 0, .int .i64 (k0 : Int)] W fun e w' => e = .returned (.int .i64 (fitsIn 942 rs0 : Nat)) ∧ W = w') := Lib.hid fun W => by
    have h := within_any (fitsIn 942 rs0 : Nat) 0 k0 W (by omega) (by omega) (by omega) (by omega) (by omega)
    rwa [show (0 : Int) + ((fitsIn 942 rs0 : Nat) : Int) % ((k0 : Int) - 0 + 1) = (fitsIn 942 rs0 : Nat) from by rw [Int.emod_eq_of_lt (by omega) (by omega)]; omega] at h
  generalize hm : fitsIn 942 rs0 = m at *
  have hmc : (m : Int) ≤ c4 := by omega
  go_wp2_with fail
  refine (HF1.out w2 (New.refl _)).mono ?_
  rintro e w3 ⟨rfl, hK3⟩
  go_wp2_with fail
  refine (HW2.out w3).mono ?_
  rintro e w' ⟨rfl, rfl⟩
  have HM := Lib.hid hm
  clear hm
  have hpl : (sized pv 32).length = 32 := by simpa using hprl
  have hp3 := Own.keepNew hp2 hK3
  have HRS3 : Hid (Recs w3 _ A4 m (rs0.take m)) := Lib.hid ((HRS2.out.new hK3).take hfl)
  have hK03 := hK02.new hK3
  have hr3 := hr2'.new hK3
  clear hp2 hK02 hr2 hr2' hK3 HF1 HW2 HRS2
  go_wp2_with fail
  by_cases hm0 : m = 0
  · subst hm0
    refine (build_arg (fun b => w.heap.size ≤ b) _ i0 f A3 A4 32 c3 0 c4 (rs0.take 0) w3 HRS3.out (by decide) (HNONE.out rfl)).mono ?_
    rintro e w4 ⟨rfl, hK4⟩
    go_wp2_with fail
    refine (known17_any _).mono ?_
    rintro e w5 ⟨rfl, hK5⟩
    go_wp2_with fail
    go_ret
    exact ⟨rfl, (hK03.new hK4).new hK5⟩
  · have HFN := Lib.hid (HFINE.out (sized pv 32) hpl hm0)
    have hbl := HBLD.out hm0
    have HBL := Lib.hid hbl
    have hrsl : (rs0.take m).length = m := by rw [List.length_take, HRL.out]; omega
    have hm40 : m ≤ 40 := by omega
    generalize sized pv 32 = pr at *
    generalize rs0.take m = rs at *
    clear hbl HBLD HFINE HNONE hc4 hmc HM hr3 HBODY HRL hfl
    subst hrsl
    refine (build_ok (fun b => w.heap.size ≤ b) _ i0 f A3 A4 32 c3 rs.length c4 pr rs w3 (Row.of_own hp3) (own_cap hp3) HRS3.out (by omega) HF.out.1 HBL.out.1 HBL.out.2).mono ?_
    rintro e w4 ⟨⟨A6, c6, rfl, ho4⟩, hK4⟩
    have HRD := Lib.hid (read_any _ A6 1024 c6 _ w4 (Row.of_own ho4) (own_cap ho4) (own_capMax ho4))
    rw [HFN.out.read] at HRD
    have hLr := HFN.out.room
    have hLo := offOf_all rs
    have hLe := fun k => offOf_le rs k
    generalize (leavesOf rs).flatten.length = L at *
    have HLO := Lib.hid hLo
    have HLE := Lib.hid hLe
    clear hLo hLe
    have HRS4 := Lib.hid (HRS3.out.new hK4)
    have hp4 := Own.keepNew hp3 hK4
    have hK04 := hK03.new hK4
    have hK03' := hK03
    clear HRS3 hp3 hK03 hK4 HBL
    go_wp2_with fail
    refine HRD.out.mono ?_
    rintro e w5 ⟨⟨A7, c7, A8, c8, A9, c9, rfl, h71, h81, hb7, hb8, ho9⟩, hK5⟩
    dsimp only at h71 h81 hb7 hb8 ho9
    have hrl32 := rootOf_length (leavesOf rs)
    rw [hpl, hrl32]
    rw [hpl] at h71 hb7
    rw [hrl32] at h81 hb8
    have hN6 : New w5 (w5.alloc (.cells #[.int .i64 i0, .int .u64 f, .int .i64 (rs.length : Int), .int .i64 (L : Int), .slice A7 32 c7, .slice A8 32 c8] 37)) := (New.refl w5).alloc _
    have HX6 := Lib.hid (heap_alloc_new w5 (.cells #[.int .i64 i0, .int .u64 f, .int .i64 (rs.length : Int), .int .i64 (L : Int), .slice A7 32 c7, .slice A8 32 c8] 37))
    have hK06 := (hK04.new hK5).new hN6
    have HRS6 := Lib.hid (((HRS4.out.new hK5).new hN6).imp (E := fun b => b < (w5.alloc (.cells #[.int .i64 i0, .int .u64 f, .int .i64 (rs.length : Int), .int .i64 (L : Int), .slice A7 32 c7, .slice A8 32 c8] 37)).heap.size) (fun b hb _ => hb))
    have hrb : ∀ r ∈ rs, r.body.length ≤ 9223372036854770000 := fun r hr => by
      have h := (HFN.out.right r hr).1
      unfold recRight at h
      rw [decide_eq_true_eq] at h
      omega
    have HRM6 := Lib.hid (((ho9.recs hrb).new hN6).imp (E := fun b => b < (w5.alloc (.cells #[.int .i64 i0, .int .u64 f, .int .i64 (rs.length : Int), .int .i64 (L : Int), .slice A7 32 c7, .slice A8 32 c8] 37)).heap.size) (fun b hb _ => hb))
    have ho6 := Own.keepNew (Own.keepNew ho4 hK5) hN6
    have HP6 := Lib.hid (Row.of_own (Own.keepNew (Own.keepNew hp4 hK5) hN6))
    have HB7 := Lib.hid (hb7.new hN6)
    have HB8 := Lib.hid ((hb8.new hN6).imp (E := fun b => b < (w5.alloc (.cells #[.int .i64 i0, .int .u64 f, .int .i64 (rs.length : Int), .int .i64 (L : Int), .slice A7 32 c7, .slice A8 32 c8] 37)).heap.size) (fun b hb _ => hb))
    have HO6 := Lib.hid ho6
    have HA6 := Lib.hid (fun k hk => (own_lt ho6 k hk))
    have hw3 : w.heap.size ≤ w3.heap.size := hK03'.size
    have hw6' : w.heap.size ≤ (w5.alloc (.cells #[.int .i64 i0, .int .u64 f, .int .i64 (rs.length : Int), .int .i64 (L : Int), .slice A7 32 c7, .slice A8 32 c8] 37)).heap.size := hK06.size
    have hw46 : w.heap.size ≤ w4.heap.size := hK04.size
    have hw34 := hK5.size
    have hc9 : rs.length ≤ c9 := ho9.cap
    have hc99 := ho9.capMax
    clear hrb hb7 hb8 ho4 ho6 hp4 HRS4 hK04 hK5 ho9 HRD
    have hgs : w5.heap.size < (w5.alloc (.cells #[.int .i64 i0, .int .u64 f, .int .i64 (rs.length : Int), .int .i64 (L : Int), .slice A7 32 c7, .slice A8 32 c8] 37)).heap.size := by simp
    have x0 := cellOf HX6.out (k := 0) rfl
    have x1 := cellOf HX6.out (k := 1) rfl
    have x2 := cellOf HX6.out (k := 2) rfl
    have x4 := cellOf HX6.out (k := 4) rfl
    have t7 := run_str (c := c7) HB7.out
    have t3 := run_str (c := c3) HP6.out
    go_wp2_with fail
    clear x0 x1 x2 x4 t7 t3
    generalize w5.alloc _ = w6 at *
    generalize w5.heap.size = gh at *
    refine (none_any w6).mono ?_
    rintro e w7 ⟨⟨A10, c10, rfl, ho10⟩, hK7⟩
    obtain ⟨g10, cp10, hA10, hg10, hgl⟩ := ho10.form (by decide)
    injection hA10 with hA10 _ hcp
    subst hA10
    subst hcp
    rw [← lenFlags_zero rs] at ho10
    have HXw := Lib.hid (HRS6.out.new hK7)
    have HMw := Lib.hid (HRM6.out.new hK7)
    have hK07 := hK06.new hK7
    have HX7 := Lib.hid (hK7.blockAt HX6.out trivial)
    have HP7 := Lib.hid (HP6.out.new hK7)
    have HO7 := Lib.hid (Own.keepNew HO6.out hK7)
    have HB87 := Lib.hid (HB8.out.new hK7)
    clear HRS6 HRM6 hK06 HX6 HP6 HO6 HB8 HB7 hN6
    have hw6 : w6.heap.size ≤ w7.heap.size := hK7.size
    generalize w6.heap.size = s6 at *
    clear hK7
    go_wp2_with fail
    go_loopw [21, 23] (fun s21 i wx => ∃ k : Nat, k ≤ rs.length ∧ i = .int .i64 (k : Int) ∧ s21 = .int .i64 ((82 + offOf rs k : Nat) : Int) ∧ Own wx s6 4 1 (some ⟨g10, 0, none⟩) 1100 c10 ((lenFlags rs k).map Value.bool) ∧ Keep (fun b => b ≠ g10) w7 wx) (fun _ i _ => rs.length - (intOf i).toNat)
    case atStart => exact ⟨0, Nat.zero_le _, rfl, by rw [offOf_zero]; rfl, ho10, Keep.refl _ _⟩
    case round =>
      clear ho10
      obtain ⟨k, hk, rfl, rfl, ho10, hKx⟩ := hrel
      by_cases hlt : k < rs.length
      · -- BEGIN round
        have hlk : k < rs.length := hlt
        obtain ⟨b1, o1, B1, d1, rfl, hb1, u0, u1, u2, hbs1⟩ := (HXw.out.keep hKx (fun b _ hb => by omega)).at3 (k := k) hlk
        obtain ⟨b2, o2, B2, d2, rfl, hb2, v0, v1, v2, hbs2⟩ := (HMw.out.keep hKx (fun b _ hb => by omega)).at3 (k := k) hlk
        have hri := HFN.out.right rs[k] (List.getElem_mem hlk)
        have hof := offOf_succ rs k hlk hri.1
        have hofL := HLE.out (k + 1)
        have HFS := Lib.hid (lenFlags_succ rs k)
        have hbd9 : rs[k].body.length ≤ 900 := by have h := hri.1; unfold recRight at h; rw [decide_eq_true_eq] at h; omega
        have hrz : recSize rs[k] = 15 + rs[k].body.length := by unfold recSize; rw [if_pos hri.1]
        have k1 : ∀ m, (convert 24 9 (.slice B1 rs[k].body.length d1)).run Tryd.prog (wr.drewN m) = .ok (.string (strOf rs[k].body)) (wr.drewN m) := fun m => run_str (hbs1.new ((New.refl wr).drewN m))
        have k2 : ∀ m, (convert 24 9 (.slice B2 rs[k].body.length d2)).run Tryd.prog (wr.drewN m) = .ok (.string (strOf rs[k].body)) (wr.drewN m) := fun m => run_str (hbs2.new ((New.refl wr).drewN m))
        have HZ := Lib.hid (fun W => size_any rs[k].kind rs[k].seq B1 rs[k].body.length d1 rs[k] W rfl rfl rfl (by omega))
        rw [hrz] at HZ
        have hF : offOf rs k ≤ 942 := by omega
        have HOF : Hid (offOf rs (k + 1) = offOf rs k + (15 + rs[k].body.length)) := Lib.hid hof
        have HOL : Hid (offOf rs (k + 1) ≤ 942) := Lib.hid (by omega)
        clear hri hof hofL hbs1 hbs2 hrz
        generalize rs[k] = r at *
        generalize hoe : offOf rs k = o at *
        generalize hoe' : offOf rs (k + 1) = o' at *
        generalize hFe : 82 + o = F at *
        have HFE := Lib.hid hFe
        have hF1 : F ≤ 1024 := by omega
        have f9 := flag_some rs k (F + 9) (by omega)
        have f10 := flag_some rs k (F + 10) (by omega)
        generalize lenFlags rs k = fl at *
        generalize hfl : lenFlags rs (k + 1) = fl' at *
        have HOE := Lib.hid hoe'
        have HFL := Lib.hid hfl
        clear hoe hoe' hFe hfl
        go_wp2_with fail
        go_quiet (fail)
        have hNq : New wr (wr.drewN nq) := (New.refl wr).drewN nq
        have hq10 := Own.keepNew ho10 hNq
        have u0 := hNq.cell_some u0 trivial
        have u1 := hNq.cell_some u1 trivial
        have u2 := hNq.cell_some u2 trivial
        have hKq := hKx.new hNq
        generalize wr.drewN nq = wq at *
        clear k1 k2 v0 v1 v2 ho10 hKx hNq
        have e9 : wq.cell? ⟨g10, F + 9, none⟩ = some (.bool (lenFlag rs k (F + 9))) := by simpa [Addr.add_lit] using hq10.cells (g := g10) rfl (F + 9) _ f9
        have z9 := hq10.frozenAt (g := g10) (F + 9)
        have hst1 := hq10.stored (F + 9) (.bool true)
        have z10 := hst1.1.frozenAt (g := g10) (F + 10)
        have e10 : wq.cell? ⟨g10, F + 10, none⟩ = some (.bool (lenFlag rs k (F + 10))) := by simpa [Addr.add_lit] using hq10.cells (g := g10) rfl (F + 10) _ f10
        have hst2 := hst1.1.stored (F + 10) (.bool true)
        have hKs : Keep (fun b => b ≠ g10) wq ((wq.setCell ⟨g10, F + 9, none⟩ (.bool true)).setCell ⟨g10, F + 10, none⟩ (.bool true)) := ((Keep.refl _ wq).setCell (p := ⟨g10, F + 9, none⟩) (fun h => absurd rfl h) _).setCell (p := ⟨g10, F + 10, none⟩) (fun h => absurd rfl h) _
        have y0 := hKs.cell_some u0 (by show b1 ≠ g10; omega)
        have y1 := hKs.cell_some u1 (by show b1 ≠ g10; omega)
        have y2 := hKs.cell_some u2 (by show b1 ≠ g10; omega)
        have HST := Lib.hid hst2.1
        have HKS := Lib.hid (hKq.trans hKs)
        clear hst1 hst2 hKs hKq
        have q9 : IntKind.i64.wrap ((F : Int) + 9) = ((F + 9 : Nat) : Int) := by rw [IntWalk.i64_in _ (by omega)]; omega
        have q10 : IntKind.i64.wrap ((F : Int) + 10) = ((F + 10 : Nat) : Int) := by rw [IntWalk.i64_in _ (by omega)]; omega
        go_wp2_with fail
        clear y0 y1 y2 u0 u1 u2 e9 e10 z9 z10 q9 q10 hq10
        generalize World.setCell _ _ _ = wz at *
        refine (HZ.out wz).mono ?_
        rintro e wy ⟨rfl, hKy⟩
        have q11 : ¬ (1024 : Int) < (F : Int) + (15 + (r.body.length : Int)) := by have h1 := HOF.out; have h2 := HOL.out; have h3 := HFE.out; omega
        go_wp2_with fail
        have hfin := Own.keepNew HST.out hKy
        rw [← List.map_set_bool, ← List.map_set_bool, HFS.out] at hfin
        go_roundw
        case rel => exact ⟨k + 1, by omega, by go_num, by rw [HOE.out]; have h1 := HOF.out; have h3 := HFE.out; go_num, by rw [HFL.out]; exact hfin, HKS.out.new hKy⟩
        case measure => simp [intOf]; omega
        -- END round
      · obtain rfl : k = rs.length := by omega
        have HRXr := Lib.hid (HXw.out.keep hKx (fun b _ hb => by omega))
        have HHr := Lib.hid (hKx.blockAt HX7.out (by show gh ≠ g10; omega))
        have HBr := Lib.hid (HB87.out.keep hKx (fun b _ hb => by omega))
        have HOr := Lib.hid (own_keep HO7.out hKx (fun k hk => by have := (HA6.out k hk).2; omega))
        have hKr : New w wr := (Keep.trans2 (D := fun b => b < w.heap.size) (Keep.of_new hK07) hKx (fun i hi _ => by omega)).toNew (fun i hi => hi)
        have HKr := Lib.hid hKr
        rw [HLO.out]
        clear HXw HMw HX7 HP7 HO7 HB87 hK07 hKx hKr
        have hfr := HFN.out.room
        have HLV : Hid (∀ W, New wr W → Calls Tryd.prog 17 #[.slice A4 rs.length c4] W fun e w' => (∃ A' c', e = .returned (.slice A' rs.length c') ∧ OwnBss w' W.heap.size (fun b => W.heap.size ≤ b) A' rs.length c' (leavesOf rs)) ∧ New W w') :=
          Lib.hid fun W h => leaves_any _ A4 rs.length c4 rs W (HRXr.out.new h) (by omega)
        have HRT : Hid (∀ W b (E : Nat → Prop) A14 c14, OwnBss W b E A14 rs.length c14 (leavesOf rs) → Calls Tryd.prog 16 #[.slice A14 rs.length c14] W fun e w' => (∃ A' c', e = .returned (.slice A' 32 c') ∧ OwnB w' W.heap.size 5 A' 32 c' (rootOf (leavesOf rs))) ∧ New W w') :=
          Lib.hid fun W b E A14 c14 ho => root6_any rs.length _ A14 c14 (leavesOf rs) W ho.bss ho.cap (by omega) (by omega) ho.capMax
        have y3 : ∀ W, New wr W → W.cell? ⟨gh, 3, none⟩ = some (.int .i64 (L : Int)) := fun W h => cellOf (h.blockAt HHr.out trivial) rfl
        have y5 : ∀ W, New wr W → W.cell? ⟨gh, 5, none⟩ = some (.slice A8 32 c8) := fun W h => cellOf (h.blockAt HHr.out trivial) rfl
        have yr : ∀ W, New wr W → (convert 24 9 (.slice A8 32 c8)).run Tryd.prog W = .ok (.string (strOf (rootOf (leavesOf rs)))) W := fun W h => run_str (HBr.out.new h)
        have HVR : Hid (∀ W b A15 c15, OwnB W b 5 A15 32 c15 (rootOf (leavesOf rs)) → ∀ W', New W W' → (convert 24 9 (.slice A15 32 c15)).run Tryd.prog W' = .ok (.string (strOf (rootOf (leavesOf rs)))) W') :=
          Lib.hid fun W b A15 c15 ho W' h => run_str (Row.of_own (Own.keepNew ho h))
        have q1 : IntKind.i64.wrap (82 + (L : Int)) = ((82 + L : Nat) : Int) := by rw [IntWalk.i64_in _ (by omega)]; omega
        clear hfr
        generalize rootOf (leavesOf rs) = rt at *
        go_wp2_with fail
        refine hold_begin (by kernel_rfl) ?_
        have n0 : New wr wr.drew := (New.refl wr).drew
        replace y3 := fun W (hW : New wr.drew W) => y3 W (Keep.new n0 hW)
        replace y5 := fun W (hW : New wr.drew W) => y5 W (Keep.new n0 hW)
        replace yr := fun W (hW : New wr.drew W) => yr W (Keep.new n0 hW)
        refine hold_read (i := 0) (v := ?_) rfl (by kernel_rfl) (by kernel_rfl) (by kernel_rfl) (fun _ _ _ h => h) rfl ?_ ?_
        rotate_left
        · intro w' hN
          go_simp
          try with_reducible rfl
        simp only [Act.put, List.getElem_toArray, List.getElem_cons_succ, List.getElem_cons_zero, List.setIfInBounds_toArray, List.set_cons_zero, List.set_cons_succ]
        refine hold_read (i := 1) (v := ?_) rfl (by kernel_rfl) (by kernel_rfl) (by kernel_rfl) (fun _ _ _ h => h) rfl ?_ ?_
        rotate_left
        · intro w' hN
          go_simp
          try with_reducible rfl
        simp only [Act.put, List.getElem_toArray, List.getElem_cons_succ, List.getElem_cons_zero, List.setIfInBounds_toArray, List.set_cons_zero, List.set_cons_succ]
        refine hold_read (i := 2) (v := ?_) rfl (by kernel_rfl) (by kernel_rfl) (by kernel_rfl) (fun _ _ _ h => h) rfl ?_ ?_
        rotate_left
        · intro w' hN
          go_simp
          try with_reducible rfl
        simp only [Act.put, List.getElem_toArray, List.getElem_cons_succ, List.getElem_cons_zero, List.setIfInBounds_toArray, List.set_cons_zero, List.set_cons_succ]
        refine hold_read (i := 3) (v := ?_) rfl (by kernel_rfl) (by kernel_rfl) (by kernel_rfl) (fun _ _ _ h => h) rfl ?_ ?_
        rotate_left
        · intro w' hN
          go_simp
          try with_reducible rfl
        simp only [Act.put, List.getElem_toArray, List.getElem_cons_succ, List.getElem_cons_zero, List.setIfInBounds_toArray, List.set_cons_zero, List.set_cons_succ]
        refine hold_read (i := 4) (v := ?_) rfl (by kernel_rfl) (by kernel_rfl) (by kernel_rfl) (fun _ _ _ h => h) rfl ?_ ?_
        rotate_left
        · intro w' hN
          go_simp
          try with_reducible rfl
        simp only [Act.put, List.getElem_toArray, List.getElem_cons_succ, List.getElem_cons_zero, List.setIfInBounds_toArray, List.set_cons_zero, List.set_cons_succ]
        refine hold_read (i := 5) (v := ?_) rfl (by kernel_rfl) (by kernel_rfl) (by kernel_rfl) (fun _ _ _ h => h) rfl ?_ ?_
        rotate_left
        · intro w' hN
          go_simp
          try with_reducible rfl
        simp only [Act.put, List.getElem_toArray, List.getElem_cons_succ, List.getElem_cons_zero, List.setIfInBounds_toArray, List.set_cons_zero, List.set_cons_succ]
        refine hold_read (i := 6) (v := ?_) rfl (by kernel_rfl) (by kernel_rfl) (by kernel_rfl) (fun _ _ _ h => h) rfl ?_ ?_
        rotate_left
        · intro w' hN
          go_simp
          try with_reducible rfl
        simp only [Act.put, List.getElem_toArray, List.getElem_cons_succ, List.getElem_cons_zero, List.setIfInBounds_toArray, List.set_cons_zero, List.set_cons_succ]
        refine hold_read (i := 7) (v := ?_) rfl (by kernel_rfl) (by kernel_rfl) (by kernel_rfl) (fun _ _ _ h => h) rfl ?_ ?_
        rotate_left
        · intro w' hN
          go_simp
          try with_reducible rfl
        simp only [Act.put, List.getElem_toArray, List.getElem_cons_succ, List.getElem_cons_zero, List.setIfInBounds_toArray, List.set_cons_zero, List.set_cons_succ]
        refine hold_read (i := 8) (v := ?_) rfl (by kernel_rfl) (by kernel_rfl) (by kernel_rfl) (fun _ _ _ h => h) rfl ?_ ?_
        rotate_left
        · intro w' hN
          go_simp
          try with_reducible rfl
        simp only [Act.put, List.getElem_toArray, List.getElem_cons_succ, List.getElem_cons_zero, List.setIfInBounds_toArray, List.set_cons_zero, List.set_cons_succ]
        refine hold_read (i := 9) (v := ?_) rfl (by kernel_rfl) (by kernel_rfl) (by kernel_rfl) (fun _ _ _ h => h) rfl ?_ ?_
        rotate_left
        · intro w' hN
          go_simp
          try with_reducible rfl
        simp only [Act.put, List.getElem_toArray, List.getElem_cons_succ, List.getElem_cons_zero, List.setIfInBounds_toArray, List.set_cons_zero, List.set_cons_succ]
        refine hold_step (i := 10) (by kernel_rfl) rfl rfl (fun K hK => ?_)
        go_simp
        refine (HLV.out _ n0).mono ?_
        rintro e w14 ⟨⟨A14, c14, rfl, o14⟩, k14⟩
        go_wp2_with fail
        refine hK.out _ _ k14 ?_
        clear hK K
        try simp only [Act.put, List.getElem_toArray, List.getElem_cons_succ, List.getElem_cons_zero, List.setIfInBounds_toArray, List.set_cons_zero, List.set_cons_succ]
        replace n0 := Keep.new n0 k14
        replace y3 := fun W (hW : New w14 W) => y3 W (Keep.new k14 hW)
        replace y5 := fun W (hW : New w14 W) => y5 W (Keep.new k14 hW)
        replace yr := fun W (hW : New w14 W) => yr W (Keep.new k14 hW)
        refine hold_step (i := 11) (by kernel_rfl) rfl rfl (fun K hK => ?_)
        go_simp
        refine (HRT.out _ _ _ _ _ o14).mono ?_
        rintro e w15 ⟨⟨A15, c15, rfl, o15⟩, k15⟩; have vr := HVR.out w15 _ A15 c15 o15
        go_wp2_with fail
        refine hK.out _ _ k15 ?_
        clear hK K
        try simp only [Act.put, List.getElem_toArray, List.getElem_cons_succ, List.getElem_cons_zero, List.setIfInBounds_toArray, List.set_cons_zero, List.set_cons_succ]
        replace n0 := Keep.new n0 k15
        replace y3 := fun W (hW : New w15 W) => y3 W (Keep.new k15 hW)
        replace y5 := fun W (hW : New w15 W) => y5 W (Keep.new k15 hW)
        replace yr := fun W (hW : New w15 W) => yr W (Keep.new k15 hW)
        refine hold_read (i := 12) (v := ?_) rfl (by kernel_rfl) (by kernel_rfl) (by kernel_rfl) (fun _ _ _ h => h) rfl ?_ ?_
        rotate_left
        · intro w' hN
          go_simp
          try with_reducible rfl
        simp only [Act.put, List.getElem_toArray, List.getElem_cons_succ, List.getElem_cons_zero, List.setIfInBounds_toArray, List.set_cons_zero, List.set_cons_succ]
        refine hold_read (i := 13) (v := ?_) rfl (by kernel_rfl) (by kernel_rfl) (by kernel_rfl) (fun _ _ _ h => h) rfl ?_ ?_
        rotate_left
        · intro w' hN
          go_simp
          try with_reducible rfl
        simp only [Act.put, List.getElem_toArray, List.getElem_cons_succ, List.getElem_cons_zero, List.setIfInBounds_toArray, List.set_cons_zero, List.set_cons_succ]
        refine hold_read (i := 14) (v := ?_) rfl (by kernel_rfl) (by kernel_rfl) (by kernel_rfl) (fun _ _ _ h => h) rfl ?_ ?_
        rotate_left
        · intro w' hN
          go_simp
          try with_reducible rfl
        simp only [Act.put, List.getElem_toArray, List.getElem_cons_succ, List.getElem_cons_zero, List.setIfInBounds_toArray, List.set_cons_zero, List.set_cons_succ]
        refine wpAnyH_done (by kernel_rfl) ?_ _
        have HO15 := Lib.hid (Own.keepNew HOr.out n0)
        have HF15 := Lib.hid (Own.keepNew ho10 n0)
        have hK15 := HKr.out.new n0
        clear y3 y5 yr vr HVR HLV HRT HHr HBr HRXr k14 k15 n0 o14 o15 ho10 HOr
        have HW3 : Hid (∀ W, Calls Tryd.prog 7 #[.int .i64 at', .int .i64 0, .int .i64 1023] W fun e w' => e = .returned (.int .i64 (((at' % 1024).toNat : Nat) : Int)) ∧ W = w') := Lib.hid fun W => by
          have h := within_any at' 0 1023 W ha0 ha1 (by decide) (by decide) (by decide)
          rwa [show (0 : Int) + at' % (1023 - 0 + 1) = ((at' % 1024).toNat : Nat) from by omega] at h
        have hkk : (at' % 1024).toNat < 1024 := by omega
        generalize (at' % 1024).toNat = kk at *
        go_wp2_with fail
        refine (HW3.out w15).mono ?_
        rintro e w' ⟨rfl, rfl⟩
        by_cases htn : tn = 0
        · have hz : (bv tn == 0) = true := by rw [htn]; rfl
          -- BEGIN turn0
          go_wp2_with fail
          refine (known17_any _).mono ?_
          rintro e w16 ⟨rfl, hK16⟩
          go_wp2_with fail
          go_ret
          exact ⟨rfl, hK15.new hK16⟩
          -- END turn0
        · have hz : (bv tn == 0) = false := by
            rw [beq_eq_false_iff_ne]; exact fun h => htn (bv_inj (h.trans (by decide)))
          have hfk := flag_some rs rs.length kk (by omega)
          have ef : w15.cell? ⟨g10, kk, none⟩ = some (.bool (lenFlag rs rs.length kk)) := by simpa [Addr.add_lit] using HF15.out.cells (g := g10) rfl kk _ hfk
          clear hfk
          cases hfl : lenFlag rs rs.length kk
          · rw [hfl] at ef
            have HFL := Lib.hid (lenFlag_get rs rs.length kk hfl)
            clear hfl
            obtain ⟨g6, cp6, hA6e, hg6, hgl6⟩ := HO15.out.form (by decide)
            injection hA6e with hA6e _ hcp6
            subst hA6e
            subst hcp6
            have hsl := segBytes_length i0 f pr rs hpl HFN.out.room
            have hks : kk < (segBytes i0 f pr rs).length := by omega
            have eb : w15.cell? ⟨g6, kk, none⟩ = some (.int .u8 (bv (segBytes i0 f pr rs)[kk])) := by
              simpa [Addr.add_lit] using HO15.out.cells (g := g6) rfl kk _ (by rw [List.getElem?_map, List.getElem?_eq_getElem hks]; rfl)
            have zb := HO15.out.frozenAt (g := g6) kk
            have HST := HO15.out.stored kk (.int .u8 (bv ((segBytes i0 f pr rs)[kk] ^^^ tn)))
            have hTU := HFN.out.turn (k := kk) (y := (segBytes i0 f pr rs)[kk] ^^^ tn) hks (xor_ne _ _ htn) HFL.out
            have hst1 := HST.1
            rw [show Value.int .u8 (bv ((segBytes i0 f pr rs)[kk] ^^^ tn)) = byteVal ((segBytes i0 f pr rs)[kk] ^^^ tn) from rfl, ← List.map_set] at hst1
            have hKS : New w (w15.setCell ⟨g6, kk, none⟩ (byteVal ((segBytes i0 f pr rs)[kk] ^^^ tn))) := hK15.setCell (p := ⟨g6, kk, none⟩) (fun _ => by show w.heap.size ≤ g6; omega) _
            have HRD := Lib.hid (read_any _ (some ⟨g6, 0, none⟩) 1024 c6 _ _ (Row.of_own hst1) (own_cap hst1) (own_capMax hst1))
            have HTU := Lib.hid hTU
            have HKS := Lib.hid hKS
            clear HST hst1 hTU hKS hsl
            generalize (segBytes i0 f pr rs).set kk _ = seg' at *
            generalize (segBytes i0 f pr rs)[kk] = x at *
            unfold byteVal at HRD HKS
            go_wp2_with fail
            refine HRD.out.mono ?_
            rintro e w17 ⟨⟨B7, e7, B8, e8, B9, e9, rfl, -, -, -, -, -⟩, hK17⟩
            have hwhy : ((segRead seg').2.2 != 0) = true := by simpa using HTU.out
            generalize (segRead seg').2.2 = why at *
            go_wp2_with fail
            refine (known17_any _).mono ?_
            rintro e w18 ⟨rfl, hK18⟩
            go_wp2_with fail
            go_ret
            exact ⟨rfl, ((HKS.out.new hK17).alloc _).new hK18⟩
          · rw [hfl] at ef
            -- BEGIN flagged
            go_wp2_with fail
            refine (known17_any _).mono ?_
            rintro e w16 ⟨rfl, hK16⟩
            go_wp2_with fail
            go_ret
            exact ⟨rfl, hK15.new hK16⟩
            -- END flagged
end Go.Proofs.YtpbbfbgmpidgnaaDoor
