/-
  PROVED HERE: texts that belong together, one behind the other; what each proves, and under which conditions, its own opening remark says: Other, ClaimOther.
-/
import Derived.Test.YtpbbfbgmpidgnaaDoorPkO25
import Derived.Test.YtpbbfbgmpidgnaaDoorPkO31
import Derived.Test.YtpbbfbgmpidgnaaDoorPkO32
import Derived.Test.YtpbbfbgmpidgnaaDoorPkO33
/-
  PROVED HERE: the law SealOther answers true; conditions: lengths that a slice may have.
-/
namespace Go.Proofs.YtpbbfbgmpidgnaaDoor
open Go.RowKit

set_option maxRecDepth 100000 in
set_option maxHeartbeats 2000000 in
theorem other_any (D D1 D2 : Nat → Prop) (A A1 A2 : Option Addr) (n c n1 c1 n2 c2 : Nat) (id other : List UInt8) (l : List (List (List UInt8))) (w : World) (hB : Bs w D A n id) (hB1 : Bs w D1 A1 n1 other) (hR : Raws8 w D2 A2 n2 l)
    (hnc : n ≤ c) (hc9 : c ≤ 9223372036854775807) (hnc1 : n1 ≤ c1) (hc19 : c1 ≤ 9223372036854775807) (hnc2 : n2 ≤ c2) (hc29 : c2 ≤ 9223372036854775807) :
    Calls Tryd.prog 5 #[.slice A n c, .slice A1 n1 c1, .slice A2 n2 c2] w fun e w' => e = .returned (.bool true) ∧ New w w' := by
  have HC0 := Lib.hid (cut_any A n c 40 id D w hB (by omega) hnc (by decide))
  have HC1 := Lib.hid (cut_any A1 n1 c1 40 other D1 w hB1 (by omega) hnc1 (by decide))
  have HB := Lib.hid (hB.cutMin 40)
  have HB1 := Lib.hid (hB1.cutMin 40)
  have hm0 : min n 40 ≤ c := by omega
  have hm1 : min n1 40 ≤ c1 := by omega
  have hm2 : min n 40 ≤ 1099511620000 := by omega
  have hm3 : min n1 40 ≤ 1099511620000 := by omega
  clear hB hB1
  generalize id.take 40 = i0 at *
  generalize other.take 40 = i1 at *
  generalize min n 40 = p at *
  generalize min n1 40 = q at *
  have HCH := Lib.hid (chain_any D D2 A A2 p c n2 c2 i0 l w HB.out hm2 hR (by omega))
  have hk8 : min n2 8 ≤ 8 := Nat.min_le_right _ _
  have HOK := Lib.hid (chain_ok i0 l (min n2 8) (by omega))
  have HWK := Lib.hid (chain_walk i0 l (min n2 8) (by omega))
  have HPR := Lib.hid (fun (h0 : 0 < min n2 8) (h : 0 < (chainTo i0 l (min n2 8)).heads.length) => chain_prev i0 l (k := 0) h0 (by omega) h)
  have HOT := Lib.hid (fun (h0 : min n2 8 ≠ 0) (hne : genesisOf i0 ≠ genesisOf i1) => chain_other i1 (l := l) h0 (by omega) hne)
  have HEQ := Lib.hid (fun (h : genesisOf i0 = genesisOf i1) => walk_genesis h (chainTo i0 l (min n2 8)).images)
  have HPZ : Hid (headSeal i0 (chainTo i0 l 0).heads = genesisOf i0) := Lib.hid rfl
  clear hR
  generalize chainTo i0 l (min n2 8) = s at *
  generalize min n2 8 = k at *
  have hil := HOK.out.images
  have hhl := HOK.out.heads
  obtain ⟨im, hs, rs, pv, nx⟩ := s
  dsimp only at hil hhl HWK HPR HOT HEQ
  generalize headSeal i0 (chainTo i0 l 0).heads = gz at *
  have HIL := Lib.hid hil
  have HHL := Lib.hid hhl
  clear HOK
  go_enter Tryd.func5, Tryd.ntmps5
  go_wp2_with fail
  refine HC0.out.mono ?_
  rintro e w' ⟨rfl, rfl⟩
  go_wp2_with fail
  refine HC1.out.mono ?_
  rintro e w' ⟨rfl, rfl⟩
  go_wp2_with fail
  refine HCH.out.mono ?_
  rintro e w1 ⟨⟨O, oc, R, rc, rfl, hch⟩, hK1⟩
  dsimp only at hch ⊢
  rw [hil] at hch ⊢
  have hI := hch.imgs.imgs
  have HI := Lib.hid hI
  have hoc := hch.imgs.cap
  have HW := walk_any D _ A O p c k oc i0 im w1 (HB.out.new hK1) hm0 hm2 hI (by omega)
  rw [HWK.out] at HW
  have HW := Lib.hid HW
  have HK1 := Lib.hid hK1
  clear hch hI hK1 HCH HC0 HC1 hil
  go_wp2_with fail
  refine HW.out.mono ?_
  rintro e w2 ⟨⟨H, hc, M, mc, rfl, hh, -⟩, hK2⟩
  dsimp only at hh ⊢
  rw [hhl] at hh ⊢
  have HH := Lib.hid hh
  have HK2 := Lib.hid (HK1.out.new hK2)
  have HI2 := Lib.hid (HI.out.new hK2)
  clear hh hK2 HW hhl HK1 HI
  by_cases hk0 : k = 0
  · subst hk0
    have him : im = [] := List.eq_nil_of_length_eq_zero HIL.out
    subst him
    go_wp2_with fail
    have HW2 := Lib.hid (fun W (h : New w2 W) => walk_any D1 _ A1 O q c1 0 oc i1 [] W (HB1.out.new (HK2.out.new h)) hm1 hm3 (HI2.out.new h) (by decide))
    go_quiet (fail)
    have hNq := (New.refl w2).drewN nq
    generalize w2.drewN nq = w3 at *
    go_wp2_with fail
    refine (HW2.out w3 hNq).mono ?_
    rw [walk_nil]
    rintro e w4 ⟨⟨H2, hc2, M2, mc2, rfl, -, -⟩, hK4⟩
    have HK4 := Lib.hid ((HK2.out.new hNq).new hK4)
    clear hNq hK4 HW2
    dsimp only [List.length_nil]
    go_wp2_with fail
    go_quiet (fail)
    have hNq := (New.refl w4).drewN nq
    generalize w4.drewN nq = w5 at *
    go_wp2_with fail
    refine (known18_any w5).mono ?_
    rintro e w6 ⟨rfl, hK6⟩
    go_wp2_with fail
    go_ret
    exact ⟨rfl, (HK4.out.new hNq).new hK6⟩
  · have hkz : 0 < k := by omega
    have hkz' : (0 : Int) < (k : Int) := by omega
    have hk0' : ((k : Int) == 0) = false := by simpa using hk0
    have hlz : 0 < hs.length := by have := HHL.out; omega
    have hpv := HPR.out hkz hlz
    rw [HPZ.out] at hpv
    obtain ⟨b, off, P1, p1, P2, p2, rfl, hbD, u0, u1, u2, u3, u4, u5, l1, l2, b1, b2, -⟩ := HH.out.heads.at_ hlz
    rw [hpv] at u4 b1
    simp only [Nat.zero_mul, Nat.add_zero] at u4
    have hgl : (genesisOf i0).length = 32 := genesisOf_length i0
    rw [hgl] at u4 b1
    have v4 : ∀ W, New w2 W → W.cell? ⟨b, off + 4, none⟩ = some (.slice P1 32 p1) := fun W h => h.cell_some u4 trivial
    have vp : ∀ W, New w2 W → (convert 24 9 (.slice P1 32 p1)).run Tryd.prog W = .ok (.string (strOf (genesisOf i0))) W := fun W h => run_str (b1.new h)
    have HG := Lib.hid (fun W (h : New w2 W) => genesis_any D A p c i0 W (HB.out.new (HK2.out.new h)) hm0 hm2)
    have HG1 := Lib.hid (fun W (h : New w2 W) => genesis_any D1 A1 q c1 i1 W (HB1.out.new (HK2.out.new h)) hm1 hm3)
    have HV : Hid (∀ W b A15 c15 bs, OwnB W b 5 A15 32 c15 bs → ∀ W', New W W' → (convert 24 9 (.slice A15 32 c15)).run Tryd.prog W' = .ok (.string (strOf bs)) W') :=
      Lib.hid fun W b A15 c15 bs ho W' q => run_str (Row.of_own (Own.keepNew ho q))
    have HW2 := Lib.hid (fun W (h : New w2 W) => walk_any D1 _ A1 O q c1 k oc i1 im W (HB1.out.new (HK2.out.new h)) hm1 hm3 (HI2.out.new h) (by omega))
    have hs0 := fun W (h : New w2 W) => run_str (c := c) (HB.out.new (HK2.out.new h))
    have hs1 := fun W (h : New w2 W) => run_str (c := c1) (HB1.out.new (HK2.out.new h))
    have HS0 := Lib.hid hs0
    have HS1 := Lib.hid hs1
    clear u0 u1 u2 u3 u4 u5 l1 l2 b1 b2 hpv hgl hs0 hs1
    have hne01 : genesisOf i0 ≠ genesisOf i1 → i0 ≠ i1 := fun h e => h (by rw [e])
    have HNE := Lib.hid hne01
    have HOTK := Lib.hid (fun h => HOT.out hk0 h)
    clear hne01 HOT HPR HPZ hk0
    generalize genesisOf i0 = ga at *
    generalize genesisOf i1 = gb at *
    go_wp2_with fail
    refine hold_begin (by kernel_rfl) ?_
    have n0 : New w2 w2.drew := (New.refl w2).drew
    replace v4 := fun W (hW : New w2.drew W) => v4 W (Keep.new n0 hW)
    replace vp := fun W (hW : New w2.drew W) => vp W (Keep.new n0 hW)
    refine hold_read (i := 0) (v := ?_) rfl (by kernel_rfl) (by kernel_rfl) (by kernel_rfl) (fun _ _ _ h => h) rfl ?_ ?_
    rotate_left
    · intro w' hN
      go_simp
      try with_reducible rfl
    simp only [Act.put, List.getElem_toArray, List.getElem_cons_succ, List.getElem_cons_zero, List.setIfInBounds_toArray, List.set_cons_zero, List.set_cons_succ]
    refine hold_read (i := 1) (v := ?_) rfl (by kernel_rfl) (by kernel_rfl) (by kernel_rfl) (fun _ _ _ h => h) rfl ?_ ?_
    rotate_left
    · intro w' hN
      go_simp
      try with_reducible rfl
    simp only [Act.put, List.getElem_toArray, List.getElem_cons_succ, List.getElem_cons_zero, List.setIfInBounds_toArray, List.set_cons_zero, List.set_cons_succ]
    refine hold_read (i := 2) (v := ?_) rfl (by kernel_rfl) (by kernel_rfl) (by kernel_rfl) (fun _ _ _ h => h) rfl ?_ ?_
    rotate_left
    · intro w' hN
      go_simp
      try with_reducible rfl
    simp only [Act.put, List.getElem_toArray, List.getElem_cons_succ, List.getElem_cons_zero, List.setIfInBounds_toArray, List.set_cons_zero, List.set_cons_succ]
    refine hold_read (i := 3) (v := ?_) rfl (by kernel_rfl) (by kernel_rfl) (by kernel_rfl) (fun _ _ _ h => h) rfl ?_ ?_
    rotate_left
    · intro w' hN
      go_simp
      try with_reducible rfl
    simp only [Act.put, List.getElem_toArray, List.getElem_cons_succ, List.getElem_cons_zero, List.setIfInBounds_toArray, List.set_cons_zero, List.set_cons_succ]
    refine hold_read (i := 4) (v := ?_) rfl (by kernel_rfl) (by kernel_rfl) (by kernel_rfl) (fun _ _ _ h => h) rfl ?_ ?_
    rotate_left
    · intro w' hN
      go_simp
      try with_reducible rfl
    simp only [Act.put, List.getElem_toArray, List.getElem_cons_succ, List.getElem_cons_zero, List.setIfInBounds_toArray, List.set_cons_zero, List.set_cons_succ]
    refine hold_read (i := 5) (v := ?_) rfl (by kernel_rfl) (by kernel_rfl) (by kernel_rfl) (fun _ _ _ h => h) rfl ?_ ?_
    rotate_left
    · intro w' hN
      go_simp
      try with_reducible rfl
    simp only [Act.put, List.getElem_toArray, List.getElem_cons_succ, List.getElem_cons_zero, List.setIfInBounds_toArray, List.set_cons_zero, List.set_cons_succ]
    refine hold_read (i := 6) (v := ?_) rfl (by kernel_rfl) (by kernel_rfl) (by kernel_rfl) (fun _ _ _ h => h) rfl ?_ ?_
    rotate_left
    · intro w' hN
      go_simp
      try with_reducible rfl
    simp only [Act.put, List.getElem_toArray, List.getElem_cons_succ, List.getElem_cons_zero, List.setIfInBounds_toArray, List.set_cons_zero, List.set_cons_succ]
    refine hold_read (i := 7) (v := ?_) rfl (by kernel_rfl) (by kernel_rfl) (by kernel_rfl) (fun _ _ _ h => h) rfl ?_ ?_
    rotate_left
    · intro w' hN
      go_simp
      try with_reducible rfl
    simp only [Act.put, List.getElem_toArray, List.getElem_cons_succ, List.getElem_cons_zero, List.setIfInBounds_toArray, List.set_cons_zero, List.set_cons_succ]
    refine hold_read (i := 8) (v := ?_) rfl (by kernel_rfl) (by kernel_rfl) (by kernel_rfl) (fun _ _ _ h => h) rfl ?_ ?_
    rotate_left
    · intro w' hN
      go_simp
      try with_reducible rfl
    simp only [Act.put, List.getElem_toArray, List.getElem_cons_succ, List.getElem_cons_zero, List.setIfInBounds_toArray, List.set_cons_zero, List.set_cons_succ]
    refine hold_read (i := 9) (v := ?_) rfl (by kernel_rfl) (by kernel_rfl) (by kernel_rfl) (fun _ _ _ h => h) rfl ?_ ?_
    rotate_left
    · intro w' hN
      go_simp
      try with_reducible rfl
    simp only [Act.put, List.getElem_toArray, List.getElem_cons_succ, List.getElem_cons_zero, List.setIfInBounds_toArray, List.set_cons_zero, List.set_cons_succ]
    refine hold_step (i := 10) (by kernel_rfl) rfl rfl (fun K hK => ?_)
    go_simp
    refine (HG.out _ n0).mono ?_
    rintro e w3 ⟨⟨A3, c3, rfl, o3⟩, k3⟩; have v3 := HV.out w3 _ A3 c3 _ o3
    go_wp2_with fail
    refine hK.out _ _ k3 ?_
    clear hK K
    try simp only [Act.put, List.getElem_toArray, List.getElem_cons_succ, List.getElem_cons_zero, List.setIfInBounds_toArray, List.set_cons_zero, List.set_cons_succ]
    replace n0 := Keep.new n0 k3
    replace v4 := fun W (hW : New w3 W) => v4 W (Keep.new k3 hW)
    replace vp := fun W (hW : New w3 W) => vp W (Keep.new k3 hW)
    refine hold_read (i := 11) (v := ?_) rfl (by kernel_rfl) (by kernel_rfl) (by kernel_rfl) (fun _ _ _ h => h) rfl ?_ ?_
    rotate_left
    · intro w' hN
      go_simp
      try with_reducible rfl
    simp only [Act.put, List.getElem_toArray, List.getElem_cons_succ, List.getElem_cons_zero, List.setIfInBounds_toArray, List.set_cons_zero, List.set_cons_succ]
    refine hold_read (i := 12) (v := ?_) rfl (by kernel_rfl) (by kernel_rfl) (by kernel_rfl) (fun _ _ _ h => h) rfl ?_ ?_
    rotate_left
    · intro w' hN
      go_simp
      try with_reducible rfl
    simp only [Act.put, List.getElem_toArray, List.getElem_cons_succ, List.getElem_cons_zero, List.setIfInBounds_toArray, List.set_cons_zero, List.set_cons_succ]
    refine hold_read (i := 13) (v := ?_) rfl (by kernel_rfl) (by kernel_rfl) (by kernel_rfl) (fun _ _ _ h => h) rfl ?_ ?_
    rotate_left
    · intro w' hN
      go_simp
      try with_reducible rfl
    simp only [Act.put, List.getElem_toArray, List.getElem_cons_succ, List.getElem_cons_zero, List.setIfInBounds_toArray, List.set_cons_zero, List.set_cons_succ]
    refine wpAnyH_done (by kernel_rfl) ?_ _
    clear v4 vp v3
    have HN3 := Lib.hid n0
    clear n0 o3 k3
    go_wp2_with fail
    by_cases hg : ga = gb
    · have HW3 := HW2.out w3 HN3.out
      rw [HEQ.out hg, HWK.out] at HW3
      refine HW3.mono ?_
      rintro e w4 ⟨⟨H2, hc2, M2, mc2, rfl, hh2, -⟩, hK4⟩
      dsimp only at hh2 ⊢
      rw [HHL.out] at hh2 ⊢
      have HN4 := Lib.hid (HN3.out.new hK4)
      have hgq : (ga == gb) = true := by simpa using hg
      clear hh2 hK4 hg HW2
      go_wp2_with fail
      refine hold_begin (by kernel_rfl) ?_
      have n0 : New w4 w4.drew := (New.refl w4).drew
      refine hold_read (i := 0) (v := ?_) rfl (by kernel_rfl) (by kernel_rfl) (by kernel_rfl) (fun _ _ _ h => h) rfl ?_ ?_
      rotate_left
      · intro w' hN
        go_simp
        try with_reducible rfl
      simp only [Act.put, List.getElem_toArray, List.getElem_cons_succ, List.getElem_cons_zero, List.setIfInBounds_toArray, List.set_cons_zero, List.set_cons_succ]
      refine hold_read (i := 1) (v := ?_) rfl (by kernel_rfl) (by kernel_rfl) (by kernel_rfl) (fun _ _ _ h => h) rfl ?_ ?_
      rotate_left
      · intro w' hN
        go_simp
        try with_reducible rfl
      simp only [Act.put, List.getElem_toArray, List.getElem_cons_succ, List.getElem_cons_zero, List.setIfInBounds_toArray, List.set_cons_zero, List.set_cons_succ]
      refine hold_read (i := 2) (v := ?_) rfl (by kernel_rfl) (by kernel_rfl) (by kernel_rfl) (fun _ _ _ h => h) rfl ?_ ?_
      rotate_left
      · intro w' hN
        go_simp
        try with_reducible rfl
      simp only [Act.put, List.getElem_toArray, List.getElem_cons_succ, List.getElem_cons_zero, List.setIfInBounds_toArray, List.set_cons_zero, List.set_cons_succ]
      refine hold_read (i := 3) (v := ?_) rfl (by kernel_rfl) (by kernel_rfl) (by kernel_rfl) (fun _ _ _ h => h) rfl ?_ ?_
      rotate_left
      · intro w' hN
        go_simp
        try with_reducible rfl
      simp only [Act.put, List.getElem_toArray, List.getElem_cons_succ, List.getElem_cons_zero, List.setIfInBounds_toArray, List.set_cons_zero, List.set_cons_succ]
      refine hold_read (i := 4) (v := ?_) rfl (by kernel_rfl) (by kernel_rfl) (by kernel_rfl) (fun _ _ _ h => h) rfl ?_ ?_
      rotate_left
      · intro w' hN
        go_simp
        try with_reducible rfl
      simp only [Act.put, List.getElem_toArray, List.getElem_cons_succ, List.getElem_cons_zero, List.setIfInBounds_toArray, List.set_cons_zero, List.set_cons_succ]
      refine hold_read (i := 7) (v := ?_) rfl (by kernel_rfl) (by kernel_rfl) (by kernel_rfl) (fun _ _ _ h => h) rfl ?_ ?_
      rotate_left
      · intro w' hN
        go_simp
        try with_reducible rfl
      simp only [Act.put, List.getElem_toArray, List.getElem_cons_succ, List.getElem_cons_zero, List.setIfInBounds_toArray, List.set_cons_zero, List.set_cons_succ]
      refine hold_step (i := 5) (by kernel_rfl) rfl rfl (fun K hK => ?_)
      go_simp
      refine (HG.out _ (HN4.out.new n0)).mono ?_
      rintro e w5 ⟨⟨A5, c5, rfl, o5⟩, k5⟩; have v5 := HV.out w5 _ A5 c5 _ o5
      go_wp2_with fail
      refine hK.out _ _ k5 ?_
      clear hK K
      try simp only [Act.put, List.getElem_toArray, List.getElem_cons_succ, List.getElem_cons_zero, List.setIfInBounds_toArray, List.set_cons_zero, List.set_cons_succ]
      replace n0 := Keep.new n0 k5
      refine hold_read (i := 6) (v := ?_) rfl (by kernel_rfl) (by kernel_rfl) (by kernel_rfl) (fun _ _ _ h => h) rfl ?_ ?_
      rotate_left
      · intro w' hN
        go_simp
        try with_reducible rfl
      simp only [Act.put, List.getElem_toArray, List.getElem_cons_succ, List.getElem_cons_zero, List.setIfInBounds_toArray, List.set_cons_zero, List.set_cons_succ]
      refine hold_step (i := 8) (by kernel_rfl) rfl rfl (fun K hK => ?_)
      go_simp
      refine (HG1.out _ (HN4.out.new n0)).mono ?_
      rintro e w6 ⟨⟨A6, c6, rfl, o6⟩, k6⟩; have v6 := HV.out w6 _ A6 c6 _ o6
      go_wp2_with fail
      refine hK.out _ _ k6 ?_
      clear hK K
      try simp only [Act.put, List.getElem_toArray, List.getElem_cons_succ, List.getElem_cons_zero, List.setIfInBounds_toArray, List.set_cons_zero, List.set_cons_succ]
      replace n0 := Keep.new n0 k6
      replace v5 := fun W (hW : New w6 W) => v5 W (Keep.new k6 hW)
      refine hold_read (i := 9) (v := ?_) rfl (by kernel_rfl) (by kernel_rfl) (by kernel_rfl) (fun _ _ _ h => h) rfl ?_ ?_
      rotate_left
      · intro w' hN
        go_simp
        try with_reducible rfl
      simp only [Act.put, List.getElem_toArray, List.getElem_cons_succ, List.getElem_cons_zero, List.setIfInBounds_toArray, List.set_cons_zero, List.set_cons_succ]
      refine hold_read (i := 10) (v := ?_) rfl (by kernel_rfl) (by kernel_rfl) (by kernel_rfl) (fun _ _ _ h => h) rfl ?_ ?_
      rotate_left
      · intro w' hN
        go_simp
        try with_reducible rfl
      simp only [Act.put, List.getElem_toArray, List.getElem_cons_succ, List.getElem_cons_zero, List.setIfInBounds_toArray, List.set_cons_zero, List.set_cons_succ]
      refine hold_read (i := 11) (v := ?_) rfl (by kernel_rfl) (by kernel_rfl) (by kernel_rfl) (fun _ _ _ h => h) rfl ?_ ?_
      rotate_left
      · intro w' hN
        go_simp
        try with_reducible rfl
      simp only [Act.put, List.getElem_toArray, List.getElem_cons_succ, List.getElem_cons_zero, List.setIfInBounds_toArray, List.set_cons_zero, List.set_cons_succ]
      refine wpAnyH_done (by kernel_rfl) ?_ _
      have HN6 := Lib.hid (HN4.out.new n0)
      clear v5 v6 o5 o6 k5 k6 n0
      go_wp2_with fail
      refine (known18_any w6).mono ?_
      rintro e w7 ⟨rfl, hK7⟩
      go_wp2_with fail
      go_ret
      exact ⟨rfl, (HK2.out.new HN6.out).new hK7⟩
    · have HW3 := HW2.out w3 HN3.out
      rw [HOTK.out hg] at HW3
      refine HW3.mono ?_
      rintro e w4 ⟨⟨H2, hc2, M2, mc2, rfl, -, -⟩, hK4⟩
      dsimp only [List.length_nil]
      have HN4 := Lib.hid (HN3.out.new hK4)
      have hgq : (ga == gb) = false := by simpa using hg
      have hiq : (i0 == i1) = false := by simpa using HNE.out hg
      clear hK4 hg HW2
      go_wp2_with fail
      refine hold_begin (by kernel_rfl) ?_
      have n0 : New w4 w4.drew := (New.refl w4).drew
      refine hold_read (i := 0) (v := ?_) rfl (by kernel_rfl) (by kernel_rfl) (by kernel_rfl) (fun _ _ _ h => h) rfl ?_ ?_
      rotate_left
      · intro w' hN
        go_simp
        try with_reducible rfl
      simp only [Act.put, List.getElem_toArray, List.getElem_cons_succ, List.getElem_cons_zero, List.setIfInBounds_toArray, List.set_cons_zero, List.set_cons_succ]
      refine hold_read (i := 1) (v := ?_) rfl (by kernel_rfl) (by kernel_rfl) (by kernel_rfl) (fun _ _ _ h => h) rfl ?_ ?_
      rotate_left
      · intro w' hN
        go_simp
        try with_reducible rfl
      simp only [Act.put, List.getElem_toArray, List.getElem_cons_succ, List.getElem_cons_zero, List.setIfInBounds_toArray, List.set_cons_zero, List.set_cons_succ]
      refine hold_read (i := 2) (v := ?_) rfl (by kernel_rfl) (by kernel_rfl) (by kernel_rfl) (fun _ _ _ h => h) rfl ?_ ?_
      rotate_left
      · intro w' hN
        go_simp
        try with_reducible rfl
      simp only [Act.put, List.getElem_toArray, List.getElem_cons_succ, List.getElem_cons_zero, List.setIfInBounds_toArray, List.set_cons_zero, List.set_cons_succ]
      refine hold_read (i := 3) (v := ?_) rfl (by kernel_rfl) (by kernel_rfl) (by kernel_rfl) (fun _ _ _ h => h) rfl ?_ ?_
      rotate_left
      · intro w' hN
        go_simp
        try with_reducible rfl
      simp only [Act.put, List.getElem_toArray, List.getElem_cons_succ, List.getElem_cons_zero, List.setIfInBounds_toArray, List.set_cons_zero, List.set_cons_succ]
      refine hold_read (i := 4) (v := ?_) rfl (by kernel_rfl) (by kernel_rfl) (by kernel_rfl) (fun _ _ _ h => h) rfl ?_ ?_
      rotate_left
      · intro w' hN
        go_simp
        try with_reducible rfl
      simp only [Act.put, List.getElem_toArray, List.getElem_cons_succ, List.getElem_cons_zero, List.setIfInBounds_toArray, List.set_cons_zero, List.set_cons_succ]
      refine hold_read (i := 7) (v := ?_) rfl (by kernel_rfl) (by kernel_rfl) (by kernel_rfl) (fun _ _ _ h => h) rfl ?_ ?_
      rotate_left
      · intro w' hN
        go_simp
        try with_reducible rfl
      simp only [Act.put, List.getElem_toArray, List.getElem_cons_succ, List.getElem_cons_zero, List.setIfInBounds_toArray, List.set_cons_zero, List.set_cons_succ]
      refine hold_step (i := 5) (by kernel_rfl) rfl rfl (fun K hK => ?_)
      go_simp
      refine (HG.out _ (HN4.out.new n0)).mono ?_
      rintro e w5 ⟨⟨A5, c5, rfl, o5⟩, k5⟩; have v5 := HV.out w5 _ A5 c5 _ o5
      go_wp2_with fail
      refine hK.out _ _ k5 ?_
      clear hK K
      try simp only [Act.put, List.getElem_toArray, List.getElem_cons_succ, List.getElem_cons_zero, List.setIfInBounds_toArray, List.set_cons_zero, List.set_cons_succ]
      replace n0 := Keep.new n0 k5
      refine hold_read (i := 6) (v := ?_) rfl (by kernel_rfl) (by kernel_rfl) (by kernel_rfl) (fun _ _ _ h => h) rfl ?_ ?_
      rotate_left
      · intro w' hN
        go_simp
        try with_reducible rfl
      simp only [Act.put, List.getElem_toArray, List.getElem_cons_succ, List.getElem_cons_zero, List.setIfInBounds_toArray, List.set_cons_zero, List.set_cons_succ]
      refine hold_step (i := 8) (by kernel_rfl) rfl rfl (fun K hK => ?_)
      go_simp
      refine (HG1.out _ (HN4.out.new n0)).mono ?_
      rintro e w6 ⟨⟨A6, c6, rfl, o6⟩, k6⟩; have v6 := HV.out w6 _ A6 c6 _ o6
      go_wp2_with fail
      refine hK.out _ _ k6 ?_
      clear hK K
      try simp only [Act.put, List.getElem_toArray, List.getElem_cons_succ, List.getElem_cons_zero, List.setIfInBounds_toArray, List.set_cons_zero, List.set_cons_succ]
      replace n0 := Keep.new n0 k6
      replace v5 := fun W (hW : New w6 W) => v5 W (Keep.new k6 hW)
      refine hold_read (i := 9) (v := ?_) rfl (by kernel_rfl) (by kernel_rfl) (by kernel_rfl) (fun _ _ _ h => h) rfl ?_ ?_
      rotate_left
      · intro w' hN
        go_simp
        try with_reducible rfl
      simp only [Act.put, List.getElem_toArray, List.getElem_cons_succ, List.getElem_cons_zero, List.setIfInBounds_toArray, List.set_cons_zero, List.set_cons_succ]
      refine hold_read (i := 10) (v := ?_) rfl (by kernel_rfl) (by kernel_rfl) (by kernel_rfl) (fun _ _ _ h => h) rfl ?_ ?_
      rotate_left
      · intro w' hN
        go_simp
        try with_reducible rfl
      simp only [Act.put, List.getElem_toArray, List.getElem_cons_succ, List.getElem_cons_zero, List.setIfInBounds_toArray, List.set_cons_zero, List.set_cons_succ]
      refine hold_read (i := 11) (v := ?_) rfl (by kernel_rfl) (by kernel_rfl) (by kernel_rfl) (fun _ _ _ h => h) rfl ?_ ?_
      rotate_left
      · intro w' hN
        go_simp
        try with_reducible rfl
      simp only [Act.put, List.getElem_toArray, List.getElem_cons_succ, List.getElem_cons_zero, List.setIfInBounds_toArray, List.set_cons_zero, List.set_cons_succ]
      refine wpAnyH_done (by kernel_rfl) ?_ _
      have HN6 := Lib.hid (HN4.out.new n0)
      clear v5 v6 o5 o6 k5 k6 n0
      have t0 := HS0.out w6 HN6.out
      have t1 := HS1.out w6 HN6.out
      go_wp2_with fail
      refine (known18_any w6).mono ?_
      rintro e w7 ⟨rfl, hK7⟩
      go_wp2_with fail
      go_ret
      exact ⟨rfl, (HK2.out.new HN6.out).new hK7⟩
end Go.Proofs.YtpbbfbgmpidgnaaDoor
/-
  PROVED HERE: SealOtherCardSaid: for every input the law SealOther returns true, and each argument reads afterwards as before; the tables that the row lists are tied to the program's text. No condition.
-/
namespace Go.Proofs.YtpbbfbgmpidgnaaDoor.sealOther
open Go.ChangeShapes Go.WideShapes Go.ChangeAt Go.RowKit Go.Joins Go.Deep

set_option maxRecDepth 100000 in
theorem contract (H : Type) (enc : TypeId × Value → H) (W : World) (base : Nat) (args : Array Value) (ds gs : List (DataW H)) (before : List MemPlace)
    (hval : ∀ (j : Nat) t v, Tryd.f5.params[j]? = some t → args[j]? = some v → Value.okWide Tryd.prog W .any base t v)
    (hW : DataW.Whole enc Tryd.prog Tryd.f5.params.toList Rows.sealOtherSpec.vars false W args.toList ds gs before) :
    Calls Tryd.prog 5 args W fun e W' => ∃ v, e = .returned v ∧ Rows.sealOtherSpec.post enc Tryd.prog Tryd.f5 false true false false W args v W' := by
  have hW' := hW
  obtain ⟨p, q, hA0, hV, rfl, hfz, hnd⟩ := hW
  have hA : DataW.TrodAll enc Tryd.prog W 0 (fun _ => true) true Tryd.f5.params.toList args.toList ds p := hA0
  rw [Tryd.params5] at hA hval
  obtain ⟨v0, vs0, d0, ds0, p0, q0, hargs, rfl, rfl, h0, r0⟩ := trodAll_cons hA
  obtain ⟨v1, vs1, d1, ds1, p1, q1, rfl, rfl, rfl, h1, r1⟩ := trodAll_cons r0
  obtain ⟨v2, vs2, d2, ds2, p2, q2, rfl, rfl, rfl, h2, r2⟩ := trodAll_cons r1
  obtain ⟨rfl, rfl, rfl⟩ := trodAll_nil r2
  obtain rfl : args = #[v0, v1, v2] := by cases args; simp_all
  obtain ⟨rfl, rfl⟩ := trodVars_none hV
  obtain ⟨a0, l0, c0, rfl⟩ := okWide_slice Tryd.underlying24 (hval 0 _ v0 rfl rfl)
  obtain ⟨fu0, hf0⟩ := h0
  obtain ⟨B0, n0, k0, x0, hv0, hn0, hm0, hB0⟩ := read_bytes hf0
  obtain ⟨a1, l1, c1, rfl⟩ := okWide_slice Tryd.underlying24 (hval 1 _ v1 rfl rfl)
  obtain ⟨fu1, hf1⟩ := h1
  obtain ⟨B1, n1, k1, x1, hv1, hn1, hm1, hB1⟩ := read_bytes hf1
  obtain ⟨a2, l2, c2, rfl⟩ := okWide_slice Tryd.underlying51 (hval 2 _ v2 rfl rfl)
  obtain ⟨fu2, hf2⟩ := h2
  obtain ⟨B2, n2, k2, x2, hv2, hn2, hm2, hB2⟩ := read_raws8 hf2
  rw [hv0] at hW' ⊢
  rw [hv1] at hW' ⊢
  rw [hv2] at hW' ⊢
  unfold maxLen at hm0 hm1 hm2
  refine (other_any _ _ _ B0 B1 B2 n0 k0 n1 k1 n2 k2 x0 x1 x2 W hB0 hB1 hB2 hn0 (by omega) hn1 (by omega) hn2 (by omega)).mono fun e W' ⟨he, hN⟩ => ?_
  subst he
  exact ⟨_, rfl, law_post laid_out (by kernel_rfl) rfl (by kernel_rfl) Tryd.underlying4 hW' rfl rfl rfl hN⟩

def args0 : Array Value := #[.slice none 0 0, .slice none 0 0, .slice none 0 0]
theorem laid_met (os : Os) : laidMet Tryd.prog Rows.sealOtherRow.laid ((laidWorld os).forCall (fun _ _ => 0) ⟨#[], args0, []⟩).memory :=
  laidMet_of_run' 8 (by kernel_rfl) (by kernel_rfl)
theorem reads (os : Os) {H : Type} (enc : TypeId × Value → H) : ∃ places, DataW.whole enc Tryd.prog ((laidWorld os).forCall (fun _ _ => 0) ⟨#[], args0, []⟩).memory Tryd.f5.params.toList Rows.sealOtherSpec.vars false args0.toList 8 = some ([.nil, .nil, .nil], [], places) :=
  ⟨[], by kernel_rfl⟩
set_option maxRecDepth 100000 in
theorem lifted (os : Os) (started : os.Started) (H : Type) (enc : TypeId × Value → H) (F : Stop.Interp) :
    ReturnsInHanded {} Tryd.checked os 5 .any ((OpenSpec.ofChange Rows.sealOtherSpec).preRow enc Tryd.prog Tryd.f5 Rows.sealOtherRow.domain false Rows.sealOtherRow.laid) (((OpenSpec.ofChange Rows.sealOtherSpec).at F).post enc Tryd.prog Tryd.f5 false true false false) := by
  obtain ⟨places, hx⟩ := reads os enc
  refine returnsInHanded_of_row (C := Tryd.checked) (s := OpenSpec.ofChange Rows.sealOtherSpec) own_knob started (by kernel_rfl) Tryd.func5
    (witness_row_at (enc := enc) (C := Tryd.checked) false (laidWorld os) args0 rfl (by kernel_rfl) (by kernel_rfl) (by kernel_rfl)
      (OpenSpec.preRow_of_cond 8 hx (by kernel_rfl) (fun k hk => by cases hk) (by kernel_rfl) (laid_met os))) ?_
  intro W base args ds gs before hval hW _ _ _ _ _ _
  exact contract H enc W base args ds gs before hval hW
theorem said : Rows.SealOtherSaid :=
  OpenClaim.holds_of_cond 5 Tryd.f5 rfl rfl rfl rfl rfl rfl rfl ⟨rfl, rfl, rfl, rfl, rfl⟩ rfl rfl rfl rfl rfl (by kernel_rfl) Tryd.func5 (by kernel_rfl)
    (of_decide_eq_true (by kernel_rfl)) (by unfold Func.isWrapper; first | (rw [if_pos (by decide +kernel)]; kernel_rfl) | (rw [if_neg (by decide +kernel)]; exact ⟨rfl, rfl⟩))
    (fun os started H enc _ F => by rw [OpenClaim.pre_eq_preRow]; exact lifted os started H enc F)
theorem plain (f : FuncId) (fn : Func) (hf : Tryd.pinned.checked.prog.funcNamed "permafrost/permafrostlaw18.SealOther" = some f) (hfn : Tryd.pinned.checked.prog.funcs[f]? = some fn) :
    false = Tryd.pinned.checked.prog.looks [] ∧ ∀ (j : Nat) t, fn.params[j]? = some t → Tryd.pinned.checked.prog.wantsStandIn t = false := by
  obtain rfl : f = 5 := Option.some.inj ((show Tryd.prog.funcNamed "permafrost/permafrostlaw18.SealOther" = some 5 by kernel_rfl).symm.trans hf) |>.symm
  obtain rfl : fn = Tryd.f5 := (Option.some.inj (Tryd.func5.symm.trans hfn)).symm
  refine ⟨by kernel_rfl, fun j t ht => ?_⟩
  rw [Tryd.params5] at ht
  have hall : (#[24, 24, 51] : Array TypeId).toList.all (fun t => Tryd.pinned.checked.prog.wantsStandIn t == false) = true := by kernel_rfl
  have hm : t ∈ (#[24, 24, 51] : Array TypeId).toList := Array.mem_toList_iff.2 (Array.mem_of_getElem? ht)
  simpa using List.all_eq_true.1 hall t hm
end Go.Proofs.YtpbbfbgmpidgnaaDoor.sealOther
namespace Go.Proofs.YtpbbfbgmpidgnaaDoor
theorem seal_other : Rows.SealOtherCardSaid :=
  Claim7.holds_tied_plain_at .later [] _ _ _ _ sealOther.said (fun _ h => by cases h) (by kernel_rfl) (fun _ h => by cases h) sealOther_row_tie rfl ⟨rfl, rfl⟩ (by kernel_rfl) rfl sealOther.plain (by kernel_rfl)
end Go.Proofs.YtpbbfbgmpidgnaaDoor
