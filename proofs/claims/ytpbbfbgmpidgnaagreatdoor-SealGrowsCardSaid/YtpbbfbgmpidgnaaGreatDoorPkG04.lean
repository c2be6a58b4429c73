/-
  PROVED HERE: texts that belong together, one behind the other; what each proves, and under which conditions, its own opening remark says: Grows, ClaimGrows.
-/
import Derived.Test.YtpbbfbgmpidgnaaGreatDoorPkT25
import Derived.Test.YtpbbfbgmpidgnaaGreatDoorPkT30
import Derived.Test.YtpbbfbgmpidgnaaGreatDoorPkG00
import Derived.Test.YtpbbfbgmpidgnaaGreatDoorPkG01
import Derived.Test.YtpbbfbgmpidgnaaGreatDoorPkG03
/-
  PROVED HERE: the law SealGrows answers true; conditions: lengths that a slice may have.
-/
namespace Go.Proofs.YtpbbfbgmpidgnaaGreatDoor
open Go.RowKit

theorem mod_nat (z M : Int) (hM : 0 < M) : ∃ kk : Nat, (kk : Int) < M ∧ (0 : Int) + z % M = (kk : Int) := by
  have h0 := Int.emod_nonneg z (show M ≠ 0 by omega)
  have h1 := Int.emod_lt_of_pos z hM
  exact ⟨(z % M).toNat, by omega, by omega⟩
theorem Imgs.take {w : World} {D : Nat → Prop} {A : Option Addr} {n : Nat} {ls : List (List UInt8)} (h : Imgs w D A n ls) {m : Nat} (hm : m ≤ n) : Imgs w D A m (ls.take m) := by
  obtain ⟨vs, h1, h2, h3⟩ := h
  refine ⟨vs.take m, ?_, by rw [List.length_take]; omega, fun k hk => ?_⟩
  · have := Row.cutTo h1 hm
    rwa [Nat.mul_one] at this
  · have hk' : k < m ∧ k < ls.length := by rw [List.length_take] at hk; omega
    obtain ⟨A', c', e, hc, hc9, hb⟩ := h3 k hk'.2
    rw [List.getElem_take]
    exact ⟨A', c', by rw [List.getElem?_take, if_pos hk'.1]; exact e, hc, hc9, hb⟩
set_option maxRecDepth 100000 in
set_option maxHeartbeats 2000000 in
theorem grows_any (D D1 : Nat → Prop) (A A1 : Option Addr) (n c n1 c1 : Nat) (id : List UInt8) (l : List (List (List UInt8))) (cut : Int) (w : World) (hB : Bs w D A n id) (hR : Raws8 w D1 A1 n1 l)
    (hnc : n ≤ c) (hc9 : c ≤ 9223372036854775807) (hnc1 : n1 ≤ c1) (hc19 : c1 ≤ 9223372036854775807) (hu0 : -9223372036854775808 ≤ cut) (hu1 : cut ≤ 9223372036854775807) :
    Calls Tryz.prog 6 #[.slice A n c, .slice A1 n1 c1, .int .i64 cut] w fun e w' => e = .returned (.bool true) ∧ New w w' := by
  have HC0 := Lib.hid (cut_any A n c 40 id D w hB (by omega) hnc (by decide))
  have HB := Lib.hid (hB.cutMin 40)
  have hm0 : min n 40 ≤ c := by omega
  have hm2 : min n 40 ≤ 1099511620000 := by omega
  clear hB
  generalize id.take 40 = i0 at *
  generalize min n 40 = p at *
  have HCH := Lib.hid (chain_any D D1 A A1 p c n1 c1 i0 l w HB.out hm2 hR (by omega))
  have hk8 : min n1 8 ≤ 8 := Nat.min_le_right _ _
  obtain ⟨kk, hkk', hkv⟩ := mod_nat cut (((min n1 8 : Nat) : Int) - 0 + 1) (by omega)
  have hkk : kk ≤ min n1 8 := by omega
  clear hkk'
  have HWI : Hid (∀ W, Calls Tryz.prog 18 #[.int .i64 cut, .int .i64 0, .int .i64 ((min n1 8 : Nat) : Int)] W fun e w' => e = .returned (.int .i64 (kk : Int)) ∧ W = w') := Lib.hid fun W => by
    have h := within_any cut 0 ((min n1 8 : Nat) : Int) W hu0 hu1 (by decide) (by omega) (by omega)
    rwa [hkv] at h
  have HOK := Lib.hid (chain_ok i0 l (min n1 8) (by omega))
  have HOKK := Lib.hid (chain_ok i0 l kk (by omega))
  have HWK := Lib.hid (chain_walk i0 l (min n1 8) (by omega))
  have HWKK := Lib.hid (chain_walk i0 l kk (by omega))
  have HTK := Lib.hid (chain_take i0 l (k := kk) (min n1 8) hkk (by omega))
  have HPR := Lib.hid (fun (h0 : kk < min n1 8) (h : kk < (chainTo i0 l (min n1 8)).heads.length) => chain_prev i0 l (k := kk) h0 (by omega) h)
  clear hR hkv
  generalize chainTo i0 l (min n1 8) = s at *
  generalize chainTo i0 l kk = t at *
  generalize min n1 8 = k at *
  obtain ⟨im, hs, rs, pv, nx⟩ := s
  obtain ⟨im', hs', rs', pv', nx'⟩ := t
  have hil := HOK.out.images
  have hhl := HOK.out.heads
  have hhl' := HOKK.out.heads
  have hsq := HOK.out.seqs
  have hrb := HOK.out.recs
  have hnb := HOK.out.next1
  dsimp only at hil hhl hhl' hsq hrb hnb HWK HWKK HTK HPR
  obtain ⟨t1, t2, t3, t4⟩ := HTK.out
  have HIL := Lib.hid hil
  have HHL := Lib.hid hhl
  have HHL' := Lib.hid hhl'
  have HT1 := Lib.hid t1
  have HT2 := Lib.hid t2
  have HT3 := Lib.hid t3
  have HSQ : Hid (∀ (j : Nat) (x : RecP), rs[j]? = some x → x.seq = (j : Int) + 1) := Lib.hid fun j x hx => by
    obtain ⟨h, rfl⟩ := List.getElem?_eq_some_iff.1 hx
    exact hsq j h
  have hr48 : rs.length ≤ 48 := by omega
  have hq0 : ¬ ((rs.length : Nat) : Int) < (rs'.length : Int) := by omega
  clear t1 t2 t3 HOK HOKK HTK hsq hrb hnb hhl'
  go_enter Tryz.func6, Tryz.ntmps6
  go_wp2_with fail
  refine HC0.out.mono ?_
  rintro e w' ⟨rfl, rfl⟩
  go_wp2_with fail
  refine HCH.out.mono ?_
  rintro e w1 ⟨⟨O, oc, R, rc, rfl, hch⟩, hK1⟩
  dsimp only at hch ⊢
  rw [hil] at hch ⊢
  have hI := hch.imgs.imgs
  have hoc := hch.imgs.cap
  have hoc' : (kk : Int) ≤ oc := by omega
  have HW := walk_any D _ A O p c k oc i0 im w1 (HB.out.new hK1) hm0 hm2 hI (by omega)
  rw [HWK.out] at HW
  have HW := Lib.hid HW
  have HWB := fun W (h : New w1 W) => walk_any D _ A O p c kk oc i0 (im.take kk) W (HB.out.new (hK1.new h)) hm0 hm2 ((hI.new h).take hkk) (by omega)
  rw [HT1.out, HWKK.out] at HWB
  have HWB := Lib.hid HWB
  have HK1 := Lib.hid hK1
  clear hch hI hK1 HCH HC0 hil
  go_wp2_with fail
  refine (HWI.out w1).mono ?_
  rintro e w' ⟨rfl, rfl⟩
  go_wp2_with fail
  refine HW.out.mono ?_
  rintro e w2 ⟨⟨H, hc, M, mc, rfl, hh, hr⟩, hK2⟩
  dsimp only at hh hr ⊢
  rw [hhl] at hh ⊢
  go_wp2_with fail
  refine (HWB.out w2 hK2).mono ?_
  rintro e w3 ⟨⟨G, gc, B, bc, rfl, gg, gr⟩, hK3⟩
  dsimp only at gg gr ⊢
  rw [HHL'.out] at gg ⊢
  have HH := Lib.hid (hh.new hK3)
  have HR := Lib.hid (hr.new hK3)
  have GG := Lib.hid gg
  have GR := Lib.hid gr
  have HK3 := Lib.hid (HK1.out.new (hK2.new hK3))
  clear hh hr gg gr hK2 hK3 HW HWB hhl HK1
  have hgc := GG.out.cap
  generalize hql : rs'.length = q at *
  generalize hrl : rs.length = r at *
  have HQL := Lib.hid hql
  have HRL := Lib.hid hrl
  clear hql hrl
  go_wp2_with fail
  go_loopw [16] (fun i wx => ∃ j : Nat, j ≤ q ∧ i = .int .i64 (j : Int) ∧ New w3 wx) (fun i _ => q - (intOf i).toNat)
  case atStart => exact ⟨0, Nat.zero_le _, rfl, New.refl _⟩
  case round =>
    obtain ⟨j, hj, rfl, hK⟩ := hrel
    by_cases hlt : j < q
    · have hlk : j < rs.length := by have := HRL.out; omega
      have hlk' : j < rs'.length := by have := HQL.out; omega
      have hsame : rs'[j] = rs[j] := by
        have h : (rs.take rs'.length)[j]? = rs'[j]? := by rw [HQL.out, HT3.out]
        rw [List.getElem?_take, if_pos hlk', List.getElem?_eq_getElem hlk, List.getElem?_eq_getElem hlk'] at h
        injection h with h
        exact h.symm
      have hse := HSQ.out j rs[j] (List.getElem?_eq_getElem hlk)
      obtain ⟨b1, o1, B1, d1, rfl, u0, u1, u2, hbs1⟩ := (HR.out.new hK).at3 (k := j) hlk
      obtain ⟨b2, o2, B2, d2, rfl, v0, v1, v2, hbs2⟩ := (GR.out.new hK).at3 (k := j) hlk'
      rw [hsame] at v0 v1 v2 hbs2
      have k1 : ∀ m, (convert 22 9 (.slice B1 rs[j].body.length d1)).run Tryz.prog (wr.drewN m) = .ok (.string (strOf rs[j].body)) (wr.drewN m) := fun m => run_str (hbs1.new ((New.refl wr).drewN m))
      have k2 : ∀ m, (convert 22 9 (.slice B2 rs[j].body.length d2)).run Tryz.prog (wr.drewN m) = .ok (.string (strOf rs[j].body)) (wr.drewN m) := fun m => run_str (hbs2.new ((New.refl wr).drewN m))
      clear hbs1 hbs2 hsame
      generalize rs[j] = x at *
      rw [hse] at u1 v1
      have q1 : IntKind.i64.wrap ((j : Int) + 1) = (j : Int) + 1 := IntWalk.i64_in _ (by omega)
      have q2 : IntKind.u64.wrap ((j : Int) + 1) = (j : Int) + 1 := by rw [IntKind.wrap_u64]; omega
      have q3 : j < r := by omega
      clear hse
      go_wp2_with fail
      go_quiet (fail)
      have hKq := hK.new ((New.refl wr).drewN nq)
      clear hK k1 k2 u0 u1 u2 v0 v1 v2
      generalize wr.drewN nq = wq at *
      go_wp2_with fail
      go_roundw
      case rel => exact ⟨j + 1, by omega, by go_num, hKq⟩
      case measure => simp [intOf]; omega
    · obtain rfl : j = q := by omega
      have HK := Lib.hid hK
      clear hK
      by_cases hkz : kk = k
      · have hkz' : ((kk : Int) == (k : Int)) = true := by rw [hkz]; simp
        go_wp2_with fail
        refine hold_begin (by kernel_rfl) ?_
        have n0 : New wr wr.drew := (New.refl wr).drew
        refine hold_read (i := 0) (v := ?_) rfl (by kernel_rfl) (by kernel_rfl) (by kernel_rfl) (fun _ _ _ h => h) rfl ?_ ?_
        rotate_left
        · intro w' hN
          go_simp
          try with_reducible rfl
        simp only [Act.put, List.getElem_toArray, List.getElem_cons_succ, List.getElem_cons_zero, List.setIfInBounds_toArray, List.set_cons_zero, List.set_cons_succ]
        refine hold_read (i := 1) (v := ?_) rfl (by kernel_rfl) (by kernel_rfl) (by kernel_rfl) (fun _ _ _ h => h) rfl ?_ ?_
        rotate_left
        · intro w' hN
          go_simp
          try with_reducible rfl
        simp only [Act.put, List.getElem_toArray, List.getElem_cons_succ, List.getElem_cons_zero, List.setIfInBounds_toArray, List.set_cons_zero, List.set_cons_succ]
        refine hold_read (i := 2) (v := ?_) rfl (by kernel_rfl) (by kernel_rfl) (by kernel_rfl) (fun _ _ _ h => h) rfl ?_ ?_
        rotate_left
        · intro w' hN
          go_simp
          try with_reducible rfl
        simp only [Act.put, List.getElem_toArray, List.getElem_cons_succ, List.getElem_cons_zero, List.setIfInBounds_toArray, List.set_cons_zero, List.set_cons_succ]
        refine hold_read (i := 3) (v := ?_) rfl (by kernel_rfl) (by kernel_rfl) (by kernel_rfl) (fun _ _ _ h => h) rfl ?_ ?_
        rotate_left
        · intro w' hN
          go_simp
          try with_reducible rfl
        simp only [Act.put, List.getElem_toArray, List.getElem_cons_succ, List.getElem_cons_zero, List.setIfInBounds_toArray, List.set_cons_zero, List.set_cons_succ]
        refine hold_read (i := 4) (v := ?_) rfl (by kernel_rfl) (by kernel_rfl) (by kernel_rfl) (fun _ _ _ h => h) rfl ?_ ?_
        rotate_left
        · intro w' hN
          go_simp
          try with_reducible rfl
        simp only [Act.put, List.getElem_toArray, List.getElem_cons_succ, List.getElem_cons_zero, List.setIfInBounds_toArray, List.set_cons_zero, List.set_cons_succ]
        refine hold_skip (i := 5) rfl (by kernel_rfl) (by kernel_rfl) (by kernel_rfl) (fun _ _ _ h => h) rfl ?_
        simp only [Act.put, List.getElem_toArray, List.getElem_cons_succ, List.getElem_cons_zero, List.setIfInBounds_toArray, List.set_cons_zero, List.set_cons_succ]
        refine hold_skip (i := 6) rfl (by kernel_rfl) (by kernel_rfl) (by kernel_rfl) (fun _ _ _ h => h) rfl ?_
        simp only [Act.put, List.getElem_toArray, List.getElem_cons_succ, List.getElem_cons_zero, List.setIfInBounds_toArray, List.set_cons_zero, List.set_cons_succ]
        refine hold_skip (i := 7) rfl (by kernel_rfl) (by kernel_rfl) (by kernel_rfl) (fun _ _ _ h => h) rfl ?_
        simp only [Act.put, List.getElem_toArray, List.getElem_cons_succ, List.getElem_cons_zero, List.setIfInBounds_toArray, List.set_cons_zero, List.set_cons_succ]
        refine hold_skip (i := 8) rfl (by kernel_rfl) (by kernel_rfl) (by kernel_rfl) (fun _ _ _ h => h) rfl ?_
        simp only [Act.put, List.getElem_toArray, List.getElem_cons_succ, List.getElem_cons_zero, List.setIfInBounds_toArray, List.set_cons_zero, List.set_cons_succ]
        refine hold_skip (i := 9) rfl (by kernel_rfl) (by kernel_rfl) (by kernel_rfl) (fun _ _ _ h => h) rfl ?_
        simp only [Act.put, List.getElem_toArray, List.getElem_cons_succ, List.getElem_cons_zero, List.setIfInBounds_toArray, List.set_cons_zero, List.set_cons_succ]
        refine hold_skip (i := 10) rfl (by kernel_rfl) (by kernel_rfl) (by kernel_rfl) (fun _ _ _ h => h) rfl ?_
        simp only [Act.put, List.getElem_toArray, List.getElem_cons_succ, List.getElem_cons_zero, List.setIfInBounds_toArray, List.set_cons_zero, List.set_cons_succ]
        refine hold_skip (i := 11) rfl (by kernel_rfl) (by kernel_rfl) (by kernel_rfl) (fun _ _ _ h => h) rfl ?_
        simp only [Act.put, List.getElem_toArray, List.getElem_cons_succ, List.getElem_cons_zero, List.setIfInBounds_toArray, List.set_cons_zero, List.set_cons_succ]
        refine hold_skip (i := 12) rfl (by kernel_rfl) (by kernel_rfl) (by kernel_rfl) (fun _ _ _ h => h) rfl ?_
        simp only [Act.put, List.getElem_toArray, List.getElem_cons_succ, List.getElem_cons_zero, List.setIfInBounds_toArray, List.set_cons_zero, List.set_cons_succ]
        refine hold_skip (i := 13) rfl (by kernel_rfl) (by kernel_rfl) (by kernel_rfl) (fun _ _ _ h => h) rfl ?_
        simp only [Act.put, List.getElem_toArray, List.getElem_cons_succ, List.getElem_cons_zero, List.setIfInBounds_toArray, List.set_cons_zero, List.set_cons_succ]
        refine hold_skip (i := 14) rfl (by kernel_rfl) (by kernel_rfl) (by kernel_rfl) (fun _ _ _ h => h) rfl ?_
        simp only [Act.put, List.getElem_toArray, List.getElem_cons_succ, List.getElem_cons_zero, List.setIfInBounds_toArray, List.set_cons_zero, List.set_cons_succ]
        refine hold_skip (i := 15) rfl (by kernel_rfl) (by kernel_rfl) (by kernel_rfl) (fun _ _ _ h => h) rfl ?_
        simp only [Act.put, List.getElem_toArray, List.getElem_cons_succ, List.getElem_cons_zero, List.setIfInBounds_toArray, List.set_cons_zero, List.set_cons_succ]
        refine hold_read (i := 16) (v := ?_) rfl (by kernel_rfl) (by kernel_rfl) (by kernel_rfl) (fun _ _ _ h => h) rfl ?_ ?_
        rotate_left
        · intro w' hN
          go_simp
          try with_reducible rfl
        simp only [Act.put, List.getElem_toArray, List.getElem_cons_succ, List.getElem_cons_zero, List.setIfInBounds_toArray, List.set_cons_zero, List.set_cons_succ]
        refine hold_read (i := 17) (v := ?_) rfl (by kernel_rfl) (by kernel_rfl) (by kernel_rfl) (fun _ _ _ h => h) rfl ?_ ?_
        rotate_left
        · intro w' hN
          go_simp
          try with_reducible rfl
        simp only [Act.put, List.getElem_toArray, List.getElem_cons_succ, List.getElem_cons_zero, List.setIfInBounds_toArray, List.set_cons_zero, List.set_cons_succ]
        refine hold_step (i := 18) (by kernel_rfl) rfl rfl (fun K hK => ?_)
        go_simp
        refine (known18_any _).mono ?_
        rintro e w8 ⟨rfl, k8⟩
        go_wp2_with fail
        refine hK.out _ _ k8 ?_
        clear hK K
        try simp only [Act.put, List.getElem_toArray, List.getElem_cons_succ, List.getElem_cons_zero, List.setIfInBounds_toArray, List.set_cons_zero, List.set_cons_succ]
        replace n0 := Keep.new n0 k8
        refine hold_read (i := 19) (v := ?_) rfl (by kernel_rfl) (by kernel_rfl) (by kernel_rfl) (fun _ _ _ h => h) rfl ?_ ?_
        rotate_left
        · intro w' hN
          go_simp
          try with_reducible rfl
        simp only [Act.put, List.getElem_toArray, List.getElem_cons_succ, List.getElem_cons_zero, List.setIfInBounds_toArray, List.set_cons_zero, List.set_cons_succ]
        refine hold_read (i := 20) (v := ?_) rfl (by kernel_rfl) (by kernel_rfl) (by kernel_rfl) (fun _ _ _ h => h) rfl ?_ ?_
        rotate_left
        · intro w' hN
          go_simp
          try with_reducible rfl
        simp only [Act.put, List.getElem_toArray, List.getElem_cons_succ, List.getElem_cons_zero, List.setIfInBounds_toArray, List.set_cons_zero, List.set_cons_succ]
        refine wpAnyH_done (by kernel_rfl) ?_ _
        have hfin := HK3.out.new (HK.out.new n0)
        go_wp2_with fail
        go_ret
        exact ⟨rfl, hfin⟩
      · have hkz' : ((kk : Int) == (k : Int)) = false := by simp; omega
        have hlk : kk < hs.length := by have := HHL.out; omega
        obtain ⟨b, off, P1, p1, P2, p2, rfl, _, u0, u1, u2, u3, u4, u5, l1, l2, b1, b2, -⟩ := HH.out.heads.at_ hlk
        have hpv := HPR.out (by omega) hlk
        rw [hpv] at u4 b1
        have v4 : ∀ W, New wr W → W.cell? ⟨b, off + kk * 6 + 4, none⟩ = some (.slice P1 (headSeal i0 hs').length p1) := fun W h => (HK.out.new h).cell_some u4 trivial
        have vp : ∀ W, New wr W → (convert 22 9 (.slice P1 (headSeal i0 hs').length p1)).run Tryz.prog W = .ok (.string (strOf (headSeal i0 hs'))) W := fun W h => run_str (b1.new (HK.out.new h))
        have HS := Lib.hid (fun W (h : New wr W) => head_any D _ A G p c kk gc i0 hs' W (HB.out.new (HK3.out.new (HK.out.new h))) hm0 hm2 (GG.out.heads.new (HK.out.new h)) (by omega))
        have HV : Hid (∀ W b A15 c15, OwnB W b 5 A15 32 c15 (headSeal i0 hs') → ∀ W', New W W' → (convert 22 9 (.slice A15 32 c15)).run Tryz.prog W' = .ok (.string (strOf (headSeal i0 hs'))) W') :=
          Lib.hid fun W b A15 c15 ho W' q => run_str (Row.of_own (Own.keepNew ho q))
        have hkk' : kk < k := by omega
        clear u0 u1 u2 u3 u4 u5 l1 l2 b1 b2 hpv
        generalize headSeal i0 hs' = sl at *
        go_wp2_with fail
        refine hold_begin (by kernel_rfl) ?_
        have n0 : New wr wr.drew := (New.refl wr).drew
        replace v4 := fun W (hW : New wr.drew W) => v4 W (Keep.new n0 hW)
        replace vp := fun W (hW : New wr.drew W) => vp W (Keep.new n0 hW)
        refine hold_read (i := 0) (v := ?_) rfl (by kernel_rfl) (by kernel_rfl) (by kernel_rfl) (fun _ _ _ h => h) rfl ?_ ?_
        rotate_left
        · intro w' hN
          go_simp
          try with_reducible rfl
        simp only [Act.put, List.getElem_toArray, List.getElem_cons_succ, List.getElem_cons_zero, List.setIfInBounds_toArray, List.set_cons_zero, List.set_cons_succ]
        refine hold_read (i := 1) (v := ?_) rfl (by kernel_rfl) (by kernel_rfl) (by kernel_rfl) (fun _ _ _ h => h) rfl ?_ ?_
        rotate_left
        · intro w' hN
          go_simp
          try with_reducible rfl
        simp only [Act.put, List.getElem_toArray, List.getElem_cons_succ, List.getElem_cons_zero, List.setIfInBounds_toArray, List.set_cons_zero, List.set_cons_succ]
        refine hold_read (i := 2) (v := ?_) rfl (by kernel_rfl) (by kernel_rfl) (by kernel_rfl) (fun _ _ _ h => h) rfl ?_ ?_
        rotate_left
        · intro w' hN
          go_simp
          try with_reducible rfl
        simp only [Act.put, List.getElem_toArray, List.getElem_cons_succ, List.getElem_cons_zero, List.setIfInBounds_toArray, List.set_cons_zero, List.set_cons_succ]
        refine hold_read (i := 3) (v := ?_) rfl (by kernel_rfl) (by kernel_rfl) (by kernel_rfl) (fun _ _ _ h => h) rfl ?_ ?_
        rotate_left
        · intro w' hN
          go_simp
          try with_reducible rfl
        simp only [Act.put, List.getElem_toArray, List.getElem_cons_succ, List.getElem_cons_zero, List.setIfInBounds_toArray, List.set_cons_zero, List.set_cons_succ]
        refine hold_read (i := 4) (v := ?_) rfl (by kernel_rfl) (by kernel_rfl) (by kernel_rfl) (fun _ _ _ h => h) rfl ?_ ?_
        rotate_left
        · intro w' hN
          go_simp
          try with_reducible rfl
        simp only [Act.put, List.getElem_toArray, List.getElem_cons_succ, List.getElem_cons_zero, List.setIfInBounds_toArray, List.set_cons_zero, List.set_cons_succ]
        refine hold_read (i := 5) (v := ?_) rfl (by kernel_rfl) (by kernel_rfl) (by kernel_rfl) (fun _ _ _ h => h) rfl ?_ ?_
        rotate_left
        · intro w' hN
          go_simp
          try with_reducible rfl
        simp only [Act.put, List.getElem_toArray, List.getElem_cons_succ, List.getElem_cons_zero, List.setIfInBounds_toArray, List.set_cons_zero, List.set_cons_succ]
        refine hold_read (i := 6) (v := ?_) rfl (by kernel_rfl) (by kernel_rfl) (by kernel_rfl) (fun _ _ _ h => h) rfl ?_ ?_
        rotate_left
        · intro w' hN
          go_simp
          try with_reducible rfl
        simp only [Act.put, List.getElem_toArray, List.getElem_cons_succ, List.getElem_cons_zero, List.setIfInBounds_toArray, List.set_cons_zero, List.set_cons_succ]
        refine hold_read (i := 7) (v := ?_) rfl (by kernel_rfl) (by kernel_rfl) (by kernel_rfl) (fun _ _ _ h => h) rfl ?_ ?_
        rotate_left
        · intro w' hN
          go_simp
          try with_reducible rfl
        simp only [Act.put, List.getElem_toArray, List.getElem_cons_succ, List.getElem_cons_zero, List.setIfInBounds_toArray, List.set_cons_zero, List.set_cons_succ]
        refine hold_read (i := 8) (v := ?_) rfl (by kernel_rfl) (by kernel_rfl) (by kernel_rfl) (fun _ _ _ h => h) rfl ?_ ?_
        rotate_left
        · intro w' hN
          go_simp
          try with_reducible rfl
        simp only [Act.put, List.getElem_toArray, List.getElem_cons_succ, List.getElem_cons_zero, List.setIfInBounds_toArray, List.set_cons_zero, List.set_cons_succ]
        refine hold_read (i := 9) (v := ?_) rfl (by kernel_rfl) (by kernel_rfl) (by kernel_rfl) (fun _ _ _ h => h) rfl ?_ ?_
        rotate_left
        · intro w' hN
          go_simp
          try with_reducible rfl
        simp only [Act.put, List.getElem_toArray, List.getElem_cons_succ, List.getElem_cons_zero, List.setIfInBounds_toArray, List.set_cons_zero, List.set_cons_succ]
        refine hold_read (i := 10) (v := ?_) rfl (by kernel_rfl) (by kernel_rfl) (by kernel_rfl) (fun _ _ _ h => h) rfl ?_ ?_
        rotate_left
        · intro w' hN
          go_simp
          try with_reducible rfl
        simp only [Act.put, List.getElem_toArray, List.getElem_cons_succ, List.getElem_cons_zero, List.setIfInBounds_toArray, List.set_cons_zero, List.set_cons_succ]
        refine hold_read (i := 11) (v := ?_) rfl (by kernel_rfl) (by kernel_rfl) (by kernel_rfl) (fun _ _ _ h => h) rfl ?_ ?_
        rotate_left
        · intro w' hN
          go_simp
          try with_reducible rfl
        simp only [Act.put, List.getElem_toArray, List.getElem_cons_succ, List.getElem_cons_zero, List.setIfInBounds_toArray, List.set_cons_zero, List.set_cons_succ]
        refine hold_read (i := 12) (v := ?_) rfl (by kernel_rfl) (by kernel_rfl) (by kernel_rfl) (fun _ _ _ h => h) rfl ?_ ?_
        rotate_left
        · intro w' hN
          go_simp
          try with_reducible rfl
        simp only [Act.put, List.getElem_toArray, List.getElem_cons_succ, List.getElem_cons_zero, List.setIfInBounds_toArray, List.set_cons_zero, List.set_cons_succ]
        refine hold_step (i := 13) (by kernel_rfl) rfl rfl (fun K hK => ?_)
        go_simp
        refine (HS.out _ n0).mono ?_
        rintro e w8 ⟨⟨A8, c8, rfl, o8⟩, k8⟩; have v8 := HV.out w8 _ A8 c8 o8
        go_wp2_with fail
        refine hK.out _ _ k8 ?_
        clear hK K
        try simp only [Act.put, List.getElem_toArray, List.getElem_cons_succ, List.getElem_cons_zero, List.setIfInBounds_toArray, List.set_cons_zero, List.set_cons_succ]
        replace n0 := Keep.new n0 k8
        replace v4 := fun W (hW : New w8 W) => v4 W (Keep.new k8 hW)
        replace vp := fun W (hW : New w8 W) => vp W (Keep.new k8 hW)
        refine hold_read (i := 14) (v := ?_) rfl (by kernel_rfl) (by kernel_rfl) (by kernel_rfl) (fun _ _ _ h => h) rfl ?_ ?_
        rotate_left
        · intro w' hN
          go_simp
          try with_reducible rfl
        simp only [Act.put, List.getElem_toArray, List.getElem_cons_succ, List.getElem_cons_zero, List.setIfInBounds_toArray, List.set_cons_zero, List.set_cons_succ]
        refine hold_read (i := 15) (v := ?_) rfl (by kernel_rfl) (by kernel_rfl) (by kernel_rfl) (fun _ _ _ h => h) rfl ?_ ?_
        rotate_left
        · intro w' hN
          go_simp
          try with_reducible rfl
        simp only [Act.put, List.getElem_toArray, List.getElem_cons_succ, List.getElem_cons_zero, List.setIfInBounds_toArray, List.set_cons_zero, List.set_cons_succ]
        refine hold_read (i := 16) (v := ?_) rfl (by kernel_rfl) (by kernel_rfl) (by kernel_rfl) (fun _ _ _ h => h) rfl ?_ ?_
        rotate_left
        · intro w' hN
          go_simp
          try with_reducible rfl
        simp only [Act.put, List.getElem_toArray, List.getElem_cons_succ, List.getElem_cons_zero, List.setIfInBounds_toArray, List.set_cons_zero, List.set_cons_succ]
        refine hold_read (i := 17) (v := ?_) rfl (by kernel_rfl) (by kernel_rfl) (by kernel_rfl) (fun _ _ _ h => h) rfl ?_ ?_
        rotate_left
        · intro w' hN
          go_simp
          try with_reducible rfl
        simp only [Act.put, List.getElem_toArray, List.getElem_cons_succ, List.getElem_cons_zero, List.setIfInBounds_toArray, List.set_cons_zero, List.set_cons_succ]
        refine hold_step (i := 18) (by kernel_rfl) rfl rfl (fun K hK => ?_)
        go_simp
        refine (known18_any _).mono ?_
        rintro e w9 ⟨rfl, k9⟩
        go_wp2_with fail
        refine hK.out _ _ k9 ?_
        clear hK K
        try simp only [Act.put, List.getElem_toArray, List.getElem_cons_succ, List.getElem_cons_zero, List.setIfInBounds_toArray, List.set_cons_zero, List.set_cons_succ]
        replace n0 := Keep.new n0 k9
        replace v4 := fun W (hW : New w9 W) => v4 W (Keep.new k9 hW)
        replace vp := fun W (hW : New w9 W) => vp W (Keep.new k9 hW)
        replace v8 := fun W (hW : New w9 W) => v8 W (Keep.new k9 hW)
        refine hold_read (i := 19) (v := ?_) rfl (by kernel_rfl) (by kernel_rfl) (by kernel_rfl) (fun _ _ _ h => h) rfl ?_ ?_
        rotate_left
        · intro w' hN
          go_simp
          try with_reducible rfl
        simp only [Act.put, List.getElem_toArray, List.getElem_cons_succ, List.getElem_cons_zero, List.setIfInBounds_toArray, List.set_cons_zero, List.set_cons_succ]
        refine hold_read (i := 20) (v := ?_) rfl (by kernel_rfl) (by kernel_rfl) (by kernel_rfl) (fun _ _ _ h => h) rfl ?_ ?_
        rotate_left
        · intro w' hN
          go_simp
          try with_reducible rfl
        simp only [Act.put, List.getElem_toArray, List.getElem_cons_succ, List.getElem_cons_zero, List.setIfInBounds_toArray, List.set_cons_zero, List.set_cons_succ]
        refine wpAnyH_done (by kernel_rfl) ?_ _
        have hfin := HK3.out.new (HK.out.new n0)
        clear v4 vp v8
        go_wp2_with fail
        go_ret
        exact ⟨rfl, hfin⟩
end Go.Proofs.YtpbbfbgmpidgnaaGreatDoor
/-
  PROVED HERE: SealGrowsCardSaid: for every input the law SealGrows returns true, and each argument reads afterwards as before; the tables that the row lists are tied to the program's text. No condition.
-/
namespace Go.Proofs.YtpbbfbgmpidgnaaGreatDoor.sealGrows
open Go.ChangeShapes Go.WideShapes Go.ChangeAt Go.RowKit Go.Joins Go.Deep

set_option maxRecDepth 100000 in
theorem contract (H : Type) (enc : TypeId × Value → H) (W : World) (base : Nat) (args : Array Value) (ds gs : List (DataW H)) (before : List MemPlace)
    (hval : ∀ (j : Nat) t v, Tryz.f6.params[j]? = some t → args[j]? = some v → Value.okWide Tryz.prog W .any base t v)
    (hW : DataW.Whole enc Tryz.prog Tryz.f6.params.toList Rows.sealGrowsSpec.vars false W args.toList ds gs before) :
    Calls Tryz.prog 6 args W fun e W' => ∃ v, e = .returned v ∧ Rows.sealGrowsSpec.post enc Tryz.prog Tryz.f6 false true false false W args v W' := by
  have hW' := hW
  obtain ⟨p, q, hA0, hV, rfl, hfz, hnd⟩ := hW
  have hA : DataW.TrodAll enc Tryz.prog W 0 (fun _ => true) true Tryz.f6.params.toList args.toList ds p := hA0
  rw [Tryz.params6] at hA hval
  obtain ⟨v0, vs0, d0, ds0, p0, q0, hargs, rfl, rfl, h0, r0⟩ := trodAll_cons hA
  obtain ⟨v1, vs1, d1, ds1, p1, q1, rfl, rfl, rfl, h1, r1⟩ := trodAll_cons r0
  obtain ⟨v2, vs2, d2, ds2, p2, q2, rfl, rfl, rfl, h2, r2⟩ := trodAll_cons r1
  obtain ⟨rfl, rfl, rfl⟩ := trodAll_nil r2
  obtain rfl : args = #[v0, v1, v2] := by cases args; simp_all
  obtain ⟨rfl, rfl⟩ := trodVars_none hV
  obtain ⟨a0, l0, c0, rfl⟩ := okWide_slice Tryz.underlying22 (hval 0 _ v0 rfl rfl)
  obtain ⟨fu0, hf0⟩ := h0
  obtain ⟨B0, n0, k0, x0, hv0, hn0, hm0, hB0⟩ := read_bytes hf0
  obtain ⟨a1, l1, c1, rfl⟩ := okWide_slice Tryz.underlying27 (hval 1 _ v1 rfl rfl)
  obtain ⟨fu1, hf1⟩ := h1
  obtain ⟨B1, n1, k1, x1, hv1, hn1, hm1, hB1⟩ := read_raws8 hf1
  obtain ⟨z2, rfl, hz2⟩ := open_int Tryz.underlying3 (hval 2 _ v2 rfl rfl) h2
  have b2 : -9223372036854775808 ≤ z2 ∧ z2 ≤ 9223372036854775807 := by simpa [Lit.wf, IntKind.min, IntKind.max, IntKind.signed, IntKind.bits] using hz2.2.2
  rw [hv0] at hW' ⊢
  rw [hv1] at hW' ⊢
  unfold maxLen at hm0 hm1
  refine (grows_any _ _ B0 B1 n0 k0 n1 k1 x0 x1 z2 W hB0 hB1 hn0 (by omega) hn1 (by omega) b2.1 b2.2).mono fun e W' ⟨he, hN⟩ => ?_
  subst he
  exact ⟨_, rfl, law_post laid_out (by kernel_rfl) rfl (by kernel_rfl) Tryz.underlying4 hW' rfl rfl rfl hN⟩

def args0 : Array Value := #[.slice none 0 0, .slice none 0 0, .int .i64 0]
theorem laid_met (os : Os) : laidMet Tryz.prog Rows.sealGrowsRow.laid ((laidWorld os).forCall (fun _ _ => 0) ⟨#[], args0, []⟩).memory :=
  laidMet_of_run' 8 (by kernel_rfl) (by kernel_rfl)
theorem reads (os : Os) {H : Type} (enc : TypeId × Value → H) : ∃ places, DataW.whole enc Tryz.prog ((laidWorld os).forCall (fun _ _ => 0) ⟨#[], args0, []⟩).memory Tryz.f6.params.toList Rows.sealGrowsSpec.vars false args0.toList 8 = some ([.nil, .nil, .lit (.int .i64 0)], [], places) :=
  ⟨[], by kernel_rfl⟩
set_option maxRecDepth 100000 in
theorem lifted (os : Os) (started : os.Started) (H : Type) (enc : TypeId × Value → H) (F : Stop.Interp) :
    ReturnsInHanded {} Tryz.checked os 6 .any ((OpenSpec.ofChange Rows.sealGrowsSpec).preRow enc Tryz.prog Tryz.f6 Rows.sealGrowsRow.domain false Rows.sealGrowsRow.laid) (((OpenSpec.ofChange Rows.sealGrowsSpec).at F).post enc Tryz.prog Tryz.f6 false true false false) := by
  obtain ⟨places, hx⟩ := reads os enc
  refine returnsInHanded_of_row (C := Tryz.checked) (s := OpenSpec.ofChange Rows.sealGrowsSpec) own_knob started (by kernel_rfl) Tryz.func6
    (witness_row_at (enc := enc) (C := Tryz.checked) false (laidWorld os) args0 rfl (by kernel_rfl) (by kernel_rfl) (by kernel_rfl)
      (OpenSpec.preRow_of_cond 8 hx (by kernel_rfl) (fun k hk => by cases hk) (by kernel_rfl) (laid_met os))) ?_
  intro W base args ds gs before hval hW _ _ _ _ _ _
  exact contract H enc W base args ds gs before hval hW
theorem said : Rows.SealGrowsSaid :=
  OpenClaim.holds_of_cond 6 Tryz.f6 rfl rfl rfl rfl rfl rfl rfl ⟨rfl, rfl, rfl, rfl, rfl⟩ rfl rfl rfl rfl rfl (by kernel_rfl) Tryz.func6 (by kernel_rfl)
    (of_decide_eq_true (by kernel_rfl)) (by unfold Func.isWrapper; first | (rw [if_pos (by decide +kernel)]; kernel_rfl) | (rw [if_neg (by decide +kernel)]; exact ⟨rfl, rfl⟩))
    (fun os started H enc _ F => by rw [OpenClaim.pre_eq_preRow]; exact lifted os started H enc F)
theorem plain (f : FuncId) (fn : Func) (hf : Tryz.pinned.checked.prog.funcNamed "permafrost/permafrostlaw18.SealGrows" = some f) (hfn : Tryz.pinned.checked.prog.funcs[f]? = some fn) :
    false = Tryz.pinned.checked.prog.looks [] ∧ ∀ (j : Nat) t, fn.params[j]? = some t → Tryz.pinned.checked.prog.wantsStandIn t = false := by
  obtain rfl : f = 6 := Option.some.inj ((show Tryz.prog.funcNamed "permafrost/permafrostlaw18.SealGrows" = some 6 by kernel_rfl).symm.trans hf) |>.symm
  obtain rfl : fn = Tryz.f6 := (Option.some.inj (Tryz.func6.symm.trans hfn)).symm
  refine ⟨by kernel_rfl, fun j t ht => ?_⟩
  rw [Tryz.params6] at ht
  have hall : (#[22, 27, 3] : Array TypeId).toList.all (fun t => Tryz.pinned.checked.prog.wantsStandIn t == false) = true := by kernel_rfl
  have hm : t ∈ (#[22, 27, 3] : Array TypeId).toList := Array.mem_toList_iff.2 (Array.mem_of_getElem? ht)
  simpa using List.all_eq_true.1 hall t hm
end Go.Proofs.YtpbbfbgmpidgnaaGreatDoor.sealGrows
namespace Go.Proofs.YtpbbfbgmpidgnaaGreatDoor
theorem seal_grows : Rows.SealGrowsCardSaid :=
  Claim7.holds_tied_plain_at .later [] _ _ _ _ sealGrows.said (fun _ h => by cases h) (by kernel_rfl) (fun _ h => by cases h) sealGrows_row_tie rfl ⟨rfl, rfl⟩ (by kernel_rfl) rfl sealGrows.plain (by kernel_rfl)
end Go.Proofs.YtpbbfbgmpidgnaaGreatDoor
