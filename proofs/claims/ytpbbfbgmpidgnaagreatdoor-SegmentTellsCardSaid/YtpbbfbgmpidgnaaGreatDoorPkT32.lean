/-
  PROVED HERE: the law SegmentTells answers true; conditions: lengths that a slice may have.
-/
import Derived.Test.YtpbbfbgmpidgnaaGreatDoorPkT18
import Derived.Test.YtpbbfbgmpidgnaaGreatDoorPkT30
import Derived.Test.YtpbbfbgmpidgnaaGreatDoorPkT31
namespace Go.Proofs.YtpbbfbgmpidgnaaGreatDoor
open Go.RowKit

set_option maxRecDepth 100000 in
set_option maxHeartbeats 2000000 in
theorem segtells_any (D D2 D3 : Nat → Prop) (A A2 A3 : Option Addr) (n c n2 c2 n3 c3 : Nat) (l : List RawP) (pv b : List UInt8) (ix fi at' : Int) (tn : UInt8) (w : World) (hR : Raws w D A n l) (hB : Bs w D2 A2 n2 pv) (hB3 : Bs w D3 A3 n3 b)
    (hnc : n ≤ c) (hc9 : c ≤ 9223372036854775807) (hnc2 : n2 ≤ c2) (hc29 : c2 ≤ 9223372036854775807) (hnc3 : n3 ≤ c3) (hc39 : c3 ≤ 9223372036854775807)
    (hi0 : -9223372036854775808 ≤ ix) (hi1 : ix ≤ 9223372036854775807) (hf0 : 0 ≤ fi) (hf1 : fi ≤ 18446744073709551615) (ha0 : -9223372036854775808 ≤ at') (ha1 : at' ≤ 9223372036854775807) :
    Calls Tryz.prog 7 #[.slice A n c, .int .i64 ix, .int .u64 fi, .slice A2 n2 c2, .int .i64 at', .int .u8 (bv tn), .slice A3 n3 c3] w fun e w' => e = .returned (.bool true) ∧ New w w' := by
  have HPV := Lib.hid hB
  have HB3 := Lib.hid hB3
  clear hB hB3
  have HW1 : Hid (∀ W, Calls Tryz.prog 18 #[.int .i64 ix, .int .i64 0, .int .i64 65535] W fun e w' => e = .returned (.int .i64 (ix % 65536)) ∧ W = w') := Lib.hid fun W => by
    have h := within_any ix 0 65535 W hi0 hi1 (by decide) (by decide) (by decide)
    rwa [show (0 : Int) + ix % (65535 - 0 + 1) = ix % 65536 from by omega] at h
  have HI : Hid (0 ≤ ix % 65536 ∧ ix % 65536 ≤ 65535) := Lib.hid (by omega)
  have qf : fi.tmod 1099511627776 = fi % 1099511627776 := Int.tmod_eq_emod_of_nonneg hf0
  have HF : Hid (0 ≤ fi % 1099511627776 ∧ fi % 1099511627776 ≤ 1099511627775) := Lib.hid (by omega)
  generalize ix % 65536 = i0 at *
  generalize fi % 1099511627776 = f at *
  have HRE : Hid (∀ W, New w W → Calls Tryz.prog 27 #[.slice A n c, .int .u64 f, .int .i64 120] W fun e w' =>
      (∃ A1 c1 A2 c2, e = .returned (.tuple #[.slice A1 (min n 40) c1, .slice A2 (min n 40) c2]) ∧ OwnRecs w' W.heap.size (fun b => b < W.heap.size) A1 (min n 40) c1 (rawRecs f 120 l (min n 40)) ∧ OwnRefs w' W.heap.size (fun b => b < W.heap.size) A2 (min n 40) c2 (rawRecs f 120 l (min n 40))) ∧ New W w') :=
    Lib.hid fun W hW => records17_any D A n c 120 l f W (hR.new hW) (by omega) HF.out.1 (by have := HF.out.2; omega) (by decide)
  have hk40 : min n 40 ≤ 40 := Nat.min_le_right _ _
  have HBODY : Hid (∀ r ∈ rawRecs f 120 l (min n 40), r.body.length ≤ 9223372036854770000) := Lib.hid fun r hr => by have := rawRecs_body hr; omega
  have hrl := rawRecs_length f 120 l (min n 40)
  have hfl := fitsIn_le 942 (rawRecs f 120 l (min n 40))
  rw [hrl] at hfl
  have HRL := Lib.hid hrl
  clear hrl hR
  generalize rawRecs f 120 l (min n 40) = rs at *
  generalize min n 40 = k0 at *
  go_enter Tryz.func7, Tryz.ntmps7
  go_wp2_with fail
  refine (HW1.out w).mono ?_
  rintro e w' ⟨rfl, rfl⟩
  go_wp2_with fail
  refine (sized_any A2 n2 c2 32 pv D2 w HPV.out (by omega) hnc2 (by decide)).mono ?_
  rintro e w1 ⟨⟨P, pc, rfl, hp1⟩, hK1⟩
  go_wp2_with fail
  refine (HRE.out w1 hK1).mono ?_
  rintro e w2 ⟨⟨X, xc, Y, yc, rfl, hx2, hy2⟩, hK2⟩
  have hpl : (sized pv 32).length = 32 := by simpa using hp1.1
  have hp2 := Own.keepNew hp1 hK2
  have hpc := own_cap hp2
  have HX := Lib.hid (hx2.recs HBODY.out)
  have HY := Lib.hid (hy2.recs HBODY.out)
  have hxc := hx2.cap
  have hxc9 := hx2.capMax
  have hyc := hy2.cap
  have hyc9 := hy2.capMax
  have HK2 := Lib.hid (hK1.new hK2)
  have HFA := Lib.hid (fun W (h : New w2 W) => fits_any _ X k0 xc rs W (HX.out.new h) (by omega))
  have HFB := Lib.hid (fun W (h : New w2 W) => fits17_any _ Y k0 yc rs W (HY.out.new h) (by omega))
  have HLA := Lib.hid (fun W (h : New w2 W) => leaves_any _ X k0 xc rs W (HX.out.new h) (by omega))
  have HLB := Lib.hid (fun W (h : New w2 W) => leaves17_any _ Y k0 yc rs W (HY.out.new h) (by omega))
  have HB1 := fun W (h : New w2 W) => build_any _ _ i0 f P X pc k0 xc (sized pv 32) rs W (by rw [hpl]; exact (Row.of_own hp2).new h) (by rw [hpl]; exact hpc) (HX.out.new h) (by omega) HF.out.1
  have HB2 := fun W (h : New w2 W) => build17_any _ _ i0 f P Y pc k0 yc (sized pv 32) rs W (by rw [hpl]; exact (Row.of_own hp2).new h) (by rw [hpl]; exact hpc) (HY.out.new h) (by omega) HF.out.1
  have HB4 := fun W (h : New w2 W) => build_any _ _ i0 f P X pc (fitsIn 942 rs) xc (sized pv 32) (rs.take (fitsIn 942 rs)) W (by rw [hpl]; exact (Row.of_own hp2).new h) (by rw [hpl]; exact hpc) ((HX.out.new h).take hfl) (by omega) HF.out.1
  have HB5 := fun W (h : New w2 W) => build17_any _ _ i0 f P Y pc (fitsIn 942 rs) yc (sized pv 32) (rs.take (fitsIn 942 rs)) W (by rw [hpl]; exact (Row.of_own hp2).new h) (by rw [hpl]; exact hpc) ((HY.out.new h).take hfl) (by omega) HF.out.1
  rw [hpl] at HB1 HB2 HB4 HB5
  replace HB1 := Lib.hid HB1
  replace HB2 := Lib.hid HB2
  replace HB4 := Lib.hid HB4
  replace HB5 := Lib.hid HB5
  have HD1 := Lib.hid (buildOf_length i0 f (sized pv 32) rs)
  have HD2 := Lib.hid (buildOf_length i0 f (sized pv 32) (rs.take (fitsIn 942 rs)))
  generalize buildOf i0 f (sized pv 32) rs = d1 at *
  generalize buildOf i0 f (sized pv 32) (rs.take (fitsIn 942 rs)) = d2 at *
  generalize fitsIn 942 rs = m at *
  have HRD := Lib.hid (fun W (h : New w W) => sized_any A3 n3 c3 1024 b D3 W (HB3.out.new h) (by omega) hnc3 (by decide))
  clear hp1 hp2 hx2 hy2 hK1 hK2 HRE HPV HW1 hpl hpc HX HY
  obtain ⟨s1, z1⟩ := d1
  obtain ⟨s2, z2⟩ := d2
  dsimp only at HD1 HD2 HB1 HB2 HB4 HB5
  have hmx : (m : Int) ≤ xc := by omega
  have hmy : (m : Int) ≤ yc := by omega
  generalize hlv : leavesOf rs = lv at *
  clear hlv
  go_wp2_with fail
  refine (HFA.out w2 (New.refl _)).mono ?_
  rintro e w3 ⟨rfl, k3⟩
  go_wp2_with fail
  refine (HFB.out w3 k3).mono ?_
  rintro e w4 ⟨rfl, k4⟩
  have K4 := k3.new k4
  go_wp2_with fail
  refine (HLA.out w4 K4).mono ?_
  rintro e w5 ⟨⟨L1, lc1, rfl, o5⟩, k5⟩
  have K5 := K4.new k5
  go_wp2_with fail
  refine (HLB.out w5 K5).mono ?_
  rintro e w6 ⟨⟨L2, lc2, rfl, o6⟩, k6⟩
  have b5 := (o5.new k6).bss
  have b6 := o6.bss
  go_wp2_with fail
  refine (lists_any _ _ L1 L2 k0 lc1 k0 lc2 lv lv w6 b5 b6 (by omega)).mono ?_
  rintro e w7 ⟨he, k7⟩
  rw [show decide (lv = lv) = true from by simp] at he
  subst he
  have K7 := (K5.new k6).new k7
  clear o5 o6 b5 b6 k3 k4 k5 k6 k7 K4 K5 HLA HLB HFA
  go_wp2_with fail
  refine (HFB.out w7 K7).mono ?_
  rintro e w8 ⟨rfl, k8⟩
  have K8 := K7.new k8
  go_wp2_with fail
  refine (HB1.out w8 K8).mono ?_
  rintro e w9 ⟨⟨Z1, zc1, rfl, p9⟩, k9⟩
  have K9 := K8.new k9
  dsimp only at p9 ⊢
  go_wp2_with fail
  refine (HB2.out w9 K9).mono ?_
  rintro e w10 ⟨⟨Z2, zc2, rfl, p10⟩, k10⟩
  have K10 := K9.new k10
  dsimp only at p10 ⊢
  go_wp2_with fail
  refine (HB4.out w10 K10).mono ?_
  rintro e w11 ⟨⟨Z3, zc3, rfl, p11⟩, k11⟩
  have K11 := K10.new k11
  dsimp only at p11 ⊢
  go_wp2_with fail
  refine (HB5.out w11 K11).mono ?_
  rintro e w12 ⟨⟨Z4, zc4, rfl, p12⟩, k12⟩
  have K12 := K11.new k12
  dsimp only at p12 ⊢
  have q9 := run_str (c := zc1) (Row.of_own (Own.keepNew (Own.keepNew (Own.keepNew p9 k10) k11) k12))
  have q10 := run_str (c := zc2) (Row.of_own (Own.keepNew (Own.keepNew p10 k11) k12))
  have q11 := run_str (c := zc3) (Row.of_own (Own.keepNew p11 k12))
  have q12 := run_str (c := zc4) (Row.of_own p12)
  have HP12 := Lib.hid p12
  have HK12 := Lib.hid (HK2.out.new K12)
  have hge : w.heap.size ≤ w11.heap.size := (HK2.out.new K11).size
  clear p9 p10 p11 p12 k8 k9 k10 k11 k12 K7 K8 K9 K10 K11 K12 HB1 HB2 HB4 HB5 HFB
  go_wp2_with fail
  clear q9 q10 q11 q12
  refine (HRD.out w12 HK12.out).mono ?_
  rintro e w13 ⟨⟨V, vc, rfl, o13⟩, k13⟩
  have HRL1 := Lib.hid (readlaw_any _ V 1024 vc _ w13 (Row.of_own o13) (own_cap o13) (own_capMax o13))
  have HP13 := Lib.hid (Own.keepNew HP12.out k13)
  have HK13 := Lib.hid (HK12.out.new k13)
  clear o13 k13 HP12 HK12 HRD
  go_wp2_with fail
  refine HRL1.out.mono ?_
  rintro e w14 ⟨rfl, k14⟩
  have HP14 := Lib.hid (Own.keepNew HP13.out k14)
  have HK14 := Lib.hid (HK13.out.new k14)
  clear k14 HP13 HK13 HRL1
  rcases HD2.out with hz | hz
  · have hz' : ((s2.length : Int) == 0) = true := by simp [hz]
    clear hz
    go_wp2_with fail
    refine (known17_any _).mono ?_
    rintro e w15 ⟨rfl, k15⟩
    go_wp2_with fail
    go_ret
    exact ⟨rfl, HK14.out.new k15⟩
  · have HP := HP14.out
    rw [hz] at HP ⊢
    have HZ := Lib.hid hz
    have HP := Lib.hid HP
    clear hz HP14
    have HW3 : Hid (∀ W, Calls Tryz.prog 18 #[.int .i64 at', .int .i64 0, .int .i64 1023] W fun e w' => e = .returned (.int .i64 (((at' % 1024).toNat : Nat) : Int)) ∧ W = w') := Lib.hid fun W => by
      have h := within_any at' 0 1023 W ha0 ha1 (by decide) (by decide) (by decide)
      rwa [show (0 : Int) + at' % (1023 - 0 + 1) = ((at' % 1024).toNat : Nat) from by omega] at h
    have hkk : (at' % 1024).toNat < 1024 := by omega
    generalize (at' % 1024).toNat = kk at *
    obtain ⟨g, cp, hA, hg, hgl⟩ := HP.out.form (by decide)
    injection hA with hA _ hcp
    subst hA
    subst hcp
    have hks : kk < s2.length := by rw [HZ.out]; exact hkk
    have eb : w14.cell? ⟨g, kk, none⟩ = some (.int .u8 (bv s2[kk])) := by
      simpa [Addr.add_lit] using HP.out.cells (g := g) rfl kk _ (by rw [List.getElem?_map, List.getElem?_eq_getElem hks]; rfl)
    have zb := HP.out.frozenAt (g := g) kk
    have hst1 := (HP.out.stored kk (.int .u8 (bv (s2[kk] ^^^ tn)))).1
    rw [show Value.int .u8 (bv (s2[kk] ^^^ tn)) = byteVal (s2[kk] ^^^ tn) from rfl, ← List.map_set] at hst1
    have hKS : New w (w14.setCell ⟨g, kk, none⟩ (byteVal (s2[kk] ^^^ tn))) := HK14.out.setCell (p := ⟨g, kk, none⟩) (fun _ => by show w.heap.size ≤ g; omega) _
    have hsl : (s2.set kk (s2[kk] ^^^ tn)).length = 1024 := by rw [List.length_set]; exact HZ.out
    generalize s2.set kk (s2[kk] ^^^ tn) = sg at *
    generalize s2[kk] = x at *
    have HST := Lib.hid hst1
    have HKS := Lib.hid hKS
    have HSL := Lib.hid hsl
    unfold byteVal at HST HKS
    clear hst1 hKS hsl HP HK14
    go_wp2_with fail
    refine (HW3.out w14).mono ?_
    rintro e w' ⟨rfl, rfl⟩
    go_wp2_with fail
    clear eb zb
    generalize World.setCell _ _ _ = w15 at *
    refine (readlaw_any _ (some ⟨g, 0, none⟩) 1024 zc4 sg w15 (Row.of_own HST.out) (own_cap HST.out) (own_capMax HST.out)).mono ?_
    rintro e w16 ⟨rfl, k16⟩
    have HP16 := Lib.hid (Own.keepNew HST.out k16)
    have HK16 := Lib.hid (HKS.out.new k16)
    have h78 : (78 : Int) ≤ zc4 := by have := own_cap HST.out; omega
    clear k16 HST HKS
    go_wp2_with fail
    refine (crclaw_any _ (some ⟨g, 0, none⟩) 78 zc4 _ w16 (Bs.cutTo (Row.of_own HP16.out) (by decide)) (by decide)).mono ?_
    rintro e w' ⟨rfl, rfl⟩
    generalize crcSum (sg.take 78) = cs at *
    have hs78 : 78 < sg.length := by rw [HSL.out]; decide
    have hs79 : 79 < sg.length := by rw [HSL.out]; decide
    have hs80 : 80 < sg.length := by rw [HSL.out]; decide
    have hs81 : 81 < sg.length := by rw [HSL.out]; decide
    have cellAt : ∀ (W : World) (q : List UInt8) (k : Nat) (hk : k < q.length), OwnB W w11.heap.size 5 (some ⟨g, 0, none⟩) 1024 zc4 q → W.cell? ⟨g, k, none⟩ = some (.int .u8 (bv q[k])) ∧ W.frozen? ⟨g, k, none⟩ = false ∧ ∀ y : UInt8, OwnB (W.setCell ⟨g, k, none⟩ (.int .u8 (bv y))) w11.heap.size 5 (some ⟨g, 0, none⟩) 1024 zc4 (q.set k y) := by
      intro W q k hk ho
      refine ⟨?_, ho.frozenAt (g := g) k, fun y => ?_⟩
      · simpa [Addr.add_lit] using ho.cells (g := g) rfl k _ (by rw [List.getElem?_map, List.getElem?_eq_getElem hk]; rfl)
      · have h := (ho.stored k (.int .u8 (bv y))).1
        rw [show Value.int .u8 (bv y) = byteVal y from rfl, ← List.map_set] at h
        exact h
    obtain ⟨e1, f1, n1⟩ := cellAt w16 sg 78 hs78 HP16.out
    have n1 := n1 (lowb (cs >>> 24))
    obtain ⟨e2, f2, n2⟩ := cellAt _ _ 79 (by rw [List.length_set]; exact hs79) n1
    have n2 := n2 (lowb (cs >>> 16))
    obtain ⟨e3, f3, n3⟩ := cellAt _ _ 80 (by rw [List.length_set, List.length_set]; exact hs80) n2
    have n3 := n3 (lowb (cs >>> 8))
    obtain ⟨e4, f4, n4⟩ := cellAt _ _ 81 (by rw [List.length_set, List.length_set, List.length_set]; exact hs81) n3
    have n4 := n4 (lowb cs)
    have HN4 := Lib.hid n4
    have hge' : w.heap.size ≤ g := by omega
    have HK20 := Lib.hid ((((HK16.out.setCell (p := ⟨g, 78, none⟩) (fun _ => hge') (.int .u8 (bv (lowb (cs >>> 24))))).setCell (p := ⟨g, 79, none⟩) (fun _ => hge') (.int .u8 (bv (lowb (cs >>> 16))))).setCell (p := ⟨g, 80, none⟩) (fun _ => hge') (.int .u8 (bv (lowb (cs >>> 8))))).setCell (p := ⟨g, 81, none⟩) (fun _ => hge') (.int .u8 (bv (lowb cs))))
    clear n1 n2 n3 n4 cellAt HP16 HK16
    go_wp2_with fail
    clear e1 f1 e2 f2 e3 f3 e4 f4
    refine (readlaw_any _ (some ⟨g, 0, none⟩) 1024 zc4 _ _ (Row.of_own HN4.out) (own_cap HN4.out) (own_capMax HN4.out)).mono ?_
    rintro e w21 ⟨rfl, k21⟩
    go_wp2_with fail
    refine (known17_any _).mono ?_
    rintro e w22 ⟨rfl, k22⟩
    go_wp2_with fail
    go_ret
    exact ⟨rfl, (HK20.out.new k21).new k22⟩
end Go.Proofs.YtpbbfbgmpidgnaaGreatDoor
