/-
  PROVED HERE: what permafrostref16.Decode answers: what record.Decode does; conditions: fewer than 2^40 bytes.
-/
import Derived.Test.YtajnkbfcnmajoaaGreatDoorPkB25
namespace Go.Proofs.YtajnkbfcnmajoaaGreatDoor
open Go.RowKit
theorem keep_three (w : World) (g : Nat) (x y z : Value) : Keep (fun b => b ≠ g) w (((w.setCell ⟨g, 0, none⟩ x).setCell ⟨g, 1, none⟩ y).setCell ⟨g, 2, none⟩ z) :=
 (((Keep.refl _ w).setCell (p := ⟨g, 0, none⟩) (fun h => absurd rfl h) x).setCell (p := ⟨g, 1, none⟩) (fun h => absurd rfl h) y).setCell (p := ⟨g, 2, none⟩) (fun h => absurd rfl h) z
theorem recBad_eq (bs : List UInt8) : recBad bs = decide (((RdS.mk bs 0).num 1).2.why = 0 ∧ (((((RdS.mk bs 0).num 1).1 : Nat) : Int) ≠ 1 ∧ ((((RdS.mk bs 0).num 1).1 : Nat) : Int) ≠ 2)) := by
 cases bs with
 | nil =>
  have e : (RdS.mk [] 0).num 1 = (0, ⟨[], 10⟩) := by
   unfold RdS.num
   rw [RdS.raw_end _ _ rfl (by decide)]
   rfl
  rw [e]; simp [recBad]
 | cons b t =>
  have e : (RdS.mk (b :: t) 0).num 1 = (b.toNat, ⟨t, 0⟩) := by
   have := RdS.num_cut [b] t 1 rfl
   rwa [show beNat [b] = b.toNat from by simp [beNat]] at this
  rw [e]
  unfold recBad
  rw [decide_eq_decide]
  simp only [List.getD_cons_zero, List.length_cons]
  have h1 : b = 1 ↔ ((b.toNat : Nat) : Int) = 1 := by
   constructor
   ·intro h; rw [h]; rfl
   ·intro h; exact UInt8.toNat_inj.1 (by show b.toNat = 1; omega)
  have h2 : b = 2 ↔ ((b.toNat : Nat) : Int) = 2 := by
   constructor
   ·intro h; rw [h]; rfl
   ·intro h; exact UInt8.toNat_inj.1 (by show b.toNat = 2; omega)
  rw [ne_eq, ne_eq, h1, h2]
  constructor
  ·rintro ⟨-, h3, h4⟩; exact ⟨trivial, h3, h4⟩
  ·rintro ⟨-, h3, h4⟩; exact ⟨by omega, h3, h4⟩
theorem raw4_why (s : RdS) : ((s.raw 4).1.length < 4 ↔ (s.raw 4).2.why ≠ 0) ∧ ((s.raw 4).2.why = 0 → s.why = 0 ∧ s.bs.length = (s.raw 4).2.bs.length + 4) := by
 by_cases h0 : s.why = 0
 ·by_cases h1 : (s.bs.length : Int) < 4
  ·rw [s.raw_end 4 h0 h1]; simp
  ·rw [s.raw_some 4 h0 (by decide) (by omega)]
   refine ⟨?_, fun _ => ⟨h0, ?_⟩⟩
   ·simp only [List.length_take, ne_eq, not_true_eq_false, iff_false]
    show ¬ min 4 s.bs.length < 4
    omega
   ·show s.bs.length = (s.bs.drop 4).length + 4
    rw [List.length_drop]; omega
 ·rw [s.raw_none 4 (.inl h0)]
  exact ⟨by simpa using h0, fun h => absurd h h0⟩
set_option maxRecDepth 100000 in
set_option maxHeartbeats 2000000 in
theorem decode16_any (D : Nat → Prop) (A : Option Addr) (n c : Nat) (bs : List UInt8) (w : World) (hB : Bs w D A n bs) (hnc : n ≤ c) (hc9 : c ≤ 9223372036854775807) (hn : n ≤ 1099511627776) :
  Calls Tryz.prog 89 #[.slice A n c] w (RecRet (recDec bs) w) := by
 have hl := hB.len
 have hbe := recBad_eq bs
 have hC : Hid (recDec bs = if recBad bs = true then (noRec, 0, 12)
  else if ((((RdS.mk bs 0).num 1).2.num 8).2.lenRow.2.raw 4).1.length < 4 then (noRec, 0, 10)
  else if ((((RdS.mk bs 0).num 1).2.num 8).2.lenRow.2.raw 4).1 ≠ be4 (crcSum (bs.take (bs.length - (((RdS.mk bs 0).num 1).2.num 8).2.lenRow.2.left))) then (noRec, 0, 14)
  else if recRight ⟨((RdS.mk bs 0).num 1).1, (((RdS.mk bs 0).num 1).2.num 8).1, (((RdS.mk bs 0).num 1).2.num 8).2.lenRow.1⟩ = false then (noRec, 0, 12)
  else (⟨((RdS.mk bs 0).num 1).1, (((RdS.mk bs 0).num 1).2.num 8).1, (((RdS.mk bs 0).num 1).2.num 8).2.lenRow.1⟩, bs.length - (((RdS.mk bs 0).num 1).2.num 8).2.lenRow.2.left + 4, 0)) := Lib.hid rfl
 have k1 := num_le (RdS.mk bs 0) 1
 have k2 := num_le ((RdS.mk bs 0).num 1).2 8
 have k3 := lenRow_le (((RdS.mk bs 0).num 1).2.num 8).2
 have r1 := num_lt (RdS.mk bs 0) 1
 have r2 := num_lt ((RdS.mk bs 0).num 1).2 8
 have G1 := Lib.hid (fun p w' h => r4byte_any p bs (RdS.mk bs 0) w' h)
 have hs0 : (RdS.mk bs 0).bs.length = n := hl
 rw [hs0] at k1
 generalize ((RdS.mk bs 0).num 1).1 = ki at *
 generalize ((RdS.mk bs 0).num 1).2 = s1 at *
 have G2 := Lib.hid (fun p w' h => r4long_any p bs s1 w' h)
 generalize (s1.num 8).1 = se at *
 generalize (s1.num 8).2 = s2 at *
 have G3 := Lib.hid (fun p w' h => r4bytes_any p bs s2 w' h)
 generalize s2.lenRow.1 = body at *
 generalize s2.lenRow.2 = s3 at *
 have hy := raw4_why s3
 have hlf : s3.left = if s3.why ≠ 0 then 0 else s3.bs.length := rfl
 have G5 := Lib.hid (fun p w' h => r4raw_any p bs s3 4 w' h (by decide) (by decide))
 generalize (s3.raw 4).1 = want at *
 generalize (s3.raw 4).2 = s4 at *
 have hbl : body.length ≤ 1099511627776 := by omega
 have hse : se < 18446744073709551616 := r2
 have hki : ki < 256 := r1
 have hr3 : s3.bs.length ≤ n := by omega
 have HY := Lib.hid hy
 have HLF := Lib.hid hlf
 have HBE := Lib.hid hbe
 rw [hl] at hC
 have HB := Lib.hid hB
 have HLN := Lib.hid hl
 clear k1 k2 k3 r1 r2 hy hlf hbe hs0 hB
 have hO0 := heap_alloc_new w (.cells #[.int .i64 0, .int .u64 0, .slice none 0 0] 70)
 have hK0 : New w (w.alloc (.cells #[.int .i64 0, .int .u64 0, .slice none 0 0] 70)) := (New.refl w).alloc _
 have hR1 := Rd4.made (HB.out.new hK0) hnc hc9 hn
 have hK1 := hK0.alloc (.cells #[.slice A n c, .int .i64 0, .int .i64 0] 135)
 have HO1 := Lib.hid (((New.refl _).alloc (.cells #[.slice A n c, .int .i64 0, .int .i64 0] 135)).blockAt hO0 trivial)
 have hps : (w.alloc (.cells #[.int .i64 0, .int .u64 0, .slice none 0 0] 70)).heap.size = w.heap.size + 1 := by simp
 rw [hps] at hR1
 clear hps hO0 hK0
 go_enter Tryz.func89, Tryz.ntmps89
 go_wp2_with fail
 generalize (w.alloc _).alloc _ = w1 at *
 refine (G1.out (w.heap.size + 1) w1 hR1).mono ?_
 rintro e w2 ⟨rfl, hR2, hK2⟩
 have HO2 := Lib.hid (hK2.blockAt HO1.out (by omega))
 have hK02 : New w w2 := (Keep.trans2 (D := fun b => b < w.heap.size) (Keep.of_new hK1) hK2 (fun i hi _ => by omega)).toNew (fun i hi => hi)
 have hN3 : New w2 (w2.alloc (.cells #[.int .i64 (ki : Int), .int .u64 0, .slice none 0 0] 70)) := (New.refl w2).alloc _
 have HX3 := Lib.hid (heap_alloc_new w2 (.cells #[.int .i64 (ki : Int), .int .u64 0, .slice none 0 0] 70))
 have hR3 := hR2.keep hN3
 have hpx : w.heap.size + 1 < w2.heap.size := hR2.lt
 have HO3 := Lib.hid (hN3.blockAt HO2.out trivial)
 have hK03 := hK02.new hN3
 have e0 := hR3.why
 have x0' := cellOf HX3.out (k := 0) rfl
 clear hR1 hK2 hR2 HO2 hK1 HO1 G1 hN3
 by_cases hbad : recBad bs = true
 ·have hb := HBE.out.symm.trans hbad
  rw [decide_eq_true_eq] at hb
  rw [hb.1] at e0
  have e1 : ((ki : Int) != 1) = true := by simpa using hb.2.1
  have e2 : ((ki : Int) != 2) = true := by simpa using hb.2.2
  have HBB := Lib.hid hbad
  clear hb hbad
  have d0 : (w2.alloc (.cells #[.int .i64 (ki : Int), .int .u64 0, .slice none 0 0] 70)).cell? ⟨w.heap.size, 0, none⟩ = some (.int .i64 0) := cellOf HO3.out rfl
  have d1 : (w2.alloc (.cells #[.int .i64 (ki : Int), .int .u64 0, .slice none 0 0] 70)).cell? ⟨w.heap.size, 1, none⟩ = some (.int .u64 0) := cellOf HO3.out rfl
  have d2 : (w2.alloc (.cells #[.int .i64 (ki : Int), .int .u64 0, .slice none 0 0] 70)).cell? ⟨w.heap.size, 2, none⟩ = some (.slice none 0 0) := cellOf HO3.out rfl
  obtain ⟨z0, z1, z2⟩ := fz3 HO3.out
  go_wp2_with fail
  clear d0 d1 d2 z0 z1 z2
  have hE := set_three HO3.out (.int .i64 0) (.int .u64 0) (.slice none 0 0)
  have hKE := new_three hK03 (g := w.heap.size) (Nat.le_refl _) (.int .i64 0) (.int .u64 0) (.slice none 0 0)
  generalize World.setCell _ _ _ = wE at *
  have f0 : wE.cell? ⟨w.heap.size, 0, none⟩ = some (.int .i64 0) := cellOf hE rfl
  have f1 : wE.cell? ⟨w.heap.size, 1, none⟩ = some (.int .u64 0) := cellOf hE rfl
  have f2 : wE.cell? ⟨w.heap.size, 2, none⟩ = some (.slice none 0 0) := cellOf hE rfl
  refine bodyPost_ret (v := .tuple #[.agg #[.int .i64 0, .int .u64 0, .slice none 0 0], .int .i64 0, .int .i64 12]) (by simp [results, Tryz.results89, go_sem, f0, f1, f2]) rfl ?_
  rw [show recDec bs = (noRec, 0, 12) from by rw [hC.out, if_pos HBB.out]]
  exact ⟨⟨none, 0, rfl, Own.nil _ _ _ _⟩, hKE⟩
 ·have hb : ¬ (s1.why = 0 ∧ ((ki : Int) ≠ 1 ∧ (ki : Int) ≠ 2)) := by
   intro h; exact hbad (HBE.out.trans (decide_eq_true h))
  rw [if_neg hbad] at hC
  have hcase : ((s1.why == 0) = false) ∨ ((s1.why == 0) = true ∧ ((ki : Int) != 1) = false) ∨ ((s1.why == 0) = true ∧ ((ki : Int) != 1) = true ∧ ((ki : Int) != 2) = false) := by
   by_cases h0 : s1.why = 0
   ·by_cases h1 : (ki : Int) = 1
    ·exact .inr (.inl ⟨by simpa using h0, by simpa using h1⟩)
    ·have h2 : (ki : Int) = 2 := Decidable.byContradiction fun h2 => hb ⟨h0, h1, h2⟩
     exact .inr (.inr ⟨by simpa using h0, by simpa using h1, by simpa using h2⟩)
   ·exact .inl (by simpa using h0)
  clear hb hbad HBE
  rcases hcase with h0 | ⟨h0, h1⟩ | ⟨h0, h1, h2⟩
  all_goals
   go_wp2_with fail
   generalize w2.alloc _ = w3 at *
   generalize w2.heap.size = gx at *
   clear e0 x0'
   refine (G2.out (w.heap.size + 1) w3 hR3).mono ?_
   rintro e w4 ⟨rfl, hR4, hK4⟩
   have HO4 := Lib.hid (hK4.blockAt HO3.out (by omega))
   have hX4 := hK4.blockAt HX3.out (by omega)
   have hK04 : New w w4 := (Keep.trans2 (D := fun b => b < w.heap.size) (Keep.of_new hK03) hK4 (fun i hi _ => by omega)).toNew (fun i hi => hi)
   have a1 := cellOf hX4 (k := 1) rfl
   have z1 := frozenOf hX4 1
   have HX4 := Lib.hid (setCell_block hX4 1 (.int .u64 (se : Int)))
   have hKs : Keep (fun b => b ≠ gx) w4 (w4.setCell ⟨gx, 1, none⟩ (.int .u64 (se : Int))) := (Keep.refl _ w4).setCell (p := ⟨gx, 1, none⟩) (fun h => absurd rfl h) _
   have hR4' := hR4.keepE hKs (fun b hb => by omega)
   have HO4' := Lib.hid (hKs.blockAt HO4.out (by omega))
   have hK04' : New w (w4.setCell ⟨gx, 1, none⟩ (.int .u64 (se : Int))) := hK04.setCell (p := ⟨gx, 1, none⟩) (fun _ => by show w.heap.size ≤ gx; omega) _
   clear hR3 hK4 hR4 HO4 hX4 hK04 hKs HX3 HO3 hK03
   go_wp2_with fail
   clear a1 z1
   generalize w4.setCell _ _ = w4' at *
   refine (G3.out (w.heap.size + 1) w4' hR4').mono ?_
   rintro e w5 ⟨⟨A5, c5, rfl, o5⟩, hR5, hK5⟩
   have HO5 := Lib.hid (hK5.blockAt HO4'.out (by omega))
   have hX5 := hK5.blockAt HX4.out (by omega)
   have hK05 : New w w5 := (Keep.trans2 (D := fun b => b < w.heap.size) (Keep.of_new hK04') hK5 (fun i hi _ => by omega)).toNew (fun i hi => hi)
   have hgx4 : gx < w4'.heap.size := (Array.getElem?_eq_some_iff.1 HX4.out).1
   have hcb5 := own_cap o5
   have o5' := own_base (base := w.heap.size + 1) (own_keep o5 ((Keep.refl (fun b => b ≠ gx) w5).setCell (p := ⟨gx, 2, none⟩) (fun h => absurd rfl h) (.slice A5 body.length c5)) (fun k hk e => by have := (own_lt o5 k hk).1; omega)) (by omega)
   have a2 := cellOf hX5 (k := 2) rfl
   have z2 := frozenOf hX5 2
   have HX5 := Lib.hid (setCell_block hX5 2 (.slice A5 body.length c5))
   have hKs : Keep (fun b => b ≠ gx) w5 (w5.setCell ⟨gx, 2, none⟩ (.slice A5 body.length c5)) := (Keep.refl _ w5).setCell (p := ⟨gx, 2, none⟩) (fun h => absurd rfl h) _
   have hR5' := hR5.keepE hKs (fun b hb => by omega)
   have HO5' := Lib.hid (hKs.blockAt HO5.out (by omega))
   have hK05' : New w (w5.setCell ⟨gx, 2, none⟩ (.slice A5 body.length c5)) := hK05.setCell (p := ⟨gx, 2, none⟩) (fun _ => by show w.heap.size ≤ gx; omega) _
   have hA5 : ∀ k, blk A5 = some k → w.heap.size + 1 < k := fun k hk => by have := (own_lt o5 k hk).1; omega
   have b1 := hR5.at_
   have b1' := hKs.cell_some b1 (by show w.heap.size + 1 ≠ gx; omega)
   rw [HLN.out] at b1 b1'
   clear hR4' hK5 hR5 HO5 hX5 hK05 hKs HX4 HO4' hK04' o5 hgx4
   go_wp2_with fail
   clear a2 z2 b1 b1'
   generalize w5.setCell _ _ = w5' at *
   refine (G5.out (w.heap.size + 1) w5' hR5').mono ?_
   rintro e w6 ⟨⟨A6, c6, rfl, o6⟩, hR6, hK6⟩
   have HO6 := Lib.hid (hK6.blockAt HO5'.out (by omega))
   have HX6 := Lib.hid (hK6.blockAt HX5.out (by omega))
   have hK06 : New w w6 := (Keep.trans2 (D := fun b => b < w.heap.size) (Keep.of_new hK05') hK6 (fun i hi _ => by omega)).toNew (fun i hi => hi)
   have o56 := own_keep o5' hK6 (fun k hk e => by have := hA5 k hk; omega)
   have b2 := hR6.why
   have b3 := hR6.at_
   rw [HLN.out] at b3
   have B3 := Lib.hid b3
   clear hR5' hK6 HO5' HX5 hK05' o5' hR6 b3 G2 G3 G5
   by_cases h4 : s4.why = 0
   ·rw [h4] at b2
    obtain ⟨y1, y2⟩ := HY.out.2 h4
    have hlf : s3.left = s3.bs.length := by rw [HLF.out, if_neg (by simpa using y1)]
    rw [hlf, if_neg (fun h => HY.out.1.1 h h4)] at hC
    have hw4 : n - s4.bs.length = n - s3.bs.length + 4 := by omega
    rw [hw4] at B3
    clear hlf y1 y2 hw4 h4 HLF HY
    generalize s3.bs.length = r3 at *
    go_wp2_with fail
    clear b2
    have x0 : ∀ W, New w6 W → (convert 25 9 (.slice A6 want.length c6)).run Tryz.prog W = .ok (.string (strOf want)) W := fun W h => run_str (Row.of_own (Own.keepNew o6 h))
    have HSUM : Hid (∀ W, New w6 W → Calls Tryz.prog 85 #[.slice A (n - r3) c] W fun e w' => e = .returned (.int .u32 (wv (crcSum (bs.take (n - r3))))) ∧ New W w') :=
     Lib.hid fun W h => (sum3_any D A (n - r3) c _ W ((Bs.cutTo (HB.out.new (hK06.new h)) (by omega))) (by omega)).mono fun e w' ⟨h1, h2⟩ => ⟨h1, h2 ▸ New.refl _⟩
    have i1 : (0 : Int) ≤ ((n - r3 : Nat) : Int) := by omega
    have i2 : ((n - r3 : Nat) : Int) ≤ c := by omega
    generalize crcSum (bs.take (n - r3)) = cx at *
    have HV9 : Hid (∀ W b A9 c9, OwnB W b 5 A9 ([] ++ be4 cx).length c9 ([] ++ be4 cx) → ∀ W', New W W' → (convert 25 9 (.slice A9 (be4 cx).length c9)).run Tryz.prog W' = .ok (.string (strOf (be4 cx))) W') :=
     Lib.hid fun W b A9 c9 ho W' h => run_str (Row.of_own (Own.keepNew ho h))
    by_cases h14 : want = be4 cx
    ·have hne : (want == be4 cx) = true := by simpa using h14
     have H14 := Lib.hid h14
     clear h14
     refine hold_begin (by kernel_rfl) ?_
     have n0 : New w6 w6.drew := (New.refl w6).drew
     replace x0 := fun W (hW : New w6.drew W) => x0 W (Keep.new n0 hW)
     refine take1 0 ?_
     refine take1 1 ?_
     refine take1 2 ?_
     refine take1 3 ?_
     refine take1 4 ?_
     refine hold_step (i := 5) (by kernel_rfl) rfl rfl (fun K hK => ?_)
     go_simp
     refine (HSUM.out _ n0).mono ?_
     rintro e w8 ⟨rfl, k8⟩
     go_wp2_with fail
     refine hK.out _ _ k8 ?_
     clear hK K
     try simp only [Act.put, ly1, ly2, ly3, ly4, ly5, ly6]
     replace n0 := Keep.new n0 k8
     replace x0 := fun W (hW : New w8 W) => x0 W (Keep.new k8 hW)
     refine hold_step (i := 6) (by kernel_rfl) rfl rfl (fun K hK => ?_)
     go_simp
     refine (sum4_any (fun _ => True) none 0 0 [] _ _ (Row.nil _ _ _ _) (by decide)).mono ?_
     rintro e w9 ⟨⟨A9, c9, rfl, o9⟩, k9⟩; have v9 := HV9.out w9 _ A9 c9 o9
     go_wp2_with fail
     refine hK.out _ _ k9 ?_
     clear hK K
     try simp only [Act.put, ly1, ly2, ly3, ly4, ly5, ly6]
     replace n0 := Keep.new n0 k9
     replace x0 := fun W (hW : New w9 W) => x0 W (Keep.new k9 hW)
     refine take1 7 ?_
     refine take1 8 ?_
     refine wpAnyH_done (by kernel_rfl) ?_ _
     have HO9 := Lib.hid (n0.blockAt HO6.out trivial)
     have HX9 := Lib.hid (n0.blockAt HX6.out trivial)
     have o59 := Own.keepNew o56 n0
     have hK09 := hK06.new n0
     have B9 := Lib.hid (n0.cell_some B3.out trivial)
     clear hne x0 HSUM k8 k9 v9 o6 o9 o56 hK06 n0 HV9
     have e0 : w9.cell? ⟨gx, 0, none⟩ = some (.int .i64 (ki : Int)) := cellOf HX9.out rfl
     have e1 : w9.cell? ⟨gx, 1, none⟩ = some (.int .u64 (se : Int)) := cellOf HX9.out rfl
     have e2 : w9.cell? ⟨gx, 2, none⟩ = some (.slice A5 body.length c5) := cellOf HX9.out rfl
     have HRI := Lib.hid (fun w' => right16_any ki se A5 body.length c5 ⟨ki, se, body⟩ w' rfl rfl rfl (by omega))
     go_wp2_with fail
     clear e0 e1 e2
     refine (HRI.out _).mono ?_
     rintro e w10 ⟨rfl, hK10⟩
     have HO10 := Lib.hid (hK10.blockAt HO9.out trivial)
     have HX10 := Lib.hid (hK10.blockAt HX9.out trivial)
     have o510 := Own.keepNew o59 hK10
     have hK010 := hK09.new hK10
     have B10 := hK10.cell_some B9.out trivial
     clear hK10 o59 hK09 HO9 HX9 B9
     by_cases hr : recRight ⟨ki, se, body⟩ = true
     ·have HRR := Lib.hid hr
      rw [hr]
      clear hr
      have e0 : w10.cell? ⟨gx, 0, none⟩ = some (.int .i64 (ki : Int)) := cellOf HX10.out rfl
      have e1 : w10.cell? ⟨gx, 1, none⟩ = some (.int .u64 (se : Int)) := cellOf HX10.out rfl
      have e2 : w10.cell? ⟨gx, 2, none⟩ = some (.slice A5 body.length c5) := cellOf HX10.out rfl
      go_wp2_with fail
      refine hold_beginS (Keep (fun b => b ≠ w.heap.size) w10.drew) (by kernel_rfl) ?_
      have n0 : Keep (fun b => b ≠ w.heap.size) w10.drew w10.drew := Keep.refl _ _
      have q0 : ∀ W, Keep (fun b => b ≠ w.heap.size) w10.drew W → W.cell? ⟨gx, 0, none⟩ = some (.int .i64 (ki : Int)) := fun W h => h.cell_some (a := w10.drew) (show w10.cell? _ = _ from e0) (by show gx ≠ w.heap.size; omega)
      have q1 : ∀ W, Keep (fun b => b ≠ w.heap.size) w10.drew W → W.cell? ⟨gx, 1, none⟩ = some (.int .u64 (se : Int)) := fun W h => h.cell_some (a := w10.drew) (show w10.cell? _ = _ from e1) (by show gx ≠ w.heap.size; omega)
      have q2 : ∀ W, Keep (fun b => b ≠ w.heap.size) w10.drew W → W.cell? ⟨gx, 2, none⟩ = some (.slice A5 body.length c5) := fun W h => h.cell_some (a := w10.drew) (show w10.cell? _ = _ from e2) (by show gx ≠ w.heap.size; omega)
      have q3 : ∀ W, Keep (fun b => b ≠ w.heap.size) w10.drew W → W.cell? ⟨w.heap.size + 1, 1, none⟩ = some (.int .i64 ((n - r3 + 4 : Nat) : Int)) := fun W h => h.cell_some (a := w10.drew) (show w10.cell? _ = _ from B10) (by show w.heap.size + 1 ≠ w.heap.size; omega)
      refine take0 0 n0 ?_
      refine take0 1 n0 ?_
      refine take0 2 n0 ?_
      refine take0 3 n0 ?_
      refine take0 4 n0 ?_
      have d0 : w10.cell? ⟨w.heap.size, 0, none⟩ = some (.int .i64 0) := cellOf HO10.out rfl
      have d1 : w10.cell? ⟨w.heap.size, 1, none⟩ = some (.int .u64 0) := cellOf HO10.out rfl
      have d2 : w10.cell? ⟨w.heap.size, 2, none⟩ = some (.slice none 0 0) := cellOf HO10.out rfl
      obtain ⟨z0, z1, z2⟩ := fz3 HO10.out
      refine hold_step0 (i := 5) (by kernel_rfl) rfl rfl (fun K hK => ?_)
      go_simp
      have n1 := Keep.fromDrew (keep_three w10 w.heap.size (.int .i64 (ki : Int)) (.int .u64 (se : Int)) (.slice A5 body.length c5)).drew
      refine hK.out _ _ n1 ?_
      clear hK K n0
      try simp only [Act.put, ly1, ly2, ly3, ly4, ly5, ly6]
      have n0 := n1
      clear n1
      refine take0 6 n0 ?_
      refine take0 7 n0 ?_
      refine wpAnyH_done (by kernel_rfl) ?_ _
      have hE := set_three HO10.out (.int .i64 (ki : Int)) (.int .u64 (se : Int)) (.slice A5 body.length c5)
      have hKE := new_three hK010 (g := w.heap.size) (Nat.le_refl _) (.int .i64 (ki : Int)) (.int .u64 (se : Int)) (.slice A5 body.length c5)
      have hKS := keep_three w10 w.heap.size (.int .i64 (ki : Int)) (.int .u64 (se : Int)) (.slice A5 body.length c5)
      clear d0 d1 d2 z0 z1 z2 q0 q1 q2 q3 e0 e1 e2 n0
      generalize World.setCell _ _ _ = wE at *
      have f0 : wE.drew.cell? ⟨w.heap.size, 0, none⟩ = some (.int .i64 (ki : Int)) := cellOf hE rfl
      have f1 : wE.drew.cell? ⟨w.heap.size, 1, none⟩ = some (.int .u64 (se : Int)) := cellOf hE rfl
      have f2 : wE.drew.cell? ⟨w.heap.size, 2, none⟩ = some (.slice A5 body.length c5) := cellOf hE rfl
      go_wp2_with fail
      refine bodyPost_ret (v := .tuple #[.agg #[.int .i64 (ki : Int), .int .u64 (se : Int), .slice A5 body.length c5], .int .i64 ((n - r3 : Nat) + 4 : Int), .int .i64 0]) (by simp [results, Tryz.results89, go_sem, f0, f1, f2]) rfl ?_
      rw [hC.out, if_neg (fun h => h H14.out), if_neg (by rw [HRR.out]; decide)]
      have u5 := own_keep o510 hKS (fun k hk e => by have := (own_lt o510 k hk).1; omega)
      exact ⟨⟨A5, c5, by simp, own_base u5 (Nat.le_succ _)⟩, hKE.drew⟩
     ·have hr' : recRight ⟨ki, se, body⟩ = false := by simpa using hr
      have HRR := Lib.hid hr'
      rw [hr']
      clear hr hr'
      have d0 : w10.cell? ⟨w.heap.size, 0, none⟩ = some (.int .i64 0) := cellOf HO10.out rfl
      have d1 : w10.cell? ⟨w.heap.size, 1, none⟩ = some (.int .u64 0) := cellOf HO10.out rfl
      have d2 : w10.cell? ⟨w.heap.size, 2, none⟩ = some (.slice none 0 0) := cellOf HO10.out rfl
      obtain ⟨z0, z1, z2⟩ := fz3 HO10.out
      go_wp2_with fail
      clear d0 d1 d2 z0 z1 z2
      have hE := set_three HO10.out (.int .i64 0) (.int .u64 0) (.slice none 0 0)
      have hKE := new_three hK010 (g := w.heap.size) (Nat.le_refl _) (.int .i64 0) (.int .u64 0) (.slice none 0 0)
      generalize World.setCell _ _ _ = wE at *
      have f0 : wE.cell? ⟨w.heap.size, 0, none⟩ = some (.int .i64 0) := cellOf hE rfl
      have f1 : wE.cell? ⟨w.heap.size, 1, none⟩ = some (.int .u64 0) := cellOf hE rfl
      have f2 : wE.cell? ⟨w.heap.size, 2, none⟩ = some (.slice none 0 0) := cellOf hE rfl
      refine bodyPost_ret (v := .tuple #[.agg #[.int .i64 0, .int .u64 0, .slice none 0 0], .int .i64 0, .int .i64 12]) (by simp [results, Tryz.results89, go_sem, f0, f1, f2]) rfl ?_
      rw [show recDec bs = (noRec, 0, 12) from by rw [hC.out, if_neg (fun h => h H14.out), if_pos HRR.out]]
      exact ⟨⟨none, 0, rfl, Own.nil _ _ _ _⟩, hKE⟩
    ·have hne : (want == be4 cx) = false := by simpa using h14
     have H14 := Lib.hid h14
     clear h14
     refine hold_begin (by kernel_rfl) ?_
     have n0 : New w6 w6.drew := (New.refl w6).drew
     replace x0 := fun W (hW : New w6.drew W) => x0 W (Keep.new n0 hW)
     refine take1 0 ?_
     refine take1 1 ?_
     refine take1 2 ?_
     refine take1 3 ?_
     refine take1 4 ?_
     refine hold_step (i := 5) (by kernel_rfl) rfl rfl (fun K hK => ?_)
     go_simp
     refine (HSUM.out _ n0).mono ?_
     rintro e w8 ⟨rfl, k8⟩
     go_wp2_with fail
     refine hK.out _ _ k8 ?_
     clear hK K
     try simp only [Act.put, ly1, ly2, ly3, ly4, ly5, ly6]
     replace n0 := Keep.new n0 k8
     replace x0 := fun W (hW : New w8 W) => x0 W (Keep.new k8 hW)
     refine hold_step (i := 6) (by kernel_rfl) rfl rfl (fun K hK => ?_)
     go_simp
     refine (sum4_any (fun _ => True) none 0 0 [] _ _ (Row.nil _ _ _ _) (by decide)).mono ?_
     rintro e w9 ⟨⟨A9, c9, rfl, o9⟩, k9⟩; have v9 := HV9.out w9 _ A9 c9 o9
     go_wp2_with fail
     refine hK.out _ _ k9 ?_
     clear hK K
     try simp only [Act.put, ly1, ly2, ly3, ly4, ly5, ly6]
     replace n0 := Keep.new n0 k9
     replace x0 := fun W (hW : New w9 W) => x0 W (Keep.new k9 hW)
     refine take1 7 ?_
     refine take1 8 ?_
     refine wpAnyH_done (by kernel_rfl) ?_ _
     have HO9 := Lib.hid (n0.blockAt HO6.out trivial)
     have hK09 := hK06.new n0
     clear hne x0 HSUM k8 k9 v9 n0 HV9
     have d0 : w9.cell? ⟨w.heap.size, 0, none⟩ = some (.int .i64 0) := cellOf HO9.out rfl
     have d1 : w9.cell? ⟨w.heap.size, 1, none⟩ = some (.int .u64 0) := cellOf HO9.out rfl
     have d2 : w9.cell? ⟨w.heap.size, 2, none⟩ = some (.slice none 0 0) := cellOf HO9.out rfl
     obtain ⟨z0, z1, z2⟩ := fz3 HO9.out
     go_wp2_with fail
     clear d0 d1 d2 z0 z1 z2
     have hE := set_three HO9.out (.int .i64 0) (.int .u64 0) (.slice none 0 0)
     have hKE := new_three hK09 (g := w.heap.size) (Nat.le_refl _) (.int .i64 0) (.int .u64 0) (.slice none 0 0)
     generalize World.setCell _ _ _ = wE at *
     have f0 : wE.cell? ⟨w.heap.size, 0, none⟩ = some (.int .i64 0) := cellOf hE rfl
     have f1 : wE.cell? ⟨w.heap.size, 1, none⟩ = some (.int .u64 0) := cellOf hE rfl
     have f2 : wE.cell? ⟨w.heap.size, 2, none⟩ = some (.slice none 0 0) := cellOf hE rfl
     refine bodyPost_ret (v := .tuple #[.agg #[.int .i64 0, .int .u64 0, .slice none 0 0], .int .i64 0, .int .i64 14]) (by simp [results, Tryz.results89, go_sem, f0, f1, f2]) rfl ?_
     rw [show recDec bs = (noRec, 0, 14) from by rw [hC.out, if_pos H14.out]]
     exact ⟨⟨none, 0, rfl, Own.nil _ _ _ _⟩, hKE⟩
   ·have h4' : (s4.why != 0) = true := by simpa using h4
    have H4 := Lib.hid (HY.out.1.2 h4)
    have d0 : w6.cell? ⟨w.heap.size, 0, none⟩ = some (.int .i64 0) := cellOf HO6.out rfl
    have d1 : w6.cell? ⟨w.heap.size, 1, none⟩ = some (.int .u64 0) := cellOf HO6.out rfl
    have d2 : w6.cell? ⟨w.heap.size, 2, none⟩ = some (.slice none 0 0) := cellOf HO6.out rfl
    obtain ⟨z0, z1, z2⟩ := fz3 HO6.out
    go_wp2_with fail
    clear d0 d1 d2 z0 z1 z2
    have hE := set_three HO6.out (.int .i64 0) (.int .u64 0) (.slice none 0 0)
    have hKE := new_three hK06 (g := w.heap.size) (Nat.le_refl _) (.int .i64 0) (.int .u64 0) (.slice none 0 0)
    generalize World.setCell _ _ _ = wE at *
    have f0 : wE.cell? ⟨w.heap.size, 0, none⟩ = some (.int .i64 0) := cellOf hE rfl
    have f1 : wE.cell? ⟨w.heap.size, 1, none⟩ = some (.int .u64 0) := cellOf hE rfl
    have f2 : wE.cell? ⟨w.heap.size, 2, none⟩ = some (.slice none 0 0) := cellOf hE rfl
    refine bodyPost_ret (v := .tuple #[.agg #[.int .i64 0, .int .u64 0, .slice none 0 0], .int .i64 0, .int .i64 10]) (by simp [results, Tryz.results89, go_sem, f0, f1, f2]) rfl ?_
    rw [show recDec bs = (noRec, 0, 10) from by rw [hC.out, if_pos H4.out]]
    exact ⟨⟨none, 0, rfl, Own.nil _ _ _ _⟩, hKE⟩
end Go.Proofs.YtajnkbfcnmajoaaGreatDoor
