/-
  PROVED HERE: LogSurvivesCardSaid: for every input the law LogSurvives returns true, and each argument reads afterwards as before; the tables that the row lists are tied to the program's text. No condition.
-/
import Derived.Test.YtajnkbfcnmajoaaGreatDoorPkB24
import Derived.Test.YtajnkbfcnmajoaaGreatDoorPkS01
namespace Go.Proofs.YtajnkbfcnmajoaaGreatDoor.logSurvives
open Go.ChangeShapes Go.WideShapes Go.ChangeAt Go.RowKit Go.Joins Go.Deep
set_option maxRecDepth 100000 in
theorem contract (H : Type) (enc : TypeId × Value → H) (W : World) (base : Nat) (args : Array Value) (ds gs : List (DataW H)) (before : List MemPlace)
  (hval : ∀ (j : Nat) t v, Tryz.f8.params[j]? = some t → args[j]? = some v → Value.okWide Tryz.prog W .any base t v)
  (tz : List TypeId) (hz : (DataW.weightsEach Tryz.prog (Tryz.f8.params.toList ++ tz) (ds ++ gs)).all (· ≤ reachBytes) = true)
  (hW : DataW.Whole enc Tryz.prog Tryz.f8.params.toList Rows.logSurvivesSpec.vars false W args.toList ds gs before) :
  Calls Tryz.prog 8 args W fun e W' => ∃ v, e = .returned v ∧ Rows.logSurvivesSpec.post enc Tryz.prog Tryz.f8 false true false false W args v W' := by
 have hW' := hW
 obtain ⟨p, q, hA0, hV, rfl, hfz, hnd⟩ := hW
 have hA : DataW.TrodAll enc Tryz.prog W 0 (fun _ => true) true Tryz.f8.params.toList args.toList ds p := hA0
 rw [Tryz.params8] at hA hval
 obtain ⟨v0, vs0, d0, ds0, p0, q0, hargs, rfl, rfl, h0, r0⟩ := trodAll_cons hA
 obtain ⟨v1, vs1, d1, ds1, p1, q1, rfl, rfl, rfl, h1, r1⟩ := trodAll_cons r0
 obtain ⟨v2, vs2, d2, ds2, p2, q2, rfl, rfl, rfl, h2, r2⟩ := trodAll_cons r1
 obtain ⟨v3, vs3, d3, ds3, p3, q3, rfl, rfl, rfl, h3, r3⟩ := trodAll_cons r2
 obtain ⟨v4, vs4, d4, ds4, p4, q4, rfl, rfl, rfl, h4, r4⟩ := trodAll_cons r3
 obtain ⟨rfl, rfl, rfl⟩ := trodAll_nil r4
 obtain rfl : args = #[v0, v1, v2, v3, v4] := by cases args; simp_all
 obtain ⟨rfl, rfl⟩ := trodVars_none hV
 have hsm : ∀ (j : Nat) d t, (Tryz.f8.params.toList ++ tz)[j]? = some t → ([d0, d1, d2, d3, d4] ++ [] : List (DataW H))[j]? = some d → ∀ k ∈ d.weights Tryz.prog t, k ≤ reachBytes := fun j d t ht hd k hk => by
  simpa using List.all_eq_true.1 hz k (DataW.weights_mem_each ht hd k hk)
 obtain ⟨a0, l0, c0, rfl⟩ := okWide_slice Tryz.underlying54 (hval 0 _ v0 rfl rfl)
 obtain ⟨fu0, hf0⟩ := h0
 obtain ⟨B0, n0, k0, x0, hv0, hn0, hm0, hB0⟩ := read_asks hf0
 obtain ⟨a1, l1, c1, rfl⟩ := okWide_slice Tryz.underlying54 (hval 1 _ v1 rfl rfl)
 obtain ⟨fu1, hf1⟩ := h1
 obtain ⟨B1, n1, k1, x1, hv1, hn1, hm1, hB1⟩ := read_asks hf1
 obtain ⟨a2, l2, c2, rfl⟩ := okWide_slice Tryz.underlying61 (hval 2 _ v2 rfl rfl)
 obtain ⟨fu2, hf2⟩ := h2
 obtain ⟨B2, n2, k2, x2, hv2, hn2, hm2, hB2⟩ := read_bools hf2
 obtain ⟨z3, rfl, hz3⟩ := open_int Tryz.underlying3 (hval 3 _ v3 rfl rfl) h3
 have b3 : -9223372036854775808 ≤ z3 ∧ z3 ≤ 9223372036854775807 := by simpa [Lit.wf, IntKind.min, IntKind.max, IntKind.signed, IntKind.bits] using hz3.2.2
 obtain ⟨z4, rfl, hz4⟩ := open_int Tryz.underlying3 (hval 4 _ v4 rfl rfl) h4
 have b4 : -9223372036854775808 ≤ z4 ∧ z4 ≤ 9223372036854775807 := by simpa [Lit.wf, IntKind.min, IntKind.max, IntKind.signed, IntKind.bits] using hz4.2.2
 rw [hv0] at hW' ⊢
 rw [hv1] at hW' ⊢
 rw [hv2] at hW' ⊢
 unfold maxLen at hm0 hm1 hm2
 refine (survives21_any B0 B1 B2 n0 k0 n1 k1 n2 k2 x0 x1 x2 z3 z4 W hB0 hB1 hB2 b3 b4 (asks_small (hv1 ▸ hf1) hB1 (hsm 1 d1 _ (by rw [Tryz.params8]; rfl) rfl)) (by omega)).mono fun e W' ⟨he, hN⟩ => ?_
 subst he
 exact ⟨_, rfl, law_post laid_out (by kernel_rfl) rfl (by kernel_rfl) Tryz.underlying4 hW' rfl rfl rfl hN⟩
def args0 : Array Value := #[.slice none 0 0, .slice none 0 0, .slice none 0 0, .int .i64 0, .int .i64 0]
theorem laid_met (os : Os) : laidMet Tryz.prog Rows.logSurvivesRow.laid ((laidWorld os).forCall (fun _ _ => 0) ⟨#[], args0, []⟩).memory :=
 laidMet_of_run' 8 (by kernel_rfl) (by kernel_rfl)
theorem reads (os : Os) {H : Type} (enc : TypeId × Value → H) : ∃ places, DataW.whole enc Tryz.prog ((laidWorld os).forCall (fun _ _ => 0) ⟨#[], args0, []⟩).memory Tryz.f8.params.toList Rows.logSurvivesSpec.vars false args0.toList 8 = some ([.nil, .nil, .nil, .lit (.int .i64 0), .lit (.int .i64 0)], [], places) :=
 ⟨[], by kernel_rfl⟩
set_option maxRecDepth 100000 in
theorem lifted (os : Os) (started : os.Started) (H : Type) (enc : TypeId × Value → H) (F : Stop.Interp) :
  ReturnsInHanded {} Tryz.checked os 8 .any ((OpenSpec.ofChange Rows.logSurvivesSpec).preRow enc Tryz.prog Tryz.f8 Rows.logSurvivesRow.domain false Rows.logSurvivesRow.laid) (((OpenSpec.ofChange Rows.logSurvivesSpec).at F).post enc Tryz.prog Tryz.f8 false true false false) := by
 obtain ⟨places, hx⟩ := reads os enc
 refine returnsInHanded_of_row (C := Tryz.checked) (s := OpenSpec.ofChange Rows.logSurvivesSpec) own_knob started (by kernel_rfl) Tryz.func8
  (witness_row_at (enc := enc) (C := Tryz.checked) false (laidWorld os) args0 rfl (by kernel_rfl) (by kernel_rfl) (by kernel_rfl)
   (OpenSpec.preRow_of_cond 8 hx (by kernel_rfl) (fun k hk => by cases hk) (by kernel_rfl) (laid_met os))) ?_
 intro W base args ds gs before hval hW _ _ hz _ _ _
 exact contract H enc W base args ds gs before hval _ hz hW
theorem said : Rows.LogSurvivesSaid :=
 OpenClaim.holds_of_cond 8 Tryz.f8 rfl rfl rfl rfl rfl rfl rfl ⟨rfl, rfl, rfl, rfl, rfl⟩ rfl rfl rfl rfl rfl (by kernel_rfl) Tryz.func8 (by kernel_rfl)
  (of_decide_eq_true (by kernel_rfl)) (by unfold Func.isWrapper; first | (rw [if_pos (by decide +kernel)]; kernel_rfl) | (rw [if_neg (by decide +kernel)]; exact ⟨rfl, rfl⟩))
  (fun os started H enc _ F => by rw [OpenClaim.pre_eq_preRow]; exact lifted os started H enc F)
theorem plain (f : FuncId) (fn : Func) (hf : Tryz.pinned.checked.prog.funcNamed "permafrost/permafrostlaw21.LogSurvives" = some f) (hfn : Tryz.pinned.checked.prog.funcs[f]? = some fn) :
  false = Tryz.pinned.checked.prog.looks [] ∧ ∀ (j : Nat) t, fn.params[j]? = some t → Tryz.pinned.checked.prog.wantsStandIn t = false := by
 obtain rfl : f = 8 := Option.some.inj ((show Tryz.prog.funcNamed "permafrost/permafrostlaw21.LogSurvives" = some 8 by kernel_rfl).symm.trans hf) |>.symm
 obtain rfl : fn = Tryz.f8 := (Option.some.inj (Tryz.func8.symm.trans hfn)).symm
 refine ⟨by kernel_rfl, fun j t ht => ?_⟩
 rw [Tryz.params8] at ht
 have hall : (#[54, 54, 61, 3, 3] : Array TypeId).toList.all (fun t => Tryz.pinned.checked.prog.wantsStandIn t == false) = true := by kernel_rfl
 have hm : t ∈ (#[54, 54, 61, 3, 3] : Array TypeId).toList := Array.mem_toList_iff.2 (Array.mem_of_getElem? ht)
 simpa using List.all_eq_true.1 hall t hm
end Go.Proofs.YtajnkbfcnmajoaaGreatDoor.logSurvives
namespace Go.Proofs.YtajnkbfcnmajoaaGreatDoor
theorem log_survives : Rows.LogSurvivesCardSaid :=
 Claim7.holds_tied_plain_at .later [] _ _ _ _ logSurvives.said (fun _ h => by cases h) (by kernel_rfl) (fun _ h => by cases h) logSurvives_row_tie rfl ⟨rfl, rfl⟩ (by kernel_rfl) rfl logSurvives.plain (by kernel_rfl)
end Go.Proofs.YtajnkbfcnmajoaaGreatDoor
