/-
  PROVED HERE: LogNumbersCardSaid: for every input the law LogNumbers returns true, and each argument reads afterwards as before; the tables that the row lists are tied to the program's text. No condition.
-/
import Derived.Test.YtajnkbfcnmajoaaGreatDoorPkB24
import Derived.Test.YtajnkbfcnmajoaaGreatDoorPkM03
namespace Go.Proofs.YtajnkbfcnmajoaaGreatDoor.logNumbers
open Go.ChangeShapes Go.WideShapes Go.ChangeAt Go.RowKit Go.Joins Go.Deep
set_option maxRecDepth 100000 in
theorem contract (H : Type) (enc : TypeId × Value → H) (W : World) (base : Nat) (args : Array Value) (ds gs : List (DataW H)) (before : List MemPlace)
  (hval : ∀ (j : Nat) t v, Tryz.f3.params[j]? = some t → args[j]? = some v → Value.okWide Tryz.prog W .any base t v)
  (hW : DataW.Whole enc Tryz.prog Tryz.f3.params.toList Rows.logNumbersSpec.vars false W args.toList ds gs before) :
  Calls Tryz.prog 3 args W fun e W' => ∃ v, e = .returned v ∧ Rows.logNumbersSpec.post enc Tryz.prog Tryz.f3 false true false false W args v W' := by
 have hW' := hW
 obtain ⟨p, q, hA0, hV, rfl, hfz, hnd⟩ := hW
 have hA : DataW.TrodAll enc Tryz.prog W 0 (fun _ => true) true Tryz.f3.params.toList args.toList ds p := hA0
 rw [Tryz.params3] at hA hval
 obtain ⟨hargs, rfl, rfl⟩ := trodAll_nil hA
 obtain rfl : args = #[] := by cases args; simp_all
 obtain ⟨rfl, rfl⟩ := trodVars_none hV
 refine (numbers21_any W).mono fun e W' ⟨he, hN⟩ => ?_
 subst he
 exact ⟨_, rfl, law_post laid_out (by kernel_rfl) rfl (by kernel_rfl) Tryz.underlying4 hW' rfl rfl rfl hN⟩
def args0 : Array Value := #[]
theorem laid_met (os : Os) : laidMet Tryz.prog Rows.logNumbersRow.laid ((laidWorld os).forCall (fun _ _ => 0) ⟨#[], args0, []⟩).memory :=
 laidMet_of_run' 8 (by kernel_rfl) (by kernel_rfl)
theorem reads (os : Os) {H : Type} (enc : TypeId × Value → H) : ∃ places, DataW.whole enc Tryz.prog ((laidWorld os).forCall (fun _ _ => 0) ⟨#[], args0, []⟩).memory Tryz.f3.params.toList Rows.logNumbersSpec.vars false args0.toList 8 = some ([], [], places) :=
 ⟨[], by kernel_rfl⟩
set_option maxRecDepth 100000 in
theorem lifted (os : Os) (started : os.Started) (H : Type) (enc : TypeId × Value → H) (F : Stop.Interp) :
  ReturnsInHanded {} Tryz.checked os 3 .any ((OpenSpec.ofChange Rows.logNumbersSpec).preRow enc Tryz.prog Tryz.f3 Rows.logNumbersRow.domain false Rows.logNumbersRow.laid) (((OpenSpec.ofChange Rows.logNumbersSpec).at F).post enc Tryz.prog Tryz.f3 false true false false) := by
 obtain ⟨places, hx⟩ := reads os enc
 refine returnsInHanded_of_row (C := Tryz.checked) (s := OpenSpec.ofChange Rows.logNumbersSpec) own_knob started (by kernel_rfl) Tryz.func3
  (witness_row_at (enc := enc) (C := Tryz.checked) false (laidWorld os) args0 rfl (by kernel_rfl) (by kernel_rfl) (by kernel_rfl)
   (OpenSpec.preRow_of_cond 8 hx (by kernel_rfl) (fun k hk => by cases hk) (by kernel_rfl) (laid_met os))) ?_
 intro W base args ds gs before hval hW _ _ _ _ _ _
 exact contract H enc W base args ds gs before hval hW
theorem said : Rows.LogNumbersSaid :=
 OpenClaim.holds_of_cond 3 Tryz.f3 rfl rfl rfl rfl rfl rfl rfl ⟨rfl, rfl, rfl, rfl, rfl⟩ rfl rfl rfl rfl rfl (by kernel_rfl) Tryz.func3 (by kernel_rfl)
  (of_decide_eq_true (by kernel_rfl)) (by unfold Func.isWrapper; first | (rw [if_pos (by decide +kernel)]; kernel_rfl) | (rw [if_neg (by decide +kernel)]; exact ⟨rfl, rfl⟩))
  (fun os started H enc _ F => by rw [OpenClaim.pre_eq_preRow]; exact lifted os started H enc F)
theorem plain (f : FuncId) (fn : Func) (hf : Tryz.pinned.checked.prog.funcNamed "permafrost/permafrostlaw21.LogNumbers" = some f) (hfn : Tryz.pinned.checked.prog.funcs[f]? = some fn) :
  false = Tryz.pinned.checked.prog.looks [] ∧ ∀ (j : Nat) t, fn.params[j]? = some t → Tryz.pinned.checked.prog.wantsStandIn t = false := by
 obtain rfl : f = 3 := Option.some.inj ((show Tryz.prog.funcNamed "permafrost/permafrostlaw21.LogNumbers" = some 3 by kernel_rfl).symm.trans hf) |>.symm
 obtain rfl : fn = Tryz.f3 := (Option.some.inj (Tryz.func3.symm.trans hfn)).symm
 refine ⟨by kernel_rfl, fun j t ht => ?_⟩
 rw [Tryz.params3] at ht
 have hall : (#[] : Array TypeId).toList.all (fun t => Tryz.pinned.checked.prog.wantsStandIn t == false) = true := by kernel_rfl
 have hm : t ∈ (#[] : Array TypeId).toList := Array.mem_toList_iff.2 (Array.mem_of_getElem? ht)
 simpa using List.all_eq_true.1 hall t hm
end Go.Proofs.YtajnkbfcnmajoaaGreatDoor.logNumbers
namespace Go.Proofs.YtajnkbfcnmajoaaGreatDoor
theorem log_numbers : Rows.LogNumbersCardSaid :=
 Claim7.holds_tied_plain_at .later [] _ _ _ _ logNumbers.said (fun _ h => by cases h) (by kernel_rfl) (fun _ h => by cases h) logNumbers_row_tie rfl ⟨rfl, rfl⟩ (by kernel_rfl) rfl logNumbers.plain (by kernel_rfl)
end Go.Proofs.YtajnkbfcnmajoaaGreatDoor
