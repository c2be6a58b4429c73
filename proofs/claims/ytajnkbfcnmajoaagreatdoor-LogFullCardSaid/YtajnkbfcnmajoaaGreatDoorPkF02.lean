/-
  PROVED HERE: LogFullCardSaid: for every input the law LogFull returns true, and each argument reads afterwards as before; the tables that the row lists are tied to the program's text. No condition.
-/
import Derived.Test.YtajnkbfcnmajoaaGreatDoorPkB24
import Derived.Test.YtajnkbfcnmajoaaGreatDoorPkF00
import Derived.Test.YtajnkbfcnmajoaaGreatDoorPkF01
namespace Go.Proofs.YtajnkbfcnmajoaaGreatDoor.logFull
open Go.ChangeShapes Go.WideShapes Go.ChangeAt Go.RowKit Go.Joins Go.Deep

set_option maxRecDepth 100000 in
theorem contract (H : Type) (enc : TypeId × Value → H) (W : World) (base : Nat) (args : Array Value) (ds gs : List (DataW H)) (before : List MemPlace)
    (hval : ∀ (j : Nat) t v, Tryz.f5.params[j]? = some t → args[j]? = some v → Value.okWide Tryz.prog W .any base t v)
    (hW : DataW.Whole enc Tryz.prog Tryz.f5.params.toList Rows.logFullSpec.vars false W args.toList ds gs before) :
    Calls Tryz.prog 5 args W fun e W' => ∃ v, e = .returned v ∧ Rows.logFullSpec.post enc Tryz.prog Tryz.f5 false true false false W args v W' := by
  have hW' := hW
  obtain ⟨p, q, hA0, hV, rfl, hfz, hnd⟩ := hW
  have hA : DataW.TrodAll enc Tryz.prog W 0 (fun _ => true) true Tryz.f5.params.toList args.toList ds p := hA0
  rw [Tryz.params5] at hA hval
  obtain ⟨v0, vs0, d0, ds0, p0, q0, hargs, rfl, rfl, h0, r0⟩ := trodAll_cons hA
  obtain ⟨v1, vs1, d1, ds1, p1, q1, rfl, rfl, rfl, h1, r1⟩ := trodAll_cons r0
  obtain ⟨rfl, rfl, rfl⟩ := trodAll_nil r1
  obtain rfl : args = #[v0, v1] := by cases args; simp_all
  obtain ⟨rfl, rfl⟩ := trodVars_none hV
  obtain ⟨z0, rfl, hz0⟩ := open_int Tryz.underlying3 (hval 0 _ v0 rfl rfl) h0
  have b0 : -9223372036854775808 ≤ z0 ∧ z0 ≤ 9223372036854775807 := by simpa [Lit.wf, IntKind.min, IntKind.max, IntKind.signed, IntKind.bits] using hz0.2.2
  obtain ⟨z1, rfl, hz1⟩ := open_int Tryz.underlying3 (hval 1 _ v1 rfl rfl) h1
  have b1 : -9223372036854775808 ≤ z1 ∧ z1 ≤ 9223372036854775807 := by simpa [Lit.wf, IntKind.min, IntKind.max, IntKind.signed, IntKind.bits] using hz1.2.2
  refine (full21_any z0 z1 W b0 b1).mono fun e W' ⟨he, hN⟩ => ?_
  subst he
  exact ⟨_, rfl, law_post laid_out (by kernel_rfl) rfl (by kernel_rfl) Tryz.underlying4 hW' rfl rfl rfl hN⟩

def args0 : Array Value := #[.int .i64 0, .int .i64 0]
theorem laid_met (os : Os) : laidMet Tryz.prog Rows.logFullRow.laid ((laidWorld os).forCall (fun _ _ => 0) ⟨#[], args0, []⟩).memory :=
  laidMet_of_run' 8 (by kernel_rfl) (by kernel_rfl)
theorem reads (os : Os) {H : Type} (enc : TypeId × Value → H) : ∃ places, DataW.whole enc Tryz.prog ((laidWorld os).forCall (fun _ _ => 0) ⟨#[], args0, []⟩).memory Tryz.f5.params.toList Rows.logFullSpec.vars false args0.toList 8 = some ([.lit (.int .i64 0), .lit (.int .i64 0)], [], places) :=
  ⟨[], by kernel_rfl⟩
set_option maxRecDepth 100000 in
theorem lifted (os : Os) (started : os.Started) (H : Type) (enc : TypeId × Value → H) (F : Stop.Interp) :
    ReturnsInHanded {} Tryz.checked os 5 .any ((OpenSpec.ofChange Rows.logFullSpec).preRow enc Tryz.prog Tryz.f5 Rows.logFullRow.domain false Rows.logFullRow.laid) (((OpenSpec.ofChange Rows.logFullSpec).at F).post enc Tryz.prog Tryz.f5 false true false false) := by
  obtain ⟨places, hx⟩ := reads os enc
  refine returnsInHanded_of_row (C := Tryz.checked) (s := OpenSpec.ofChange Rows.logFullSpec) own_knob started (by kernel_rfl) Tryz.func5
    (witness_row_at (enc := enc) (C := Tryz.checked) false (laidWorld os) args0 rfl (by kernel_rfl) (by kernel_rfl) (by kernel_rfl)
      (OpenSpec.preRow_of_cond 8 hx (by kernel_rfl) (fun k hk => by cases hk) (by kernel_rfl) (laid_met os))) ?_
  intro W base args ds gs before hval hW _ _ _ _ _ _
  exact contract H enc W base args ds gs before hval hW
theorem said : Rows.LogFullSaid :=
  OpenClaim.holds_of_cond 5 Tryz.f5 rfl rfl rfl rfl rfl rfl rfl ⟨rfl, rfl, rfl, rfl, rfl⟩ rfl rfl rfl rfl rfl (by kernel_rfl) Tryz.func5 (by kernel_rfl)
    (of_decide_eq_true (by kernel_rfl)) (by unfold Func.isWrapper; first | (rw [if_pos (by decide +kernel)]; kernel_rfl) | (rw [if_neg (by decide +kernel)]; exact ⟨rfl, rfl⟩))
    (fun os started H enc _ F => by rw [OpenClaim.pre_eq_preRow]; exact lifted os started H enc F)
theorem plain (f : FuncId) (fn : Func) (hf : Tryz.pinned.checked.prog.funcNamed "permafrost/permafrostlaw21.LogFull" = some f) (hfn : Tryz.pinned.checked.prog.funcs[f]? = some fn) :
    false = Tryz.pinned.checked.prog.looks [] ∧ ∀ (j : Nat) t, fn.params[j]? = some t → Tryz.pinned.checked.prog.wantsStandIn t = false := by
  obtain rfl : f = 5 := Option.some.inj ((show Tryz.prog.funcNamed "permafrost/permafrostlaw21.LogFull" = some 5 by kernel_rfl).symm.trans hf) |>.symm
  obtain rfl : fn = Tryz.f5 := (Option.some.inj (Tryz.func5.symm.trans hfn)).symm
  refine ⟨by kernel_rfl, fun j t ht => ?_⟩
  rw [Tryz.params5] at ht
  have hall : (#[3, 3] : Array TypeId).toList.all (fun t => Tryz.pinned.checked.prog.wantsStandIn t == false) = true := by kernel_rfl
  have hm : t ∈ (#[3, 3] : Array TypeId).toList := Array.mem_toList_iff.2 (Array.mem_of_getElem? ht)
  simpa using List.all_eq_true.1 hall t hm
end Go.Proofs.YtajnkbfcnmajoaaGreatDoor.logFull
namespace Go.Proofs.YtajnkbfcnmajoaaGreatDoor
theorem log_full : Rows.LogFullCardSaid :=
  Claim7.holds_tied_plain_at .later [] _ _ _ _ logFull.said (fun _ h => by cases h) (by kernel_rfl) (fun _ h => by cases h) logFull_row_tie rfl ⟨rfl, rfl⟩ (by kernel_rfl) rfl logFull.plain (by kernel_rfl)
end Go.Proofs.YtajnkbfcnmajoaaGreatDoor
