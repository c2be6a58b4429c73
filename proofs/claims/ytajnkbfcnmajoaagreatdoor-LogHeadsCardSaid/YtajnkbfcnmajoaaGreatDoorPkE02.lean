/-
  PROVED HERE: LogHeadsCardSaid: for every input the law LogHeads returns true, and each argument reads afterwards as before; the tables that the row lists are tied to the program's text. No condition.
-/
import Derived.Test.YtajnkbfcnmajoaaGreatDoorPkB24
import Derived.Test.YtajnkbfcnmajoaaGreatDoorPkE01
namespace Go.Proofs.YtajnkbfcnmajoaaGreatDoor.logHeads
open Go.ChangeShapes Go.WideShapes Go.ChangeAt Go.RowKit Go.Joins Go.Deep
set_option maxRecDepth 100000 in
theorem contract (H : Type) (enc : TypeId × Value → H) (W : World) (base : Nat) (args : Array Value) (ds gs : List (DataW H)) (before : List MemPlace)
  (hval : ∀ (j : Nat) t v, Tryz.f7.params[j]? = some t → args[j]? = some v → Value.okWide Tryz.prog W .any base t v)
  (hW : DataW.Whole enc Tryz.prog Tryz.f7.params.toList Rows.logHeadsSpec.vars false W args.toList ds gs before) :
  Calls Tryz.prog 7 args W fun e W' => ∃ v, e = .returned v ∧ Rows.logHeadsSpec.post enc Tryz.prog Tryz.f7 false true false false W args v W' := by
 have hW' := hW
 obtain ⟨p, q, hA0, hV, rfl, hfz, hnd⟩ := hW
 have hA : DataW.TrodAll enc Tryz.prog W 0 (fun _ => true) true Tryz.f7.params.toList args.toList ds p := hA0
 rw [Tryz.params7] at hA hval
 obtain ⟨v0, vs0, d0, ds0, p0, q0, hargs, rfl, rfl, h0, r0⟩ := trodAll_cons hA
 obtain ⟨rfl, rfl, rfl⟩ := trodAll_nil r0
 obtain rfl : args = #[v0] := by cases args; simp_all
 obtain ⟨rfl, rfl⟩ := trodVars_none hV
 obtain ⟨a0, l0, c0, rfl⟩ := okWide_slice Tryz.underlying54 (hval 0 _ v0 rfl rfl)
 obtain ⟨fu0, hf0⟩ := h0
 obtain ⟨B0, n0, k0, x0, hv0, hn0, hm0, hB0⟩ := read_asks hf0
 rw [hv0] at hW' ⊢
 unfold maxLen at hm0
 refine (heads21_any B0 n0 k0 x0 W hB0).mono fun e W' ⟨he, hN⟩ => ?_
 subst he
 exact ⟨_, rfl, law_post laid_out (by kernel_rfl) rfl (by kernel_rfl) Tryz.underlying4 hW' rfl rfl rfl hN⟩
def args0 : Array Value := #[.slice none 0 0]
theorem laid_met (os : Os) : laidMet Tryz.prog Rows.logHeadsRow.laid ((laidWorld os).forCall (fun _ _ => 0) ⟨#[], args0, []⟩).memory :=
 laidMet_of_run' 8 (by kernel_rfl) (by kernel_rfl)
theorem reads (os : Os) {H : Type} (enc : TypeId × Value → H) : ∃ places, DataW.whole enc Tryz.prog ((laidWorld os).forCall (fun _ _ => 0) ⟨#[], args0, []⟩).memory Tryz.f7.params.toList Rows.logHeadsSpec.vars false args0.toList 8 = some ([.nil], [], places) :=
 ⟨[], by kernel_rfl⟩
set_option maxRecDepth 100000 in
theorem lifted (os : Os) (started : os.Started) (H : Type) (enc : TypeId × Value → H) (F : Stop.Interp) :
  ReturnsInHanded {} Tryz.checked os 7 .any ((OpenSpec.ofChange Rows.logHeadsSpec).preRow enc Tryz.prog Tryz.f7 Rows.logHeadsRow.domain false Rows.logHeadsRow.laid) (((OpenSpec.ofChange Rows.logHeadsSpec).at F).post enc Tryz.prog Tryz.f7 false true false false) := by
 obtain ⟨places, hx⟩ := reads os enc
 refine returnsInHanded_of_row (C := Tryz.checked) (s := OpenSpec.ofChange Rows.logHeadsSpec) own_knob started (by kernel_rfl) Tryz.func7
  (witness_row_at (enc := enc) (C := Tryz.checked) false (laidWorld os) args0 rfl (by kernel_rfl) (by kernel_rfl) (by kernel_rfl)
   (OpenSpec.preRow_of_cond 8 hx (by kernel_rfl) (fun k hk => by cases hk) (by kernel_rfl) (laid_met os))) ?_
 intro W base args ds gs before hval hW _ _ _ _ _ _
 exact contract H enc W base args ds gs before hval hW
theorem said : Rows.LogHeadsSaid :=
 OpenClaim.holds_of_cond 7 Tryz.f7 rfl rfl rfl rfl rfl rfl rfl ⟨rfl, rfl, rfl, rfl, rfl⟩ rfl rfl rfl rfl rfl (by kernel_rfl) Tryz.func7 (by kernel_rfl)
  (of_decide_eq_true (by kernel_rfl)) (by unfold Func.isWrapper; first | (rw [if_pos (by decide +kernel)]; kernel_rfl) | (rw [if_neg (by decide +kernel)]; exact ⟨rfl, rfl⟩))
  (fun os started H enc _ F => by rw [OpenClaim.pre_eq_preRow]; exact lifted os started H enc F)
theorem plain (f : FuncId) (fn : Func) (hf : Tryz.pinned.checked.prog.funcNamed "permafrost/permafrostlaw21.LogHeads" = some f) (hfn : Tryz.pinned.checked.prog.funcs[f]? = some fn) :
  false = Tryz.pinned.checked.prog.looks [] ∧ ∀ (j : Nat) t, fn.params[j]? = some t → Tryz.pinned.checked.prog.wantsStandIn t = false := by
 obtain rfl : f = 7 := Option.some.inj ((show Tryz.prog.funcNamed "permafrost/permafrostlaw21.LogHeads" = some 7 by kernel_rfl).symm.trans hf) |>.symm
 obtain rfl : fn = Tryz.f7 := (Option.some.inj (Tryz.func7.symm.trans hfn)).symm
 refine ⟨by kernel_rfl, fun j t ht => ?_⟩
 rw [Tryz.params7] at ht
 have hall : (#[54] : Array TypeId).toList.all (fun t => Tryz.pinned.checked.prog.wantsStandIn t == false) = true := by kernel_rfl
 have hm : t ∈ (#[54] : Array TypeId).toList := Array.mem_toList_iff.2 (Array.mem_of_getElem? ht)
 simpa using List.all_eq_true.1 hall t hm
end Go.Proofs.YtajnkbfcnmajoaaGreatDoor.logHeads
namespace Go.Proofs.YtajnkbfcnmajoaaGreatDoor
theorem log_heads : Rows.LogHeadsCardSaid :=
 Claim7.holds_tied_plain_at .later [] _ _ _ _ logHeads.said (fun _ h => by cases h) (by kernel_rfl) (fun _ h => by cases h) logHeads_row_tie rfl ⟨rfl, rfl⟩ (by kernel_rfl) rfl logHeads.plain (by kernel_rfl)
end Go.Proofs.YtajnkbfcnmajoaaGreatDoor
