/-
  PROVED HERE: SegmentCutsCardSaid: for every input the law SegmentCuts returns true, and each argument reads afterwards as before; the tables that the row lists are tied to the program's text. No condition.
-/
import Derived.Test.YtpbbfbgmpidgnaaDoorCuts
import Derived.Test.YtpbbfbgmpidgnaaDoorLaid17
namespace Go.Proofs.YtpbbfbgmpidgnaaDoor.segCuts
open Go.ChangeShapes Go.WideShapes Go.ChangeAt Go.RowKit Go.Joins Go.Deep

set_option maxRecDepth 100000 in
theorem contract (H : Type) (enc : TypeId × Value → H) (W : World) (base : Nat) (args : Array Value) (ds gs : List (DataW H)) (before : List MemPlace)
    (hval : ∀ (j : Nat) t v, Tryd.f4.params[j]? = some t → args[j]? = some v → Value.okWide Tryd.prog W .any base t v)
    (hW : DataW.Whole enc Tryd.prog Tryd.f4.params.toList Rows.segmentCutsSpec.vars false W args.toList ds gs before) :
    Calls Tryd.prog 4 args W fun e W' => ∃ v, e = .returned v ∧ Rows.segmentCutsSpec.post enc Tryd.prog Tryd.f4 false true false false W args v W' := by
  have hW' := hW
  obtain ⟨p, q, hA0, hV, rfl, hfz, hnd⟩ := hW
  have hA : DataW.TrodAll enc Tryd.prog W 0 (fun _ => true) true Tryd.f4.params.toList args.toList ds p := hA0
  rw [Tryd.params4] at hA hval
  obtain ⟨v0, vs0, d0, ds0, p0, q0, hargs, rfl, rfl, h0, r0⟩ := trodAll_cons hA
  obtain ⟨v1, vs1, d1, ds1, p1, q1, rfl, rfl, rfl, h1, r1⟩ := trodAll_cons r0
  obtain ⟨v2, vs2, d2, ds2, p2, q2, rfl, rfl, rfl, h2, r2⟩ := trodAll_cons r1
  obtain ⟨v3, vs3, d3, ds3, p3, q3, rfl, rfl, rfl, h3, r3⟩ := trodAll_cons r2
  obtain ⟨rfl, rfl, rfl⟩ := trodAll_nil r3
  obtain rfl : args = #[v0, v1, v2, v3] := by cases args; simp_all
  obtain ⟨rfl, rfl⟩ := trodVars_none hV
  obtain ⟨a0, l0, c0, rfl⟩ := okWide_slice Tryd.underlying22 (hval 0 _ v0 rfl rfl)
  obtain ⟨fu0, hf0⟩ := h0
  obtain ⟨A, n, c, l, hv0, hnc, hcm, hR⟩ := read_raws hf0
  obtain ⟨a1, l1, c1, rfl⟩ := okWide_slice Tryd.underlying22 (hval 1 _ v1 rfl rfl)
  obtain ⟨fu1, hf1⟩ := h1
  obtain ⟨A1, n1, c1', l1', hv1, hnc1, hcm1, hR1⟩ := read_raws hf1
  obtain ⟨nn, rfl, hi⟩ := open_int Tryd.underlying3 (hval 2 _ v2 rfl rfl) h2
  obtain ⟨a3, l3, c3, rfl⟩ := okWide_slice Tryd.underlying24 (hval 3 _ v3 rfl rfl)
  obtain ⟨fu3, hf3⟩ := h3
  obtain ⟨A2, n2, c2, pv, hv3, hnc2, hcm2, hB⟩ := read_bytes hf3
  rw [hv0] at hW' ⊢
  rw [hv1] at hW' ⊢
  rw [hv3] at hW' ⊢
  have bi : -9223372036854775808 ≤ nn ∧ nn ≤ 9223372036854775807 := by simpa [Lit.wf, IntKind.min, IntKind.max, IntKind.signed, IntKind.bits] using hi.2.2
  unfold maxLen at hcm hcm1 hcm2
  refine (cuts_any _ _ _ A A1 A2 n c n1 c1' n2 c2 l l1' pv nn W hR hR1 hB (by omega) (by omega) (by omega) hnc2 bi.1 bi.2).mono fun e W' ⟨he, hN⟩ => ?_
  subst he
  exact ⟨_, rfl, law_post laid_out (by kernel_rfl) rfl (by kernel_rfl) Tryd.underlying4 hW' rfl rfl rfl hN⟩

def args0 : Array Value := #[.slice none 0 0, .slice none 0 0, .int .i64 0, .slice none 0 0]
theorem laid_met (os : Os) : laidMet Tryd.prog Rows.segmentCutsRow.laid ((laidWorld os).forCall (fun _ _ => 0) ⟨#[], args0, []⟩).memory :=
  laidMet_of_run' 8 (by kernel_rfl) (by kernel_rfl)
theorem reads (os : Os) {H : Type} (enc : TypeId × Value → H) : ∃ places, DataW.whole enc Tryd.prog ((laidWorld os).forCall (fun _ _ => 0) ⟨#[], args0, []⟩).memory Tryd.f4.params.toList Rows.segmentCutsSpec.vars false args0.toList 8 = some ([.nil, .nil, .lit (.int .i64 0), .nil], [], places) :=
  ⟨[], by kernel_rfl⟩
set_option maxRecDepth 100000 in
theorem lifted (os : Os) (started : os.Started) (H : Type) (enc : TypeId × Value → H) (F : Stop.Interp) :
    ReturnsInHanded {} Tryd.checked os 4 .any ((OpenSpec.ofChange Rows.segmentCutsSpec).preRow enc Tryd.prog Tryd.f4 Rows.segmentCutsRow.domain false Rows.segmentCutsRow.laid) (((OpenSpec.ofChange Rows.segmentCutsSpec).at F).post enc Tryd.prog Tryd.f4 false true false false) := by
  obtain ⟨places, hx⟩ := reads os enc
  refine returnsInHanded_of_row (C := Tryd.checked) (s := OpenSpec.ofChange Rows.segmentCutsSpec) own_knob started (by kernel_rfl) Tryd.func4
    (witness_row_at (enc := enc) (C := Tryd.checked) false (laidWorld os) args0 rfl (by kernel_rfl) (by kernel_rfl) (by kernel_rfl)
      (OpenSpec.preRow_of_cond 8 hx (by kernel_rfl) (fun k hk => by cases hk) (by kernel_rfl) (laid_met os))) ?_
  intro W base args ds gs before hval hW _ _ _ _ _ _
  exact contract H enc W base args ds gs before hval hW
theorem said : Rows.SegmentCutsSaid :=
  OpenClaim.holds_of_cond 4 Tryd.f4 rfl rfl rfl rfl rfl rfl rfl ⟨rfl, rfl, rfl, rfl, rfl⟩ rfl rfl rfl rfl rfl (by kernel_rfl) Tryd.func4 (by kernel_rfl)
    (of_decide_eq_true (by kernel_rfl)) (by unfold Func.isWrapper; first | (rw [if_pos (by decide +kernel)]; kernel_rfl) | (rw [if_neg (by decide +kernel)]; exact ⟨rfl, rfl⟩))
    (fun os started H enc _ F => by rw [OpenClaim.pre_eq_preRow]; exact lifted os started H enc F)
theorem plain (f : FuncId) (fn : Func) (hf : Tryd.pinned.checked.prog.funcNamed "permafrost/permafrostlaw17.SegmentCuts" = some f) (hfn : Tryd.pinned.checked.prog.funcs[f]? = some fn) :
    false = Tryd.pinned.checked.prog.looks [] ∧ ∀ (j : Nat) t, fn.params[j]? = some t → Tryd.pinned.checked.prog.wantsStandIn t = false := by
  obtain rfl : f = 4 := Option.some.inj ((show Tryd.prog.funcNamed "permafrost/permafrostlaw17.SegmentCuts" = some 4 by kernel_rfl).symm.trans hf) |>.symm
  obtain rfl : fn = Tryd.f4 := (Option.some.inj (Tryd.func4.symm.trans hfn)).symm
  refine ⟨by kernel_rfl, fun j t ht => ?_⟩
  rw [Tryd.params4] at ht
  have hall : (#[22, 22, 3, 24] : Array TypeId).toList.all (fun t => Tryd.pinned.checked.prog.wantsStandIn t == false) = true := by kernel_rfl
  have hm : t ∈ (#[22, 22, 3, 24] : Array TypeId).toList := Array.mem_toList_iff.2 (Array.mem_of_getElem? ht)
  simpa using List.all_eq_true.1 hall t hm
end Go.Proofs.YtpbbfbgmpidgnaaDoor.segCuts
namespace Go.Proofs.YtpbbfbgmpidgnaaDoor
theorem segment_cuts : Rows.SegmentCutsCardSaid :=
  Claim7.holds_tied_plain_at .later [] _ _ _ _ segCuts.said (fun _ h => by cases h) (by kernel_rfl) (fun _ h => by cases h) segmentCuts_row_tie rfl ⟨rfl, rfl⟩ (by kernel_rfl) rfl segCuts.plain (by kernel_rfl)
end Go.Proofs.YtpbbfbgmpidgnaaDoor
