/-
  PROVED HERE: MountFormatsCardSaid: for every input the law MountFormats returns true, and each argument reads afterwards as before; the tables that the row lists are tied to the program's text. No condition.
-/
import Derived.Test.YtijjhfkgbmckkaaGreatDoorPkF50
namespace Go.Proofs.YtijjhfkgbmckkaaGreatDoor.mountFormats
open Go.ChangeShapes Go.WideShapes Go.ChangeAt Go.RowKit Go.Joins Go.Deep
set_option maxRecDepth 100000 in
theorem contract (H : Type) (enc : TypeId × Value → H) (W : World) (base : Nat) (args : Array Value) (ds gs : List (DataW H)) (before : List MemPlace)
  (hval : ∀ (j : Nat) t v, Tryz.f3.params[j]? = some t → args[j]? = some v → Value.okWide Tryz.prog W .any base t v)
  (tz : List TypeId) (hz : (DataW.weightsEach Tryz.prog (Tryz.f3.params.toList ++ tz) (ds ++ gs)).all (· ≤ reachBytes) = true)
  (hW : DataW.Whole enc Tryz.prog Tryz.f3.params.toList Rows.mountFormatsSpec.vars false W args.toList ds gs before) :
  Calls Tryz.prog 3 args W fun e W' => ∃ v, e = .returned v ∧ Rows.mountFormatsSpec.post enc Tryz.prog Tryz.f3 false true false false W args v W' := by
 have hW' := hW
 obtain ⟨p, q, hA0, hV, rfl, hfz, hnd⟩ := hW
 have hA : DataW.TrodAll enc Tryz.prog W 0 (fun _ => true) true Tryz.f3.params.toList args.toList ds p := hA0
 rw [Tryz.params3] at hA hval
 obtain ⟨v0, vs0, d0, ds0, p0, q0, hargs, rfl, rfl, h0, r0⟩ := trodAll_cons hA
 obtain ⟨v1, vs1, d1, ds1, p1, q1, rfl, rfl, rfl, h1, r1⟩ := trodAll_cons r0
 obtain ⟨v2, vs2, d2, ds2, p2, q2, rfl, rfl, rfl, h2, r2⟩ := trodAll_cons r1
 obtain ⟨rfl, rfl, rfl⟩ := trodAll_nil r2
 obtain rfl : args = #[v0, v1, v2] := by cases args; simp_all
 obtain ⟨rfl, rfl⟩ := trodVars_none hV
 have hsm : ∀ (j : Nat) d t, (Tryz.f3.params.toList ++ tz)[j]? = some t → ([d0, d1, d2] ++ [] : List (DataW H))[j]? = some d → ∀ k ∈ d.weights Tryz.prog t, k ≤ reachBytes := fun j d t ht hd k hk => by
  simpa using List.all_eq_true.1 hz k (DataW.weights_mem_each ht hd k hk)
 obtain ⟨z0, rfl, hz0⟩ := open_int Tryz.underlying3 (hval 0 _ v0 rfl rfl) h0
 have b0 : -9223372036854775808 ≤ z0 ∧ z0 ≤ 9223372036854775807 := by simpa [Lit.wf, IntKind.min, IntKind.max, IntKind.signed, IntKind.bits] using hz0.2.2
 obtain ⟨a1, l1, c1, rfl⟩ := okWide_slice Tryz.underlying22 (hval 1 _ v1 rfl rfl)
 obtain ⟨fu1, hf1⟩ := h1
 obtain ⟨B1, n1, k1, x1, hv1, hn1, hm1, hB1⟩ := read_bytes hf1
 obtain ⟨a2, l2, c2, rfl⟩ := okWide_slice Tryz.underlying22 (hval 2 _ v2 rfl rfl)
 obtain ⟨fu2, hf2⟩ := h2
 obtain ⟨B2, n2, k2, x2, hv2, hn2, hm2, hB2⟩ := read_bytes hf2
 rw [hv1] at hW' ⊢
 rw [hv2] at hW' ⊢
 unfold maxLen at hm1 hm2
 refine (formats22_any _ _ B1 B2 n1 k1 n2 k2 x1 x2 z0 W b0.1 b0.2 hB1 hB2 (bytes_small (hv1 ▸ hf1) (hsm 1 d1 _ (by rw [Tryz.params3]; rfl) rfl)) hn2 (by omega)).mono fun e W' ⟨he, hN⟩ => ?_
 subst he
 exact ⟨_, rfl, law_post laid_out (by kernel_rfl) rfl (by kernel_rfl) Tryz.underlying4 hW' rfl rfl rfl hN⟩
def args0 : Array Value := #[.int .i64 0, .slice none 0 0, .slice none 0 0]
theorem laid_met (os : Os) : laidMet Tryz.prog Rows.mountFormatsRow.laid ((laidWorld os).forCall (fun _ _ => 0) ⟨#[], args0, []⟩).memory :=
 laidMet_of_run' 8 (by kernel_rfl) (by kernel_rfl)
theorem reads (os : Os) {H : Type} (enc : TypeId × Value → H) : ∃ places, DataW.whole enc Tryz.prog ((laidWorld os).forCall (fun _ _ => 0) ⟨#[], args0, []⟩).memory Tryz.f3.params.toList Rows.mountFormatsSpec.vars false args0.toList 8 = some ([.lit (.int .i64 0), .nil, .nil], [], places) :=
 ⟨[], by kernel_rfl⟩
set_option maxRecDepth 100000 in
theorem lifted (os : Os) (started : os.Started) (H : Type) (enc : TypeId × Value → H) (F : Stop.Interp) :
  ReturnsInHanded {} Tryz.checked os 3 .any ((OpenSpec.ofChange Rows.mountFormatsSpec).preRow enc Tryz.prog Tryz.f3 Rows.mountFormatsRow.domain false Rows.mountFormatsRow.laid) (((OpenSpec.ofChange Rows.mountFormatsSpec).at F).post enc Tryz.prog Tryz.f3 false true false false) := by
 obtain ⟨places, hx⟩ := reads os enc
 refine returnsInHanded_of_row (C := Tryz.checked) (s := OpenSpec.ofChange Rows.mountFormatsSpec) own_knob started (by kernel_rfl) Tryz.func3
  (witness_row_at (enc := enc) (C := Tryz.checked) false (laidWorld os) args0 rfl (by kernel_rfl) (by kernel_rfl) (by kernel_rfl)
   (OpenSpec.preRow_of_cond 8 hx (by kernel_rfl) (fun k hk => by cases hk) (by kernel_rfl) (laid_met os))) ?_
 intro W base args ds gs before hval hW _ _ hz _ _ _
 exact contract H enc W base args ds gs before hval _ hz hW
theorem e1 : (Rows.mountFormatsRow.inPlace == Tryz.pinned.checked.prog.inPlace 3) = true := by kernel_rfl
theorem e2 : (Rows.mountFormatsRow.unfollowed == Tryz.pinned.checked.prog.unfollowed 3) = true := by kernel_rfl
theorem e3 : (Rows.mountFormatsRow.recurses == Tryz.pinned.checked.prog.recurses 3) = true := by kernel_rfl
theorem e4 : (Rows.mountFormatsRow.named == Tryz.pinned.checked.prog.varsNamed 3) = true := by kernel_rfl
theorem e5 : laidOutB Tryz.pinned.checked.prog = true := by kernel_rfl
theorem e6 : mapsRowed Tryz.pinned.checked.prog = true := by kernel_rfl
theorem e7 : (Tryz.pinned.checked.prog.stops == []) = true := by kernel_rfl
theorem e8 : (Tryz.pinned.checked.prog.stopKnobs == []) = true := by kernel_rfl
theorem e9 : Tryz.pinned.checked.prog.stopsHeard = true := by kernel_rfl
theorem e10 : Tryz.pinned.checked.prog.mayEnter = true := by kernel_rfl
theorem e11 : (Rows.mountFormatsRow.lifted == Tryz.pinned.checked.prog.liftsFinal) = true := by kernel_rfl
theorem e12 : (Tryz.pinned.checked.prog.make == some Rows.mountFormatsRow.make) = true := by kernel_rfl
theorem e13 : (Rows.mountFormatsRow.plainKeys == Tryz.pinned.checked.prog.plainKeys) = true := by kernel_rfl
theorem e14 : Tryz.pinned.checked.prog.looks [] = true := by kernel_rfl
theorem e15 : false = Rows.mountFormatsRow.goesBy Tryz.pinned.checked.prog := by kernel_rfl
set_option maxRecDepth 100000 in
theorem closed : joinedFacts Tryz.pinned.checked.prog 3 Tryz.f3 (OpenSpec.ofChange Rows.mountFormatsSpec).bare Rows.mountFormatsRow = true := by
 unfold joinedFacts
 simp only [Bool.and_eq_true]
 repeat' refine And.intro ?_ ?_
 all_goals first | with_reducible exact e1 | with_reducible exact e2 | with_reducible exact e3 | with_reducible exact e4 | with_reducible exact e5 | with_reducible exact e6 | with_reducible exact e7 | with_reducible exact e8 | with_reducible exact e9 | with_reducible exact e10 | with_reducible exact e11 | with_reducible exact e12 | with_reducible exact e13 | kernel_rfl
theorem said : Rows.MountFormatsSaid :=
 OpenClaim.holds_of_cond 3 Tryz.f3 rfl rfl rfl rfl rfl rfl rfl ⟨rfl, rfl, rfl, rfl, rfl⟩ rfl rfl rfl rfl rfl (by kernel_rfl) Tryz.func3 closed
  (of_decide_eq_true (by kernel_rfl)) (by unfold Func.isWrapper; first | (rw [if_pos (by decide +kernel)]; kernel_rfl) | (rw [if_neg (by decide +kernel)]; exact ⟨rfl, rfl⟩))
  (fun os started H enc _ F => by rw [OpenClaim.pre_eq_preRow]; exact lifted os started H enc F)
theorem plain (f : FuncId) (fn : Func) (hf : Tryz.pinned.checked.prog.funcNamed "permafrost/permafrostlaw22.MountFormats" = some f) (hfn : Tryz.pinned.checked.prog.funcs[f]? = some fn) :
  true = Tryz.pinned.checked.prog.looks [] ∧ ∀ (j : Nat) t, fn.params[j]? = some t → Tryz.pinned.checked.prog.wantsStandIn t = false := by
 obtain rfl : f = 3 := Option.some.inj ((show Tryz.prog.funcNamed "permafrost/permafrostlaw22.MountFormats" = some 3 by kernel_rfl).symm.trans hf) |>.symm
 obtain rfl : fn = Tryz.f3 := (Option.some.inj (Tryz.func3.symm.trans hfn)).symm
 refine ⟨e14.symm, fun j t ht => ?_⟩
 rw [Tryz.params3] at ht
 have hall : (#[3, 22, 22] : Array TypeId).toList.all (fun t => Tryz.pinned.checked.prog.wantsStandIn t == false) = true := by kernel_rfl
 have hm : t ∈ (#[3, 22, 22] : Array TypeId).toList := Array.mem_toList_iff.2 (Array.mem_of_getElem? ht)
 simpa using List.all_eq_true.1 hall t hm
end Go.Proofs.YtijjhfkgbmckkaaGreatDoor.mountFormats
namespace Go.Proofs.YtijjhfkgbmckkaaGreatDoor
theorem mount_formats : Rows.MountFormatsCardSaid :=
 Claim7.holds_tied_plain_at .later [] _ _ _ _ mountFormats.said (fun _ h => by cases h) (by kernel_rfl) (fun _ h => by cases h) mountFormats_row_tie rfl ⟨rfl, rfl⟩ (by kernel_rfl) rfl mountFormats.plain mountFormats.e15
end Go.Proofs.YtijjhfkgbmckkaaGreatDoor
