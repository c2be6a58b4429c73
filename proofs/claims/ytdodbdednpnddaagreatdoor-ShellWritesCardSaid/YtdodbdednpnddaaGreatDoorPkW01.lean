/-
  PROVED HERE: ShellWritesCardSaid: for every input the law ShellWrites returns true, and each argument reads afterwards as before; the tables that the row lists are tied to the program's text. No condition.
-/
import Derived.Shelf.Vars
import Derived.Stop.LaidErr
import Derived.Test.YtdodbdednpnddaaGreatDoorPkW00
set_option maxRecDepth 100000
namespace Go.Proofs.YtdodbdednpnddaaGreatDoor.shellWrites
open Go.ChangeShapes Go.WideShapes Go.ChangeAt Go.RowKit Go.Joins Go.Deep
theorem maxlen_shaped {W:World}(h:W.ShapedOpen Tryz.prog):MaxLenAt W :=
 cell_of_shapedOpen_int (P:=Tryz.prog) (g:=5) (t:=3) (zero:=#[.int .i64 0]) h (of_decide_eq_true (by kernel_rfl)) (by kernel_rfl) rfl (by kernel_rfl) (by kernel_rfl) Tryz.underlying3
theorem pow10_laid {W : World} (h : laidMetH Tryz.prog Rows.shellWritesRow.laid W) : Lib.TabIs Tryz.prog W "internal/strconv.uint64pow10" .u64 Lib.pow10Tab :=
 have h2 : laidMet Tryz.prog (("internal/strconv.uint64pow10", Lib.tabData .u64 Lib.pow10Tab) :: _) W := laidMet.tail (laidMet.tail h)
 Lib.tabIs_of_head (g:=0) (t:=200) (e:=26) (n:=20) (by kernel_rfl) (by kernel_rfl) Tryz.underlying200 Tryz.underlying26 (by kernel_rfl) (by kernel_rfl) h2
theorem contract (H:Type) (enc:TypeId×Value→H) (W:World) (base:Nat) (args:Array Value) (ds gs:List (DataW H)) (before:List MemPlace)
  (hval:∀ (j:Nat) t v,Tryz.f5.params[j]?=some t→args[j]?=some v→Value.okWide Tryz.prog W .any base t v)
  (hL:laidMetH Tryz.prog Rows.shellWritesRow.laid W)
  (hsh:W.ShapedOpen Tryz.prog)
  (hW:DataW.Whole enc Tryz.prog Tryz.f5.params.toList Rows.shellWritesSpec.vars false W args.toList ds gs before):
  Calls Tryz.prog 5 args W fun e W'=>∃ v,e=.returned v∧Rows.shellWritesSpec.post enc Tryz.prog Tryz.f5 false true false false W args v W':=by
 have hW':=hW
 obtain ⟨p,q,hA0,hV,rfl,hfz,hnd⟩:=hW
 have hA:DataW.TrodAll enc Tryz.prog W 0 (fun _=>true) true Tryz.f5.params.toList args.toList ds p:=hA0
 rw [Tryz.params5] at hA hval
 obtain ⟨v0,vs0,d0,ds0,p0,q0,hargs,rfl,rfl,h0,r0⟩:=trodAll_cons hA
 obtain ⟨rfl,rfl,rfl⟩:=trodAll_nil r0
 obtain rfl:args=#[v0]:=by cases args;simp_all
 obtain ⟨rfl,rfl⟩:=trodVars_none hV
 obtain ⟨a0,l0,c0,rfl⟩:=okWide_slice Tryz.underlying43 (hval 0 _ v0 rfl rfl)
 obtain ⟨fu0,hf0⟩:=h0
 obtain ⟨B0,n0,k0,x0,hv0,hn0,hm0,hB0⟩:=read_wishes hf0
 rw [hv0] at hW' ⊢
 unfold maxLen at hm0
 refine (shwrites_any hB0 (by omega) (maxlen_shaped hsh) (pow10_laid hL)).mono fun e W' ⟨he,hN⟩=>?_
 subst he
 exact ⟨_,rfl,law_post laid_out (by kernel_rfl) rfl (by kernel_rfl) Tryz.underlying4 hW' rfl rfl rfl hN⟩
def args0:Array Value:=#[.slice none 0 0]
theorem laid_met (os:Os):laidMet Tryz.prog Rows.shellWritesRow.laid ((laidWorld28 os).forCall (fun _ _=>0) ⟨#[],args0,[]⟩).memory :=
 laidMet_of_run' 8 (by kernel_rfl) (by kernel_rfl)
theorem reads (os:Os){H:Type}(enc:TypeId×Value→H):∃ places,DataW.whole enc Tryz.prog ((laidWorld28 os).forCall (fun _ _=>0) ⟨#[],args0,[]⟩).memory Tryz.f5.params.toList Rows.shellWritesSpec.vars false args0.toList 8=some ([.nil],[],places) :=
 ⟨[],by kernel_rfl⟩
theorem lifted (os:Os) (started:os.Started) (H:Type) (enc:TypeId×Value→H) (F:Stop.Interp):
  ReturnsInHanded {} Tryz.checked os 5 .any ((OpenSpec.ofChange Rows.shellWritesSpec).preRow enc Tryz.prog Tryz.f5 Rows.shellWritesRow.domain false Rows.shellWritesRow.laid) (((OpenSpec.ofChange Rows.shellWritesSpec).at F).post enc Tryz.prog Tryz.f5 false true false false):=by
 obtain ⟨places,hx⟩:=reads os enc
 refine returnsInHanded_of_row (C:=Tryz.checked) (s:=OpenSpec.ofChange Rows.shellWritesSpec) own_knob started (by kernel_rfl) Tryz.func5
  (witness_row_at (enc:=enc) (C:=Tryz.checked) false (laidWorld28 os) args0 rfl (by kernel_rfl) (by kernel_rfl) (by kernel_rfl)
   (OpenSpec.preRow_of_cond 8 hx (by kernel_rfl) (fun k hk=>by cases hk) (by kernel_rfl) (laid_met os))) ?_
 intro W base args ds gs before hval hW _ _ _ hL hsh _
 exact contract H enc W base args ds gs before hval hL hsh hW
theorem e1:(Rows.shellWritesRow.inPlace==Tryz.pinned.checked.prog.inPlace 5)=true:=by kernel_rfl
theorem e2:(Rows.shellWritesRow.unfollowed==Tryz.pinned.checked.prog.unfollowed 5)=true:=by kernel_rfl
theorem e3:(Rows.shellWritesRow.recurses==Tryz.pinned.checked.prog.recurses 5)=true:=by kernel_rfl
theorem e4:(Rows.shellWritesRow.named==Tryz.pinned.checked.prog.varsNamed 5)=true:=by kernel_rfl
theorem e5:laidOutB Tryz.pinned.checked.prog=true:=by kernel_rfl
theorem e6:mapsRowed Tryz.pinned.checked.prog=true:=by kernel_rfl
theorem e7:(Tryz.pinned.checked.prog.stops==[])=true:=by kernel_rfl
theorem e8:(Tryz.pinned.checked.prog.stopKnobs==[])=true:=by kernel_rfl
theorem e9:Tryz.pinned.checked.prog.stopsHeard=true:=by kernel_rfl
theorem e10:Tryz.pinned.checked.prog.mayEnter=true:=by kernel_rfl
theorem e11:(Rows.shellWritesRow.lifted==Tryz.pinned.checked.prog.liftsFinal)=true:=by kernel_rfl
theorem e12:(Tryz.pinned.checked.prog.make==some Rows.shellWritesRow.make)=true:=by kernel_rfl
theorem e13:(Rows.shellWritesRow.plainKeys==Tryz.pinned.checked.prog.plainKeys)=true:=by kernel_rfl
theorem e14:Tryz.pinned.checked.prog.looks []=true:=by kernel_rfl
theorem e15:false=Rows.shellWritesRow.goesBy Tryz.pinned.checked.prog:=by kernel_rfl
theorem closed:joinedFacts Tryz.pinned.checked.prog 5 Tryz.f5 (OpenSpec.ofChange Rows.shellWritesSpec).bare Rows.shellWritesRow=true:=by
 unfold joinedFacts
 simp only [Bool.and_eq_true]
 repeat' refine And.intro ?_ ?_
 all_goals first|with_reducible exact e1|with_reducible exact e2|with_reducible exact e3|with_reducible exact e4|with_reducible exact e5|with_reducible exact e6|with_reducible exact e7|with_reducible exact e8|with_reducible exact e9|with_reducible exact e10|with_reducible exact e11|with_reducible exact e12|with_reducible exact e13|kernel_rfl
theorem said:Rows.ShellWritesSaid :=
 OpenClaim.holds_of_cond 5 Tryz.f5 rfl rfl rfl rfl rfl rfl rfl ⟨rfl,rfl,rfl,rfl,rfl⟩ rfl rfl rfl rfl rfl (by kernel_rfl) Tryz.func5 closed
  (of_decide_eq_true (by kernel_rfl)) (by unfold Func.isWrapper;first|(rw [if_pos (by decide +kernel)];kernel_rfl)|(rw [if_neg (by decide +kernel)];exact ⟨rfl,rfl⟩))
  (fun os started H enc _ F=>by rw [OpenClaim.pre_eq_preRow];exact lifted os started H enc F)
theorem plain (f : FuncId) (fn : Func) (hf : Tryz.pinned.checked.prog.funcNamed "permafrost/permafrostlaw28.ShellWrites" = some f) (hfn : Tryz.pinned.checked.prog.funcs[f]? = some fn) :
  true=Tryz.pinned.checked.prog.looks []∧∀ (j:Nat) t,fn.params[j]?=some t→Tryz.pinned.checked.prog.wantsStandIn t=false:=by
 obtain rfl : f = 5 := Option.some.inj ((show Tryz.prog.funcNamed "permafrost/permafrostlaw28.ShellWrites" = some 5 by kernel_rfl).symm.trans hf) |>.symm
 obtain rfl:fn=Tryz.f5:=(Option.some.inj (Tryz.func5.symm.trans hfn)).symm
 refine ⟨e14.symm,fun j t ht=>?_⟩
 rw [Tryz.params5] at ht
 have hall:(#[43]:Array TypeId).toList.all (fun t=>Tryz.pinned.checked.prog.wantsStandIn t==false)=true:=by kernel_rfl
 have hm:t∈(#[43]:Array TypeId).toList:=Array.mem_toList_iff.2 (Array.mem_of_getElem? ht)
 simpa using List.all_eq_true.1 hall t hm
end Go.Proofs.YtdodbdednpnddaaGreatDoor.shellWrites
namespace Go.Proofs.YtdodbdednpnddaaGreatDoor
theorem shell_writes:Rows.ShellWritesCardSaid :=
 Claim7.holds_tied_plain_at .later [] _ _ _ _ shellWrites.said (fun _ h=>by cases h) (by kernel_rfl) (fun _ h=>by cases h) shellWrites_row_tie rfl ⟨rfl,rfl⟩ (by kernel_rfl) rfl shellWrites.plain shellWrites.e15
end Go.Proofs.YtdodbdednpnddaaGreatDoor
