/-
  PROVED HERE: MountMarksCardSaid: for every input the law MountMarks returns true, and each argument reads afterwards as before; the tables that the row lists are tied to the program's text. No condition.
-/
import Derived.Shelf.Vars
import Derived.Test.YtlopmiaimignkaaGreatDoorPkM39
set_option maxRecDepth 100000
namespace Go.Proofs.YtlopmiaimignkaaGreatDoor.mountMarks
open Go.Proofs.Tryz
open Go.ChangeShapes Go.WideShapes Go.ChangeAt Go.RowKit Go.Joins Go.Deep
theorem uQ{W:World}(h:W.ShapedOpen prog):fD W :=
 cell_of_shapedOpen_int (P:=prog) (g:=2) (t:=3) (zero:=#[.int .i64 0]) h (of_decide_eq_true zk) zk rfl zk zk underlying3
theorem Ga(H:Type)(enc:TypeId×Value->H)(W:World)(base:Nat)(args:Array Value)(ds gs:List (DataW H))(before:List MemPlace)(hval:∀(j:Nat) t v,f3.params[j]?=some t->args[j]?=some v->Value.okWide prog W .any base t v)(hsh:W.ShapedOpen prog)(hW:DataW.Whole enc prog f3.params.toList Rows.mountMarksSpec.vars false W args.toList ds gs before):
  Calls prog 3 args W fun e W'=>∃v,e=.returned v/\Rows.mountMarksSpec.post enc prog f3 false true false false W args v W':=by
 have a:=hW
 obtain⟨p,q,b,s,rfl,G,I⟩:=hW
 have hA:DataW.TrodAll enc prog W 0 (fun _=>true) true f3.params.toList args.toList ds p:=b
 rw[params3] at hA hval
 obtain⟨v0,J,P,K,Q,R,r,rfl,rfl,h0,u⟩:=trodAll_cons hA
 obtain⟨c,L,S,M,T,U,rfl,rfl,rfl,h1,w⟩:=trodAll_cons u
 obtain⟨rfl,rfl,rfl⟩:=trodAll_nil w
 obtain rfl:args=#[v0,c]:=by cases args;simp_all
 obtain⟨rfl,rfl⟩:=trodVars_none s
 obtain⟨a0,V,X,rfl⟩:=okWide_slice underlying22 (hval 0 _ v0 rfl rfl)
 obtain⟨N,d⟩:=h0
 obtain⟨x,y,z,A,f,g,h,i⟩:=tz d
 obtain⟨Y,Z,c1,rfl⟩:=okWide_slice underlying22 (hval 1 _ c rfl rfl)
 obtain⟨O,k⟩:=h1
 obtain⟨B,C,D,E,l,m,n,o⟩:=tz k
 rw[f] at a ⊢
 rw[l] at a ⊢
 unfold maxLen at h n
 refine(yA _ _ x B y z C D A E W (uQ hsh) i o g m zo zo).mono fun e W' ⟨he,F⟩=>?_
 subst he
 exact⟨_,rfl,FC FE zk rfl zk underlying4 a rfl rfl rfl F⟩
def CH:Array Value:=#[.slice none 0 0,.slice none 0 0]
theorem FF(os:Os):laidMet prog Rows.mountMarksRow.laid ((rC os).forCall (fun _ _=>0) ⟨#[],CH,[]⟩).memory :=
 laidMet_of_run' 8 zk zk
theorem reads(os:Os){H:Type}(enc:TypeId×Value->H):∃places,DataW.whole enc prog ((rC os).forCall (fun _ _=>0) ⟨#[],CH,[]⟩).memory f3.params.toList Rows.mountMarksSpec.vars false CH.toList 8=some ([.nil,.nil],[],places) :=
 ⟨[],zk⟩
theorem lifted(os:Os)(started:os.Started)(H:Type)(enc:TypeId×Value->H)(F:Stop.Interp):
  ReturnsInHanded {} checked os 3 .any ((OpenSpec.ofChange Rows.mountMarksSpec).preRow enc prog f3 Rows.mountMarksRow.domain false Rows.mountMarksRow.laid) (((OpenSpec.ofChange Rows.mountMarksSpec).at F).post enc prog f3 false true false false):=by
 obtain⟨d,e⟩:=reads os enc
 refine returnsInHanded_of_row (C:=checked) (s:=OpenSpec.ofChange Rows.mountMarksSpec) Fb started zk func3
  (witness_row_at (enc:=enc) (C:=checked) false (rC os) CH rfl zk zk zk
   (OpenSpec.preRow_of_cond 8 e zk (fun k hk=>by cases hk) zk (FF os))) ?_
 intro W base b f g a c h _ _ _ _ hsh _
 exact Ga H enc W base b f g a c hsh h
theorem e1:(Rows.mountMarksRow.inPlace==Tryz.pinned.checked.prog.inPlace 3)=true:=by kernel_rfl
theorem e2:(Rows.mountMarksRow.unfollowed==Tryz.pinned.checked.prog.unfollowed 3)=true:=by kernel_rfl
theorem e3:(Rows.mountMarksRow.recurses==Tryz.pinned.checked.prog.recurses 3)=true:=by kernel_rfl
theorem e4:(Rows.mountMarksRow.named==Tryz.pinned.checked.prog.varsNamed 3)=true:=by kernel_rfl
theorem e5:laidOutB Tryz.pinned.checked.prog=true:=by kernel_rfl
theorem e6:mapsRowed Tryz.pinned.checked.prog=true:=by kernel_rfl
theorem e7:(Tryz.pinned.checked.prog.stops==[])=true:=by kernel_rfl
theorem e8:(Tryz.pinned.checked.prog.stopKnobs==[])=true:=by kernel_rfl
theorem e9:Tryz.pinned.checked.prog.stopsHeard=true:=by kernel_rfl
theorem e10:Tryz.pinned.checked.prog.mayEnter=true:=by kernel_rfl
theorem e11:(Rows.mountMarksRow.lifted==Tryz.pinned.checked.prog.liftsFinal)=true:=by kernel_rfl
theorem e12:(Tryz.pinned.checked.prog.make==some Rows.mountMarksRow.make)=true:=by kernel_rfl
theorem e13:(Rows.mountMarksRow.plainKeys==Tryz.pinned.checked.prog.plainKeys)=true:=by kernel_rfl
theorem e14:Tryz.pinned.checked.prog.looks []=true:=by kernel_rfl
theorem e15:false=Rows.mountMarksRow.goesBy Tryz.pinned.checked.prog:=by kernel_rfl
theorem Ip:joinedFacts Tryz.pinned.checked.prog 3 f3 (OpenSpec.ofChange Rows.mountMarksSpec).bare Rows.mountMarksRow=true:=by
 unfold joinedFacts
 simp only[Bool.and_eq_true]
 repeat' refine za ?_ ?_
 all_goals first|with_reducible exact e1|with_reducible exact e2|with_reducible exact e3|with_reducible exact e4|with_reducible exact e5|with_reducible exact e6|with_reducible exact e7|with_reducible exact e8|with_reducible exact e9|with_reducible exact e10|with_reducible exact e11|with_reducible exact e12|with_reducible exact e13|kernel_rfl
theorem said:Rows.MountMarksSaid :=
 OpenClaim.holds_of_cond 3 f3 rfl rfl rfl rfl rfl rfl rfl ⟨rfl,rfl,rfl,rfl,rfl⟩ rfl rfl rfl rfl rfl zk func3 Ip
  (of_decide_eq_true zk) (by unfold Func.isWrapper;first|(rw[if_pos (by decide +kernel)];kernel_rfl)|(rw[if_neg (by decide +kernel)];exact⟨rfl,rfl⟩))
  (fun c a H b _ F=>by rw[OpenClaim.pre_eq_preRow];exact lifted c a H b F)
theorem plain (f : FuncId) (fn : Func) (hf : Tryz.pinned.checked.prog.funcNamed "permafrost/permafrostlaw22.MountMarks" = some f) (hfn : Tryz.pinned.checked.prog.funcs[f]? = some fn) :
  true=Tryz.pinned.checked.prog.looks []/\∀(j:Nat) t,fn.params[j]?=some t->Tryz.pinned.checked.prog.wantsStandIn t=false:=by
 obtain rfl : f = 3 := Option.some.inj ((show prog.funcNamed "permafrost/permafrostlaw22.MountMarks" = some 3 by kernel_rfl).symm.trans hf) |>.symm
 obtain rfl:fn=f3:=(Option.some.inj (func3.symm.trans hfn)).symm
 refine⟨e14.symm,fun j t ht=>?_⟩
 rw[params3] at ht
 have hall:(#[22,22]:Array TypeId).toList.all (fun t=>Tryz.pinned.checked.prog.wantsStandIn t==false)=true:=by kernel_rfl
 have hm:t∈(#[22,22]:Array TypeId).toList:=Array.mem_toList_iff.2 (Array.mem_of_getElem? ht)
 simpa using List.all_eq_true.1 hall t hm
end Go.Proofs.YtlopmiaimignkaaGreatDoor.mountMarks
namespace Go.Proofs.YtlopmiaimignkaaGreatDoor
theorem mount_marks:Rows.MountMarksCardSaid :=
 Claim7.holds_tied_plain_at .later [] _ _ _ _ mountMarks.said (fun _ h=>by cases h) zk (fun _ h=>by cases h) mountMarks_row_tie rfl ⟨rfl,rfl⟩ zk rfl mountMarks.plain mountMarks.e15
end Go.Proofs.YtlopmiaimignkaaGreatDoor
