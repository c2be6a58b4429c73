/-
  PROVED HERE: texts that belong together, one behind the other; what each proves, and under which conditions, its own opening remark says: Reply22, Create22, Write22, ShelfS22, PathS22, HoldV22, RAdd22, Paths22, Op22, OpR22, OpE22, StDo22, LogS22, HoldS22, Shelf28, StMk28.
-/
import Derived.Shelf.Small.Wraps
import Derived.Shelf.Strings.Split
import Derived.Sort.Walk0
import Derived.Shelf.Strings.BuilderF
import Derived.Shelf.Strings.BuilderK
import Derived.Shelf.Strconv.Itoa3
import Derived.Test.YtdodbdednpnddaaGreatDoorPkT25
import Derived.Test.YtdodbdednpnddaaGreatDoorPkT33
set_option maxRecDepth 200000
set_option maxHeartbeats 8000000
namespace Go.Proofs.YtdodbdednpnddaaGreatDoor
open Go.RowKit
section
variable {w w':World}{g:Nat}{c0 c1 c2 c3 c4 c5 c6 c7 c8 c9:Value}{t:TypeId}
theorem cells10 (h:w.heap[g]?=some (.cells #[c0,c1,c2,c3,c4,c5,c6,c7,c8,c9] t (0,0))):w.cell? ⟨g,0,none⟩=some c0∧w.cell? ⟨g,1,none⟩=some c1∧w.cell? ⟨g,2,none⟩=some c2∧w.cell? ⟨g,3,none⟩=some c3∧w.cell? ⟨g,4,none⟩=some c4∧w.cell? ⟨g,5,none⟩=some c5∧w.cell? ⟨g,6,none⟩=some c6∧w.cell? ⟨g,7,none⟩=some c7∧w.cell? ⟨g,8,none⟩=some c8∧w.cell? ⟨g,9,none⟩=some c9 :=
 ⟨cellOf h rfl,cellOf h rfl,cellOf h rfl,cellOf h rfl,cellOf h rfl,cellOf h rfl,cellOf h rfl,cellOf h rfl,cellOf h rfl,cellOf h rfl⟩
theorem frozen10 (h:w.heap[g]?=some (.cells #[c0,c1,c2,c3,c4,c5,c6,c7,c8,c9] t (0,0))):w.frozen? ⟨g,0,none⟩=false∧w.frozen? ⟨g,1,none⟩=false∧w.frozen? ⟨g,2,none⟩=false∧w.frozen? ⟨g,3,none⟩=false∧w.frozen? ⟨g,4,none⟩=false∧w.frozen? ⟨g,5,none⟩=false∧w.frozen? ⟨g,6,none⟩=false∧w.frozen? ⟨g,7,none⟩=false∧w.frozen? ⟨g,8,none⟩=false∧w.frozen? ⟨g,9,none⟩=false :=
 ⟨frozenOf h 0,frozenOf h 1,frozenOf h 2,frozenOf h 3,frozenOf h 4,frozenOf h 5,frozenOf h 6,frozenOf h 7,frozenOf h 8,frozenOf h 9⟩
theorem ten_cells (h:w.heap[g]?=some (.cells #[c0,c1,c2,c3,c4,c5,c6,c7,c8,c9] t (0,0))) (x0 x1 x2 x3 x4 x5 x6 x7 x8 x9:Value):
  ((((((((((w.setCell ⟨g,0,none⟩ x0).setCell ⟨g,1,none⟩ x1).setCell ⟨g,2,none⟩ x2).setCell ⟨g,3,none⟩ x3).setCell ⟨g,4,none⟩ x4).setCell ⟨g,5,none⟩ x5).setCell ⟨g,6,none⟩ x6).setCell ⟨g,7,none⟩ x7).setCell ⟨g,8,none⟩ x8).setCell ⟨g,9,none⟩ x9).heap[g]?=some (.cells #[x0,x1,x2,x3,x4,x5,x6,x7,x8,x9] t (0,0)) ∧
  Keep (fun b=>b≠g) w ((((((((((w.setCell ⟨g,0,none⟩ x0).setCell ⟨g,1,none⟩ x1).setCell ⟨g,2,none⟩ x2).setCell ⟨g,3,none⟩ x3).setCell ⟨g,4,none⟩ x4).setCell ⟨g,5,none⟩ x5).setCell ⟨g,6,none⟩ x6).setCell ⟨g,7,none⟩ x7).setCell ⟨g,8,none⟩ x8).setCell ⟨g,9,none⟩ x9):=by
 have no:∀ (W:World) (k:Nat) (u:Value),Keep (fun b=>b≠g) w W→Keep (fun b=>b≠g) w (W.setCell ⟨g,k,none⟩ u):=fun W k u hW=>hW.setCell (p:=⟨g,k,none⟩) (fun hd=>absurd rfl hd) u
 have h0:(w.setCell ⟨g,0,none⟩ x0).heap[g]?=some (.cells #[x0,c1,c2,c3,c4,c5,c6,c7,c8,c9] t (0,0)):=setCell_block h 0 x0
 have h1:((w.setCell ⟨g,0,none⟩ x0).setCell ⟨g,1,none⟩ x1).heap[g]?=some (.cells #[x0,x1,c2,c3,c4,c5,c6,c7,c8,c9] t (0,0)):=setCell_block h0 1 x1
 have h2:(((w.setCell ⟨g,0,none⟩ x0).setCell ⟨g,1,none⟩ x1).setCell ⟨g,2,none⟩ x2).heap[g]?=some (.cells #[x0,x1,x2,c3,c4,c5,c6,c7,c8,c9] t (0,0)):=setCell_block h1 2 x2
 have h3:((((w.setCell ⟨g,0,none⟩ x0).setCell ⟨g,1,none⟩ x1).setCell ⟨g,2,none⟩ x2).setCell ⟨g,3,none⟩ x3).heap[g]?=some (.cells #[x0,x1,x2,x3,c4,c5,c6,c7,c8,c9] t (0,0)):=setCell_block h2 3 x3
 have h4:(((((w.setCell ⟨g,0,none⟩ x0).setCell ⟨g,1,none⟩ x1).setCell ⟨g,2,none⟩ x2).setCell ⟨g,3,none⟩ x3).setCell ⟨g,4,none⟩ x4).heap[g]?=some (.cells #[x0,x1,x2,x3,x4,c5,c6,c7,c8,c9] t (0,0)):=setCell_block h3 4 x4
 have h5:((((((w.setCell ⟨g,0,none⟩ x0).setCell ⟨g,1,none⟩ x1).setCell ⟨g,2,none⟩ x2).setCell ⟨g,3,none⟩ x3).setCell ⟨g,4,none⟩ x4).setCell ⟨g,5,none⟩ x5).heap[g]?=some (.cells #[x0,x1,x2,x3,x4,x5,c6,c7,c8,c9] t (0,0)):=setCell_block h4 5 x5
 have h6:(((((((w.setCell ⟨g,0,none⟩ x0).setCell ⟨g,1,none⟩ x1).setCell ⟨g,2,none⟩ x2).setCell ⟨g,3,none⟩ x3).setCell ⟨g,4,none⟩ x4).setCell ⟨g,5,none⟩ x5).setCell ⟨g,6,none⟩ x6).heap[g]?=some (.cells #[x0,x1,x2,x3,x4,x5,x6,c7,c8,c9] t (0,0)):=setCell_block h5 6 x6
 have h7:((((((((w.setCell ⟨g,0,none⟩ x0).setCell ⟨g,1,none⟩ x1).setCell ⟨g,2,none⟩ x2).setCell ⟨g,3,none⟩ x3).setCell ⟨g,4,none⟩ x4).setCell ⟨g,5,none⟩ x5).setCell ⟨g,6,none⟩ x6).setCell ⟨g,7,none⟩ x7).heap[g]?=some (.cells #[x0,x1,x2,x3,x4,x5,x6,x7,c8,c9] t (0,0)):=setCell_block h6 7 x7
 have h8:(((((((((w.setCell ⟨g,0,none⟩ x0).setCell ⟨g,1,none⟩ x1).setCell ⟨g,2,none⟩ x2).setCell ⟨g,3,none⟩ x3).setCell ⟨g,4,none⟩ x4).setCell ⟨g,5,none⟩ x5).setCell ⟨g,6,none⟩ x6).setCell ⟨g,7,none⟩ x7).setCell ⟨g,8,none⟩ x8).heap[g]?=some (.cells #[x0,x1,x2,x3,x4,x5,x6,x7,x8,c9] t (0,0)):=setCell_block h7 8 x8
 have h9:((((((((((w.setCell ⟨g,0,none⟩ x0).setCell ⟨g,1,none⟩ x1).setCell ⟨g,2,none⟩ x2).setCell ⟨g,3,none⟩ x3).setCell ⟨g,4,none⟩ x4).setCell ⟨g,5,none⟩ x5).setCell ⟨g,6,none⟩ x6).setCell ⟨g,7,none⟩ x7).setCell ⟨g,8,none⟩ x8).setCell ⟨g,9,none⟩ x9).heap[g]?=some (.cells #[x0,x1,x2,x3,x4,x5,x6,x7,x8,x9] t (0,0)):=setCell_block h8 9 x9
 exact ⟨h9,no _ _ _ (no _ _ _ (no _ _ _ (no _ _ _ (no _ _ _ (no _ _ _ (no _ _ _ (no _ _ _ (no _ _ _ (no _ _ _ (Keep.refl _ w))))))))))⟩
end
def ReplyP.nodeId (r:ReplyP):Int:=match r.node with|some x=>x.1|none=>0
def ReplyP.nd (r:ReplyP):NodeP:=match r.node with|some x=>x.2|none=>⟨0,0,0,0,false⟩
def replyVal (r:ReplyP) (D:Option Addr) (cd:Nat) (N:Option Addr) (cn:Nat):Value :=
 .agg #[.int .i64 r.err,.int .i64 r.n,.slice D r.data.length cd,.slice N r.names.length cn,.int .i64 r.nodeId,.int .i64 r.nd.kind,.int .i64 r.nd.links,.int .i64 r.nd.size,.int .u64 r.nd.till,.bool r.nd.shut]
theorem sno_any (e0:Int) (w:World):Calls Tryz.prog 173 #[.int .i64 e0] w fun e w'=>e=.returned (replyVal (noR e0) none 0 none 0)∧New w w':=by
 go_enter Tryz.func173,Tryz.ntmps173
 go_wp2_with fail
 obtain ⟨f0,f1,f2,f3,f4,f5,f6,f7,f8,f9⟩:=cells10 (heap_alloc_new w (.cells #[.int .i64 e0,.int .i64 0,.slice none 0 0,.slice none 0 0,.int .i64 0,.int .i64 0,.int .i64 0,.int .i64 0,.int .u64 0,.bool false] 30))
 refine bodyPost_ret (v:=replyVal (noR e0) none 0 none 0) (by simp [results,Tryz.results173,go_sem,f0,f1,f2,f3,f4,f5,f6,f7,f8,f9,replyVal,noR,ReplyP.nodeId,ReplyP.nd]) rfl ?_
 exact ⟨rfl,(New.refl w).alloc _⟩
def DoRet (w:World) (c:Col) (i:Cols) (b:Nat) (x:ReplyP×StateP) (e:Ending) (w':World):Prop :=
 (∃ D cd N cn,e=.returned (replyVal x.1 D cd N cn)∧Bs w' (fun _=>True) D x.1.data.length x.1.data∧x.1.data.length≤cd∧Ps w' (fun _=>True) N x.1.names.length x.1.names) ∧
 Keep (fun j=>j<w.heap.size∧¬ i.has (c j)) w w'∧∃ c' B',Ext w c c'∧StateAt w' c' i b B' x.2
section
variable {w w' w2:World}{c c' c2:Col}{i:Cols}{b:Nat}{B:StateB}{s s':StateP}{T:TreeP}{q':TreeB}
theorem StateAt.turnTree (h:StateAt w c i b B s) (hk:Keep (fun j=>j<w.heap.size∧c j≠i.t) w w') (hx:Ext w c c') (ht:TreeAt w' c' i.t B.bt q' T):StateAt w' c' i b { B with q:=q' } { s with T:=T }:=by
 have h0:∀ j,j<w.heap.size→c j=0→j<w.heap.size∧c j≠i.t:=fun j hj e=>⟨hj,by rw [e];exact h.ok.nz.1.symm⟩
 exact ⟨(hk.block b h.lt ⟨h.lt,by rw [h.col];exact h.ok.ne.2.1.symm⟩).trans h.state,(hx _ h.lt).trans h.col,ht,h.snaps.keep hk hx (fun j hj hc=>hc.elim (fun e=>⟨hj,by rw [e];exact h.ok.ne.1.symm⟩) (h0 j hj)),fun k hk'=>(h.fd k hk').keep hk hx h0,h.ok⟩
theorem has_then (k:Keep (fun j=>j<w.heap.size∧¬ i.has (c j)) w w2) (x:Ext w c c2) (k':Keep (fun j=>j<w2.heap.size∧¬ i.has (c2 j)) w2 w'):Keep (fun j=>j<w.heap.size∧¬ i.has (c j)) w w' :=
 k.trans2 k' fun j hj hh=>⟨Nat.lt_of_lt_of_le hj k.size,by rw [x j hj];exact hh.2⟩
theorem has_new (k:Keep (fun j=>j<w.heap.size∧¬ i.has (c j)) w w2){g:Nat}(hg:w.heap.size≤g) (k':Keep (fun j=>j≠g) w2 w'):Keep (fun j=>j<w.heap.size∧¬ i.has (c j)) w w' :=
 k.trans2 k' fun j hj _ e=>by omega
theorem StateAt.reply (h:StateAt w c i b B s){g f:Nat}(hg:c g=f) (hf:f≠0∧¬ i.has f) (k:Keep (fun j=>j≠g) w w'):StateAt w' c i b B s :=
 h.keep k (Ext.refl _ _) fun j _ hc e=>by subst e;rw [hg] at hc;exact hc.elim hf.2 hf.1
theorem reply_col (c:Col) (i:Cols) (n:Nat):∃ (c1:Col) (f:Nat),(∀ b,b<n→c1 b=c b)∧c1 n=f∧(f≠0∧¬ i.has f)∧∀ b,n<b→c1 b=0:=by
 refine ⟨fun b=>if b<n then c b else if b=n then i.t+i.s+i.o+1 else 0,i.t+i.s+i.o+1,fun b hb=>if_pos hb,?_,⟨by omega,fun h=>by unfold Cols.has at h;omega⟩,fun b hb=>?_⟩
 ·show (if n<n then _ else if n=n then _ else _)=_
  rw [if_neg (Nat.lt_irrefl _),if_pos rfl]
 ·show (if b<n then _ else if b=n then _ else _)=_
  rw [if_neg (by omega),if_neg (by omega)]
end
def opCells (o:OpP) (E:Option Addr) (cd:Nat):Array Value:=#[.int .i64 o.kind,.string (strOf o.path),.string (strOf o.goal),.int .i64 o.fd,.int .i64 o.at_,.int .i64 o.n,.int .u64 o.till,.int .i64 o.snap,.slice E o.data.length cd]
def opVal (o:OpP) (E:Option Addr) (cd:Nat):Value:=.agg (opCells o E cd)
section
variable {w w' w2:World}{c c' c2:Col}{i:Cols}{b:Nat}{B:StateB}{s s':StateP}
theorem box_cols (c:Col) (i:Cols) (n:Nat):∃ (c1:Col) (f:Nat),(∀ b,b<n→c1 b=c b)∧c1 n=0∧c1 (n+1)=f∧(f≠0∧¬ i.has f)∧∀ b,n+1<b→c1 b=0:=by
 obtain ⟨c1,f,h1,h2,h3,h4⟩:=reply_col (fun b=>if b<n then c b else 0) i (n+1)
 refine ⟨c1,f,fun b hb=>(h1 b (by omega)).trans (if_pos hb),(h1 n (by omega)).trans (if_neg (Nat.lt_irrefl _)),h2,h3,h4⟩
theorem op_box (c:Col) (i:Cols) (w:World) (o:OpP) (E:Option Addr) (cd:Nat):∃ (c1:Col) (f:Nat) (wa wb:World) (go g:Nat),(∀ b,b<w.heap.size→c1 b=c b)∧c1 w.heap.size=0∧c1 (w.heap.size+1)=f∧(f≠0∧¬ i.has f)∧(∀ b,w.heap.size+1<b→c1 b=0) ∧
  wa=w.alloc (.cells (opCells o E cd) 46)∧wb=wa.alloc (.cells #[.int .i64 0,.int .i64 0,.slice none 0 0,.slice none 0 0,.int .i64 0,.int .i64 0,.int .i64 0,.int .i64 0,.int .u64 0,.bool false] 30)∧go=w.heap.size∧g=go+1∧wa.heap.size=g∧New w wb∧wb.heap[go]?=some (.cells (opCells o E cd) 46 (0,0))∧wb.heap[g]?=some (.cells #[.int .i64 0,.int .i64 0,.slice none 0 0,.slice none 0 0,.int .i64 0,.int .i64 0,.int .i64 0,.int .i64 0,.int .u64 0,.bool false] 30 (0,0)):=by
 obtain ⟨c1,f,hx1,hco,hcg,hf,hc0⟩:=box_cols c i w.heap.size
 have k1:=(New.refl w).alloc (.cells (opCells o E cd) 46)
 have x1:=heap_alloc_new w (.cells (opCells o E cd) 46)
 have z1:(w.alloc (.cells (opCells o E cd) 46)).heap.size=w.heap.size+1:=by simp
 have k2:=(New.refl (w.alloc (.cells (opCells o E cd) 46))).alloc (.cells #[.int .i64 0,.int .i64 0,.slice none 0 0,.slice none 0 0,.int .i64 0,.int .i64 0,.int .i64 0,.int .i64 0,.int .u64 0,.bool false] 30)
 have x2:=heap_alloc_new (w.alloc (.cells (opCells o E cd) 46)) (.cells #[.int .i64 0,.int .i64 0,.slice none 0 0,.slice none 0 0,.int .i64 0,.int .i64 0,.int .i64 0,.int .i64 0,.int .u64 0,.bool false] 30)
 have xo:=k2.blockAt x1 trivial
 exact ⟨c1,f,_,_,_,_,hx1,hco,hcg,hf,hc0,rfl,rfl,rfl,rfl,z1,k1.new k2,xo,by rw [← z1];exact x2⟩
end
end Go.Proofs.YtdodbdednpnddaaGreatDoor
namespace Go.Proofs.YtdodbdednpnddaaGreatDoor
open Go.Shelf
def lCutPrefix_ren:Go.Shelf.Ren:=⟨fun|103=>283|210=>320|206=>346|n=>n,fun|9=>9|4=>4|24=>366|3=>3|n=>n,fun|n=>n⟩
theorem lCutPrefix:Go.Proofs.Lays.n103 Tryz.prog lCutPrefix_ren:={
 mixed:=by kernel_rfl
 f103:=Tryz.func283.trans (congrArg some (by kernel_rfl))
 f206:=Tryz.func346.trans (congrArg some (by kernel_rfl))
 f210:=Tryz.func320.trans (congrArg some (by kernel_rfl))
 t3:=Tryz.underlying3
 a3:=Tryz.isAgg3
 z3:=Tryz.sizeOf3
 v3:=Tryz.zeroValue3
 t4:=Tryz.underlying4
 a4:=Tryz.isAgg4
 z4:=Tryz.sizeOf4
 v4:=Tryz.zeroValue4
 t9:=Tryz.underlying9
 a9:=Tryz.isAgg9
 z9:=Tryz.sizeOf9
 v9:=Tryz.zeroValue9
 t24:=Tryz.underlying366
 a24:=Tryz.isAgg366
 z24:=Tryz.sizeOf366
 v24:=Tryz.zeroValue366 }
def lSplit_ren:Go.Shelf.Ren:=⟨fun|146=>284|221=>321|268=>347|138=>348|143=>349|195=>358|197=>359|218=>360|219=>361|260=>363|217=>364|225=>365|224=>366|267=>367|266=>368|314=>369|n=>n,fun|9=>9|31=>25|3=>3|4=>4|0=>0|105=>363|21=>21|5=>5|46=>114|119=>416|139=>419|138=>418|146=>435|51=>163|n=>n,fun|1=>5|3=>3|4=>4|n=>n⟩
theorem lSplit:Go.Proofs.Lays.n146 Tryz.prog lSplit_ren:={
 mixed:=by kernel_rfl
 f138:=Tryz.func348.trans (congrArg some (by kernel_rfl))
 f143:=Tryz.func349.trans (congrArg some (by kernel_rfl))
 f146:=Tryz.func284.trans (congrArg some (by kernel_rfl))
 f195:=Tryz.func358.trans (congrArg some (by kernel_rfl))
 f197:=Tryz.func359.trans (congrArg some (by kernel_rfl))
 f217:=Tryz.func364.trans (congrArg some (by kernel_rfl))
 f218:=Tryz.func360.trans (congrArg some (by kernel_rfl))
 f219:=Tryz.func361.trans (congrArg some (by kernel_rfl))
 f221:=Tryz.func321.trans (congrArg some (by kernel_rfl))
 f224:=Tryz.func366.trans (congrArg some (by kernel_rfl))
 f225:=Tryz.func365.trans (congrArg some (by kernel_rfl))
 f260:=Tryz.func363.trans (congrArg some (by kernel_rfl))
 f266:=Tryz.func368.trans (congrArg some (by kernel_rfl))
 f267:=Tryz.func367.trans (congrArg some (by kernel_rfl))
 f268:=Tryz.func347.trans (congrArg some (by kernel_rfl))
 f314:=Tryz.func369.trans (congrArg some (by kernel_rfl))
 t0:=Tryz.underlying0
 a0:=Tryz.isAgg0
 z0:=Tryz.sizeOf0
 v0:=Tryz.zeroValue0
 t3:=Tryz.underlying3
 a3:=Tryz.isAgg3
 z3:=Tryz.sizeOf3
 v3:=Tryz.zeroValue3
 t4:=Tryz.underlying4
 a4:=Tryz.isAgg4
 z4:=Tryz.sizeOf4
 v4:=Tryz.zeroValue4
 t5:=Tryz.underlying5
 a5:=Tryz.isAgg5
 z5:=Tryz.sizeOf5
 v5:=Tryz.zeroValue5
 t9:=Tryz.underlying9
 a9:=Tryz.isAgg9
 z9:=Tryz.sizeOf9
 v9:=Tryz.zeroValue9
 t21:=Tryz.underlying21
 a21:=Tryz.isAgg21
 z21:=Tryz.sizeOf21
 v21:=Tryz.zeroValue21
 t31:=Tryz.underlying25
 a31:=Tryz.isAgg25
 z31:=Tryz.sizeOf25
 v31:=Tryz.zeroValue25
 t46:=Tryz.underlying114
 a46:=Tryz.isAgg114
 z46:=Tryz.sizeOf114
 v46:=Tryz.zeroValue114
 t51:=Tryz.underlying163
 a51:=Tryz.isAgg163
 z51:=Tryz.sizeOf163
 v51:=Tryz.zeroValue163
 t105:=Tryz.underlying363
 a105:=Tryz.isAgg363
 z105:=Tryz.sizeOf363
 v105:=Tryz.zeroValue363
 t119:=Tryz.underlying416
 a119:=Tryz.isAgg416
 z119:=Tryz.sizeOf416
 t138:=Tryz.underlying418
 a138:=Tryz.isAgg418
 z138:=Tryz.sizeOf418
 v138:=Tryz.zeroValue418
 t139:=Tryz.underlying419
 a139:=Tryz.isAgg419
 z139:=Tryz.sizeOf419
 v139:=Tryz.zeroValue419
 t146:=Tryz.underlying435
 a146:=Tryz.isAgg435
 z146:=Tryz.sizeOf435
 v146:=Tryz.zeroValue435
 g1:=by kernel_rfl
 g3:=by kernel_rfl
 g4:=by kernel_rfl }
end Go.Proofs.YtdodbdednpnddaaGreatDoor
namespace Go.Proofs.YtdodbdednpnddaaGreatDoor
open Go.RowKit
def MaxLenAt (w:World):Prop:=∃ m:Int,w.cell? ⟨5,0,none⟩=some (.int .i64 m)
theorem MaxLenAt.new {w w':World}(h:MaxLenAt w) (k:New w w'):MaxLenAt w':=by obtain ⟨m,hm⟩:=h;exact ⟨m,k.cell_some hm trivial⟩
theorem strOf_data (x:ByteArray):strOf x.data.toList=x:=by cases x;simp [strOf]
theorem splitB_str (r:List UInt8):Lib.splitB (strOf [47]) 0 (Lib.countB (strOf r) (strOf [47])) (strOf r)=(splitS r).map strOf:=by
 have h:=Lib.splitB_data (strOf [47]) 0 (Lib.countB (strOf r) (strOf [47])) (strOf r)
 have e:Lib.splitK (strOf [47]).data.toList 0 (Lib.countB (strOf r) (strOf [47])) (strOf r).data.toList=splitS r:=by
  rw [← split_eq r.length r (Nat.le_refl _)];rfl
 rw [e] at h
 rw [← h,List.map_map]
 conv=>lhs;rw [← List.map_id (Lib.splitB _ _ _ _)]
 exact List.map_congr_left fun x _=>(strOf_data x).symm
theorem countB_str (r:List UInt8):Lib.countB (strOf r) (strOf [47])+1=(splitS r).length:=by
 have h:=congrArg List.length (splitB_str r)
 rw [List.length_map] at h
 rw [← h]
 exact (Lib.splitB_all (strOf [47]) (by decide) 0 _ (strOf r) rfl).symm
theorem ps_made (w:World) (p:PathP) (t:TypeId):Ps (w.alloc (.cells ((p.map strOf).map Value.string).toArray t)) (fun b=>w.heap.size≤b) (some ⟨w.heap.size,0,none⟩) p.length p:=by
 refine ⟨by simp,fun _=>⟨w.heap.size,0,rfl,Nat.le_refl _,by simp,fun k u hu=>?_⟩⟩
 rw [Nat.zero_add]
 refine cellOf (heap_alloc_new w _) ?_
 rw [List.getElem?_toArray,List.map_map]
 exact hu
theorem psplit_any (s:List UInt8) (hs:s.length≤100000) (w:World) (hm:MaxLenAt w):Calls Tryz.prog 233 #[.string (strOf s)] w fun e w' =>
  (∃ A n c,e=.returned (.tuple #[.slice A n c,.int .i64 (splitP s).2])∧Ps w' (fun b=>w.heap.size≤b) A n (splitP s).1∧n≤c∧c≤9223372036854775807)∧New w w':=by
 have HC:=Lib.hid (Any.strings_CutPrefix lCutPrefix (strOf s) (strOf [47]) w)
 have h47:strOf [47]={ data:=#[47] }:=rfl
 have hno:∀ z:Int,(splitP s)=([],z)→∀ (W:World) (k:New w W),(∃ A n c,(Ending.returned (.tuple #[.slice none 0 0,.int .i64 z]))=.returned (.tuple #[.slice A n c,.int .i64 (splitP s).2])∧Ps W (fun b=>w.heap.size≤b) A n (splitP s).1∧n≤c∧c≤9223372036854775807)∧New w W:=fun z hz W k=>by
  rw [hz];exact ⟨⟨none,0,0,rfl,Row.nil _ _ _ _,Nat.le_refl _,by decide⟩,k⟩
 have HNO:=Lib.hid hno
 clear hno
 cases s with
 | nil =>
  rw [show Lib.trimPrefix (strOf []).data.toList (strOf [47]).data.toList=[] from rfl,show Lib.hasPrefix (strOf []).data.toList (strOf [47]).data.toList=false from rfl] at HC
  rw [h47] at HC
  go_enter Tryz.func233,Tryz.ntmps233
  go_wp2_with fail
  refine HC.out.mono ?_
  rintro e w1 ⟨rfl,rfl⟩
  go_wp2_with fail
  refine bodyPost_ret (v:=.tuple #[.slice none 0 0,.int .i64 12]) (by simp [results,Tryz.results233,go_sem]) rfl ?_
  exact HNO.out 12 rfl _ (New.refl _)
 | cons b r =>
  have hp:Lib.hasPrefix (strOf (b::r)).data.toList (strOf [47]).data.toList=decide (b=47):=by
   show (((47:UInt8)==b)&&List.isPrefixOf [] r)=_
   rw [show List.isPrefixOf [] r=true by cases r <;> rfl,Bool.and_true]
   by_cases h:b=47
   ·subst h;rfl
   ·rw [decide_eq_false h];exact beq_eq_false_iff_ne.2 fun e=>h e.symm
  by_cases hb:b=47
  ·subst hb
   rw [hp,show Lib.trimPrefix (strOf (47::r)).data.toList (strOf [47]).data.toList=r from by unfold Lib.trimPrefix;rw [hp];rfl] at HC
   have hrr:(⟨r.toArray⟩:ByteArray)=strOf r:=rfl
   rw [hrr,h47,decide_eq_true rfl] at HC
   have HM:=Lib.hid hm
   have hsp:splitP (47::r)=if r=[] then ([],0) else if finePath (splitS r)≠0 then ([],finePath (splitS r)) else (splitS r,0):=by
    have h0:¬ ((47:UInt8)≠47):=by decide
    unfold splitP
    dsimp only
    rw [if_neg h0]
   by_cases hr:r=[]
   ·rw [if_pos hr] at hsp
    subst hr
    clear hp hrr
    go_enter Tryz.func233,Tryz.ntmps233
    go_wp2_with fail
    refine HC.out.mono ?_
    rintro e w1 ⟨rfl,rfl⟩
    go_wp2_with fail
    refine bodyPost_ret (v:=.tuple #[.slice none 0 0,.int .i64 0]) (by simp [results,Tryz.results233,go_sem]) rfl ?_
    exact HNO.out 0 rfl _ (New.refl _)
   ·rw [if_neg hr] at hsp
    have hne:(r==[])=false:=beq_eq_false_iff_ne.2 hr
    obtain ⟨m,hm⟩:=hm
    have HS:=Lib.hid (Any.strings_Split lSplit (by kernel_rfl) (strOf r) (strOf [47]) m w (by show r.toArray.size<_;rw [List.size_toArray];simp at hs;omega) hm (by decide))
    rw [countB_str] at HS
    rw [show Lib.splitB (strOf [47]) 0 (Lib.countB (strOf r) (strOf [47])) (strOf r)=(splitS r).map strOf from splitB_str r,h47] at HS
    have hps:=ps_made w (splitS r) (lSplit_ren.t 9)
    have k2:=(New.refl w).alloc (.cells (((splitS r).map strOf).map Value.string).toArray (lSplit_ren.t 9))
    have hsl:r.length≤100000:=by simp at hs;omega
    have hlen:(splitS r).length≤1000000:=by have:=(splitA_many r []).2;unfold splitS;omega
    have HF:=Lib.hid (pfine_any _ _ _ (splitS r).length (splitS r) _ hps (by omega) (fun nm hnm=>by have:=splitA_len r [] nm hnm;simp at this;omega))
    have HP:=Lib.hid (And.intro hps k2)
    generalize World.alloc w (.cells (((splitS r).map strOf).map Value.string).toArray (lSplit_ren.t 9))=w2 at *
    have HSP:=Lib.hid hsp
    obtain ⟨f,hf⟩:∃ f,f=finePath (splitS r):=⟨_,rfl⟩
    rw [← hf] at HF HSP
    obtain ⟨n,hn⟩:∃ n,n=(splitS r).length:=⟨_,rfl⟩
    rw [← hn] at HS HF HP hlen
    clear hp hrr hsp hps k2 hn hr hm hf
    go_enter Tryz.func233,Tryz.ntmps233
    go_wp2_with fail
    refine HC.out.mono ?_
    rintro e w1 ⟨rfl,rfl⟩
    clear HC
    go_wp2_with fail
    refine HS.out.mono ?_
    rintro e w3 ⟨rfl,rfl⟩
    clear HS
    go_wp2_with fail
    refine HF.out.mono ?_
    rintro e w4 ⟨rfl,k4⟩
    have HK:=Lib.hid k4
    clear HF k4
    by_cases h0:f=0
    ·subst h0
     have HE:Hid (splitP (47::r)=(splitS r,0)):=Lib.hid (by have:=HSP.out;rwa [if_neg (by decide)] at this)
     clear HSP
     go_wp2_with fail
     refine bodyPost_ret (v:=.tuple #[.slice (some ⟨w1.heap.size,0,none⟩) n n,.int .i64 0]) (by simp [results,Tryz.results233,go_sem]) rfl ?_
     rw [HE.out]
     exact ⟨⟨_,_,_,rfl,Row.new HP.out.1 HK.out,Nat.le_refl _,by omega⟩,HP.out.2.new HK.out⟩
    ·have hb2:(f !=0)=true:=by simpa using h0
     have HE:Hid (splitP (47::r)=([],f)):=Lib.hid (by have:=HSP.out;rwa [if_pos h0] at this)
     clear HSP h0
     go_wp2_with fail
     refine bodyPost_ret (v:=.tuple #[.slice none 0 0,.int .i64 f]) (by simp [results,Tryz.results233,go_sem]) rfl ?_
     exact HNO.out f HE.out _ (HP.out.2.new HK.out)
  ·rw [hp,decide_eq_false hb] at HC
   rw [h47] at HC
   have hsp:splitP (b::r)=([],12):=if_pos hb
   generalize (⟨(Lib.trimPrefix _ _).toArray⟩:ByteArray)=x at HC
   clear hp
   go_enter Tryz.func233,Tryz.ntmps233
   go_wp2_with fail
   refine HC.out.mono ?_
   rintro e w1 ⟨rfl,rfl⟩
   go_wp2_with fail
   refine bodyPost_ret (v:=.tuple #[.slice none 0 0,.int .i64 12]) (by simp [results,Tryz.results233,go_sem]) rfl ?_
   exact HNO.out 12 hsp _ (New.refl _)
def pathOf (md:Region.Mode) (ops:Array Oper) (i:Nat):List Nat :=
 ((List.range ops.size).foldl (fun acc j=>match ops[j]? with
  | some o=>if o.after.any (fun e=>Region.binds md e&&acc.contains e.on) then j::acc else acc
  | none=>acc) [i]).filter (fun j=>j !=i)
section
variable {P:Program}{ops:Array Oper}{Q:Exit→Act→World→Prop}{md:Region.Mode}{Ws Pi:List Nat}{S T:World→Prop}
theorem clear_sub {l:Array Bool}(hs:∀ k∈Ws,k∈Pi) (h:clearB Pi l=true):clearB Ws l=true :=
 List.all_eq_true.2 fun k hk=>List.all_eq_true.1 h k (hs k hk)
theorem wpAnyW_firstP {i:Nat}{oi:Oper}{v:Value}(hi:ops[i]?=some oi) (hsel:∀ (j:Nat) (o:Oper) cs b,ops[j]?=some o→o.op≠.select cs b)
  (hQ:∀ c a w,Q (.panic c) (a.put oi.dst v) w→Q (.panic c) a w) (hc:chkW md ops Pi i=true) (hs:∀ k∈Ws,k∈Pi):
  ∀ (fuel:Nat) (listed:Array Bool) (a:Act) (w:World),
   (∀ j oj,ops[j]?=some oj→j≠i→listed.getD j true=false→(∀ e∈oj.after,Region.binds md e=true→e.on≠i)→oi.apart ops oj=true) →
   i∈Region.ready md ops listed→clearB Pi listed=true→YieldsIf P ops T oi v a→S w→T w →
   wpAnyW P md ops Q Ws S T fuel (listed.setIfInBounds i true) (a.put oi.dst v) w→wpAnyW P md ops Q Ws S T (fuel+1) listed a w:=by
 have hiP:i∉Pi:=by
  have:=(Bool.and_eq_true_iff.1 hc).1
  simpa using this
 intro fuel
 induction fuel with
 | zero =>
  intro listed a w _ hr _ hy hS hT H
  refine ⟨fun h=>(by rw [h] at hr;cases hr),fun j hj=>?_⟩
  by_cases hji:j=i
  ·subst hji;exact hy.wpOp hi hT ⟨⟨hS,fun _=>hT⟩,H⟩
  ·have:=ready_mono hj hji
   rw [H.1] at this
   cases this
 | succ fuel ih =>
  intro listed a w hfree hr hcl hy hS hT H
  refine ⟨fun h=>(by rw [h] at hr;cases hr),fun j hj=>?_⟩
  by_cases hji:j=i
  ·subst hji;exact hy.wpOp hi hT ⟨⟨hS,fun _=>hT⟩,H⟩
  ·have h1:=H.2 j (ready_mono hj hji)
   obtain ⟨hjun,oj,hoj,hall⟩:=mem_ready.1 hj
   have hiun:=(mem_ready.1 hr).1
   have hjP:j∉Pi:=chk_not hc hcl hiun hj
   have hnot:∀ e∈oj.after,Region.binds md e=true→e.on≠i:=fun e he hb heq=>by
    have h1:=hall e he hb
    have h0:=hiun
    rw [heq] at h1
    rcases Nat.lt_or_ge i listed.size with h'|h'
    ·simp [h'] at h0 h1;rw [h0] at h1;cases h1
    ·simp [Array.getElem?_eq_none h'] at h1
   have h2:=wpOp_putIf hoj (hfree j oj hoj hji hjun hnot) (fun cs b=>hsel i oi cs b hi) (fun cs b=>hsel j oj cs b hoj) hQ hy h1
   have hfree':∀ k ok,ops[k]?=some ok→k≠i→(listed.setIfInBounds j true).getD k true=false →
     (∀ e∈ok.after,Region.binds md e=true→e.on≠i)→oi.apart ops ok=true:=fun k ok hk hki hun hno=>by
    refine hfree k ok hk hki ?_ hno
    by_cases hjk:j=k
    ·subst hjk;exact hjun
    ·rw [getD_set_ne true hjk] at hun;exact hun
   have hcl2:clearB Pi (listed.setIfInBounds j true)=true:=clear_set hcl hjP
   have hcl3:clearB Ws ((listed.setIfInBounds i true).setIfInBounds j true)=true:=clear_sub hs (clear_set (clear_set hcl hiP) hjP)
   refine wpOp_mono (fun a' w' h3=>⟨⟨h3.2.1.1,fun _=>h3.2.1.2 hcl3⟩,ih (listed.setIfInBounds j true) a' w' hfree' (ready_mono hr (Ne.symm hji)) hcl2 h3.1 h3.2.1.1 (h3.2.1.2 hcl3) ?_⟩) h2
   rw [Array.setIfInBounds_comm _ _ hji]
   exact h3.2.2
def HV (P:Program) (md:Region.Mode) (ops:Array Oper) (Q:Exit→Act→World→Prop) (last:Nat) (w0:World) (fuel:Nat) (listed:Array Bool) (a:Act) (w:World):Prop :=
 wpAnyW P md ops Q [last] (fun _=>True) (New w0) fuel listed a w
variable {last:Nat}{w0:World}{fuel:Nat}{listed:Array Bool}{a:Act}{w:World}
end
theorem row_made (w:World) (vs:List Value) (t:TypeId) (n size:Nat) (h:vs.length=n*size):Row (w.alloc (.cells vs.toArray t)) (fun b=>b=w.heap.size) (some ⟨w.heap.size,0,none⟩) n size vs :=
 ⟨h,fun _=>⟨w.heap.size,0,rfl,rfl,by simp,fun k u hu=>by rw [Nat.zero_add];exact cellOf (heap_alloc_new w _) (by rw [List.getElem?_toArray];exact hu)⟩⟩
section
variable {P:Program}{Q:Exit→Act→World→Prop}
end
section
variable {w w':World}{c c':Col}{i j bt:Nat}{R:RTreeP}
end
theorem info2_names:(Tryz.prog.info? 25).map (fun i=>(i.zero.map fun z=>z.cells.size,i.size,i.bytes))=some (some 1,1,24):=by kernel_rfl
def OwnPss (w:World) (base:Nat) (A:Option Addr) (n c:Nat) (ps:List PathP):Prop :=
 ∃ vs:List Value,Own w base 25 1 A n c vs∧ps.length=n∧∀ j (h:j<ps.length),∃ A' c',vs[j]?=some (.slice A' ps[j].length c')∧ps[j].length≤c'∧c'≤9223372036854775807∧Ps w (fun b=>base≤b∧some b≠blk A) A' ps[j].length ps[j]
theorem OwnPss.nil (w:World) (base:Nat):OwnPss w base none 0 0 []:=⟨[],Own.nil _ _ _ _,rfl,fun k hk=>absurd hk (by simp)⟩
theorem OwnPss.new {w w':World}{base:Nat}{A:Option Addr}{n c:Nat}{ps:List PathP}(h:OwnPss w base A n c ps) (hk:New w w'):OwnPss w' base A n c ps:=by
 obtain ⟨vs,h1,h2,h3⟩:=h
 refine ⟨vs,own_keep h1 hk (fun _ _=>trivial),h2,fun j hj=>?_⟩
 obtain ⟨A',c',e,hc,hm,hb⟩:=h3 j hj
 exact ⟨A',c',e,hc,hm,Row.new hb hk⟩
theorem OwnPss.base {w:World}{base base':Nat}{A:Option Addr}{n c:Nat}{ps:List PathP}(h:OwnPss w base' A n c ps) (hb:base≤base'):OwnPss w base A n c ps:=by
 obtain ⟨vs,h1,h2,h3⟩:=h
 refine ⟨vs,own_base h1 hb,h2,fun j hj=>?_⟩
 obtain ⟨A',c',e,hc,hm,h4⟩:=h3 j hj
 exact ⟨A',c',e,hc,hm,Row.imp h4 fun b _ hd=>⟨Nat.le_trans hb hd.1,hd.2⟩⟩
theorem app_pss {Q:Exit→Act→World→Prop}{ops:Array Oper}{rest:List Oper}{w:World}{o:Oper}{a:Act}(hgd:o.guard=none){s x:Operand}
  (ho:o.op=.call { callee:=.builtin .append,args:=#[s,x],argTypes:=#[244,244] })
  {base:Nat} {A:Option Addr} {n c:Nat} {ps:List PathP} (hs:a.eval s=.slice A n c) (hown:OwnPss w base A n c ps)
  {D:Nat→Prop} {A2:Option Addr} {c2:Nat} {A1:Option Addr} {m c1:Nat} {p:PathP} (hx:a.eval x=.slice A2 1 c2) (hr:Row w D A2 1 1 [.slice A1 m c1]) (hm:p.length=m) (hmc:m≤c1) (hcm:c1≤9223372036854775807) (hp:Ps w (fun b=>base≤b∧some b≠blk A) A1 m p)
  (hn:n≤1000) (hbase:base≤w.heap.size)
  (h:∀ A' c' w',OwnPss w' base A' (n+1) c' (ps++[p])→w.grownBy w' (blk A)→wpList Tryz.prog ops Q rest (a.put o.dst (.slice A' (n+1) c')) w'):wpList Tryz.prog ops Q (o::rest) a w:=by
 obtain ⟨vs,h1,h2,h3⟩:=hown
 obtain ⟨i,z,q1,q2,q3,q4,q5⟩:=parts2 info2_names
 refine wpList_append_row w hgd s x 244 ho base 25 i z 1 24 Tryz.underlying244 q1 q2 q3 q4 q5 (by decide) A n c vs hs h1 D A2 1 c2 _ hx hr (fun u hu=>by rw [List.mem_singleton] at hu;subst hu;rfl) (by unfold maxLen;omega) (by omega) hbase ?_
 intro A' c' w' o' hg hbk
 have kk:Keep (fun b=>some b≠blk A) w w':=⟨hg.os,hg.tape,hg.output,hg.size,fun j hj hne=>hg.block j hj hne⟩
 have hvl:vs.length=n:=by have:=h1.1;omega
 have move:∀ {A1:Option Addr} {m:Nat} {p:PathP},Ps w (fun b=>base≤b∧some b≠blk A) A1 m p→Ps w' (fun b=>base≤b∧some b≠blk A') A1 m p:=fun {A1 m p} hh=>by
  have h4:=Row.imp (E:=fun b=>base≤b∧some b≠blk A∧b<w.heap.size) hh fun b hb hd=>⟨hd.1,hd.2,hb⟩
  refine (Row.keep h4 kk fun b _ hd=>hd.2.1).imp fun b _ hd=>⟨hd.1,fun e=>?_⟩
  rcases hbk with e2|e2
  ·exact hd.2.1 (e.trans e2)
  ·rw [e2] at e;injection e with e;have:=hd.2.2;omega
 refine h A' c' w' ⟨vs++[.slice A1 m c1],o',by rw [List.length_append,h2];rfl,fun j hj=>?_⟩ hg
 rw [List.length_append,List.length_singleton] at hj
 by_cases e:j<ps.length
 ·obtain ⟨B1,d1,g1,g2,g3,g4⟩:=h3 j e
  simp only [List.getElem_append_left e]
  exact ⟨B1,d1,by rw [List.getElem?_append_left (by omega)];exact g1,g2,g3,move g4⟩
 ·have e2:j=ps.length:=by omega
  subst e2
  simp only [List.getElem_append_right (Nat.le_refl _),Nat.sub_self,List.getElem_cons_zero]
  exact ⟨A1,c1,by rw [h2,← hvl,List.getElem?_append_right (Nat.le_refl _),Nat.sub_self,hm];rfl,by rw [hm];exact hmc,hcm,by rw [hm];exact move hp⟩
def rawPaths (o:OpP):Option PathP :=
 if o.kind=7∨o.kind=10 then some [o.path,o.goal]
 else if o.kind=1∨o.kind=2∨o.kind=3∨o.kind=8∨o.kind=9∨o.kind=11∨o.kind=12∨o.kind=13 then some [o.path]
 else if o.kind=4∨o.kind=5∨o.kind=6∨o.kind=14∨o.kind=15∨o.kind=16∨o.kind=17 then some []
 else none
def splitL:PathP→Int
 | []=>0
 | s::r=>if (splitP s).2≠0 then (splitP s).2 else splitL r
def PathsRet (w:World) (L:PathP) (e:Ending) (w':World):Prop :=
 New w w'∧((splitL L≠0∧e=.returned (.tuple #[.slice none 0 0,.int .i64 (splitL L)]))∨(splitL L=0∧∃ A c,e=.returned (.tuple #[.slice A L.length c,.int .i64 0])∧OwnPss w' w.heap.size A L.length c (L.map fun s=>(splitP s).1)))
section
variable {w w':World}{b:Nat}
theorem spaths_any (o:OpP) (E:Option Addr) (cd:Nat){L:PathP}(hk:rawPaths o=some L) (hL:∀ s∈L,s.length≤100000) (hm:MaxLenAt w):
  Calls Tryz.prog 172 #[.pointer (some ⟨b,0,none⟩),opVal o E cd] w (PathsRet w L):=by
 have k1:=(New.refl w).alloc (.cells (opCells o E cd) 46)
 have x1:=heap_alloc_new w (.cells (opCells o E cd) 46)
 unfold opVal
 unfold opCells at *
 obtain ⟨wa,hwa⟩:∃ wa,wa=w.alloc (.cells #[.int .i64 o.kind,.string (strOf o.path),.string (strOf o.goal),.int .i64 o.fd,.int .i64 o.at_,.int .i64 o.n,.int .u64 o.till,.int .i64 o.snap,.slice E o.data.length cd] 46):=⟨_,rfl⟩
 rw [← hwa] at k1 x1
 obtain ⟨go,hgo⟩:∃ g,g=w.heap.size:=⟨_,rfl⟩
 rw [← hgo] at x1
 obtain ⟨o0,o1,o2⟩:=cs3 x1
 have H1:=Lib.hid (And.intro k1 (And.intro hk (And.intro hL hm)))
 obtain ⟨z,hz⟩:∃ z,z=o.kind:=⟨_,rfl⟩
 have HZ:=Lib.hid hz
 have o0':wa.cell? ⟨go,0,none⟩=some (.int .i64 z):=by rw [hz];exact o0
 clear k1 x1 hk hL hm hz o0
 go_enter Tryz.func172,Tryz.ntmps172
 go_upto_region 2 with fail
 rw [← hwa,← hgo]
 clear hwa hgo
 go_upto_block 0 with fail
 go_cut [4,5,6] from 14 to 41 (fun s4 s5 s6 wx=>s4=.slice none 0 0∧s5=.int .i64 0∧∃ A c,s6=.slice A L.length c∧Ps wx (fun _=>True) A L.length L∧New wa wx)
 case first =>
  have hk:=H1.out.2.1
  unfold rawPaths at hk
  by_cases h1:o.kind=7∨o.kind=10
  ·rw [if_pos h1] at hk
   injection hk with hk
   rw [← HZ.out] at h1
   have HK:=Lib.hid hk
   clear hk
   rcases h1 with rfl|rfl
   all_goals
    clear HZ
    go_wp2_with fail
    go_meet
    have hk:=HK.out
    subst hk
    exact ⟨rfl,rfl,_,_,rfl,(ps_made wa [o.path,o.goal] 9).imp fun _ _ _=>trivial,(New.refl wa).alloc _⟩
  rw [if_neg h1] at hk
  by_cases h2:o.kind=1∨o.kind=2∨o.kind=3∨o.kind=8∨o.kind=9∨o.kind=11∨o.kind=12∨o.kind=13
  ·rw [if_pos h2] at hk
   injection hk with hk
   rw [← HZ.out] at h2
   have HK:=Lib.hid hk
   clear hk h1
   rcases h2 with rfl|rfl|rfl|rfl|rfl|rfl|rfl|rfl
   all_goals
    clear HZ
    go_wp2_with fail
    go_meet
    have hk:=HK.out
    subst hk
    exact ⟨rfl,rfl,_,_,rfl,(ps_made wa [o.path] 9).imp fun _ _ _=>trivial,(New.refl wa).alloc _⟩
  rw [if_neg h2] at hk
  by_cases h3:o.kind=4∨o.kind=5∨o.kind=6∨o.kind=14∨o.kind=15∨o.kind=16∨o.kind=17
  ·rw [if_pos h3] at hk
   injection hk with hk
   rw [← HZ.out] at h3
   have HK:=Lib.hid hk
   clear hk h1 h2
   rcases h3 with rfl|rfl|rfl|rfl|rfl|rfl|rfl
   all_goals
    clear HZ
    go_wp2_with fail
    go_meet
    have hk:=HK.out
    subst hk
    exact ⟨rfl,rfl,none,0,rfl,Row.nil _ _ _ _,New.refl wa⟩
  ·rw [if_neg h3] at hk;cases hk
 case rest =>
  obtain ⟨rfl,rfl,A,cA,rfl,hPs,kL⟩:=hcut
  have H2:=Lib.hid (And.intro hPs (H1.out.1.new kL))
  obtain ⟨n,hn⟩:∃ n,n=L.length:=⟨_,rfl⟩
  rw [← hn] at H2 ⊢
  have HN:=Lib.hid hn
  have hn2:n≤2:=by
   have hk:=H1.out.2.1
   unfold rawPaths at hk
   rw [hn]
   split at hk
   ·injection hk with hk;rw [← hk];simp
   ·split at hk
    ·injection hk with hk;rw [← hk];simp
    ·split at hk
     ·injection hk with hk;rw [← hk];simp
     ·cases hk
  clear hPs kL hn o0' o1 o2 HZ
  go_wp2_with fail
  go_loopw [4,5,7,44] (fun s4 s5 s7 i wx=>∃ (k:Nat) (Ao:Option Addr) (co:Nat),s4=.slice none 0 0∧s5=.int .i64 0∧k≤n∧i=.int .i64 (k:Int)∧s7=.slice Ao k co∧OwnPss wx wc.heap.size Ao k co ((L.take k).map fun s=>(splitP s).1)∧splitL L=splitL (L.drop k)∧New wc wx) (fun _ _ _ i _=>n-(intOf i).toNat)
  case atStart=>exact ⟨0,none,0,rfl,rfl,Nat.zero_le _,rfl,rfl,OwnPss.nil _ _,rfl,New.refl wc⟩
  case round =>
   obtain ⟨k,Ao,co,rfl,rfl,hk,rfl,rfl,hown,hsp,hK⟩:=hrel
   have HO:=Lib.hid (And.intro hown (And.intro hsp hK))
   clear hown hsp hK
   by_cases hlt:k<n
   ·have hlk:k<L.length:=by have:=HN.out;omega
    obtain ⟨b1,off,rfl,u0⟩:=Ps.at_ (Row.new H2.out.1 HO.out.2.2) hlk
    have HSP:=Lib.hid (psplit_any L[k] (H1.out.2.2.1 _ (List.getElem_mem hlk)) wr (H1.out.2.2.2.new (H2.out.2.new HO.out.2.2)))
    have HD:Hid (L.drop k=L[k]::L.drop (k+1)∧L.take (k+1)=L.take k++[L[k]]∧(L.take k).length=k):=Lib.hid ⟨List.drop_eq_getElem_cons hlk,by rw [List.take_add_one,List.getElem?_eq_getElem hlk];rfl,by rw [List.length_take];omega⟩
    generalize L[k]=s at *
    go_wp2_with fail
    refine HSP.out.mono ?_
    rintro e w1 ⟨⟨A1,m1,c1,rfl,hp1,hm1,hc1⟩,k1⟩
    have HP:=Lib.hid (And.intro hp1 (And.intro k1 (And.intro hm1 hc1)))
    have HE:Hid (splitP s=((splitP s).1,(splitP s).2)):=Lib.hid rfl
    generalize (splitP s).1=p1 at *
    generalize (splitP s).2=z1 at *
    clear HSP hp1 k1 hm1 hc1
    by_cases hz:z1=0
    ·subst hz
     go_upto_region 30 with fail
     have k3:=(New.refl w1).alloc (.cells (#[Value.slice A1 m1 c1]) 25)
     have x3:=row_made w1 [.slice A1 m1 c1] 25 1 1 rfl
     have HW:=Lib.hid (And.intro k3 x3)
     clear k3 x3
     have hle:wc.heap.size≤wr.heap.size:=HO.out.2.2.size
     have hle1:wr.heap.size≤w1.heap.size:=HP.out.2.1.size
     have HB:=Lib.hid hle
     have hB:wc.heap.size≤(w1.alloc (.cells #[Value.slice A1 m1 c1] 25)).heap.size:=by have:=HW.out.1.size;omega
     have hk9:k≤1000:=by omega
     have hp9:Ps (w1.alloc (.cells #[Value.slice A1 m1 c1] 25)) (fun b=>wc.heap.size≤b∧some b≠blk Ao) A1 m1 p1:=(Row.new HP.out.1 HW.out.1).imp fun b _ hb=>⟨by omega,fun e=>by
      obtain ⟨vs,h1,-⟩:=HO.out.1
      have:=(own_lt h1 b e.symm).2;omega⟩
     go_wp2_with (at_builtin;refine app_pss rfl rfl rfl (OwnPss.new HO.out.1 (HP.out.2.1.new HW.out.1)) rfl HW.out.2 (Ps.len HP.out.1) HP.out.2.2.1 HP.out.2.2.2 hp9 hk9 hB ?_;intro A9 c9 w9 hown9 hg9;have HX:=Lib.hid (And.intro hown9 hg9);clear hown9 hg9)
     go_roundw
     case rel =>
      have hN9:New wc w9:=((HO.out.2.2.new HP.out.2.1).new HW.out.1).grown HX.out.2 fun j hj _=>by
       obtain ⟨vs,h1,-⟩:=HO.out.1
       exact (own_lt h1 j hj).1
      refine ⟨k+1,A9,c9,rfl,rfl,by omega,by go_num,rfl,?_,?_,hN9⟩
      ·have h9:=HX.out.1
       rw [HD.out.2.1,List.map_append,List.map_singleton,HE.out]
       exact h9
      ·rw [HO.out.2.1,HD.out.1]
       conv=>lhs;unfold splitL
       rw [HE.out];rfl
     case measure=>simp [intOf];omega
    ·have hb2:(z1 !=0)=true:=by simpa using hz
     have HZ:=Lib.hid hz
     clear hz
     go_wp2_with fail
     refine bodyPost_ret (v:=.tuple #[.slice none 0 0,.int .i64 z1]) (by simp [results,Tryz.results172,go_sem]) rfl ?_
     have e1:splitL L=z1:=by
      rw [HO.out.2.1,HD.out.1]
      unfold splitL
      rw [HE.out,if_pos HZ.out]
     exact ⟨(H2.out.2.new HO.out.2.2).new HP.out.2.1,.inl ⟨by rw [e1];exact HZ.out,by rw [e1]⟩⟩
   ·obtain rfl:k=n:=by omega
    go_wp2_with fail
    refine bodyPost_ret (v:=.tuple #[.slice Ao k co,.int .i64 0]) (by simp [results,Tryz.results172,go_sem]) rfl ?_
    obtain ⟨hown,hsp,hK⟩:=HO.out
    have e0:splitL L=0:=by rw [hsp,List.drop_eq_nil_of_le (by have:=HN.out;omega)];rfl
    rw [List.take_of_length_le (by have:=HN.out;omega)] at hown
    refine ⟨H2.out.2.new hK,.inr ⟨e0,Ao,co,by rw [← HN.out],by rw [← HN.out];exact hown.base H2.out.2.size⟩⟩
end
structure AskP where
 path:Bool
 goal:Bool
 fd:Bool
 part:Bool
 till:Bool
 snap:Bool
 data:Bool
def askNo:AskP:=⟨false,false,false,false,false,false,false⟩
def asksOf (k:Int):Option AskP :=
 if k=1∨k=2∨k=8∨k=9 then some ⟨true,false,false,false,false,false,false⟩
 else if k=3∨k=11∨k=12 then some ⟨true,false,false,false,false,true,false⟩
 else if k=4 then some ⟨false,false,true,true,false,false,false⟩
 else if k=5 then some ⟨false,false,true,false,false,false,true⟩
 else if k=6 then some ⟨false,false,true,false,true,false,false⟩
 else if k=7∨k=10 then some ⟨true,true,false,false,false,false,false⟩
 else if k=13 then some ⟨true,false,false,false,true,false,false⟩
 else if k=16 then some ⟨false,false,false,false,true,false,false⟩
 else if k=15 then some ⟨false,false,false,false,false,true,false⟩
 else if k=14∨k=17 then some askNo
 else none
def askVal (a:AskP):Value:=.agg #[.bool a.path,.bool a.goal,.bool a.fd,.bool a.part,.bool a.till,.bool a.snap,.bool a.data]
def shortI (n:Int):Bool:=decide (0≤n)&&decide (n≤65535)
def longOf (o:OpP) (a:AskP):Bool:=(a.path&&decide (200<o.path.length))||(a.goal&&decide (200<o.goal.length))||(a.data&&decide (600<o.data.length))
def wideOf (o:OpP) (a:AskP):Bool:=(a.fd && !shortI o.fd)||(a.part&&(!shortI o.at_ || !shortI o.n))||(a.snap && !shortI o.snap)
def rightOf (o:OpP) (a:AskP):Int:=if longOf o a then 3 else if wideOf o a then 1 else 0
theorem asks_none {k:Int}(h1:k≠1) (h2:k≠2) (h3:k≠3) (h4:k≠4) (h5:k≠5) (h6:k≠6) (h7:k≠7) (h8:k≠8) (h9:k≠9) (h10:k≠10) (h11:k≠11) (h12:k≠12) (h13:k≠13) (h14:k≠14) (h15:k≠15) (h16:k≠16) (h17:k≠17):asksOf k=none:=by
 unfold asksOf
 simp only [h1,h2,h3,h4,h5,h6,h7,h8,h9,h10,h11,h12,h13,h14,h15,h16,h17,or_self,if_false]
theorem kinds (k:Int):k=1∨k=2∨k=3∨k=4∨k=5∨k=6∨k=7∨k=8∨k=9∨k=10∨k=11∨k=12∨k=13∨k=14∨k=15∨k=16∨k=17∨(k≠1∧k≠2∧k≠3∧k≠4∧k≠5∧k≠6∧k≠7∧k≠8∧k≠9∧k≠10∧k≠11∧k≠12∧k≠13∧k≠14∧k≠15∧k≠16∧k≠17):=by omega
section
variable {w w':World}
theorem asks_any (k:Int) (w:World):Calls Tryz.prog 103 #[.int .i64 k] w fun e w'=>e=.returned (.tuple #[askVal ((asksOf k).getD askNo),.bool (asksOf k).isSome])∧New w w':=by
 obtain ⟨v,hv⟩:∃ v,v=Value.tuple #[askVal ((asksOf k).getD askNo),.bool (asksOf k).isSome]:=⟨_,rfl⟩
 rw [← hv]
 have HV:=Lib.hid hv
 clear hv
 rcases kinds k with rfl|rfl|rfl|rfl|rfl|rfl|rfl|rfl|rfl|rfl|rfl|rfl|rfl|rfl|rfl|rfl|rfl|⟨h1,h2,h3,h4,h5,h6,h7,h8,h9,h10,h11,h12,h13,h14,h15,h16,h17⟩
 case inr.inr.inr.inr.inr.inr.inr.inr.inr.inr.inr.inr.inr.inr.inr.inr.inr =>
  rw [asks_none h1 h2 h3 h4 h5 h6 h7 h8 h9 h10 h11 h12 h13 h14 h15 h16 h17] at HV
  have HH:=Lib.hid (And.intro h1 h2)
  go_enter Tryz.func103,Tryz.ntmps103
  go_wp2_with fail
  refine bodyPost_ret (v:=v) (by rw [HV.out];simp [results,Tryz.results103,go_sem,askVal,askNo]) rfl ?_
  exact ⟨rfl,(New.refl w).alloc _⟩
 all_goals
  go_enter Tryz.func103,Tryz.ntmps103
  go_wp2_with fail
  refine bodyPost_ret (v:=v) (by rw [HV.out];simp [results,Tryz.results103,go_sem,askVal,asksOf,askNo]) rfl ?_
  exact ⟨rfl,(New.refl w).alloc _⟩
theorem short_any (n:Int) (w:World):Calls Tryz.prog 138 #[.int .i64 n] w fun e w'=>e=.returned (.bool (shortI n))∧w=w':=by
 obtain ⟨v,hv⟩:∃ v,v=shortI n:=⟨_,rfl⟩
 rw [← hv]
 by_cases h0:0≤n
 ·have HV:Hid (v=decide (n≤65535)):=Lib.hid (by rw [hv];unfold shortI;rw [decide_eq_true h0,Bool.true_and])
  clear hv
  go_enter Tryz.func138,Tryz.ntmps138
  go_wp2_with fail
  go_ret
  exact ⟨by rw [HV.out];rfl,rfl⟩
 ·have HV:Hid (v=false):=Lib.hid (by rw [hv];unfold shortI;rw [decide_eq_false h0,Bool.false_and])
  clear hv
  go_enter Tryz.func138,Tryz.ntmps138
  go_wp2_with fail
  go_ret
  exact ⟨by rw [HV.out];rfl,rfl⟩
end
section
variable {w w':World}
theorem strSz (l:List UInt8):(strOf l).size=l.length:=List.size_toArray
theorem two_boxes (o:OpP) (E:Option Addr) (cd:Nat) (a:AskP) (w:World) (t1 t2:TypeId):∃ w2,w2=(w.alloc (.cells (opCells o E cd) t1)).alloc (.cells #[.bool a.path,.bool a.goal,.bool a.fd,.bool a.part,.bool a.till,.bool a.snap,.bool a.data] t2)∧New w w2 ∧
  w2.heap[w.heap.size]?=some (.cells (opCells o E cd) t1 (0,0))∧w2.heap[w.heap.size+1]?=some (.cells #[.bool a.path,.bool a.goal,.bool a.fd,.bool a.part,.bool a.till,.bool a.snap,.bool a.data] t2 (0,0)):=by
 refine ⟨_,rfl,((New.refl w).alloc _).alloc _,?_,?_⟩
 ·exact ((New.refl _).alloc _).blockAt (heap_alloc_new w _) trivial
 ·have h:=heap_alloc_new (w.alloc (.cells (opCells o E cd) t1)) (.cells #[.bool a.path,.bool a.goal,.bool a.fd,.bool a.part,.bool a.till,.bool a.snap,.bool a.data] t2)
  rwa [show (w.alloc (.cells (opCells o E cd) t1)).heap.size=w.heap.size+1 by simp] at h
theorem op_at {g:Nat}{t:TypeId}{o:OpP}{E:Option Addr}{cd:Nat}(h:w.heap[g]?=some (.cells (opCells o E cd) t (0,0))):
  w.cell? ⟨g,0,none⟩=some (.int .i64 o.kind)∧w.cell? ⟨g,1,none⟩=some (.string (strOf o.path))∧w.cell? ⟨g,2,none⟩=some (.string (strOf o.goal))∧w.cell? ⟨g,3,none⟩=some (.int .i64 o.fd)∧w.cell? ⟨g,4,none⟩=some (.int .i64 o.at_) ∧
  w.cell? ⟨g,5,none⟩=some (.int .i64 o.n)∧w.cell? ⟨g,6,none⟩=some (.int .u64 o.till)∧w.cell? ⟨g,7,none⟩=some (.int .i64 o.snap)∧w.cell? ⟨g,8,none⟩=some (.slice E o.data.length cd) :=
 ⟨cellOf h rfl,cellOf h rfl,cellOf h rfl,cellOf h rfl,cellOf h rfl,cellOf h rfl,cellOf h rfl,cellOf h rfl,cellOf h rfl⟩
theorem ask_at {g:Nat}{t:TypeId}{a:AskP}(h:w.heap[g]?=some (.cells #[.bool a.path,.bool a.goal,.bool a.fd,.bool a.part,.bool a.till,.bool a.snap,.bool a.data] t (0,0))):
  w.cell? ⟨g,0,none⟩=some (.bool a.path)∧w.cell? ⟨g,1,none⟩=some (.bool a.goal)∧w.cell? ⟨g,2,none⟩=some (.bool a.fd)∧w.cell? ⟨g,3,none⟩=some (.bool a.part)∧w.cell? ⟨g,4,none⟩=some (.bool a.till)∧w.cell? ⟨g,5,none⟩=some (.bool a.snap)∧w.cell? ⟨g,6,none⟩=some (.bool a.data) :=
 ⟨cellOf h rfl,cellOf h rfl,cellOf h rfl,cellOf h rfl,cellOf h rfl,cellOf h rfl,cellOf h rfl⟩
theorem asks_ten {k:Int}{a:AskP}(h:asksOf k=some a):a=⟨true,false,false,false,false,false,false⟩∨a=⟨true,false,false,false,false,true,false⟩∨a=⟨false,false,true,true,false,false,false⟩∨a=⟨false,false,true,false,false,false,true⟩∨a=⟨false,false,true,false,true,false,false⟩∨a=⟨true,true,false,false,false,false,false⟩∨a=⟨true,false,false,false,true,false,false⟩∨a=⟨false,false,false,false,true,false,false⟩∨a=⟨false,false,false,false,false,true,false⟩∨a=⟨false,false,false,false,false,false,false⟩:=by
 unfold asksOf at h
 iterate 10
  split at h
  ·injection h with h;subst h;simp [askNo]
 cases h
theorem oright_any (o:OpP) (E:Option Addr) (cd:Nat){k:Int}{a:AskP}(hk:asksOf k=some a) (w:World) (hp:o.path.length≤1099511627776) (hg:o.goal.length≤1099511627776) (hd:o.data.length≤1099511627776):
  Calls Tryz.prog 105 #[opVal o E cd,askVal a] w fun e w'=>e=.returned (.int .i64 (rightOf o a))∧New w w':=by
 obtain ⟨w2,hw2,k2,x1,x2⟩:=two_boxes o E cd a w 46 153
 obtain ⟨v,hv⟩:∃ v,v=rightOf o a:=⟨_,rfl⟩
 rw [← hv]
 unfold opVal askVal
 unfold opCells at hw2 ⊢
 obtain ⟨-,o1,o2,o3,o4,o5,-,o7,o8⟩:=op_at x1
 obtain ⟨a0,a1,a2,a3,-,a5,a6⟩:=ask_at x2
 have HV:=Lib.hid hv
 have HW:=Lib.hid hw2
 have HS:=fun (n:Int) (W:World)=>Lib.hid (short_any n W)
 have H1:=Lib.hid k2
 have HP:=asks_ten hk
 clear k2 x1 x2 hv hw2 hk
 generalize hgs:w.heap.size=g1 at *
 have HG:=Lib.hid hgs
 clear hgs
 rcases HP with rfl|rfl|rfl|rfl|rfl|rfl|rfl|rfl|rfl|rfl
 case _ =>
  by_cases l_path:200<o.path.length
  ·have l_pathi:(200:Int)<((strOf o.path).size:Int):=by rw [strSz];omega
   have HR:Hid (v=3):=Lib.hid (by rw [HV.out];simp [rightOf,longOf,l_path])
   clear HV
   go_enter Tryz.func105,Tryz.ntmps105
   go_upto_region 1 with fail
   rw [HG.out,← HW.out]
   go_wp2_with fail
   go_ret
   exact ⟨by rw [HR.out];rfl,H1.out⟩
  ·have l_pathi:¬ (200:Int)<((strOf o.path).size:Int):=by rw [strSz];omega
   have HR:Hid (v=0):=Lib.hid (by rw [HV.out];simp [rightOf,longOf,wideOf,l_path])
   clear HV
   go_enter Tryz.func105,Tryz.ntmps105
   go_upto_region 1 with fail
   rw [HG.out,← HW.out]
   go_wp2_with fail
   go_ret
   exact ⟨by rw [HR.out];rfl,H1.out⟩
 case _ =>
  by_cases l_path:200<o.path.length
  ·have l_pathi:(200:Int)<((strOf o.path).size:Int):=by rw [strSz];omega
   have HR:Hid (v=3):=Lib.hid (by rw [HV.out];simp [rightOf,longOf,l_path])
   clear HV
   go_enter Tryz.func105,Tryz.ntmps105
   go_upto_region 1 with fail
   rw [HG.out,← HW.out]
   go_wp2_with fail
   go_ret
   exact ⟨by rw [HR.out];rfl,H1.out⟩
  ·have l_pathi:¬ (200:Int)<((strOf o.path).size:Int):=by rw [strSz];omega
   cases s_snap:shortI o.snap
   ·skip
    have HR:Hid (v=1):=Lib.hid (by rw [HV.out];simp [rightOf,longOf,wideOf,l_path,s_snap])
    clear HV
    go_enter Tryz.func105,Tryz.ntmps105
    go_upto_region 1 with fail
    rw [HG.out,← HW.out]
    go_wp2_with fail
    refine (HS o.snap _).out.mono ?_
    rintro e w1 ⟨rfl,rfl⟩
    go_wp2_with fail
    go_ret
    exact ⟨by rw [HR.out];rfl,H1.out⟩
   ·skip
    have HR:Hid (v=0):=Lib.hid (by rw [HV.out];simp [rightOf,longOf,wideOf,l_path,s_snap])
    clear HV
    go_enter Tryz.func105,Tryz.ntmps105
    go_upto_region 1 with fail
    rw [HG.out,← HW.out]
    go_wp2_with fail
    refine (HS o.snap _).out.mono ?_
    rintro e w1 ⟨rfl,rfl⟩
    go_wp2_with fail
    go_ret
    exact ⟨by rw [HR.out];rfl,H1.out⟩
 case _ =>
  cases s_fd:shortI o.fd
  ·skip
   have HR:Hid (v=1):=Lib.hid (by rw [HV.out];simp [rightOf,longOf,wideOf,s_fd])
   clear HV
   go_enter Tryz.func105,Tryz.ntmps105
   go_upto_region 1 with fail
   rw [HG.out,← HW.out]
   go_wp2_with fail
   refine (HS o.fd _).out.mono ?_
   rintro e w1 ⟨rfl,rfl⟩
   go_wp2_with fail
   go_ret
   exact ⟨by rw [HR.out];rfl,H1.out⟩
  ·skip
   cases s_at_:shortI o.at_
   ·skip
    have HR:Hid (v=1):=Lib.hid (by rw [HV.out];simp [rightOf,longOf,wideOf,s_fd,s_at_])
    clear HV
    go_enter Tryz.func105,Tryz.ntmps105
    go_upto_region 1 with fail
    rw [HG.out,← HW.out]
    go_wp2_with fail
    refine (HS o.fd _).out.mono ?_
    rintro e w1 ⟨rfl,rfl⟩
    go_wp2_with fail
    refine (HS o.at_ _).out.mono ?_
    rintro e w1 ⟨rfl,rfl⟩
    go_wp2_with fail
    go_ret
    exact ⟨by rw [HR.out];rfl,H1.out⟩
   ·skip
    cases s_n:shortI o.n
    ·skip
     have HR:Hid (v=1):=Lib.hid (by rw [HV.out];simp [rightOf,longOf,wideOf,s_fd,s_at_,s_n])
     clear HV
     go_enter Tryz.func105,Tryz.ntmps105
     go_upto_region 1 with fail
     rw [HG.out,← HW.out]
     go_wp2_with fail
     refine (HS o.fd _).out.mono ?_
     rintro e w1 ⟨rfl,rfl⟩
     go_wp2_with fail
     refine (HS o.at_ _).out.mono ?_
     rintro e w1 ⟨rfl,rfl⟩
     go_wp2_with fail
     refine (HS o.n _).out.mono ?_
     rintro e w1 ⟨rfl,rfl⟩
     go_wp2_with fail
     go_ret
     exact ⟨by rw [HR.out];rfl,H1.out⟩
    ·skip
     have HR:Hid (v=0):=Lib.hid (by rw [HV.out];simp [rightOf,longOf,wideOf,s_fd,s_at_,s_n])
     clear HV
     go_enter Tryz.func105,Tryz.ntmps105
     go_upto_region 1 with fail
     rw [HG.out,← HW.out]
     go_wp2_with fail
     refine (HS o.fd _).out.mono ?_
     rintro e w1 ⟨rfl,rfl⟩
     go_wp2_with fail
     refine (HS o.at_ _).out.mono ?_
     rintro e w1 ⟨rfl,rfl⟩
     go_wp2_with fail
     refine (HS o.n _).out.mono ?_
     rintro e w1 ⟨rfl,rfl⟩
     go_wp2_with fail
     go_ret
     exact ⟨by rw [HR.out];rfl,H1.out⟩
 case _ =>
  by_cases l_data:600<o.data.length
  ·have l_datai:(600:Int)<(o.data.length:Int):=by omega
   have HR:Hid (v=3):=Lib.hid (by rw [HV.out];simp [rightOf,longOf,l_data])
   clear HV
   go_enter Tryz.func105,Tryz.ntmps105
   go_upto_region 1 with fail
   rw [HG.out,← HW.out]
   go_wp2_with fail
   go_ret
   exact ⟨by rw [HR.out];rfl,H1.out⟩
  ·have l_datai:¬ (600:Int)<(o.data.length:Int):=by omega
   cases s_fd:shortI o.fd
   ·skip
    have HR:Hid (v=1):=Lib.hid (by rw [HV.out];simp [rightOf,longOf,wideOf,l_data,s_fd])
    clear HV
    go_enter Tryz.func105,Tryz.ntmps105
    go_upto_region 1 with fail
    rw [HG.out,← HW.out]
    go_wp2_with fail
    refine (HS o.fd _).out.mono ?_
    rintro e w1 ⟨rfl,rfl⟩
    go_wp2_with fail
    go_ret
    exact ⟨by rw [HR.out];rfl,H1.out⟩
   ·skip
    have HR:Hid (v=0):=Lib.hid (by rw [HV.out];simp [rightOf,longOf,wideOf,l_data,s_fd])
    clear HV
    go_enter Tryz.func105,Tryz.ntmps105
    go_upto_region 1 with fail
    rw [HG.out,← HW.out]
    go_wp2_with fail
    refine (HS o.fd _).out.mono ?_
    rintro e w1 ⟨rfl,rfl⟩
    go_wp2_with fail
    go_ret
    exact ⟨by rw [HR.out];rfl,H1.out⟩
 case _ =>
  cases s_fd:shortI o.fd
  ·skip
   have HR:Hid (v=1):=Lib.hid (by rw [HV.out];simp [rightOf,longOf,wideOf,s_fd])
   clear HV
   go_enter Tryz.func105,Tryz.ntmps105
   go_upto_region 1 with fail
   rw [HG.out,← HW.out]
   go_wp2_with fail
   refine (HS o.fd _).out.mono ?_
   rintro e w1 ⟨rfl,rfl⟩
   go_wp2_with fail
   go_ret
   exact ⟨by rw [HR.out];rfl,H1.out⟩
  ·skip
   have HR:Hid (v=0):=Lib.hid (by rw [HV.out];simp [rightOf,longOf,wideOf,s_fd])
   clear HV
   go_enter Tryz.func105,Tryz.ntmps105
   go_upto_region 1 with fail
   rw [HG.out,← HW.out]
   go_wp2_with fail
   refine (HS o.fd _).out.mono ?_
   rintro e w1 ⟨rfl,rfl⟩
   go_wp2_with fail
   go_ret
   exact ⟨by rw [HR.out];rfl,H1.out⟩
 case _ =>
  by_cases l_path:200<o.path.length
  ·have l_pathi:(200:Int)<((strOf o.path).size:Int):=by rw [strSz];omega
   have HR:Hid (v=3):=Lib.hid (by rw [HV.out];simp [rightOf,longOf,l_path])
   clear HV
   go_enter Tryz.func105,Tryz.ntmps105
   go_upto_region 1 with fail
   rw [HG.out,← HW.out]
   go_wp2_with fail
   go_ret
   exact ⟨by rw [HR.out];rfl,H1.out⟩
  ·have l_pathi:¬ (200:Int)<((strOf o.path).size:Int):=by rw [strSz];omega
   by_cases l_goal:200<o.goal.length
   ·have l_goali:(200:Int)<((strOf o.goal).size:Int):=by rw [strSz];omega
    have HR:Hid (v=3):=Lib.hid (by rw [HV.out];simp [rightOf,longOf,l_path,l_goal])
    clear HV
    go_enter Tryz.func105,Tryz.ntmps105
    go_upto_region 1 with fail
    rw [HG.out,← HW.out]
    go_wp2_with fail
    go_ret
    exact ⟨by rw [HR.out];rfl,H1.out⟩
   ·have l_goali:¬ (200:Int)<((strOf o.goal).size:Int):=by rw [strSz];omega
    have HR:Hid (v=0):=Lib.hid (by rw [HV.out];simp [rightOf,longOf,wideOf,l_path,l_goal])
    clear HV
    go_enter Tryz.func105,Tryz.ntmps105
    go_upto_region 1 with fail
    rw [HG.out,← HW.out]
    go_wp2_with fail
    go_ret
    exact ⟨by rw [HR.out];rfl,H1.out⟩
 case _ =>
  by_cases l_path:200<o.path.length
  ·have l_pathi:(200:Int)<((strOf o.path).size:Int):=by rw [strSz];omega
   have HR:Hid (v=3):=Lib.hid (by rw [HV.out];simp [rightOf,longOf,l_path])
   clear HV
   go_enter Tryz.func105,Tryz.ntmps105
   go_upto_region 1 with fail
   rw [HG.out,← HW.out]
   go_wp2_with fail
   go_ret
   exact ⟨by rw [HR.out];rfl,H1.out⟩
  ·have l_pathi:¬ (200:Int)<((strOf o.path).size:Int):=by rw [strSz];omega
   have HR:Hid (v=0):=Lib.hid (by rw [HV.out];simp [rightOf,longOf,wideOf,l_path])
   clear HV
   go_enter Tryz.func105,Tryz.ntmps105
   go_upto_region 1 with fail
   rw [HG.out,← HW.out]
   go_wp2_with fail
   go_ret
   exact ⟨by rw [HR.out];rfl,H1.out⟩
 case _ =>
  have HR:Hid (v=0):=Lib.hid (by rw [HV.out];simp [rightOf,longOf,wideOf])
  clear HV
  go_enter Tryz.func105,Tryz.ntmps105
  go_upto_region 1 with fail
  rw [HG.out,← HW.out]
  go_wp2_with fail
  go_ret
  exact ⟨by rw [HR.out];rfl,H1.out⟩
 case _ =>
  cases s_snap:shortI o.snap
  ·skip
   have HR:Hid (v=1):=Lib.hid (by rw [HV.out];simp [rightOf,longOf,wideOf,s_snap])
   clear HV
   go_enter Tryz.func105,Tryz.ntmps105
   go_upto_region 1 with fail
   rw [HG.out,← HW.out]
   go_wp2_with fail
   refine (HS o.snap _).out.mono ?_
   rintro e w1 ⟨rfl,rfl⟩
   go_wp2_with fail
   go_ret
   exact ⟨by rw [HR.out];rfl,H1.out⟩
  ·skip
   have HR:Hid (v=0):=Lib.hid (by rw [HV.out];simp [rightOf,longOf,wideOf,s_snap])
   clear HV
   go_enter Tryz.func105,Tryz.ntmps105
   go_upto_region 1 with fail
   rw [HG.out,← HW.out]
   go_wp2_with fail
   refine (HS o.snap _).out.mono ?_
   rintro e w1 ⟨rfl,rfl⟩
   go_wp2_with fail
   go_ret
   exact ⟨by rw [HR.out];rfl,H1.out⟩
 case _ =>
  have HR:Hid (v=0):=Lib.hid (by rw [HV.out];simp [rightOf,longOf,wideOf])
  clear HV
  go_enter Tryz.func105,Tryz.ntmps105
  go_upto_region 1 with fail
  rw [HG.out,← HW.out]
  go_wp2_with fail
  go_ret
  exact ⟨by rw [HR.out];rfl,H1.out⟩
end
def opPart0 (o:OpP) (a:AskP):List UInt8:=if a.path then lenBytes o.path else []
def opPart1 (o:OpP) (a:AskP):List UInt8:=if a.goal then lenBytes o.goal else []
def opPart2 (o:OpP) (a:AskP):List UInt8:=if a.fd then beI 2 o.fd else []
def opPart3 (o:OpP) (a:AskP):List UInt8:=if a.part then beI 2 o.at_++beI 2 o.n else []
def opPart4 (o:OpP) (a:AskP):List UInt8:=if a.till then beI 8 o.till else []
def opPart5 (o:OpP) (a:AskP):List UInt8:=if a.snap then beI 2 o.snap else []
def opPart6 (o:OpP) (a:AskP):List UInt8:=if a.data then lenBytes o.data else []
def opBytes (o:OpP) (a:AskP):List UInt8:=((((((beI 1 o.kind++opPart0 o a)++opPart1 o a)++opPart2 o a)++opPart3 o a)++opPart4 o a)++opPart5 o a)++opPart6 o a
section
variable {w w':World}
theorem opPart0_le (o:OpP) (a:AskP):(opPart0 o a).length≤65537:=by
 unfold opPart0
 split
 ·exact lenBytes_le _
 ·exact Nat.zero_le _
theorem opPart1_le (o:OpP) (a:AskP):(opPart1 o a).length≤65537:=by
 unfold opPart1
 split
 ·exact lenBytes_le _
 ·exact Nat.zero_le _
theorem opPart2_le (o:OpP) (a:AskP):(opPart2 o a).length≤2:=by
 unfold opPart2
 split
 ·rw [beI_length];omega
 ·exact Nat.zero_le _
theorem opPart3_le (o:OpP) (a:AskP):(opPart3 o a).length≤4:=by
 unfold opPart3
 split
 ·rw [List.length_append,beI_length,beI_length];omega
 ·exact Nat.zero_le _
theorem opPart4_le (o:OpP) (a:AskP):(opPart4 o a).length≤8:=by
 unfold opPart4
 split
 ·rw [beI_length];omega
 ·exact Nat.zero_le _
theorem opPart5_le (o:OpP) (a:AskP):(opPart5 o a).length≤2:=by
 unfold opPart5
 split
 ·rw [beI_length];omega
 ·exact Nat.zero_le _
theorem opPart6_le (o:OpP) (a:AskP):(opPart6 o a).length≤65537:=by
 unfold opPart6
 split
 ·exact lenBytes_le _
 ·exact Nat.zero_le _
theorem oenc_any (o:OpP) (E:Option Addr) (cd:Nat){a:AskP}(hk:asksOf o.kind=some a) (hr:rightOf o a=0){D:Nat→Prop}(w:World) (hE:Bs w D E o.data.length o.data) (hcd:o.data.length≤cd) (hp:o.path.length≤1099511627776) (hg:o.goal.length≤1099511627776) (hd:o.data.length≤1099511627776) (ht0:0≤o.till) (ht1:o.till≤18446744073709551615):
  Calls Tryz.prog 82 #[opVal o E cd] w fun e w'=>(∃ A c,e=.returned (.tuple #[.slice A (opBytes o a).length c,.int .i64 0])∧OwnB w' w.heap.size 5 A (opBytes o a).length c (opBytes o a))∧New w w':=by
 have k1:=(New.refl w).alloc (.cells (opCells o E cd) 46)
 have x1:=heap_alloc_new w (.cells (opCells o E cd) 46)
 have HA:=Lib.hid (fun W=>asks_any o.kind W)
 have HRT:=Lib.hid (fun W=>oright_any o E cd hk W hp hg hd)
 rw [hr] at HRT
 rw [hk] at HA
 have hE1:=Row.new hE k1
 obtain ⟨w1,hw1⟩:∃ w1,w1=w.alloc (.cells (opCells o E cd) 46):=⟨_,rfl⟩
 rw [← hw1] at k1 x1 hE1
 have o0:=(op_at x1).1
 have HX1:=Lib.hid (And.intro x1 (And.intro k1 hE1))
 have HL:=Lib.hid (And.intro hcd (And.intro hp (And.intro hg (And.intro hd (And.intro ht0 ht1)))))
 have HW1:=Lib.hid hw1
 unfold opVal at *
 unfold opCells at *
 unfold askVal at *
 dsimp only [Option.getD,Option.isSome] at HA
 clear k1 x1 hE hE1 hk hr hcd hp hg hd ht0 ht1 hw1
 go_enter Tryz.func82,Tryz.ntmps82
 go_upto_region 1 with fail
 rw [← HW1.out]
 generalize hg1:w.heap.size=g1 at *
 have HG1:=Lib.hid hg1
 clear hg1
 go_wp2_with fail
 refine (HA.out w1).mono ?_
 rintro e w2 ⟨rfl,k2⟩
 have HX2:=Lib.hid (And.intro (k2.blockAt HX1.out.1 trivial) (And.intro (HX1.out.2.1.new k2) (Row.new HX1.out.2.2 k2)))
 clear HA HX1 k2 o0
 have kk:=(New.refl w2).alloc (.cells #[.bool a.path,.bool a.goal,.bool a.fd,.bool a.part,.bool a.till,.bool a.snap,.bool a.data] 153)
 have x2:=heap_alloc_new w2 (.cells #[.bool a.path,.bool a.goal,.bool a.fd,.bool a.part,.bool a.till,.bool a.snap,.bool a.data] 153)
 obtain ⟨w3,hw3⟩:∃ w3,w3=w2.alloc (.cells #[.bool a.path,.bool a.goal,.bool a.fd,.bool a.part,.bool a.till,.bool a.snap,.bool a.data] 153):=⟨_,rfl⟩
 rw [← hw3] at kk x2
 have HX3:=Lib.hid (And.intro (kk.blockAt HX2.out.1 trivial) (And.intro x2 (And.intro (HX2.out.2.1.new kk) (Row.new HX2.out.2.2 kk))))
 have HW3:=Lib.hid hw3
 clear kk x2 hw3 HX2
 go_upto_region 4 with fail
 rw [← HW3.out]
 generalize hg2:w2.heap.size=g2 at *
 clear hg2 HW3
 have hb1:g1<w3.heap.size:=(Array.getElem?_eq_some_iff.1 HX3.out.1).1
 have hb2:g2<w3.heap.size:=(Array.getElem?_eq_some_iff.1 HX3.out.2.1).1
 obtain ⟨o0,o1,o2,o3,o4,o5,o6,o7,o8⟩:=op_at (o:=o) (E:=E) (cd:=cd) HX3.out.1
 obtain ⟨a0,a1,a2,a3,a4,a5,a6⟩:=ask_at HX3.out.2.1
 go_wp2_with fail
 refine (HRT.out w3).mono ?_
 rintro e w4 ⟨rfl,k4⟩
 have HX4:=Lib.hid (And.intro (k4.blockAt HX3.out.1 trivial) (And.intro (k4.blockAt HX3.out.2.1 trivial) (And.intro (HX3.out.2.2.1.new k4) (Row.new HX3.out.2.2.2 k4))))
 have hle:=k4.size
 clear o0 o1 o2 o3 o4 o5 o6 o7 o8 a0 a1 a2 a3 a4 a5 a6 HX3 HRT k4
 go_wp2_with fail
 refine (newWriter_any w4).mono ?_
 rintro e w5 ⟨⟨p,rfl,hW5⟩,k5⟩
 have HB:=Lib.hid (And.intro (show g1<w4.heap.size by omega) (show g2<w4.heap.size by omega))
 obtain ⟨base,hbase⟩:∃ b,b=w4.heap.size:=⟨_,rfl⟩
 rw [← hbase] at hW5 HB
 have HK5:Hid (Keep (fun b=>b<base) w4 w5):=Lib.hid (Keep.of_new k5)
 have HW5:=Lib.hid hW5
 have HBS:=Lib.hid hbase
 have HO:Hid (∀ W,Keep (fun b=>b<base) w4 W→W.heap[g1]?=some (.cells (opCells o E cd) 46 (0,0))∧W.heap[g2]?=some (.cells #[.bool a.path,.bool a.goal,.bool a.fd,.bool a.part,.bool a.till,.bool a.snap,.bool a.data] 153 (0,0))∧Bs W (fun b=>b<base) E o.data.length o.data) :=
  Lib.hid fun W hK=>⟨hK.blockAt HX4.out.1 HB.out.1,hK.blockAt HX4.out.2.1 HB.out.2,(HX4.out.2.2.2.imp (E:=fun b=>b<base) fun b hb _=>by rw [HBS.out];exact hb).keep hK fun _ _ h=>h⟩
 have HN4:=Lib.hid HX4.out.2.2.1
 clear hW5 k5 HX4 hb1 hb2 hle hbase
 have o0:=(op_at (HO.out w5 HK5.out).1).1
 go_wp2_with fail
 refine (wbyteW_any base p [] o.kind w5 HW5.out (by simp)).mono ?_
 rintro e wc ⟨rfl,hW6,hR6⟩
 have HKc:=Lib.hid (HK5.out.trans (HW5.out.low hR6))
 rw [List.nil_append] at hW6
 have hlc:(beI 1 o.kind).length≤1:=by rw [beI_length];omega
 generalize hb9:beI 1 o.kind=bs0 at *
 have HQ9:=Lib.hid hb9
 clear hb9
 have HWc:=Lib.hid hW6
 clear HW5 HK5 hW6 hR6 o0
 generalize hav:Value.agg #[.bool a.path,.bool a.goal,.bool a.fd,.bool a.part,.bool a.till,.bool a.snap,.bool a.data]=av
 clear hav
 have a0:=(ask_at (HO.out wc HKc.out).2.1).1
 go_upto_if 28 with fail
 go_cut [7] from 28 to 33 (fun s7 wx=>s7=.pointer (some ⟨p,0,none⟩)∧Wr wx base p (bs0++opPart0 o a)∧Keep (fun b=>b<base) w4 wx)
 case first =>
  have hpp:Hid (opPart0 o a=if a.path then lenBytes o.path else []):=Lib.hid rfl
  cases hfl:a.path
  ·rw [hfl] at hpp a0
   clear hfl
   go_wp2_with fail
   go_meet
   exact ⟨rfl,by rw [hpp.out];simp only [Bool.false_eq_true,if_false,List.append_nil];exact HWc.out,HKc.out⟩
  ·rw [hfl] at hpp a0
   clear hfl
   have o1:=(op_at (HO.out wc HKc.out).1).2.1
   obtain ⟨cpc,wv,hconv,hcpc,hkc,hBc⟩:=conv_name o.path wc
   have HC:=Lib.hid (And.intro hcpc (And.intro hkc hBc))
   clear hcpc hkc hBc
   go_wp2_with fail
   refine (wbytesW_any base p _ _ o.path.length cpc bs0 o.path wv (HWc.out.newW HC.out.2.1) HC.out.2.2 (fun b hb=>⟨by have:=HWc.out.lt;omega,fun e=>by have:=rowBlk_new HWc.out HC.out.2.1 b e.symm;omega⟩) HC.out.1 (by have:=HL.out;omega) (by omega)).mono ?_
   rintro e w6 ⟨rfl,hW,hR⟩
   have HKc0:=Lib.hid ((HKc.out.new HC.out.2.1).trans ((HWc.out.newW HC.out.2.1).low hR))
   have HWn0:=Lib.hid hW
   clear hW hR o1
   go_wp2_with fail
   go_meet
   exact ⟨rfl,by rw [hpp.out,if_pos trivial];exact HWn0.out,HKc0.out⟩
 case rest =>
  obtain ⟨rfl,hW,hK⟩:=hcut
  have hlc0:(bs0++opPart0 o a).length≤65538:=by rw [List.length_append];have:=opPart0_le o a;omega
  generalize hb0:bs0++opPart0 o a=bs1 at *
  clear HKc HWc a0
  have HKc:=Lib.hid hK
  have HWc:=Lib.hid hW
  have HQ0:=Lib.hid hb0
  clear hW hK hb0
  have a1:=(ask_at (HO.out wc HKc.out).2.1).2.1
  go_upto_if 35 with fail
  go_cut [7] from 35 to 40 (fun s7 wx=>s7=.pointer (some ⟨p,0,none⟩)∧Wr wx base p (bs1++opPart1 o a)∧Keep (fun b=>b<base) w4 wx)
  case first =>
   have hpp:Hid (opPart1 o a=if a.goal then lenBytes o.goal else []):=Lib.hid rfl
   cases hfl:a.goal
   ·rw [hfl] at hpp a1
    clear hfl
    go_wp2_with fail
    go_meet
    exact ⟨rfl,by rw [hpp.out];simp only [Bool.false_eq_true,if_false,List.append_nil];exact HWc.out,HKc.out⟩
   ·rw [hfl] at hpp a1
    clear hfl
    have o2:=(op_at (HO.out wc HKc.out).1).2.2.1
    obtain ⟨cpc,wv,hconv,hcpc,hkc,hBc⟩:=conv_name o.goal wc
    have HC:=Lib.hid (And.intro hcpc (And.intro hkc hBc))
    clear hcpc hkc hBc
    go_wp2_with fail
    refine (wbytesW_any base p _ _ o.goal.length cpc bs1 o.goal wv (HWc.out.newW HC.out.2.1) HC.out.2.2 (fun b hb=>⟨by have:=HWc.out.lt;omega,fun e=>by have:=rowBlk_new HWc.out HC.out.2.1 b e.symm;omega⟩) HC.out.1 (by have:=HL.out;omega) (by omega)).mono ?_
    rintro e w6 ⟨rfl,hW,hR⟩
    have HKc0:=Lib.hid ((HKc.out.new HC.out.2.1).trans ((HWc.out.newW HC.out.2.1).low hR))
    have HWn0:=Lib.hid hW
    clear hW hR o2
    go_wp2_with fail
    go_meet
    exact ⟨rfl,by rw [hpp.out,if_pos trivial];exact HWn0.out,HKc0.out⟩
  case rest =>
   obtain ⟨rfl,hW,hK⟩:=hcut
   have hlc1:(bs1++opPart1 o a).length≤131075:=by rw [List.length_append];have:=opPart1_le o a;omega
   generalize hb1:bs1++opPart1 o a=bs2 at *
   clear HKc HWc a1
   have HKc:=Lib.hid hK
   have HWc:=Lib.hid hW
   have HQ1:=Lib.hid hb1
   clear hW hK hb1
   have a2:=(ask_at (HO.out wc HKc.out).2.1).2.2.1
   go_upto_if 42 with fail
   go_cut [7] from 42 to 46 (fun s7 wx=>s7=.pointer (some ⟨p,0,none⟩)∧Wr wx base p (bs2++opPart2 o a)∧Keep (fun b=>b<base) w4 wx)
   case first =>
    have hpp:Hid (opPart2 o a=if a.fd then beI 2 o.fd else []):=Lib.hid rfl
    cases hfl:a.fd
    ·rw [hfl] at hpp a2
     clear hfl
     go_wp2_with fail
     go_meet
     exact ⟨rfl,by rw [hpp.out];simp only [Bool.false_eq_true,if_false,List.append_nil];exact HWc.out,HKc.out⟩
    ·rw [hfl] at hpp a2
     clear hfl
     have o3:=(op_at (HO.out wc HKc.out).1).2.2.2.1
     go_wp2_with fail
     refine (wshortW_any base p (bs2) o.fd wc HWc.out (by (try simp only [List.length_append,beI_length]);omega)).mono ?_
     rintro e w6 ⟨rfl,hW,hR⟩
     have HKc0:=Lib.hid (HKc.out.trans (HWc.out.low hR))
     have HWn0:=Lib.hid hW
     clear hW hR o3
     go_wp2_with fail
     go_meet
     exact ⟨rfl,by rw [hpp.out,if_pos trivial];exact HWn0.out,HKc0.out⟩
   case rest =>
    obtain ⟨rfl,hW,hK⟩:=hcut
    have hlc2:(bs2++opPart2 o a).length≤131077:=by rw [List.length_append];have:=opPart2_le o a;omega
    generalize hb2:bs2++opPart2 o a=bs3 at *
    clear HKc HWc a2
    have HKc:=Lib.hid hK
    have HWc:=Lib.hid hW
    have HQ2:=Lib.hid hb2
    clear hW hK hb2
    have a3:=(ask_at (HO.out wc HKc.out).2.1).2.2.2.1
    go_upto_if 48 with fail
    go_cut [7] from 48 to 56 (fun s7 wx=>s7=.pointer (some ⟨p,0,none⟩)∧Wr wx base p (bs3++opPart3 o a)∧Keep (fun b=>b<base) w4 wx)
    case first =>
     have hpp:Hid (opPart3 o a=if a.part then beI 2 o.at_++beI 2 o.n else []):=Lib.hid rfl
     cases hfl:a.part
     ·rw [hfl] at hpp a3
      clear hfl
      go_wp2_with fail
      go_meet
      exact ⟨rfl,by rw [hpp.out];simp only [Bool.false_eq_true,if_false,List.append_nil];exact HWc.out,HKc.out⟩
     ·rw [hfl] at hpp a3
      clear hfl
      have o4:=(op_at (HO.out wc HKc.out).1).2.2.2.2.1
      go_wp2_with fail
      refine (wshortW_any base p (bs3) o.at_ wc HWc.out (by (try simp only [List.length_append,beI_length]);omega)).mono ?_
      rintro e w6 ⟨rfl,hW,hR⟩
      have HKc0:=Lib.hid (HKc.out.trans (HWc.out.low hR))
      have HWn0:=Lib.hid hW
      clear hW hR o4
      have o5:=(op_at (HO.out w6 HKc0.out).1).2.2.2.2.2.1
      go_wp2_with fail
      refine (wshortW_any base p (bs3++beI 2 o.at_) o.n w6 HWn0.out (by (try simp only [List.length_append,beI_length]);omega)).mono ?_
      rintro e w7 ⟨rfl,hW,hR⟩
      have HKc01:=Lib.hid (HKc0.out.trans (HWn0.out.low hR))
      have HWn1:=Lib.hid hW
      clear hW hR o5
      go_wp2_with fail
      go_meet
      exact ⟨rfl,by rw [hpp.out,if_pos trivial,← List.append_assoc];exact HWn1.out,HKc01.out⟩
    case rest =>
     obtain ⟨rfl,hW,hK⟩:=hcut
     have hlc3:(bs3++opPart3 o a).length≤131081:=by rw [List.length_append];have:=opPart3_le o a;omega
     generalize hb3:bs3++opPart3 o a=bs4 at *
     clear HKc HWc a3
     have HKc:=Lib.hid hK
     have HWc:=Lib.hid hW
     have HQ3:=Lib.hid hb3
     clear hW hK hb3
     have a4:=(ask_at (HO.out wc HKc.out).2.1).2.2.2.2.1
     go_upto_if 58 with fail
     go_cut [7] from 58 to 62 (fun s7 wx=>s7=.pointer (some ⟨p,0,none⟩)∧Wr wx base p (bs4++opPart4 o a)∧Keep (fun b=>b<base) w4 wx)
     case first =>
      have hpp:Hid (opPart4 o a=if a.till then beI 8 o.till else []):=Lib.hid rfl
      cases hfl:a.till
      ·rw [hfl] at hpp a4
       clear hfl
       go_wp2_with fail
       go_meet
       exact ⟨rfl,by rw [hpp.out];simp only [Bool.false_eq_true,if_false,List.append_nil];exact HWc.out,HKc.out⟩
      ·rw [hfl] at hpp a4
       clear hfl
       have o6:=(op_at (HO.out wc HKc.out).1).2.2.2.2.2.2.1
       go_wp2_with fail
       refine (wlongW_any base p (bs4) o.till wc HWc.out HL.out.2.2.2.2.1 HL.out.2.2.2.2.2 (by omega)).mono ?_
       rintro e w6 ⟨rfl,hW,hR⟩
       have HKc0:=Lib.hid (HKc.out.trans (HWc.out.low hR))
       have HWn0:=Lib.hid hW
       clear hW hR o6
       go_wp2_with fail
       go_meet
       exact ⟨rfl,by rw [hpp.out,if_pos trivial];exact HWn0.out,HKc0.out⟩
     case rest =>
      obtain ⟨rfl,hW,hK⟩:=hcut
      have hlc4:(bs4++opPart4 o a).length≤131089:=by rw [List.length_append];have:=opPart4_le o a;omega
      generalize hb4:bs4++opPart4 o a=bs5 at *
      clear HKc HWc a4
      have HKc:=Lib.hid hK
      have HWc:=Lib.hid hW
      have HQ4:=Lib.hid hb4
      clear hW hK hb4
      have a5:=(ask_at (HO.out wc HKc.out).2.1).2.2.2.2.2.1
      go_upto_if 64 with fail
      go_cut [7] from 64 to 68 (fun s7 wx=>s7=.pointer (some ⟨p,0,none⟩)∧Wr wx base p (bs5++opPart5 o a)∧Keep (fun b=>b<base) w4 wx)
      case first =>
       have hpp:Hid (opPart5 o a=if a.snap then beI 2 o.snap else []):=Lib.hid rfl
       cases hfl:a.snap
       ·rw [hfl] at hpp a5
        clear hfl
        go_wp2_with fail
        go_meet
        exact ⟨rfl,by rw [hpp.out];simp only [Bool.false_eq_true,if_false,List.append_nil];exact HWc.out,HKc.out⟩
       ·rw [hfl] at hpp a5
        clear hfl
        have o7:=(op_at (HO.out wc HKc.out).1).2.2.2.2.2.2.2.1
        go_wp2_with fail
        refine (wshortW_any base p (bs5) o.snap wc HWc.out (by (try simp only [List.length_append,beI_length]);omega)).mono ?_
        rintro e w6 ⟨rfl,hW,hR⟩
        have HKc0:=Lib.hid (HKc.out.trans (HWc.out.low hR))
        have HWn0:=Lib.hid hW
        clear hW hR o7
        go_wp2_with fail
        go_meet
        exact ⟨rfl,by rw [hpp.out,if_pos trivial];exact HWn0.out,HKc0.out⟩
      case rest =>
       obtain ⟨rfl,hW,hK⟩:=hcut
       have hlc5:(bs5++opPart5 o a).length≤131091:=by rw [List.length_append];have:=opPart5_le o a;omega
       generalize hb5:bs5++opPart5 o a=bs6 at *
       clear HKc HWc a5
       have HKc:=Lib.hid hK
       have HWc:=Lib.hid hW
       have HQ5:=Lib.hid hb5
       clear hW hK hb5
       have a6:=(ask_at (HO.out wc HKc.out).2.1).2.2.2.2.2.2
       go_upto_if 70 with fail
       go_cut [7] from 70 to 74 (fun s7 wx=>s7=.pointer (some ⟨p,0,none⟩)∧Wr wx base p (bs6++opPart6 o a)∧Keep (fun b=>b<base) w4 wx)
       case first =>
        have hpp:Hid (opPart6 o a=if a.data then lenBytes o.data else []):=Lib.hid rfl
        cases hfl:a.data
        ·rw [hfl] at hpp a6
         clear hfl
         go_wp2_with fail
         go_meet
         exact ⟨rfl,by rw [hpp.out];simp only [Bool.false_eq_true,if_false,List.append_nil];exact HWc.out,HKc.out⟩
        ·rw [hfl] at hpp a6
         clear hfl
         have o8:=(op_at (HO.out wc HKc.out).1).2.2.2.2.2.2.2.2
         go_wp2_with fail
         refine (wbytesW_any base p _ E o.data.length cd bs6 o.data wc HWc.out (HO.out wc HKc.out).2.2 (fun b hb=>⟨by have:=HWc.out.hp;omega,fun e=>by have:=(HWc.out.rowLt b e.symm).1;omega⟩) HL.out.1 (by have:=HL.out;omega) (by omega)).mono ?_
         rintro e w6 ⟨rfl,hW,hR⟩
         have HKc0:=Lib.hid (HKc.out.trans (HWc.out.low hR))
         have HWn0:=Lib.hid hW
         clear hW hR o8
         go_wp2_with fail
         go_meet
         exact ⟨rfl,by rw [hpp.out,if_pos trivial];exact HWn0.out,HKc0.out⟩
       case rest =>
        obtain ⟨rfl,hW,hK⟩:=hcut
        have hlc6:(bs6++opPart6 o a).length≤196628:=by rw [List.length_append];have:=opPart6_le o a;omega
        generalize hb6:bs6++opPart6 o a=bs7 at *
        clear HKc HWc a6
        have HKc:=Lib.hid hK
        have HWc:=Lib.hid hW
        have HQ6:=Lib.hid hb6
        clear hW hK hb6
        go_wp2_with fail
        refine (done_any base p bs7 wc HWc.out (by omega)).mono ?_
        rintro e w8 ⟨⟨A8,c8,rfl,ho⟩,k8⟩
        have HO8:=Lib.hid (And.intro ho k8)
        clear ho k8
        go_wp2_with fail
        have e7:opBytes o a=bs7:=by unfold opBytes;rw [HQ9.out,HQ0.out,HQ1.out,HQ2.out,HQ3.out,HQ4.out,HQ5.out,HQ6.out]
        have kn:New w4 wc:=HKc.out.toNew fun b hb=>by rw [HBS.out];exact hb
        have kz:=HN4.out.new kn
        refine bodyPost_ret (v:=.tuple #[.slice A8 bs7.length c8,.int .i64 0]) (by simp [results,Tryz.results82,go_sem]) rfl ?_
        rw [e7]
        exact ⟨⟨A8,c8,rfl,own_base HO8.out.1 (by have h9:=kz.size;have h8:=HG1.out;omega)⟩,kz.new HO8.out.2⟩
end
theorem OwnPss.at_ {w:World}{base:Nat}{A:Option Addr}{n c:Nat}{ps:List PathP}(h:OwnPss w base A n c ps){k:Nat}{p:PathP}(hk:ps[k]?=some p):∃ g off A' c',A=some ⟨g,off,none⟩∧w.cell? ⟨g,off+k,none⟩=some (.slice A' p.length c')∧Ps w (fun b=>base≤b) A' p.length p∧p.length≤c'∧c'≤9223372036854775807:=by
 obtain ⟨vs,h1,h2,h3⟩:=h
 obtain ⟨hk',rfl⟩:=List.getElem?_eq_some_iff.1 hk
 obtain ⟨A',c',e,hc,hm,hp⟩:=h3 k hk'
 obtain ⟨g,off,hA,-,-,hcell⟩:=(Row.of_own h1).2 (by omega)
 exact ⟨g,off,A',c',hA,hcell k _ e,hp.imp fun b _ hb=>hb.1,hc,hm⟩
theorem row_none {w:World}{D:Nat→Prop}{A:Option Addr}{n size:Nat}{vs:List Value}(hn:n=0) (hv:vs=[]):Row w D A n size vs:=by
 subst hn hv
 exact ⟨by simp,fun h=>absurd h (Nat.lt_irrefl _)⟩
theorem splitP_short (s:List UInt8):∀ nm∈(splitP s).1,nm.length≤s.length:=by
 intro nm h
 unfold splitP at h
 split at h
 ·cases h
 ·rename_i b r
  split at h
  ·cases h
  ·split at h
   ·cases h
   ·split at h
    ·cases h
    ·have:=splitA_len r [] nm h
     simp at this ⊢
     omega
theorem splitL_one {x:List UInt8}(h:splitL [x]=0):(splitP x).2=0:=by
 unfold splitL at h
 split at h
 ·contradiction
 ·rename_i h1
  exact Decidable.byContradiction h1
section
variable {w w' w2:World}{c c' c2 c1:Col}{i:Cols}{b:Nat}{B:StateB}{s s':StateP}
theorem DoRet.tail {x:ReplyP×StateP}{w0 wb w3 w4 wE:World}{g go f:Nat}{B3:StateB}{c3:Col}{D:Option Addr}{cd:Nat}{N:Option Addr}{cn:Nat}(hd:x.1.data=[]∧x.1.names=[]) (hcd:x.1.data.length≤cd) (HG:go=w0.heap.size∧g=go+1∧Ext w0 c c1∧c1 go=0∧c1 g=f∧(f≠0∧¬ i.has f)∧(∀ j,g<j→c1 j=0)∧b<w0.heap.size)
  (_hs:w0.heap.size≤wb.heap.size) {k3:New w0 w3} (k4:Keep (fun j=>j<w3.heap.size∧¬ i.has (c1 j)) w3 w4) (e4:Ext w3 c1 c3) (h4:StateAt w4 c3 i b B3 x.2) (kE:Keep (fun j=>j≠g) w4 wE) (hg3:g<w3.heap.size):DoRet w0 c i b x (.returned (replyVal x.1 D cd N cn)) wE:=by
 obtain ⟨hg1,hg2,hx,-,hcg,hf,-,-⟩:=HG
 have kk:Keep (fun j=>j<w0.heap.size∧¬ i.has (c j)) w0 w4:=has_then (c2:=c1) (Keep.of_new k3) hx k4
 refine ⟨⟨D,cd,N,cn,rfl,row_none (by rw [hd.1];rfl) (by rw [hd.1];rfl),hcd,row_none (by rw [hd.2];rfl) (by rw [hd.2];rfl)⟩,has_new kk (by omega) kE,c3,B3,fun j hj=>(e4 j (Nat.lt_of_lt_of_le hj k3.size)).trans (hx j hj),h4.reply (by rw [e4 g hg3,hcg]) hf kE⟩
end
end Go.Proofs.YtdodbdednpnddaaGreatDoor
namespace Go.Proofs.YtdodbdednpnddaaGreatDoor
section
variable {k p g:Nat}{id:List UInt8}{s:LogS}
end
theorem lappend_fit {w:World}{D:Nat→Prop}{base bl:Nat}{q:DiskB}{v:LogV}{A:Option Addr}{c:Nat}{S:List UInt8}(h:LogOn w D base bl q v A c S) (r:RecP) (Ar:Option Addr) (m cr:Nat) (hm:r.body.length=m){D2:Nat→Prop}(hB:Bs w D2 Ar m r.body) (hcr:m≤cr) (hcr9:cr≤9223372036854775807) (hD2:∀ j,D2 j→j≠bl∧DiskOf q j∧some j≠blk A) (hbase:base≤w.heap.size)
  (hr:recRight r=true) (hs0:0≤r.seq) (hq:r.seq=v.next+(v.waits.length:Int)) (hwr:∀ x∈v.waits,recRight x=true∧0≤x.seq) (hwb:waitBytes v.waits≤942) (hfine:v.waits.length≠0→SegFine v.sealed v.next v.head v.waits) (_hft0:v.fits r=true) (_hr0:v.g-v.sealed≠0):
  Calls Tryz.prog 130 #[.pointer (some ⟨bl,0,none⟩),.agg #[.int .i64 r.kind,.int .u64 r.seq,.slice Ar m cr]] w fun e w'=>e=.returned (.int .i64 (v.code r))∧Keep (fun j=>j≠bl∧DiskOf q j∧some j≠blk A) w w' ∧
   ∃ A' c',LogOn w' (fun b=>D b∨w.heap.size≤b) base bl q (v.append r) A' c' (v.adisk r S)∧(blk A'=blk A∨∀ k,blk A'=some k→w.heap.size≤k) :=
 lappend_any h r Ar m cr hm hB hcr hcr9 hD2 hbase hr hs0 hq hwr hwb hfine
end Go.Proofs.YtdodbdednpnddaaGreatDoor
namespace Go.Proofs.YtdodbdednpnddaaGreatDoor
open Go.RowKit
section
variable {P:Program}{ops:Array Oper}{Q:Exit→Act→World→Prop}{md:Region.Mode}{Ws:List Nat}{S T:World→Prop}{w0:World}{fuel:Nat}{listed:Array Bool}{a:Act}{w:World}
theorem hw_take (i:Nat){oi:Oper}{a':Act}{v:Value}(hST:S w∧(clearB Ws listed=true→T w)) (h:wpAnyW P md ops Q Ws S T fuel (listed.setIfInBounds i true) a' w) (hi:ops[i]?=some oi:=by rfl)
  (hs:Region.noSelect ops=true:=by kernel_rfl) (hf:Region.free md ops listed i=true:=by kernel_rfl) (hr:(Region.ready md ops listed).contains i=true:=by kernel_rfl)
  (hc:Ws.contains i=false:=by rfl)
  (hQ:∀ c a w,Q (.panic c) (a.put oi.dst v) w→Q (.panic c) a w:=by exact fun _ _ _ h=>h) (hw:Region.wanted oi (yielded ops a.tmps)=true:=by rfl)
  (hy:∀ w',S w'→(execOp a.eval oi).run P w'=.ok (.value v) w':=by intro w' hN;go_simp;try with_reducible rfl) (ha:a.put oi.dst v=a':=by (conv=>lhs;simp only [Act.put,ly1,ly2,ly3,ly4,ly5,ly6]);try exact rfl):wpAnyW P md ops Q Ws S T (fuel+1) listed a w :=
 holdW_read hST hi hs hf hr hc hQ hw hy (ha▸h)
theorem hw_takeT (i:Nat){oi:Oper}{a':Act}{v:Value}(hST:S w∧(clearB Ws listed=true→T w)) (h:wpAnyW P md ops Q Ws S T fuel (listed.setIfInBounds i true) a' w) (hi:ops[i]?=some oi:=by rfl)
  (hs:Region.noSelect ops=true:=by kernel_rfl) (hf:Region.free md ops listed i=true:=by kernel_rfl) (hr:(Region.ready md ops listed).contains i=true:=by kernel_rfl)
  (hc:chkW md ops Ws i=true:=by kernel_rfl) (hcl:clearB Ws listed=true:=by kernel_rfl)
  (hQ:∀ c a w,Q (.panic c) (a.put oi.dst v) w→Q (.panic c) a w:=by exact fun _ _ _ h=>h) (hw:Region.wanted oi (yielded ops a.tmps)=true:=by rfl)
  (hy:∀ w',T w'→(execOp a.eval oi).run P w'=.ok (.value v) w':=by intro w' hN;go_simp;try with_reducible rfl) (ha:a.put oi.dst v=a':=by (conv=>lhs;simp only [Act.put,ly1,ly2,ly3,ly4,ly5,ly6]);try exact rfl):wpAnyW P md ops Q Ws S T (fuel+1) listed a w :=
 holdW_readT hST hi hs hf hr hc hcl hQ hw hy (ha▸h)
theorem wp_append_base {base:Nat}{o:Oper}{K:Act→World→Prop}{s x:Operand}{t:TypeId}
  (ho:o.op=.call { callee:=.builtin .append,args:=#[s,x],argTypes:=#[t,t] })
  {e:TypeId} {size bytes:Nat} (ht:P.underlying t=some (.slice e)) (hi:∃ i z,P.info? e=some i∧i.zero=some z∧i.size=size∧i.bytes=bytes∧z.cells.size=size) (hsz:0<size)
  {A:Option Addr} {n c:Nat} {xs:List Value} (hs:a.eval s=.slice A n c) (hown:Own w base e size A n c xs)
  {D:Nat→Prop} {A2:Option Addr} {m c2:Nat} {news:List Value} (hx:a.eval x=.slice A2 m c2) (hr:Row w D A2 m size news) (h1:∀ u∈news,u.oneCell'=true)
  (h63:n+m≤maxLen) (hbytes:(n+m)*bytes≤140737488355328) (hb:base≤w.heap.size)
  (h:∀ A' c' w',Own w' base e size A' (n+m) c' (xs++news)→Keep (fun j=>some j≠blk A) w w'→(blk A'=blk A∨blk A'=some w.heap.size)→K (a.put o.dst (.slice A' (n+m) c')) w'):o.wp P a w K Q:=by
 obtain ⟨i,z,hi,hz,q1,q2,q3⟩:=hi
 obtain ⟨A',c',w',hrun,h2,hg,hbk⟩:=run_append_row (P:=P) w base t o.type e i z size bytes ht hi hz q1 q2 q3 hsz A n c xs hown D A2 m c2 news hr h1 h63 hbytes hb
 unfold Oper.wp execOp
 simp only [ho,resolve,invoke,builtin,Sem.run_bind,Sem.run_pure,Result.andThen_ok,List.map_toArray,List.map_cons,List.map_nil,hs,hx,hrun]
 exact h A' c' w' h2 ⟨hg.os,hg.tape,hg.output,hg.size,fun j hj hne=>hg.block j hj hne⟩ hbk
end
end Go.Proofs.YtdodbdednpnddaaGreatDoor
namespace Go.Proofs.YtdodbdednpnddaaGreatDoor
open Go.Shelf
def lBString_ren:Go.Shelf.Ren:=⟨fun|169=>24|n=>n,fun|70=>62|9=>9|0=>0|72=>64|37=>24|127=>101|3=>3|5=>5|n=>n,fun|n=>n⟩
theorem lBString:Go.Proofs.Lays.n169 Tryz.prog lBString_ren:={
 mixed:=by kernel_rfl
 f169:=Tryz.func24.trans (congrArg some (by kernel_rfl))
 t0:=Tryz.underlying0
 a0:=Tryz.isAgg0
 z0:=Tryz.sizeOf0
 v0:=Tryz.zeroValue0
 t3:=Tryz.underlying3
 a3:=Tryz.isAgg3
 z3:=Tryz.sizeOf3
 v3:=Tryz.zeroValue3
 t9:=Tryz.underlying9
 a9:=Tryz.isAgg9
 z9:=Tryz.sizeOf9
 v9:=Tryz.zeroValue9
 t37:=Tryz.underlying24
 a37:=Tryz.isAgg24
 z37:=Tryz.sizeOf24
 v37:=Tryz.zeroValue24
 t70:=Tryz.underlying62
 a70:=Tryz.isAgg62
 z70:=Tryz.sizeOf62
 v70:=Tryz.zeroValue62
 t72:=Tryz.underlying64
 a72:=Tryz.isAgg64
 z72:=Tryz.sizeOf64
 v72:=Tryz.zeroValue64
 t127:=Tryz.underlying101
 a127:=Tryz.isAgg101
 z127:=Tryz.sizeOf101
 v127:=Tryz.zeroValue101 }
def lItoa_ren:Go.Shelf.Ren:=⟨fun|171=>23|243=>55|246=>86|283=>107|284=>108|285=>109|286=>110|129=>140|317=>139|318=>141|319=>142|320=>143|337=>206|338=>207|n=>n,fun|3=>3|9=>9|2=>2|4=>4|171=>158|0=>0|53=>26|37=>24|5=>5|173=>161|212=>200|51=>163|20=>20|213=>201|46=>114|232=>347|233=>348|n=>n,fun|17=>0|18=>1|19=>2|n=>n⟩
theorem lItoa:Go.Proofs.LaysM.n171 Tryz.prog lItoa_ren:={
 mixed:=by kernel_rfl
 f129:=Tryz.func140.trans (congrArg some (by kernel_rfl))
 f171:=Tryz.func23.trans (congrArg some (by kernel_rfl))
 f243:=Tryz.func55.trans (congrArg some (by kernel_rfl))
 f246:=Tryz.func86.trans (congrArg some (by kernel_rfl))
 f283:=Tryz.func107.trans (congrArg some (by kernel_rfl))
 f284:=Tryz.func108.trans (congrArg some (by kernel_rfl))
 f285:=Tryz.func109.trans (congrArg some (by kernel_rfl))
 f286:=Tryz.func110.trans (congrArg some (by kernel_rfl))
 f317:=Tryz.func139.trans (congrArg some (by kernel_rfl))
 f318:=Tryz.func141.trans (congrArg some (by kernel_rfl))
 f319:=Tryz.func142.trans (congrArg some (by kernel_rfl))
 f320:=Tryz.func143.trans (congrArg some (by kernel_rfl))
 f337:=Tryz.func206.trans (congrArg some (by kernel_rfl))
 f338:=Tryz.func207.trans (congrArg some (by kernel_rfl))
 t0:=Tryz.underlying0
 a0:=Tryz.isAgg0
 z0:=Tryz.sizeOf0
 v0:=Tryz.zeroValue0
 t2:=Tryz.underlying2
 a2:=Tryz.isAgg2
 z2:=Tryz.sizeOf2
 v2:=Tryz.zeroValue2
 t3:=Tryz.underlying3
 a3:=Tryz.isAgg3
 z3:=Tryz.sizeOf3
 v3:=Tryz.zeroValue3
 t4:=Tryz.underlying4
 a4:=Tryz.isAgg4
 z4:=Tryz.sizeOf4
 v4:=Tryz.zeroValue4
 t5:=Tryz.underlying5
 a5:=Tryz.isAgg5
 z5:=Tryz.sizeOf5
 v5:=Tryz.zeroValue5
 t9:=Tryz.underlying9
 a9:=Tryz.isAgg9
 z9:=Tryz.sizeOf9
 v9:=Tryz.zeroValue9
 t20:=Tryz.underlying20
 a20:=Tryz.isAgg20
 z20:=Tryz.sizeOf20
 v20:=Tryz.zeroValue20
 t37:=Tryz.underlying24
 a37:=Tryz.isAgg24
 z37:=Tryz.sizeOf24
 v37:=Tryz.zeroValue24
 t46:=Tryz.underlying114
 a46:=Tryz.isAgg114
 z46:=Tryz.sizeOf114
 v46:=Tryz.zeroValue114
 t51:=Tryz.underlying163
 a51:=Tryz.isAgg163
 z51:=Tryz.sizeOf163
 v51:=Tryz.zeroValue163
 t53:=Tryz.underlying26
 a53:=Tryz.isAgg26
 z53:=Tryz.sizeOf26
 v53:=Tryz.zeroValue26
 t171:=Tryz.underlying158
 a171:=Tryz.isAgg158
 z171:=Tryz.sizeOf158
 v171:=Tryz.zeroValue158
 t173:=Tryz.underlying161
 a173:=Tryz.isAgg161
 z173:=Tryz.sizeOf161
 v173:=Tryz.zeroValue161
 t212:=Tryz.underlying200
 a212:=Tryz.isAgg200
 z212:=Tryz.sizeOf200
 v212:=Tryz.zeroValue200
 t213:=Tryz.underlying201
 a213:=Tryz.isAgg201
 z213:=Tryz.sizeOf201
 t232:=Tryz.underlying347
 a232:=Tryz.isAgg347
 z232:=Tryz.sizeOf347
 v232:=Tryz.zeroValue347
 t233:=Tryz.underlying348
 a233:=Tryz.isAgg348
 z233:=Tryz.sizeOf348
 v233:=Tryz.zeroValue348
 g17:=by kernel_rfl
 g18:=by kernel_rfl
 g19:=by kernel_rfl
 i0:=by kernel_rfl
 i2:=by kernel_rfl
 i3:=by kernel_rfl
 i4:=by kernel_rfl
 i5:=by kernel_rfl
 i9:=by kernel_rfl
 i20:=by kernel_rfl
 i37:=by kernel_rfl
 i46:=by kernel_rfl
 i51:=by kernel_rfl
 i53:=by kernel_rfl
 i171:=by kernel_rfl
 i173:=by kernel_rfl
 i212:=by kernel_rfl
 i232:=by kernel_rfl
 i233:=by kernel_rfl
 m17:=by kernel_rfl
 m18:=by kernel_rfl
 m19:=by kernel_rfl }
def lWriteStr_ren:Go.Shelf.Ren:=⟨fun|166=>22|240=>54|276=>85|n=>n,fun|0=>0|3=>3|4=>4|9=>9|20=>20|37=>24|70=>62|72=>64|75=>67|164=>128|5=>5|80=>70|n=>n,fun|n=>n⟩
theorem lWriteStr:Go.Proofs.Lays.n166 Tryz.prog lWriteStr_ren:={
 mixed:=by kernel_rfl
 f166:=Tryz.func22.trans (congrArg some (by kernel_rfl))
 f240:=Tryz.func54.trans (congrArg some (by kernel_rfl))
 f276:=Tryz.func85.trans (congrArg some (by kernel_rfl))
 t0:=Tryz.underlying0
 a0:=Tryz.isAgg0
 z0:=Tryz.sizeOf0
 v0:=Tryz.zeroValue0
 t3:=Tryz.underlying3
 a3:=Tryz.isAgg3
 z3:=Tryz.sizeOf3
 v3:=Tryz.zeroValue3
 t4:=Tryz.underlying4
 a4:=Tryz.isAgg4
 z4:=Tryz.sizeOf4
 v4:=Tryz.zeroValue4
 t9:=Tryz.underlying9
 a9:=Tryz.isAgg9
 z9:=Tryz.sizeOf9
 v9:=Tryz.zeroValue9
 t20:=Tryz.underlying20
 a20:=Tryz.isAgg20
 z20:=Tryz.sizeOf20
 v20:=Tryz.zeroValue20
 t37:=Tryz.underlying24
 a37:=Tryz.isAgg24
 z37:=Tryz.sizeOf24
 v37:=Tryz.zeroValue24
 t70:=Tryz.underlying62
 a70:=Tryz.isAgg62
 z70:=Tryz.sizeOf62
 v70:=Tryz.zeroValue62
 t72:=Tryz.underlying64
 a72:=Tryz.isAgg64
 z72:=Tryz.sizeOf64
 v72:=Tryz.zeroValue64
 t75:=Tryz.underlying67
 a75:=Tryz.isAgg67
 z75:=Tryz.sizeOf67
 v75:=Tryz.zeroValue67
 t164:=Tryz.underlying128
 a164:=Tryz.isAgg128
 z164:=Tryz.sizeOf128
 v164:=Tryz.zeroValue128 }
theorem lWriteStrX:Builder.Extra Tryz.prog lWriteStr_ren where
 sizeBuilder:=by kernel_rfl
 liesBuilder:=by kernel_rfl
 t5:=Tryz.underlying5
 a5:=Tryz.isAgg5
 z5:=Tryz.sizeOf5
 v5:=Tryz.zeroValue5
 infoByte:=by kernel_rfl
 cellsByte:=by kernel_rfl
 sizeByte:=by kernel_rfl
 neB5:=by decide
theorem lBStringX:Builder.Extra Tryz.prog lBString_ren where
 sizeBuilder:=by kernel_rfl
 liesBuilder:=by kernel_rfl
 t5:=Tryz.underlying5
 a5:=Tryz.isAgg5
 z5:=Tryz.sizeOf5
 v5:=Tryz.zeroValue5
 infoByte:=by kernel_rfl
 cellsByte:=by kernel_rfl
 sizeByte:=by kernel_rfl
 neB5:=by decide
end Go.Proofs.YtdodbdednpnddaaGreatDoor
namespace Go.Proofs.YtdodbdednpnddaaGreatDoor
open Go.RowKit
theorem OwnPss.place {w:World}{base g off n c:Nat}{ps:List PathP}(h:OwnPss w base (some ⟨g,off,none⟩) n c ps):base≤g∧g<w.heap.size:=by
 obtain ⟨vs,h1,_⟩:=h
 exact own_lt h1 g rfl
section
variable {w w' w2:World}{c c' c2 c1:Col}{i:Cols}{b:Nat}{B:StateB}{s s':StateP}
theorem sdo_mkdir (h:StateAt w c i b B s) (hS:StInv s){o:OpP}{D:Nat→Prop}{E:Option Addr}{cd:Nat}(hk:o.kind=2) (h0:splitL [o.path]=0) (hlp:o.path.length≤100000) (hlg:o.goal.length≤100000) (hm:MaxLenAt w) (hD:Bs w D E o.data.length o.data) (hd1:o.data.length≤cd) (hd2:cd≤9223372036854775807) (ht0:0≤o.till) (ht1:o.till≤18446744073709551615):
  Calls Tryz.prog 128 #[.pointer (some ⟨b,0,none⟩),opVal o E cd] w (DoRet w c i b (mkdirT s (splitP o.path).1)):=by
 obtain ⟨c1,f,wa,wb,go,g,hx1,hco,hcg,hf,hc0,hwa,hwb,hgo,hg,hgz,k12,xo,x2⟩:=op_box c i w o E cd
 have hlt:=h.lt
 have h2:=h.keep k12 (c':=c1) hx1 fun _ _ _=>trivial
 have HRW:rawPaths o=some [o.path]:=by unfold rawPaths;rw [hk];rfl
 have HPT:=Lib.hid (spaths_any (b:=b) o E cd HRW (by intro z hz;simp only [List.mem_cons,List.not_mem_nil,or_false] at hz;subst hz;assumption) (hm.new k12))
 have H2:=Lib.hid (And.intro k12 (And.intro x2 (And.intro h2 (And.intro xo (And.intro (Row.new hD k12) (And.intro hd1 hd2))))))
 have HG:=Lib.hid (And.intro hgo (And.intro hg (And.intro hx1 (And.intro (show c1 go=0 by rw [hgo];exact hco) (And.intro (show c1 g=f by rw [hg,hgo];exact hcg) (And.intro hf (And.intro (show ∀ j,g<j→c1 j=0 from fun j hj=>hc0 j (by omega)) hlt)))))))
 have HLP:=Lib.hid hlp
 have HLG:=Lib.hid hlg
 have HS:=Lib.hid (And.intro hS (And.intro h0 (And.intro ht0 ht1)))
 obtain ⟨r,hr⟩:∃ r:ReplyP×StateP,r=mkdirT s (splitP o.path).1:=⟨_,rfl⟩
 rw [← hr]
 have HR:=Lib.hid hr
 obtain ⟨o0,o1,o2,o3,o4,o5,o6,o7,o8⟩:=op_at xo
 have HWA:=Lib.hid (And.intro hwa (And.intro hwb hgz))
 unfold opVal at *
 unfold opCells at hwa ⊢
 rw [hk] at o0 hwa ⊢
 clear hr hS hD hlt h hx1 hco hcg hf hc0 x2 k12 h2 xo hd1 hd2 ht0 ht1 hlp hlg hm h0 HRW
 unfold opCells at HPT
 rw [hk] at HPT
 have HK:=Lib.hid hk
 clear hk
 go_enter Tryz.func128,Tryz.ntmps128
 go_upto_region 1 with fail
 rw [← hwa,← hwb,← hgo,← hg]
 clear hwa hwb hgz hgo hg HWA
 go_wp2_with fail
 refine HPT.out.mono ?_
 rintro e w3 ⟨k3,hret⟩
 clear HPT
 rcases hret with ⟨hne,-⟩|⟨-,Ap,cp,rfl,hown⟩
 ·exact absurd HS.out.2.1 hne
 have H3:=Lib.hid (And.intro (k3.blockAt H2.out.2.1 trivial) (And.intro (H2.out.2.2.1.keep k3 (Ext.refl _ _) fun _ _ _=>trivial) (And.intro (k3.blockAt H2.out.2.2.2.1 trivial) (And.intro (Row.new H2.out.2.2.2.2.1 k3) (And.intro (H2.out.1.new k3) hown)))))
 clear k3 hown o0 o1 o2 o3 o4 o5 o6 o7 o8
 obtain ⟨o0,o1,o2,o3,o4,o5,o6,o7,o8⟩:=op_at H3.out.2.2.1
 rw [HK.out] at o0
 obtain ⟨gp,offp,A1,cp1,rfl,q1,hp1,hpc1,hpd1⟩:=H3.out.2.2.2.2.2.at_ (k:=0) (p:=(splitP o.path).1) rfl
 rw [Nat.add_zero] at q1
 have HF:=splitP_fine (s:=o.path) (splitL_one HS.out.2.1)
 have HR2:Hid (r=(noR (makeT s.T (splitP o.path).1 2).2.1,{ s with T:=(makeT s.T (splitP o.path).1 2).2.2 })):=Lib.hid HR.out
 have HFL:=Lib.hid (And.intro (show (splitP o.path).1.length≤1000 by have:=fine_len HF;omega) (fun (nm:List UInt8) (hnm:nm∈(splitP o.path).1)=>show nm.length≤1099511627776 by (have h1:=splitP_short _ nm hnm;have h2:=HLP.out;omega)))
 generalize (splitP o.path).1=p1 at *
 have st3:=H3.out.2.1
 have hown3:=H3.out.2.2.2.2.2
 have u0:∀ W,Keep (fun j=>j<w3.heap.size∧c1 j≠i.t) w3.drew W→W.cell? ⟨b,0,none⟩=some (.pointer (some ⟨B.bt,0,none⟩)):=fun W hW=>hW.cell_some (cellOf (w:=w3.drew) st3.state (k:=0) rfl) ⟨st3.lt,by rw [st3.col];exact fun e=>st3.ok.ne.2.1 e.symm⟩
 have hgp:gp<w3.heap.size∧c1 gp≠i.t:=by
  have h1:=hown3.place
  have h2:=(Array.getElem?_eq_some_iff.1 H2.out.2.1).1
  refine ⟨h1.2,?_⟩
  rw [HG.out.2.2.2.2.2.2.1 gp (by omega)]
  exact fun e=>st3.ok.nz.1 e.symm
 have q1':∀ W,Keep (fun j=>j<w3.heap.size∧c1 j≠i.t) w3.drew W→W.cell? ⟨gp,offp,none⟩=some (.slice A1 p1.length cp1):=fun W hW=>hW.cell_some (show w3.drew.cell? _=_ from q1) hgp
 have HC:=Lib.hid (fun W (hW:New w3 W)=>tmake_any (kind:=2) (h:=st3.tree.new hW) st3.ok.nz.1 HS.out.1.tree HS.out.1.few (Row.new hp1 hW) HFL.out.1 hpc1 HFL.out.2 (.inr rfl))
 have HBO:=Lib.hid st3
 clear HF hp1 HR q1 st3 HFL hown3
 go_wp2_with fail
 refine hold_beginS (Keep (fun j=>j<w3.heap.size∧c1 j≠i.t) w3.drew) (by kernel_rfl) ?_
 have n0:Keep (fun j=>j<w3.heap.size∧c1 j≠i.t) w3.drew w3.drew:=Keep.refl _ _
 refine take0 0 n0 ?_
 refine take0 1 n0 ?_
 refine take0 2 n0 ?_
 refine take0 3 n0 ?_
 refine take0 4 n0 ?_
 refine take0 5 n0 ?_
 refine take0 6 n0 ?_
 refine hold_step0 (i:=7) (by kernel_rfl) rfl rfl (fun K hK=>?_)
 go_simp
 refine (HC.out _ (New.refl w3).drew).mono ?_
 rintro e w4 ⟨rfl,k4,c4,q4,e4,h4⟩
 go_wp2_with fail
 have n1:Keep (fun j=>j<w3.heap.size∧c1 j≠i.t) w3.drew w4:=k4
 refine hK.out _ _ n1 ?_
 clear hK K
 try simp only [Act.put,ly1,ly2,ly3,ly4,ly5,ly6]
 replace n0:=n1
 clear n1
 refine take0 8 n0 ?_
 refine take0 9 n0 ?_
 refine take0 10 n0 ?_
 refine take0 11 n0 ?_
 refine take0 12 n0 ?_
 refine wpAnyH_done (by kernel_rfl) ?_ _
 go_wp2_with fail
 have x4:Ext w3 c1 c4:=e4
 have n4:Keep (fun j=>j<w3.heap.size∧¬ i.has (c1 j)) w3 w4:=((Keep.drew (Keep.refl (fun j=>j<w3.heap.size∧¬ i.has (c1 j)) w3)).trans2 n0 fun j _ hj=>⟨hj.1,fun e=>hj.2 (.inl e)⟩)
 have s4:=HBO.out.turnTree (T:=(makeT s.T p1 2).2.2) ((Keep.drew (Keep.refl (fun j=>j<w3.heap.size∧c1 j≠i.t) w3)).trans2 n0 fun j _ hj=>hj) x4 h4
 have H4:=Lib.hid (And.intro n4 (And.intro x4 s4))
 have y4:w4.heap[g]?=some (.cells #[.int .i64 0,.int .i64 0,.slice none 0 0,.slice none 0 0,.int .i64 0,.int .i64 0,.int .i64 0,.int .i64 0,.int .u64 0,.bool false] 30 (0,0)):=(n4.block g (Array.getElem?_eq_some_iff.1 H3.out.1).1 ⟨(Array.getElem?_eq_some_iff.1 H3.out.1).1,by rw [HG.out.2.2.2.2.1];exact HG.out.2.2.2.2.2.1.2⟩).trans H3.out.1
 have HY:=Lib.hid y4
 have HE:Hid (r=(noR (makeT s.T p1 2).2.1,{ s with T:=(makeT s.T p1 2).2.2 })):=HR2
 generalize (makeT s.T p1 2).2.1=er at *
 clear n0 n4 x4 s4 e4 h4 y4 o0 o1 o2 o3 o4 o5 o6 o7 o8 hpc1 hpd1 HC hgp HR2
 go_wp2_with fail
 refine (sno_any er w4).mono ?_
 rintro e w5 ⟨rfl,k5⟩
 have y5:=k5.blockAt HY.out trivial
 have H5:=Lib.hid (And.intro k5 y5)
 obtain ⟨d0,d1,d2,d3,d4,d5,d6,d7,d8,d9⟩:=cells10 y5
 obtain ⟨z0,z1,z2,z3,z4,z5,z6,z7,z8,z9⟩:=frozen10 y5
 dsimp only [replyVal]
 clear k5 y5
 unfold noR ReplyP.nodeId ReplyP.nd
 go_wp2_with fail
 clear d0 d1 d2 d3 d4 d5 d6 d7 d8 d9 z0 z1 z2 z3 z4 z5 z6 z7 z8 z9
 obtain ⟨hE,hKE⟩:=ten_cells H5.out.2 (.int .i64 er) (.int .i64 0) (.slice none 0 0) (.slice none 0 0) (.int .i64 0) (.int .i64 0) (.int .i64 0) (.int .i64 0) (.int .u64 0) (.bool false)
 generalize hwE:World.setCell _ _ _=wE at *
 obtain ⟨f0,f1,f2,f3,f4,f5,f6,f7,f8,f9⟩:=cells10 hE
 try simp only [Exit.inBlock,Exit.then]
 refine bodyPost_ret (v:=replyVal (noR er) none 0 none 0) (by simp [results,Tryz.results128,go_sem,f0,f1,f2,f3,f4,f5,f6,f7,f8,f9,replyVal,noR,ReplyP.nodeId,ReplyP.nd]) rfl ?_
 rw [HE.out]
 have kk:Keep (fun j=>j<w3.heap.size∧¬ i.has (c1 j)) w3 w5:=H4.out.1.trans2 (Keep.of_new (D:=fun j=>j<w4.heap.size) H5.out.1) fun j hj hh=>Nat.lt_of_lt_of_le hh.1 H4.out.1.size
 exact DoRet.tail (x:=(noR er,_)) (D:=none) (N:=none) ⟨rfl,rfl⟩ (Nat.le_refl _) HG.out H2.out.1.size (k3:=H3.out.2.2.2.2.1) kk H4.out.2.1 (H4.out.2.2.new H5.out.1) hKE (Array.getElem?_eq_some_iff.1 H3.out.1).1
end
end Go.Proofs.YtdodbdednpnddaaGreatDoor
