/-
  PROVED HERE: parts of a law's walk, each under the conditions that its statement names.
-/
import Derived.Test.YtlopmiaimignkaaGreatDoorRows
import Derived.ProofKit
import Derived.OpenShut
import Derived.Carry
import Derived.ChangeSlices
import Derived.Lib.SmallJoins
import Derived.Deep.SlicePairs
import Derived.Lib.AppendZerosOnto
import Derived.Lib.SliceRun
import Derived.Test.YtlopmiaimignkaaGreatDoorPkM07
set_option maxRecDepth 100000
set_option maxHeartbeats 2000000
namespace Go.Proofs.YtlopmiaimignkaaGreatDoor
open Go.Proofs.Tryz
open Go.RowKit
variable{args:Array Value}{u v:Value}{W w:World}{base base' c c' n n' p:Nat}{ops:Array Oper}{rest:List Oper}{o:Oper}{a:Act}{Q:Exit->Act->World->Prop}{A A':Option Addr}{xs:List Value}{bs:List UInt8}
def pQ(w:World)(D:Nat->Prop)(vs:List Value)(i:Nat)(r:eA):Prop :=
 ∃A c,vs[i]?=some (.int .i64 r.kind)/\vs[i+1]?=some (.int .u64 r.seq)/\vs[i+2]?=some (.slice A r.body.length c)/\r.body.length<=c/\Bs w D A r.body.length r.body/\0<=r.seq/\r.seq<=18446744073709551615/\r.body.length<=9223372036854770000/\c<=9223372036854775807
theorem pQ.keep{w w':World}{D E:Nat->Prop}{vs:List Value}{i:Nat}{r:eA}(h:pQ w D vs i r)(hk:b_ E w w')(hE:∀b,b<w.heap.size->D b->E b):pQ w' D vs i r:=by
 obtain⟨A,c,h1,h2,h3,a,h5,h6,h7,d⟩:=h
 exact⟨A,c,h1,h2,h3,a,h5.keep hk hE,h6,h7,d⟩
theorem pQ.imp{w:World}{D E:Nat->Prop}{vs:List Value}{i:Nat}{r:eA}(h:pQ w D vs i r)(hE:∀b,b<w.heap.size->D b->E b):pQ w E vs i r:=by
 obtain⟨A,c,h1,h2,h3,a,h5,h6,h7,d⟩:=h
 exact⟨A,c,h1,h2,h3,a,h5.imp hE,h6,h7,d⟩
def mc(w:World)(D:Nat->Prop)(A:Option Addr)(n:Nat)(rs:List eA):Prop :=
 ∃vs:List Value,Row w D A n 3 vs/\rs.length=n/\∀k (h:k<rs.length),pQ w D vs (k*3) rs[k]
section
variable {w w':World}{D E:Nat->Prop}{A:Option Addr}{n:Nat}{rs:List eA}
theorem mc.len(h:mc w D A n rs):rs.length=n:=by obtain⟨_,_,h,_⟩:=h;exact h
theorem mc.keep(h:mc w D A n rs)(hk:b_ E w w')(hE:∀b,b<w.heap.size->D b->E b):mc w' D A n rs:=by
 obtain⟨c,h1,h2,h3⟩:=h
 exact⟨c,h1.keep hk hE,h2,fun k a=>(h3 k a).keep hk hE⟩
theorem mc.new(h:mc w D A n rs)(hk:New w w'):mc w' D A n rs:=h.keep hk fun _ _ _=>trivial
theorem mc.at_(h:mc w D A n rs){k:Nat}(hk:k<rs.length):
  ∃b off A' c',A=some ⟨b,off,none⟩/\w.cell? ⟨b,off+k*3,none⟩=some (.int .i64 rs[k].kind)/\w.cell? ⟨b,off+k*3+1,none⟩=some (.int .u64 rs[k].seq) /\
   w.cell? ⟨b,off+k*3+2,none⟩=some (.slice A' rs[k].body.length c')/\rs[k].body.length<=c'/\Bs w D A' rs[k].body.length rs[k].body/\0<=rs[k].seq/\rs[k].seq<=18446744073709551615/\rs[k].body.length<=9223372036854770000/\c'<=9223372036854775807:=by
 obtain⟨c,h1,h2,h3⟩:=h
 obtain⟨A',c',e1,e2,e3,hc,hb,h5,h6,h7⟩:=h3 k hk
 obtain⟨b,off,hA,_,_,a⟩:=h1.2 zo
 refine⟨b,off,A',c',hA,a _ _ e1,?_,?_,hc,hb,h5,h6,h7⟩
 ·rw[Nat.add_assoc];exact a _ _ e2
 rw[Nat.add_assoc];exact a _ _ e3
end
def i8:Nat->List eA->Nat
 | _,[]=>0
 | left,r::rs=>if dZ r=true/\eU r<=left then i8 (left-eU r) rs+1 else 0
theorem Ed(left k:Nat)(rs:List eA)(hk:k<rs.length)(hr:dZ rs[k]=true)(hs:eU rs[k]<=left):i8 left (rs.drop k)=i8 (left-eU rs[k]) (rs.drop (k+1))+1:=by
 rw[List.drop_eq_getElem_cons hk,i8,if_pos ⟨hr,hs⟩]
theorem Ec(left k:Nat)(rs:List eA)(hk:k<rs.length)(h:¬(dZ rs[k]=true/\eU rs[k]<=left)):i8 left (rs.drop k)=0:=by
 rw[List.drop_eq_getElem_cons hk,i8,if_neg h]
theorem qR(D:Nat->Prop)(A:Option Addr)(n c:Nat)(rs:List eA)(w:World)(hB:mc w D A n rs)(hn:n<=9223372036854775807):
  Calls prog 26 #[.slice A n c] w fun e w'=>e=.returned (.int .i64 (i8 942 rs))/\New w w':=by
 have hl:=hB.len
 have Q:=zh hB
 clear hB
 go_in
 go_wp2_with fail
 go_loopw [3,8] (fun R i S=>∃k left:Nat,k<=n/\left<=942/\i=.int .i64 (k:Int)/\R=.int .i64 (left:Int)/\i8 942 rs=k+i8 left (rs.drop k)/\New w S) (fun _ i _=>n-(intOf i).toNat)
 case atStart=>exact⟨0,942,Nat.zero_le _,zr,rfl,rfl,by simp,zN _⟩
 obtain⟨k,left,hk,U,rfl,rfl,hf,p⟩:=hrel
 have l:=zh hf
 clear hf
 by_cases hlt:k<n
 ·obtain⟨b,off,q,s,rfl,h1,h2,h3,I,hb,J,K,hc9⟩:=(Q.new p).at_ (k:=k) zo
  have L:=zh<|Ed left k rs zo
  have t:=zh<|Ec left k rs zo
  generalize rs[k]'_=r at *
  have T:=zh<|fun w'=>mh r.kind r.seq q r.body.length s r w' rfl rfl rfl zo
  have M:=zh<|fun w'=>EO r.kind r.seq q r.body.length s r w' rfl rfl rfl zo
  have N:=zh<|heap_alloc_new wr (.cells #[.int .i64 r.kind,.int .u64 r.seq,.slice q r.body.length s] 45)
  have u:New w (wr.alloc (.cells #[.int .i64 r.kind,.int .u64 r.seq,.slice q r.body.length s] 45)):=p.alloc _
  clear hb I J K p
  go_wp2_with fail
  generalize wr.alloc _=V at *
  refine(T.out _).mono ?_
  rintro e W⟨rfl,m⟩
  have a:=zh<|m.Qa N.out zt
  have d:=u.new m
  clear u m N h1 h2 h3
  by_cases j:dZ r=true
  ·have B:=a_ a.out (k:=0) rfl
   have C:=a_ a.out (k:=1) rfl
   have E:=a_ a.out (k:=2) rfl
   have O:=zh j
   rw[j]
   clear j
   go_wp2_with fail
   clear B C E
   refine(M.out _).mono ?_
   rintro e X⟨rfl,o⟩
   have v:=zh<|o.Qa a.out zt
   have f:=d.new o
   clear d o a
   by_cases g:eU r<=left
   ·have F:¬((left:Int)<eU r):=zo
    obtain⟨B,C,E⟩:=cs3 v.out
    go_wp2_with fail
    clear B C E
    refine(M.out _).mono ?_
    rintro e Y⟨rfl,x⟩
    have G:=f.new x
    clear f x v
    go_wp2
    go_roundw
    case rel=>exact⟨k+1,left-eU r,zo,zo,by go_num,by rw[Int.ofNat_sub g],by have h:=l.out;rw[L.out O.out g] at h;omega,G⟩
    simp[intOf];omega
   have F:(left:Int)<eU r:=by omega
   have H:=zh<|t.out (fun h=>g h.2)
   clear g
   go_wp2
   go_ret
   exact⟨by rw[l.out,H.out];rfl,f⟩
  have H:=zh<|t.out (fun h=>j h.1)
  have y:dZ r=false:=by simpa using j
  rw[y]
  clear j y
  go_wp2
  go_ret
  exact⟨by rw[l.out,H.out];rfl,d⟩
 obtain rfl:k=n:=by omega
 rw[List.drop_eq_nil_of_le zo] at l
 have z:i8 left []=0:=rfl
 have P:=zh z
 clear z hl
 go_wp2
 go_ret
 exact⟨by rw[l.out,P.out];rfl,p⟩
open Go.ChangeShapes Go.WideShapes Go.ChangeAt Go.RowKit Go.Joins Go.Deep
theorem FE:laidOutB prog=true:=by kernel_rfl
theorem Fb:ownKnob prog.godebug=none:=by kernel_rfl
section
variable {H:Type}{enc:TypeId×Value->H}{P:Program}{W W':World}
theorem py(hl:laidOutB P=true){sp':Nat->Bool}:∀ {ts:List TypeId}{vs:List Value}{ds:List (DataW H)}{ps:List MemPlace},(ts.all fun t=>P.readableRec t&&decide (t<P.types.size))=true ->
  DataW.TrodAll enc P W 0 (fun _=>true) true ts vs ds ps->(∀p∈ps,W.sameAt W' p)->(∀p∈ps,sp' p.block=true)->DataW.TrodAll enc P W' 0 sp' true ts vs ds ps
 | [],[],[],_,_,h,_,_=>h
 | t::ts,v::vs,d::ds,ps,hr,h,hs,hp=>by
  obtain⟨p,q,h1,h2,rfl⟩:=h
  simp only[List.all_cons,Bool.and_eq_true,decide_eq_true_eq] at hr
  refine⟨p,q,WideElems.Trod_stays hl hr.1.1 hr.1.2 h1 (fun x a=>hs x (by simp[a])) (fun x a=>hp x (by simp[a])),py hl (by simpa using hr.2) h2 (fun x a=>hs x (by simp[a])) (fun x a=>hp x (by simp[a])),rfl⟩
theorem uO{f:Func}{s:ChangeSpec}{apart fresh handsOn again:Bool}{ds gs:List (DataW H)}{before pa pv:List MemPlace}(hW:DataW.Whole enc P f.params.toList s.vars apart W args.toList ds gs before)(hres:∀(b:Nat) (sp:Nat->Bool) (hd:Bool),DataW.TrodAll enc P W' b sp hd f.resultTypes.toList (v.resultList f.resultTypes.size) (s.fn H (ds++gs)).results [])(hargs:∀sp:Nat->Bool,(∀p∈before,sp p.block=true)->DataW.TrodAll enc P W' 0 sp true f.params.toList args.toList (s.fn H (ds++gs)).args pa)(hvars:∀sp:Nat->Bool,(∀p∈before,sp p.block=true)->DataW.TrodVars enc P W' sp s.vars (s.fn H (ds++gs)).vars pv)(hps:before=pa++pv)(hb:Below W.heap.size W W')(hok:∀(j:Nat) (t:TypeId) (r:Value),f.resultTypes[j]?=some t->(v.resultList f.resultTypes.size)[j]?=some r->Value.okWide P W' .any 0 t r):
  s.post enc P f apart fresh handsOn again W args v W':=by
 have hlt:∀p∈before,p.block<W.heap.size:=fun p a=>hW.lt p a
 have c:∀p∈before,(fun b=>decide (b<W.heap.size)) p.block=true:=fun p a=>by simpa using hlt p a
 refine⟨ds,gs,before,[],pa,pv,hW,hres _ _ _,hargs _ c,hvars _ c,World.keptBut_mono (fun p a=>⟨a,?_⟩) (hb.frame (· ∈ before)),fun _=>?_⟩
 ·rw[hps,List.mem_append] at a
  exact Or.inr a
 obtain⟨_,_,_,_,_,hz,hn⟩:=hW
 refine⟨hok,_,_,([]++pa)++pv,⟨[]++pa,pv,trodAll_append (hargs _ (fun _ _=>rfl)) (hres _ _ _),hvars _ (fun _ _=>rfl),rfl,?_,?_⟩,?_⟩
 ·intro b off a
  have d:MemPlace.cell b off∈before:=by rw[hps];simpa using a
  rw[hb.frozen (hlt _ d)]
  exact hz b off d
 ·intro ha
  have:=hn ha
  rw[hps] at this
  simpa using this
 intro p a _
 rw[hps]
 simpa using a
theorem FC{f:Func}{s:ChangeSpec}{apart fresh handsOn again:Bool}{tb:TypeId}{ds gs:List (DataW H)}{before:List MemPlace}(hl:laidOutB P=true)(hts:(f.params.toList.all fun t=>P.readableRec t&&decide (t<P.types.size))=true)(hv:s.vars=[])(hrt:f.resultTypes=#[tb])(htb:P.underlying tb=some .bool)(hW:DataW.Whole enc P f.params.toList s.vars apart W args.toList ds gs before)(hr:(s.fn H (ds++gs)).results=[.lit (.bool true)])(ha:(s.fn H (ds++gs)).args=ds)(hva:(s.fn H (ds++gs)).vars=[])(hN:New W W'):
  s.post enc P f apart fresh handsOn again W args (.bool true) W':=by
 have a:=hW
 obtain⟨p,q,hA,b,rfl,e,g⟩:=hW
 rw[hv] at b
 have hq:gs=[]/\q=[]:=by
  cases gs with
  | nil=>exact⟨rfl,b⟩
  | cons _ _=>exact b.elim
 obtain⟨rfl,rfl⟩:=hq
 have hb:Below W.heap.size W W':=hN.below
 refine uO (pa:=p) (pv:=[]) a (fun _ _ _=>?_) (fun h d=>?_) (fun _ _=>?_) rfl hb ?_
 ·rw[hr,hrt];exact trodAll_cons_mk (shut_bool htb _) trodAll_mk0
 ·rw[ha];exact py hl hts hA (fun x c=>hb.same (a.lt x (by simp[c]))) (fun x c=>d x (by simp[c]))
 ·rw[hva,hv];rfl
 exact ok_one hrt rfl (okWide_bool_mk htb _)
end
theorem C9{a:Addr}(h:W.cell? (a.add 0)=some u):a.spot=none:=by
 obtain⟨b,o,s⟩:=a
 cases s with
 | none=>rfl
 | some i =>
  exfalso
  have e:(Addr.mk b o (some i)).add 0=⟨b,o,some i⟩:=rfl
  rw[e] at h
  unfold World.cell? at h
  split at h
  ·simp at h
  cases h
theorem tz{H:Type}{enc:TypeId×Value->H}{sp:Nat->Bool}{held:Bool}{fuel:Nat}{x:DataW H×List MemPlace}(h:DataW.trod enc prog W base sp held fuel 22 [v]=some x):
  ∃(A:Option Addr) (n c:Nat) (bs:List UInt8),v=.slice A n c/\n<=c/\c<=maxLen/\Bs W (fun _=>True) A n bs:=by
 rcases open_ints underlying22 underlying5 zk h with⟨hc,_⟩|⟨a,len,l,f,hc,_,hl,hm,hz,_,d,m⟩
 ·injection hc with hc
  exact⟨none,0,0,[],hc,zr,Nat.zero_le _,Row.nil _ _ _ _⟩
 injection hc with hc
 have p:len<=f.length:=by rw[hz];split <;> omega
 refine⟨some a,len,l,(f.take len).map fun z=>UInt8.ofNat z.toNat,hc,hl,hm,by rw[List.length_map,List.length_map,List.length_take];omega,fun hn=>?_⟩
 have h0:=d 0 zo
 have g:a.spot=none:=C9 h0
 obtain⟨b,off,q⟩:=a
 simp only at g
 subst g
 have hlt:=World.block_lt_of_cell? W _ h0
 refine⟨b,off,rfl,zt,hlt,fun k u o=>?_⟩
 have hk:k<len:=by
  have:=(List.getElem?_eq_some_iff.1 o).1
  rw[List.length_map,List.length_map,List.length_take] at this;omega
 have i:=d k zo
 have j:(Addr.mk b off none).add k=⟨b,off+k,none⟩:=by
  unfold Addr.add;split
  ·rename_i e;subst e;rfl
  rfl
 rw[j] at i
 rw[i,<- o,List.getElem?_map,List.getElem?_map,List.getElem?_take,if_pos hk,List.getElem?_eq_getElem (by omega:k<f.length)]
 have hw:=m (f[k]'zo) (List.getElem_mem _)
 simp only[Lit.wf,IntKind.min,IntKind.max,IntKind.signed,IntKind.bits] at hw
 simp at hw
 simp only[Option.map_some,eE,bv,List.getD_eq_getElem?_getD,List.getElem?_eq_getElem (by omega:k<f.length),Option.getD_some]
 rw[UInt8.toNat_ofNat_of_lt' (by show _<256;omega)]
 congr 2
 omega
structure Jf where
 mark:Bool
 body:List UInt8
instance:Inhabited Jf:=⟨⟨false,[]⟩⟩
section
variable {w w':World}{D E:Nat->Prop}{A:Option Addr}{n:Nat}{ls:List Jf}
end
theorem Bp:(prog.info? 22).map (fun i=>(i.zero,i.size,i.bytes))=some (some (.slice none 0 0),1,24):=zk
theorem Gm(w:World)(hgd:o.guard=none)(s x:Operand)(ho:o.op=.call { callee:=.builtin .append,args:=#[s,x],argTypes:=#[157,157] })(base:Nat)(A:Option Addr)(n c:Nat)(xs:List Value)(hs:a.eval s=.slice A n c)(hown:Own w base 22 1 A n c xs)(D:Nat->Prop)(A2:Option Addr)(m c2:Nat)(news:List Value)(hx:a.eval x=.slice A2 m c2)(hr:Row w D A2 m 1 news)(h1:∀u∈news,u.oneCell'=true)(h63:n+m<=1099511627776)(hbase:base<=w.heap.size)(h:∀A' c' w',Own w' base 22 1 A' (n+m) c' (xs++news)->w.grownBy w' (blk A)->(blk A'=blk A\/blk A'=some w.heap.size)->wpList prog ops Q rest (a.put o.dst (.slice A' (n+m) c')) w'):wpList prog ops Q (o::rest) a w:=by
 obtain⟨i,hi,b,d,e⟩:=info_parts Bp
 exact gW w hgd s x 157 ho base 22 i (.slice none 0 0) 1 24 underlying157 hi b d e rfl Zd A n c xs hs hown D A2 m c2 news hx hr h1 (by unfold maxLen;omega) zo hbase h
def iS(w:World)(base:Nat)(D:Nat->Prop)(A:Option Addr)(n c:Nat)(ls:List (List UInt8)):Prop :=
 ∃vs:List Value,Own w base 22 1 A n c vs/\ls.length=n/\∀k (h:k<ls.length),∃A' c',vs[k]?=some (.slice A' ls[k].length c')/\ls[k].length<=c'/\Bs w (fun b=>D b/\some b≠blk A) A' ls[k].length ls[k]
section
variable {w w':World}{base base':Nat}{D E:Nat->Prop}{A:Option Addr}{n c:Nat}{ls:List (List UInt8)}
theorem iS.bss(h:iS w base D A n c ls):Bss w (fun b=>base<=b\/D b) A n ls:=by
 obtain⟨a,h1,h2,h3⟩:=h
 refine⟨a,(Row.Qc h1).imp (fun _ _ h=>.inl h),h2,fun k hk=>?_⟩
 obtain⟨d,f,e,hc,hb⟩:=h3 k hk
 exact⟨d,f,e,hc,hb.imp fun _ _ h=>.inr h.1⟩
theorem iS.nil(w:World)(base:Nat)(D:Nat->Prop):iS w base D none 0 0 []:=⟨[],Own.nil _ _ _ _,rfl,fun k hk=>absurd hk (by simp)⟩
theorem iS.new(h:iS w base D A n c ls)(hk:New w w'):iS w' base D A n c ls:=by
 obtain⟨b,h1,h2,h3⟩:=h
 refine⟨b,eP h1 hk (fun _ _=>zt),h2,fun k a=>?_⟩
 obtain⟨d,f,e,hc,hb⟩:=h3 k a
 exact⟨d,f,e,hc,hb.new hk⟩
theorem iS.cap(h:iS w base D A n c ls):n<=c:=by obtain⟨_,h,_⟩:=h;exact ew h
theorem eh{e:TypeId}{size:Nat}(h:Own w base e size A n c xs):c<=9223372036854775807:=by
 rcases h.2 with⟨a,hn⟩|⟨g,b,d,a,hb,hg,h1,h2,h3,f⟩
 ·injection a with h5 h6 h7;omega
 injection a with h5 h6 h7;unfold maxLen at h2;omega
theorem iS.capMax(h:iS w base D A n c ls):c<=9223372036854775807:=by obtain⟨_,h,_⟩:=h;exact eh h
theorem iS.lt(h:iS w base D A n c ls):∀k,blk A=some k->base<=k/\k<w.heap.size:=by obtain⟨_,h,_⟩:=h;exact eW h
end
theorem DH(h:Own w base 22 1 A n c xs)(hb:fy w base' 5 A' n' c' bs):Bs w (fun b=>base'<=b/\some b≠blk A) A' n' bs:=by
 have i:=Row.Qc hb
 refine⟨i.1,fun hn=>?_⟩
 obtain⟨b,off,rfl,hd,hlt,hc⟩:=i.2 hn
 refine⟨b,off,rfl,⟨hd,fun e=>?_⟩,hlt,hc⟩
 rcases hb.2 with⟨f,_⟩|⟨g,m,o,f,_,hg,_⟩
 ·cases f
 injection f with hA;injection hA with hA;injection hA with hA;subst hA
 rcases h.2 with⟨d,_⟩|⟨j,k,l,d,_,a,_⟩
 ·injection d with hA;subst hA;cases e
 injection d with hA;subst hA
 have:b=j:=by injection e
 subst this
 rw[hg] at a
 injection a with a
 injection a with _ ht
 exact absurd ht Zd
theorem iS.apart{D:Nat->Prop}{ls:List (List UInt8)}(h:iS w base D A n c ls)(hb:fy w base' 5 A' n' c' bs):Bs w (fun b=>base'<=b/\some b≠blk A) A' n' bs:=by
 obtain⟨_,h,_⟩:=h;exact DH h hb
theorem Ci(w:World)(t:TypeId)(v:Value):Row (w.alloc (.cells #[v] t)) (fun b=>w.heap.size<=b) (some ⟨w.heap.size,0,none⟩) 1 1 [v]:=Row.made w t #[v] 1 1 rfl
theorem CI(w:World)(hgd:o.guard=none)(s x:Operand)(ho:o.op=.call { callee:=.builtin .append,args:=#[s,x],argTypes:=#[157,157] })(base:Nat)(D:Nat->Prop)(A:Option Addr)(n c:Nat)(ls:List (List UInt8))(hs:a.eval s=.slice A n c)(hown:iS w base D A n c ls)(D2:Nat->Prop)(A2:Option Addr)(c2:Nat)(A':Option Addr)(m c':Nat)(y:List UInt8)(hx:a.eval x=.slice A2 1 c2)(hr:Row w D2 A2 1 1 [.slice A' m c'])(hy:Bs w (fun b=>D b/\some b≠blk A) A' m y)(hmc:m<=c')(h63:n+1<=1099511627776)(hbase:base<=w.heap.size)(h:∀A3 c3 w3,iS w3 base D A3 (n+1) c3 (ls++[y])->w.grownBy w3 (blk A)->(blk A3=blk A\/blk A3=some w.heap.size)->wpList prog ops Q rest (a.put o.dst (.slice A3 (n+1) c3)) w3):wpList prog ops Q (o::rest) a w:=by
 obtain⟨i,h1,h2,h3⟩:=hown
 refine Gm w hgd s x ho base A n c i hs h1 D2 A2 1 c2 [.slice A' m c'] hx hr (by intro u t;simp at t;subst t;rfl) h63 hbase ?_
 intro A3 c3 w3 j p f
 refine h A3 c3 w3 ⟨i++[.slice A' m c'],j,by simp[h2],fun k hk=>?_⟩ p f
 have F:i.length=n:=by have:=h1.1;simpa using this
 have q:=hy.len
 have g:∀ {d:Option Addr} {l:Nat} {z:List UInt8},Bs w (fun b=>D b/\some b≠blk A) d l z->Bs w3 (fun b=>D b/\some b≠blk A3) d l z:=fun {d l z} hb=>by
  have v:b_ (fun b=>some b≠blk A) w w3:=(b_.refl _ w).grown p (fun k hk hd=>absurd hk.symm hd)
  have B:Bs w (fun b=>(D b/\some b≠blk A)/\some b≠blk A3) d l z:=hb.imp fun b hlt hd=>⟨hd,by
   rcases f with e|e
   ·rw[e];exact hd.2
   rw[e];intro e';injection e';omega⟩
  exact(Row.keep B v (fun b _ hd=>hd.1.2)).imp fun b _ hd=>⟨hd.1.1,hd.2⟩
 by_cases r:k<ls.length
 ·rw[List.getElem_append_left r]
  obtain⟨d,E,e,hc,hb⟩:=h3 k r
  exact⟨d,E,by rw[List.getElem?_append_left zo];exact e,hc,g hb⟩
 have C:k=ls.length:=by simp at hk;omega
 subst C
 rw[List.getElem_append_right zr]
 simp only[Nat.sub_self,List.getElem_singleton]
 refine⟨A',c',by rw[List.getElem?_append_right zo,show ls.length-i.length=0 from by omega,q];rfl,zo,?_⟩
 have:=g hy
 rwa[<- q] at this
def dW(rs:List eA):List (List UInt8):=rs.map fun r=>if dZ r=true then gS r else[]
theorem yH(rs:List eA)(k:Nat)(hk:k<rs.length):dW (rs.take (k+1))=dW (rs.take k)++[if dZ rs[k]=true then gS rs[k] else[]]:=by
 unfold dW;rw[List.take_succ_eq_append_getElem hk,List.map_append];rfl
theorem tV(D:Nat->Prop)(A:Option Addr)(n c:Nat)(rs:List eA)(w:World)(hB:mc w D A n rs)(hn:n<=1099511620000):
  Calls prog 106 #[.slice A n c] w fun e w'=>(∃A' c',e=.returned (.slice A' n c')/\iS w' w.heap.size (fun b=>w.heap.size<=b) A' n c' (dW rs))/\New w w':=by
 have hl:=hB.len
 have Q:=zh hB
 clear hB
 go_in
 go_wp2_with fail
 go_loopw [3,10] (fun R i P=>∃(k:Nat) (A':Option Addr) (c':Nat),k<=n/\i=.int .i64 (k:Int)/\R=.slice A' k c'/\iS P w.heap.size (fun b=>w.heap.size<=b) A' k c' (dW (rs.take k))/\New w P) (fun _ i _=>n-(intOf i).toNat)
 case atStart=>exact⟨0,none,0,Nat.zero_le _,rfl,rfl,iS.nil _ _ _,zN _⟩
 obtain⟨k,A1,c1,hk,rfl,rfl,j,x⟩:=hrel
 by_cases hlt:k<n
 ·obtain⟨b,off,A',c',rfl,h1,h2,h3,z,hb,B,C,hc9⟩:=(Q.new x).at_ (k:=k) zo
  have F:=zh<|yH rs k zo
  generalize rs[k]'_=r at *
  have I:New w (wr.alloc (.cells #[.int .i64 r.kind,.int .u64 r.seq,.slice A' r.body.length c'] 45)):=x.alloc _
  have p:New wr (wr.alloc (.cells #[.int .i64 r.kind,.int .u64 r.seq,.slice A' r.body.length c'] 45)):=(zN wr).alloc _
  by_cases G:dZ r=true
  ·have J:=zh<|BF D A' r.body.length c' r _ (hb.new p) z zo B C G
   rw[if_pos G] at F
   clear hb z B C G
   go_wp2_with fail
   refine J.mono ?_
   rintro e o⟨⟨H,c2,rfl,q⟩,t⟩
   have l:=p.new t
   have a:=j.new l
   have f:=x.new l
   have M:w.heap.size<=(wr.alloc (.cells #[.int .i64 r.kind,.int .u64 r.seq,.slice A' r.body.length c'] 45)).heap.size:=I.size
   have hy:=(Row.imp (a.apart q) (E:=fun b=>w.heap.size<=b/\some b≠blk A1) (fun b _ h=>⟨Nat.le_trans M h.1,h.2⟩)).alloc (.cells #[.slice H (gS r).length c2] 22)
   have N:=ew q
   have d:=a.new ((zN o).alloc (.cells #[.slice H (gS r).length c2] 22))
   have m:=Ci o 22 (.slice H (gS r).length c2)
   have K:k+1<=1099511627776:=by omega
   have u:w.heap.size<=(o.alloc (.cells #[.slice H (gS r).length c2] 22)).heap.size:=(f.alloc _).size
   clear j x l p I t h1 h2 h3 J q M
   go_wp2_with (at_builtin;refine CI _ rfl (.tmp 19) (.tmp 21) rfl w.heap.size (fun b=>w.heap.size<=b) A1 k c1 _ rfl d (fun g=>o.heap.size<=g) _ 1 H _ c2 _ rfl m hy N K u ?_;intro S T U s v y)
   have L:=(f.alloc (.cells #[.slice H (gS r).length c2] 22)).grown v (fun k hk _=>(a.lt k hk).1)
   clear a d m hy N v y f u
   go_roundw
   case rel=>exact⟨k+1,_,_,zo,by go_num,rfl,by rw[F.out];exact s,L⟩
   simp[intOf];omega
  have O:dZ r=false:=by simpa using G
  have J:=zh<|Ek D A' r.body.length c' r _ (hb.new p) z zo B C O
  rw[if_neg G] at F
  clear hb z B C G O
  go_wp2_with fail
  refine J.mono ?_
  rintro e o⟨rfl,t⟩
  have l:=p.new t
  have a:=j.new l
  have f:=x.new l
  have hy:Bs (o.alloc (.cells #[.slice none 0 0] 22)) (fun b=>w.heap.size<=b/\some b≠blk A1) none 0 []:=Row.nil _ _ _ _
  have d:=a.new ((zN o).alloc (.cells #[.slice none 0 0] 22))
  have m:=Ci o 22 (.slice none 0 0)
  have K:k+1<=1099511627776:=by omega
  have u:w.heap.size<=(o.alloc (.cells #[.slice none 0 0] 22)).heap.size:=(f.alloc _).size
  clear j x l p I t h1 h2 h3 J
  go_wp2_with (at_builtin;refine CI _ rfl (.tmp 19) (.tmp 21) rfl w.heap.size (fun b=>w.heap.size<=b) A1 k c1 _ rfl d (fun g=>o.heap.size<=g) _ 1 none _ 0 _ rfl m hy zr K u ?_;intro S T U s v y)
  have L:=(f.alloc (.cells #[.slice none 0 0] 22)).grown v (fun k hk _=>(a.lt k hk).1)
  clear a d m hy v y f u
  go_roundw
  case rel=>exact⟨k+1,_,_,zo,by go_num,rfl,by rw[F.out];exact s,L⟩
  simp[intOf];omega
 obtain rfl:k=n:=by omega
 rw[List.take_of_length_le zo] at j
 go_wp2
 go_ret
 exact⟨⟨_,_,rfl,j⟩,x⟩
theorem mB{P:Program}(hgd:o.guard=none)(s x:Operand)(t1 t2:TypeId)(ho:o.op=.call { callee:=.builtin .append,args:=#[s,x],argTypes:=#[t1,t2] })(v:Value)(w':World)(vs vx:Value)(hs:a.eval s=vs)(hx:a.eval x=vx)(hrun:(Builtin.append_ #[t1,t2] o.type #[vs,vx]).run P w=.ok v w')(h:wpList P ops Q rest (a.put o.dst v) w'):wpList P ops Q (o::rest) a w :=
 wpList_plain hgd fun _ b=>by
  unfold Oper.wp execOp
  simp only[ho,resolve,invoke,builtin,Sem.run_bind,Sem.run_pure,Result.andThen_ok,List.map_toArray,List.map_cons,List.map_nil,hs,hx,hrun]
  exact b _ _ h
theorem FV(n:Nat)(w:World)(hn:n<=1099511627776):
  Calls prog 204 #[.slice none 0 0,.int .i64 n] w fun e w'=>(∃A' c',e=.returned (.slice A' 0 c')/\fy w' w.heap.size 5 A' 0 c' [])/\New w w':=by
 by_cases h0:n=0
 ·subst h0
  rw[show((0:Nat):Int)=0 from rfl]
  go_in
  go_wp2
  go_ret
  exact⟨⟨none,0,rfl,Own.nil _ _ _ _⟩,zN _⟩
 obtain⟨i,hi,g,k,c⟩:=info_parts nV
 have j:0<n:=by omega
 have d:(Builtin.firstCells i.size 0 (.slice none 0 0)).run prog w.drew=.ok ([]:List Value).toArray w.drew:=by
  simp[Builtin.firstCells]
 have a:Builtin.nextslicecap (0+n) 0*i.bytes<=281474976710656:=by
  rw[c];unfold Builtin.nextslicecap;rw[if_pos zo];omega
 have f:=fun o=>Lib.run_append_grow_zeros w 22 3 o 5 i (.int .u8 0) .i64 .i64 underlying22 underlying3 hi g none 0 0 [] d n j zo zo zo (by rw[c];omega) a
 have l:=Go.grownCap_ge w (0+n) 0 5
 have h:=Go.grownCap_le_maxLen w (0+n) 0 5 (by unfold maxLen;omega)
 simp only[Nat.zero_add] at f l h
 have b:(([]:List Value).toArray++Builtin.zeroCells (Value.int .u8 0).cells n++Builtin.zeroCells (Value.int .u8 0).cells (grownCap w n 0 5-n)).size=grownCap w n 0 5*1:=by
  simp[Builtin.zeroCells,Value.cells]
  omega
 generalize (([]:List Value).toArray++Builtin.zeroCells (Value.int .u8 0).cells n++Builtin.zeroCells (Value.int .u8 0).cells (grownCap w n 0 5-n))=p at *
 generalize grownCap w n 0 5=G at *
 have m:0<(n:Int):=zo
 have q:=zh b
 have r:=zh f
 clear f
 unfold maxLen at h
 clear b a d g k c hi h0
 go_in
 go_wp2_with (at_builtin;refine mB rfl (.tmp 20) (.tmp 21) _ _ rfl _ _ _ _ rfl rfl (r.out _) ?_)
 go_ret
 refine⟨⟨_,_,rfl,?_⟩,(zN w).drew.alloc _⟩
 exact⟨rfl,.inr ⟨w.heap.size,G,p,rfl,zr,heap_alloc_new w.drew _,Nat.zero_le _,by unfold maxLen;omega,q.out,rfl⟩⟩
theorem qk(D:Nat->Prop)(A:Option Addr)(n c:Nat)(ls:List (List UInt8))(w:World)(hB:Bss w D A n ls)(hn:ls.flatten.length<=1099511627776)(hm:n<=9223372036854775807):
  Calls prog 107 #[.slice A n c] w fun e w'=>(∃A' c',e=.returned (.slice A' ls.flatten.length c')/\fy w' w.heap.size 5 A' ls.flatten.length c' ls.flatten)/\New w w':=by
 have hl:=hB.len
 have v:=zh hB
 clear hB
 go_in
 go_wp2_with fail
 go_loop [3,11] (fun G i=>∃k m:Nat,k<=n/\m<=1099511627776/\i=.int .i64 (k:Int)/\G=.int .i64 (m:Int)/\m=(ls.take k).flatten.length) (fun _ i=>n-(intOf i).toNat)
 case atStart=>exact⟨0,0,Nat.zero_le _,Nat.zero_le _,rfl,rfl,by simp⟩
 obtain⟨k,m,hk,y,rfl,rfl,p⟩:=hrel
 have s:=zh p
 clear p
 by_cases hlt:k<n
 ·obtain⟨b,off,A',c',rfl,hc,t,hb⟩:=v.at_ (k:=k) zo
  have hfl:=ky ls k zo
  rw[<- s.out] at hfl
  have f:=zh<|ma ls k zo
  generalize ls[k]'_=x at *
  have H:¬((m:Int)+x.length<0):=zo
  have J:x.length<=1099511627776:=by omega
  clear hb
  go_wp2
  go_round
  case rel=>exact⟨k+1,m+x.length,zo,zo,by go_num,by go_num,by rw[f.out,zL,<- s.out]⟩
  simp[intOf];omega
 obtain rfl:k=n:=by omega
 rw[List.take_of_length_le zo] at s
 go_wp2_with fail
 refine(FV m w y).mono ?_
 rintro e K⟨⟨A1,c1,rfl,a⟩,d⟩
 go_wp2_with fail
 go_loopw [6,27] (fun I i z=>∃(j h:Nat) (A':Option Addr) (c':Nat),j<=k/\i=.int .i64 (j:Int)/\I=.slice A' h c'/\h=(ls.take j).flatten.length/\fy z w.heap.size 5 A' h c' (ls.take j).flatten/\New w z) (fun _ i _=>k-(intOf i).toNat)
 case atStart=>exact⟨0,0,A1,c1,Nat.zero_le _,rfl,rfl,by simp,a,d⟩
 clear a d
 obtain⟨j,h,B,c2,hj,rfl,rfl,q,a,d⟩:=hrel
 have g:=zh q
 clear q
 by_cases hlt:j<k
 ·obtain⟨b,off,A',c',rfl,hc,t,hb⟩:=(v.new d).at_ (k:=j) zo
  have hfl:=ky ls j zo
  rw[<- g.out] at hfl
  have f:=zh<|ma ls j zo
  generalize ls[j]'_=x at *
  have C:h+x.length<=140737488355328:=by omega
  have E:=d.size
  go_wp2_with (at_builtin;refine fK _ rfl (.tmp 31) (.tmp 32) rfl w.heap.size B h c2 _ rfl a D A' x.length c' x rfl hb C E ?_;intro L M N o r u)
  have F:=nl d a r
  clear r u a d hb hc
  go_roundw
  case rel=>exact⟨j+1,_,_,_,zo,by go_num,rfl,by rw[f.out,zL,<- g.out],by rw[f.out];exact o,F⟩
  simp[intOf];omega
 obtain rfl:j=k:=by omega
 rw[List.take_of_length_le zo] at g a
 go_wp2
 go_ret
 have l:=g.out
 exact⟨⟨B,c2,by rw[<- l];rfl,by rw[<- l];exact a⟩,d⟩
def jL(n:Nat):Nat:=2^(n-1).log2
theorem E'{j:Nat}(h2:2<=n)(h:2^j<n)(h':n<=2^j+2^j):2^j=jL n:=by
 unfold jL
 rw[(Nat.log2_eq_iff zo).2 ⟨(by omega:2^j<=n-1),by rw[Nat.pow_succ];omega⟩]
theorem tH(h:2<=n):jL n<n:=by
 have:=Nat.log2_self_le (n:=n-1) zo;unfold jL;omega
theorem rz(n:Nat):0<jL n:=Nat.pow_pos Zd
theorem E_(n:Nat)(w:World)(h2:2<=n)(hn:n<=4611686018427387904):
  Calls prog 206 #[.int .i64 n] w fun e w'=>e=.returned (.int .i64 (jL n))/\w=w':=by
 go_in
 go_wp2_with fail
 go_loop [3] (fun a=>∃k:Nat,(∃j,k=2^j)/\k<n/\a=.int .i64 (k:Int)) (fun a=>n-(intOf a).toNat)
 case atStart=>exact⟨1,⟨0,rfl⟩,zo,rfl⟩
 obtain⟨k,hj,hk,rfl⟩:=hrel
 have d:0<k:=by obtain⟨j,rfl⟩:=hj;exact Nat.pow_pos Zd
 have c:=zh hj
 clear hj
 by_cases hlt:k<n-k
 ·have b:(k:Int)<(n:Int)-k:=by omega
  go_wp2
  go_round
  case rel=>exact⟨k+k,by obtain⟨j,h⟩:=c.out;exact⟨j+1,by rw[Nat.pow_succ,<- h];omega⟩,zo,by go_num⟩
  simp[intOf];omega
 have b:¬(k:Int)<(n:Int)-k:=by omega
 go_wp2
 go_ret
 exact⟨by obtain⟨j,h⟩:=c.out;rw[h,<- E' h2 (j:=j) zo zo];rfl,rfl⟩
def p8:Nat->List (List UInt8)->List UInt8
 | 0,_=>[]
 | f+1,ls=>if ls.length=0 then gL [] else if ls.length=1 then gL (0::ls.getD 0 []) else gL (1::(p8 f (ls.take (jL ls.length))++p8 f (ls.drop (jL ls.length))))
def iw(ls:List (List UInt8)):List UInt8:=p8 (ls.length+1) ls
theorem mH:∀(f g:Nat) (ls:List (List UInt8)),ls.length<f->ls.length<g->p8 f ls=p8 g ls
 | 0,_,_,h,_=>absurd h zo
 | _+1,0,_,_,h=>absurd h zo
 | f+1,g+1,ls,hf,hg=>by
  unfold p8
  by_cases h0:ls.length=0
  ·rw[if_pos h0,if_pos h0]
  by_cases h1:ls.length=1
  ·rw[if_neg h0,if_neg h0,if_pos h1,if_pos h1]
  rw[if_neg h0,if_neg h0,if_neg h1,if_neg h1]
  have hp:=tH (n:=ls.length) zo
  have hq:=rz ls.length
  rw[mH f g (ls.take (jL ls.length)) (by rw[List.length_take];omega) (by rw[List.length_take];omega),
   mH f g (ls.drop (jL ls.length)) (by rw[List.length_drop];omega) (by rw[List.length_drop];omega)]
theorem Ay:iw []=gL []:=rfl
theorem Ax(l:List UInt8):iw [l]=gL (0::l):=rfl
theorem rW(ls:List (List UInt8))(h:2<=ls.length):iw ls=gL (1::(iw (ls.take (jL ls.length))++iw (ls.drop (jL ls.length)))):=by
 have a:=tH h
 have hq:=rz ls.length
 unfold iw
 rw[p8,if_neg zo,if_neg zo,
  mH ls.length ((ls.take (jL ls.length)).length+1) (ls.take (jL ls.length)) (by rw[List.length_take];omega) zo,
  mH ls.length ((ls.drop (jL ls.length)).length+1) (ls.drop (jL ls.length)) (by rw[List.length_drop];omega) zo]
theorem pG(ls:List (List UInt8)):(iw ls).length=32:=by
 rcases Nat.lt_or_ge ls.length 2 with h|h
 ·match ls,h with
  | [],_=>rfl
  | [l],_=>rfl
 rw[rW ls h];rfl
theorem Bss.Qk{w:World}{D:Nat->Prop}{A:Option Addr}{n:Nat}{ls:List (List UInt8)}(h:Bss w D A n ls){k:Nat}(hk:k<=n):Bss w D A k (ls.take k):=by
 obtain⟨b,h1,h2,h3⟩:=h
 have:=h1.Qk (hi:=k) hk
 rw[Nat.mul_one] at this
 refine⟨b.take k,this,by rw[List.length_take];omega,fun i hi=>?_⟩
 have a:i<k:=by rw[List.length_take] at hi;omega
 obtain⟨c,d,e,hc,hb⟩:=h3 i zo
 rw[List.getElem_take]
 exact⟨c,d,by rw[List.getElem?_take,if_pos a];exact e,hc,hb⟩
theorem Bss.from_{w:World}{D:Nat->Prop}{A:Option Addr}{n:Nat}{ls:List (List UInt8)}(h:Bss w D A n ls){k:Nat}(hk:k<=n):Bss w D (Option.map (fun x=>x.add k) A) (n-k) (ls.drop k):=by
 obtain⟨a,h1,h2,h3⟩:=h
 have:=h1.from_ (l:=k) hk
 rw[Nat.mul_one] at this
 refine⟨a.drop k,this,by rw[List.length_drop];omega,fun i hi=>?_⟩
 rw[List.length_drop] at hi
 obtain⟨b,c,e,hc,hb⟩:=h3 (k+i) zo
 rw[List.getElem_drop]
 exact⟨b,c,by rw[List.getElem?_drop];exact e,hc,hb⟩
theorem xU(n:Nat):∀(D:Nat->Prop) (A:Option Addr) (c:Nat) (ls:List (List UInt8)) (w:World) (_hB:Bss w D A n ls) (_hc:n<=c) (_hb:ls.flatten.length<=1099511620000) (_hn:n<=1099511627776) (_hc9:c<=9223372036854775807),
  Calls prog 108 #[.slice A n c] w fun e w'=>(∃A' c',e=.returned (.slice A' 32 c')/\fy w' w.heap.size 5 A' 32 c' (iw ls))/\New w w':=by
 induction n using Nat.strongRecOn with
 | _ n ih =>
  intro D A c ls w hB hc hb hn hc9
  have hl:=hB.len
  have u:=zh ih
  clear ih
  by_cases h0:n=0
  ·subst h0
   obtain rfl:ls=[]:=List.eq_nil_of_length_eq_zero hl
   rw[Ay]
   have v:Bs w (fun _=>True) none 0 []:=Row.nil _ _ _ _
   go_in
   go_wp2_with fail
   refine(mm _ none 0 0 [] w v zr zo).mono ?_
   rintro e E⟨⟨A1,c1,rfl,g⟩,y⟩
   go_wp2
   go_ret
   exact⟨⟨_,_,rfl,g⟩,y⟩
  by_cases h1:n=1
  ·subst h1
   obtain⟨b,off,A',c',rfl,m,z,F⟩:=hB.at_ (k:=0) zo
   rw[Nat.add_zero] at m
   have M:ls=[ls[0]'zo]:=by
    match ls,hl with
    | [x],_=>rfl
   have B:(ls[0]'zo).length<=1099511620000:=by
    have:=ky ls 0 zo;omega
   generalize ls[0]'_=x at *
   subst M
   rw[Ax]
   clear hB
   go_in
   go_wp2_with fail
   refine(FA _ A' _ c' x w F z B).mono ?_
   rintro e E⟨⟨A1,c1,rfl,g⟩,y⟩
   go_wp2
   go_ret
   exact⟨⟨_,_,rfl,g⟩,y⟩
  have h2:2<=n:=by omega
  have N:=tH h2
  have hq:=rz n
  have U:((n:Int)==0)=false:=by simp;omega
  have e1:((n:Int)==1)=false:=by simp;omega
  have G:=zh<|rW ls zo
  rw[hl] at G
  have H:=zh<|fun w'=>E_ n w' h2 zo
  have p:=hB.Qk (k:=jL n) zo
  have q:=hB.from_ (k:=jL n) zo
  have r:(ls.take (jL n)).flatten.length<=1099511620000:=by
   have h:=congrArg (fun l:List (List UInt8)=>l.flatten.length) (List.take_append_drop (jL n) ls)
   simp only[List.flatten_append,zL] at h;omega
  have s:(ls.drop (jL n)).flatten.length<=1099511620000:=by
   have h:=congrArg (fun l:List (List UInt8)=>l.flatten.length) (List.take_append_drop (jL n) ls)
   simp only[List.flatten_append,zL] at h;omega
  generalize jL n=k at *
  have I:Hid (∀w',New w w'->Calls prog 108 #[.slice A k c] w' fun e f=>(∃A' c',e=.returned (.slice A' 32 c')/\fy f w'.heap.size 5 A' 32 c' (iw (ls.take k)))/\New w' f) :=
   zh fun w' C=>u.out k N D A c _ w' (p.keep C (fun _ _ _=>zt)) zo r zo hc9
  have J:Hid (∀w',New w w'->Calls prog 108 #[.slice (Option.map (fun x=>x.add k) A) (n-k) (c-k)] w' fun e f=>(∃A' c',e=.returned (.slice A' 32 c')/\fy f w'.heap.size 5 A' 32 c' (iw (ls.drop k)))/\New w' f) :=
   zh fun w' C=>u.out (n-k) zo D _ (c-k) _ w' (q.keep C (fun _ _ _=>zt)) zo s zo zo
  have V:(0:Int)<=(k:Int):=zo
  have W:(k:Int)<=n:=by omega
  have X:(k:Int)<=c:=by omega
  have Y:(n:Int)<=c:=by omega
  have Z:¬c=k:=by omega
  clear hB p q u hl r s hb
  go_in
  go_wp2_with fail
  refine(H.out _).mono ?_
  rintro e E⟨rfl,rfl⟩
  go_wp2_with fail
  go_region_held3 (fun w'=>New w w') (first|exact zN w|exact(zN w).drew|exact b_.new (by assumption) j|exact b_.new (by assumption) i|exact b_.new (by assumption) t)
   ((first
    | (go_at_call 108;(with_reducible refine(I.out _ (by assumption)).mono ?_);rintro e w3 ⟨⟨O,P,rfl,a⟩,j⟩)
    | (go_at_call 108;(with_reducible refine(J.out _ (by assumption)).mono ?_);rintro e Q ⟨⟨R,S,rfl,d⟩,i⟩)
    | (go_at_call 207;refine(Fa _ _ O R 32 P 32 S _ _ _ ((Row.Qc a).new i) (ew a) (Row.Qc d) (ew d) zo).mono ?_;rintro e T ⟨⟨A5,c5,rfl,o⟩,t⟩)))
  have K:New w T:=by assumption
  have L:w.heap.size<=Q.heap.size:=Nat.le_trans j.size i.size
  clear j i a d t
  go_wp2
  go_ret
  exact⟨⟨_,_,rfl,by rw[G.out];exact eQ o L⟩,K⟩
structure RdS where
 bs:List UInt8
 why:Int
def RdS.raw(s:RdS)(n:Int):List UInt8×RdS :=
 if s.why=0/\(s.bs.length:Int)<n then([],⟨s.bs,10⟩)
 else if s.why≠0\/n<1 then([],s)
 else(s.bs.take n.toNat,⟨s.bs.drop n.toNat,0⟩)
theorem RdS.raw_end(s:RdS)(n:Int)(h:s.why=0)(hn:(s.bs.length:Int)<n):s.raw n=([],⟨s.bs,10⟩):=by unfold RdS.raw;rw[if_pos ⟨h,hn⟩]
theorem RdS.Qo(s:RdS)(n:Int)(h:s.why≠0\/n<1):s.raw n=([],s):=by
 unfold RdS.raw
 rw[if_neg (by rintro⟨h1,h2⟩;rcases h with h|h;exact h h1;omega),if_pos h]
theorem RdS.Qn(s:RdS)(n:Int)(h:s.why=0)(h1:1<=n)(hn:n<=s.bs.length):s.raw n=(s.bs.take n.toNat,⟨s.bs.drop n.toNat,0⟩):=by
 unfold RdS.raw
 rw[if_neg zo,if_neg zo]
theorem RdS.raw_le(s:RdS)(n:Int):(s.raw n).1.length<=s.bs.length/\(s.raw n).2.bs.length<=s.bs.length/\((s.raw n).1.length:Int)<=max n 0:=by
 unfold RdS.raw
 split
 ·simp;omega
 split
 ·simp;omega
 simp only[List.length_take,List.length_drop];omega
def fG(bs:List UInt8):Nat:=bs.foldl (fun a b=>a*256+b.toNat) 0
theorem oc(bs:List UInt8)(b:UInt8):fG (bs++[b])=fG bs*256+b.toNat:=by unfold fG;rw[List.foldl_append];rfl
theorem rb(bs:List UInt8):fG bs<256^bs.length:=by
 have h:∀(l:List UInt8) (a:Nat),l.foldl (fun a b=>a*256+b.toNat) a<(a+1)*256^l.length:=by
  intro l
  induction l with
  | nil=>intro a;simp
  | cons b l ih =>
   intro a
   simp only[List.foldl_cons,List.length_cons]
   refine Nat.lt_of_lt_of_le (ih _) ?_
   rw[Nat.pow_succ,Nat.mul_comm (256^l.length) 256,<- Nat.mul_assoc]
   exact Nat.mul_le_mul_right _ (by have:=b.toNat_lt;omega)
 have:=h bs 0
 simpa[fG] using this
def RdS.num(s:RdS)(k:Nat):Nat×RdS:=(fG (s.raw k).1,(s.raw k).2)
def RdS.Qj(s:RdS):List UInt8×RdS:=(s.num 2).2.raw (s.num 2).1
def RdS.left(s:RdS):Nat:=if s.why≠0 then 0 else s.bs.length
structure Rd (w:World) (p:Nat) (s:RdS):Prop where
 row:∃A m c,w.cell? ⟨p,0,none⟩=some (.slice A m c)/\m<=c/\c<=9223372036854775807/\Bs w (fun b=>b≠p) A m s.bs
 why:w.cell? ⟨p,1,none⟩=some (.int .i64 s.why)
 free0:w.frozen? ⟨p,0,none⟩=false
 free1:w.frozen? ⟨p,1,none⟩=false
 bound:s.bs.length<=1099511627776
theorem Rd.lt{s:RdS}(h:Rd w p s):p<w.heap.size:=World.block_lt_of_cell? w _ h.why
theorem Rd.keep{w':World}{s:RdS}(h:Rd w p s)(hk:New w w'):Rd w' p s:=by
 obtain⟨A,m,c,h1,h2,h3,a⟩:=h.row
 exact⟨⟨A,m,c,hk.Qb h1 zt,h2,h3,a.new hk⟩,hk.Qb h.why zt,(hk.frozen (p:=⟨p,0,none⟩) h.lt zt).trans h.free0,(hk.frozen (p:=⟨p,1,none⟩) h.lt zt).trans h.free1,h.bound⟩
theorem kh(D:Nat->Prop)(A:Option Addr)(n c:Nat)(bs:List UInt8)(w:World)(hB:Bs w D A n bs)(hn:n<=1099511627776):
  Calls prog 114 #[.slice A n c] w fun e w'=>(∃p,e=.returned (.pointer (some ⟨p,0,none⟩))/\w.heap.size<=p/\Rd w' p ⟨bs,0⟩)/\New w w':=by
 have hl:=hB.len
 have g:=zh<|ik D A n c bs w hB zo
 clear hB
 go_in
 go_wp2_with fail
 refine g.mono ?_
 rintro e d⟨⟨A1,c1,rfl,a⟩,f⟩
 go_wp2
 go_ret
 have hh:=heap_alloc_new d (.cells #[.slice A1 n c1,.int .i64 0] 282)
 refine⟨⟨d.heap.size,rfl,f.size,⟨⟨A1,n,c1,a_ hh rfl,ew a,eh a,?_⟩,a_ hh rfl,lQ d _ _ _,lQ d _ _ _,by show bs.length<=_;omega⟩⟩,f.alloc _⟩
 exact((Row.Qc a).imp (E:=fun b=>b≠d.heap.size) (fun b hb _=>Nat.ne_of_lt hb)).alloc _
theorem iW{p q:Addr}(h:w.frozen? q=false):(w.setCell p u).frozen? q=false:=(World.frozen?_setCell _ _ _ _).trans h
theorem Rd.setWhy{s:RdS}(h:Rd w p s)(y:Int):Rd (w.setCell ⟨p,1,none⟩ (.int .i64 y)) p ⟨s.bs,y⟩:=by
 obtain⟨A,m,c,h1,h2,h3,a⟩:=h.row
 refine⟨⟨A,m,c,?_,h2,h3,a.setCell (p:=⟨p,1,none⟩) (fun h=>h rfl) _⟩,World.cell?_setCell_same _ _ _ h.why,iW h.free0,iW h.free1,h.bound⟩
 rw[World.cell?_setCell_other _ _ _ _ (by intro hh;injection hh;omega)];exact h1
theorem Rd.setRow{s:RdS}(h:Rd w p s){m:Nat}(hB:Bs w (fun b=>b≠p) A m bs)(hmc:m<=c)(hc:c<=9223372036854775807)(hb:bs.length<=1099511627776):
  Rd (w.setCell ⟨p,0,none⟩ (.slice A m c)) p ⟨bs,s.why⟩:=by
 obtain⟨A1,a,c1,h1,_⟩:=h.row
 refine⟨⟨A,m,c,World.cell?_setCell_same _ _ _ h1,hmc,hc,hB.setCell (p:=⟨p,0,none⟩) (fun h=>h rfl) _⟩,?_,iW h.free0,iW h.free1,hb⟩
 rw[World.cell?_setCell_other _ _ _ _ (by intro hh;injection hh;omega)];exact h.why
theorem jr(p:Nat)(s:RdS)(n:Int)(w:World)(hR:Rd w p s):
  Calls prog 117 #[.pointer (some ⟨p,0,none⟩),.int .i64 n] w fun e w' =>
   (∃A' c',e=.returned (.slice A' (s.raw n).1.length c')/\fy w' w.heap.size 5 A' (s.raw n).1.length c' (s.raw n).1)/\Rd w' p (s.raw n).2/\b_ (fun b=>b≠p) w w':=by
 obtain⟨A,m,c,j,J,hc9,hB⟩:=hR.row
 have g:=hR.why
 have l:=hR.free0
 have K:=hR.free1
 have L:=hR.bound
 have hl:=hB.len
 have f:=zh hR
 clear hR
 by_cases hw:s.why=0
 ·by_cases hn:(m:Int)<n
  ·rw[s.raw_end n hw zo]
   have h1:=f.setWhy 10
   have C:=(b_.refl (fun b=>b≠p) w).setCell (p:=⟨p,1,none⟩) (fun h=>absurd rfl h) (.int .i64 10)
   rw[hw] at g
   clear hw hl hB
   go_in
   go_wp2
   go_ret
   exact⟨⟨none,0,rfl,Own.nil _ _ _ _⟩,h1,C⟩
  by_cases x:n<1
  ·rw[s.Qo n (.inr x)]
   rw[hw] at g
   clear hw hl hB
   go_in
   go_wp2
   go_ret
   exact⟨⟨none,0,rfl,Own.nil _ _ _ _⟩,f.out,b_.refl _ _⟩
  obtain⟨k,rfl⟩:=Int.eq_ofNat_of_zero_le (by omega:0<=n)
  rw[s.Qn k hw zo zo,Int.toNat_natCast]
  have o:k<=m:=by omega
  have M:m<=1099511627776:=by omega
  have D:=f.lt
  have N:1<=k:=by omega
  have O:(k:Int)<=c:=by omega
  have E:Hid ((s.bs.take k).length=k):=zh (by rw[List.length_take];omega)
  have q:Hid ((s.bs.drop k).length=m-k):=zh (by rw[List.length_drop];omega)
  rw[E.out]
  have hcut:=hB.Qk o
  have r:=zh<|ik _ A k c _ w hcut zo
  have t:=Bs.from_ hB o
  have y:=zh t
  have z:=zh hw
  rw[hw] at g
  clear hw hl hB hcut t
  by_cases u:c=k
  ·have B:m=k:=by omega
   subst u
   subst B
   go_in
   go_wp2_with fail
   refine r.mono ?_
   rintro e F⟨⟨A1,c1,rfl,d⟩,a⟩
   have G:=a.Qb j trivial
   have H:=(a.frozen (p:=⟨p,0,none⟩) f.lt zt).trans l
   go_wp2
   go_ret
   have v:s.bs.drop m=[]:=List.eq_nil_of_length_eq_zero (by rw[q.out];omega)
   have i:=(f.keep a).setRow (A:=A) (m:=0) (c:=0) (bs:=[]) (Row.nil _ _ _ _) zr zo (by simp)
   rw[z.out] at i
   rw[v]
   exact⟨⟨A1,c1,rfl,le (p:=⟨p,0,none⟩) d (fun e=>by have:=(eW d p e).1;omega) _⟩,i,(b_.Qe a).setCell (p:=⟨p,0,none⟩) (fun h=>absurd rfl h) _⟩
  have I:¬c=k:=u
  go_in
  go_wp2_with fail
  refine r.mono ?_
  rintro e F⟨⟨A1,c1,rfl,d⟩,a⟩
  have G:=a.Qb j trivial
  have H:=(a.frozen (p:=⟨p,0,none⟩) f.lt zt).trans l
  go_wp2
  go_ret
  have i:=(f.keep a).setRow (c:=c-k) (y.new a) zo zo (by rw[q.out];omega)
  rw[z.out] at i
  exact⟨⟨A1,c1,rfl,le (p:=⟨p,0,none⟩) d (fun e=>by have:=(eW d p e).1;omega) _⟩,i,(b_.Qe a).setCell (p:=⟨p,0,none⟩) (fun h=>absurd rfl h) _⟩
 rw[s.Qo n (.inl hw)]
 have P:(s.why==0)=false:=by simpa using hw
 have e1:(s.why !=0)=true:=by simpa using hw
 clear hw hl hB
 go_in
 go_wp2
 go_ret
 exact⟨⟨none,0,rfl,Own.nil _ _ _ _⟩,f.out,b_.refl _ _⟩
theorem vV(b:UInt8):IntKind.u64.wrap (bv b)=bv b:=by have:=Hv b;rw[IntKind.wrap_u64];omega
theorem sy(x:Nat)(b:UInt8)(h:x<72057594037927936):bits .or .u64 ((x:Int)*256) (bv b)=((x*256+b.toNat:Nat):Int):=by
 have hb:=b.toNat_lt
 unfold bv
 rw[show((x:Int)*256)=((x*256:Nat):Int) from by omega,u64_or_nat _ _ zo zo]
 congr 1
 rw[show x*256=x*2^8 from rfl,<- Nat.shiftLeft_eq,Nat.shiftLeft_add_eq_or_of_lt (by omega:b.toNat<2^8)]
theorem wQ(p k:Nat)(s:RdS)(w:World)(hR:Rd w p s)(hk:k<=8)(ki:Int)(hki:ki=k):
  Calls prog 211 #[.pointer (some ⟨p,0,none⟩),.int .i64 ki] w fun e w'=>e=.returned (.int .u64 ((s.num k).1:Nat))/\Rd w' p (s.num k).2/\b_ (fun b=>b≠p) w w':=by
 subst hki
 have n:=(s.raw_le k).2.2
 unfold RdS.num
 dsimp only
 have c:=zh<|jr p s k w hR
 clear hR
 generalize (s.raw k).1=x at *
 generalize (s.raw k).2=q at *
 have o:x.length<=8:=by omega
 go_in
 go_wp2_with fail
 refine c.mono ?_
 rintro e r⟨⟨A1,c1,rfl,a⟩,d,f⟩
 have hB:=Row.Qc a
 clear a
 go_wp2_with fail
 go_loop [5,12] (fun h i=>∃j:Nat,j<=x.length/\i=.int .i64 (j:Int)/\h=.int .u64 ((fG (x.take j):Nat):Int)) (fun _ i=>x.length-(intOf i).toNat)
 case atStart=>exact⟨0,Nat.zero_le _,rfl,rfl⟩
 obtain⟨j,hj,rfl,rfl⟩:=hrel
 by_cases hlt:j<x.length
 ·obtain⟨b,off,rfl,_,_,hc⟩:=Bs.cellAt (bs:=x) hB zo
  have t:=hc j hlt
  have l:=zh<|show fG (x.take (j+1))=fG (x.take j)*256+(x[j]).toNat from by rw[List.take_succ_eq_append_getElem hlt,oc]
  have g:fG (x.take j)<72057594037927936:=by
   refine Nat.lt_of_lt_of_le (rb _) ?_
   have h7:(x.take j).length<=7:=by rw[List.length_take];omega
   exact Nat.le_trans (Nat.pow_le_pow_right Zd h7) Zd
  have m:=zh<|sy (fG (x.take j)) x[j] g
  clear hc hB
  generalize x[j]=y at *
  generalize fG (x.take j)=z at *
  go_wp2
  go_round
  case rel=>exact⟨j+1,zo,by go_num,by rw[vV,m.out,l.out]⟩
  simp[intOf];omega
 obtain rfl:j=x.length:=by omega
 rw[List.take_of_length_le zr]
 go_wp2
 go_ret
 exact⟨rfl,d,f⟩
theorem pj(n:Nat)(h:n<9223372036854775808):IntKind.i64.wrap (n:Int)=n:=IntWalk.i64_in _ zo
theorem lG(s:RdS)(k:Nat):(s.num k).1<256^k:=by
 have h:=rb (s.raw k).1
 have hl:=(s.raw_le k).2.2
 exact Nat.lt_of_lt_of_le h (Nat.pow_le_pow_right Zd zo)
theorem DD(p:Nat)(s:RdS)(w:World)(hR:Rd w p s):
  Calls prog 224 #[.pointer (some ⟨p,0,none⟩)] w fun e w'=>e=.returned (.int .i64 ((s.num 1).1:Nat))/\Rd w' p (s.num 1).2/\b_ (fun b=>b≠p) w w':=by
 have hlt:=lG s 1
 have d:=zh<|wQ p 1 s w hR Zd 1 rfl
 clear hR
 generalize (s.num 1).1=z at *
 generalize (s.num 1).2=g at *
 have hw:=pj z zo
 have f:=zh hw
 clear hw
 go_in
 go_wp2_with fail
 refine d.mono ?_
 rintro e h⟨rfl,a,c⟩
 go_wp2
 go_ret
 exact⟨by first|rfl|(rw[<- f.out];rfl),a,c⟩
theorem jk(p:Nat)(s:RdS)(w:World)(hR:Rd w p s):
  Calls prog 115 #[.pointer (some ⟨p,0,none⟩)] w fun e w'=>e=.returned (.int .i64 ((s.num 2).1:Nat))/\Rd w' p (s.num 2).2/\b_ (fun b=>b≠p) w w':=by
 have hlt:=lG s 2
 have d:=zh<|wQ p 2 s w hR Zd 2 rfl
 clear hR
 generalize (s.num 2).1=z at *
 generalize (s.num 2).2=g at *
 have hw:=pj z zo
 have f:=zh hw
 clear hw
 go_in
 go_wp2_with fail
 refine d.mono ?_
 rintro e h⟨rfl,a,c⟩
 go_wp2
 go_ret
 exact⟨by first|rfl|(rw[<- f.out];rfl),a,c⟩
theorem lC(p:Nat)(s:RdS)(w:World)(hR:Rd w p s):
  Calls prog 116 #[.pointer (some ⟨p,0,none⟩)] w fun e w'=>e=.returned (.int .u64 ((s.num 8).1:Nat))/\Rd w' p (s.num 8).2/\b_ (fun b=>b≠p) w w':=by
 have d:=zh<|wQ p 8 s w hR Zd 8 rfl
 clear hR
 generalize (s.num 8).1=z at *
 generalize (s.num 8).2=f at *
 go_in
 go_wp2_with fail
 refine d.mono ?_
 rintro e g⟨rfl,a,c⟩
 go_wp2
 go_ret
 exact⟨rfl,a,c⟩
theorem AH(p:Nat)(s:RdS)(w:World)(hR:Rd w p s):
  Calls prog 225 #[.pointer (some ⟨p,0,none⟩)] w fun e w' =>
   (∃A' c',e=.returned (.slice A' s.Qj.1.length c')/\fy w' w.heap.size 5 A' s.Qj.1.length c' s.Qj.1)/\Rd w' p s.Qj.2/\b_ (fun b=>b≠p) w w':=by
 have j:=zh<|jk p s w hR
 have f:Hid (s.Qj=(s.num 2).2.raw (s.num 2).1):=zh rfl
 rw[f.out]
 clear hR f
 generalize (s.num 2).1=z at *
 generalize (s.num 2).2=d at *
 have k:=zh<|jr p d z
 generalize (d.raw z).1=x at *
 generalize (d.raw z).2=m at *
 go_in
 go_wp2_with fail
 refine j.mono ?_
 rintro e l⟨rfl,g,c⟩
 go_wp2_with fail
 refine(k.out l g).mono ?_
 rintro e n⟨⟨o,c2,rfl,a⟩,h,i⟩
 go_wp2
 go_ret
 exact⟨⟨_,_,rfl,eQ a c.size⟩,h,c.trans i⟩
theorem rr(p:Nat)(s:RdS)(w:World)(hR:Rd w p s):
  Calls prog 257 #[.pointer (some ⟨p,0,none⟩)] w fun e w'=>e=.returned (.int .i64 (s.left:Nat))/\w=w':=by
 obtain⟨A,m,c,d,f,hc9,hB⟩:=hR.row
 have b:=hR.why
 have hl:=hB.len
 clear hR hB
 by_cases hw:s.why=0
 ·have a:s.left=m:=by unfold RdS.left;rw[if_neg (by simpa using hw),hl]
  rw[a]
  rw[hw] at b
  clear hw hl a
  go_in
  go_wp2
  go_ret
  exact⟨rfl,rfl⟩
 have a:s.left=0:=by unfold RdS.left;rw[if_pos hw]
 rw[a]
 have e1:(s.why !=0)=true:=by simpa using hw
 clear hw hl a
 go_in
 go_wp2
 go_ret
 exact⟨rfl,rfl⟩
