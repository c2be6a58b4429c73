/-
  PROVED HERE: parts of a law's walk, each under the conditions that its statement names.
-/
import Derived.Test.YtlopmiaimignkaaGreatDoorPkM34
set_option maxRecDepth 200000
set_option maxHeartbeats 8000000
namespace Go.Proofs.YtlopmiaimignkaaGreatDoor
open Go.Proofs.Tryz
open Go.RowKit
variable{Q:Exit->Act->World->Prop}{ops:Array Oper}{rest:List Oper}{w w0 w3 w4 wE:World}{o o1:OpP}{t:TypeId}{base bt cd cn cp f g k m n size:Nat}{D:Nat->Prop}{A1 A2 E E1 N:Option Addr}{T:dX}{vs:List Value}{id kind:Int}{nm x:List UInt8}{L:eZ}{u:Value}{c3:Col}{ca:Nat->Nat}
theorem sM{P:Program}{o:Oper}{a:Act}(hgd:o.guard=none){s x:Operand}(ho:o.op=.call { callee:=.builtin .append,args:=#[s,x],argTypes:=#[t,t] }){e:TypeId}{bytes:Nat}(ht:P.underlying t=some (.slice e))(hi:∃i z,P.info? e=some i/\i.zero=some z/\i.size=size/\i.bytes=bytes/\z.cells.size=size)(hsz:0<size){A:Option Addr}{c:Nat}{xs:List Value}(hs:a.eval s=.slice A n c)(hown:Own w w0.heap.size e size A n c xs){c2:Nat}{news:List Value}(hx:a.eval x=.slice A2 m c2)(hr:Row w D A2 m size news)(h1:∀u∈news,u.oneCell'=true)(h63:n+m<=maxLen)(hbytes:(n+m)*bytes<=140737488355328)(hk:New w0 w)(h:∀A' c' w',Own w' w0.heap.size e size A' (n+m) c' (xs++news)->New w0 w'->wpList P ops Q rest (a.put o.dst (.slice A' (n+m) c')) w'):wpList P ops Q (o::rest) a w :=
 wpList_plain hgd fun _K b=>ii ho ht hi hsz hs hown hx hr h1 h63 hbytes hk fun A' c' w' d f=>b _ _ (h A' c' w' d f)
section
variable {w w':World}{c c':Col}{i j bt:Nat}{T:dX}{id:Int}{it:eI}
theorem E3{it':eI}(h:m8 (ec T))(hr:ee T)(hn:fA T)(hg:dN T id=some it)(hi:it'.names=it.names)(hb:it'.b=it.b):m8 (ec (eN id it' T)):=by
 rw[x_ hr hn hg hi hb]
 exact⟨by show((ec T).nodes.set _ _).length<=_;rw[List.length_set];exact h.nodes,h.data,h.e⟩
theorem Dq(h:ey w c i bt (ec T))(hi:i≠0)(hI:eo T)(hF:eV T){till:Int}(ht0:0<=till)(ht1:till<=18446744073709551615):
  Calls prog 179 #[.pointer (some ⟨bt,0,none⟩),.int .i64 id,.int .u64 till] w (jD w c i bt (ec (je T id till).2) (.int .i64 (je T id till).1)):=by
 have R:=nL hI hF
 have ah:=zh<|rt h R hI.rising id
 obtain⟨r,hr⟩:=zx (je T id till)
 rw[<- hr]
 rw[ti] at hr
 have HZ:=zh<|fun(e:ig T id=0)=>nZ e
 have P:=zh h
 have q:=zh hr
 have d:=J3 hI hF R
 generalize ig T id=f at *
 clear h hr hI hF R
 go_in
 go_wp2_with fail
 refine ah.mono ?_
 rintro e w1⟨rfl,rfl⟩
 clear ah
 by_cases hf:f=0
 rotate_left
 ·have x:Hid (r=(f,T)):=zh (by have:=q.out;rwa[if_pos hf] at this)
  have hb:(f !=0)=true:=by simpa using hf
  rw[if_neg hf]
  clear q hf
  go_wp2
  go_ret
  rw[x.out]
  exact jD.stay P.out (zN _) _
 subst hf
 obtain⟨a,hg,ai⟩:=HZ.out (by first|rfl|trivial)
 rw[if_pos rfl]
 rw[if_neg Zd,hg] at q
 dsimp only at q
 have y:=J2 hg ai
 obtain⟨k,hk⟩:=zx (below id T)
 obtain⟨S,U⟩:=wF hg d.1.rising hk
 rw[<- hk]
 have HK:=zh hk
 obtain⟨-,A,ca,B,cb,E,ce,h1,aj,-,-,hN,-,-⟩:=P.out
 have c0:=a_ h1 (k:=0) rfl
 have hn:=d.2.2.nodes
 have an:=aj.1
 obtain⟨g,off,rfl,-,-,-,-,-,-,z⟩:=hN.rnode S
 rw[U] at z
 dsimp only at z
 obtain⟨n,V⟩:=zx ((ec T).nodes.length)
 have X:=S
 rw[<- V] at c0 S hn an
 have o:=J3 V X U
 have HH:=J2 h1 hN
 clear h1 aj hN hg hk U V X ai
 by_cases hs:a.n.shut=true
 ·have x:Hid (r=(27,T)):=zh (by have:=q.out;rwa[if_pos hs] at this)
  rw[hs] at z
  clear q hs
  go_wp2
  go_ret
  rw[x.out]
  exact jD.stay P.out (zN _) _
 rw[if_neg hs] at q
 replace hs:a.n.shut=false:=by simpa using hs
 rw[hs] at z
 by_cases ht:1099511627776<till
 ·have x:Hid (r=(1,T)):=zh (by have:=q.out;rwa[if_pos ht] at this)
  clear q hs
  go_wp2
  go_ret
  rw[x.out]
  exact jD.stay P.out (zN _) _
 rw[if_neg ht] at q
 clear hs
 go_upto_region 8 with fail
 clear z
 have k1:=(zN w).alloc (.cells #[] 53)
 have o1:=mS w zr 53 (size:=6) Zd
 have c1:=k1.Qb c0 trivial
 have Y:=J2 k1 o1
 go_upto_region 9 with(at_builtin;refine sM (w0:=w) rfl rfl underlying156 (fY i7) Zd rfl Y.2 rfl (by rw[o.1];exact Row.new HH.2 Y.1) (nj _) (by unfold maxLen;omega) zo Y.1 ?_;intro A9 Z w9 u Q;rw[List.nil_append,Nat.zero_add] at u;obtain⟨m,ay,ap,v,s⟩:=u.form zo;have aq:A9=some ⟨m,0,none⟩:=(by injection ap);subst aq;have x9:=Q.Qa HH.1 trivial;have dd:=a_ x9 (k:=0) rfl;have zz:=dP x9 0)
 clear o1 c1 k1 c0
 try rw[Nat.zero_add n]
 have aA:=P.lt
 have C:b_ (fun b=>b≠bt) w9 (w9.setCell ⟨bt,0,none⟩ (.slice (some ⟨m,0,none⟩) n Z)):=(b_.refl _ w9).setCell (p:=⟨bt,0,none⟩) (fun hd=>absurd rfl hd) _
 have J:=dM x9 0 (.slice (some ⟨m,0,none⟩) n Z)
 have D:=(Row.Qc u).keep C (fun b hb hd e=>by rw[e] at hd;omega)
 generalize World.setCell w9 _ _=v9 at *
 have F:m≠bt:=by omega
 have z5:=(C.frozen (p:=⟨m,k*6+5,none⟩) s F).trans (u.frozenAt _)
 have z4:=(C.frozen (p:=⟨m,k*6+4,none⟩) s F).trans (u.frozenAt _)
 rw[o.1] at D
 obtain⟨aB,az,e9,-,-,-,u2,-,u4,u5⟩:=Row.rnode D o.2.1
 injection e9 with e9
 injection e9 with e9 e9'
 subst e9 e9'
 rw[o.2.2] at u2 u4 u5
 simp only[Nat.zero_add] at u2 u4 u5
 have ar:=a_ J (k:=0) rfl
 have HO:=J8 u Q C D J F v s
 clear u Q C D J dd zz x9 v s
 have aC:¬bt=m:=fun e=>F e.symm
 go_upto_region 11 with fail
 obtain⟨u,Q,C,D,J,-,v,s⟩:=HO.out
 have K:((ec T).nodes.set k (id,(fm till a).n)).length=n:=by rw[List.length_set];exact o.1.symm
 have au:(((ec T).nodes.map fo).flatten).length=n*6:=by have:=D.1;rw[this,o.1]
 have f5:=qQ fo 6 (fun _=>rfl) (ec T).nodes k 5 o.2.1 Zd (id,{ a.n with shut:=true }) (.bool true) (by rw[o.2.2];rfl)
 have f4:=qQ fo 6 (fun _=>rfl) ((ec T).nodes.set k (id,{ a.n with shut:=true })) k 4 (by rw[List.length_set];exact o.2.1) Zd (id,(fm till a).n) (.int .u64 till) (by rw[List.getElem_set_self];rfl)
 rw[List.set_set] at f4
 have aa:=sF D (j:=k*6+5) zo (.bool true)
 rw[f5] at aa
 have G:=sF aa (j:=k*6+4) (by rw[<- f5,List.length_set];omega) (.int .u64 till)
 rw[f4] at G
 have KG:b_ (fun b=>b≠m) v9 ((v9.setCell ⟨m,k*6+5,none⟩ (.bool true)).setCell ⟨m,k*6+4,none⟩ (.int .u64 till)):=((b_.refl _ v9).setCell (p:=⟨m,k*6+5,none⟩) (fun hd=>absurd rfl hd) _).setCell (p:=⟨m,k*6+4,none⟩) (fun hd=>absurd rfl hd) _
 have KW:b_ (fun b=>b≠bt) w ((v9.setCell ⟨m,k*6+5,none⟩ (.bool true)).setCell ⟨m,k*6+4,none⟩ (.int .u64 till)):=(((b_.Qe Q).trans C).setCell (p:=⟨m,k*6+5,none⟩) (fun _=>v) _).setCell (p:=⟨m,k*6+4,none⟩) (fun _=>v) _
 obtain⟨W,hW⟩:=zx ((v9.setCell ⟨m,k*6+5,none⟩ (.bool true)).setCell ⟨m,k*6+4,none⟩ (.int .u64 till))
 rw[<- hW] at G KG KW ⊢
 have L:=(KG.block bt (Zl J) (Ne.symm F)).trans J
 have cW:=a_ L (k:=0) rfl
 have ao:=G
 rw[<- K] at L
 obtain⟨ak,M⟩:=P.nodesAt (W:=W) (l:=(ec T).nodes.set k (id,(fm till a).n)) (A9:=some ⟨m,0,none⟩) (c9:=Z) hi KW (fun cells av=>by
  have e:=HH.1.symm.trans av
  injection e with e
  injection e with e
  rw[<- e]
  exact L) (by rw[K,<- o.1] at *;exact G) (by rw[K];exact ew u) (eh u)
 have H:ee (eN id (fm till a) T):=d.1.rising.put
 have al:fA (eN id (fm till a) T):=lP d.1.names (d.1.names id a y.1)
 have I:dN (eN id (fm till a) T) id=some (fm till a):=by rw[dS,if_pos rfl]
 have ab:ec (eN id (fm till a) T)=⟨(ec T).nodes.set k (id,(fm till a).n),(ec T).data,(ec T).e⟩:=by rw[x_ (it':=fm till a) d.1.rising d.1.names y.1 rfl rfl,<- HK.out];rfl
 rw[<- ab] at M
 have ac:below id (eN id (fm till a) T)=k:=by
  obtain⟨q1,q2⟩:=od H I
  obtain⟨q3,q4⟩:=od d.1.rising y.1
  have q5:eN id (fm till a) T=T.set (below id T) (id,fm till a):=sH d.1.rising y.1
  have q6:below id T<(eN id (fm till a) T).length:=by rw[q5,List.length_set];exact q3
  have q7:=uu H q6
  have q8:(eN id (fm till a) T)[below id T]=(id,fm till a):=by simp only[q5,List.getElem_set_self]
  rw[q8] at q7
  rw[HK.out];exact q7
 have am:=E3 d.2.2 d.1.rising d.1.names y.1 (it':=fm till a) rfl rfl
 have N:k<(ec (eN id (fm till a) T)).nodes.length:=by rw[ab];show k<((ec T).nodes.set _ _).length;rw[List.length_set];exact o.2.1
 have ad:(ec (eN id (fm till a) T)).data.length=(ec (eN id (fm till a) T)).nodes.length:=by rw[fV.1,fV.2.1]
 have ae:atL (wO id) (ec (eN id (fm till a) T)).nodes=(k:Int):=by rw[oS H,mA I,ac]
 have aw:=zh<|vm M hi am ae N ad
 have O:(fm till a).names=[]:=(d.1.node id a y.1).bare (((d.1.node id a y.1).kind).resolve_right y.2)
 have af:=yb H al I O
 rw[ac] at af
 have t:=J5 KW ak M af (tf I)
 have ax:=(KG.cell (p:=⟨m,k*6+2,none⟩) (by exact(World.block_lt_of_cell? v9 _ u2)))
 have ag:W.cell? ⟨m,k*6+2,none⟩=some (.int .i64 a.n.links):=by
  rw[hW,World.cell?_setCell_other _ _ _ _ (by intro h;simp only[Addr.mk.injEq] at h;omega),World.cell?_setCell_other _ _ _ _ (by intro h;simp only[Addr.mk.injEq] at h;omega)]
  exact u2
 have aD:k<n:=by rw[o.1];exact o.2.1
 have aE:n<=Z:=ew u
 clear ax u Q C D J v s K au f5 f4 aa G ao KG KW hW L ak M H al I ab ac am N ad ae O af u2 u4 u5 z4 z5 ar HO
 by_cases hl:a.n.links=0
 ·have x:Hid (r=(0,jv id (eN id (fm till a) T))):=zh (by rw[q.out,t.2.2.2.2,if_pos ⟨hl,rfl⟩])
  rw[hl] at ag
  clear hl q
  go_wp2_with fail
  refine aw.mono ?_
  rintro e w5⟨rfl,k5,c5,z,T5⟩
  have H5:=J3 k5 z T5
  clear k5 z T5
  go_wp2
  go_ret
  rw[x.out]
  obtain⟨q1,q2,q3,q4,-⟩:=t.out
  refine⟨rfl,q1.trans H5.1,c5,fun b hb=>(H5.2.1 b (Nat.lt_of_lt_of_le hb q1.size)).trans (q2 b hb),?_⟩
  show ey w5 c5 i bt (ec (jv id (eN id (fm till a) T)))
  rw[q4]
  exact H5.2.2
 have x:Hid (r=(0,eN id (fm till a) T)):=zh (by rw[q.out,t.2.2.2.2,if_neg (fun h=>hl h.1)])
 have aF:(a.n.links==0)=false:=beq_eq_false_iff_ne.2 hl
 clear hl q
 go_wp2
 go_ret
 rw[x.out]
 exact⟨rfl,t.1,_,t.2.1,t.2.2.1⟩
end
theorem EW{o:Nat}(h:Row w D (some ⟨g,o,none⟩) n size vs):Row w (fun b=>D b/\b=g) (some ⟨g,o,none⟩) n size vs :=
 ⟨h.1,fun h0=>let ⟨b,off,e,hd,hlt,hc⟩:=h.2 h0;⟨b,off,e,⟨hd,by injection e with e;injection e with e _;exact e.symm⟩,hlt,hc⟩⟩
theorem yP:(prog.info? 5).map (fun i=>(i.zero.map fun z=>z.cells.size,i.size,i.bytes))=some (some 1,1,1):=zk
theorem Cd{α β:Type}:∀(l:List α) (m:List β) (k:Nat) (x:α) (y:β),(l.set k x).zip (m.set k y)=(l.zip m).set k (x,y)
 | [],m,k,x,y=>by simp
 | a::l,[],k,x,y=>by cases k <;> simp
 | a::l,b::m,0,x,y=>rfl
 | a::l,b::m,k+1,x,y=>by
  show(a,b)::(l.set k x).zip (m.set k y)=(a,b)::(l.zip m).set k (x,y)
  rw[Cd l m k x y]
theorem ey.bothAt{W:World}{c:Col}{i:Nat}{R:eM}{l:List (Int×i')}{m:List (List UInt8)}{A9 B9:Option Addr}{c9 d9:Nat}(h:ey w c i bt R)(hi:i≠0)(ks:b_ (fun b=>b≠bt) w W)(hb:∀cells,w.heap[bt]?=some (.cells cells 160 (0,0))->W.heap[bt]?=some (.cells ((cells.setIfInBounds 0 (.slice A9 l.length c9)).setIfInBounds 1 (.slice B9 m.length d9)) 160 (0,0)))(hr:Row W (fun b=>w.heap.size<=b) A9 l.length 6 (l.map fo).flatten)(h1:l.length<=c9)(h2:c9<=9223372036854775807)(hd:Row W (fun b=>w.heap.size<=b) B9 m.length 1 vs)(h3:m.length<=d9)(h4:d9<=9223372036854775807)(hz:∀p∈vs.zip m,zP W (fun b=>(c.on w.heap.size fun _=>0) b=0) p):
  Ext w c (c.on w.heap.size fun _=>0)/\ey W (c.on w.heap.size fun _=>0) i bt ⟨l,m,R.e⟩:=by
 have a:=c.Qg w fun _=>0
 have h0:∀b,b<w.heap.size->c b=0->b≠bt:=fun b _ hb e=>by rw[e,h.1] at hb;exact hi hb
 have hlt:=h.lt
 obtain⟨hc,A,ca,B,n,E,f,g1,j,k,d,o,hB,g⟩:=h
 exact⟨a,(a _ hlt).trans hc,A9,c9,B9,d9,E,f,hb _ g1,⟨h1,h2⟩,⟨h3,h4⟩,d,hr.imp fun b _ hb=>Col.Qf _ _ hb,CA (hd.imp fun b _ hb=>Col.Qf _ _ hb) rfl hz,lL g ks a h0⟩
section
variable {w w':World}{c c':Col}{i j bt:Nat}{T:dX}{id:Int}{it:eI}
theorem yh(h:ey w c i bt (ec T))(hi:i≠0)(hI:eo T)(hF:eV T){X:Option Addr}{cx:Nat}{bs:List UInt8}(hX:Bs w (fun b=>b≠bt) X bs.length bs)(hbl:bs.length<=1000000):
  Calls prog 178 #[.pointer (some ⟨bt,0,none⟩),.int .i64 id,.slice X bs.length cx] w (jD w c i bt (ec (fE T id bs).2) (.int .i64 (fE T id bs).1)):=by
 have aq:=nL hI hF
 have aO:=zh<|rt h aq hI.rising id
 obtain⟨r,hr⟩:=zx (fE T id bs)
 rw[<- hr]
 rw[qo] at hr
 have HZ:=zh<|fun(e:ig T id=0)=>nZ e
 have S:=zh h
 have H:=zh hr
 have O:=J3 hI hF aq
 have HX:=zh hX
 obtain⟨q,hq⟩:=zx (bs.length)
 rw[<- hq] at hbl ⊢
 have HQ:=zh hq
 generalize ig T id=f at *
 clear h hr hI hF aq hX hq
 go_in
 go_wp2_with fail
 refine aO.mono ?_
 rintro e w1⟨rfl,rfl⟩
 clear aO
 by_cases hf:f=0
 rotate_left
 ·have HE:Hid (r=(f,T)):=zh (by have:=H.out;rwa[if_pos hf] at this)
  have hb:(f !=0)=true:=by simpa using hf
  rw[if_neg hf]
  clear H hf
  go_wp2
  go_ret
  rw[HE.out]
  exact jD.stay S.out (zN _) _
 subst hf
 obtain⟨t,hg,aP⟩:=HZ.out (by first|rfl|trivial)
 rw[if_pos rfl]
 rw[if_neg Zd,hg] at H
 dsimp only at H
 have HG:=J2 hg aP
 obtain⟨k,hk⟩:=zx (below id T)
 obtain⟨ar,au⟩:=wF hg O.1.rising hk
 rw[<- hk]
 have HK:=zh hk
 obtain⟨av,aQ⟩:=(O.1.node id t hg).size
 obtain⟨-,A,ca,B,cb,E,ce,h1,aR,aS,-,hN,hB,-⟩:=S.out
 have c0:=a_ h1 (k:=0) rfl
 have hn:=O.2.2.nodes
 have ba:=aR.1
 have bb:=aS.1
 obtain⟨g,off,rfl,-,-,-,-,x3,-,x5⟩:=hN.rnode ar
 rw[au] at x3 x5
 dsimp only at x3 x5
 obtain⟨vs,z,bc,aw⟩:=hB
 have af:vs.length=(ec T).data.length:=by have:=z.1;omega
 have aa:(ec T).data.length=(ec T).nodes.length:=by rw[fV.1,fV.2.1]
 obtain⟨n,ag⟩:=zx ((ec T).nodes.length)
 have U:=ar
 have ax:(ec T).data[k]'(by rw[aa];exact U)=t.b:=by
  obtain⟨q1,q2⟩:=od O.1.rising hg
  have e:(ec T).data[k]'(by rw[aa];exact U)=(fun p:Int×eI=>p.2.b) (T[k]'(by rw[hk];exact q1)):=List.getElem_map ..
  rw[e];subst hk;rw[q2]
 rw[aa,<- ag] at h1 z bb
 rw[<- ag] at c0 ar hn ba
 have hz:=pR af aw
 have ay:=wZ af hz
 obtain⟨Ak,ck,az,aA,aB⟩:=aw k (by rw[aa];exact U)
 rw[ax] at az aA aB
 have o:=J5 ag U au aa ax
 have Y:=J9 h1 hN z ay hz af az aA aB
 have aT:=a_ h1 (k:=1) rfl
 have bd:=zh aT
 obtain⟨sz,aC⟩:=zx (t.n.size)
 rw[<- aC] at x3 H av
 have hwr:IntKind.i64.wrap (4096-sz)=4096-sz:=IntWalk.i64_in _ zo
 rw[<- HQ.out] at H
 have ab:=J3 av aQ aC
 clear h1 aR aS hN z bc aw hg hk au ag aP af ax hz ay az aA aB aC aT av aQ
 by_cases hs:t.n.shut=true
 ·have HE:Hid (r=(27,T)):=zh (by have:=H.out;rwa[if_pos hs] at this)
  rw[hs] at x5
  clear H hs
  go_wp2
  go_ret
  rw[HE.out]
  exact jD.stay S.out (zN _) _
 rw[if_neg hs] at H
 replace hs:t.n.shut=false:=by simpa using hs
 rw[hs] at x5
 by_cases ht:4096-sz<(q:Int)
 ·have HE:Hid (r=(15,T)):=zh (by have:=H.out;rwa[if_pos ht] at this)
  have aU:(q:Int)>4096-sz:=ht
  clear H hs
  go_wp2
  go_ret
  rw[HE.out]
  exact jD.stay S.out (zN _) _
 rw[if_neg ht] at H
 have aU:¬((q:Int)>4096-sz):=ht
 clear hs ht
 go_upto_region 8 with fail
 clear x5 x3 aU
 have k1:=(zN w).alloc (.cells #[] 53)
 have o1:=mS w zr 53 (size:=6) Zd
 have c1:=k1.Qb c0 trivial
 have C:=J2 k1 o1
 go_upto_region 9 with(at_builtin;refine sM (w0:=w) rfl rfl underlying156 (fY i7) Zd rfl C.2 rfl (by rw[o.1];exact Row.new Y.2.1 C.1) (nj _) (by unfold maxLen;omega) zo C.1 ?_;intro A9 c9 w9 o9 n9;rw[List.nil_append,Nat.zero_add] at o9;obtain⟨x,bA,be,bf,aD⟩:=o9.form zo;have bg:A9=some ⟨x,0,none⟩:=(by injection be);subst bg;have x9:=n9.Qa Y.1 trivial;have dd:=a_ x9 (k:=0) rfl;have zz:=dP x9 0)
 clear o1 c1 k1 c0
 try rw[Nat.zero_add n]
 have bh:=S.lt
 have k9:b_ (fun b=>b≠bt) w9 (w9.setCell ⟨bt,0,none⟩ (.slice (some ⟨x,0,none⟩) n c9)):=(b_.refl _ w9).setCell (p:=⟨bt,0,none⟩) (fun hd=>absurd rfl hd) _
 have y9:=dM x9 0 (.slice (some ⟨x,0,none⟩) n c9)
 have ah:x≠bt:=by omega
 have aV:=eP o9 k9 (fun j hj=>by injection hj with hj;rw[<- hj];exact ah)
 have ai:=Nat.lt_of_lt_of_le aD k9.size
 have kv:b_ (fun b=>b≠bt) w (w9.setCell ⟨bt,0,none⟩ (.slice (some ⟨x,0,none⟩) n c9)):=(b_.Qe n9).trans k9
 clear x9 dd zz o9 n9 k9 aD
 generalize World.setCell w9 _ _=v at *
 have H9:=J6 y9 aV ai kv bf ah
 have k1:=(zN v).alloc (.cells #[] 22)
 have o1:=mS v zr 22 (size:=1) Zd
 have c1:=k1.Qb (a_ y9 (k:=1) rfl) trivial
 have aW:=Row.keep Y.2.2.1 kv (fun b hb hd e=>by have:=S.1;rw[e] at hd;exact hi (this.symm.trans hd))
 have C:=J3 k1 o1 aW
 clear y9 aV ai kv aW k1 o1
 go_upto_region 10 with(at_builtin;refine sM (w0:=v) rfl rfl underlying157 (fY jY) Zd rfl C.2.1 rfl (Row.new C.2.2 C.1) Y.2.2.2.1 (by unfold maxLen;omega) zo C.1 ?_;intro AD cD wD oD nD;rw[List.nil_append,Nat.zero_add] at oD;obtain⟨d,bB,bi,aj,aE⟩:=oD.form zo;have bj:AD=some ⟨d,0,none⟩:=(by injection bi);subst bj;have xD:=nD.Qa H9.1 trivial;have dd:=a_ xD (k:=1) rfl;have zz:=dP xD 1)
 clear c1 C bd
 try rw[Nat.zero_add n]
 have bE:=Nat.lt_of_lt_of_le bh H9.2.2.2.1.size
 have kD:b_ (fun b=>b≠bt) wD (wD.setCell ⟨bt,1,none⟩ (.slice (some ⟨d,0,none⟩) n cD)):=(b_.refl _ wD).setCell (p:=⟨bt,1,none⟩) (fun hd=>absurd rfl hd) _
 have yD:=dM xD 1 (.slice (some ⟨d,0,none⟩) n cD)
 have J:d≠bt:=by omega
 have M:d≠x:=by have:=H9.2.2.1;omega
 have ku:b_ (fun b=>b≠bt) v (wD.setCell ⟨bt,1,none⟩ (.slice (some ⟨d,0,none⟩) n cD)):=(b_.Qe nD).trans kD
 have P:=eP oD kD (fun j hj=>by injection hj with hj;rw[<- hj];exact J)
 have Q:=eP H9.2.1 ku (fun j hj=>by injection hj with hj;rw[<- hj];exact ah)
 have ae:=Nat.lt_of_lt_of_le aE kD.size
 have aX:=J2 (ew oD) (eh oD)
 clear xD dd zz oD nD kD aE
 generalize World.setCell wD _ _=u at *
 have I:b_ (fun b=>b≠bt) w u:=H9.2.2.2.1.trans ku
 have Z:=Row.keep Y.2.2.2.2.2.2.2.2 I (fun b hb hd e=>by have:=S.1;rw[e] at hd;exact hi (this.symm.trans hd))
 have ak:=Row.keep HX.out I (fun b hb hd=>hd)
 have bl:=zh I.size
 have HU:=zh<|za yD (za P (za Q (za ae (za I (za Z (za ak (za J (za M aj))))))))
 obtain⟨m,hm⟩:=zx (t.b.length)
 have HM:=zh hm
 have aY:u.cell? ⟨d,k,none⟩=some (.slice Ak m ck):=by
  rw[hm]
  have:=(P.cellAt k zo).trans Y.2.2.2.2.2.2.1
  exact this
 have aF:=zh aY
 clear yD P Q ku I Z ak hm aY aj
 refine km 17 zk ?_
 have kd:New u u.drew:=(zN u).drew
 have aZ:u.drew.heap.size=u.heap.size:=rfl
 have HD:=J2 kd aZ
 have aG:∀V,New u.drew V->V.cell? ⟨bt,1,none⟩=some (.slice (some ⟨d,0,none⟩) n cD):=fun V z=>z.Qb (a_ (w:=u.drew) HU.1 (k:=1) rfl) trivial
 have al:∀V,New u.drew V->V.cell? ⟨d,k,none⟩=some (.slice Ak m ck):=fun V z=>z.Qb (show u.drew.cell? _=_ from aF.out) trivial
 clear kd aZ
 generalize u.drew=wd at *
 have a:New wd wd:=zN _
 refine dO 0 a ?_
 refine dO 1 a ?_
 refine dO 2 a ?_
 refine dO 3 a ?_
 refine dO 4 a ?_
 refine dO 6 a ?_
 refine dO 7 a ?_
 refine dO 8 a ?_
 refine dO 9 a ?_
 refine dO 10 a ?_
 refine dO 11 a ?_
 refine dO 12 a ?_
 refine dO 14 a ?_
 refine fH 5 zk rfl rfl (fun K hK=>?_)
 go_simp
 have n1:=(zN wd).alloc (.cells #[] 5)
 have o1:=mS wd zr 5 (size:=1) Zd
 refine hK _ _ n1 ?_
 clear hK K
 try simp only[zy]
 generalize wd.alloc (.cells #[] 5)=w1 at *
 refine fH 13 zk rfl rfl (fun K hK=>?_)
 refine ii rfl underlying22 (fY yP) Zd rfl o1 rfl (by rw[HM.out];exact Row.new HU.2.2.2.2.2.1 (HD.1.new n1)) (kT _) (by unfold maxLen;have:=ab.2.1;have:=HM.out;omega) (by have:=ab.2.1;have:=HM.out;omega) n1 ?_
 intro A8 c8 w8 o8 n8
 refine hK _ _ n8 ?_
 clear hK K
 try simp only[zy]
 rw[Nat.zero_add m] at o8
 try rw[Nat.zero_add m]
 refine fH 15 zk rfl rfl (fun K hK=>?_)
 refine ii rfl underlying22 (fY yP) Zd rfl o8 rfl (by rw[HQ.out];exact Row.new HU.2.2.2.2.2.2.1 (HD.1.new n8)) (kT _) (by unfold maxLen;have:=ab.2.1;have:=HM.out;omega) (by have:=ab.2.1;have:=HM.out;omega) n8 ?_
 intro y D F N R
 refine hK _ _ R ?_
 clear hK K
 try simp only[zy]
 refine dO 16 R ?_
 have bm:=al F R
 have bn:F.frozen? ⟨d,k,none⟩=false:=((HD.1.new R).frozen (p:=⟨d,k,none⟩) HU.2.2.2.1 zt).trans (HU.2.1.frozenAt k)
 have HO:=J2 N (HD.1.new R)
 clear o1 o8 N n1 n8 R a aG al
 generalize hL:m+q=L at *
 have HL:=zh hL
 clear hL
 refine lM zk Zd rfl rfl zk ?_
 go_simp
 go_upto_region 11 with fail
 obtain⟨yD,P,Q,ae,I,Z,ak,J,M,aj⟩:=HU.out
 obtain⟨N,ac⟩:=HO.out
 have ks:b_ (fun b=>b≠d) F (F.setCell ⟨d,k,none⟩ (.slice y L D)):=(b_.refl _ F).setCell (p:=⟨d,k,none⟩) (fun hd=>absurd rfl hd) _
 have aH:=ac.Qa yD trivial
 have ys:=(ks.block bt (Zl aH) (Ne.symm J)).trans aH
 have a1:=eP Q ac (fun _ _=>zt)
 have G:=eP a1 ks (fun j hj=>by injection hj with hj;rw[<- hj];exact Ne.symm M)
 have a2:=H9.2.2.2.1.size
 have aI:=(eW Q x rfl).2
 have rD:=sF (EW (((Row.Qc P).new ac).imp (E:=fun b=>w.heap.size<=b) fun b _ hd=>Nat.le_trans a2 hd)) (j:=k) (by rw[(Y.out).2.2.2.2.2.1,o.2.2.2.1];exact o.2.1) (.slice y L D)
 have am:(F.setCell ⟨d,k,none⟩ (.slice y L D)).cell? ⟨d,k,none⟩=some (.slice y L D):=World.cell?_setCell_same _ _ _ (ac.Qb aF.out zt)
 have an:b_ (fun b=>b≠bt) w (F.setCell ⟨d,k,none⟩ (.slice y L D)):=(I.new ac).setCell (p:=⟨d,k,none⟩) (fun _=>Nat.le_trans a2 aj) _
 have bC:∀j,blk y=some j->u.heap.size<=j:=fun j hj=>by have:=(eW N j hj).1;rw[HD.2] at this;exact this
 have rA:Bs (F.setCell ⟨d,k,none⟩ (.slice y L D)) (fun b=>u.heap.size<=b) y L (t.b++bs):=by
  have e:=Row.Qc N
  rw[List.nil_append,<- List.map_append,HD.2] at e
  exact Row.keep e ks (fun b hb hd e2=>by rw[e2] at hd;omega)
 have ao:=ew N
 clear N P Q a1 aH yD ae Z ak I ks bm bn HO HU aF
 generalize World.setCell F _ _=s at *
 have aJ:=(eW G x rfl).2
 have HS:=zh<|za ys (za G (za rD (za am (za an (za rA (za ao (za J (za M (za aJ aI)))))))))
 refine km 15 zk ?_
 have a6:New s s.drew:=(zN s).drew
 have aK:=zh a6
 have bo:∀V,New s.drew V->V.cell? ⟨bt,0,none⟩=some (.slice (some ⟨x,0,none⟩) n c9):=fun V z=>z.Qb (a_ (w:=s.drew) ys (k:=0) rfl) trivial
 have aG:∀V,New s.drew V->V.cell? ⟨bt,1,none⟩=some (.slice (some ⟨d,0,none⟩) n cD):=fun V z=>z.Qb (a_ (w:=s.drew) ys (k:=1) rfl) trivial
 have al:∀V,New s.drew V->V.cell? ⟨d,k,none⟩=some (.slice y L D):=fun V z=>z.Qb (show s.drew.cell? _=_ from am) trivial
 have bF:s.drew.frozen? ⟨x,k*6+3,none⟩=false:=G.frozenAt _
 have bG:s.drew.cell? ⟨x,k*6+3,none⟩=some (.int .i64 sz):=by
  have r9:=Row.Qc G
  rw[o.1] at r9
  obtain⟨bH,bD,e9,-,-,-,-,u3,-⟩:=Row.rnode r9 o.2.1
  injection e9 with e9
  injection e9 with e9 e9'
  subst e9 e9'
  rw[o.2.2.1] at u3
  simp only[Nat.zero_add] at u3
  rw[ab.2.2];exact u3
 clear ys G rD am an rA ao J M aJ aI a6
 generalize s.drew=ad at *
 have a:New ad ad:=zN _
 refine dO 0 a ?_
 refine dO 1 a ?_
 refine dO 2 a ?_
 refine dO 3 a ?_
 refine dO 4 a ?_
 refine dO 5 a ?_
 refine dO 6 a ?_
 refine dO 7 a ?_
 refine dO 8 a ?_
 refine dO 9 a ?_
 refine dO 10 a ?_
 refine dO 11 a ?_
 refine dO 12 a ?_
 refine dO 13 a ?_
 refine dO 14 a ?_
 clear bo aG al a
 refine lM zk Zd rfl rfl zk ?_
 go_simp
 go_wp2
 go_ret
 obtain⟨ys,G,rD,am,an,rA,ao,J,M,aJ,aI⟩:=HS.out
 have ap:L=(t.b++bs).length:=by rw[zL,<- HL.out,HM.out,HQ.out]
 have KG:b_ (fun b=>b≠x) s (ad.setCell ⟨x,k*6+3,none⟩ (.int .i64 (L:Int))):=(b_.Qe aK.out).setCell (p:=⟨x,k*6+3,none⟩) (fun hd=>absurd rfl hd) _
 have KW:b_ (fun b=>b≠bt) w (ad.setCell ⟨x,k*6+3,none⟩ (.int .i64 (L:Int))):=(an.new aK.out).setCell (p:=⟨x,k*6+3,none⟩) (fun _=>H9.2.2.2.2.1) _
 have yW:=(KG.block bt (Zl ys) (Ne.symm ah)).trans ys
 have f3:=qQ fo 6 (fun _=>rfl) (ec T).nodes k 3 o.2.1 Zd (id,(js bs t).n) (.int .i64 (L:Int)) (by rw[o.2.2.1,ap];rfl)
 have r9:=((Row.Qc G).new aK.out)
 rw[o.1] at r9
 have aL:=sF r9 (j:=k*6+3) (by have:=r9.1;have:=o.2.1;omega) (.int .i64 (L:Int))
 rw[f3] at aL
 have a7:=(Row.keep rD KG (fun b hb hd e=>M (hd.2.symm.trans e))).imp (E:=fun b=>w.heap.size<=b) fun b _ hd=>hd.1
 have a8:=Row.keep rA KG (fun b hb hd e=>by rw[e] at hd;omega)
 have bp:w.heap.size<=u.heap.size:=bl.out
 obtain⟨W,hW⟩:=zx (ad.setCell ⟨x,k*6+3,none⟩ (.int .i64 (L:Int)))
 rw[<- hW] at KG KW yW aL a7 a8 ⊢
 have aM:((ec T).nodes.set k (id,(js bs t).n)).length=n:=by rw[List.length_set];exact o.1.symm
 have aN:((ec T).data.set k (t.b++bs)).length=n:=by rw[List.length_set,o.2.2.2.1];exact o.1.symm
 have h0:∀b,b<w.heap.size->c b=0->b≠bt:=fun b _ hb e=>by rw[e,S.1] at hb;exact hi hb
 obtain⟨bq,bu⟩:=S.bothAt (W:=W) (l:=(ec T).nodes.set k (id,(js bs t).n)) (m:=(ec T).data.set k (t.b++bs)) (A9:=some ⟨x,0,none⟩) (c9:=c9) (B9:=some ⟨d,0,none⟩) (d9:=cD) (vs:=vs.set k (.slice y L D)) hi KW (fun cells bx=>by
  have e:=Y.1.symm.trans bx
  injection e with e
  injection e with e
  rw[<- e,aM,aN]
  exact yW) (by rw[aM,o.1];exact aL) (by rw[aM];exact ew G) (eh G) (by rw[aN];exact a7) (by rw[aN];exact aX.1) aX.2 (fun p hp=>by
  rw[Cd] at hp
  rcases List.mem_or_eq_of_mem_set hp with hp|rfl
  ·exact(Y.2.2.2.2.1 p hp).keep KW (c.Qg w fun _=>0) h0
  exact⟨y,D,by rw[<- ap],by rw[<- ap];exact ao,by rw[<- ap];exact a8.imp fun b _ hb=>Col.Qf _ _ (Nat.le_trans bp hb)⟩)
 rw[H.out]
 have bz:ec (eN id (js bs t) T)=⟨(ec T).nodes.set k (id,(js bs t).n),(ec T).data.set k (t.b++bs),(ec T).e⟩:=by rw[xZ (it':=js bs t) O.1.rising O.1.names HG.1 rfl,<- HK.out];rfl
 refine⟨rfl,KW,_,bq,?_⟩
 show ey W _ i bt (ec (eN id (js bs t) T))
 rw[bz]
 exact bu
end
section
variable {w w':World}{c c':Col}{i j bt:Nat}{T:dX}{id:Int}{it:eI}
theorem Aw(h:ey w c i bt (ec T))(hI:eo T)(hF:m8 (ec T)){A:Option Addr}{p:eZ}(hR:Ps w D A n p)(hn:n<=1000)(hc:n<=cp)(hs:∀nm∈p,nm.length<=1099511627776):
  Calls prog 182 #[.pointer (some ⟨bt,0,none⟩),.slice A n cp] w fun e w'=>e=.returned (.tuple #[.int .i64 (eB T p).1,.string (dR (eB T p).2.1),.int .i64 (eB T p).2.2])/\New w w':=by
 rcases List.eq_nil_or_concat p with rfl|⟨a,nm,rfl⟩
 ·obtain rfl:n=0:=hR.len.symm
  clear hR hs h hF hI
  go_in
  go_wp2
  refine Zb (.tuple #[.int .i64 0,.string { data:=#[] },.int .i64 1]) (by simp[results,results182,go_sem]) ?_
  exact⟨rfl,zN _⟩
 rw[List.concat_eq_append] at hR hs ⊢
 have hl:=hR.len
 rw[zL,List.length_singleton] at hl
 obtain⟨m,hm⟩:=zx (a.length)
 rw[<- hm] at hl
 subst hl
 have C:Ps w D A m a:=by
  have:=GV hR (m:=m) zo
  rw[hm] at this ⊢
  rwa[List.take_left] at this
 have l:=zh<|Dt h hI hF (cp:=cp) C zo fun x y=>hs x (List.mem_append_left _ y)
 have J:=zh<|fun W (N:New w W) (id:Int) (f:eI) (hg:dN T id=some f)=>vi (h.new N) hF hI.rising hg
 have E:=zh<|oX hI a 0 hI.zero
 obtain⟨b,off,rfl,H⟩:=Ps.at_ hR (k:=m) (by simp;omega)
 have F:(a++[nm])[m]'(by simp;omega)=nm:=by subst hm;simp
 rw[F] at H
 have j:eB T (a++[nm])=if (fL T 0 a).2≠0 then(0,[],(fL T 0 a).2) else match iX T (fL T 0 a).1 with
   | none=>(0,[],23)
   | some _=>((fL T 0 a).1,nm,0):=by
  unfold eB
  rw[if_neg (by simp),List.dropLast_concat,List.getLastD_concat]
  rfl
 obtain⟨r,K⟩:=zx (eB T (a++[nm]))
 rw[<- K] at j ⊢
 obtain⟨d,g,y⟩:∃d g,fL T 0 a=(d,g):=⟨_,_,rfl⟩
 rw[y] at l E j
 dsimp only at l j
 have o:=zh j
 have O:=zh H
 have S:IntKind.i64.wrap ((m:Int)+1-1)=(m:Int):=by rw[IntWalk.i64_in _ zo];omega
 have U:m<=cp:=by omega
 clear j y K hR C hs h hF hI hm H F
 go_in
 have P:((m:Int)+1==0)=false:=by simp;omega
 go_wp2_with fail
 refine l.mono ?_
 rintro e Q⟨rfl,L⟩
 have z:=zh L
 clear l L
 by_cases hw:g=0
 rotate_left
 ·have s:Hid (r=(0,[],g)):=zh (by have:=o.out;rwa[if_pos hw] at this)
  have hb:(g !=0)=true:=by simpa using hw
  clear hw
  go_wp2
  refine Zb (.tuple #[.int .i64 0,.string { data:=#[] },.int .i64 g]) (by simp[results,results182,go_sem]) ?_
  exact⟨by rw[s.out];rfl,z.out⟩
 subst hw
 obtain⟨f,hg⟩:=Option.isSome_iff_exists.1 (E.out d (by first|rfl|trivial))
 have B:=zh<|J.out Q z.out d f hg
 unfold nR at B
 by_cases hk:f.n.kind=2
 rotate_left
 ·have hd:iX T d=none:=by simp[iX,hg,hk]
  have s:Hid (r=(0,[],23)):=zh (by have:=o.out;rw[hd] at this;simpa using this)
  have V:(f.n.kind==2)=false:=beq_eq_false_iff_ne.2 hk
  clear hg hd hk
  go_wp2_with fail
  refine B.mono ?_
  rintro e I⟨rfl,t⟩
  have u:=zh t
  clear t
  go_wp2
  refine Zb (.tuple #[.int .i64 0,.string { data:=#[] },.int .i64 23]) (by simp[results,results182,go_sem]) ?_
  exact⟨by rw[s.out];rfl,(z.new u.out).alloc _⟩
 have hd:iX T d=some f.names:=by simp[iX,hg,hk]
 have s:Hid (r=(d,nm,0)):=zh (by have:=o.out;rw[hd] at this;simpa using this)
 rw[hk] at B
 clear hg hd hk
 go_wp2_with fail
 refine B.mono ?_
 rintro e I⟨rfl,t⟩
 have u:=zh<|z.new t
 clear t
 go_upto_region 9 with fail
 have M:=(zN I).alloc (.cells #[.int .i64 d,.int .i64 2,.int .i64 f.n.links,.int .i64 f.n.size,.int .u64 f.n.till,.bool f.n.shut] 53)
 generalize World.alloc I _=R at *
 have G:=zh<|u.new M
 have X:∀q,(R.drewN q).cell? ⟨b,off+m,none⟩=some (.string (dR nm)):=fun q=>((G.out).drewN q).Qb O.out trivial
 clear M
 go_quiet (fail)
 go_wp2
 refine Zb (.tuple #[.int .i64 d,.string (dR nm),.int .i64 0]) (by simp[results,results182,go_sem]) ?_
 exact⟨by rw[s.out],G.drewN _⟩
end
theorem Fq(hI:eo T){d:Int}{it:eI}(hgi:dN T id=none)(hg:dN T d=some it)(hno:dN it.names nm=none):
  ec (setNames (eN id (eD kind) T) d (eN nm id it.names))=(eM.mk (gZ (below id T) (id,(eD kind).n) (ec T).nodes) (gZ (below id T) [] (ec T).data) (ec T).e).ins (mu (jt d nm) (ec T).e) (d,nm,id):=by
 have b:d≠id:=fun e=>by rw[e,hgi] at hg;cases hg
 have a:dN (eN id (eD kind) T) d=some it:=by rw[dS,if_neg b];exact hg
 have c:ee (eN id (eD kind) T):=hI.rising.put
 have f:fA (eN id (eD kind) T):=lP hI.names List.Pairwise.nil
 rw[oB _ a,GQ c f a hno,GR hI.rising hI.names hgi rfl,zf hI.rising hI.names hgi rfl,DU]
 rfl
theorem Ex:below id T<=(ec T).nodes.length:=by rw[fV.1];exact oR
section
variable {w w':World}{c c':Col}{i j bt:Nat}{T:dX}
theorem Ds(h:ey w c i bt (ec T))(hi:i≠0)(hI:eo T)(hF:eV T){A:Option Addr}{p:eZ}(hR:Ps w D A n p)(hn:n<=1000)(hc:n<=cp)(hs:∀nm∈p,nm.length<=1099511627776)(hkd:kind=1\/kind=2):
  Calls prog 171 #[.pointer (some ⟨bt,0,none⟩),.slice A n cp,.int .i64 kind] w (jD w c i bt (ec (g_ T p kind).2.2) (.tuple #[.int .i64 (g_ T p kind).1,.int .i64 (g_ T p kind).2.1])):=by
 have aa:=nL hI hF
 have aJ:=zh<|Au D A n cp p w hR zo hs
 have av:=zh<|Aw h hI aa (cp:=cp) hR hn hc hs
 have H:=zh h
 have F:=J3 hI hF aa
 have aK:=zh<|fun(e:el p=0) (e2:p≠[])=>(rF e e2)
 have aw:=zh<|fun(e:(eB T p).2.2=0)=>oI e
 obtain⟨r,hr⟩:=zx (g_ T p kind)
 rw[<- hr]
 have aL:¬(kind≠1/\kind≠2):=zo
 have O:Hid (r=if el p≠0 then(0,el p,T) else if (eB T p).2.2≠0 then(0,(eB T p).2.2,T) else if (dN (lq T (eB T p).1) (eB T p).2.1).isSome then(0,21,T) else if 64<=T.length then(0,4,T)
   else(lR T,0,setNames (eN (lR T) (eD kind) T) (eB T p).1 (eN (eB T p).2.1 (lR T) (lq T (eB T p).1)))):=zh (by rw[hr];unfold g_;rw[if_neg aL])
 generalize el p=f at *
 generalize eB T p=x at *
 obtain⟨d,nm,ap⟩:=x
 dsimp only at O av aw aK
 have aX:=zh hkd
 clear h hI hF hR hs hr aL hkd aa
 go_in
 go_wp2_with fail
 refine aJ.mono ?_
 rintro e P⟨rfl,rfl⟩
 clear aJ
 by_cases hf:f=0
 rotate_left
 ·have HE:Hid (r=(0,f,T)):=zh (by have:=O.out;rwa[if_pos hf] at this)
  have hb:(f !=0)=true:=by simpa using hf
  clear O hf
  go_wp2
  refine Zb (.tuple #[.int .i64 0,.int .i64 f]) (by simp[results,results171,go_sem]) ?_
  rw[HE.out]
  exact jD.stay H.out (zN _) _
 subst hf
 rw[if_neg Zd] at O
 go_upto_region 4 with fail
 go_cut [23] from 18 to 22 (fun aY X=>aY=.bool false/\w=X)
 case first =>
  rcases aX.out with rfl|rfl
  ·go_wp2
   go_meet
   exact⟨by first|rfl|trivial,by first|rfl|trivial⟩
  go_wp2
  go_meet
  exact⟨by first|rfl|trivial,by first|rfl|trivial⟩
 obtain⟨rfl,rfl⟩:=hcut
 go_wp2_with fail
 refine av.mono ?_
 rintro e Q⟨rfl,k2⟩
 have U:=zh k2
 clear k2 av
 by_cases hw:ap=0
 rotate_left
 ·have HE:Hid (r=(0,ap,T)):=zh (by have:=O.out;rwa[if_pos hw] at this)
  have hb:(ap !=0)=true:=by simpa using hw
  clear O hw
  go_wp2
  refine Zb (.tuple #[.int .i64 0,.int .i64 ap]) (by simp[results,results171,go_sem]) ?_
  rw[HE.out]
  exact jD.stay H.out U.out _
 subst hw
 rw[if_neg Zd] at O
 obtain⟨aZ,a1,⟨it,hg,aM,aq⟩,a2⟩:=aw.out (by first|rfl|trivial)
 rw[aq] at O
 have HG:=J3 hg aM aq
 have ah:=zh<|tu (H.new U.out) F.2.2 d nm
 rw[CC F.1.rising F.1.names] at ah
 have ar:dN (gI T) ⟨d,nm⟩=dN it.names nm:=by rw[uj F.1,aq]
 clear aZ a1 aq a2 hg aM aw aK
 by_cases af:(dN it.names nm).isSome=true
 ·have HE:Hid (r=(0,21,T)):=zh (by have:=O.out;rwa[if_pos af] at this)
  have h0:atK (⟨d,nm⟩:om) (gI T)≥0:=Hl.2 (by rw[ar];exact af)
  generalize atK (⟨d,nm⟩:om) (gI T)=a at *
  clear O af ar
  go_wp2_with fail
  refine ah.mono ?_
  rintro e w3⟨rfl,rfl⟩
  go_wp2
  refine Zb (.tuple #[.int .i64 0,.int .i64 21]) (by simp[results,results171,go_sem]) ?_
  rw[HE.out]
  exact jD.stay H.out U.out _
 rw[if_neg af] at O
 have ax:=rU af
 rw[oT (ar.trans ax)] at ah
 have a6:=zh ax
 clear af ax ar
 go_wp2_with fail
 refine ah.mono ?_
 rintro e w3⟨rfl,rfl⟩
 clear ah
 have a7:=H.new U.out
 obtain⟨-,A0,ca,B0,cb,E0,ce,h1,ab,-,-,aN,-,-⟩:=a7
 have c0:=a_ h1 (k:=0) rfl
 rw[fV.1] at c0
 have ay:=J2 aN ab
 obtain⟨n,az⟩:=zx (T.length)
 have ai:=zh az
 rw[<- az] at c0 O
 clear h1 ab aN az
 by_cases ac:64<=n
 ·have HE:Hid (r=(0,4,T)):=zh (by have:=O.out;rwa[if_pos ac] at this)
  have hb:((n:Int)≥64):=zo
  clear O
  go_wp2
  refine Zb (.tuple #[.int .i64 0,.int .i64 4]) (by simp[results,results171,go_sem]) ?_
  rw[HE.out]
  exact jD.stay H.out U.out _
 rw[if_neg ac] at O
 have aO:=zh ac
 have hb:¬((n:Int)≥64):=zo
 clear ac
 go_wp2_with fail
 clear hb
 go_loopw [11] (fun a8 X=>∃id:Int,a8=.int .i64 id/\1<=id/\id<=64/\(∀j,1<=j->j<id->(dN T j).isSome=true)/\Q=X) (fun s _=>65-(intOf s).toNat)
 case atStart=>exact⟨1,rfl,Zd,Zd,fun j h1 h2=>by omega,rfl⟩
 obtain⟨id,rfl,aP,ba,aj,rfl⟩:=hrel
 have ag:=zh<|sG (H.new U.out) F.2.2 id
 rw[oS F.1.rising] at ag
 have HB:=zh aj
 clear aj
 cases hgi:dN T id with
 | some bb =>
  rw[mA hgi] at ag
  have bp:=F.1.ids id bb hgi
  have bc:Hid ((dN T id).isSome=true):=zh (by rw[hgi];rfl)
  have hwr:IntKind.i64.wrap (id+1)=id+1:=IntWalk.i64_in _ zo
  generalize below id T=q at *
  have hq:(q:Int)≥0:=by omega
  clear hgi
  go_wp2_with fail
  refine ag.mono ?_
  rintro e w3⟨rfl,rfl⟩
  go_wp2
  go_roundw
  case rel=>exact⟨id+1,by go_num,zo,zo,fun j h1 h2=>(Int.lt_or_eq_of_le (show j<=id by omega)).elim (HB.out j h1) (fun e=>by rw[e];exact bc.out),by first|rfl|trivial⟩
  simp[intOf];omega
 | none =>
  rw[oT hgi] at ag
  have hfr:=Cp F.1 (by have:=aO.out;have:=ai.out;omega) hgi aP HB.out
  have aQ:=J4 hgi hfr aP ba
  clear hgi hfr
  go_wp2_with fail
  refine ag.mono ?_
  rintro e w3⟨rfl,rfl⟩
  clear ag
  go_upto_block 2 with fail
  go_cut [12] from 51 to 71 (fun bd X=>bd=.int .i64 (below id T:Nat)/\Q=X)
  case first =>
   go_wp2_with fail
   go_loopw [12] (fun s X=>∃k:Nat,k<=n/\s=.int .i64 (k:Int)/\(∀j (_:j<k) (hj:j<T.length),T[j].1<id)/\Q=X) (fun s _=>n-(intOf s).toNat)
   case atStart=>exact⟨0,Nat.zero_le _,rfl,fun j h=>absurd h (Nat.not_lt_zero _),rfl⟩
   obtain⟨k,hk,rfl,aR,rfl⟩:=hrel
   have aA:=zh aR
   clear aR
   have ab:=ay.2
   rw[fV.1,<- ai.out] at ab
   have bo:n<64:=by have:=aO.out;omega
   by_cases hlt:k<n
   ·have aB:k<T.length:=by have:=ai.out;omega
    have be:k<(ec T).nodes.length:=by rw[fV.1];exact aB
    obtain⟨g,off,rfl,-,x0,-⟩:=Row.rnode ay.1 be
    have e:(ec T).nodes[k]=(fun p:Int×eI=>(p.1,p.2.n)) (T[k]'aB):=List.getElem_map ..
    rw[e] at x0
    obtain⟨y,hy⟩:=zx (T[k].1)
    have bq:Q.cell? ⟨g,off+k*6,none⟩=some (.int .i64 y):=by rw[hy];exact x0
    have HY:=zh hy
    clear hy x0 e
    by_cases aS:y<id
    ·go_wp2
     go_roundw
     case rel=>exact⟨k+1,zo,by go_num,fun j h hj=>(Nat.lt_or_eq_of_le (Nat.le_of_lt_succ h)).elim (fun h=>aA.out j h hj) (fun e=>by subst e;rw[<- HY.out];exact aS),by first|rfl|trivial⟩
     simp[intOf];omega
    have HE:Hid (below id T=k):=zh (ut (Nat.le_of_lt aB) (fun j h=>aA.out j h _) fun _=>by rw[<- HY.out];exact aS)
    go_wp2
    go_meet
    exact⟨by rw[HE.out],by first|rfl|trivial⟩
   obtain rfl:k=n:=by omega
   have HE:Hid (below id T=k):=zh (ut (by have:=ai.out;omega) (fun j h=>aA.out j h _) fun h=>by have:=ai.out;omega)
   go_wp2
   go_meet
   exact⟨by rw[HE.out],by first|rfl|trivial⟩
  obtain⟨rfl,rfl⟩:=hcut
  have bf:=H
  clear c0 ay H
  have H:=zh<|bf.new U.out
  have ak:=zh F.2.2
  have I:below id T<=(ec T).nodes.length:=Ex
  obtain⟨k,hk⟩:=zx (below id T)
  rw[<- hk] at I ⊢
  have HK:=zh hk
  clear hk
  go_upto_region 19 with fail
  go_cut [] from 72 to 96 (fun X=>b_ (fun b=>b≠bt) Q X/\∃c1,Ext Q c c1/\ey X c1 i bt (eM.mk (gZ k (id,(eD kind).n) (ec T).nodes) (ec T).data (ec T).e))
  case first =>
   obtain⟨-,A,ca,B,cb,E,ce,h1,ab,aC,bg,hN,hB,hE⟩:=H.out
   have hn:=ak.nodes
   have al:=ab.1
   have bh:=ab.2
   have Y:=hN
   have Z:=nj (ec T).nodes
   obtain⟨vs,aD⟩:=zx (((ec T).nodes.map fo).flatten)
   rw[<- aD] at Y Z
   have r1:=(Y.cutTake (k:=k) I).drew
   have r2:=(Y.cutO (k:=k) I al).drew
   obtain⟨n,ad⟩:=zx ((ec T).nodes.length)
   rw[<- ad] at al hn r2 h1 I
   obtain⟨A0,ae⟩:=zx (A)
   rw[<- ae] at r1 r2
   have cx:∀V,New Q.drew V->V.cell? ⟨bt,0,none⟩=some (.slice A0 n ca):=fun V Y=>by rw[ae];exact Y.Qb (a_ (w:=Q.drew) h1 (k:=0) rfl) trivial
   have U:=zh ad
   have HH:=zh h1
   have J:=J3 r1 r2 Z
   have HZ:=J2 aD I
   have bi:k<=ca:=by omega
   have b2:(k:Int)<=(n:Int):=zo
   clear Y hN hE h1 r1 r2 Z ad ae aD hB
   refine km 25 zk ?_
   have kd:New Q Q.drew:=(zN Q).drew
   have am:Q.drew.heap.size=Q.heap.size:=rfl
   have HD:=J2 kd am
   clear kd am
   generalize Q.drew=t at *
   have o:New t t:=zN _
   refine dO 0 o ?_
   refine dO 2 o ?_
   refine dO 3 o ?_
   refine dO 4 o ?_
   refine dO 5 o ?_
   refine dO 6 o ?_
   refine dO 7 o ?_
   refine dO 9 o ?_
   refine dO 10 o ?_
   refine dO 11 o ?_
   refine dO 12 o ?_
   refine dO 13 o ?_
   refine dO 16 o ?_
   refine dO 17 o ?_
   refine dO 18 o ?_
   refine dO 19 o ?_
   refine dO 20 o ?_
   refine dO 21 o ?_
   refine pk 1 14 zk rfl rfl rfl rfl (fun K l=>?_) (fun K l=>?_)
   go_simp
   have z:=b_.new o ((zN t).alloc (.cells #[] 53))
   have L:=mS t o.size 53 (size:=6) Zd
   refine l _ _ z ?_
   clear l K
   try simp only[zy]
   generalize t.alloc (.cells #[] 53)=P at *
   refine pk 8 14 zk rfl rfl rfl rfl (fun K l=>?_) (fun K l=>?_)
   refine fb rfl underlying156 (fY i7) Zd rfl L rfl (Row.new J.1 z) (fun u C=>J.2.2 u (List.mem_of_mem_take C)) (by unfold maxLen;omega) zo z ?_
   intro A8 c8 w7 o7 M k7
   refine l _ _ M ?_
   clear l K
   try simp only[zy]
   rw[Nat.zero_add k] at o7
   try rw[Nat.zero_add k]
   refine fH 14 zk rfl rfl (fun K l=>?_)
   go_simp
   have R:=b_.new M ((zN w7).alloc (.cells #[.int .i64 id,.int .i64 kind,.int .i64 1,.int .i64 0,.int .u64 0,.bool (kind==2)] 53))
   have e8:=jI w7 [.int .i64 id,.int .i64 kind,.int .i64 1,.int .i64 0,.int .u64 0,.bool (kind==2)] 53 1 6 rfl
   have S:=(zN w7).alloc (.cells #[.int .i64 id,.int .i64 kind,.int .i64 1,.int .i64 0,.int .u64 0,.bool (kind==2)] 53)
   have o8:=Own.Qh o7 S
   refine l _ _ R ?_
   clear l K
   try simp only[zy]
   generalize w7.alloc (.cells #[.int .i64 id,.int .i64 kind,.int .i64 1,.int .i64 0,.int .u64 0,.bool (kind==2)] 53)=w8 at *
   generalize w7.heap.size=gx at *
   clear L z o7 M k7 S
   rotate_left
   go_simp
   have M:=b_.new z ((zN P).alloc (.cells #[.int .i64 id,.int .i64 kind,.int .i64 1,.int .i64 0,.int .u64 0,.bool (kind==2)] 53))
   have e7:=jI P [.int .i64 id,.int .i64 kind,.int .i64 1,.int .i64 0,.int .u64 0,.bool (kind==2)] 53 1 6 rfl
   have S:=(zN P).alloc (.cells #[.int .i64 id,.int .i64 kind,.int .i64 1,.int .i64 0,.int .u64 0,.bool (kind==2)] 53)
   have o7:=Own.Qh L S
   refine l _ _ M ?_
   clear l K
   try simp only[zy]
   generalize P.alloc (.cells #[.int .i64 id,.int .i64 kind,.int .i64 1,.int .i64 0,.int .u64 0,.bool (kind==2)] 53)=w7 at *
   have N:P.heap.size≠t.heap.size:=by have:=(eW L t.heap.size rfl).2;omega
   generalize P.heap.size=gx at *
   refine fH 8 zk rfl rfl (fun K l=>?_)
   refine fb rfl underlying156 (fY i7) Zd rfl o7 rfl (Row.new J.1 M) (fun u C=>J.2.2 u (List.mem_of_mem_take C)) (by unfold maxLen;omega) zo M ?_
   intro A8 c8 w8 o8 R k8
   have e8:=Row.keep e7 k8 (fun b _ hd e=>N (hd.symm.trans (Option.some.inj e)))
   refine l _ _ R ?_
   clear l K
   try simp only[zy]
   rw[Nat.zero_add k] at o8
   try rw[Nat.zero_add k]
   clear L z o7 M k8 e7 S N
   rotate_left
   go_simp
   have n6:=b_.new o ((zN t).alloc (.cells #[.int .i64 id,.int .i64 kind,.int .i64 1,.int .i64 0,.int .u64 0,.bool (kind==2)] 53))
   have e6:=jI t [.int .i64 id,.int .i64 kind,.int .i64 1,.int .i64 0,.int .u64 0,.bool (kind==2)] 53 1 6 rfl
   have S:=(zN t).alloc (.cells #[.int .i64 id,.int .i64 kind,.int .i64 1,.int .i64 0,.int .u64 0,.bool (kind==2)] 53)
   refine l _ _ n6 ?_
   clear l K
   try simp only[zy]
   have an:(t.alloc (.cells #[.int .i64 id,.int .i64 kind,.int .i64 1,.int .i64 0,.int .u64 0,.bool (kind==2)] 53)).heap.size=t.heap.size+1:=by simp
   generalize t.alloc (.cells #[.int .i64 id,.int .i64 kind,.int .i64 1,.int .i64 0,.int .u64 0,.bool (kind==2)] 53)=w6 at *
   have aE:=zh an
   clear an
   have N:t.heap.size≠w6.heap.size:=by have:=aE.out;omega
   refine fH 1 zk rfl rfl (fun K l=>?_)
   go_simp
   have z:=b_.new n6 ((zN w6).alloc (.cells #[] 53))
   have L:=mS w6 n6.size 53 (size:=6) Zd
   refine l _ _ z ?_
   clear l K
   try simp only[zy]
   have e7:=Row.new e6 ((zN w6).alloc (.cells #[] 53))
   generalize w6.alloc (.cells #[] 53)=P at *
   refine fH 8 zk rfl rfl (fun K l=>?_)
   refine fb rfl underlying156 (fY i7) Zd rfl L rfl (Row.new J.1 z) (fun u C=>J.2.2 u (List.mem_of_mem_take C)) (by unfold maxLen;omega) zo z ?_
   intro A8 c8 w8 o8 R k8
   have e8:=Row.keep e7 k8 (fun b _ hd e=>N (hd.symm.trans (Option.some.inj e)))
   refine l _ _ R ?_
   clear l K
   try simp only[zy]
   rw[Nat.zero_add k] at o8
   try rw[Nat.zero_add k]
   clear L z k8 e7 e6 n6 N S
   all_goals
    refine fH 15 zk rfl rfl (fun K l=>?_)
    refine fb rfl underlying156 (fY i7) Zd rfl o8 rfl e8 (fun u C=>by simp only[List.mem_cons,List.not_mem_nil,or_false] at C;rcases C with rfl|rfl|rfl|rfl|rfl|rfl <;> rfl) (by unfold maxLen;omega) zo R ?_
    intro A9 c9 w9 W n9 k9
    refine l _ _ n9 ?_
    clear l K
    try simp only[zy]
    refine fH 22 zk rfl rfl (fun K l=>?_)
    refine fb rfl underlying156 (fY i7) Zd rfl W rfl (Row.new J.2.1 n9) (fun u C=>J.2.2 u (List.mem_of_mem_drop C)) (by unfold maxLen;omega) zo n9 ?_
    intro bj bl bm ao G aF
    refine l _ _ G ?_
    clear l K
    try simp only[zy]
    refine dO 23 G ?_
    refine dO 24 G ?_
    have x9:=G.Qa (HD.1.Qa HH.out zt) trivial
    have zz:=dP x9 0
    have dd:=a_ x9 (k:=0) rfl
    have HO:=J2 ao G
    clear o8 W ao R n9 G k9 aF e8 x9 o cx
    generalize (if ca=k then A0 else Option.map (fun x=>x.add (k*6)) A0)=A2 at *
    generalize hm:k+1+(n-k)=m at *
    have HM:=zh hm
    clear hm
    refine lM zk Zd rfl rfl zk ?_
    go_simp
    have hm:m=(gZ k (id,(eD kind).n) (ec T).nodes).length:=by rw[<- HM.out,U.out,qM (by rw[<- U.out];omega),Nat.zero_add]
    subst hm
    obtain⟨W,n9⟩:=HO.out
    rw[HD.2,HZ.1] at W
    have hfl:=yO fo 6 (fun _=>rfl) (ec T).nodes k (id,(eD kind).n)
    rw[show[]++List.take (k*6) ((ec T).nodes.map fo).flatten++[.int .i64 id,.int .i64 kind,.int .i64 1,.int .i64 0,.int .u64 0,.bool (kind==2)]++List.drop (k*6) ((ec T).nodes.map fo).flatten=_ from hfl] at W
    obtain⟨ks,aG,hT⟩:=H.setN hi (HD.1.new n9) W
    go_wp2
    go_meet
    exact⟨ks,_,aG,hT⟩
  obtain⟨k1,c1,x1,T1⟩:=hcut
  have H1:=J3 k1 x1 T1
  clear k1 x1 T1 I H ak
  have H:=zh H1.2.2
  have aa:=F.2.2
  have aH:k<=T.length:=by rw[HK.out];exact oR
  have aI:(gZ k (id,(eD kind).n) (ec T).nodes).length<=1000000:=by
   have h1:=F.1.few
   rw[qM (by rw[fV.1];exact aH),fV.1]
   omega
  have aT:(gZ k [] (ec T).data).length<=1000000:=by
   have h1:=F.1.few
   rw[qM (by rw[fV.2.1];exact aH),fV.2.1]
   omega
  have ak:Hid (m8 (eM.mk (gZ k (id,(eD kind).n) (ec T).nodes) (ec T).data (ec T).e)):=zh ⟨aI,aa.data,aa.e⟩
  have aU:Hid (m8 (eM.mk (gZ k (id,(eD kind).n) (ec T).nodes) (gZ k [] (ec T).data) (ec T).e)):=zh ⟨aI,aT,aa.e⟩
  clear aI aH aT
  have I:k<=(eM.mk (gZ k (id,(eD kind).n) (ec T).nodes) (ec T).data (ec T).e).data.length:=by show k<=(ec T).data.length;rw[fV.2.1,HK.out];exact oR
  clear aa
  go_upto_region 20 with fail
  go_cut [] from 97 to 116 (fun X=>b_ (fun b=>b≠bt) wc X/\∃c2,Ext wc c1 c2/\ey X c2 i bt (eM.mk (gZ k (id,(eD kind).n) (ec T).nodes) (gZ k [] (ec T).data) (ec T).e))
  case first =>
   obtain⟨-,A,ca,B,cb,E,ce,h1,ab,aC,bg,hN,hB,hE⟩:=H.out
   have hn:=ak.data
   have al:=aC.1
   have bh:=aC.2
   obtain⟨vs,Y,bn,aV⟩:=hB
   have au:vs.length=(eM.mk (gZ k (id,(eD kind).n) (ec T).nodes) (ec T).data (ec T).e).data.length:=by have:=Y.1;omega
   have hz:=pR au aV
   have Z:=wZ au hz
   have r1:=(Y.cutTake (k:=k) I).drew
   have r2:=(Y.cutO (k:=k) I al).drew
   simp only[Nat.mul_one] at r1 r2
   obtain⟨n,ad⟩:=zx ((eM.mk (gZ k (id,(eD kind).n) (ec T).nodes) (ec T).data (ec T).e).data.length)
   rw[<- ad] at al hn r2 h1 I
   obtain⟨A0,ae⟩:=zx (B)
   rw[<- ae] at r1 r2
   have cx:∀V,New wc.drew V->V.cell? ⟨bt,1,none⟩=some (.slice A0 n cb):=fun V Y=>by rw[ae];exact Y.Qb (a_ (w:=wc.drew) h1 (k:=1) rfl) trivial
   have U:=zh ad
   have HH:=zh h1
   have J:=J3 r1 r2 Z
   have HZ:=J2 hz au
   have bi:k<=cb:=by omega
   have b2:(k:Int)<=(n:Int):=zo
   clear Y hN hE h1 r1 r2 Z ad ae hz au bn aV
   refine km 20 zk ?_
   have kd:New wc wc.drew:=(zN wc).drew
   have am:wc.drew.heap.size=wc.heap.size:=rfl
   have HD:=J2 kd am
   clear kd am
   generalize wc.drew=t at *
   have o:New t t:=zN _
   refine dO 0 o ?_
   refine dO 2 o ?_
   refine dO 3 o ?_
   refine dO 4 o ?_
   refine dO 5 o ?_
   refine dO 6 o ?_
   refine dO 7 o ?_
   refine dO 11 o ?_
   refine dO 12 o ?_
   refine dO 13 o ?_
   refine dO 14 o ?_
   refine dO 15 o ?_
   refine dO 16 o ?_
   refine pk 1 9 zk rfl rfl rfl rfl (fun K l=>?_) (fun K l=>?_)
   go_simp
   have z:=b_.new o ((zN t).alloc (.cells #[] 22))
   have L:=mS t o.size 22 (size:=1) Zd
   refine l _ _ z ?_
   clear l K
   try simp only[zy]
   generalize t.alloc (.cells #[] 22)=P at *
   refine pk 8 9 zk rfl rfl rfl rfl (fun K l=>?_) (fun K l=>?_)
   refine fb rfl underlying157 (fY jY) Zd rfl L rfl (Row.new J.1 z) (fun u C=>J.2.2 u (List.mem_of_mem_take C)) (by unfold maxLen;omega) zo z ?_
   intro A8 c8 w7 o7 M k7
   refine l _ _ M ?_
   clear l K
   try simp only[zy]
   rw[Nat.zero_add k] at o7
   try rw[Nat.zero_add k]
   refine fH 9 zk rfl rfl (fun K l=>?_)
   go_simp
   have R:=b_.new M ((zN w7).alloc (.cells #[.slice none 0 0] 22))
   have e8:=jI w7 [.slice none 0 0] 22 1 1 rfl
   have S:=(zN w7).alloc (.cells #[.slice none 0 0] 22)
   have o8:=Own.Qh o7 S
   refine l _ _ R ?_
   clear l K
   try simp only[zy]
   generalize w7.alloc (.cells #[.slice none 0 0] 22)=w8 at *
   generalize w7.heap.size=gx at *
   clear L z o7 M k7 S
   rotate_left
   go_simp
   have M:=b_.new z ((zN P).alloc (.cells #[.slice none 0 0] 22))
   have e7:=jI P [.slice none 0 0] 22 1 1 rfl
   have S:=(zN P).alloc (.cells #[.slice none 0 0] 22)
   have o7:=Own.Qh L S
   refine l _ _ M ?_
   clear l K
   try simp only[zy]
   generalize P.alloc (.cells #[.slice none 0 0] 22)=w7 at *
   have N:P.heap.size≠t.heap.size:=by have:=(eW L t.heap.size rfl).2;omega
   generalize P.heap.size=gx at *
   refine fH 8 zk rfl rfl (fun K l=>?_)
   refine fb rfl underlying157 (fY jY) Zd rfl o7 rfl (Row.new J.1 M) (fun u C=>J.2.2 u (List.mem_of_mem_take C)) (by unfold maxLen;omega) zo M ?_
   intro A8 c8 w8 o8 R k8
   have e8:=Row.keep e7 k8 (fun b _ hd e=>N (hd.symm.trans (Option.some.inj e)))
   refine l _ _ R ?_
   clear l K
   try simp only[zy]
   rw[Nat.zero_add k] at o8
   try rw[Nat.zero_add k]
   clear L z o7 M k8 e7 S N
   rotate_left
   go_simp
   have n6:=b_.new o ((zN t).alloc (.cells #[.slice none 0 0] 22))
   have e6:=jI t [.slice none 0 0] 22 1 1 rfl
   have S:=(zN t).alloc (.cells #[.slice none 0 0] 22)
   refine l _ _ n6 ?_
   clear l K
   try simp only[zy]
   have an:(t.alloc (.cells #[.slice none 0 0] 22)).heap.size=t.heap.size+1:=by simp
   generalize t.alloc (.cells #[.slice none 0 0] 22)=w6 at *
   have aE:=zh an
   clear an
   have N:t.heap.size≠w6.heap.size:=by have:=aE.out;omega
   refine fH 1 zk rfl rfl (fun K l=>?_)
   go_simp
   have z:=b_.new n6 ((zN w6).alloc (.cells #[] 22))
   have L:=mS w6 n6.size 22 (size:=1) Zd
   refine l _ _ z ?_
   clear l K
   try simp only[zy]
   have e7:=Row.new e6 ((zN w6).alloc (.cells #[] 22))
   generalize w6.alloc (.cells #[] 22)=P at *
   refine fH 8 zk rfl rfl (fun K l=>?_)
   refine fb rfl underlying157 (fY jY) Zd rfl L rfl (Row.new J.1 z) (fun u C=>J.2.2 u (List.mem_of_mem_take C)) (by unfold maxLen;omega) zo z ?_
   intro A8 c8 w8 o8 R k8
   have e8:=Row.keep e7 k8 (fun b _ hd e=>N (hd.symm.trans (Option.some.inj e)))
   refine l _ _ R ?_
   clear l K
   try simp only[zy]
   rw[Nat.zero_add k] at o8
   try rw[Nat.zero_add k]
   clear L z k8 e7 e6 n6 N S
   all_goals
    refine fH 10 zk rfl rfl (fun K l=>?_)
    refine fb rfl underlying157 (fY jY) Zd rfl o8 rfl e8 (fun u C=>by simp at C;subst C;rfl) (by unfold maxLen;omega) zo R ?_
    intro A9 c9 w9 W n9 k9
    refine l _ _ n9 ?_
    clear l K
    try simp only[zy]
    refine fH 17 zk rfl rfl (fun K l=>?_)
    refine fb rfl underlying157 (fY jY) Zd rfl W rfl (Row.new J.2.1 n9) (fun u C=>J.2.2 u (List.mem_of_mem_drop C)) (by unfold maxLen;omega) zo n9 ?_
    intro bj bl bm ao G aF
    refine l _ _ G ?_
    clear l K
    try simp only[zy]
    refine dO 18 G ?_
    refine dO 19 G ?_
    have x9:=G.Qa (HD.1.Qa HH.out zt) trivial
    have zz:=dP x9 1
    have dd:=a_ x9 (k:=1) rfl
    have HO:=J2 ao G
    clear o8 W ao R n9 G k9 aF e8 x9 o cx
    generalize (if cb=k then A0 else Option.map (fun x=>x.add k) A0)=A2 at *
    generalize hm:k+1+(n-k)=m at *
    have HM:=zh hm
    clear hm
    refine lM zk Zd rfl rfl zk ?_
    go_simp
    have hm:m=(gZ k [] (eM.mk (gZ k (id,(eD kind).n) (ec T).nodes) (ec T).data (ec T).e).data).length:=by rw[<- HM.out,U.out,qM (by rw[<- U.out];omega),Nat.zero_add]
    subst hm
    obtain⟨W,n9⟩:=HO.out
    rw[HD.2] at W
    have hfl:[]++vs.take k++[.slice none 0 0]++vs.drop k=gZ k (.slice none 0 0) vs:=by unfold gZ;simp
    rw[hfl] at W
    obtain⟨ks,aG,hT⟩:=H.setD hi (HD.1.new n9) W (fun p hp=>by
     rw[Gz _ _ _ _ _ HZ.2] at hp
     rcases G7 hp with rfl|hp
     ·exact⟨none,0,rfl,zr,Row.nil _ _ _ _⟩
     exact HZ.1 p hp)
    go_wp2
    go_meet
    exact⟨ks,_,aG,hT⟩
  obtain⟨k2,c2,x2,T2⟩:=hcut
  have aW:=zh<|E9 T2 hi aU.out d id nm
  have H2:=J2 k2 x2
  clear k2 x2 T2 H ak I aU
  go_wp2_with fail
  refine aW.mono ?_
  rintro e w5⟨rfl,k5,c5,x5,T5⟩
  have H5:=J3 k5 x5 T5
  clear k5 x5 T5 aW
  go_wp2
  refine Zb (.tuple #[.int .i64 id,.int .i64 0]) (by simp[results,results171,go_sem]) ?_
  rw[O.out,<- aQ.2.1]
  have hm:=Fq (kind:=kind) F.1 aQ.1 HG.1 a6.out
  rw[<- HK.out] at hm
  have o:b_ (fun b=>b≠bt) w Q:=b_.Qe U.out
  have z1:=H1.1.size
  have z2:=H2.1.size
  have z0:=o.size
  refine⟨rfl,((o.trans H1.1).trans H2.1).trans H5.1,c5,fun b hb=>?_,?_⟩
  ·exact(H5.2.1 b zo).trans ((H2.2 b zo).trans (H1.2.1 b zo))
  show ey w5 c5 i bt (ec (setNames (eN id (eD kind) T) d (eN nm id it.names)))
  rw[hm];exact H5.2.2
end
theorem yQ:(prog.info? 51).map (fun i=>(i.zero.map fun z=>z.cells.size,i.size,i.bytes))=some (some 1,1,24):=zk
def j'(w:World)(base:Nat)(A:Option Addr)(n c:Nat)(ps:List eZ):Prop :=
 ∃vs:List Value,Own w base 51 1 A n c vs/\ps.length=n/\∀j (h:j<ps.length),∃A' c',vs[j]?=some (.slice A' ps[j].length c')/\ps[j].length<=c'/\c'<=9223372036854775807/\Ps w (fun b=>base<=b/\some b≠blk A) A' ps[j].length ps[j]
theorem j'.nil(w:World)(base:Nat):j' w base none 0 0 []:=⟨[],Own.nil _ _ _ _,rfl,fun k hk=>absurd hk (by simp)⟩
theorem j'.new{w w':World}{base:Nat}{A:Option Addr}{n c:Nat}{ps:List eZ}(h:j' w base A n c ps)(hk:New w w'):j' w' base A n c ps:=by
 obtain⟨a,h1,h2,h3⟩:=h
 refine⟨a,eP h1 hk (fun _ _=>zt),h2,fun j hj=>?_⟩
 obtain⟨b,d,e,hc,hm,hb⟩:=h3 j hj
 exact⟨b,d,e,hc,hm,Row.new hb hk⟩
theorem j'.Qx{w:World}{base base':Nat}{A:Option Addr}{n c:Nat}{ps:List eZ}(h:j' w base' A n c ps)(hb:base<=base'):j' w base A n c ps:=by
 obtain⟨a,h1,h2,h3⟩:=h
 refine⟨a,eQ h1 hb,h2,fun j hj=>?_⟩
 obtain⟨d,f,e,hc,hm,g⟩:=h3 j hj
 exact⟨d,f,e,hc,hm,Row.imp g fun b _ hd=>⟨Nat.le_trans hb hd.1,hd.2⟩⟩
theorem Hm{o:Oper}{a:Act}(hgd:o.guard=none){s x:Operand}(ho:o.op=.call { callee:=.builtin .append,args:=#[s,x],argTypes:=#[111,111] }){A:Option Addr}{c:Nat}{ps:List eZ}(hs:a.eval s=.slice A n c)(hown:j' w base A n c ps){c2:Nat}{c1:Nat}{p:eZ}(hx:a.eval x=.slice A2 1 c2)(hr:Row w D A2 1 1 [.slice A1 m c1])(hm:p.length=m)(hmc:m<=c1)(hcm:c1<=9223372036854775807)(hp:Ps w (fun b=>base<=b/\some b≠blk A) A1 m p)(hn:n<=1000)(hbase:base<=w.heap.size)(h:∀A' c' w',j' w' base A' (n+1) c' (ps++[p])->w.grownBy w' (blk A)->wpList prog ops Q rest (a.put o.dst (.slice A' (n+1) c')) w'):wpList prog ops Q (o::rest) a w:=by
 obtain⟨f,h1,h2,h3⟩:=hown
 obtain⟨i,z,r,t,v,y,B⟩:=fY yQ
 refine gW w hgd s x 111 ho base 51 i z 1 24 underlying111 r t v y B Zd A n c f hs h1 D A2 1 c2 _ hx hr (fun u g=>by rw[List.mem_singleton] at g;subst g;rfl) (by unfold maxLen;omega) zo hbase ?_
 intro A' c' w' C hg k
 have F:b_ (fun b=>some b≠blk A) w w':=⟨hg.os,hg.tape,hg.output,hg.size,fun j hj l=>hg.block j hj l⟩
 have q:f.length=n:=by have:=h1.1;omega
 have d:∀ {A1:Option Addr} {m:Nat} {p:eZ},Ps w (fun b=>base<=b/\some b≠blk A) A1 m p->Ps w' (fun b=>base<=b/\some b≠blk A') A1 m p:=fun {A1 m p} hh=>by
  have G:=Row.imp (E:=fun b=>base<=b/\some b≠blk A/\b<w.heap.size) hh fun b hb hd=>⟨hd.1,hd.2,hb⟩
  refine(Row.keep G F fun b _ hd=>hd.2.1).imp fun b _ hd=>⟨hd.1,fun e=>?_⟩
  rcases k with e2|e2
  ·exact hd.2.1 (e.trans e2)
  rw[e2] at e;injection e with e;have:=hd.2.2;omega
 refine h A' c' w' ⟨f++[.slice A1 m c1],C,by rw[zL,h2];rfl,fun j hj=>?_⟩ hg
 rw[zL,List.length_singleton] at hj
 by_cases e:j<ps.length
 ·obtain⟨H,I,g1,J,g3,g4⟩:=h3 j e
  simp only[List.getElem_append_left e]
  exact⟨H,I,by rw[List.getElem?_append_left zo];exact g1,J,g3,d g4⟩
 have e2:j=ps.length:=by omega
 subst e2
 simp only[List.getElem_append_right zr,Nat.sub_self,List.getElem_cons_zero]
 exact⟨A1,c1,by rw[h2,<- q,List.getElem?_append_right zr,Nat.sub_self,hm];rfl,by rw[hm];exact hmc,hcm,by rw[hm];exact d hp⟩
def jK(o:OpP):Option eZ :=
 if o.kind=7\/o.kind=10 then some [o.path,o.goal]
 else if o.kind=1\/o.kind=2\/o.kind=3\/o.kind=8\/o.kind=9\/o.kind=11\/o.kind=12\/o.kind=13 then some [o.path]
 else if o.kind=4\/o.kind=5\/o.kind=6\/o.kind=14\/o.kind=15\/o.kind=16\/o.kind=17 then some []
 else none
def jB:eZ->Int
 | []=>0
 | s::r=>if (eH s).2≠0 then(eH s).2 else jB r
def Gt(w:World)(L:eZ)(e:Ending)(w':World):Prop :=
 New w w'/\((jB L≠0/\e=.returned (.tuple #[.slice none 0 0,.int .i64 (jB L)]))\/(jB L=0/\∃A c,e=.returned (.tuple #[.slice A L.length c,.int .i64 0])/\j' w' w.heap.size A L.length c (L.map fun s=>(eH s).1)))
section
variable {w w':World}{b:Nat}
theorem nI(o:OpP)(E:Option Addr)(cd:Nat)(hk:jK o=some L)(hL:∀s∈L,s.length<=100000)(hm:fD w):
  Calls prog 46 #[.pointer (some ⟨b,0,none⟩),fB o E cd] w (Gt w L):=by
 have q:=(zN w).alloc (.cells (dY o E cd) 29)
 have J:=heap_alloc_new w (.cells (dY o E cd) 29)
 unfold fB
 unfold dY at *
 obtain⟨h,u⟩:=zx (w.alloc (.cells #[.int .i64 o.kind,.string (dR o.path),.string (dR o.goal),.int .i64 o.fd,.int .i64 o.at_,.int .i64 o.n,.int .u64 o.till,.int .i64 o.snap,.slice E o.data.length cd] 29))
 rw[<- u] at q J
 obtain⟨go,x⟩:=zx (w.heap.size)
 rw[<- x] at J
 obtain⟨X,o1,o2⟩:=cs3 J
 have y:=J4 q hk hL hm
 obtain⟨z,hz⟩:=zx (o.kind)
 have f:=zh hz
 have Y:h.cell? ⟨go,0,none⟩=some (.int .i64 z):=by rw[hz];exact X
 clear q J hk hL hm hz X
 go_in
 go_upto_region 2 with fail
 rw[<- u,<- x]
 clear u x
 go_upto_block 0 with fail
 go_cut [4,5,6] from 14 to 41 (fun T U s6 B=>T=.slice none 0 0/\U=.int .i64 0/\∃A c,s6=.slice A L.length c/\Ps B (fun _=>True) A L.length L/\New h B)
 case first =>
  have hk:=y.2.1
  unfold jK at hk
  by_cases h1:o.kind=7\/o.kind=10
  ·rw[if_pos h1] at hk
   injection hk with hk
   rw[<- f.out] at h1
   have C:=zh hk
   clear hk
   rcases h1 with rfl|rfl
   all_goals
    clear f
    go_wp2
    go_meet
    have hk:=C.out
    subst hk
    exact⟨rfl,rfl,_,_,rfl,(wI h [o.path,o.goal] 9).imp fun _ _ _=>zt,(zN h).alloc _⟩
  rw[if_neg h1] at hk
  by_cases h2:o.kind=1\/o.kind=2\/o.kind=3\/o.kind=8\/o.kind=9\/o.kind=11\/o.kind=12\/o.kind=13
  ·rw[if_pos h2] at hk
   injection hk with hk
   rw[<- f.out] at h2
   have C:=zh hk
   clear hk h1
   rcases h2 with rfl|rfl|rfl|rfl|rfl|rfl|rfl|rfl
   all_goals
    clear f
    go_wp2
    go_meet
    have hk:=C.out
    subst hk
    exact⟨rfl,rfl,_,_,rfl,(wI h [o.path] 9).imp fun _ _ _=>zt,(zN h).alloc _⟩
  rw[if_neg h2] at hk
  by_cases h3:o.kind=4\/o.kind=5\/o.kind=6\/o.kind=14\/o.kind=15\/o.kind=16\/o.kind=17
  ·rw[if_pos h3] at hk
   injection hk with hk
   rw[<- f.out] at h3
   have C:=zh hk
   clear hk h1 h2
   rcases h3 with rfl|rfl|rfl|rfl|rfl|rfl|rfl
   all_goals
    clear f
    go_wp2
    go_meet
    have hk:=C.out
    subst hk
    exact⟨rfl,rfl,none,0,rfl,Row.nil _ _ _ _,zN h⟩
  rw[if_neg h3] at hk;cases hk
 obtain⟨rfl,rfl,A,cA,rfl,N,Z⟩:=hcut
 have r:=J2 N (y.1.new Z)
 obtain⟨n,hn⟩:=zx (L.length)
 rw[<- hn] at r ⊢
 have D:=zh hn
 have ae:n<=2:=by
  have hk:=y.2.1
  unfold jK at hk
  rw[hn]
  split at hk
  ·injection hk with hk;rw[<- hk];simp
  split at hk
  ·injection hk with hk;rw[<- hk];simp
  split at hk
  ·injection hk with hk;rw[<- hk];simp
  cases hk
 clear N Z hn Y o1 o2 f
 go_wp2_with fail
 go_loopw [4,5,7,44] (fun T U s7 i B=>∃(k:Nat) (t:Option Addr) (F:Nat),T=.slice none 0 0/\U=.int .i64 0/\k<=n/\i=.int .i64 (k:Int)/\s7=.slice t k F/\j' B wc.heap.size t k F ((L.take k).map fun s=>(eH s).1)/\jB L=jB (L.drop k)/\New wc B) (fun _ _ _ i _=>n-(intOf i).toNat)
 case atStart=>exact⟨0,none,0,rfl,rfl,Nat.zero_le _,rfl,rfl,j'.nil _ _,rfl,zN wc⟩
 obtain⟨k,t,F,rfl,rfl,hk,rfl,rfl,a,l,K⟩:=hrel
 have d:=J3 a l K
 clear a l K
 by_cases hlt:k<n
 ·have m:k<L.length:=by have:=D.out;omega
  obtain⟨b1,off,rfl,u0⟩:=Ps.at_ (Row.new r.1 d.2.2) m
  have O:=zh<|AL L[k] (y.2.2.1 _ (List.getElem_mem m)) wr (y.2.2.2.new (r.2.new d.2.2))
  have V:Hid (L.drop k=L[k]::L.drop (k+1)/\L.take (k+1)=L.take k++[L[k]]/\(L.take k).length=k):=zh ⟨List.drop_eq_getElem_cons m,by rw[List.take_add_one,List.getElem?_eq_getElem m];rfl,by rw[List.length_take];omega⟩
  generalize L[k]=s at *
  go_wp2_with fail
  refine O.mono ?_
  rintro e G⟨⟨A1,H,c1,rfl,P,Q,R⟩,q⟩
  have g:=J4 P q Q R
  have W:Hid (eH s=((eH s).1,(eH s).2)):=zh rfl
  generalize (eH s).1=p1 at *
  generalize (eH s).2=M at *
  clear O P q Q R
  by_cases hz:M=0
  ·subst hz
   go_upto_region 30 with fail
   have k3:=(zN G).alloc (.cells (#[Value.slice A1 H c1]) 51)
   have x3:=jI G [.slice A1 H c1] 51 1 1 rfl
   have I:=J2 k3 x3
   clear k3 x3
   have af:wc.heap.size<=wr.heap.size:=d.2.2.size
   have ad:wr.heap.size<=G.heap.size:=g.2.1.size
   have hB:wc.heap.size<=(G.alloc (.cells #[Value.slice A1 H c1] 51)).heap.size:=by have:=I.1.size;omega
   have aa:k<=1000:=by omega
   have ab:Ps (G.alloc (.cells #[Value.slice A1 H c1] 51)) (fun b=>wc.heap.size<=b/\some b≠blk t) A1 H p1:=(Row.new g.1 I.1).imp fun b _ hb=>⟨zo,fun e=>by
    obtain⟨vs,h1,-⟩:=d.1
    have:=(eW h1 b e.symm).2;omega⟩
   go_wp2_with (at_builtin;refine Hm rfl rfl rfl (j'.new d.1 (g.2.1.new I.1)) rfl I.2 (Ps.len g.1) g.2.2.1 g.2.2.2 ab aa hB ?_;intro A9 c9 w9 p S;have HX:=J2 p S;clear p S)
   go_roundw
   case rel =>
    have ac:New wc w9:=((d.2.2.new g.2.1).new I.1).grown HX.2 fun j hj _=>by
     obtain⟨vs,h1,-⟩:=d.1
     exact(eW h1 j hj).1
    refine⟨k+1,A9,c9,rfl,rfl,zo,by go_num,rfl,?_,?_,ac⟩
    ·have h9:=HX.1
     rw[V.2.1,List.map_append,List.map_singleton,W.out]
     exact h9
    rw[d.2.1,V.1]
    conv=>lhs;unfold jB
    rw[W.out];rfl
   simp[intOf];omega
  have ag:(M !=0)=true:=by simpa using hz
  have f:=zh hz
  clear hz
  go_wp2
  refine Zb (.tuple #[.slice none 0 0,.int .i64 M]) (by simp[results,results46,go_sem]) ?_
  have e1:jB L=M:=by
   rw[d.2.1,V.1]
   unfold jB
   rw[W.out,if_pos f.out]
  exact⟨(r.2.new d.2.2).new g.2.1,.inl ⟨by rw[e1];exact f.out,by rw[e1]⟩⟩
 obtain rfl:k=n:=by omega
 go_wp2
 refine Zb (.tuple #[.slice t k F,.int .i64 0]) (by simp[results,results46,go_sem]) ?_
 obtain⟨a,l,K⟩:=d.out
 have e0:jB L=0:=by rw[l,List.drop_eq_nil_of_le (by have:=D.out;omega)];rfl
 rw[List.take_of_length_le (by have:=D.out;omega)] at a
 refine⟨r.2.new K,.inr ⟨e0,t,F,by rw[<- D.out],by rw[<- D.out];exact a.Qx r.2.size⟩⟩
end
structure ji where
 path:Bool
 goal:Bool
 fd:Bool
 part:Bool
 till:Bool
 snap:Bool
 data:Bool
def vZ:ji:=⟨false,false,false,false,false,false,false⟩
def iR(k:Int):Option ji :=
 if k=1\/k=2\/k=8\/k=9 then some ⟨true,false,false,false,false,false,false⟩
 else if k=3\/k=11\/k=12 then some ⟨true,false,false,false,false,true,false⟩
 else if k=4 then some ⟨false,false,true,true,false,false,false⟩
 else if k=5 then some ⟨false,false,true,false,false,false,true⟩
 else if k=6 then some ⟨false,false,true,false,true,false,false⟩
 else if k=7\/k=10 then some ⟨true,true,false,false,false,false,false⟩
 else if k=13 then some ⟨true,false,false,false,true,false,false⟩
 else if k=16 then some ⟨false,false,false,false,true,false,false⟩
 else if k=15 then some ⟨false,false,false,false,false,true,false⟩
 else if k=14\/k=17 then some vZ
 else none
def oe(a:ji):Value:=.agg #[.bool a.path,.bool a.goal,.bool a.fd,.bool a.part,.bool a.till,.bool a.snap,.bool a.data]
def jF(n:Int):Bool:=decide (0<=n)&&decide (n<=65535)
def hU(o:OpP)(a:ji):Bool:=(a.path&&decide (200<o.path.length))||(a.goal&&decide (200<o.goal.length))||(a.data&&decide (600<o.data.length))
def iQ(o:OpP)(a:ji):Bool:=(a.fd && !jF o.fd)||(a.part&&(!jF o.at_ || !jF o.n))||(a.snap && !jF o.snap)
def eS(o:OpP)(a:ji):Int:=if hU o a then 3 else if iQ o a then 1 else 0
theorem vY{k:Int}(h1:k≠1)(h2:k≠2)(h3:k≠3)(h4:k≠4)(h5:k≠5)(h6:k≠6)(h7:k≠7)(h8:k≠8)(h9:k≠9)(h10:k≠10)(h11:k≠11)(h12:k≠12)(h13:k≠13)(h14:k≠14)(h15:k≠15)(h16:k≠16)(h17:k≠17):iR k=none:=by
 unfold iR
 simp only[h1,h2,h3,h4,h5,h6,h7,h8,h9,h10,h11,h12,h13,h14,h15,h16,h17,or_self,if_false]
theorem Cm(k:Int):k=1\/k=2\/k=3\/k=4\/k=5\/k=6\/k=7\/k=8\/k=9\/k=10\/k=11\/k=12\/k=13\/k=14\/k=15\/k=16\/k=17\/(k≠1/\k≠2/\k≠3/\k≠4/\k≠5/\k≠6/\k≠7/\k≠8/\k≠9/\k≠10/\k≠11/\k≠12/\k≠13/\k≠14/\k≠15/\k≠16/\k≠17):=zo
section
variable {w w':World}
theorem zK(k:Int)(w:World):Calls prog 95 #[.int .i64 k] w fun e w'=>e=.returned (.tuple #[oe ((iR k).getD vZ),.bool (iR k).isSome])/\New w w':=by
 obtain⟨v,a⟩:=zx (Value.tuple #[oe ((iR k).getD vZ),.bool (iR k).isSome])
 rw[<- a]
 have HV:=zh a
 clear a
 rcases Cm k with rfl|rfl|rfl|rfl|rfl|rfl|rfl|rfl|rfl|rfl|rfl|rfl|rfl|rfl|rfl|rfl|rfl|⟨h1,h2,h3,l,h5,h6,h7,m,n,b,c,d,f,g,h,i,j⟩
 case inr.inr.inr.inr.inr.inr.inr.inr.inr.inr.inr.inr.inr.inr.inr.inr.inr =>
  rw[vY h1 h2 h3 l h5 h6 h7 m n b c d f g h i j] at HV
  go_in
  go_wp2
  refine Zb (v) (by rw[HV.out];simp[results,results95,go_sem,oe,vZ]) ?_
  exact⟨rfl,(zN w).alloc _⟩
 all_goals
  go_in
  go_wp2
  refine Zb (v) (by rw[HV.out];simp[results,results95,go_sem,oe,iR,vZ]) ?_
  exact⟨rfl,(zN w).alloc _⟩
theorem Df(n:Int)(w:World):Calls prog 195 #[.int .i64 n] w fun e w'=>e=.returned (.bool (jF n))/\w=w':=by
 obtain⟨v,a⟩:=zx (jF n)
 rw[<- a]
 by_cases h0:0<=n
 ·have HV:Hid (v=decide (n<=65535)):=zh (by rw[a];unfold jF;rw[decide_eq_true h0,Bool.true_and])
  clear a
  go_in
  go_wp2
  go_ret
  exact⟨by rw[HV.out];rfl,rfl⟩
 have HV:Hid (v=false):=zh (by rw[a];unfold jF;rw[decide_eq_false h0,Bool.false_and])
 clear a
 go_in
 go_wp2
 go_ret
 exact⟨by rw[HV.out];rfl,rfl⟩
end
section
variable {w w':World}
theorem pA(l:List UInt8):(dR l).size=l.length:=List.size_toArray
theorem CS(o:OpP)(E:Option Addr)(cd:Nat)(a:ji)(w:World)(t1 t2:TypeId):∃w2,w2=(w.alloc (.cells (dY o E cd) t1)).alloc (.cells #[.bool a.path,.bool a.goal,.bool a.fd,.bool a.part,.bool a.till,.bool a.snap,.bool a.data] t2)/\New w w2 /\
  w2.heap[w.heap.size]?=some (.cells (dY o E cd) t1 (0,0))/\w2.heap[w.heap.size+1]?=some (.cells #[.bool a.path,.bool a.goal,.bool a.fd,.bool a.part,.bool a.till,.bool a.snap,.bool a.data] t2 (0,0)):=by
 refine⟨_,rfl,((zN w).alloc _).alloc _,?_,?_⟩
 ·exact((zN _).alloc _).Qa (heap_alloc_new w _) trivial
 have h:=heap_alloc_new (w.alloc (.cells (dY o E cd) t1)) (.cells #[.bool a.path,.bool a.goal,.bool a.fd,.bool a.part,.bool a.till,.bool a.snap,.bool a.data] t2)
 rwa[show(w.alloc (.cells (dY o E cd) t1)).heap.size=w.heap.size+1 by simp] at h
theorem fq(h:w.heap[g]?=some (.cells (dY o E cd) t (0,0))):
  w.cell? ⟨g,0,none⟩=some (.int .i64 o.kind)/\w.cell? ⟨g,1,none⟩=some (.string (dR o.path))/\w.cell? ⟨g,2,none⟩=some (.string (dR o.goal))/\w.cell? ⟨g,3,none⟩=some (.int .i64 o.fd)/\w.cell? ⟨g,4,none⟩=some (.int .i64 o.at_) /\
  w.cell? ⟨g,5,none⟩=some (.int .i64 o.n)/\w.cell? ⟨g,6,none⟩=some (.int .u64 o.till)/\w.cell? ⟨g,7,none⟩=some (.int .i64 o.snap)/\w.cell? ⟨g,8,none⟩=some (.slice E o.data.length cd) :=
 ⟨a_ h rfl,a_ h rfl,a_ h rfl,a_ h rfl,a_ h rfl,a_ h rfl,a_ h rfl,a_ h rfl,a_ h rfl⟩
theorem jS{a:ji}(h:w.heap[g]?=some (.cells #[.bool a.path,.bool a.goal,.bool a.fd,.bool a.part,.bool a.till,.bool a.snap,.bool a.data] t (0,0))):
  w.cell? ⟨g,0,none⟩=some (.bool a.path)/\w.cell? ⟨g,1,none⟩=some (.bool a.goal)/\w.cell? ⟨g,2,none⟩=some (.bool a.fd)/\w.cell? ⟨g,3,none⟩=some (.bool a.part)/\w.cell? ⟨g,4,none⟩=some (.bool a.till)/\w.cell? ⟨g,5,none⟩=some (.bool a.snap)/\w.cell? ⟨g,6,none⟩=some (.bool a.data) :=
 ⟨a_ h rfl,a_ h rfl,a_ h rfl,a_ h rfl,a_ h rfl,a_ h rfl,a_ h rfl⟩
theorem Gk{k:Int}{a:ji}(h:iR k=some a):a=⟨true,false,false,false,false,false,false⟩\/a=⟨true,false,false,false,false,true,false⟩\/a=⟨false,false,true,true,false,false,false⟩\/a=⟨false,false,true,false,false,false,true⟩\/a=⟨false,false,true,false,true,false,false⟩\/a=⟨true,true,false,false,false,false,false⟩\/a=⟨true,false,false,false,true,false,false⟩\/a=⟨false,false,false,false,true,false,false⟩\/a=⟨false,false,false,false,false,true,false⟩\/a=⟨false,false,false,false,false,false,false⟩:=by
 unfold iR at h
 iterate 10
  split at h
  injection h with h;subst h;simp[vZ]
 cases h
theorem tK(o:OpP)(E:Option Addr)(cd:Nat){k:Int}{a:ji}(hk:iR k=some a)(w:World)(hp:o.path.length<=1099511627776)(hg:o.goal.length<=1099511627776)(hd:o.data.length<=1099511627776):
  Calls prog 96 #[fB o E cd,oe a] w fun e w'=>e=.returned (.int .i64 (eS o a))/\New w w':=by
 obtain⟨A,r,u,x,y⟩:=CS o E cd a w 29 150
 obtain⟨v,t⟩:=zx (eS o a)
 rw[<- t]
 unfold fB oe
 unfold dY at r ⊢
 obtain⟨-,B,C,D,F,G,-,H,I⟩:=fq x
 obtain⟨a0,J,K,a3,-,a5,L⟩:=jS y
 have HV:=zh t
 have f:=zh r
 have i:=fun(n:Int) (W:World)=>zh (Df n W)
 have g:=zh u
 have z:=Gk hk
 clear u x y t r hk
 generalize s:w.heap.size=g1 at *
 have h:=zh s
 clear s
 rcases z with rfl|rfl|rfl|rfl|rfl|rfl|rfl|rfl|rfl|rfl
 case _ =>
  by_cases c:200<o.path.length
  ·have d:(200:Int)<((dR o.path).size:Int):=by rw[pA];omega
   have b:Hid (v=3):=zh (by rw[HV.out];simp[eS,hU,c])
   clear HV
   go_in
   go_upto_region 1 with fail
   rw[h.out,<- f.out]
   go_wp2
   go_ret
   exact⟨by rw[b.out];rfl,g.out⟩
  have d:¬(200:Int)<((dR o.path).size:Int):=by rw[pA];omega
  have b:Hid (v=0):=zh (by rw[HV.out];simp[eS,hU,iQ,c])
  clear HV
  go_in
  go_upto_region 1 with fail
  rw[h.out,<- f.out]
  go_wp2
  go_ret
  exact⟨by rw[b.out];rfl,g.out⟩
 case _ =>
  by_cases c:200<o.path.length
  ·have d:(200:Int)<((dR o.path).size:Int):=by rw[pA];omega
   have b:Hid (v=3):=zh (by rw[HV.out];simp[eS,hU,c])
   clear HV
   go_in
   go_upto_region 1 with fail
   rw[h.out,<- f.out]
   go_wp2
   go_ret
   exact⟨by rw[b.out];rfl,g.out⟩
  have d:¬(200:Int)<((dR o.path).size:Int):=by rw[pA];omega
  cases s_snap:jF o.snap
  ·skip
   have b:Hid (v=1):=zh (by rw[HV.out];simp[eS,hU,iQ,c,s_snap])
   clear HV
   go_in
   go_upto_region 1 with fail
   rw[h.out,<- f.out]
   go_wp2_with fail
   refine(i o.snap _).mono ?_
   rintro e j⟨rfl,rfl⟩
   go_wp2
   go_ret
   exact⟨by rw[b.out];rfl,g.out⟩
  skip
  have b:Hid (v=0):=zh (by rw[HV.out];simp[eS,hU,iQ,c,s_snap])
  clear HV
  go_in
  go_upto_region 1 with fail
  rw[h.out,<- f.out]
  go_wp2_with fail
  refine(i o.snap _).mono ?_
  rintro e j⟨rfl,rfl⟩
  go_wp2
  go_ret
  exact⟨by rw[b.out];rfl,g.out⟩
 case _ =>
  cases s_fd:jF o.fd
  ·skip
   have b:Hid (v=1):=zh (by rw[HV.out];simp[eS,hU,iQ,s_fd])
   clear HV
   go_in
   go_upto_region 1 with fail
   rw[h.out,<- f.out]
   go_wp2_with fail
   refine(i o.fd _).mono ?_
   rintro e j⟨rfl,rfl⟩
   go_wp2
   go_ret
   exact⟨by rw[b.out];rfl,g.out⟩
  skip
  cases s_at_:jF o.at_
  ·skip
   have b:Hid (v=1):=zh (by rw[HV.out];simp[eS,hU,iQ,s_fd,s_at_])
   clear HV
   go_in
   go_upto_region 1 with fail
   rw[h.out,<- f.out]
   go_wp2_with fail
   refine(i o.fd _).mono ?_
   rintro e j⟨rfl,rfl⟩
   go_wp2_with fail
   refine(i o.at_ _).mono ?_
   rintro e j⟨rfl,rfl⟩
   go_wp2
   go_ret
   exact⟨by rw[b.out];rfl,g.out⟩
  skip
  cases s_n:jF o.n
  ·skip
   have b:Hid (v=1):=zh (by rw[HV.out];simp[eS,hU,iQ,s_fd,s_at_,s_n])
   clear HV
   go_in
   go_upto_region 1 with fail
   rw[h.out,<- f.out]
   go_wp2_with fail
   refine(i o.fd _).mono ?_
   rintro e j⟨rfl,rfl⟩
   go_wp2_with fail
   refine(i o.at_ _).mono ?_
   rintro e j⟨rfl,rfl⟩
   go_wp2_with fail
   refine(i o.n _).mono ?_
   rintro e j⟨rfl,rfl⟩
   go_wp2
   go_ret
   exact⟨by rw[b.out];rfl,g.out⟩
  skip
  have b:Hid (v=0):=zh (by rw[HV.out];simp[eS,hU,iQ,s_fd,s_at_,s_n])
  clear HV
  go_in
  go_upto_region 1 with fail
  rw[h.out,<- f.out]
  go_wp2_with fail
  refine(i o.fd _).mono ?_
  rintro e j⟨rfl,rfl⟩
  go_wp2_with fail
  refine(i o.at_ _).mono ?_
  rintro e j⟨rfl,rfl⟩
  go_wp2_with fail
  refine(i o.n _).mono ?_
  rintro e j⟨rfl,rfl⟩
  go_wp2
  go_ret
  exact⟨by rw[b.out];rfl,g.out⟩
 case _ =>
  by_cases l:600<o.data.length
  ·have p:(600:Int)<(o.data.length:Int):=zo
   have b:Hid (v=3):=zh (by rw[HV.out];simp[eS,hU,l])
   clear HV
   go_in
   go_upto_region 1 with fail
   rw[h.out,<- f.out]
   go_wp2
   go_ret
   exact⟨by rw[b.out];rfl,g.out⟩
  have p:¬(600:Int)<(o.data.length:Int):=zo
  cases s_fd:jF o.fd
  ·skip
   have b:Hid (v=1):=zh (by rw[HV.out];simp[eS,hU,iQ,l,s_fd])
   clear HV
   go_in
   go_upto_region 1 with fail
   rw[h.out,<- f.out]
   go_wp2_with fail
   refine(i o.fd _).mono ?_
   rintro e j⟨rfl,rfl⟩
   go_wp2
   go_ret
   exact⟨by rw[b.out];rfl,g.out⟩
  skip
  have b:Hid (v=0):=zh (by rw[HV.out];simp[eS,hU,iQ,l,s_fd])
  clear HV
  go_in
  go_upto_region 1 with fail
  rw[h.out,<- f.out]
  go_wp2_with fail
  refine(i o.fd _).mono ?_
  rintro e j⟨rfl,rfl⟩
  go_wp2
  go_ret
  exact⟨by rw[b.out];rfl,g.out⟩
 case _ =>
  cases s_fd:jF o.fd
  ·skip
   have b:Hid (v=1):=zh (by rw[HV.out];simp[eS,hU,iQ,s_fd])
   clear HV
   go_in
   go_upto_region 1 with fail
   rw[h.out,<- f.out]
   go_wp2_with fail
   refine(i o.fd _).mono ?_
   rintro e j⟨rfl,rfl⟩
   go_wp2
   go_ret
   exact⟨by rw[b.out];rfl,g.out⟩
  skip
  have b:Hid (v=0):=zh (by rw[HV.out];simp[eS,hU,iQ,s_fd])
  clear HV
  go_in
  go_upto_region 1 with fail
  rw[h.out,<- f.out]
  go_wp2_with fail
  refine(i o.fd _).mono ?_
  rintro e j⟨rfl,rfl⟩
  go_wp2
  go_ret
  exact⟨by rw[b.out];rfl,g.out⟩
 case _ =>
  by_cases c:200<o.path.length
  ·have d:(200:Int)<((dR o.path).size:Int):=by rw[pA];omega
   have b:Hid (v=3):=zh (by rw[HV.out];simp[eS,hU,c])
   clear HV
   go_in
   go_upto_region 1 with fail
   rw[h.out,<- f.out]
   go_wp2
   go_ret
   exact⟨by rw[b.out];rfl,g.out⟩
  have d:¬(200:Int)<((dR o.path).size:Int):=by rw[pA];omega
  by_cases m:200<o.goal.length
  ·have q:(200:Int)<((dR o.goal).size:Int):=by rw[pA];omega
   have b:Hid (v=3):=zh (by rw[HV.out];simp[eS,hU,c,m])
   clear HV
   go_in
   go_upto_region 1 with fail
   rw[h.out,<- f.out]
   go_wp2
   go_ret
   exact⟨by rw[b.out];rfl,g.out⟩
  have q:¬(200:Int)<((dR o.goal).size:Int):=by rw[pA];omega
  have b:Hid (v=0):=zh (by rw[HV.out];simp[eS,hU,iQ,c,m])
  clear HV
  go_in
  go_upto_region 1 with fail
  rw[h.out,<- f.out]
  go_wp2
  go_ret
  exact⟨by rw[b.out];rfl,g.out⟩
 case _ =>
  by_cases c:200<o.path.length
  ·have d:(200:Int)<((dR o.path).size:Int):=by rw[pA];omega
   have b:Hid (v=3):=zh (by rw[HV.out];simp[eS,hU,c])
   clear HV
   go_in
   go_upto_region 1 with fail
   rw[h.out,<- f.out]
   go_wp2
   go_ret
   exact⟨by rw[b.out];rfl,g.out⟩
  have d:¬(200:Int)<((dR o.path).size:Int):=by rw[pA];omega
  have b:Hid (v=0):=zh (by rw[HV.out];simp[eS,hU,iQ,c])
  clear HV
  go_in
  go_upto_region 1 with fail
  rw[h.out,<- f.out]
  go_wp2
  go_ret
  exact⟨by rw[b.out];rfl,g.out⟩
 case _ =>
  have b:Hid (v=0):=zh (by rw[HV.out];simp[eS,hU,iQ])
  clear HV
  go_in
  go_upto_region 1 with fail
  rw[h.out,<- f.out]
  go_wp2
  go_ret
  exact⟨by rw[b.out];rfl,g.out⟩
 case _ =>
  cases s_snap:jF o.snap
  ·skip
   have b:Hid (v=1):=zh (by rw[HV.out];simp[eS,hU,iQ,s_snap])
   clear HV
   go_in
   go_upto_region 1 with fail
   rw[h.out,<- f.out]
   go_wp2_with fail
   refine(i o.snap _).mono ?_
   rintro e j⟨rfl,rfl⟩
   go_wp2
   go_ret
   exact⟨by rw[b.out];rfl,g.out⟩
  skip
  have b:Hid (v=0):=zh (by rw[HV.out];simp[eS,hU,iQ,s_snap])
  clear HV
  go_in
  go_upto_region 1 with fail
  rw[h.out,<- f.out]
  go_wp2_with fail
  refine(i o.snap _).mono ?_
  rintro e j⟨rfl,rfl⟩
  go_wp2
  go_ret
  exact⟨by rw[b.out];rfl,g.out⟩
 case _ =>
  have b:Hid (v=0):=zh (by rw[HV.out];simp[eS,hU,iQ])
  clear HV
  go_in
  go_upto_region 1 with fail
  rw[h.out,<- f.out]
  go_wp2
  go_ret
  exact⟨by rw[b.out];rfl,g.out⟩
end
def ll(o:OpP)(a:ji):List UInt8:=if a.path then dU o.path else[]
def lk(o:OpP)(a:ji):List UInt8:=if a.goal then dU o.goal else[]
def lj(o:OpP)(a:ji):List UInt8:=if a.fd then beI 2 o.fd else[]
def li(o:OpP)(a:ji):List UInt8:=if a.part then beI 2 o.at_++beI 2 o.n else[]
def lh(o:OpP)(a:ji):List UInt8:=if a.till then beI 8 o.till else[]
def lg(o:OpP)(a:ji):List UInt8:=if a.snap then beI 2 o.snap else[]
def lf(o:OpP)(a:ji):List UInt8:=if a.data then dU o.data else[]
def fN(o:OpP)(a:ji):List UInt8:=((((((beI 1 o.kind++ll o a)++lk o a)++lj o a)++li o a)++lh o a)++lg o a)++lf o a
section
variable {w w':World}
theorem AY(o:OpP)(a:ji):(ll o a).length<=65537:=by
 unfold ll
 split
 ·exact eC _
 exact Nat.zero_le _
theorem AX(o:OpP)(a:ji):(lk o a).length<=65537:=by
 unfold lk
 split
 ·exact eC _
 exact Nat.zero_le _
theorem AW(o:OpP)(a:ji):(lj o a).length<=2:=by
 unfold lj
 split
 ·rw[dL];omega
 exact Nat.zero_le _
theorem AV(o:OpP)(a:ji):(li o a).length<=4:=by
 unfold li
 split
 ·rw[zL,dL,dL];omega
 exact Nat.zero_le _
theorem AU(o:OpP)(a:ji):(lh o a).length<=8:=by
 unfold lh
 split
 ·rw[dL];omega
 exact Nat.zero_le _
theorem AT(o:OpP)(a:ji):(lg o a).length<=2:=by
 unfold lg
 split
 ·rw[dL];omega
 exact Nat.zero_le _
theorem AS(o:OpP)(a:ji):(lf o a).length<=65537:=by
 unfold lf
 split
 ·exact eC _
 exact Nat.zero_le _
theorem Fg(o:OpP)(E:Option Addr)(cd:Nat){a:ji}(hk:iR o.kind=some a)(hr:eS o a=0)(w:World)(hE:Bs w D E o.data.length o.data)(hcd:o.data.length<=cd)(hp:o.path.length<=1099511627776)(hg:o.goal.length<=1099511627776)(hd:o.data.length<=1099511627776)(ht0:0<=o.till)(ht1:o.till<=18446744073709551615):
  Calls prog 24 #[fB o E cd] w fun e w'=>(∃A c,e=.returned (.tuple #[.slice A (fN o a).length c,.int .i64 0])/\fy w' w.heap.size 5 A (fN o a).length c (fN o a))/\New w w':=by
 have k1:=(zN w).alloc (.cells (dY o E cd) 29)
 have x1:=heap_alloc_new w (.cells (dY o E cd) 29)
 have HA:=zh<|fun W=>zK o.kind W
 have U:=zh<|fun W=>tK o E cd hk W hp hg hd
 rw[hr] at U
 rw[hk] at HA
 have V:=Row.new hE k1
 obtain⟨w1,X⟩:=zx (w.alloc (.cells (dY o E cd) 29))
 rw[<- X] at k1 x1 V
 have Y:=(fq x1).1
 have I:=J3 x1 k1 V
 have S:=J6 hcd hp hg hd ht0 ht1
 have ay:=zh X
 unfold fB at *
 unfold dY at *
 unfold oe at *
 dsimp only[Option.getD,Option.isSome] at HA
 clear k1 x1 hE V hk hr hcd hp hg hd ht0 ht1 X
 go_in
 go_upto_region 1 with fail
 rw[<- ay.out]
 generalize aj:w.heap.size=g1 at *
 have az:=zh aj
 clear aj
 go_wp2_with fail
 refine(HA.out w1).mono ?_
 rintro e w2⟨rfl,k2⟩
 have J:=J3 (k2.Qa I.1 zt) (I.2.1.new k2) (Row.new I.2.2 k2)
 clear HA I k2 Y
 have Z:=(zN w2).alloc (.cells #[.bool a.path,.bool a.goal,.bool a.fd,.bool a.part,.bool a.till,.bool a.snap,.bool a.data] 150)
 have x2:=heap_alloc_new w2 (.cells #[.bool a.path,.bool a.goal,.bool a.fd,.bool a.part,.bool a.till,.bool a.snap,.bool a.data] 150)
 obtain⟨w3,aa⟩:=zx (w2.alloc (.cells #[.bool a.path,.bool a.goal,.bool a.fd,.bool a.part,.bool a.till,.bool a.snap,.bool a.data] 150))
 rw[<- aa] at Z x2
 have s:=J4 (Z.Qa J.1 zt) x2 (J.2.1.new Z) (Row.new J.2.2 Z)
 have ak:=zh aa
 clear Z x2 aa J
 go_upto_region 4 with fail
 rw[<- ak.out]
 generalize aA:w2.heap.size=g2 at *
 clear aA ak
 have K:g1<w3.heap.size:=(Array.getElem?_eq_some_iff.1 s.1).1
 have L:g2<w3.heap.size:=(Array.getElem?_eq_some_iff.1 s.2.1).1
 obtain⟨Y,o1,o2,o3,o4,o5,o6,o7,o8⟩:=fq (o:=o) (E:=E) (cd:=cd) s.1
 obtain⟨a0,a1,a2,a3,a4,a5,a6⟩:=jS s.2.1
 go_wp2_with fail
 refine(U.out w3).mono ?_
 rintro e t⟨rfl,T⟩
 have B:=J4 (T.Qa s.1 zt) (T.Qa s.2.1 zt) (s.2.2.1.new T) (Row.new s.2.2.2 T)
 have aB:=T.size
 clear Y o1 o2 o3 o4 o5 o6 o7 o8 a0 a1 a2 a3 a4 a5 a6 s U T
 go_wp2_with fail
 refine(gV t).mono ?_
 rintro e w5⟨⟨p,rfl,ab⟩,k5⟩
 have HB:=J2 (show g1<t.heap.size by omega) (show g2<t.heap.size by omega)
 obtain⟨base,z⟩:=zx (t.heap.size)
 rw[<- z] at ab HB
 have ac:Hid (b_ (fun b=>b<base) t w5):=zh (b_.Qe k5)
 have ad:=zh ab
 have al:=zh z
 have r:Hid (∀W,b_ (fun b=>b<base) t W->W.heap[g1]?=some (.cells (dY o E cd) 29 (0,0))/\W.heap[g2]?=some (.cells #[.bool a.path,.bool a.goal,.bool a.fd,.bool a.part,.bool a.till,.bool a.snap,.bool a.data] 150 (0,0))/\Bs W (fun b=>b<base) E o.data.length o.data) :=
  zh fun W l=>⟨l.Qa B.1 HB.1,l.Qa B.2.1 HB.2,(B.2.2.2.imp (E:=fun b=>b<base) fun b hb _=>by rw[al.out];exact hb).keep l fun _ _ h=>h⟩
 have aC:=zh B.2.2.1
 clear ab k5 B K L aB z
 have Y:=(fq (r.out w5 ac.out).1).1
 go_wp2_with fail
 refine(zT base p [] o.kind w5 ad.out (by simp)).mono ?_
 rintro e wc⟨rfl,ae,am⟩
 have d:=zh<|ac.trans (ad.low am)
 rw[List.nil_append] at ae
 have aT:(beI 1 o.kind).length<=1:=by rw[dL];omega
 generalize an:beI 1 o.kind=M at *
 have aD:=zh an
 clear an
 have f:=zh ae
 clear ad ac ae am Y
 generalize aE:Value.agg #[.bool a.path,.bool a.goal,.bool a.fd,.bool a.part,.bool a.till,.bool a.snap,.bool a.data]=av
 clear aE
 have a0:=(jS (r.out wc d.out).2.1).1
 go_upto_if 28 with fail
 go_cut [7] from 28 to 33 (fun u q=>u=.pointer (some ⟨p,0,none⟩)/\Wr q base p (M++ll o a)/\b_ (fun b=>b<base) t q)
 case first =>
  have g:Hid (ll o a=if a.path then dU o.path else[]):=zh rfl
  cases hfl:a.path
  ·rw[hfl] at g a0
   clear hfl
   go_wp2
   go_meet
   exact⟨rfl,by rw[g.out];simp only[Bool.false_eq_true,if_false,List.append_nil];exact f.out,d.out⟩
  rw[hfl] at g a0
  clear hfl
  have o1:=(fq (r.out wc d.out).1).2.1
  obtain⟨af,wv,ah,y,C,F⟩:=nC o.path wc
  have x:=J3 y C F
  clear y C F
  go_wp2_with fail
  refine(jE base p _ _ o.path.length af M o.path wv (f.newW x.2.1) x.2.2 (fun b hb=>⟨by have:=f.lt;omega,fun e=>by have:=jJ f.out x.2.1 b e.symm;omega⟩) x.1 (by have:=S.out;omega) zo).mono ?_
  rintro e G⟨rfl,i,m⟩
  have j:=zh<|(d.new x.2.1).trans ((f.newW x.2.1).low m)
  have k:=zh i
  clear i m o1
  go_wp2
  go_meet
  exact⟨rfl,by rw[g.out,if_pos zt];exact k.out,j.out⟩
 obtain⟨rfl,i,l⟩:=hcut
 have aM:(M++ll o a).length<=65538:=by rw[zL];have:=AY o a;omega
 generalize ao:M++ll o a=N at *
 clear d f a0
 have d:=zh l
 have f:=zh i
 have aF:=zh ao
 clear i l ao
 have a1:=(jS (r.out wc d.out).2.1).2.1
 go_upto_if 35 with fail
 go_cut [7] from 35 to 40 (fun u q=>u=.pointer (some ⟨p,0,none⟩)/\Wr q base p (N++lk o a)/\b_ (fun b=>b<base) t q)
 case first =>
  have g:Hid (lk o a=if a.goal then dU o.goal else[]):=zh rfl
  cases hfl:a.goal
  ·rw[hfl] at g a1
   clear hfl
   go_wp2
   go_meet
   exact⟨rfl,by rw[g.out];simp only[Bool.false_eq_true,if_false,List.append_nil];exact f.out,d.out⟩
  rw[hfl] at g a1
  clear hfl
  have o2:=(fq (r.out wc d.out).1).2.2.1
  obtain⟨af,wv,ah,y,C,F⟩:=nC o.goal wc
  have x:=J3 y C F
  clear y C F
  go_wp2_with fail
  refine(jE base p _ _ o.goal.length af N o.goal wv (f.newW x.2.1) x.2.2 (fun b hb=>⟨by have:=f.lt;omega,fun e=>by have:=jJ f.out x.2.1 b e.symm;omega⟩) x.1 (by have:=S.out;omega) zo).mono ?_
  rintro e G⟨rfl,i,m⟩
  have j:=zh<|(d.new x.2.1).trans ((f.newW x.2.1).low m)
  have k:=zh i
  clear i m o2
  go_wp2
  go_meet
  exact⟨rfl,by rw[g.out,if_pos zt];exact k.out,j.out⟩
 obtain⟨rfl,i,l⟩:=hcut
 have aN:(N++lk o a).length<=131075:=by rw[zL];have:=AX o a;omega
 generalize K:N++lk o a=O at *
 clear d f a1
 have d:=zh l
 have f:=zh i
 have aG:=zh K
 clear i l K
 have a2:=(jS (r.out wc d.out).2.1).2.2.1
 go_upto_if 42 with fail
 go_cut [7] from 42 to 46 (fun u q=>u=.pointer (some ⟨p,0,none⟩)/\Wr q base p (O++lj o a)/\b_ (fun b=>b<base) t q)
 case first =>
  have g:Hid (lj o a=if a.fd then beI 2 o.fd else[]):=zh rfl
  cases hfl:a.fd
  ·rw[hfl] at g a2
   clear hfl
   go_wp2
   go_meet
   exact⟨rfl,by rw[g.out];simp only[Bool.false_eq_true,if_false,List.append_nil];exact f.out,d.out⟩
  rw[hfl] at g a2
  clear hfl
  have o3:=(fq (r.out wc d.out).1).2.2.2.1
  go_wp2_with fail
  refine(iT base p (O) o.fd wc f.out (by (try simp only[zL,dL]);omega)).mono ?_
  rintro e G⟨rfl,i,m⟩
  have j:=zh<|d.trans (f.low m)
  have k:=zh i
  clear i m o3
  go_wp2
  go_meet
  exact⟨rfl,by rw[g.out,if_pos zt];exact k.out,j.out⟩
 obtain⟨rfl,i,l⟩:=hcut
 have aO:(O++lj o a).length<=131077:=by rw[zL];have:=AW o a;omega
 generalize L:O++lj o a=H at *
 clear d f a2
 have d:=zh l
 have f:=zh i
 have aH:=zh L
 clear i l L
 have a3:=(jS (r.out wc d.out).2.1).2.2.2.1
 go_upto_if 48 with fail
 go_cut [7] from 48 to 56 (fun u q=>u=.pointer (some ⟨p,0,none⟩)/\Wr q base p (H++li o a)/\b_ (fun b=>b<base) t q)
 case first =>
  have g:Hid (li o a=if a.part then beI 2 o.at_++beI 2 o.n else[]):=zh rfl
  cases hfl:a.part
  ·rw[hfl] at g a3
   clear hfl
   go_wp2
   go_meet
   exact⟨rfl,by rw[g.out];simp only[Bool.false_eq_true,if_false,List.append_nil];exact f.out,d.out⟩
  rw[hfl] at g a3
  clear hfl
  have o4:=(fq (r.out wc d.out).1).2.2.2.2.1
  go_wp2_with fail
  refine(iT base p (H) o.at_ wc f.out (by (try simp only[zL,dL]);omega)).mono ?_
  rintro e G⟨rfl,i,m⟩
  have j:=zh<|d.trans (f.low m)
  have k:=zh i
  clear i m o4
  have o5:=(fq (r.out G j.out).1).2.2.2.2.2.1
  go_wp2_with fail
  refine(iT base p (H++beI 2 o.at_) o.n G k.out (by (try simp only[zL,dL]);omega)).mono ?_
  rintro e w7⟨rfl,i,m⟩
  have ai:=zh<|j.trans (k.low m)
  have ax:=zh i
  clear i m o5
  go_wp2
  go_meet
  exact⟨rfl,by rw[g.out,if_pos zt,<- List.append_assoc];exact ax.out,ai.out⟩
 obtain⟨rfl,i,l⟩:=hcut
 have aP:(H++li o a).length<=131081:=by rw[zL];have:=AV o a;omega
 generalize ap:H++li o a=P at *
 clear d f a3
 have d:=zh l
 have f:=zh i
 have aI:=zh ap
 clear i l ap
 have a4:=(jS (r.out wc d.out).2.1).2.2.2.2.1
 go_upto_if 58 with fail
 go_cut [7] from 58 to 62 (fun u q=>u=.pointer (some ⟨p,0,none⟩)/\Wr q base p (P++lh o a)/\b_ (fun b=>b<base) t q)
 case first =>
  have g:Hid (lh o a=if a.till then beI 8 o.till else[]):=zh rfl
  cases hfl:a.till
  ·rw[hfl] at g a4
   clear hfl
   go_wp2
   go_meet
   exact⟨rfl,by rw[g.out];simp only[Bool.false_eq_true,if_false,List.append_nil];exact f.out,d.out⟩
  rw[hfl] at g a4
  clear hfl
  have o6:=(fq (r.out wc d.out).1).2.2.2.2.2.2.1
  go_wp2_with fail
  refine(pS base p (P) o.till wc f.out S.2.2.2.2.1 S.2.2.2.2.2 zo).mono ?_
  rintro e G⟨rfl,i,m⟩
  have j:=zh<|d.trans (f.low m)
  have k:=zh i
  clear i m o6
  go_wp2
  go_meet
  exact⟨rfl,by rw[g.out,if_pos zt];exact k.out,j.out⟩
 obtain⟨rfl,i,l⟩:=hcut
 have aQ:(P++lh o a).length<=131089:=by rw[zL];have:=AU o a;omega
 generalize aq:P++lh o a=Q at *
 clear d f a4
 have d:=zh l
 have f:=zh i
 have aJ:=zh aq
 clear i l aq
 have a5:=(jS (r.out wc d.out).2.1).2.2.2.2.2.1
 go_upto_if 64 with fail
 go_cut [7] from 64 to 68 (fun u q=>u=.pointer (some ⟨p,0,none⟩)/\Wr q base p (Q++lg o a)/\b_ (fun b=>b<base) t q)
 case first =>
  have g:Hid (lg o a=if a.snap then beI 2 o.snap else[]):=zh rfl
  cases hfl:a.snap
  ·rw[hfl] at g a5
   clear hfl
   go_wp2
   go_meet
   exact⟨rfl,by rw[g.out];simp only[Bool.false_eq_true,if_false,List.append_nil];exact f.out,d.out⟩
  rw[hfl] at g a5
  clear hfl
  have o7:=(fq (r.out wc d.out).1).2.2.2.2.2.2.2.1
  go_wp2_with fail
  refine(iT base p (Q) o.snap wc f.out (by (try simp only[zL,dL]);omega)).mono ?_
  rintro e G⟨rfl,i,m⟩
  have j:=zh<|d.trans (f.low m)
  have k:=zh i
  clear i m o7
  go_wp2
  go_meet
  exact⟨rfl,by rw[g.out,if_pos zt];exact k.out,j.out⟩
 obtain⟨rfl,i,l⟩:=hcut
 have aR:(Q++lg o a).length<=131091:=by rw[zL];have:=AT o a;omega
 generalize ar:Q++lg o a=R at *
 clear d f a5
 have d:=zh l
 have f:=zh i
 have aK:=zh ar
 clear i l ar
 have a6:=(jS (r.out wc d.out).2.1).2.2.2.2.2.2
 go_upto_if 70 with fail
 go_cut [7] from 70 to 74 (fun u q=>u=.pointer (some ⟨p,0,none⟩)/\Wr q base p (R++lf o a)/\b_ (fun b=>b<base) t q)
 case first =>
  have g:Hid (lf o a=if a.data then dU o.data else[]):=zh rfl
  cases hfl:a.data
  ·rw[hfl] at g a6
   clear hfl
   go_wp2
   go_meet
   exact⟨rfl,by rw[g.out];simp only[Bool.false_eq_true,if_false,List.append_nil];exact f.out,d.out⟩
  rw[hfl] at g a6
  clear hfl
  have o8:=(fq (r.out wc d.out).1).2.2.2.2.2.2.2.2
  go_wp2_with fail
  refine(jE base p _ E o.data.length cd R o.data wc f.out (r.out wc d.out).2.2 (fun b hb=>⟨by have:=f.hp;omega,fun e=>by have:=(f.rowLt b e.symm).1;omega⟩) S.1 (by have:=S.out;omega) zo).mono ?_
  rintro e G⟨rfl,i,m⟩
  have j:=zh<|d.trans (f.low m)
  have k:=zh i
  clear i m o8
  go_wp2
  go_meet
  exact⟨rfl,by rw[g.out,if_pos zt];exact k.out,j.out⟩
 obtain⟨rfl,i,l⟩:=hcut
 have aS:(R++lf o a).length<=196628:=by rw[zL];have:=AS o a;omega
 generalize au:R++lf o a=ag at *
 clear d f a6
 have d:=zh l
 have f:=zh i
 have aL:=zh au
 clear i l au
 go_wp2_with fail
 refine(iI base p ag wc f.out zo).mono ?_
 rintro e w8⟨⟨A8,c8,rfl,ho⟩,k8⟩
 have aw:=J2 ho k8
 clear ho k8
 go_wp2_with fail
 have e7:fN o a=ag:=by unfold fN;rw[aD.out,aF.out,aG.out,aH.out,aI.out,aJ.out,aK.out,aL.out]
 have kn:New t wc:=d.Qi fun b hb=>by rw[al.out];exact hb
 have kz:=aC.new kn
 refine Zb (.tuple #[.slice A8 ag.length c8,.int .i64 0]) (by simp[results,results24,go_sem]) ?_
 rw[e7]
 exact⟨⟨A8,c8,rfl,eQ aw.1 (by have h9:=kz.size;have h8:=az.out;omega)⟩,kz.new aw.2⟩
end
def wW(b:Bool)(s:RdS):List UInt8×RdS:=if b then s.Qj else([],s)
def uo(b:Bool)(k:Nat)(s:RdS):Nat×RdS:=if b then s.num k else(0,s)
def mU(a:ji)(k:Int)(s:RdS):OpP×RdS :=
 let p:=wW a.path s
 let g:=wW a.goal p.2
 let f:=uo a.fd 2 g.2
 let x:=uo a.part 2 f.2
 let y:=uo a.part 2 x.2
 let t:=uo a.till 8 y.2
 let n:=uo a.snap 2 t.2
 let d:=wW a.data n.2
 (⟨k,p.1,g.1,(f.1:Int),(x.1:Int),(y.1:Int),(t.1:Int),(n.1:Int),d.1⟩,d.2)
def gY:OpP:=⟨0,[],[],0,0,0,0,0,[]⟩
def pJ(bs:List UInt8):OpP×Int :=
 let k:=(RdS.mk bs 0).num 1
 match iR (k.1:Int) with
 | none=>(gY,30)
 | some a=>if (mU a k.1 k.2).2.endOf≠0\/eS (mU a k.1 k.2).1 a≠0 then(gY,12) else((mU a k.1 k.2).1,0)
section
variable {w w':World}
theorem Fe{c1:Nat}(h:w.heap[g]?=some (.cells (dY o1 E1 c1) t (0,0)))(o:OpP)(E:Option Addr)(cd:Nat):
  (((((((((w.setCell ⟨g,0,none⟩ (.int .i64 o.kind)).setCell ⟨g,1,none⟩ (.string (dR o.path))).setCell ⟨g,2,none⟩ (.string (dR o.goal))).setCell ⟨g,3,none⟩ (.int .i64 o.fd)).setCell ⟨g,4,none⟩ (.int .i64 o.at_)).setCell ⟨g,5,none⟩ (.int .i64 o.n)).setCell ⟨g,6,none⟩ (.int .u64 o.till)).setCell ⟨g,7,none⟩ (.int .i64 o.snap)).setCell ⟨g,8,none⟩ (.slice E o.data.length cd)).heap[g]?=some (.cells (dY o E cd) t (0,0)) /\
  b_ (fun b=>b≠g) w (((((((((w.setCell ⟨g,0,none⟩ (.int .i64 o.kind)).setCell ⟨g,1,none⟩ (.string (dR o.path))).setCell ⟨g,2,none⟩ (.string (dR o.goal))).setCell ⟨g,3,none⟩ (.int .i64 o.fd)).setCell ⟨g,4,none⟩ (.int .i64 o.at_)).setCell ⟨g,5,none⟩ (.int .i64 o.n)).setCell ⟨g,6,none⟩ (.int .u64 o.till)).setCell ⟨g,7,none⟩ (.int .i64 o.snap)).setCell ⟨g,8,none⟩ (.slice E o.data.length cd)):=by
 have a:∀(W:World) (k:Nat) (u:Value),b_ (fun b=>b≠g) w W->b_ (fun b=>b≠g) w (W.setCell ⟨g,k,none⟩ u):=fun W k u c=>c.setCell (p:=⟨g,k,none⟩) (fun hd=>absurd rfl hd) u
 refine⟨?_,a _ _ _ (a _ _ _ (a _ _ _ (a _ _ _ (a _ _ _ (a _ _ _ (a _ _ _ (a _ _ _ (a _ _ _ (b_.refl _ w)))))))))⟩
 have h0:∀(W:World) (q:OpP) (k:Nat) (u:Value) (d:OpP) (E1:Option Addr) (c1:Nat) (E2:Option Addr) (c2:Nat),W.heap[g]?=some (.cells (dY q E1 c1) t (0,0))->(dY q E1 c1).setIfInBounds k u=dY d E2 c2->(W.setCell ⟨g,k,none⟩ u).heap[g]?=some (.cells (dY d E2 c2) t (0,0)):=fun W q k u d E1 c1 E2 c2 c e=>by
  have:=dM c k u
  rwa[e] at this
 have f:=h0 _ _ 0 (.int .i64 o.kind) { o1 with kind:=o.kind } _ _ E1 c1 h rfl
 have g1:=h0 _ _ 1 (.string (dR o.path)) { o1 with kind:=o.kind,path:=o.path } _ _ E1 c1 f rfl
 have i:=h0 _ _ 2 (.string (dR o.goal)) { o1 with kind:=o.kind,path:=o.path,goal:=o.goal } _ _ E1 c1 g1 rfl
 have g3:=h0 _ _ 3 (.int .i64 o.fd) { o1 with kind:=o.kind,path:=o.path,goal:=o.goal,fd:=o.fd } _ _ E1 c1 i rfl
 have g4:=h0 _ _ 4 (.int .i64 o.at_) { o1 with kind:=o.kind,path:=o.path,goal:=o.goal,fd:=o.fd,at_:=o.at_ } _ _ E1 c1 g3 rfl
 have j:=h0 _ _ 5 (.int .i64 o.n) { o1 with kind:=o.kind,path:=o.path,goal:=o.goal,fd:=o.fd,at_:=o.at_,n:=o.n } _ _ E1 c1 g4 rfl
 have l:=h0 _ _ 6 (.int .u64 o.till) { o1 with kind:=o.kind,path:=o.path,goal:=o.goal,fd:=o.fd,at_:=o.at_,n:=o.n,till:=o.till } _ _ E1 c1 j rfl
 have m:=h0 _ _ 7 (.int .i64 o.snap) { o with data:=o1.data } _ _ E1 c1 l rfl
 exact h0 _ _ 8 (.slice E o.data.length cd) o _ _ E cd m rfl
theorem Ff{c1:Nat}(h:w.heap[g]?=some (.cells (dY o1 E1 c1) t (0,0))){o2:OpP}{E2:Option Addr}{c2:Nat}(e:(dY o1 E1 c1).setIfInBounds k u=dY o2 E2 c2):
  (w.setCell ⟨g,k,none⟩ u).heap[g]?=some (.cells (dY o2 E2 c2) t (0,0))/\b_ (fun b=>b≠g) w (w.setCell ⟨g,k,none⟩ u):=by
 have:=dM h k u
 rw[e] at this
 exact⟨this,(b_.refl _ w).setCell (p:=⟨g,k,none⟩) (fun hd=>absurd rfl hd) u⟩
def ja(w w':World)(p gR g5 g6:Nat)(a:ji)(o:OpP)(E:Option Addr)(cd:Nat)(s:RdS):Prop :=
 RdD (fun b=>b<p) w' p s/\w'.heap[gR]?=some (.cells (dY gY none 0) 29 (0,0))/\w'.heap[g5]?=some (.cells (dY o E cd) 29 (0,0))/\w'.heap[g6]?=some (.cells #[.bool a.path,.bool a.goal,.bool a.fd,.bool a.part,.bool a.till,.bool a.snap,.bool a.data] 150 (0,0)) /\
  New w w'/\fy w' w.heap.size 5 E o.data.length cd o.data
def CL(w:World)(p gR g5 g6:Nat):Prop:=w.heap.size<=gR/\gR<p/\p<g5/\g5<g6
section
variable {p gR g5 g6:Nat}{a:ji}{o o2:OpP}{E:Option Addr}{cd:Nat}{s s':RdS}{w2:World}
theorem ja.read(h:ja w w' p gR g5 g6 a o none 0 s)(hn:CL w p gR g5 g6)(hR:RdD (fun b=>b<p) w2 p s')(k:b_ (fun b=>b≠p) w' w2):ja w w2 p gR g5 g6 a o none 0 s':=by
 obtain⟨-,h1,h2,h3,c,h5⟩:=h
 obtain⟨d,e,f,g⟩:=hn
 exact⟨hR,k.Qa h1 (by show gR≠p;omega),k.Qa h2 (by show g5≠p;omega),k.Qa h3 (by show g6≠p;omega),c.Qd k fun b hb _=>by show b≠p;omega,eP h5 k fun k hk=>absurd hk (by simp[blk])⟩
theorem ja.new(h:ja w w' p gR g5 g6 a o E cd s)(k:New w' w2):ja w w2 p gR g5 g6 a o E cd s:=by
 obtain⟨h0,h1,h2,h3,b,h5⟩:=h
 exact⟨h0.keep k,k.Qa h1 zt,k.Qa h2 zt,k.Qa h3 zt,b.new k,eP h5 k fun _ _=>zt⟩
theorem ja.set(h:ja w w' p gR g5 g6 a o none 0 s)(hn:CL w p gR g5 g6)(e:(dY o none 0).setIfInBounds k u=dY o2 none 0)(hd:o.data=[])(hd2:o2.data=[]):ja w (w'.setCell ⟨g5,k,none⟩ u) p gR g5 g6 a o2 none 0 s:=by
 obtain⟨h0,h1,h2,h3,d,h5⟩:=h
 obtain⟨g,i,j,l⟩:=hn
 obtain⟨f,c⟩:=Ff h2 e
 rw[hd] at h5
 refine⟨h0.keepE c (by show p≠g5;omega) (fun b _ hb=>by show b≠g5;have:b<p:=hb;omega),c.Qa h1 (by show gR≠g5;omega),f,c.Qa h3 (by show g6≠g5;omega),d.Qd c fun b hb _=>by show b≠g5;omega,?_⟩
 rw[hd2]
 exact eP h5 c fun k hk=>absurd hk (by simp[blk])
end
end
theorem ja.setData{w':World}{p gR g5 g6:Nat}{a:ji}{s:RdS}{d:List UInt8}(h:ja w w' p gR g5 g6 a o none 0 s)(hn:CL w p gR g5 g6)(hd:fy w' base 5 E d.length cd d)(hb:g5<base):ja w (w'.setCell ⟨g5,8,none⟩ (.slice E d.length cd)) p gR g5 g6 a { o with data:=d } E cd s:=by
 obtain⟨h0,h1,h2,h3,e,h5⟩:=h
 obtain⟨g,i,j,l⟩:=hn
 obtain⟨f,c⟩:=Ff h2 (k:=8) (u:=.slice E d.length cd) (o2:={ o with data:=d }) (E2:=E) (c2:=cd) rfl
 exact⟨h0.keepE c (by show p≠g5;omega) (fun b _ hb=>by show b≠g5;have:b<p:=hb;omega),c.Qa h1 (by show gR≠g5;omega),f,c.Qa h3 (by show g6≠g5;omega),e.Qd c fun b hb _=>by show b≠g5;omega,eQ (eP hd c fun k hk=>by have:=(eW hd k hk).1;show k≠g5;omega) zo⟩
theorem GU(s:RdS)(n:Int)(m:Nat)(hn:n<=m):(s.raw n).1.length<=m:=by
 unfold RdS.raw
 split
 ·exact Nat.zero_le _
 split
 ·exact Nat.zero_le _
 rw[List.length_take];omega
theorem Bj(s:RdS):s.Qj.1.length<=65535:=by
 have h:=lG s 2
 exact GU _ _ _ zo
theorem un(b:Bool)(s:RdS):(wW b s).1.length<=65535:=by
 unfold wW
 split
 ·exact Bj s
 exact Nat.zero_le _
section
variable {w w':World}
theorem Fh{A:Option Addr}{c:Nat}{bs:List UInt8}(w:World)(hB:Bs w D A n bs)(hn:n<=1099511627776)(h09:(pJ bs).2=0):
  Calls prog 129 #[.slice A n c] w fun e w'=>(∃E cd,e=.returned (.tuple #[fB (pJ bs).1 E cd,.int .i64 (pJ bs).2])/\fy w' w.heap.size 5 E (pJ bs).1.data.length cd (pJ bs).1.data)/\New w w':=by
 have k1:=(zN w).alloc (.cells #[.int .i64 0,.string ⟨#[]⟩,.string ⟨#[]⟩,.int .i64 0,.int .i64 0,.int .i64 0,.int .u64 0,.int .i64 0,.slice none 0 0] 29)
 have x1:=heap_alloc_new w (.cells #[.int .i64 0,.string ⟨#[]⟩,.string ⟨#[]⟩,.int .i64 0,.int .i64 0,.int .i64 0,.int .u64 0,.int .i64 0,.slice none 0 0] 29)
 obtain⟨w1,ar⟩:=zx (w.alloc (.cells #[.int .i64 0,.string ⟨#[]⟩,.string ⟨#[]⟩,.int .i64 0,.int .i64 0,.int .i64 0,.int .u64 0,.int .i64 0,.slice none 0 0] 29))
 rw[<- ar] at k1 x1
 have HN:=zh<|lp D A n c bs w1 (hB.new k1) hn
 have ac:Hid (w1.heap[w.heap.size]?=some (.cells (dY gY none 0) 29 (0,0))/\New w w1):=J2 x1 k1
 have aF:=zh ar
 have x:Hid (pJ bs=match iR (((RdS.mk bs 0).num 1).1:Int) with
  | none=>(gY,30)
  | some a=>if (mU a ((RdS.mk bs 0).num 1).1 ((RdS.mk bs 0).num 1).2).2.endOf≠0\/eS (mU a ((RdS.mk bs 0).num 1).1 ((RdS.mk bs 0).num 1).2).1 a≠0 then(gY,12) else((mU a ((RdS.mk bs 0).num 1).1 ((RdS.mk bs 0).num 1).2).1,0)):=zh rfl
 generalize pJ bs=dv at *
 have au:=zh h09
 clear k1 x1 ar hB hn h09
 go_in
 go_upto_region 1 with fail
 rw[<- aF.out]
 generalize aG:w.heap.size=m at *
 have aH:=zh aG
 clear aG aF
 go_wp2_with fail
 refine HN.mono ?_
 rintro e w2⟨⟨p,rfl,hp,f⟩,k2⟩
 have F:=J4 (k2.Qa ac.1 zt) (ac.2.new k2) (show m<p from Nat.lt_of_lt_of_le (Array.getElem?_eq_some_iff.1 ac.1).1 hp) f
 clear HN k2 hp f ac
 have aw:=zh<|nN _ p _ w2 F.2.2.2
 generalize RdS.num ⟨bs,0⟩ 1=r1 at *
 obtain⟨i,K⟩:=r1
 dsimp only at aw x
 go_wp2_with fail
 refine aw.mono ?_
 rintro e O⟨rfl,aI,k3⟩
 have J:Hid (O.heap[m]?=some (.cells (dY gY none 0) 29 (0,0))/\New w O/\m<p/\RdD (fun b=>b<p) O p K):=J4 (k3.Qa F.1 (by show m≠p;have:=F.2.2.1;omega)) (F.2.1.Qd k3 fun b hb _=>by show b≠p;have:=F.2.2.1;have:=aH.out;omega) F.2.2.1 aI
 clear aw k3 aI F
 have k4:=(zN O).alloc (.cells #[.int .i64 (i:Int),.string ⟨#[]⟩,.string ⟨#[]⟩,.int .i64 0,.int .i64 0,.int .i64 0,.int .u64 0,.int .i64 0,.slice none 0 0] 29)
 have x4:=heap_alloc_new O (.cells #[.int .i64 (i:Int),.string ⟨#[]⟩,.string ⟨#[]⟩,.int .i64 0,.int .i64 0,.int .i64 0,.int .u64 0,.int .i64 0,.slice none 0 0] 29)
 obtain⟨w4,ax⟩:=zx (O.alloc (.cells #[.int .i64 (i:Int),.string ⟨#[]⟩,.string ⟨#[]⟩,.int .i64 0,.int .i64 0,.int .i64 0,.int .u64 0,.int .i64 0,.slice none 0 0] 29))
 rw[<- ax] at k4 x4
 have aJ:=zh ax
 clear ax
 go_upto_region 3 with fail
 rw[<- aJ.out]
 generalize aK:O.heap.size=r at *
 have t:Hid (w4.heap[m]?=some (.cells (dY gY none 0) 29 (0,0))/\w4.heap[r]?=some (.cells (dY { gY with kind:=(i:Int) } none 0) 29 (0,0))/\New w w4/\m<p/\RdD (fun b=>b<p) w4 p K/\p<r):=zh ⟨k4.Qa J.1 zt,x4,J.2.1.new k4,J.2.2.1,J.2.2.2.keep k4,by rw[<- aK];exact J.2.2.2.lt⟩
 clear J k4 x4 aJ aK
 have o0:=(fq t.2.1).1
 have HA:=zh<|zK (i:Int) w4
 have ay:∀(w9:World) (g:Nat),New w4 w9->w9.heap[m]?=some (.cells (dY gY none 0) 29 (0,0)):=fun w9 g k=>k.Qa t.1 trivial
 have aW:=zh ay
 clear ay
 cases hk:iR (i:Int) with
 | none =>
  have L:=au.out
  rw[x.out,hk] at L
  exact absurd L (show ¬(30:Int)=0 by decide)
 | some a =>
  rw[hk] at HA x
  dsimp only[Option.getD,Option.isSome] at HA x
  have aX:=zh hk
  unfold oe at HA
  go_wp2_with fail
  refine HA.mono ?_
  rintro e w5⟨rfl,k5⟩
  have k6:=k5.alloc (.cells #[.bool a.path,.bool a.goal,.bool a.fd,.bool a.part,.bool a.till,.bool a.snap,.bool a.data] 150)
  have x6:=heap_alloc_new w5 (.cells #[.bool a.path,.bool a.goal,.bool a.fd,.bool a.part,.bool a.till,.bool a.snap,.bool a.data] 150)
  obtain⟨w6,az⟩:=zx (w5.alloc (.cells #[.bool a.path,.bool a.goal,.bool a.fd,.bool a.part,.bool a.till,.bool a.snap,.bool a.data] 150))
  rw[<- az] at k6 x6
  have G:=J3 az k6 x6
  have aY:=k5.size
  clear k5 k6 x6 az HA hk o0 aW
  go_upto_region 4 with fail
  rw[<- G.1]
  generalize aZ:w5.heap.size=u at *
  have aA:r<u:=by have:=(Array.getElem?_eq_some_iff.1 t.2.1).1;omega
  have h:Hid (CL w p m r u):=zh ⟨by rw[aH.out];exact Nat.le_refl _,t.2.2.2.1,t.2.2.2.2.2,aA⟩
  have d:Hid (ja w w6 p m r u a { gY with kind:=(i:Int) } none 0 K):=zh ⟨t.2.2.2.2.1.keep G.2.1,G.2.1.Qa t.1 zt,G.2.1.Qa t.2.1 zt,G.2.2,t.2.2.1.new G.2.1,Own.nil _ _ _ _⟩
  clear t G aY aZ aA
  generalize a7:Value.agg #[.bool a.path,.bool a.goal,.bool a.fd,.bool a.part,.bool a.till,.bool a.snap,.bool a.data]=av
  clear a7
  generalize w6=wc at *
  obtain⟨v0,t1,e0⟩:∃v s,wW a.path K=(v,s):=⟨_,_,rfl⟩
  obtain⟨q,t2,e1⟩:∃v s,wW a.goal t1=(v,s):=⟨_,_,rfl⟩
  obtain⟨y,t3,e2⟩:∃v s,uo a.fd 2 t2=(v,s):=⟨_,_,rfl⟩
  obtain⟨v3,t4,e3⟩:∃v s,uo a.part 2 t3=(v,s):=⟨_,_,rfl⟩
  obtain⟨v4,t5,e4⟩:∃v s,uo a.part 2 t4=(v,s):=⟨_,_,rfl⟩
  obtain⟨v5,t6,e5⟩:∃v s,uo a.till 8 t5=(v,s):=⟨_,_,rfl⟩
  obtain⟨v6,t7,e6⟩:∃v s,uo a.snap 2 t6=(v,s):=⟨_,_,rfl⟩
  obtain⟨v7,t8,e7⟩:∃v s,wW a.data t7=(v,s):=⟨_,_,rfl⟩
  have aL:Hid (mU a i K=(⟨(i:Int),v0,q,(y:Int),(v3:Int),(v4:Int),(v5:Int),(v6:Int),v7⟩,t8)):=zh (by unfold mU;simp only[e0,e1,e2,e3,e4,e5,e6,e7])
  have ad:=un a.path K
  have ae:=un a.goal t1
  have af:=un a.data t7
  rw[e0] at ad
  rw[e1] at ae
  rw[e7] at af
  dsimp only at ad ae af
  have ag:=J3 ad ae af
  clear ad ae af
  replace e0:=zh e0
  replace e1:=zh e1
  replace e2:=zh e2
  replace e3:=zh e3
  replace e4:=zh e4
  replace e5:=zh e5
  replace e6:=zh e6
  replace e7:=zh e7
  have a0:=(jS d.2.2.2.1).1
  go_upto_if 23 with fail
  go_cut [4] from 23 to 27 (fun z B=>z=.pointer (some ⟨p,0,none⟩)/\ja w B p m r u a { gY with kind:=(i:Int),path:=v0 } none 0 t1)
  case first =>
   have P:=e0.out
   cases hfl:a.path
   ·rw[hfl] at a0
    rw[hfl] at P
    clear hfl
    obtain⟨r0,g0⟩:=Prod.mk.inj P
    have aM:=J2 r0 g0
    clear P r0 g0
    go_wp2
    go_meet
    rw[<- aM.1,<- aM.2]
    exact⟨rfl,d.out⟩
   rw[hfl] at a0
   rw[hfl] at P
   clear hfl
   replace P:=zh P
   have ah:=zh<|kQ _ p K wc d.1
   rw[show K.Qj=(v0,t1) from P.out] at ah
   dsimp only at ah
   go_wp2_with fail
   refine ah.mono ?_
   rintro e x0⟨⟨A0,c0,rfl,o0⟩,f,j⟩
   have Q:=zh<|d.read h.out f j
   have y0:(convert 22 9 (.slice A0 v0.length c0)).run prog x0=.ok (.string (dR v0)) x0:=mG (Row.Qc o0)
   clear o0 ah f j
   have c1:=(fq Q.2.2.1).2.1
   have z1:=dP Q.2.2.1 1
   go_wp2
   go_meet
   exact⟨rfl,ja.set (o2:={ gY with kind:=(i:Int),path:=v0 }) (Q.out) h.out rfl rfl rfl⟩
  obtain⟨rfl,l⟩:=hcut
  clear d a0
  have d:=zh l
  clear l
  have a1:=(jS d.2.2.2.1).2.1
  go_upto_if 29 with fail
  go_cut [4] from 29 to 33 (fun z B=>z=.pointer (some ⟨p,0,none⟩)/\ja w B p m r u a { gY with kind:=(i:Int),path:=v0,goal:=q } none 0 t2)
  case first =>
   have R:=e1.out
   cases hfl:a.goal
   ·rw[hfl] at a1
    rw[hfl] at R
    clear hfl
    obtain⟨r1,g1⟩:=Prod.mk.inj R
    have aN:=J2 r1 g1
    clear R r1 g1
    go_wp2
    go_meet
    rw[<- aN.1,<- aN.2]
    exact⟨rfl,d.out⟩
   rw[hfl] at a1
   rw[hfl] at R
   clear hfl
   replace R:=zh R
   have ai:=zh<|kQ _ p t1 wc d.1
   rw[show t1.Qj=(q,t2) from R.out] at ai
   dsimp only at ai
   go_wp2_with fail
   refine ai.mono ?_
   rintro e x1⟨⟨A1,c1,rfl,o1⟩,f,j⟩
   have S:=zh<|d.read h.out f j
   have y1:(convert 22 9 (.slice A1 q.length c1)).run prog x1=.ok (.string (dR q)) x1:=mG (Row.Qc o1)
   clear o1 ai f j
   have c2:=(fq S.2.2.1).2.2.1
   have z2:=dP S.2.2.1 2
   go_wp2
   go_meet
   exact⟨rfl,ja.set (o2:={ gY with kind:=(i:Int),path:=v0,goal:=q }) (S.out) h.out rfl rfl rfl⟩
  obtain⟨rfl,l⟩:=hcut
  clear d a1
  have d:=zh l
  clear l
  have a2:=(jS d.2.2.2.1).2.2.1
  go_upto_if 35 with fail
  go_cut [4] from 35 to 38 (fun z B=>z=.pointer (some ⟨p,0,none⟩)/\ja w B p m r u a { gY with kind:=(i:Int),path:=v0,goal:=q,fd:=(y:Int) } none 0 t3)
  case first =>
   have T:=e2.out
   cases hfl:a.fd
   ·rw[hfl] at a2
    rw[hfl] at T
    clear hfl
    obtain⟨r2,g2⟩:=Prod.mk.inj T
    have aO:=J2 r2 g2
    clear T r2 g2
    go_wp2
    go_meet
    rw[<- aO.1,<- aO.2]
    exact⟨rfl,d.out⟩
   rw[hfl] at a2
   rw[hfl] at T
   clear hfl
   replace T:=zh T
   have aj:=zh<|iB _ p t2 wc d.1
   rw[show t2.num 2=(y,t3) from T.out] at aj
   dsimp only at aj
   go_wp2_with fail
   refine aj.mono ?_
   rintro e x2⟨rfl,f,j⟩
   have U:=zh<|d.read h.out f j
   clear aj f j
   have c3:=(fq U.2.2.1).2.2.2.1
   have z3:=dP U.2.2.1 3
   go_wp2
   go_meet
   exact⟨rfl,ja.set (o2:={ gY with kind:=(i:Int),path:=v0,goal:=q,fd:=(y:Int) }) (U.out) h.out rfl rfl rfl⟩
  obtain⟨rfl,l⟩:=hcut
  clear d a2
  have d:=zh l
  clear l
  have a3:=(jS d.2.2.2.1).2.2.2.1
  go_upto_if 40 with fail
  go_cut [4] from 40 to 46 (fun z B=>z=.pointer (some ⟨p,0,none⟩)/\ja w B p m r u a { gY with kind:=(i:Int),path:=v0,goal:=q,fd:=(y:Int),at_:=(v3:Int),n:=(v4:Int) } none 0 t5)
  case first =>
   have V:=e3.out
   have W:=e4.out
   cases hfl:a.part
   ·rw[hfl] at a3
    rw[hfl] at V
    rw[hfl] at W
    clear hfl
    obtain⟨r3,g3⟩:=Prod.mk.inj V
    have aP:=J2 r3 g3
    clear V r3 g3
    obtain⟨r4,g4⟩:=Prod.mk.inj W
    have aQ:=J2 r4 g4
    clear W r4 g4
    go_wp2
    go_meet
    rw[<- aP.1,<- aQ.1,<- aQ.2,<- aP.2]
    exact⟨rfl,d.out⟩
   rw[hfl] at a3
   rw[hfl] at V
   rw[hfl] at W
   clear hfl
   replace V:=zh V
   replace W:=zh W
   have ak:=zh<|iB _ p t3 wc d.1
   rw[show t3.num 2=(v3,t4) from V.out] at ak
   dsimp only at ak
   go_wp2_with fail
   refine ak.mono ?_
   rintro e x3⟨rfl,f,j⟩
   have aB:=zh<|d.read h.out f j
   clear ak f j
   have al:=zh<|iB _ p t4 x3 aB.1
   rw[show t4.num 2=(v4,t5) from W.out] at al
   dsimp only at al
   go_wp2_with fail
   refine al.mono ?_
   rintro e x4⟨rfl,f,j⟩
   have H:=zh<|aB.read h.out f j
   clear al f j
   have c4:=(fq H.2.2.1).2.2.2.2.1
   have z4:=dP H.2.2.1 4
   have c5:=(fq H.2.2.1).2.2.2.2.2.1
   have z5:=dP H.2.2.1 5
   go_wp2
   go_meet
   exact⟨rfl,ja.set (o2:={ gY with kind:=(i:Int),path:=v0,goal:=q,fd:=(y:Int),at_:=(v3:Int),n:=(v4:Int) }) (ja.set (o2:={ gY with kind:=(i:Int),path:=v0,goal:=q,fd:=(y:Int),at_:=(v3:Int) }) (H.out) h.out rfl rfl rfl) h.out rfl rfl rfl⟩
  obtain⟨rfl,l⟩:=hcut
  clear d a3
  have d:=zh l
  clear l
  have a4:=(jS d.2.2.2.1).2.2.2.2.1
  go_upto_if 48 with fail
  go_cut [4] from 48 to 51 (fun z B=>z=.pointer (some ⟨p,0,none⟩)/\ja w B p m r u a { gY with kind:=(i:Int),path:=v0,goal:=q,fd:=(y:Int),at_:=(v3:Int),n:=(v4:Int),till:=(v5:Int) } none 0 t6)
  case first =>
   have X:=e5.out
   cases hfl:a.till
   ·rw[hfl] at a4
    rw[hfl] at X
    clear hfl
    obtain⟨r5,r⟩:=Prod.mk.inj X
    have aR:=J2 r5 r
    clear X r5 r
    go_wp2
    go_meet
    rw[<- aR.1,<- aR.2]
    exact⟨rfl,d.out⟩
   rw[hfl] at a4
   rw[hfl] at X
   clear hfl
   replace X:=zh X
   have am:=zh<|p9 _ p t5 wc d.1
   rw[show t5.num 8=(v5,t6) from X.out] at am
   dsimp only at am
   go_wp2_with fail
   refine am.mono ?_
   rintro e x5⟨rfl,f,j⟩
   have Y:=zh<|d.read h.out f j
   clear am f j
   have c6:=(fq Y.2.2.1).2.2.2.2.2.2.1
   have z6:=dP Y.2.2.1 6
   go_wp2
   go_meet
   exact⟨rfl,ja.set (o2:={ gY with kind:=(i:Int),path:=v0,goal:=q,fd:=(y:Int),at_:=(v3:Int),n:=(v4:Int),till:=(v5:Int) }) (Y.out) h.out rfl rfl rfl⟩
  obtain⟨rfl,l⟩:=hcut
  clear d a4
  have d:=zh l
  clear l
  have a5:=(jS d.2.2.2.1).2.2.2.2.2.1
  go_upto_if 53 with fail
  go_cut [4] from 53 to 56 (fun z B=>z=.pointer (some ⟨p,0,none⟩)/\ja w B p m r u a { gY with kind:=(i:Int),path:=v0,goal:=q,fd:=(y:Int),at_:=(v3:Int),n:=(v4:Int),till:=(v5:Int),snap:=(v6:Int) } none 0 t7)
  case first =>
   have Z:=e6.out
   cases hfl:a.snap
   ·rw[hfl] at a5
    rw[hfl] at Z
    clear hfl
    obtain⟨r6,u⟩:=Prod.mk.inj Z
    have aS:=J2 r6 u
    clear Z r6 u
    go_wp2
    go_meet
    rw[<- aS.1,<- aS.2]
    exact⟨rfl,d.out⟩
   rw[hfl] at a5
   rw[hfl] at Z
   clear hfl
   replace Z:=zh Z
   have an:=zh<|iB _ p t6 wc d.1
   rw[show t6.num 2=(v6,t7) from Z.out] at an
   dsimp only at an
   go_wp2_with fail
   refine an.mono ?_
   rintro e x6⟨rfl,f,j⟩
   have aa:=zh<|d.read h.out f j
   clear an f j
   have c7:=(fq aa.2.2.1).2.2.2.2.2.2.2.1
   have z7:=dP aa.2.2.1 7
   go_wp2
   go_meet
   exact⟨rfl,ja.set (o2:={ gY with kind:=(i:Int),path:=v0,goal:=q,fd:=(y:Int),at_:=(v3:Int),n:=(v4:Int),till:=(v5:Int),snap:=(v6:Int) }) (aa.out) h.out rfl rfl rfl⟩
  obtain⟨rfl,l⟩:=hcut
  clear d a5
  have d:=zh l
  clear l
  have a6:=(jS d.2.2.2.1).2.2.2.2.2.2
  go_upto_if 58 with fail
  go_cut [4] from 58 to 61 (fun z B=>z=.pointer (some ⟨p,0,none⟩)/\∃E cd,ja w B p m r u a { gY with kind:=(i:Int),path:=v0,goal:=q,fd:=(y:Int),at_:=(v3:Int),n:=(v4:Int),till:=(v5:Int),snap:=(v6:Int),data:=v7 } E cd t8)
  case first =>
   have b7:=e7.out
   cases hfl:a.data
   ·rw[hfl] at a6
    rw[hfl] at b7
    clear hfl
    obtain⟨r7,g7⟩:=Prod.mk.inj b7
    have aT:=J2 r7 g7
    clear b7 r7 g7
    go_wp2
    go_meet
    rw[<- aT.1,<- aT.2]
    exact⟨rfl,none,0,d.out⟩
   rw[hfl] at a6
   rw[hfl] at b7
   clear hfl
   replace b7:=zh b7
   have ao:=zh<|kQ _ p t7 wc d.1
   rw[show t7.Qj=(v7,t8) from b7.out] at ao
   dsimp only at ao
   go_wp2_with fail
   refine ao.mono ?_
   rintro e x7⟨⟨A7,c7,rfl,o7⟩,f,j⟩
   have ab:=zh<|d.read h.out f j
   have aU:=J2 o7 (show r<wc.heap.size from(Array.getElem?_eq_some_iff.1 d.2.2.1).1)
   clear o7 ao f j
   have c8:=(fq ab.2.2.1).2.2.2.2.2.2.2.2
   have z8:=dP ab.2.2.1 8
   go_wp2
   go_meet
   exact⟨rfl,A7,c7,(ab.out).setData h.out aU.1 aU.2⟩
  obtain⟨rfl,E,cd,l⟩:=hcut
  clear d a6
  have d:=zh l
  clear l
  have aC:=zh<|qD _ p t8 wc d.1
  obtain⟨en,aD⟩:=zx (t8.endOf)
  rw[<- aD] at aC
  obtain⟨o8,I⟩:∃o:OpP,o={ gY with kind:=(i:Int),path:=v0,goal:=q,fd:=(y:Int),at_:=(v3:Int),n:=(v4:Int),till:=(v5:Int),snap:=(v6:Int),data:=v7 }:=⟨_,rfl⟩
  obtain⟨rv,aE⟩:=zx (eS o8 a)
  have ap:Hid (dv=if en≠0\/rv≠0 then(gY,12) else(o8,0)):=zh (by rw[x.out,aL.out,aE,aD,I])
  have aq:Hid (ja w wc p m r u a o8 E cd t8):=zh (by rw[I];exact d.out)
  have M:=zh<|tK o8 E cd (k:=o8.kind) (a:=a) (by rw[I];exact aX.out) wc (by rw[I];have:=ag.1;show v0.length<=_;omega) (by rw[I];have:=ag.2.1;show q.length<=_;omega) (by rw[I];have:=ag.2.2;show v7.length<=_;omega)
  rw[<- aE] at M
  clear aD aE I d x aL ag
  unfold fB at M
  unfold dY oe at M
  by_cases h0:en=0
  ·subst h0
   obtain⟨n0,n1,n2,n3,n4,n5,n6,n7,n8⟩:=fq aq.2.2.1
   obtain⟨m0,m1,m2,m3,m4,m5,m6⟩:=jS aq.2.2.2.1
   go_wp2_with fail
   refine aC.mono ?_
   rintro e w8⟨rfl,rfl⟩
   go_wp2_with fail
   refine M.mono ?_
   rintro e w8⟨rfl,k8⟩
   have C:=zh<|aq.new k8
   clear n0 n1 n2 n3 n4 n5 n6 n7 n8 m0 m1 m2 m3 m4 m5 m6 aC M aq k8
   by_cases h1:rv=0
   ·subst h1
    have N:Hid (dv=(o8,0)):=zh (by rw[ap.out];simp)
    obtain⟨n0,n1,n2,n3,n4,n5,n6,n7,n8⟩:=fq C.2.2.1
    obtain⟨d0,d1,d2,d3,d4,d5,d6,d7,d8⟩:=fq C.2.1
    obtain⟨z0,z1,z2,z3,z4,z5,z6,z7,z8⟩:=fz9 C.2.1
    clear ap
    go_wp2_with fail
    clear n0 n1 n2 n3 n4 n5 n6 n7 n8 d0 d1 d2 d3 d4 d5 d6 d7 d8 z0 z1 z2 z3 z4 z5 z6 z7 z8
    obtain⟨hE,aV⟩:=Fe C.2.1 o8 E cd
    generalize ba:World.setCell _ _ _=wE at *
    obtain⟨a8,bb⟩:=dv
    obtain⟨rfl,rfl⟩:=Prod.mk.inj N.out
    obtain⟨f0,f1,f2,f3,f4,f5,f6,f7,f8⟩:=fq hE
    refine Zb (.tuple #[fB a8 E cd,.int .i64 0]) (by simp[results,results129,go_sem,fB,dY,f0,f1,f2,f3,f4,f5,f6,f7,f8]) ?_
    have hg:=h.1
    exact⟨⟨E,cd,rfl,eP C.2.2.2.2.2 aV fun k hk e=>mK C.2.2.2.2.2 C.2.1 Zd (by rw[hk,e])⟩,C.2.2.2.2.1.Qd aV fun b hb _=>by show b≠m;omega⟩
   skip
   have N:Hid (dv=(gY,12)):=zh (by rw[ap.out];simp[h1])
   have L:=au.out
   rw[N.out] at L
   exact absurd L (show ¬(12:Int)=0 by decide)
  skip
  have N:Hid (dv=(gY,12)):=zh (by rw[ap.out];simp[h0])
  have L:=au.out
  rw[N.out] at L
  exact absurd L (show ¬(12:Int)=0 by decide)
end
theorem DT(x rest:List UInt8)(h:x.length<=65535):RdS.Qj ⟨dU x++rest,0⟩=(x,⟨rest,0⟩):=by
 have e:dU x++rest=beI 2 ((x.length:Nat):Int)++(x++rest):=by
  unfold dU
  rw[Nat.min_eq_left h,List.take_of_length_le h,List.append_assoc]
 obtain⟨m,hm,hn⟩:=lm 2 (x.length:Int) (x++rest) zo zo
 unfold RdS.Qj
 rw[e,hm]
 dsimp only
 rw[hn]
 unfold RdS.raw
 dsimp only
 rw[if_neg (by rw[zL];omega)]
 by_cases a:x.length=0
 ·obtain rfl:=List.eq_nil_of_length_eq_zero a
  rw[if_pos (.inr Zd)];rfl
 rw[if_neg (fun h=>h.elim (fun h=>h rfl) fun h=>by omega)]
 simp
def strip(a:ji)(o:OpP):OpP :=
 ⟨o.kind,if a.path then o.path else[],if a.goal then o.goal else[],if a.fd then o.fd else 0,if a.part then o.at_ else 0,if a.part then o.n else 0,if a.till then o.till else 0,if a.snap then o.snap else 0,if a.data then o.data else[]⟩
theorem wV{b:Bool}{rest:List UInt8}(h:b=true->x.length<=65535):wW b ⟨(if b then dU x else[])++rest,0⟩=(if b then x else[],⟨rest,0⟩):=by
 cases b
 ·rfl
 exact DT x rest (h rfl)
theorem qZ{b:Bool}{n:Int}{rest:List UInt8}(h0:b=true->0<=n)(h1:b=true->n<256^k):∃m:Nat,uo b k ⟨(if b then beI k n else[])++rest,0⟩=(m,⟨rest,0⟩)/\(m:Int)=if b then n else 0:=by
 cases b
 ·exact⟨0,rfl,rfl⟩
 exact lm k n rest (h0 rfl) (h1 rfl)
theorem AA{a:ji}(h:eS o a=0):(a.path=true->o.path.length<=200)/\(a.goal=true->o.goal.length<=200)/\(a.data=true->o.data.length<=600)/\(a.fd=true->0<=o.fd/\o.fd<=65535)/\(a.part=true->0<=o.at_/\o.at_<=65535)/\(a.part=true->0<=o.n/\o.n<=65535)/\(a.snap=true->0<=o.snap/\o.snap<=65535):=by
 unfold eS at h
 split at h
 ·cases h
 rename_i hl
 split at h
 ·cases h
 rename_i hw
 unfold hU at hl
 unfold iQ jF at hw
 obtain⟨p,g,f,q,t,s,d⟩:=a
 dsimp only at hl hw ⊢
 simp only[Bool.or_eq_true,Bool.and_eq_true,Bool.not_eq_true',decide_eq_true_eq,not_or,not_and,Bool.and_eq_false_iff,decide_eq_false_iff_not] at hl hw
 refine⟨fun e=>?_,fun e=>?_,fun e=>?_,fun e=>?_,fun e=>?_,fun e=>?_,fun e=>?_⟩
 ·have:=hl.1.1 e;omega
 ·have:=hl.1.2 e;omega
 ·have:=hl.2 e;omega
 ·have:=hw.1.1 e;omega
 ·have:=hw.1.2 e;omega
 ·have:=hw.1.2 e;omega
 have:=hw.2 e;omega
theorem xY{a:ji}(h:eS o a=0):eS (strip a o) a=0:=by
 rw[<- h]
 obtain⟨p,g,f,q,t,s,d⟩:=a
 unfold eS hU iQ strip
 cases p <;> cases g <;> cases f <;> cases q <;> cases s <;> cases d <;> rfl
theorem GY{a:ji}(hk:iR o.kind=some a)(hr:eS o a=0)(ht0:0<=o.till)(ht1:o.till<=18446744073709551615):pJ (fN o a)=(strip a o,0):=by
 obtain⟨H,I,J,g,i,j,l⟩:=AA hr
 have m:0<=o.kind/\o.kind<256:=by
  rcases Cm o.kind with h|h|h|h|h|h|h|h|h|h|h|h|h|h|h|h|h|⟨h1,h2,h3,K,h5,h6,h7,L,M,p,q,r,u,v,w,z,A⟩
  case inr.inr.inr.inr.inr.inr.inr.inr.inr.inr.inr.inr.inr.inr.inr.inr.inr=>rw[vY h1 h2 h3 K h5 h6 h7 L M p q r u v w z A] at hk;cases hk
  all_goals omega
 have e:fN o a=beI 1 o.kind++((if a.path then dU o.path else[])++((if a.goal then dU o.goal else[])++((if a.fd then beI 2 o.fd else[])++((if a.part then beI 2 o.at_ else[])++((if a.part then beI 2 o.n else[])++((if a.till then beI 8 o.till else[])++((if a.snap then beI 2 o.snap else[])++((if a.data then dU o.data else[])++[])))))))):=by
  unfold fN ll lk lj li lh lg lf
  cases a.part <;> simp[List.append_assoc]
 obtain⟨k,B,c⟩:=lm 1 o.kind ((if a.path then dU o.path else[])++((if a.goal then dU o.goal else[])++((if a.fd then beI 2 o.fd else[])++((if a.part then beI 2 o.at_ else[])++((if a.part then beI 2 o.n else[])++((if a.till then beI 8 o.till else[])++((if a.snap then beI 2 o.snap else[])++((if a.data then dU o.data else[])++[])))))))) m.1 zo
 obtain⟨f,C,D⟩:=qZ (b:=a.fd) (k:=2) (n:=o.fd) (rest:=(if a.part then beI 2 o.at_ else[])++((if a.part then beI 2 o.n else[])++((if a.till then beI 8 o.till else[])++((if a.snap then beI 2 o.snap else[])++((if a.data then dU o.data else[])++[]))))) (fun e=>(g e).1) (fun e=>by have:=(g e).2;omega)
 obtain⟨x,E,hx2⟩:=qZ (b:=a.part) (k:=2) (n:=o.at_) (rest:=(if a.part then beI 2 o.n else[])++((if a.till then beI 8 o.till else[])++((if a.snap then beI 2 o.snap else[])++((if a.data then dU o.data else[])++[])))) (fun e=>(i e).1) (fun e=>by have:=(i e).2;omega)
 obtain⟨y,F,G⟩:=qZ (b:=a.part) (k:=2) (n:=o.n) (rest:=(if a.till then beI 8 o.till else[])++((if a.snap then beI 2 o.snap else[])++((if a.data then dU o.data else[])++[]))) (fun e=>(j e).1) (fun e=>by have:=(j e).2;omega)
 obtain⟨t,h1,h2⟩:=qZ (b:=a.till) (k:=8) (n:=o.till) (rest:=(if a.snap then beI 2 o.snap else[])++((if a.data then dU o.data else[])++[])) (fun _=>ht0) (fun _=>by omega)
 obtain⟨s,N,O⟩:=qZ (b:=a.snap) (k:=2) (n:=o.snap) (rest:=(if a.data then dU o.data else[])++[]) (fun e=>(l e).1) (fun e=>by have:=(l e).2;omega)
 have d:mU a k ⟨(if a.path then dU o.path else[])++((if a.goal then dU o.goal else[])++((if a.fd then beI 2 o.fd else[])++((if a.part then beI 2 o.at_ else[])++((if a.part then beI 2 o.n else[])++((if a.till then beI 8 o.till else[])++((if a.snap then beI 2 o.snap else[])++((if a.data then dU o.data else[])++[]))))))),0⟩=(strip a o,⟨[],0⟩):=by
  unfold mU
  rw[wV (fun e=>by have:=H e;omega)]
  dsimp only
  rw[wV (fun e=>by have:=I e;omega)]
  dsimp only
  rw[C]
  dsimp only
  rw[E]
  dsimp only
  rw[F]
  dsimp only
  rw[h1]
  dsimp only
  rw[N]
  dsimp only
  rw[wV (fun e=>by have:=J e;omega)]
  dsimp only
  rw[c,D,hx2,G,h2,O]
  rfl
 unfold pJ
 rw[e,B]
 dsimp only
 rw[c,hk]
 dsimp only
 rw[<- c,d]
 dsimp only
 rw[xY hr]
 simp[RdS.endOf]
theorem j'.at_{A:Option Addr}{c:Nat}{ps:List eZ}(h:j' w base A n c ps){p:eZ}(hk:ps[k]?=some p):∃g off A' c',A=some ⟨g,off,none⟩/\w.cell? ⟨g,off+k,none⟩=some (.slice A' p.length c')/\Ps w (fun b=>base<=b) A' p.length p/\p.length<=c'/\c'<=9223372036854775807:=by
 obtain⟨i,h1,h2,h3⟩:=h
 obtain⟨d,rfl⟩:=List.getElem?_eq_some_iff.1 hk
 obtain⟨A',c',e,hc,hm,f⟩:=h3 k d
 obtain⟨g,off,hA,-,-,a⟩:=(Row.Qc h1).2 zo
 exact⟨g,off,A',c',hA,a k _ e,f.imp fun b _ hb=>hb.1,hc,hm⟩
theorem qC{A:Option Addr}(hn:n=0)(hv:vs=[]):Row w D A n size vs:=by
 subst hn hv
 exact⟨by simp,fun h=>absurd h (Nat.lt_irrefl _)⟩
theorem nG(s:List UInt8):∀nm∈(eH s).1,nm.length<=s.length:=by
 intro nm h
 unfold eH at h
 split at h
 ·cases h
 rename_i b r
 split at h
 ·cases h
 split at h
 ·cases h
 split at h
 ·cases h
 have:=nH r [] nm h
 simp at this ⊢
 omega
theorem ta(h:jB [x]=0):(eH x).2=0:=by
 unfold jB at h
 split at h
 ·contradiction
 rename_i h1
 exact Decidable.byContradiction h1
section
variable {w w' w2:World}{c c' c2 c1:Col}{i:fe}{b:Nat}{B:iu}{s s':d'}
theorem sw(s:d')(p:eZ):(gv s p).1.data=[]/\(gv s p).1.names=[]:=by
 unfold gv
 split
 ·exact⟨rfl,rfl⟩
 split <;> exact⟨rfl,rfl⟩
theorem sR(s:d')(o:OpP):(io s o).1.data=[]/\(io s o).1.names=[]:=by
 unfold io
 split
 ·exact⟨rfl,rfl⟩
 split
 ·exact⟨rfl,rfl⟩
 split <;> exact⟨rfl,rfl⟩
theorem ql(s:d')(o:OpP):(fO s o).1=noR (fO s o).1.err:=by
 unfold fO
 split
 ·split <;> rfl
 split <;> rfl
theorem jW.tail{x:ez×d'}{wb:World}{go:Nat}{B3:iu}{D:Option Addr}(hd:x.1.data=[]/\x.1.names=[])(hcd:x.1.data.length<=cd)(HG:go=w0.heap.size/\g=go+1/\Ext w0 c c1/\c1 go=0/\c1 g=f/\(f≠0/\¬i.has f)/\(∀j,g<j->c1 j=0)/\b<w0.heap.size)(_hs:w0.heap.size<=wb.heap.size){k3:New w0 w3}(k4:b_ (fun j=>j<w3.heap.size/\¬i.has (c1 j)) w3 w4)(e4:Ext w3 c1 c3)(h4:ei w4 c3 i b B3 x.2)(kE:b_ (fun j=>j≠g) w4 wE)(hg3:g<w3.heap.size):jW w0 c i b x (.returned (dT x.1 D cd N cn)) wE:=by
 obtain⟨h,k,a,-,d,hf,-,-⟩:=HG
 have e:b_ (fun j=>j<w0.heap.size/\¬i.has (c j)) w0 w4:=ju (c2:=c1) (b_.Qe k3) a k4
 refine⟨⟨D,cd,N,cn,rfl,qC (by rw[hd.1];rfl) (by rw[hd.1];rfl),hcd,qC (by rw[hd.2];rfl) (by rw[hd.2];rfl)⟩,l_ e zo kE,c3,B3,fun j hj=>(e4 j (Nat.lt_of_lt_of_le hj k3.size)).trans (a j hj),h4.reply (by rw[e4 g hg3,d]) hf kE⟩
theorem Ai(h:ei w c i b B s)(hS:fz s)(hk:o.kind=1)(h0:jB [o.path]=0)(hlp:o.path.length<=100000)(_hlg:o.goal.length<=100000)(hm:fD w)(hD:Bs w D E o.data.length o.data)(hd1:o.data.length<=cd)(hd2:cd<=9223372036854775807)(ht0:0<=o.till)(ht1:o.till<=18446744073709551615):
  Calls prog 13 #[.pointer (some ⟨b,0,none⟩),fB o E cd] w (jW w c i b (gv s (eH o.path).1)):=by
 obtain⟨c1,f,wa,wb,go,g,y,H,I,hf,J,a,A,d,hg,K,l,R,x2⟩:=mp c i w o E cd
 have hlt:=h.lt
 have h2:=h.keep l (c':=c1) y fun _ _ _=>trivial
 have L:jK o=some [o.path]:=by unfold jK;rw[hk];rfl
 have u:=zh<|nI (b:=b) o E cd L (by intro z hz;simp only[List.mem_cons,List.not_mem_nil,or_false] at hz;subst hz;assumption) (hm.new l)
 have x:=J7 l x2 h2 R (Row.new hD l) hd1 hd2
 have S:=J8 d hg y (show c1 go=0 by rw[d];exact H) (show c1 g=f by rw[hg,d];exact I) hf (show ∀j,g<j->c1 j=0 from fun j hj=>J j zo) hlt
 have ac:=zh hlp
 have T:=J4 hS h0 ht0 ht1
 obtain⟨r,U⟩:=zx (gv s (eH o.path).1)
 rw[<- U]
 have V:=zh U
 obtain⟨C,W,X,Y,Z,o5,o6,o7,o8⟩:=fq R
 have ad:=J3 a A K
 unfold fB at *
 unfold dY at a ⊢
 rw[hk] at C a ⊢
 clear U hS hD hlt h y H I hf J x2 l h2 R hd1 hd2 ht0 ht1 hlp _hlg hm h0 L
 unfold dY at u
 rw[hk] at u
 have HK:=zh hk
 clear hk
 go_in
 go_upto_region 1 with fail
 rw[<- a,<- A,<- d,<- hg]
 clear a A K d hg ad
 go_wp2_with fail
 refine u.mono ?_
 rintro e w3⟨t,aa⟩
 clear u
 rcases aa with⟨ae,-⟩|⟨-,Ap,cp,rfl,F⟩
 ·exact absurd T.2.1 ae
 have m:=J6 (t.Qa x.2.1 zt) (x.2.2.1.keep t (Ext.refl _ _) fun _ _ _=>zt) (t.Qa x.2.2.2.1 zt) (Row.new x.2.2.2.2.1 t) (x.1.new t) F
 clear t F C W X Y Z o5 o6 o7 o8
 obtain⟨C,W,X,Y,Z,o5,o6,o7,o8⟩:=fq m.2.2.1
 rw[HK.out] at C
 obtain⟨gp,aj,A1,ak,rfl,q1,M,G,ab⟩:=m.2.2.2.2.2.at_ (k:=0) (p:=(eH o.path).1) rfl
 rw[Nat.add_zero] at q1
 have HF:=oz (s:=o.path) (ta T.2.1)
 have HC:=zh<|xO m.2.1 T.1 M (by have:=qT HF;omega) G (fun nm af=>by have h1:=nG _ nm af;have h2:=ac.out;omega)
 rw[<- V.out] at HC
 have ag:Hid (r.1.data=[]/\r.1.names=[]):=zh (by rw[V.out];exact sw _ _)
 obtain⟨q,s9⟩:=r
 generalize (eH o.path).1=p1 at *
 clear HF M V
 go_wp2_with fail
 refine HC.mono ?_
 rintro e w4⟨⟨Dd,O,N,cn,rfl,P,Q,hN⟩,n4,c4,B4,e4,h4⟩
 have H4:=J3 n4 e4 h4
 have y4:w4.heap[g]?=some (.cells #[.int .i64 0,.int .i64 0,.slice none 0 0,.slice none 0 0,.int .i64 0,.int .i64 0,.int .i64 0,.int .i64 0,.int .u64 0,.bool false] 55 (0,0)):=(n4.block g (Array.getElem?_eq_some_iff.1 m.1).1 ⟨(Array.getElem?_eq_some_iff.1 m.1).1,by rw[S.2.2.2.2.1];exact S.2.2.2.2.2.1.2⟩).trans m.1
 have ah:=J3 P Q hN
 clear n4 e4 h4 P Q hN C W X Y Z o5 o6 o7 o8 q1 G ab HC
 obtain⟨d0,d1,d2,d3,d4,d5,d6,d7,d8,d9⟩:=eO y4
 obtain⟨z0,z1,z2,z3,z4,z5,z6,z7,z8,z9⟩:=gC y4
 dsimp only[dT]
 go_wp2_with fail
 clear d0 d1 d2 d3 d4 d5 d6 d7 d8 d9 z0 z1 z2 z3 z4 z5 z6 z7 z8 z9
 obtain⟨hE,ai⟩:=fI y4 (.int .i64 q.err) (.int .i64 q.n) (.slice Dd q.data.length O) (.slice N q.names.length cn) (.int .i64 q.Qq) (.int .i64 q.nd.kind) (.int .i64 q.nd.links) (.int .i64 q.nd.size) (.int .u64 q.nd.till) (.bool q.nd.shut)
 generalize al:World.setCell _ _ _=wE at *
 obtain⟨f0,f1,f2,f3,f4,f5,f6,f7,f8,f9⟩:=eO hE
 try simp only[Exit.inBlock,Exit.then]
 refine Zb (dT q Dd O N cn) (by simp[results,results13,go_sem,f0,f1,f2,f3,f4,f5,f6,f7,f8,f9,dT]) ?_
 exact jW.tail ag.out ah.2.1 S.out x.1.size (k3:=m.2.2.2.2.1) H4.1 H4.2.1 H4.2.2 ai (Array.getElem?_eq_some_iff.1 m.1).1
theorem Dj(h:ei w c i b B s)(hS:fz s)(hk:o.kind=5)(h0:jB []=0)(_hlp:o.path.length<=100000)(_hlg:o.goal.length<=100000)(hm:fD w)(hD:Bs w D E o.data.length o.data)(hd1:o.data.length<=cd)(hd2:cd<=9223372036854775807)(ht0:0<=o.till)(ht1:o.till<=18446744073709551615):
  Calls prog 13 #[.pointer (some ⟨b,0,none⟩),fB o E cd] w (jW w c i b (io s o)):=by
 obtain⟨c1,f,wa,wb,go,g,u,F,G,hf,H,a,x,d,hg,I,k,O,x2⟩:=mp c i w o E cd
 have hlt:=h.lt
 have h2:=h.keep k (c':=c1) u fun _ _ _=>trivial
 have J:jK o=some []:=by unfold jK;rw[hk];rfl
 have t:=zh<|nI (b:=b) o E cd J (by intro z hz;cases hz) (hm.new k)
 have l:=J7 k x2 h2 O (Row.new hD k) hd1 hd2
 have P:=J8 d hg u (show c1 go=0 by rw[d];exact F) (show c1 g=f by rw[hg,d];exact G) hf (show ∀j,g<j->c1 j=0 from fun j hj=>H j zo) hlt
 have HS:=J4 hS h0 ht0 ht1
 obtain⟨r,Q⟩:=zx (io s o)
 rw[<- Q]
 have R:=zh Q
 obtain⟨y,S,T,U,V,W,X,Y,Z⟩:=fq O
 have ab:=J3 a x I
 unfold fB at *
 unfold dY at a ⊢
 rw[hk] at y a ⊢
 clear Q hS hD hlt h u F G hf H x2 k h2 O hd1 hd2 ht0 ht1 _hlp _hlg hm h0 J
 unfold dY at t
 rw[hk] at t
 have HK:=zh hk
 clear hk
 go_in
 go_upto_region 1 with fail
 rw[<- a,<- x,<- d,<- hg]
 clear a x I d hg ab
 go_wp2_with fail
 refine t.mono ?_
 rintro e w3⟨p,aa⟩
 clear t
 rcases aa with⟨ac,-⟩|⟨-,Ap,cp,rfl,A⟩
 ·exact absurd HS.2.1 ac
 have m:=J6 (p.Qa l.2.1 zt) (l.2.2.1.keep p (Ext.refl _ _) fun _ _ _=>zt) (p.Qa l.2.2.2.1 zt) (Row.new l.2.2.2.2.1 p) (l.1.new p) A
 clear p A y S T U V W X Y Z
 obtain⟨y,S,T,U,V,W,X,Y,Z⟩:=fq m.2.2.1
 rw[HK.out] at y
 have C:=zh<|zX (o:=o) (E:=E) (cd:=cd) m.2.1 HS.1 m.2.2.2.1 l.2.2.2.2.2.1 l.2.2.2.2.2.2
 rw[<- R.out] at C
 unfold fB dY at C
 rw[HK.out] at C
 have ad:Hid (r.1.data=[]/\r.1.names=[]):=zh (by rw[R.out];exact sR _ _)
 obtain⟨q,s9⟩:=r
 clear R
 go_wp2_with fail
 refine C.mono ?_
 rintro e w4⟨⟨Dd,K,N,cn,rfl,L,M,hN⟩,n4,c4,B4,e4,h4⟩
 have H4:=J3 n4 e4 h4
 have y4:w4.heap[g]?=some (.cells #[.int .i64 0,.int .i64 0,.slice none 0 0,.slice none 0 0,.int .i64 0,.int .i64 0,.int .i64 0,.int .i64 0,.int .u64 0,.bool false] 55 (0,0)):=(n4.block g (Array.getElem?_eq_some_iff.1 m.1).1 ⟨(Array.getElem?_eq_some_iff.1 m.1).1,by rw[P.2.2.2.2.1];exact P.2.2.2.2.2.1.2⟩).trans m.1
 have ae:=J3 L M hN
 clear n4 e4 h4 L M hN y S T U V W X Y Z C
 obtain⟨d0,d1,d2,d3,d4,d5,d6,d7,d8,d9⟩:=eO y4
 obtain⟨z0,z1,z2,z3,z4,z5,z6,z7,z8,z9⟩:=gC y4
 dsimp only[dT]
 go_wp2_with fail
 clear d0 d1 d2 d3 d4 d5 d6 d7 d8 d9 z0 z1 z2 z3 z4 z5 z6 z7 z8 z9
 obtain⟨hE,af⟩:=fI y4 (.int .i64 q.err) (.int .i64 q.n) (.slice Dd q.data.length K) (.slice N q.names.length cn) (.int .i64 q.Qq) (.int .i64 q.nd.kind) (.int .i64 q.nd.links) (.int .i64 q.nd.size) (.int .u64 q.nd.till) (.bool q.nd.shut)
 generalize ag:World.setCell _ _ _=wE at *
 obtain⟨f0,f1,f2,f3,f4,f5,f6,f7,f8,f9⟩:=eO hE
 try simp only[Exit.inBlock,Exit.then]
 refine Zb (dT q Dd K N cn) (by simp[results,results13,go_sem,f0,f1,f2,f3,f4,f5,f6,f7,f8,f9,dT]) ?_
 exact jW.tail ad.out ae.2.1 P.out l.1.size (k3:=m.2.2.2.2.1) H4.1 H4.2.1 H4.2.2 af (Array.getElem?_eq_some_iff.1 m.1).1
theorem Dk(h:ei w c i b B s)(hS:fz s)(hk:o.kind=6)(h0:jB []=0)(_hlp:o.path.length<=100000)(_hlg:o.goal.length<=100000)(hm:fD w)(hD:Bs w D E o.data.length o.data)(hd1:o.data.length<=cd)(hd2:cd<=9223372036854775807)(ht0:0<=o.till)(ht1:o.till<=18446744073709551615):
  Calls prog 13 #[.pointer (some ⟨b,0,none⟩),fB o E cd] w (jW w c i b (fO s o)):=by
 obtain⟨c1,f,wa,wb,go,g,t,G,H,hf,I,a,u,d,hg,J,k,N,x2⟩:=mp c i w o E cd
 have hlt:=h.lt
 have h2:=h.keep k (c':=c1) t fun _ _ _=>trivial
 have K:jK o=some []:=by unfold jK;rw[hk];rfl
 have n:=zh<|nI (b:=b) o E cd K (by intro z hz;cases hz) (hm.new k)
 have p:=J7 k x2 h2 N (Row.new hD k) hd1 hd2
 have O:=J8 d hg t (show c1 go=0 by rw[d];exact G) (show c1 g=f by rw[hg,d];exact H) hf (show ∀j,g<j->c1 j=0 from fun j hj=>I j zo) hlt
 have C:=J4 hS h0 ht0 ht1
 obtain⟨r,P⟩:=zx (fO s o)
 rw[<- P]
 have Q:=zh P
 obtain⟨y,R,S,T,U,V,W,X,Y⟩:=fq N
 have aa:=J3 a u J
 unfold fB at *
 unfold dY at a ⊢
 rw[hk] at y a ⊢
 clear P hS hD hlt h t G H hf I x2 k h2 N hd1 hd2 ht0 ht1 _hlp _hlg hm h0 K
 unfold dY at n
 rw[hk] at n
 have HK:=zh hk
 clear hk
 go_in
 go_upto_region 1 with fail
 rw[<- a,<- u,<- d,<- hg]
 clear a u J d hg aa
 go_wp2_with fail
 refine n.mono ?_
 rintro e w3⟨l,Z⟩
 clear n
 rcases Z with⟨ab,-⟩|⟨-,Ap,cp,rfl,A⟩
 ·exact absurd C.2.1 ab
 have m:=J6 (l.Qa p.2.1 zt) (p.2.2.1.keep l (Ext.refl _ _) fun _ _ _=>zt) (l.Qa p.2.2.2.1 zt) (Row.new p.2.2.2.2.1 l) (p.1.new l) A
 clear l A y R S T U V W X Y
 obtain⟨y,R,S,T,U,V,W,X,Y⟩:=fq m.2.2.1
 rw[HK.out] at y
 have F:=zh<|Aj (o:=o) (E:=E) (cd:=cd) m.2.1 C.1 C.2.2.1 C.2.2.2
 have L:r=(noR (fO s o).1.err,(fO s o).2):=by rw[Q.out,<- ql]
 generalize (fO s o).1.err=q at *
 generalize (fO s o).2=s9 at *
 replace Q:=zh L
 unfold fB dY at F
 rw[HK.out] at F
 clear L
 go_wp2_with fail
 refine F.mono ?_
 rintro e w4⟨rfl,n4,c4,B4,e4,h4⟩
 have H4:=J3 n4 e4 h4
 have y4:w4.heap[g]?=some (.cells #[.int .i64 0,.int .i64 0,.slice none 0 0,.slice none 0 0,.int .i64 0,.int .i64 0,.int .i64 0,.int .i64 0,.int .u64 0,.bool false] 55 (0,0)):=(n4.block g (Array.getElem?_eq_some_iff.1 m.1).1 ⟨(Array.getElem?_eq_some_iff.1 m.1).1,by rw[O.2.2.2.2.1];exact O.2.2.2.2.2.1.2⟩).trans m.1
 clear n4 e4 h4 y R S T U V W X Y F
 go_wp2_with fail
 refine(nJ _ w4).mono ?_
 rintro e w5⟨rfl,k5⟩
 have M:=zh k5
 have y5:=k5.Qa y4 trivial
 obtain⟨d0,d1,d2,d3,d4,d5,d6,d7,d8,d9⟩:=eO y5
 obtain⟨z0,z1,z2,z3,z4,z5,z6,z7,z8,z9⟩:=gC y5
 unfold dT noR ez.Qq ez.nd
 clear k5 y4
 go_wp2_with fail
 clear d0 d1 d2 d3 d4 d5 d6 d7 d8 d9 z0 z1 z2 z3 z4 z5 z6 z7 z8 z9
 obtain⟨hE,ac⟩:=fI y5 (.int .i64 q) (.int .i64 0) (.slice none 0 0) (.slice none 0 0) (.int .i64 0) (.int .i64 0) (.int .i64 0) (.int .i64 0) (.int .u64 0) (.bool false)
 generalize ad:World.setCell _ _ _=wE at *
 obtain⟨f0,f1,f2,f3,f4,f5,f6,f7,f8,f9⟩:=eO hE
 try simp only[Exit.inBlock,Exit.then]
 refine Zb (dT (noR q) none 0 none 0) (by simp[results,results13,go_sem,f0,f1,f2,f3,f4,f5,f6,f7,f8,f9,dT,noR,ez.Qq,ez.nd]) ?_
 rw[Q.out]
 exact jW.tail (x:=(noR q,s9)) ⟨rfl,rfl⟩ zr O.out p.1.size (k3:=m.2.2.2.2.1) (H4.1.new M.out) H4.2.1 (H4.2.2.new M.out) ac (Array.getElem?_eq_some_iff.1 m.1).1
end
section
variable {w w' w2:World}{c c' c2 c1:Col}{i:fe}{b:Nat}{B:iu}{s s':d'}
theorem EU(h:ei w c i b B s):Calls prog 135 #[.pointer (some ⟨b,0,none⟩),.int .i64 0] w fun e w'=>e=.returned (.tuple #[.pointer (some ⟨B.bt,0,none⟩),.int .i64 0])/\w=w':=by
 have a:w.cell? ⟨b,0,none⟩=some (.pointer (some ⟨B.bt,0,none⟩)):=a_ h.state (k:=0) rfl
 go_in
 go_wp2
 refine Zb (.tuple #[.pointer (some ⟨B.bt,0,none⟩),.int .i64 0]) (by simp[results,results135,go_sem]) ?_
 exact⟨rfl,rfl⟩
theorem CZ(s:d')(o:OpP)(p:eZ)(hk:o.kind=12):(pz s o p).data=[]/\(pz s o p).names=[]:=by
 unfold pz
 simp only[hk,if_true]
 split
 ·exact⟨rfl,rfl⟩
 split
 ·exact⟨rfl,rfl⟩
 split
 ·exact⟨rfl,rfl⟩
 exact⟨rfl,rfl⟩
theorem Bi(h:eo T){p:eZ}(he:(j6 T p).2=0):∃it,dN T (j6 T p).1=some it:=by
 unfold j6 at he ⊢
 split at he
 ·rename_i hf;exact absurd he hf
 rename_i hf
 rw[if_neg hf]
 have h0:(dN T 0).isSome:=by
  have:=h.root
  unfold iP at this
  cases hg:dN T 0 with
  | none=>rw[hg] at this;cases this
  | some _=>rfl
 have:=oX h p 0 h0 (fL T 0 p).1 (Prod.ext rfl he)
 obtain⟨it,a⟩:=Option.isSome_iff_exists.1 this
 exact⟨it,a⟩
theorem Ac(h:ei w c i b B s)(hS:fz s){D2:Nat->Prop}(hk:o.kind=12)(hsn:o.snap=0){A:Option Addr}{p:eZ}(hR:Ps w D2 A n p)(hn:n<=1000)(hs:∀nm∈p,nm.length<=1099511627776):
  Calls prog 58 #[.pointer (some ⟨b,0,none⟩),fB o E cd,.slice A n cp] w (jW w c i b (pz s o p,s)):=by
 obtain⟨c1,f,wa,wb,go,g,y,N,O,hf,P,d,z,q,hg,Q,t,xo,x2⟩:=mp c i w o E cd
 have hlt:=h.lt
 have h2:=h.keep t (c':=c1) y fun _ _ _=>trivial
 have C:=J4 t x2 h2 (Row.new hR t)
 have HG:=J8 q hg y (show c1 go=0 by rw[q];exact N) (show c1 g=f by rw[hg,q];exact O) hf (show ∀j,g<j->c1 j=0 from fun j hj=>P j zo) hlt
 have R:=zh<|EU h2
 have S:=zh<|C1 h2.tree hS.tree (cp:=cp) (Row.new hR t) zo hs
 obtain⟨r,W⟩:=zx (pz s o p)
 rw[<- W]
 have M:Hid (r=if (j6 s.T p).2≠0 then noR (j6 s.T p).2 else match dN s.T (j6 s.T p).1 with
  | none=>noR 0
  | some a=>{ noR 0 with node:=some ((j6 s.T p).1,a.n) }):=zh (by
  rw[W];unfold pz EG;rw[if_pos hsn];dsimp only
  split
  ·rfl
  cases dN s.T (j6 s.T p).1 with
  | none=>rfl
  | some a=>first|rfl|exact if_pos hk)
 have D:Hid ((j6 s.T p).2=0->∃a,dN s.T (j6 s.T p).1=some a):=zh (Bi hS.tree)
 have aa:=zh hS.tree
 obtain⟨F,o1,o2,o3,o4,o5,o6,o7,o8⟩:=fq xo
 have ab:=J3 d z Q
 generalize ac:(j6 s.T p).1=id at *
 generalize ad:(j6 s.T p).2=k at *
 unfold fB at *
 unfold dY at d ⊢
 rw[hk] at F d ⊢
 rw[hsn] at o7 d ⊢
 clear ac ad W hS hR hlt h y N O hf P x2 t h2 xo hn hs o1 o2 o3 o4 o5 o6 o8 hk hsn
 go_in
 go_upto_region 1 with fail
 rw[<- d,<- z,<- q,<- hg]
 clear d z Q q hg ab
 go_wp2_with fail
 refine R.mono ?_
 rintro e X⟨rfl,rfl⟩
 go_wp2_with fail
 refine S.mono ?_
 rintro e X⟨rfl,u⟩
 have m:=J3 (u.Qa C.2.1 zt) (C.2.2.1.new u) (C.1.new u)
 have G:Hid (X.cell? ⟨go,0,none⟩=some (.int .i64 12)):=zh (u.Qb F zt)
 clear R S u F o7
 by_cases h0:k=0
 ·subst h0
  have HE:Hid (∃a,dN s.T id=some a/\r={ noR 0 with node:=some (id,a.n) }):=zh (by
   obtain⟨a,l⟩:=D.out rfl
   refine⟨a,l,?_⟩
   rw[M.out,if_neg Zd,l])
  obtain⟨a,l,U⟩:=HE.out
  have Y:=aa.ids id a l
  have H:=zh<|CW m.2.1.tree l zo zo
  have I:=zh U
  clear HE M D l U Y
  unfold nR at H
  have F:=G.out
  go_wp2_with fail
  refine H.mono ?_
  rintro e Z⟨rfl,k4⟩
  have kA:=k4.alloc (.cells #[.int .i64 id,.int .i64 a.n.kind,.int .i64 a.n.links,.int .i64 a.n.size,.int .u64 a.n.till,.bool a.n.shut] 53)
  have xA:=heap_alloc_new Z (.cells #[.int .i64 id,.int .i64 a.n.kind,.int .i64 a.n.links,.int .i64 a.n.size,.int .u64 a.n.till,.bool a.n.shut] 53)
  obtain⟨w5,J⟩:=zx (Z.alloc (.cells #[.int .i64 id,.int .i64 a.n.kind,.int .i64 a.n.links,.int .i64 a.n.size,.int .u64 a.n.till,.bool a.n.shut] 53))
  rw[<- J] at kA xA
  have K:=J3 kA xA J
  clear k4 kA xA J H F G
  go_upto_region 9 with fail
  rw[<- K.2.2]
  generalize Z.heap.size=gn at *
  obtain⟨n0,n1,n2,n3,n4,n5⟩:=cs6 K.2.1
  have y4:=K.1.Qa m.1 trivial
  obtain⟨d0,d1,d2,d3,d4,d5,d6,d7,d8,d9⟩:=eO y4
  obtain⟨z0,z1,z2,z3,z4,z5,z6,z7,z8,z9⟩:=gC y4
  go_wp2_with fail
  clear d0 d1 d2 d3 d4 d5 d6 d7 d8 d9 z0 z1 z2 z3 z4 z5 z6 z7 z8 z9 n0 n1 n2 n3 n4 n5
  obtain⟨hE,L⟩:=fI y4 (.int .i64 0) (.int .i64 0) (.slice none 0 0) (.slice none 0 0) (.int .i64 id) (.int .i64 a.n.kind) (.int .i64 a.n.links) (.int .i64 a.n.size) (.int .u64 a.n.till) (.bool a.n.shut)
  generalize ae:World.setCell _ _ _=wE at *
  obtain⟨f0,f1,f2,f3,f4,f5,f6,f7,f8,f9⟩:=eO hE
  try simp only[Exit.inBlock,Exit.then]
  refine Zb (dT { noR 0 with node:=some (id,a.n) } none 0 none 0) (by simp[results,results58,go_sem,f0,f1,f2,f3,f4,f5,f6,f7,f8,f9,dT,noR,ez.Qq,ez.nd]) ?_
  rw[I.out]
  exact jW.tail (x:=({ noR 0 with node:=some (id,a.n) },s)) ⟨rfl,rfl⟩ zr HG.out C.1.size (k3:=m.2.2) (b_.Qe K.1) (Ext.refl _ _) (m.2.1.new K.1) L (Array.getElem?_eq_some_iff.1 m.1).1
 have I:Hid (r=noR k):=zh (by rw[M.out,if_pos h0])
 have af:(k !=0)=true:=by simpa using h0
 clear M D G h0
 go_wp2_with fail
 refine(nJ _ X).mono ?_
 rintro e w5⟨rfl,k5⟩
 have V:=zh k5
 have y5:=k5.Qa m.1 trivial
 obtain⟨d0,d1,d2,d3,d4,d5,d6,d7,d8,d9⟩:=eO y5
 obtain⟨z0,z1,z2,z3,z4,z5,z6,z7,z8,z9⟩:=gC y5
 unfold dT noR ez.Qq ez.nd
 clear k5
 go_wp2_with fail
 clear d0 d1 d2 d3 d4 d5 d6 d7 d8 d9 z0 z1 z2 z3 z4 z5 z6 z7 z8 z9
 obtain⟨hE,L⟩:=fI y5 (.int .i64 k) (.int .i64 0) (.slice none 0 0) (.slice none 0 0) (.int .i64 0) (.int .i64 0) (.int .i64 0) (.int .i64 0) (.int .u64 0) (.bool false)
 generalize ae:World.setCell _ _ _=wE at *
 obtain⟨f0,f1,f2,f3,f4,f5,f6,f7,f8,f9⟩:=eO hE
 try simp only[Exit.inBlock,Exit.then]
 refine Zb (dT (noR k) none 0 none 0) (by simp[results,results58,go_sem,f0,f1,f2,f3,f4,f5,f6,f7,f8,f9,dT,noR,ez.Qq,ez.nd]) ?_
 rw[I.out]
 exact jW.tail (x:=(noR k,s)) ⟨rfl,rfl⟩ zr HG.out C.1.size (k3:=m.2.2) (b_.Qe V.out) (Ext.refl _ _) (m.2.1.new V.out) L (Array.getElem?_eq_some_iff.1 m.1).1
end
section
variable {w w' w2:World}{c c' c2 c1:Col}{i:fe}{b:Nat}{B:iu}{s s':d'}
theorem xK(h:ei w c i b B s)(hS:fz s)(hk:o.kind=12)(h0:jB [o.path]=0)(hlp:o.path.length<=100000)(_hlg:o.goal.length<=100000)(hm:fD w)(hD:Bs w D E o.data.length o.data)(hd1:o.data.length<=cd)(hd2:cd<=9223372036854775807)(ht0:0<=o.till)(ht1:o.till<=18446744073709551615)(hsn:o.snap=0):
  Calls prog 13 #[.pointer (some ⟨b,0,none⟩),fB o E cd] w (jW w c i b ((pz s o (eH o.path).1,s))):=by
 obtain⟨c1,f,wa,wb,go,g,y,I,J,hf,K,a,A,d,hg,L,l,S,x2⟩:=mp c i w o E cd
 have hlt:=h.lt
 have h2:=h.keep l (c':=c1) y fun _ _ _=>trivial
 have M:jK o=some [o.path]:=by unfold jK;rw[hk];rfl
 have u:=zh<|nI (b:=b) o E cd M (by intro z hz;simp only[List.mem_cons,List.not_mem_nil,or_false] at hz;subst hz;assumption) (hm.new l)
 have x:=J7 l x2 h2 S (Row.new hD l) hd1 hd2
 have T:=J8 d hg y (show c1 go=0 by rw[d];exact I) (show c1 g=f by rw[hg,d];exact J) hf (show ∀j,g<j->c1 j=0 from fun j hj=>K j zo) hlt
 have ad:=zh hlp
 have U:=J4 hS h0 ht0 ht1
 obtain⟨r,V⟩:=zx ((pz s o (eH o.path).1,s):ez×d')
 rw[<- V]
 have W:=zh V
 obtain⟨C,X,Y,Z,o4,o5,o6,o7,o8⟩:=fq S
 have ae:=J3 a A L
 have af:=zh hsn
 clear hsn
 unfold fB at *
 unfold dY at a ⊢
 rw[hk] at C a ⊢
 clear V hS hD hlt h y I J hf K x2 l h2 S hd1 hd2 ht0 ht1 hlp _hlg hm h0 M
 unfold dY at u
 rw[hk] at u
 have H:=zh hk
 clear hk
 go_in
 go_upto_region 1 with fail
 rw[<- a,<- A,<- d,<- hg]
 clear a A L d hg ae
 go_wp2_with fail
 refine u.mono ?_
 rintro e w3⟨t,aa⟩
 clear u
 rcases aa with⟨ag,-⟩|⟨-,Ap,cp,rfl,F⟩
 ·exact absurd U.2.1 ag
 have m:=J6 (t.Qa x.2.1 zt) (x.2.2.1.keep t (Ext.refl _ _) fun _ _ _=>zt) (t.Qa x.2.2.2.1 zt) (Row.new x.2.2.2.2.1 t) (x.1.new t) F
 clear t F C X Y Z o4 o5 o6 o7 o8
 obtain⟨C,X,Y,Z,o4,o5,o6,o7,o8⟩:=fq m.2.2.1
 rw[H.out] at C
 obtain⟨gp,an,A1,ah,rfl,q1,O,ab,ac⟩:=m.2.2.2.2.2.at_ (k:=0) (p:=(eH o.path).1) rfl
 rw[Nat.add_zero] at q1
 have HF:=oz (s:=o.path) (ta U.2.1)
 have G:=zh<|Ac (o:=o) (E:=E) (cd:=cd) (m.2.1.new (zN w3).drew) U.1 H.out af.out (Row.new O (zN w3).drew) (by have:=qT HF;omega) (cp:=ah) (fun nm ai=>by have h1:=nG _ nm ai;have h2:=ad.out;omega)
 rw[<- W.out] at G
 unfold fB dY at G
 rw[H.out] at G
 have aj:Hid (r.1.data=[]/\r.1.names=[]):=zh (by rw[W.out];exact CZ _ _ _ H.out)
 obtain⟨q,s9⟩:=r
 generalize (eH o.path).1=p1 at *
 clear HF O W
 have ak:=zh<|(zN w3).drew
 go_wp2_with fail
 go_region_with (go_at_call 58;refine G.mono ?_;rintro e w4 ⟨⟨Dd,P,N,cn,rfl,Q,R,hN⟩,n4,c4,B4,e4,h4⟩;have H4:=J3 n4 e4 h4;have y4:w4.heap[g]?=some (.cells #[.int .i64 0,.int .i64 0,.slice none 0 0,.slice none 0 0,.int .i64 0,.int .i64 0,.int .i64 0,.int .i64 0,.int .u64 0,.bool false] 55 (0,0)):=(n4.block g (Array.getElem?_eq_some_iff.1 m.1).1 ⟨(Array.getElem?_eq_some_iff.1 m.1).1,by rw[T.2.2.2.2.1];exact T.2.2.2.2.2.1.2⟩).trans m.1;have al:=J3 Q R hN;clear n4 e4 h4 Q R hN C X Y Z o4 o5 o6 o7 o8 q1 ab ac;obtain⟨d0,d1,d2,d3,d4,d5,d6,d7,d8,d9⟩:=eO y4;obtain⟨z0,z1,z2,z3,z4,z5,z6,z7,z8,z9⟩:=gC y4;dsimp only[dT])
 all_goals
  clear G d0 d1 d2 d3 d4 d5 d6 d7 d8 d9 z0 z1 z2 z3 z4 z5 z6 z7 z8 z9
  obtain⟨hE,am⟩:=fI y4 (.int .i64 q.err) (.int .i64 q.n) (.slice Dd q.data.length P) (.slice N q.names.length cn) (.int .i64 q.Qq) (.int .i64 q.nd.kind) (.int .i64 q.nd.links) (.int .i64 q.nd.size) (.int .u64 q.nd.till) (.bool q.nd.shut)
  generalize ao:World.setCell _ _ _=wE at *
  obtain⟨f0,f1,f2,f3,f4,f5,f6,f7,f8,f9⟩:=eO hE
  try simp only[Exit.then]
  try go_wp2
  refine Zb (dT q Dd P N cn) (by simp[results,results13,go_sem,f0,f1,f2,f3,f4,f5,f6,f7,f8,f9,dT]) ?_
  exact jW.tail aj.out al.2.1 T.out x.1.size (k3:=m.2.2.2.2.1.new ak.out) H4.1 H4.2.1 H4.2.2 am (Array.getElem?_eq_some_iff.1 m.1).1
end
theorem Bq:(prog.info? 9).map (fun i=>(i.zero.map fun z=>z.cells.size,i.size,i.bytes))=some (some 1,1,16):=zk
def ld(s:List UInt8)(f k:Nat):List (List UInt8):=if k<=s.length then jc ((s.take k).drop f) (s.drop k) else[]
theorem EZ{s:List UInt8}:ld s f s.length=[(s.take s.length).drop f]:=by
 unfold ld
 rw[if_pos zr,List.drop_eq_nil_of_le zr]
 rfl
theorem vn{s:List UInt8}(h:s.length<k):ld s f k=[]:=if_neg zo
theorem EY{s:List UInt8}(hk:k<s.length)(h:s[k]=47):ld s f k=(s.take k).drop f::ld s (k+1) (k+1):=by
 unfold ld
 rw[if_pos zo,if_pos zo,List.drop_eq_getElem_cons hk,List.drop_take_self]
 conv=>lhs;unfold jc
 rw[if_pos h]
theorem Dv{s:List UInt8}(hk:k<s.length)(hf:f<=k)(h:s[k]≠47):ld s f k=ld s f (k+1):=by
 unfold ld
 rw[if_pos zo,if_pos zo,List.drop_eq_getElem_cons hk]
 conv=>lhs;unfold jc
 rw[if_neg h,List.take_succ_eq_append_getElem hk,List.drop_append_of_le_length (by rw[List.length_take];omega)]
theorem GI(s:List UInt8)(f k:Nat):(dR s).extract f k=dR ((s.take k).drop f):=by
 apply ByteArray.ext
 rw[ByteArray.data_extract]
 show s.toArray.extract f k=((s.take k).drop f).toArray
 rw[List.extract_toArray,List.extract_eq_take_drop,List.drop_take]
theorem F2(h:nm∈L)(hb:ep nm=false):el L=12:=by
 unfold el
 rw[if_neg fun e=>by have:=List.all_eq_true.1 e nm h;rw[hb] at this;cases this]
theorem vc{s:List UInt8}(h1:s≠[47])(h2:0<s.length)(h3:s[0]=47):eH s=if el (gK (s.drop 1))≠0 then([],el (gK (s.drop 1))) else(gK (s.drop 1),0):=by
 cases s with
 | nil=>cases h2
 | cons b t =>
  obtain rfl:b=47:=h3
  have h0:¬((47:UInt8)≠47):=Zd
  have ht:t≠[]:=fun e=>h1 (by rw[e])
  unfold eH
  dsimp only
  rw[if_neg h0,if_neg ht]
  rfl
theorem Aq(s:List UInt8)(hs:s.length<=100000)(w:World):Calls prog 85 #[.string (dR s)] w fun e w' =>
  (∃A n c,e=.returned (.tuple #[.slice A n c,.int .i64 (eH s).2])/\Ps w' (fun b=>w.heap.size<=b) A n (eH s).1/\n<=c/\c<=9223372036854775807)/\New w w':=by
 have ak:(dR s).size=s.length:=by show s.toArray.size=_;rw[List.size_toArray]
 have Z:∀k (h:k<s.length) (h2:k<(dR s).size),(((dR s)[k]'h2).toNat:Int)=bv s[k]:=fun k h h2=>rfl
 have C:=zh Z
 clear Z
 obtain⟨r,V⟩:=zx (eH s)
 rw[<- V]
 have G:=zh V
 clear V
 by_cases h1:s=[47]
 ·have d:Hid (r=([],0)):=zh (by rw[G.out,h1];rfl)
  have e1:(s==[47])=true:=beq_iff_eq.2 h1
  clear h1 C
  go_in
  go_wp2
  refine Zb (.tuple #[.slice none 0 0,.int .i64 0]) (by simp[results,results85,go_sem]) ?_
  rw[d.out]
  exact⟨⟨none,0,0,rfl,Row.nil _ _ _ _,zr,Zd⟩,zN w⟩
 have e1:(s==[47])=false:=beq_eq_false_iff_ne.2 h1
 by_cases h2:s.length=0
 ·have H:s=[]:=List.eq_nil_of_length_eq_zero h2
  have d:Hid (r=([],12)):=zh (by rw[G.out,H];rfl)
  have M:((s.length:Int)==0)=true:=beq_iff_eq.2 zo
  clear h1 h2 C H
  go_in
  go_wp2
  refine Zb (.tuple #[.slice none 0 0,.int .i64 12]) (by simp[results,results85,go_sem]) ?_
  rw[d.out]
  exact⟨⟨none,0,0,rfl,Row.nil _ _ _ _,zr,Zd⟩,zN w⟩
 have o:0<s.length:=by omega
 obtain⟨u,q⟩:=zx (s[0])
 have al:∀h2:0<(dR s).size,(((dR s)[0]'h2).toNat:Int)=bv u:=fun h2=>(C.out 0 o h2).trans (congrArg bv q.symm)
 by_cases h3:u=47
 ·have am:bv u=47:=by rw[h3];rfl
  have M:((s.length:Int)==0)=false:=beq_eq_false_iff_ne.2 zo
  have an:¬s=[]:=fun e=>by rw[e] at h2;exact h2 rfl
  have D:=J4 h1 h2 q h3
  clear h1 h2 q h3
  go_in
  go_wp2_with fail
  go_loopw [4,5,6] (fun s4 s5 s6 wx=>∃(k f:Nat) (E:Option Addr) (F:Nat) (l:eZ),s4=.slice E l.length F/\s5=.int .i64 (f:Int)/\s6=.int .i64 (k:Int)/\1<=k/\k<=s.length+1/\f<=k/\1<=f/\l.all ep=true/\gK (s.drop 1)=l++ld s f k/\Own wx w.heap.size 9 1 E l.length F (l.map fun L=>Value.string (dR L))/\l.length+(ld s f k).length<=1000000/\New w wx) (fun _ _ i _=>s.length+1-(intOf i).toNat)
  case atStart =>
   have N:ld s 1 1=gK (s.drop 1):=by
    unfold ld
    rw[if_pos zo,List.drop_take_self];rfl
   refine⟨1,1,none,0,[],rfl,rfl,rfl,zo,zo,zo,zo,rfl,N.symm,Own.nil _ _ _ _,?_,zN _⟩
   rw[N]
   have:=(mC (s.drop 1) []).2
   unfold gK
   rw[List.length_drop] at this
   show 0+_<=_
   omega
  obtain⟨k,f,E,F,l,rfl,rfl,rfl,ao,ap,hf,aa,z,O,I,P,hK⟩:=hrel
  have a:=J5 z O I P hK
  clear z O I P hK
  by_cases aq:k<=s.length
  ·have ai:(k:Int)<=s.length:=by omega
   obtain⟨p,g⟩:=zx ((s.take k).drop f)
   have ar:(dR s).extract f k=dR p:=by rw[g];exact GI s f k
   have J:=zh<|vl p wr (by rw[g,List.length_drop,List.length_take];omega)
   have ab:(∃K:(k:Int)=s.length,ld s f k=p::ld s (k+1) (k+1))\/(∃(hlt:k<s.length) (x:¬(k:Int)=s.length),s[k]=47/\ld s f k=p::ld s (k+1) (k+1))\/(∃(hlt:k<s.length) (x:¬(k:Int)=s.length),s[k]≠47/\ld s f k=ld s f (k+1)):=by
    by_cases h:k=s.length
    ·left
     refine⟨zo,?_⟩
     rw[g,h,EZ,vn (Nat.lt_succ_self _)]
    right
    by_cases h2:s[k]=47
    ·exact .inl ⟨zo,zo,h2,by rw[g];exact EY zo h2⟩
    exact .inr ⟨zo,zo,h2,Dv zo hf h2⟩
   have ac:Hid (∀L∈gK (s.drop 1),ep L=false->r=([],12)):=zh fun L ad hb=>by
    have Q:=F2 ad hb
    rw[G.out,vc D.1 o (by rw[<- D.2.2.1];exact D.2.2.2),if_pos (by rw[Q];decide),Q]
   rcases ab with⟨K,j⟩|⟨hlt,x,m,j⟩|⟨hlt,x,m,j⟩
   case inr.inr =>
    obtain⟨v,y⟩:=zx (s[k])
    have ae:∀h2:k<(dR s).size,(((dR s)[k]'h2).toNat:Int)=bv v:=fun h2=>(C.out k hlt h2).trans (congrArg bv y.symm)
    have W:(bv v==47)=false:=beq_eq_false_iff_ne.2 fun e=>by rw[<- y] at m;exact m (by unfold bv at e;exact UInt8.toNat_inj.1 (by show v.toNat=47;omega))
    have X:((k:Int)==(s.length:Int))=false:=beq_eq_false_iff_ne.2 x
    have HQ:=zh j
    clear y m j g J
    go_wp2
    go_roundw
    case rel=>exact⟨k+1,f,E,F,l,rfl,rfl,by go_num,zo,zo,zo,aa,a.1,by rw[<- HQ.out];exact a.2.1,a.2.2.1,by rw[<- HQ.out];exact a.2.2.2.1,a.2.2.2.2⟩
    simp[intOf];omega
   have aj:((k:Int)==(s.length:Int))=true:=beq_iff_eq.2 K
   have B:=J2 j g
   clear j g K
   rotate_left
   obtain⟨v,y⟩:=zx (s[k])
   have ae:∀h2:k<(dR s).size,(((dR s)[k]'h2).toNat:Int)=bv v:=fun h2=>(C.out k hlt h2).trans (congrArg bv y.symm)
   have W:(bv v==47)=true:=beq_iff_eq.2 (by rw[y,m];rfl)
   have X:((k:Int)==(s.length:Int))=false:=beq_eq_false_iff_ne.2 x
   have B:=J2 j g
   clear y m j g
   rotate_left
   all_goals
    go_wp2_with fail
    refine J.mono ?_
    rintro e w1⟨rfl,rfl⟩
    clear J
    cases hgp:ep p
    ·have d:Hid (r=([],12)):=zh (ac.out p (by rw[a.2.1,B.1];exact List.mem_append_right _ (List.mem_cons_self ..)) hgp)
     clear hgp
     go_wp2
     refine Zb (.tuple #[.slice none 0 0,.int .i64 12]) (by simp[results,results85,go_sem]) ?_
     rw[d.out]
     exact⟨⟨none,0,0,rfl,Row.nil _ _ _ _,zr,Zd⟩,a.2.2.2.2⟩
    have af:=zh hgp
    clear hgp
    go_upto_region 13 with fail
    have Y:=(zN wr).alloc (.cells (#[Value.string (dR p)]) 9)
    have x3:=jI wr [.string (dR p)] 9 1 1 rfl
    have HW:=J2 (a.2.2.2.2.new Y) x3
    have R:=Own.Qh a.2.2.1 Y
    have ag:=zh R
    have au:l.length<=1000000:=by have:=a.2.2.2.1;omega
    clear Y x3 R
    go_wp2_with (at_builtin;refine sM (w0:=w) rfl rfl underlying51 (fY Bq) Zd rfl ag.out rfl HW.2 (fun u q=>by rw[List.mem_singleton] at q;subst q;rfl) (by unfold maxLen;omega) zo HW.1 ?_;intro A9 c9 w9 o9 n9;have S:=J2 o9 n9;clear o9 n9)
    go_roundw
    case rel =>
     refine⟨k+1,k+1,A9,c9,l++[p],by rw[zL];rfl,by go_num,by go_num,zo,zo,zo,zo,?_,?_,?_,?_,S.2⟩
     ·rw[List.all_append,a.1];simp[af.out]
     ·rw[a.2.1,B.1,List.append_assoc];rfl
     ·rw[List.map_append,zL];exact S.1
     have h9:=a.2.2.2.1
     rw[B.1,List.length_cons] at h9
     rw[zL,List.length_singleton];omega
    simp[intOf];omega
  obtain rfl:k=s.length+1:=by omega
  have av:¬(((s.length+1:Nat):Int)<=s.length):=zo
  rw[vn (Nat.lt_succ_self _),List.append_nil] at a
  have T:Hid (el l=if 8<l.length then 3 else 0):=zh (by unfold el;rw[if_pos a.1])
  have U:Hid (r=if el l≠0 then([],el l) else(l,0)):=zh (by
   rw[G.out,vc D.1 o (by rw[<- D.2.2.1];exact D.2.2.2),a.2.1])
  by_cases h8:8<l.length
  ·have ah:(8:Int)<l.length:=by omega
   have d:Hid (r=([],3)):=zh (by rw[U.out,T.out,if_pos h8];rfl)
   go_wp2
   refine Zb (.tuple #[.slice none 0 0,.int .i64 3]) (by simp[results,results85,go_sem]) ?_
   rw[d.out]
   exact⟨⟨none,0,0,rfl,Row.nil _ _ _ _,zr,Zd⟩,a.2.2.2.2⟩
  have ah:¬(8:Int)<l.length:=by omega
  have d:Hid (r=(l,0)):=zh (by rw[U.out,T.out,if_neg h8];rfl)
  go_wp2
  refine Zb (.tuple #[.slice E l.length F,.int .i64 0]) (by simp[results,results85,go_sem]) ?_
  rw[d.out]
  exact⟨⟨E,l.length,F,rfl,Row.Qc a.2.2.1,ew a.2.2.1,eh a.2.2.1⟩,a.2.2.2.2⟩
 have d:Hid (r=([],12)):=zh (by
  rw[G.out]
  cases s with
  | nil=>exact absurd o (by simp)
  | cons b t=>exact if_pos (by rw[q] at h3;exact h3))
 have M:((s.length:Int)==0)=false:=beq_eq_false_iff_ne.2 zo
 have aw:¬bv u=47:=fun e=>h3 (UInt8.toNat_inj.1 (by unfold bv at e;show u.toNat=47;omega))
 clear h1 h2 C q h3
 go_in
 go_wp2
 refine Zb (.tuple #[.slice none 0 0,.int .i64 12]) (by simp[results,results85,go_sem]) ?_
 rw[d.out]
 exact⟨⟨none,0,0,rfl,Row.nil _ _ _ _,zr,Zd⟩,zN w⟩
section
variable {w w' w2:World}{c c' c1 c2:Col}{i:fe}{b:Nat}{s:d'}{S:gw}
structure me (w:World) (c:Col) (i:fe) (b:Nat) (S:gw) (bt bs:Nat) (A:Nat->Option Addr) (ca:Nat->Nat):Prop where
 col:c b=i.o
 ok:i.Ok
 cells:w.heap[b]?=some (.cells (gu bt bs S A ca) 80 (0,0))
 tree:ey w c i.t bt S.T
 snaps:iJ w c i.s bs S.S
 fd:∀k,k<8->((S.fd k).data.length<=ca k/\ca k<=9223372036854775807)/\Bs w (fun b=>c b=0) (A k) (S.fd k).data.length (S.fd k).data
theorem eR.open_(h:eR w c i b S):∃bt bs A ca,me w c i b S bt bs A ca:=by
 obtain⟨h1,h2,bt,bs,A,ca,h3,a,h5,h6⟩:=h
 exact⟨bt,bs,A,ca,h1,h2,h3,a,h5,h6⟩
theorem me.at_{bs:Nat}{A:Nat->Option Addr}(h:me w c i b S bt bs A ca):eR w c i b S:=⟨h.col,h.ok,bt,bs,A,ca,h.cells,h.tree,h.snaps,h.fd⟩
section
variable {bt bs:Nat}{A:Nat->Option Addr}{ca:Nat->Nat}
theorem me.lt(h:me w c i b S bt bs A ca):b<w.heap.size:=(Array.getElem?_eq_some_iff.1 h.cells).1
theorem me.keep{F:Nat->Prop}(h:me w c i b S bt bs A ca)(hk:b_ F w w')(hx:Ext w c c')(hF:∀j,j<w.heap.size->i.has (c j)\/c j=0->F j):me w' c' i b S bt bs A ca :=
 ⟨(hx _ h.lt).trans h.col,h.ok,(hk.block b h.lt (hF _ h.lt (.inl (.inr (.inr h.col))))).trans h.cells,h.tree.keep hk hx (hF _ h.tree.lt (.inl (.inl h.tree.1))) fun j hj h0=>hF j hj (.inr h0),h.snaps.keep hk hx (hF _ h.snaps.lt (.inl (.inr (.inl h.snaps.1)))) fun j hj h0=>hF j hj (.inr h0),fun k a=>⟨(h.fd k a).1,jR (h.fd k a).2 hk hx fun j hj h0=>hF j hj (.inr h0)⟩⟩
theorem me.new(h:me w c i b S bt bs A ca)(hk:New w w'):me w' c i b S bt bs A ca:=h.keep hk (Ext.refl _ _) fun _ _ _=>trivial
theorem me.Qr{R:eM}(h:me w c i b S bt bs A ca)(hk:b_ (fun j=>j≠bt) w w')(hx:Ext w c c')(ht:ey w' c' i.t bt R):me w' c' i b { S with T:=R } bt bs A ca:=by
 have hb:b≠bt:=fun e=>h.ok.ne.2.1 (by rw[<- h.tree.1,<- h.col,e])
 have hs:bs≠bt:=fun e=>h.ok.ne.1 (by rw[<- h.tree.1,<- h.snaps.1,e])
 have h0:∀j,j<w.heap.size->c j=0->j≠bt:=fun j _ e e2=>h.ok.nz.1 (by rw[<- h.tree.1,<- e2];exact e)
 exact⟨(hx _ h.lt).trans h.col,h.ok,(hk.block b h.lt hb).trans h.cells,ht,h.snaps.keep hk hx hs h0,fun k a=>⟨(h.fd k a).1,jR (h.fd k a).2 hk hx h0⟩⟩
theorem me.has(h:me w c i b S bt bs A ca)(hk:b_ (fun j=>j≠bt) w w'):b_ (fun j=>j<w.heap.size/\¬i.has (c j)) w w':=hk.imp fun j _ hj e=>hj.2 (by subst e;exact .inl h.tree.1)
theorem me.other(h:me w c i b S bt bs A ca)(hg:c g=f)(hf:f≠0/\¬i.has f)(k:b_ (fun j=>j≠g) w w'):me w' c i b S bt bs A ca :=
 h.keep k (Ext.refl _ _) fun j _ hc e=>by subst e;rw[hg] at hc;exact hc.elim hf.2 hf.1
theorem GM(bt bs:Nat)(S:gw)(A:Nat->Option Addr)(ca:Nat->Nat)(hk:k<8)(f:zR)(A1:Option Addr)(c1:Nat):
  (((gu bt bs S A ca).setIfInBounds (3+k*3) (.int .i64 f.how)).setIfInBounds (3+k*3+1) (.int .i64 f.id)).setIfInBounds (3+k*3+2) (.slice A1 f.data.length c1)=gu bt bs { S with fd:=fun j=>if j=k then f else S.fd j } (fun j=>if j=k then A1 else A j) (fun j=>if j=k then c1 else ca j):=by
 match k,hk with
 | 0,_=>rfl
 | 1,_=>rfl
 | 2,_=>rfl
 | 3,_=>rfl
 | 4,_=>rfl
 | 5,_=>rfl
 | 6,_=>rfl
 | 7,_=>rfl
theorem me.setFd(h:me w c i b S bt bs A ca)(hk:k<8){f:zR}{c1:Nat}(hl:f.data.length<=c1/\c1<=9223372036854775807)(hf:Bs w (fun b=>c b=0) A1 f.data.length f.data):
  me (((w.setCell ⟨b,3+k*3,none⟩ (.int .i64 f.how)).setCell ⟨b,3+k*3+1,none⟩ (.int .i64 f.id)).setCell ⟨b,3+k*3+2,none⟩ (.slice A1 f.data.length c1)) c i b { S with fd:=fun j=>if j=k then f else S.fd j } bt bs (fun j=>if j=k then A1 else A j) (fun j=>if j=k then c1 else ca j) /\
  b_ (fun j=>j≠b) w (((w.setCell ⟨b,3+k*3,none⟩ (.int .i64 f.how)).setCell ⟨b,3+k*3+1,none⟩ (.int .i64 f.id)).setCell ⟨b,3+k*3+2,none⟩ (.slice A1 f.data.length c1)):=by
 have g:∀(W:World) (k:Nat) (u:Value),b_ (fun j=>j≠b) w W->b_ (fun j=>j≠b) w (W.setCell ⟨b,k,none⟩ u):=fun W k u l=>l.setCell (p:=⟨b,k,none⟩) (fun hd=>absurd rfl hd) u
 have a:=g _ (3+k*3+2) (.slice A1 f.data.length c1) (g _ (3+k*3+1) (.int .i64 f.id) (g _ (3+k*3) (.int .i64 f.how) (b_.refl _ w)))
 have d:∀j,c j≠i.o->j≠b:=fun j hj e=>hj (by rw[e];exact h.col)
 have h0:∀j,j<w.heap.size->c j=0->j≠b:=fun j _ e=>d j (by rw[e];exact h.ok.nz.2.2.symm)
 have hc:=dM (dM (dM h.cells (3+k*3) (.int .i64 f.how)) (3+k*3+1) (.int .i64 f.id)) (3+k*3+2) (.slice A1 f.data.length c1)
 rw[GM bt bs S A ca hk] at hc
 refine⟨⟨h.col,h.ok,hc,h.tree.keep a (Ext.refl _ _) (d _ (by rw[h.tree.1];exact h.ok.ne.2.1)) h0,h.snaps.keep a (Ext.refl _ _) (d _ (by rw[h.snaps.1];exact h.ok.ne.2.2)) h0,fun j hj=>?_⟩,a⟩
 by_cases e:j=k
 ·simp only[e,if_true]
  exact⟨hl,jR hf a (Ext.refl _ _) h0⟩
 simp only[if_neg e]
 exact⟨(h.fd j hj).1,jR (h.fd j hj).2 a (Ext.refl _ _) h0⟩
end
theorem Cj(e0:Int)(w:World):Calls prog 83 #[.int .i64 e0] w fun e w'=>e=.returned (dT (noR e0) none 0 none 0)/\New w w':=by
 go_in
 go_wp2_with fail
 obtain⟨a,b,c,f3,d,f5,f6,f7,f8,f9⟩:=eO (heap_alloc_new w (.cells #[.int .i64 e0,.int .i64 0,.slice none 0 0,.slice none 0 0,.int .i64 0,.int .i64 0,.int .i64 0,.int .i64 0,.int .u64 0,.bool false] 55))
 refine Zb (dT (noR e0) none 0 none 0) (by simp[results,results83,go_sem,a,b,c,f3,d,f5,f6,f7,f8,f9,dT,noR,ez.Qq,ez.nd]) ?_
 exact⟨rfl,(zN w).alloc _⟩
theorem GS(s:d')(k:Nat):((fW s).fd k).how=0↔(s.fd k).isNone=true:=by
 show(mo (s.fd k)).how=0↔_
 cases s.fd k with
 | none=>simp[mo]
 | some f =>
  show(if f.writing=true then(⟨1,f.id,[]⟩:zR) else⟨2,0,f.b⟩).how=0↔_
  by_cases hw:f.writing=true
  ·rw[if_pos hw];simp
  rw[if_neg hw];simp
theorem Du(h:eR w c i b (fW s)):Calls prog 172 #[.pointer (some ⟨b,0,none⟩)] w fun e w'=>e=.returned (.int .i64 ((kH s).elim (-1) fun k=>(k:Int)))/\w=w':=by
 obtain⟨t,bs,A,ca,a⟩:=h.open_
 have u:w.cell? ⟨b,3,none⟩=some (.int .i64 ((fW s).fd 0).how):=a_ a.cells rfl
 have v:w.cell? ⟨b,6,none⟩=some (.int .i64 ((fW s).fd 1).how):=a_ a.cells rfl
 have x:w.cell? ⟨b,9,none⟩=some (.int .i64 ((fW s).fd 2).how):=a_ a.cells rfl
 have y:w.cell? ⟨b,12,none⟩=some (.int .i64 ((fW s).fd 3).how):=a_ a.cells rfl
 have B:w.cell? ⟨b,15,none⟩=some (.int .i64 ((fW s).fd 4).how):=a_ a.cells rfl
 have C:w.cell? ⟨b,18,none⟩=some (.int .i64 ((fW s).fd 5).how):=a_ a.cells rfl
 have D:w.cell? ⟨b,21,none⟩=some (.int .i64 ((fW s).fd 6).how):=a_ a.cells rfl
 have E:w.cell? ⟨b,24,none⟩=some (.int .i64 ((fW s).fd 7).how):=a_ a.cells rfl
 have m:=zh<|fun k=>GS s k
 generalize (fW s).fd=F at *
 clear h a
 go_in
 go_wp2_with fail
 go_loopw [2,3] (fun p i q=>∃k:Nat,p=.int .i64 0/\k<=8/\i=.int .i64 (k:Int)/\(∀j,j<k->(s.fd j).isNone=false)/\w=q) (fun _ i _=>8-(intOf i).toNat)
 case atStart=>exact⟨0,rfl,Nat.zero_le _,rfl,fun j h=>absurd h (Nat.not_lt_zero _),rfl⟩
 obtain⟨k,rfl,hk,rfl,hb,rfl⟩:=hrel
 by_cases hlt:k<8
 ·have g:=J2 hlt hb
  have f:=zh<|m.out k
  clear hb
  obtain⟨z,hz⟩:=zx ((k:Int):Int)
  rw[<- hz]
  have n:(z=0/\k=0)\/(z=1/\k=1)\/(z=2/\k=2)\/(z=3/\k=3)\/(z=4/\k=4)\/(z=5/\k=5)\/(z=6/\k=6)\/(z=7/\k=7):=zo
  clear hz hk
  by_cases hq:(F k).how=0
  ·have r:=zh<|f.1 hq
   have o:((F k).how==0)=true:=beq_iff_eq.2 hq
   clear hq
   rcases n with⟨rfl,rfl⟩|⟨rfl,rfl⟩|⟨rfl,rfl⟩|⟨rfl,rfl⟩|⟨rfl,rfl⟩|⟨rfl,rfl⟩|⟨rfl,rfl⟩|⟨rfl,rfl⟩
   all_goals
    have l:=zh<|su (s:=s) g.1 r.out g.2
    clear m
    go_wp2
    go_ret
    exact⟨by rw[l.out];rfl,rfl⟩
  have o:((F k).how==0)=false:=beq_eq_false_iff_ne.2 hq
  have d:Hid (∀j,j<k+1->(s.fd j).isNone=false):=zh fun j h=>(Nat.lt_or_eq_of_le (Nat.le_of_lt_succ h)).elim (g.2 j) (fun e=>by rw[e];exact Bool.eq_false_iff.2 fun h2=>hq (f.2 h2))
  clear hq
  rcases n with⟨rfl,rfl⟩|⟨rfl,rfl⟩|⟨rfl,rfl⟩|⟨rfl,rfl⟩|⟨rfl,rfl⟩|⟨rfl,rfl⟩|⟨rfl,rfl⟩|⟨rfl,rfl⟩
  all_goals
   go_wp2
   go_roundw
   case rel=>first|exact⟨1,rfl,Zd,rfl,d.out,by first|rfl|trivial⟩|exact⟨2,rfl,Zd,rfl,d.out,by first|rfl|trivial⟩|exact⟨3,rfl,Zd,rfl,d.out,by first|rfl|trivial⟩|exact⟨4,rfl,Zd,rfl,d.out,by first|rfl|trivial⟩|exact⟨5,rfl,Zd,rfl,d.out,by first|rfl|trivial⟩|exact⟨6,rfl,Zd,rfl,d.out,by first|rfl|trivial⟩|exact⟨7,rfl,Zd,rfl,d.out,by first|rfl|trivial⟩|exact⟨8,rfl,Zd,rfl,d.out,by first|rfl|trivial⟩
   decide
 obtain rfl:k=8:=by omega
 have l:=zh<|sv (s:=s) hb
 clear hb hlt hk
 go_wp2
 go_ret
 exact⟨by rw[l.out];rfl,rfl⟩
def ry(k:Int):Bool := !(k==4||k==5||k==6||k==14||k==15||k==16||k==17)
def rj(k:Int):Bool := !(k==4||k==11||k==12||k==17)&&decide (1<=k)&&decide (k<=17)
theorem xt{k:Int}(h:rj k=true):k=1\/k=2\/k=3\/k=5\/k=6\/k=7\/k=8\/k=9\/k=10\/k=13\/k=14\/k=15\/k=16:=by
 unfold rj at h
 simp only[Bool.and_eq_true,Bool.not_eq_true',Bool.or_eq_false_iff,beq_eq_false_iff_ne,decide_eq_true_eq] at h
 omega
theorem pZ(k:Int)(w:World):Calls prog 84 #[.int .i64 k] w fun e w'=>e=.returned (.bool (ry k))/\w=w':=by
 obtain⟨v,a⟩:=zx (ry k)
 rw[<- a]
 have HV:=zh a
 clear a
 rcases Cm k with rfl|rfl|rfl|rfl|rfl|rfl|rfl|rfl|rfl|rfl|rfl|rfl|rfl|rfl|rfl|rfl|rfl|⟨h1,h2,h3,g,h5,h6,h7,n,o,i,j,l,m,b,c,d,f⟩
 case inr.inr.inr.inr.inr.inr.inr.inr.inr.inr.inr.inr.inr.inr.inr.inr.inr =>
  have h:Hid (v=true):=zh (by
   rw[HV.out];unfold ry
   rw[beq_eq_false_iff_ne.2 g,beq_eq_false_iff_ne.2 h5,beq_eq_false_iff_ne.2 h6,beq_eq_false_iff_ne.2 b,beq_eq_false_iff_ne.2 c,beq_eq_false_iff_ne.2 d,beq_eq_false_iff_ne.2 f];rfl)
  go_in
  go_wp2
  go_ret
  exact⟨by rw[h.out];rfl,rfl⟩
 all_goals
  go_in
  go_wp2
  go_ret
  exact⟨by rw[HV.out];rfl,rfl⟩
theorem Al(k:Int)(w:World):Calls prog 23 #[.int .i64 k] w fun e w'=>e=.returned (.bool (rj k))/\w=w':=by
 obtain⟨v,a⟩:=zx (rj k)
 rw[<- a]
 have HV:=zh a
 clear a
 rcases Cm k with rfl|rfl|rfl|rfl|rfl|rfl|rfl|rfl|rfl|rfl|rfl|rfl|rfl|rfl|rfl|rfl|rfl|⟨h1,h2,h3,n,h5,h6,h7,o,p,c,d,f,g,h,i,j,l⟩
 case inr.inr.inr.inr.inr.inr.inr.inr.inr.inr.inr.inr.inr.inr.inr.inr.inr =>
  have b:Hid (v=false):=zh (by
   rw[HV.out]
   cases hh:rj k
   ·rfl
   have:=xt hh;omega)
  by_cases hg:1<=k
  ·have m:¬k<=17:=by omega
   go_in
   go_wp2
   go_ret
   exact⟨by rw[b.out];rfl,rfl⟩
  go_in
  go_wp2
  go_ret
  exact⟨by rw[b.out];rfl,rfl⟩
 all_goals
  go_in
  go_wp2
  go_ret
  exact⟨by rw[HV.out];rfl,rfl⟩
end
def jT(w:World)(c:Col)(i:fe)(b:Nat)(x:ez×gw)(e:Ending)(w':World):Prop :=
 (∃D cd N cn,e=.returned (dT x.1 D cd N cn)/\Bs w' (fun _=>True) D x.1.data.length x.1.data/\x.1.data.length<=cd/\Ps w' (fun _=>True) N x.1.names.length x.1.names) /\
 b_ (fun j=>j<w.heap.size/\¬i.has (c j)) w w'/\∃c',Ext w c c'/\eR w' c' i b x.2
section
variable {w w' w2:World}{c c' c1 c2:Col}{i:fe}{b:Nat}{s:d'}{S:gw}
theorem me.fdCells{bs:Nat}{A:Nat->Option Addr}(h:me w c i b S bt bs A ca)(hk:k<8):w.cell? ⟨b,3+k*3,none⟩=some (.int .i64 (S.fd k).how)/\w.cell? ⟨b,3+k*3+1,none⟩=some (.int .i64 (S.fd k).id)/\w.cell? ⟨b,3+k*3+2,none⟩=some (.slice (A k) (S.fd k).data.length (ca k)):=by
 match k,hk with
 | 0,_=>exact⟨a_ h.cells rfl,a_ h.cells rfl,a_ h.cells rfl⟩
 | 1,_=>exact⟨a_ h.cells rfl,a_ h.cells rfl,a_ h.cells rfl⟩
 | 2,_=>exact⟨a_ h.cells rfl,a_ h.cells rfl,a_ h.cells rfl⟩
 | 3,_=>exact⟨a_ h.cells rfl,a_ h.cells rfl,a_ h.cells rfl⟩
 | 4,_=>exact⟨a_ h.cells rfl,a_ h.cells rfl,a_ h.cells rfl⟩
 | 5,_=>exact⟨a_ h.cells rfl,a_ h.cells rfl,a_ h.cells rfl⟩
 | 6,_=>exact⟨a_ h.cells rfl,a_ h.cells rfl,a_ h.cells rfl⟩
 | 7,_=>exact⟨a_ h.cells rfl,a_ h.cells rfl,a_ h.cells rfl⟩
theorem jT.tail{x:ez×gw}{D:Option Addr}(hd:x.1.data=[]/\x.1.names=[])(hcd:x.1.data.length<=cd)(hg:w0.heap.size<=g)(hx:Ext w0 c c1)(hcg:c1 g=f)(hf:f≠0/\¬i.has f)(k3:New w0 w3)(k4:b_ (fun j=>j<w3.heap.size/\¬i.has (c1 j)) w3 w4)(e4:Ext w3 c1 c3)(h4:eR w4 c3 i b x.2)(kE:b_ (fun j=>j≠g) w4 wE)(hg3:g<w3.heap.size):jT w0 c i b x (.returned (dT x.1 D cd N cn)) wE:=by
 have a:b_ (fun j=>j<w0.heap.size/\¬i.has (c j)) w0 w4:=ju (c2:=c1) (b_.Qe k3) hx k4
 obtain⟨e,bs,A,ca,d⟩:=h4.open_
 exact⟨⟨D,cd,N,cn,rfl,qC (by rw[hd.1];rfl) (by rw[hd.1];rfl),hcd,qC (by rw[hd.2];rfl) (by rw[hd.2];rfl)⟩,l_ a hg kE,c3,fun j hj=>(e4 j (Nat.lt_of_lt_of_le hj k3.size)).trans (hx j hj),(d.other (by rw[e4 g hg3,hcg]) hf kE).at_⟩
theorem uM(h:eR w c i b (fW s))(hS:fz s){A:Option Addr}{p:eZ}(hR:Ps w D A n p)(hn:n<=1000)(hcp:n<=cp)(hs:∀nm∈p,nm.length<=1099511627776):
  Calls prog 86 #[.pointer (some ⟨b,0,none⟩),.int .i64 1,.slice A n cp] w (jT w c i b ((gv s p).1,fW (gv s p).2)):=by
 obtain⟨c1,f,F,ab,hf,aj⟩:=ru c i w.heap.size
 have k1:=(zN w).alloc (.cells #[.int .i64 0,.int .i64 0,.slice none 0 0,.slice none 0 0,.int .i64 0,.int .i64 0,.int .i64 0,.int .i64 0,.int .u64 0,.bool false] 55)
 have x1:=heap_alloc_new w (.cells #[.int .i64 0,.int .i64 0,.slice none 0 0,.slice none 0 0,.int .i64 0,.int .i64 0,.int .i64 0,.int .i64 0,.int .u64 0,.bool false] 55)
 have h1:=h.keep k1 (c':=c1) F fun _ _ _=>trivial
 have R1:=Row.new hR k1
 have hlt:=h.lt
 obtain⟨g,hg⟩:=zx (w.heap.size)
 have a:=J5 hg F (show c1 g=f by rw[hg];exact ab) hf hlt
 rw[<- hg] at x1
 obtain⟨r,hr⟩:=zx (gv s p)
 rw[<- hr]
 have G:Hid (r=match kH s with
  | none=>(noR 25,s)
  | some k=>if (g_ s.T p 1).2.1≠0 then(noR (g_ s.T p 1).2.1,s) else({ noR 0 with n:=k },setFd { s with T:=(g_ s.T p 1).2.2 } k (some ⟨true,(g_ s.T p 1).1,[]⟩))):=zh hr
 have HS:=J2 hS hs
 clear hr hS hR hs ab hf aj hlt h F
 go_in
 go_upto_region 1 with fail
 rw[<- hg]
 generalize w.alloc (.cells #[.int .i64 0,.int .i64 0,.slice none 0 0,.slice none 0 0,.int .i64 0,.int .i64 0,.int .i64 0,.int .i64 0,.int .u64 0,.bool false] 55)=w1 at *
 have o:=J4 k1 x1 h1 R1
 have HF:=zh<|Du h1
 have ac:g<w1.heap.size:=(Zl x1)
 have E:=zh ac
 clear k1 x1 h1 R1 hg ac
 go_wp2_with fail
 refine HF.mono ?_
 rintro e H⟨rfl,rfl⟩
 clear HF
 cases hfr:kH s with
 | none =>
  have I:Hid (r=(noR 25,s)):=zh (by have:=G.out;rw[hfr] at this;exact this)
  clear G hfr
  simp only[Option.elim_none]
  go_wp2_with fail
  refine(Cj 25 w1).mono ?_
  rintro e w3⟨rfl,B⟩
  have C:=B.Qa o.2.1 trivial
  have q:=zh B
  unfold dT noR ez.Qq ez.nd
  clear B
  obtain⟨J,K,L,M,N,O,P,Q,R,d9⟩:=eO C
  obtain⟨z0,S,U,z3,z4,z5,V,W,X,z9⟩:=gC C
  go_wp2_with fail
  clear J K L M N O P Q R d9 z0 S U z3 z4 z5 V W X z9
  obtain⟨Y,t⟩:=fI C (.int .i64 25) (.int .i64 0) (.slice none 0 0) (.slice none 0 0) (.int .i64 0) (.int .i64 0) (.int .i64 0) (.int .i64 0) (.int .u64 0) (.bool false)
  generalize ad:World.setCell _ _ _=wE at *
  obtain⟨Z,f1,f2,f3,f4,f5,f6,f7,f8,f9⟩:=eO Y
  try simp only[Exit.inBlock,Exit.then]
  refine Zb (dT (noR 25) none 0 none 0) (by simp[results,results86,go_sem,Z,f1,f2,f3,f4,f5,f6,f7,f8,f9,dT,noR,ez.Qq,ez.nd]) ?_
  rw[I.out]
  exact jT.tail (x:=(noR 25,fW s)) ⟨rfl,rfl⟩ zr (by have:=a.out;omega) a.2.1 a.2.2.1 a.2.2.2.1 o.1 (b_.Qe q.out) (Ext.refl _ _) (o.2.2.1.new q.out) t E.out
 | some k =>
  have ae:=vJ hfr
  rw[hfr] at G
  simp only[Option.elim_some]
  have ap:¬((k:Int)<0):=zo
  have aa:=zh ae
  obtain⟨bt,bs,Af,ca,hV⟩:=o.2.2.1.open_
  have HV:=zh hV
  have HM:=zh<|Ds hV.tree hV.ok.nz.1 HS.1.tree HS.1.few o.2.2.2 hn hcp HS.2 (kind:=1) (.inl rfl)
  have c0:w1.cell? ⟨b,0,none⟩=some (.pointer (some ⟨bt,0,none⟩)):=a_ hV.cells (k:=0) rfl
  have u:=zh<|fun(hh:(g_ s.T p 1).2.1≠0)=>vC hh
  obtain⟨m,hm⟩:=zx (g_ s.T p 1)
  rw[<- hm] at HM u
  have y:Hid (r=if m.2.1≠0 then(noR m.2.1,s) else({ noR 0 with n:=k },setFd { s with T:=m.2.2 } k (some ⟨true,m.1,[]⟩))):=zh (by rw[hm];exact G.out)
  obtain⟨id,d,T'⟩:=m
  dsimp only at HM u y
  clear hfr G ae hm hV
  go_wp2_with fail
  refine HM.mono ?_
  rintro e H⟨rfl,k2,c2,z,T2⟩
  have af:=HV.Qr k2 z T2
  have ag:g≠bt:=fun e2=>by
   have h1:=HV.tree.1
   rw[<- e2,a.2.2.1] at h1
   exact a.2.2.2.1.2 (.inl h1)
  have y3:H.heap[g]?=_:=(k2.block g E.out ag).trans o.2.1
  have l:=J4 (HV.has k2) z af y3
  clear k2 z T2 af HM c0 ag
  by_cases hw:d=0
  rotate_left
  ·have I:Hid (r=(noR d,s)):=zh (by have:=y.out;rwa[if_pos hw] at this)
   have ak:Hid (T'=s.T):=zh (u.out hw)
   have hb:(d !=0)=true:=by simpa using hw
   clear y u hw y3
   go_wp2_with fail
   refine(Cj d H).mono ?_
   rintro e w3⟨rfl,B⟩
   have C:=B.Qa l.2.2.2 trivial
   have q:=zh B
   unfold dT noR ez.Qq ez.nd
   clear B
   obtain⟨J,K,L,M,N,O,P,Q,R,d9⟩:=eO C
   obtain⟨z0,S,U,z3,z4,z5,V,W,X,z9⟩:=gC C
   go_wp2_with fail
   clear J K L M N O P Q R d9 z0 S U z3 z4 z5 V W X z9
   obtain⟨Y,t⟩:=fI C (.int .i64 d) (.int .i64 0) (.slice none 0 0) (.slice none 0 0) (.int .i64 0) (.int .i64 0) (.int .i64 0) (.int .i64 0) (.int .u64 0) (.bool false)
   generalize ad:World.setCell _ _ _=wE at *
   obtain⟨Z,f1,f2,f3,f4,f5,f6,f7,f8,f9⟩:=eO Y
   try simp only[Exit.inBlock,Exit.then]
   refine Zb (dT (noR d) none 0 none 0) (by simp[results,results86,go_sem,Z,f1,f2,f3,f4,f5,f6,f7,f8,f9,dT,noR,ez.Qq,ez.nd]) ?_
   rw[I.out]
   obtain⟨n2,z,h2,-⟩:=l.out
   rw[ak.out] at h2
   exact jT.tail (x:=(noR d,fW s)) ⟨rfl,rfl⟩ zr (by have:=a.out;omega) a.2.1 a.2.2.1 a.2.2.2.1 o.1 (n2.new q.out) z ((h2.new q.out).at_) t E.out
  subst hw
  have I:Hid (r=({ noR 0 with n:=k },setFd { s with T:=T' } k (some ⟨true,id,[]⟩))):=zh (by have:=y.out;rwa[if_neg Zd] at this)
  clear y u y3
  obtain⟨u0,u1,u2⟩:=l.2.2.1.fdCells aa.out
  have al:=dP l.2.2.1.cells (3+k*3)
  have am:=dP l.2.2.1.cells (3+k*3+1)
  have an:=dP l.2.2.1.cells (3+k*3+2)
  have ao:(k:Int)<8:=by have:=aa.out;omega
  go_upto_region 11 with fail
  clear u0 u1 u2 al am an
  obtain⟨ah,k4⟩:=l.2.2.1.setFd (f:=⟨1,id,[]⟩) (A1:=none) (c1:=0) aa.out ⟨zr,Zd⟩ (Row.nil _ _ _ _)
  have ai:g≠b:=by have:=a.out;omega
  have y4:=(k4.block g (Array.getElem?_eq_some_iff.1 l.2.2.2).1 ai).trans l.2.2.2
  have H4:=J2 ah k4
  clear ah k4 ai
  generalize World.setCell _ _ _=w4 at *
  obtain⟨J,K,L,M,N,O,P,Q,R,d9⟩:=eO y4
  obtain⟨z0,S,U,z3,z4,z5,V,W,X,z9⟩:=gC y4
  go_wp2_with fail
  clear J K L M N O P Q R d9 z0 S U z3 z4 z5 V W X z9
  obtain⟨Y,t⟩:=fI y4 (.int .i64 0) (.int .i64 k) (.slice none 0 0) (.slice none 0 0) (.int .i64 0) (.int .i64 0) (.int .i64 0) (.int .i64 0) (.int .u64 0) (.bool false)
  generalize ad:World.setCell _ _ _=wE at *
  obtain⟨Z,f1,f2,f3,f4,f5,f6,f7,f8,f9⟩:=eO Y
  try simp only[Exit.inBlock,Exit.then]
  refine Zb (dT { noR 0 with n:=k } none 0 none 0) (by simp[results,results86,go_sem,Z,f1,f2,f3,f4,f5,f6,f7,f8,f9,dT,noR,ez.Qq,ez.nd]) ?_
  rw[I.out]
  obtain⟨n2,z,h2,-⟩:=l.out
  have e9:fW (setFd { s with T:=T' } k (some ⟨true,id,[]⟩))={ ({ fW s with T:=ec T' }:gw) with fd:=fun j=>if j=k then⟨1,id,[]⟩ else(fW s).fd j }:=yc _ _ _
  have kb:b_ (fun j=>j<H.heap.size/\¬i.has (c2 j)) H w4:=H4.2.imp fun j _ hj e=>hj.2 (by subst e;exact .inr (.inr h2.col))
  exact jT.tail (x:=({ noR 0 with n:=k },fW (setFd { s with T:=T' } k (some ⟨true,id,[]⟩)))) ⟨rfl,rfl⟩ zr (by have:=a.out;omega) a.2.1 a.2.2.1 a.2.2.2.1 o.1 (ju n2 z kb) z (by show eR _ _ _ _ (fW _);rw[e9];exact H4.1.at_) t E.out
end
