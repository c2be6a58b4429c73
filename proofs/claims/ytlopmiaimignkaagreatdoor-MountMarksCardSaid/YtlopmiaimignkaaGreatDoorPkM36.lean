/-
  PROVED HERE: parts of a law's walk, each under the conditions that its statement names.
-/
import Derived.Deep.MidRow
import Derived.Test.YtlopmiaimignkaaGreatDoorPkM24
import Derived.Test.YtlopmiaimignkaaGreatDoorPkM35
set_option maxRecDepth 100000
set_option maxHeartbeats 8000000
namespace Go.Proofs.YtlopmiaimignkaaGreatDoor
open Go.Proofs.Tryz
open Go.RowKit
variable{o:OpP}{b base cd g g' n size:Nat}{oi:Oper}{w w1 w2:World}{t:TypeId}{c c1 c2:Col}{I J K':fe}{r:eA}{a':Act}{A A':Option Addr}{xs:List Value}{D:Nat->Prop}{cs:Array Value}{s':d'}
section
variable {w w' w2:World}{c c' c1 c2:Col}{i:fe}{b:Nat}{s:d'}{S:gw}
theorem yf(h:eR w c i b (fW s))(hS:fz s){E:Option Addr}{k:Nat}{fw:FdP}(hkd:o.kind=5)(hk:k<8)(hbk:o.fd=(k:Int))(hfk:s.fd k=some fw)(hD:Bs w (fun j=>c j=0) E o.data.length o.data)(hz:(io s o).1.err=0):
  Calls prog 88 #[.pointer (some ⟨b,0,none⟩),fB o E cd] w (jT w c i b ((io s o).1,fW (io s o).2)):=by
 obtain⟨c1,f,wa,q,go,g,N,aa,ab,hf,am,u,R,D,hg,ac,O,xo,x2⟩:=mp c i w o E cd
 have hlt:=h.lt
 obtain⟨l,bs,Af,ca,hV⟩:=h.open_
 have ad:=hV.keep O (c':=c1) N fun _ _ _=>trivial
 have ae:g<q.heap.size:=(Zl x2)
 have d:=J5 O x2 ad xo ae
 have L:=J7 D hg N (show c1 go=0 by rw[D];exact aa) (show c1 g=f by rw[hg,D];exact ab) hf hlt
 obtain⟨S,o1,o2,F,o4,o5,o6,o7,o8⟩:=fq xo
 obtain⟨r,hr⟩:=zx (io s o)
 have af:(io s o)=r:=hr.symm
 try rw[af]
 have HZ:Hid (r.1.err=0):=zh (by rw[hr];exact hz)
 have an:=J3 u R ac
 unfold fB at *
 unfold dY at u ⊢
 have HS:=J3 hS hfk hk
 have ao:Hid (Bs q (fun j=>c1 j=0) E o.data.length o.data):=zh (((hD.imp (E:=fun j=>c j=0/\j<w.heap.size) fun j hj h0=>⟨h0,hj⟩).new O).imp fun j _ h0=>(N j h0.2).trans h0.1)
 clear hD
 have y:Hid (r=if fw.writing=true then(if 600<o.data.length then(noR 3,s) else if (fE s.T fw.id o.data).1≠0 then(noR (fE s.T fw.id o.data).1,s) else({ noR 0 with n:=(o.data.length:Nat) },{ s with T:=(fE s.T fw.id o.data).2 })) else(noR 26,s)):=zh (by
  have ap:fdT s o.fd true=if fw.writing=true then some fw else none:=by
   unfold fdT
   rw[if_pos zo,hbk,Int.toNat_natCast,hfk]
   show(if (fw.writing==true)=true then some fw else none)=_
   cases fw.writing <;> rfl
  rw[hr];unfold io;rw[ap]
  cases fw.writing <;> rfl)
 clear hr af hlt h N aa ab hf am x2 O hV ad xo ae hS hz
 have ay:¬(k:Int)<0:=by omega
 have az:¬8<=(k:Int):=zo
 have aA:(k:Int)<8:=by omega
 obtain⟨fh,U⟩:=zx ((fW s).fd k)
 obtain⟨G,H,V⟩:=d.2.2.1.fdCells hk
 obtain⟨w0,w1,Y⟩:fh.how=(if fw.writing=true then 1 else 2)/\fh.id=(if fw.writing=true then fw.id else 0)/\(fh.how==0)=false:=by
  have e:(fW s).fd k=mo (some fw):=by show mo (s.fd k)=_;rw[hfk]
  rw[U,e]
  show(if fw.writing=true then(⟨1,fw.id,[]⟩:zR) else⟨2,0,fw.b⟩).how=_/\_
  by_cases hw:fw.writing=true
  ·simp only[mo,if_pos hw];exact⟨zt,zt,rfl⟩
  simp only[mo,if_neg hw];exact⟨zt,zt,rfl⟩
 rw[<- U] at G H V
 rw[w0] at G Y
 rw[w1] at H
 rw[hkd] at S u ⊢
 rw[hbk] at F u ⊢
 have ag:=J2 hkd hbk
 clear hfk hbk hk hkd U w0 w1
 go_in
 go_upto_region 1 with fail
 rw[<- u,<- R,<- D,<- hg]
 clear u R ac D hg an
 generalize fh.data.length=nd at *
 generalize Af k=Ak at *
 generalize ca k=ck at *
 cases hwr:fw.writing
 ·have:=HZ.out
  rw[y.out,hwr] at this
  exact absurd this (show ¬(26:Int)=0 by decide)
 rw[hwr] at G H Y y
 simp only[if_true] at G H Y y
 clear hwr
 go_quiet (fail)
 have P:New q (q.drewN nq):=(zN q).drewN nq
 replace G:=P.Qb G trivial
 replace H:=P.Qb H trivial
 replace V:=P.Qb V trivial
 replace F:=P.Qb F trivial
 have Z:=zh P
 clear P
 generalize q.drewN nq=p at *
 go_upto_region 3 with fail
 have ka:New p (p.alloc (.cells #[.int .i64 0,.int .i64 0,.slice none 0 0] 77)).drew:=((zN p).alloc _).drew
 have v0:=ka.Qb G trivial
 have v1:=ka.Qb H trivial
 have v2:=ka.Qb V trivial
 have v3:=ka.Qb F trivial
 clear ka
 go_region
 have k5:New p (p.alloc (.cells #[.int .i64 1,.int .i64 fw.id,.slice Ak nd ck] 77)).drew:=((zN p).alloc _).drew
 have x5:(p.alloc (.cells #[.int .i64 1,.int .i64 fw.id,.slice Ak nd ck] 77)).drew.heap[p.heap.size]?=some (.cells #[.int .i64 1,.int .i64 fw.id,.slice Ak nd ck] 77 (0,0)):=heap_alloc_new p _
 have aq:q.heap.size<=p.heap.size:=Z.size
 generalize (p.alloc (.cells #[.int .i64 1,.int .i64 fw.id,.slice Ak nd ck] 77)).drew=a at *
 generalize p.heap.size=gF at *
 have I:=Z.new k5
 have t:=J5 I (I.Qa d.2.1 zt) (d.2.2.1.new I) (I.Qa d.2.2.2.1 zt) x5
 clear G H V S o1 o2 F o4 o5 o6 o7 o8 v0 v1 v2 v3 k5 I Z
 obtain⟨S,o1,o2,F,o4,o5,o6,o7,o8⟩:=fq (o:=o) (E:=E) (cd:=cd) t.2.2.2.1
 rw[ag.1] at S
 rw[ag.2] at F
 have m0:a.cell? ⟨gF,0,none⟩=some (.int .i64 1):=a_ x5 rfl
 have m1:a.cell? ⟨gF,1,none⟩=some (.int .i64 fw.id):=a_ x5 rfl
 clear x5
 obtain⟨n,hn⟩:=zx (o.data.length)
 have HN:=zh hn
 rw[<- hn] at o8
 clear hn
 by_cases M:600<n
 ·have HE:Hid (r=(noR 3,s)):=zh (by have:=y.out;rwa[<- HN.out,if_pos M] at this)
  have:=HZ.out
  rw[HE.out] at this
  exact absurd this (show ¬(3:Int)=0 by decide)
 have hb:¬(600:Int)<n:=by omega
 go_upto_region 17 with fail
 have ah:¬600<o.data.length:=by rw[<- HN.out];exact M
 have aB:l<q.heap.size:=d.2.2.1.tree.lt
 have ai:b≠l:=fun e=>d.2.2.1.ok.ne.2.1 (by rw[<- d.2.2.1.tree.1,<- d.2.2.1.col,e])
 have ar:g≠l:=fun e=>L.2.2.2.2.2.1.2 (.inl (by rw[<- L.2.2.2.2.1,e];exact d.2.2.1.tree.1))
 have aj:go≠l:=fun e=>d.2.2.1.ok.nz.1 (by rw[<- d.2.2.1.tree.1,<- e];exact L.2.2.2.1)
 have r0:∀W,b_ (fun j=>j≠l) a.drew W->W.cell? ⟨b,0,none⟩=some (.pointer (some ⟨l,0,none⟩)):=fun W B=>B.Qb (a_ (w:=a.drew) t.2.2.1.cells (k:=0) rfl) ai
 have r1:∀W,b_ (fun j=>j≠l) a.drew W->W.cell? ⟨gF,1,none⟩=some (.int .i64 fw.id):=fun W B=>B.Qb (a_ (w:=a.drew) t.2.2.2.2 (k:=1) rfl) (by show gF≠l;omega)
 have r8:∀W,b_ (fun j=>j≠l) a.drew W->W.cell? ⟨go,8,none⟩=some (.slice E n cd):=fun W B=>by rw[HN.out];exact B.Qb (fq (w:=a.drew) t.2.2.2.1).2.2.2.2.2.2.2.2 aj
 have gk:∀W,b_ (fun j=>j≠l) a.drew W->W.heap[g]?=a.heap[g]?:=fun W B=>B.block g (Nat.lt_of_lt_of_le d.2.2.2.2 t.1.size) ar
 have au:Hid (∀W,b_ (fun j=>j≠l) a.drew W->W.heap[g]?=some (.cells #[.int .i64 0,.int .i64 0,.slice none 0 0,.slice none 0 0,.int .i64 0,.int .i64 0,.int .i64 0,.int .i64 0,.int .u64 0,.bool false] 55 (0,0))):=zh fun W B=>(gk W B).trans t.2.1
 have kd:New a a.drew:=(zN a).drew
 have z:=zh<|t.2.2.1.new kd
 have J:=zh<|yh (id:=fw.id) (X:=E) (cx:=cd) (bs:=o.data) z.tree z.ok.nz.1 HS.1.tree HS.1.few ((Row.new ao.out (t.1.new kd)).imp fun j _ h0 e=>z.ok.nz.1 (by rw[<- z.tree.1,<- e];exact h0)) zo
 have A:=zh y.out
 obtain⟨m,hm⟩:=zx (fE s.T fw.id o.data)
 rw[<- hm] at J A
 rw[if_neg ah,<- HN.out] at A
 rw[<- HN.out] at J
 obtain⟨ak,T'⟩:=m
 dsimp only at J A
 clear gk kd ai aj hm ah M hb y aq m0 m1 S o1 o2 F o4 o5 o6 o7 o8
 refine eu (b_ (fun j=>j≠l) a.drew) zk ?_
 have C:b_ (fun j=>j≠l) a.drew a.drew:=b_.refl _ _
 refine c_ 0 C ?_
 refine c_ 1 C ?_
 refine c_ 2 C ?_
 refine c_ 3 C ?_
 refine c_ 4 C ?_
 refine c_ 5 C ?_
 refine c_ 6 C ?_
 refine c_ 7 C ?_
 refine dQ (i:=8) zk rfl rfl (fun K hK=>?_)
 go_simp
 refine J.mono ?_
 rintro e w6⟨rfl,Q,c6,e6,T6⟩
 have al:=z.Qr Q e6 T6
 have y6:=au.out w6 Q
 have H6:=J4 (z.has Q) e6 al y6
 have K6:=zh Q
 have a8:=r8 w6 Q
 clear e6 T6 al J
 go_wp2_with fail
 refine hK _ _ K6.out ?_
 clear hK K C r0 r1 r8
 try simp only[zy]
 refine c_ 9 K6.out ?_
 refine wpAnyH_done zk ?_ _
 clear Q K6
 have av:Hid (Ext q c1 c6):=zh fun j hj=>H6.2.1 j (Nat.lt_of_lt_of_le hj t.1.size)
 have aw:Hid (b_ (fun j=>j<q.heap.size/\¬i.has (c1 j)) q w6):=zh (ju (c2:=c1) (b_.Qe (t.1.new (zN a).drew)) (Ext.refl _ _) H6.1)
 by_cases hw:ak=0
 rotate_left
 ·have HE:Hid (r=(noR ak,s)):=zh (by have:=A.out;rwa[if_pos hw] at this)
  have:=HZ.out
  rw[HE.out] at this
  exact absurd this hw
 subst hw
 have HE:Hid (r=({ noR 0 with n:=(n:Nat) },{ s with T:=T' })):=zh (by have:=A.out;rwa[if_neg Zd] at this)
 clear A
 obtain⟨d0,d1,d2,d3,d4,d5,d6,d7,d8,d9⟩:=eO y6
 obtain⟨z0,z1,z2,z3,z4,z5,z6,z7,z8,z9⟩:=gC y6
 go_wp2_with fail
 clear d0 d1 d2 d3 d4 d5 d6 d7 d8 d9 z0 z1 z2 z3 z4 z5 z6 z7 z8 z9
 obtain⟨hE,ax⟩:=fI y6 (.int .i64 0) (.int .i64 n) (.slice none 0 0) (.slice none 0 0) (.int .i64 0) (.int .i64 0) (.int .i64 0) (.int .i64 0) (.int .u64 0) (.bool false)
 generalize aC:World.setCell _ _ _=wE at *
 obtain⟨f0,f1,f2,f3,f4,f5,f6,f7,f8,f9⟩:=eO hE
 try simp only[Exit.inBlock,Exit.then]
 refine Zb (dT { noR 0 with n:=n } none 0 none 0) (by simp[results,results88,go_sem,f0,f1,f2,f3,f4,f5,f6,f7,f8,f9,dT,noR,ez.Qq,ez.nd]) ?_
 rw[HE.out]
 exact jT.tail (x:=({ noR 0 with n:=n },fW { s with T:=T' })) ⟨rfl,rfl⟩ zr (by have:=L.out;omega) L.2.2.1 L.2.2.2.2.1 L.2.2.2.2.2.1 d.1 aw.out av.out (by rw[Dx];exact H6.2.2.1.at_) ax d.2.2.2.2
theorem yg(h:eR w c i b (fW s))(hS:fz s){E:Option Addr}{k:Nat}{fw:FdP}(hkd:o.kind=6)(hk:k<8)(hbk:o.fd=(k:Int))(hfk:s.fd k=some fw)(ht0:0<=o.till)(ht1:o.till<=18446744073709551615)(hz:(fO s o).1.err=0)(hfw:fw.writing=true):
  Calls prog 88 #[.pointer (some ⟨b,0,none⟩),fB o E cd] w (jT w c i b ((fO s o).1,fW (fO s o).2)):=by
 obtain⟨c1,f,wa,t,go,g,Q,af,ag,hf,av,B,R,D,hg,ah,S,xo,x2⟩:=mp c i w o E cd
 have hlt:=h.lt
 obtain⟨l,bs,Af,ca,hV⟩:=h.open_
 have ai:=hV.keep S (c':=c1) Q fun _ _ _=>trivial
 have aj:g<t.heap.size:=(Zl x2)
 have n:=J5 S x2 ai xo aj
 have F:=J7 D hg Q (show c1 go=0 by rw[D];exact af) (show c1 g=f by rw[hg,D];exact ag) hf hlt
 obtain⟨I,U,V,d,X,Y,Z,o7,o8⟩:=fq xo
 obtain⟨r,hr⟩:=zx (fO s o)
 have ak:(fO s o)=r:=hr.symm
 try rw[ak]
 have HZ:Hid (r.1.err=0):=zh (by rw[hr];exact hz)
 have aw:=J3 B R ah
 unfold fB at *
 unfold dY at B ⊢
 have HS:=J3 hS hfk hk
 have al:=J2 ht0 ht1
 clear ht0 ht1
 have L:Hid (r=if fw.writing=true then(if (je s.T fw.id o.till).1≠0 then(noR (je s.T fw.id o.till).1,s) else(noR 0,setFd { s with T:=(je s.T fw.id o.till).2 } k none)) else(noR 0,setFd s k none)):=zh (by
  have am:∀wr:Bool,fdT s o.fd wr=if fw.writing=wr then some fw else none:=fun wr=>by
   unfold fdT
   rw[if_pos zo,hbk,Int.toNat_natCast,hfk]
   show(if (fw.writing==wr)=true then some fw else none)=_
   cases fw.writing <;> cases wr <;> rfl
  have ax:o.fd.toNat=k:=by rw[hbk,Int.toNat_natCast]
  rw[hr];unfold fO;rw[am,am,ax]
  cases fw.writing <;> rfl)
 clear hr ak hlt h Q af ag hf av x2 S hV ai xo aj hS hz
 have aH:¬(k:Int)<0:=by omega
 have aI:¬8<=(k:Int):=zo
 have ay:(k:Int)<8:=by omega
 obtain⟨fh,aa⟩:=zx ((fW s).fd k)
 obtain⟨u,y,J⟩:=n.2.2.1.fdCells hk
 obtain⟨w0,w1,ab⟩:fh.how=(if fw.writing=true then 1 else 2)/\fh.id=(if fw.writing=true then fw.id else 0)/\(fh.how==0)=false:=by
  have e:(fW s).fd k=mo (some fw):=by show mo (s.fd k)=_;rw[hfk]
  rw[aa,e]
  show(if fw.writing=true then(⟨1,fw.id,[]⟩:zR) else⟨2,0,fw.b⟩).how=_/\_
  by_cases hw:fw.writing=true
  ·simp only[mo,if_pos hw];exact⟨zt,zt,rfl⟩
  simp only[mo,if_neg hw];exact⟨zt,zt,rfl⟩
 rw[<- aa] at u y J
 rw[w0] at u ab
 rw[w1] at y
 rw[hkd] at I B ⊢
 rw[hbk] at d B ⊢
 have ac:=J2 hkd hbk
 clear hfk hbk hk hkd aa w0 w1
 go_in
 go_upto_region 1 with fail
 rw[<- B,<- R,<- D,<- hg]
 clear B R ah D hg aw
 generalize fh.data.length=nd at *
 generalize Af k=Ak at *
 generalize ca k=ck at *
 cases hwr:fw.writing
 ·rw[hwr] at hfw
  cases hfw
 rw[hwr] at u y ab L
 simp only[if_true] at u y ab L
 clear hwr hfw
 go_quiet (fail)
 have O:New t (t.drewN nq):=(zN t).drewN nq
 replace u:=O.Qb u trivial
 replace y:=O.Qb y trivial
 replace J:=O.Qb J trivial
 replace d:=O.Qb d trivial
 have ad:=zh O
 clear O
 generalize t.drewN nq=p at *
 go_upto_region 3 with fail
 have ka:New p (p.alloc (.cells #[.int .i64 0,.int .i64 0,.slice none 0 0] 77)).drew:=((zN p).alloc _).drew
 have v0:=ka.Qb u trivial
 have v1:=ka.Qb y trivial
 have v2:=ka.Qb J trivial
 have v3:=ka.Qb d trivial
 clear ka
 go_region
 have k5:New p (p.alloc (.cells #[.int .i64 1,.int .i64 fw.id,.slice Ak nd ck] 77)).drew:=((zN p).alloc _).drew
 have x5:(p.alloc (.cells #[.int .i64 1,.int .i64 fw.id,.slice Ak nd ck] 77)).drew.heap[p.heap.size]?=some (.cells #[.int .i64 1,.int .i64 fw.id,.slice Ak nd ck] 77 (0,0)):=heap_alloc_new p _
 have az:t.heap.size<=p.heap.size:=ad.size
 generalize (p.alloc (.cells #[.int .i64 1,.int .i64 fw.id,.slice Ak nd ck] 77)).drew=a at *
 generalize p.heap.size=gF at *
 have G:=ad.new k5
 have z:=J5 G (G.Qa n.2.1 zt) (n.2.2.1.new G) (G.Qa n.2.2.2.1 zt) x5
 clear u y J I U V d X Y Z o7 o8 v0 v1 v2 v3 k5 G ad
 obtain⟨I,U,V,d,X,Y,Z,o7,o8⟩:=fq (o:=o) (E:=E) (cd:=cd) z.2.2.2.1
 rw[ac.1] at I
 rw[ac.2] at d
 have m0:a.cell? ⟨gF,0,none⟩=some (.int .i64 1):=a_ x5 rfl
 have m1:a.cell? ⟨gF,1,none⟩=some (.int .i64 fw.id):=a_ x5 rfl
 clear x5
 have au:g≠b:=by have:=F.out;omega
 go_upto_region 23 with fail
 have aJ:l<t.heap.size:=n.2.2.1.tree.lt
 have an:b≠l:=fun e=>n.2.2.1.ok.ne.2.1 (by rw[<- n.2.2.1.tree.1,<- n.2.2.1.col,e])
 have aA:g≠l:=fun e=>F.2.2.2.2.2.1.2 (.inl (by rw[<- F.2.2.2.2.1,e];exact n.2.2.1.tree.1))
 have ae:go≠l:=fun e=>n.2.2.1.ok.nz.1 (by rw[<- n.2.2.1.tree.1,<- e];exact F.2.2.2.1)
 have r0:∀W,b_ (fun j=>j≠l) a.drew W->W.cell? ⟨b,0,none⟩=some (.pointer (some ⟨l,0,none⟩)):=fun W q=>q.Qb (a_ (w:=a.drew) z.2.2.1.cells (k:=0) rfl) an
 have r1:∀W,b_ (fun j=>j≠l) a.drew W->W.cell? ⟨gF,1,none⟩=some (.int .i64 fw.id):=fun W q=>q.Qb (a_ (w:=a.drew) z.2.2.2.2 (k:=1) rfl) (by show gF≠l;omega)
 have r6:∀W,b_ (fun j=>j≠l) a.drew W->W.cell? ⟨go,6,none⟩=some (.int .u64 o.till):=fun W q=>q.Qb (fq (w:=a.drew) z.2.2.2.1).2.2.2.2.2.2.1 ae
 have r3:∀W,b_ (fun j=>j≠l) a.drew W->W.cell? ⟨go,3,none⟩=some (.int .i64 (k:Int)):=fun W q=>by rw[<- ac.2];exact q.Qb (fq (w:=a.drew) z.2.2.2.1).2.2.2.1 ae
 have gk:∀W,b_ (fun j=>j≠l) a.drew W->W.heap[g]?=a.heap[g]?:=fun W q=>q.block g (Nat.lt_of_lt_of_le n.2.2.2.2 z.1.size) aA
 have aB:Hid (∀W,b_ (fun j=>j≠l) a.drew W->W.heap[g]?=some (.cells #[.int .i64 0,.int .i64 0,.slice none 0 0,.slice none 0 0,.int .i64 0,.int .i64 0,.int .i64 0,.int .i64 0,.int .u64 0,.bool false] 55 (0,0))):=zh fun W q=>(gk W q).trans z.2.1
 have kd:New a a.drew:=(zN a).drew
 have M:=zh<|z.2.2.1.new kd
 have N:=zh<|Dq (id:=fw.id) M.tree M.ok.nz.1 HS.1.tree HS.1.few al.1 al.2
 have H:=zh L.out
 obtain⟨m,hm⟩:=zx (je s.T fw.id o.till)
 rw[<- hm] at N H
 obtain⟨ao,T'⟩:=m
 dsimp only at N H
 have aK:(k:Int)<8:=ay
 clear gk kd an ae hm L az m0 m1 I U V d X Y Z o7 o8
 refine eu (b_ (fun j=>j≠l) a.drew) zk ?_
 have C:b_ (fun j=>j≠l) a.drew a.drew:=b_.refl _ _
 refine c_ 0 C ?_
 refine c_ 1 C ?_
 refine c_ 2 C ?_
 refine c_ 3 C ?_
 refine c_ 4 C ?_
 refine c_ 5 C ?_
 refine c_ 6 C ?_
 refine c_ 7 C ?_
 refine dQ (i:=8) zk rfl rfl (fun K hK=>?_)
 go_simp
 refine N.mono ?_
 rintro e w6⟨rfl,P,c6,e6,T6⟩
 have ap:=M.Qr P e6 T6
 have y6:=aB.out w6 P
 have A:=J4 (M.has P) e6 ap y6
 have K6:=zh P
 have d:=r3 w6 P
 clear e6 T6 ap N
 go_wp2_with fail
 refine hK _ _ K6.out ?_
 clear hK K C r0 r1 r6 r3
 try simp only[zy]
 refine c_ 9 K6.out ?_
 refine wpAnyH_done zk ?_ _
 clear P K6
 have aq:Hid (Ext t c1 c6):=zh fun j hj=>A.2.1 j (Nat.lt_of_lt_of_le hj z.1.size)
 have aC:Hid (b_ (fun j=>j<t.heap.size/\¬i.has (c1 j)) t w6):=zh (ju (c2:=c1) (b_.Qe (z.1.new (zN a).drew)) (Ext.refl _ _) A.1)
 by_cases hw:ao=0
 rotate_left
 ·have HE:Hid (r=(noR ao,s)):=zh (by have:=H.out;rwa[if_pos hw] at this)
  have:=HZ.out
  rw[HE.out] at this
  exact absurd this hw
 subst hw
 have HE:Hid (r=(noR 0,setFd { s with T:=T' } k none)):=zh (by have:=H.out;rwa[if_neg Zd] at this)
 clear H
 have I:=d
 have U:=d
 have V:=d
 have X:=d
 have Y:=d
 have Z:=d
 have o7:=d
 have o8:=d
 have m0:=d
 go_upto_region 26 with fail
 obtain⟨u,y,J⟩:=A.2.2.1.fdCells HS.2.2
 have aD:=dP A.2.2.1.cells (3+k*3)
 have aE:=dP A.2.2.1.cells (3+k*3+1)
 have aF:=dP A.2.2.1.cells (3+k*3+2)
 go_region
 clear u y J aD aE aF I U V d X Y Z o7 o8 m0
 obtain⟨ar,k7⟩:=A.2.2.1.setFd (f:=⟨0,0,[]⟩) (A1:=none) (c1:=0) HS.2.2 ⟨zr,Zd⟩ (Row.nil _ _ _ _)
 have y7:=(k7.block g (Array.getElem?_eq_some_iff.1 A.2.2.2).1 au).trans A.2.2.2
 have H7:=J3 (ar.new (zN _).drew) (k7.new (zN _).drew) ((zN _).drew.Qa y7 zt)
 clear ar k7 y7
 generalize (World.setCell _ _ _).drew=w7 at *
 have y8:=H7.2.2
 obtain⟨d0,d1,d2,d3,d4,d5,d6,d7,d8,d9⟩:=eO y8
 obtain⟨z0,z1,z2,z3,z4,z5,z6,z7,z8,z9⟩:=gC y8
 go_wp2_with fail
 clear d0 d1 d2 d3 d4 d5 d6 d7 d8 d9 z0 z1 z2 z3 z4 z5 z6 z7 z8 z9
 obtain⟨hE,aG⟩:=fI y8 (.int .i64 0) (.int .i64 0) (.slice none 0 0) (.slice none 0 0) (.int .i64 0) (.int .i64 0) (.int .i64 0) (.int .i64 0) (.int .u64 0) (.bool false)
 generalize aL:World.setCell _ _ _=wE at *
 obtain⟨f0,f1,f2,f3,f4,f5,f6,f7,f8,f9⟩:=eO hE
 try simp only[Exit.inBlock,Exit.then]
 refine Zb (dT (noR 0) none 0 none 0) (by simp[results,results88,go_sem,f0,f1,f2,f3,f4,f5,f6,f7,f8,f9,dT,noR,ez.Qq,ez.nd]) ?_
 rw[HE.out]
 have e9:fW (setFd { s with T:=T' } k none)={ ({ fW s with T:=ec T' }:gw) with fd:=fun j=>if j=k then⟨0,0,[]⟩ else(fW s).fd j }:=yc _ _ _
 have kb:b_ (fun j=>j<w6.heap.size/\¬i.has (c6 j)) w6 w7:=H7.2.1.imp fun j _ hj e=>hj.2 (by subst e;exact .inr (.inr A.2.2.1.col))
 exact jT.tail (x:=(noR 0,fW (setFd { s with T:=T' } k none))) ⟨rfl,rfl⟩ zr (by have:=F.out;omega) F.2.2.1 F.2.2.2.2.1 F.2.2.2.2.2.1 n.1 (ju aC.out aq.out kb) aq.out (by show eR _ _ _ _ (fW _);rw[e9];exact H7.1.at_) aG n.2.2.2.2
end
section
variable {w w' w2:World}{c c' c1 c2:Col}{i:fe}{b:Nat}{s:d'}{S:gw}
theorem AG(h:eR w c i b (fW s))(hS:fz s){E:Option Addr}(hkd:o.kind=1)(h0:(eH o.path).2=0)(hlp:o.path.length<=100000):
  Calls prog 22 #[.pointer (some ⟨b,0,none⟩),fB o E cd] w (jT w c i b ((gv s (eH o.path).1).1,fW (gv s (eH o.path).1).2)):=by
 obtain⟨c1,f,wa,X,go,g,l,K,L,hf,aa,a,m,d,hg,M,p,Y,Z⟩:=mp c i w o E cd
 have hlt:=h.lt
 obtain⟨bt,bs,Af,ca,hV⟩:=h.open_
 have O:=hV.keep p (c':=c1) l fun _ _ _=>trivial
 have P:g<X.heap.size:=(Zl Z)
 have G:=J5 p Z O Y P
 have k:=J7 d hg l (show c1 go=0 by rw[d];exact K) (show c1 g=f by rw[hg,d];exact L) hf hlt
 obtain⟨t,o1,o2,o3,o4,o5,o6,o7,o8⟩:=fq Y
 obtain⟨r,hr⟩:=zx (gv s (eH o.path).1)
 have Q:(gv s (eH o.path).1)=r:=hr.symm
 try rw[Q]
 have HR:=zh hr
 have ab:=J3 a m M
 unfold fB at *
 unfold dY at a ⊢
 have u:=zh<|Aq o.path hlp X
 have HF:=zh<|qT (oz h0)
 have ac:=zh<|fun H (y:H∈(eH o.path).1)=>Nat.le_trans (nG _ H y) hlp
 rw[h0] at u
 clear h0 hlp
 have R:Hid (r.1.data=[]/\r.1.names=[]):=zh (by rw[HR.out];exact sw _ _)
 rw[hkd] at t a ⊢
 have ad:=zh hkd
 have HS:=zh hS
 have z:=zh<|fun W=>pZ 1 W
 rw[show ry 1=true from rfl] at z
 clear hr Q hlt h l K L hf aa Z p hV O Y P hS hkd
 go_in
 go_upto_region 1 with fail
 rw[<- a,<- m,<- d,<- hg]
 clear a m M d hg ab
 go_wp2_with fail
 refine(z.out X).mono ?_
 rintro e w2⟨rfl,rfl⟩
 clear z
 go_wp2_with fail
 refine u.mono ?_
 rintro e w3⟨⟨A1,n1,ah,rfl,S,A,B⟩,C⟩
 have D:=J3 S A B
 have F:=J4 (C.Qa G.2.1 zt) (G.2.2.1.new C) (C.Qa G.2.2.2.1 zt) (G.1.new C)
 clear C S A B u t o1 o2 o3 o4 o5 o6 o7 o8
 obtain⟨t,o1,o2,o3,o4,o5,o6,o7,o8⟩:=fq F.2.2.1
 rw[ad.out] at t
 have T:n1<=1000:=by have h1:=Ps.len D.1;have h2:=HF.out;omega
 have I:=zh<|uM F.2.1.at_ HS.out D.1 T D.2.1 (fun H y=>Nat.le_trans (ac.out H y) Zd)
 rw[<- HR.out] at I
 obtain⟨q,s9⟩:=r
 dsimp only at I R
 clear T HR
 go_wp2_with fail
 refine I.mono ?_
 rintro e w4⟨⟨Dd,U,N,cn,rfl,ae,V,hN⟩,n4,c4,e4,h4⟩
 have J:=J4 n4 e4 h4 V
 have j:g<w3.heap.size:=(Array.getElem?_eq_some_iff.1 F.1).1
 have y4:w4.heap[g]?=some (.cells #[.int .i64 0,.int .i64 0,.slice none 0 0,.slice none 0 0,.int .i64 0,.int .i64 0,.int .i64 0,.int .i64 0,.int .u64 0,.bool false] 55 (0,0)):=(n4.block g j ⟨j,by rw[k.2.2.2.2.1];exact k.2.2.2.2.2.1.2⟩).trans F.1
 have af:=zh j
 clear n4 e4 h4 ae V hN j t o1 o2 o3 o4 o5 o6 o7 o8 I
 dsimp only[dT]
 obtain⟨d0,d1,d2,d3,d4,d5,d6,d7,d8,d9⟩:=eO y4
 obtain⟨z0,z1,z2,z3,z4,z5,z6,z7,z8,z9⟩:=gC y4
 go_wp2_with fail
 clear d0 d1 d2 d3 d4 d5 d6 d7 d8 d9 z0 z1 z2 z3 z4 z5 z6 z7 z8 z9
 obtain⟨hE,ag⟩:=fI y4 (.int .i64 q.err) (.int .i64 q.n) (.slice Dd q.data.length U) (.slice N q.names.length cn) (.int .i64 q.Qq) (.int .i64 q.nd.kind) (.int .i64 q.nd.links) (.int .i64 q.nd.size) (.int .u64 q.nd.till) (.bool q.nd.shut)
 generalize ai:World.setCell _ _ _=wE at *
 obtain⟨f0,f1,f2,f3,f4,f5,f6,f7,f8,f9⟩:=eO hE
 try simp only[Exit.inBlock,Exit.then]
 refine Zb (dT q Dd U N cn) (by simp[results,results22,go_sem,f0,f1,f2,f3,f4,f5,f6,f7,f8,f9,dT]) ?_
 exact jT.tail (x:=(q,fW s9)) R.out J.2.2.2 (by have:=k.out;omega) k.2.2.1 k.2.2.2.2.1 k.2.2.2.2.2.1 F.2.2.2 J.1 J.2.1 J.2.2.1 ag af.out
theorem DB(h:eR w c i b (fW s))(hS:fz s){E:Option Addr}(hkd:o.kind=5){k:Nat}{fw:FdP}(hk:k<8)(hbk:o.fd=(k:Int))(hfk:s.fd k=some fw)(hD:Bs w (fun j=>c j=0) E o.data.length o.data)(hz:(io s o).1.err=0):
  Calls prog 22 #[.pointer (some ⟨b,0,none⟩),fB o E cd] w (jT w c i b ((io s o).1,fW (io s o).2)):=by
 have HZ:=zh hz
 clear hz
 obtain⟨c1,f,wa,D,go,g,l,H,I,hf,aa,a,y,d,hg,J,m,S,T⟩:=mp c i w o E cd
 have hlt:=h.lt
 obtain⟨bt,bs,Af,ca,hV⟩:=h.open_
 have K:=hV.keep m (c':=c1) l fun _ _ _=>trivial
 have L:g<D.heap.size:=(Zl T)
 have F:=J5 m T K S L
 have t:=J7 d hg l (show c1 go=0 by rw[d];exact H) (show c1 g=f by rw[hg,d];exact I) hf hlt
 obtain⟨U,o1,o2,o3,o4,o5,o6,o7,o8⟩:=fq S
 obtain⟨r,V⟩:=zx (io s o)
 have M:(io s o)=r:=V.symm
 try rw[M]
 have X:=zh V
 have ab:=J3 a y J
 unfold fB at *
 unfold dY at a ⊢
 have z:=J3 hk hbk hfk
 have ac:Hid (Bs D (fun j=>c1 j=0) E o.data.length o.data):=zh (((hD.imp (E:=fun j=>c j=0/\j<w.heap.size) fun j hj h0=>⟨h0,hj⟩).new m).imp fun j _ h0=>(l j h0.2).trans h0.1)
 clear hk hbk hfk hD
 have O:Hid (r.1.data=[]/\r.1.names=[]):=zh (by rw[X.out];exact sR _ _)
 rw[hkd] at U a ⊢
 have P:=zh hkd
 have HS:=zh hS
 have A:=zh<|fun W=>pZ 5 W
 rw[show ry 5=false from rfl] at A
 clear V M hlt h l H I hf aa T m hV K S L hS hkd
 go_in
 go_upto_region 1 with fail
 rw[<- a,<- y,<- d,<- hg]
 clear a y J d hg ab
 go_wp2_with fail
 refine(A.out D).mono ?_
 rintro e w2⟨rfl,rfl⟩
 clear A
 have B:=J4 F.2.1 F.2.2.1 F.2.2.2.1 F.1
 obtain⟨w3,C⟩:=zx (D)
 rw[<- C] at B U o1 o2 o3 o4 o5 o6 o7 o8 ⊢
 have ad:=zh C
 clear C
 have u:=zh<|yf (cd:=cd) B.2.1.at_ HS.out P.out z.1 z.2.1 z.2.2 (by rw[ad.out];exact ac.out) HZ.out
 rw[<- X.out] at u
 unfold fB dY at u
 rw[P.out] at u
 obtain⟨q,s9⟩:=r
 dsimp only at u O
 clear X
 go_wp2_with fail
 refine u.mono ?_
 rintro e w4⟨⟨Dd,Q,N,cn,rfl,ae,R,hN⟩,Y,c4,e4,h4⟩
 have G:=J4 Y e4 h4 R
 have p:g<w3.heap.size:=(Array.getElem?_eq_some_iff.1 B.1).1
 have Z:w4.heap[g]?=some (.cells #[.int .i64 0,.int .i64 0,.slice none 0 0,.slice none 0 0,.int .i64 0,.int .i64 0,.int .i64 0,.int .i64 0,.int .u64 0,.bool false] 55 (0,0)):=(Y.block g p ⟨p,by rw[t.2.2.2.2.1];exact t.2.2.2.2.2.1.2⟩).trans B.1
 have af:=zh p
 clear Y e4 h4 ae R hN p U o1 o2 o3 o4 o5 o6 o7 o8 u
 dsimp only[dT]
 obtain⟨d0,d1,d2,d3,d4,d5,d6,d7,d8,d9⟩:=eO Z
 obtain⟨z0,z1,z2,z3,z4,z5,z6,z7,z8,z9⟩:=gC Z
 go_wp2_with fail
 clear d0 d1 d2 d3 d4 d5 d6 d7 d8 d9 z0 z1 z2 z3 z4 z5 z6 z7 z8 z9
 obtain⟨hE,ag⟩:=fI Z (.int .i64 q.err) (.int .i64 q.n) (.slice Dd q.data.length Q) (.slice N q.names.length cn) (.int .i64 q.Qq) (.int .i64 q.nd.kind) (.int .i64 q.nd.links) (.int .i64 q.nd.size) (.int .u64 q.nd.till) (.bool q.nd.shut)
 generalize ah:World.setCell _ _ _=wE at *
 obtain⟨f0,f1,f2,f3,f4,f5,f6,f7,f8,f9⟩:=eO hE
 try simp only[Exit.inBlock,Exit.then]
 refine Zb (dT q Dd Q N cn) (by simp[results,results22,go_sem,f0,f1,f2,f3,f4,f5,f6,f7,f8,f9,dT]) ?_
 exact jT.tail (x:=(q,fW s9)) O.out G.2.2.2 (by have:=t.out;omega) t.2.2.1 t.2.2.2.2.1 t.2.2.2.2.2.1 B.2.2.2 G.1 G.2.1 G.2.2.1 ag af.out
theorem DC(h:eR w c i b (fW s))(hS:fz s){E:Option Addr}(hkd:o.kind=6){k:Nat}{fw:FdP}(hk:k<8)(hbk:o.fd=(k:Int))(hfk:s.fd k=some fw)(ht0:0<=o.till)(ht1:o.till<=18446744073709551615)(hz:(fO s o).1.err=0)(hfw:fw.writing=true):
  Calls prog 22 #[.pointer (some ⟨b,0,none⟩),fB o E cd] w (jT w c i b ((fO s o).1,fW (fO s o).2)):=by
 have Z:=J2 hz hfw
 clear hz hfw
 obtain⟨c1,f,wa,Q,go,g,t,D,F,hf,aa,a,u,d,hg,G,y,R,S⟩:=mp c i w o E cd
 have hlt:=h.lt
 obtain⟨bt,bs,Af,ca,hV⟩:=h.open_
 have H:=hV.keep y (c':=c1) t fun _ _ _=>trivial
 have I:g<Q.heap.size:=(Zl S)
 have B:=J5 y S H R I
 have m:=J7 d hg t (show c1 go=0 by rw[d];exact D) (show c1 g=f by rw[hg,d];exact F) hf hlt
 obtain⟨T,o1,o2,o3,o4,o5,o6,o7,o8⟩:=fq R
 obtain⟨r,U⟩:=zx (fO s o)
 have J:(fO s o)=r:=U.symm
 try rw[J]
 have V:=zh U
 have ab:=J3 a u G
 unfold fB at *
 unfold dY at a ⊢
 have j:=J5 hk hbk hfk ht0 ht1
 clear hk hbk hfk ht0 ht1
 have K:Hid (r.1.data=[]/\r.1.names=[]):=zh (by rw[V.out];exact⟨by rw[ql];rfl,by rw[ql];rfl⟩)
 rw[hkd] at T a ⊢
 have L:=zh hkd
 have HS:=zh hS
 have z:=zh<|fun W=>pZ 6 W
 rw[show ry 6=false from rfl] at z
 clear U J hlt h t D F hf aa S y hV H R I hS hkd
 go_in
 go_upto_region 1 with fail
 rw[<- a,<- u,<- d,<- hg]
 clear a u G d hg ab
 go_wp2_with fail
 refine(z.out Q).mono ?_
 rintro e w2⟨rfl,rfl⟩
 clear z
 have A:=J4 B.2.1 B.2.2.1 B.2.2.2.1 B.1
 obtain⟨w3,M⟩:=zx (Q)
 rw[<- M] at A T o1 o2 o3 o4 o5 o6 o7 o8 ⊢
 clear M
 have p:=zh<|yg (E:=E) (cd:=cd) A.2.1.at_ HS.out L.out j.1 j.2.1 j.2.2.1 j.2.2.2.1 j.2.2.2.2 Z.1 Z.2
 rw[<- V.out] at p
 unfold fB dY at p
 rw[L.out] at p
 obtain⟨q,s9⟩:=r
 dsimp only at p K
 clear V
 go_wp2_with fail
 refine p.mono ?_
 rintro e w4⟨⟨Dd,O,N,cn,rfl,ac,P,hN⟩,X,c4,e4,h4⟩
 have C:=J4 X e4 h4 P
 have l:g<w3.heap.size:=(Array.getElem?_eq_some_iff.1 A.1).1
 have Y:w4.heap[g]?=some (.cells #[.int .i64 0,.int .i64 0,.slice none 0 0,.slice none 0 0,.int .i64 0,.int .i64 0,.int .i64 0,.int .i64 0,.int .u64 0,.bool false] 55 (0,0)):=(X.block g l ⟨l,by rw[m.2.2.2.2.1];exact m.2.2.2.2.2.1.2⟩).trans A.1
 have ad:=zh l
 clear X e4 h4 ac P hN l T o1 o2 o3 o4 o5 o6 o7 o8 p
 dsimp only[dT]
 obtain⟨d0,d1,d2,d3,d4,d5,d6,d7,d8,d9⟩:=eO Y
 obtain⟨z0,z1,z2,z3,z4,z5,z6,z7,z8,z9⟩:=gC Y
 go_wp2_with fail
 clear d0 d1 d2 d3 d4 d5 d6 d7 d8 d9 z0 z1 z2 z3 z4 z5 z6 z7 z8 z9
 obtain⟨hE,ae⟩:=fI Y (.int .i64 q.err) (.int .i64 q.n) (.slice Dd q.data.length O) (.slice N q.names.length cn) (.int .i64 q.Qq) (.int .i64 q.nd.kind) (.int .i64 q.nd.links) (.int .i64 q.nd.size) (.int .u64 q.nd.till) (.bool q.nd.shut)
 generalize af:World.setCell _ _ _=wE at *
 obtain⟨f0,f1,f2,f3,f4,f5,f6,f7,f8,f9⟩:=eO hE
 try simp only[Exit.inBlock,Exit.then]
 refine Zb (dT q Dd O N cn) (by simp[results,results22,go_sem,f0,f1,f2,f3,f4,f5,f6,f7,f8,f9,dT]) ?_
 exact jT.tail (x:=(q,fW s9)) K.out C.2.2.2 (by have:=m.out;omega) m.2.2.1 m.2.2.2.2.1 m.2.2.2.2.2.1 A.2.2.2 C.1 C.2.1 C.2.2.1 ae ad.out
end
theorem yR{P:Program}{a:Act}(ty:TypeId)(x:Operand)(ho:oi.op=.load ty x)(b o:Nat)(hx:a.eval x=.pointer (some ⟨b,o,none⟩))(cs:List Value)(d:TypeDesc)(hc:w.rangeAt b o cs)(hu:P.underlying ty=some d)(hd:d.isRow=true)(hi:(P.info? ty).map (·.size)=some cs.length):(execOp a.eval oi).run P w=.ok (.value (.agg cs.toArray)) w:=by
 unfold execOp
 simp only[ho,hx,Instr.loadAt,Instr.sureAddr,Sem.run_bind,Sem.run_pure,Result.andThen_ok,run_loadVar_mid w b o ty cs d hc hu hd hi]
theorem Do{bt bs:Nat}{s:gw}{A:Nat->Option Addr}{ca:Nat->Nat}(h:w.heap[b]?=some (.cells (gu bt bs s A ca) t (0,0))):w.rangeAt b 3 (([0,1,2,3,4,5,6,7].map fun k=>tt (s.fd k) (A k) (ca k)).flatten):=fun j v a=>by
 refine a_ h ?_
 unfold gu
 rw[List.getElem?_toArray,List.getElem?_append_right (by simp)]
 simpa using a
theorem xR{s:gw}(h:eR w c I b s)(hF:m8 s.T)(hn:s.S.list.length<=1000000)(hJ:J.Ok):Calls prog 21 #[.pointer (some ⟨b,0,none⟩)] w (pu w c J s):=by
 have hlt:=h.lt
 obtain⟨Q,bs,A,ca,j⟩:=h.open_
 have HV:=zh j
 have R:∀W,New w.drew W->W.cell? ⟨b,0,none⟩=some (.pointer (some ⟨Q,0,none⟩)):=fun W f=>f.Qb (a_ (w:=w.drew) j.cells (k:=0) rfl) trivial
 have c1:∀W,New w.drew W->W.cell? ⟨b,1,none⟩=some (.pointer (some ⟨bs,0,none⟩)):=fun W f=>f.Qb (a_ (w:=w.drew) j.cells (k:=1) rfl) trivial
 have c2:∀W,New w.drew W->W.cell? ⟨b,2,none⟩=some (.int .u64 s.clock):=fun W f=>f.Qb (a_ (w:=w.drew) j.cells (k:=2) rfl) trivial
 obtain⟨n,l⟩:=zx (([0,1,2,3,4,5,6,7].map fun k=>tt (s.fd k) (A k) (ca k)).flatten)
 have L:Hid (∀W,b_ (fun _=>True) w.drew W->W.rangeAt b 3 n):=zh fun W f=>by rw[l];exact Do (b_.Qa f (show w.drew.heap[b]?=_ from j.cells) zt)
 have hI:Hid ((prog.info? 78).map (·.size)=some n.length):=zh (by rw[l];kernel_rfl)
 have M:=zh l
 clear l
 have U:=zh<|pX (w:=w.drew) (j.tree.new (b_.drew (zN w))) hF J.t
 clear hF j
 go_in
 go_upto_region 1 with fail
 refine eu (b_ (fun _=>True) w.drew) zk ?_
 have a:b_ (fun _=>True) w.drew w.drew:=b_.refl _ _
 refine c_ 0 a ?_
 refine c_ 1 a ?_
 refine c_ 2 a ?_
 refine c_ 3 a ?_
 refine c_ 5 a ?_
 refine c_ 6 a ?_
 refine c_ 7 a ?_
 refine c_ 8 a ?_
 refine c_ 10 a ?_
 refine c_ 11 a ?_
 refine c_ 12 a ?_
 refine c_ 13 a ?_
 refine c_ 14 a ?_
 refine c_ 15 a ?_
 refine c_ 16 a ?_
 refine c_ 17 a ?_ (v:=.agg n.toArray) (hy:=fun W f=>yR 78 _ rfl b 3 rfl n (.array 8 77) (L.out W f) zk rfl hI.out)
 clear R c1 c2 L
 refine dQ (i:=4) zk rfl rfl (fun K g=>?_)
 go_simp
 refine U.mono ?_
 rintro e Y⟨p,N,rfl,q,E,z,B⟩;have F:=J4 q E z B;clear E z B
 go_wp2_with fail
 have d:=b_.new a q
 refine g _ _ d ?_
 clear g K
 try simp only[zy]
 replace a:=d
 clear d
 refine dQ (i:=9) zk rfl rfl (fun K g=>?_)
 go_simp
 refine(pY (iJ.keep HV.snaps ((b_.drew (zN w)).new F.1) (show Ext w c N from F.2.2.1) trivial fun _ _ _=>zt) hn J.s).mono ?_
 rintro e m⟨r,G,rfl,u,H,x,C⟩;have V:=J4 u H x C;clear H x C
 go_wp2_with fail
 have d:=b_.new a u
 refine g _ _ d ?_
 clear g K
 try simp only[zy]
 replace a:=d
 clear d
 rw[show Value.agg n.toArray=Value.agg #[.int .i64 (s.fd 0).how,.int .i64 (s.fd 0).id,.slice (A 0) (s.fd 0).data.length (ca 0),.int .i64 (s.fd 1).how,.int .i64 (s.fd 1).id,.slice (A 1) (s.fd 1).data.length (ca 1),.int .i64 (s.fd 2).how,.int .i64 (s.fd 2).id,.slice (A 2) (s.fd 2).data.length (ca 2),.int .i64 (s.fd 3).how,.int .i64 (s.fd 3).id,.slice (A 3) (s.fd 3).data.length (ca 3),.int .i64 (s.fd 4).how,.int .i64 (s.fd 4).id,.slice (A 4) (s.fd 4).data.length (ca 4),.int .i64 (s.fd 5).how,.int .i64 (s.fd 5).id,.slice (A 5) (s.fd 5).data.length (ca 5),.int .i64 (s.fd 6).how,.int .i64 (s.fd 6).id,.slice (A 6) (s.fd 6).data.length (ca 6),.int .i64 (s.fd 7).how,.int .i64 (s.fd 7).id,.slice (A 7) (s.fd 7).data.length (ca 7)] by rw[M.out];rfl]
 refine c_ 18 a ?_
 have y:=(zN m).alloc (.cells (gu p r s A ca) 80)
 refine dQ (i:=19) zk rfl rfl (fun K g=>?_)
 go_simp
 go_wp2_with fail
 have d:=b_.new a y
 refine g _ _ d ?_
 clear g K
 try simp only[zy]
 replace a:=d
 clear d
 refine c_ 20 a ?_
 refine wpAnyH_done zk ?_ _
 go_wp2
 go_ret
 obtain⟨q,E,z,B⟩:=F.out
 obtain⟨u,H,x,C⟩:=V.out
 have D:New w m:=((b_.drew (zN w)).new q).new u
 have X:=heap_alloc_new m (.cells (gu p r s A ca) 80)
 have e3:=G.Qg m fun _=>J.o
 have O:Ext w c N:=z
 have P:=(O.trans x q.size).trans e3 D.size
 exact⟨m.heap.size,G.on m.heap.size fun _=>J.o,rfl,D.new y,D.size,P,G.Qf _ zr,hJ,p,r,A,ca,X,((B.keep u x trivial fun _ _ _=>zt).keep y e3 trivial fun _ _ _=>zt),C.keep y e3 trivial (fun _ _ _=>zt),fun k hk=>⟨(HV.fd k hk).1,jR (HV.fd k hk).2 (D.new y) P fun _ _ _=>zt⟩⟩
theorem qh{α:Type}(ls:List (List α))(k:Nat)(hk:k<ls.length):(ls.take (k+1)).flatten=(ls.take k).flatten++ls[k]:=by
 rw[List.take_succ_eq_append_getElem hk,List.flatten_append,List.flatten_singleton]
theorem pM{α:Type}(ls:List (List α))(k:Nat)(hk:k<ls.length):(ls.take k).flatten.length+ls[k].length<=ls.flatten.length:=by
 have h:ls.flatten=(ls.take (k+1)).flatten++(ls.drop (k+1)).flatten:=by rw[<- List.flatten_append,List.take_append_drop]
 rw[h,qh ls k hk,zL,zL]
 omega
theorem D9(n:Nat)(w:World)(hn:n<=1000000):
  Calls prog 128 #[.slice none 0 0,.int .i64 n] w fun e w'=>(∃A' c',e=.returned (.slice A' 0 c')/\gJ 45 gT w' w.heap.size (fun b=>b<w.heap.size) A' 0 c' [])/\New w w':=by
 by_cases h0:n=0
 ·subst h0
  rw[show((0:Nat):Int)=0 from rfl]
  go_in
  go_wp2
  go_ret
  exact⟨⟨none,0,rfl,gJ.nil _ _ _ _ _⟩,zN _⟩
 obtain⟨i,hi,h,m,d⟩:=info_parts jO
 have l:0<n:=by omega
 have f:(Builtin.firstCells i.size 0 (.slice none 0 0)).run prog w.drew=.ok ([]:List Value).toArray w.drew:=by
  simp[Builtin.firstCells]
 have a:Builtin.nextslicecap (0+n) 0*i.bytes<=281474976710656:=by
  rw[d];unfold Builtin.nextslicecap;rw[if_pos zo];omega
 have g:=fun q=>Lib.run_append_grow_zeros w 68 3 q 45 i (.agg #[.int .i64 0,.int .u64 0,.slice none 0 0]) .i64 .i64 underlying68 underlying3 hi h none 0 0 [] f n l zo zo zo (by rw[d];omega) a
 have o:=Go.grownCap_ge w (0+n) 0 45
 have j:=Go.grownCap_le_maxLen w (0+n) 0 45 (by unfold maxLen;omega)
 simp only[Nat.zero_add] at g o j
 have c:(([]:List Value).toArray++Builtin.zeroCells (Value.agg #[.int .i64 0,.int .u64 0,.slice none 0 0]).cells n++Builtin.zeroCells (Value.agg #[.int .i64 0,.int .u64 0,.slice none 0 0]).cells (grownCap w n 0 45-n)).size=grownCap w n 0 45*3:=by
  simp[Builtin.zeroCells,Value.cells]
  omega
 generalize (([]:List Value).toArray++Builtin.zeroCells (Value.agg #[.int .i64 0,.int .u64 0,.slice none 0 0]).cells n++Builtin.zeroCells (Value.agg #[.int .i64 0,.int .u64 0,.slice none 0 0]).cells (grownCap w n 0 45-n))=r at *
 generalize grownCap w n 0 45=G at *
 have p:0<(n:Int):=zo
 have s:=zh c
 have t:=zh g
 clear g
 unfold maxLen at j
 clear c a f h m d hi h0
 go_in
 go_wp2_with (at_builtin;refine mB rfl (.tmp 20) (.tmp 21) _ _ rfl _ _ _ _ rfl rfl (t.out _) ?_)
 go_ret
 refine⟨⟨_,_,rfl,?_⟩,(zN w).drew.alloc _⟩
 exact⟨[],⟨rfl,.inr ⟨w.heap.size,G,r,rfl,zr,heap_alloc_new w.drew _,Nat.zero_le _,by unfold maxLen;omega,s.out,rfl⟩⟩,rfl,fun k hk=>absurd hk (by simp)⟩
theorem zD(D:Nat->Prop)(A:Option Addr)(n c:Nat)(ls:List (List eA))(w:World)(hB:Sl (vd gT) w D A n ls)(hn:ls.flatten.length<=1000000)(hm:n<=9223372036854775807):
  Calls prog 44 #[.slice A n c] w fun e w'=>(∃A' c',e=.returned (.slice A' ls.flatten.length c')/\gJ 45 gT w' w.heap.size (fun b=>D b/\b<w.heap.size) A' ls.flatten.length c' ls.flatten)/\New w w':=by
 have hl:=hB.len
 have B:=zh<|hB.imp (F:=fun b=>D b/\b<w.heap.size) fun b hb hd=>⟨hd,hb⟩
 clear hB
 go_in
 go_wp2_with fail
 go_loop [3,11] (fun S i=>∃k m:Nat,k<=n/\m<=1000000/\i=.int .i64 (k:Int)/\S=.int .i64 (m:Int)/\m=(ls.take k).flatten.length) (fun _ i=>n-(intOf i).toNat)
 case atStart=>exact⟨0,0,Nat.zero_le _,Nat.zero_le _,rfl,rfl,by simp⟩
 obtain⟨k,m,hk,C,rfl,rfl,r⟩:=hrel
 have u:=zh r
 clear r
 by_cases hlt:k<n
 ·obtain⟨b,off,A',c',rfl,-,hc,v,-,hb⟩:=B.at1 (k:=k) zo
  have hfl:=pM ls k zo
  rw[<- u.out] at hfl
  have g:=zh<|qh ls k zo
  generalize ls[k]'_=x at *
  have T:¬((m:Int)+x.length<0):=zo
  have X:x.length<=1000000:=by omega
  clear hb
  go_wp2
  go_round
  case rel=>exact⟨k+1,m+x.length,zo,zo,by go_num,by go_num,by rw[g.out,zL,<- u.out]⟩
  simp[intOf];omega
 obtain rfl:k=n:=by omega
 rw[List.take_of_length_le zo] at u
 go_wp2_with fail
 refine(D9 m w C).mono ?_
 rintro e Z⟨⟨A1,c1,rfl,a⟩,d⟩
 go_wp2_with fail
 go_loopw [6,27] (fun U i G=>∃(j f:Nat) (A':Option Addr) (c':Nat),j<=k/\i=.int .i64 (j:Int)/\U=.slice A' f c'/\f=(ls.take j).flatten.length/\gJ 45 gT G w.heap.size (fun b=>D b/\b<w.heap.size) A' f c' (ls.take j).flatten/\New w G) (fun _ i _=>k-(intOf i).toNat)
 case atStart=>exact⟨0,0,A1,c1,Nat.zero_le _,rfl,rfl,by simp,(by obtain⟨V,h1,h2,-⟩:=a;exact⟨V,h1,h2,fun k hk=>absurd hk (by simp)⟩),d⟩
 clear a d
 obtain⟨j,f,p,c2,hj,rfl,rfl,s,a,d⟩:=hrel
 have l:=zh s
 clear s
 by_cases hlt:j<k
 ·obtain⟨b,off,A',c',rfl,-,hc,v,Y,hb⟩:=(B.new d).at1 (k:=j) zo
  have hfl:=pM ls j zo
  rw[<- l.out] at hfl
  have g:=zh<|qh ls j zo
  generalize ls[j]'_=x at *
  have H:f+x.length<=9223372036854775807:=by omega
  have y:(f+x.length)*40<=140737488355328:=by omega
  have I:=d.size
  obtain⟨J,K,L,M⟩:=hb
  obtain⟨W,N,O,P,Q⟩:=info_parts jO
  have hy:∀k (h:k<x.length),gT.At wr (fun b=>(D b/\b<w.heap.size)/\some b≠blk p) J (k*gT.size) x[k]:=fun k hk=>gT.imp (M k hk) (E:=fun b=>(D b/\b<w.heap.size)/\some b≠blk p) fun b _ hd=>⟨hd,fun e=>by have:=(a.lt b e.symm).1;have:=hd.2;omega⟩
  go_wp2_with (at_builtin;refine xd (E:=gT) _ rfl (.tmp 31) (.tmp 32) 68 45 rfl W (.agg #[.int .i64 0,.int .u64 0,.slice none 0 0]) 40 underlying68 N O P Q rfl w.heap.size (fun b=>D b/\b<w.heap.size) p f c2 _ rfl a _ A' x.length c' J x rfl K L hy H y I ?_;intro A3 c3 w3 q t z)
  have R:=d.grown t (fun k hk _=>(a.lt k hk).1)
  clear t z a d hc K L M hy
  go_roundw
  case rel=>exact⟨j+1,_,_,_,zo,by go_num,rfl,by rw[g.out,zL,<- l.out],by rw[g.out];exact q,R⟩
  simp[intOf];omega
 obtain rfl:j=k:=by omega
 rw[List.take_of_length_le zo] at l a
 go_wp2
 go_ret
 have o:=l.out
 exact⟨⟨p,c2,by rw[<- o];rfl,by rw[<- o];exact a⟩,d⟩
def lvK(k p g:Nat)(id:List UInt8)(s:kL):iO:=⟨k,p,g,s.segs.length,(ef id s.segs).next,(ef id s.segs).prev,s.waits⟩
section
variable {k p g:Nat}{id:List UInt8}{s:kL}
theorem yE(h:kW id g s):(lvK k p g id s).shut=lvK k p g id s.shut:=by
 unfold iO.shut kL.shut
 by_cases hz:s.waits.length=0
 ·rw[if_pos hz,if_pos (show(lvK k p g id s).waits.length=0 from hz)]
 rw[if_neg hz,if_neg (show ¬(lvK k p g id s).waits.length=0 from hz)]
 unfold lvK
 dsimp only
 rw[jN]
 unfold l9
 dsimp only
 rw[h.fine.ok.heads,zL,List.length_singleton]
theorem ul(h:kW id g s){S:List UInt8}(hl:lx S p g (ef id s.segs).images)(hfit:∀i,i<g->gG p i+1024<=S.length):lx ((lvK k p g id s).disk S) p g (ef id s.shut.segs).images:=by
 unfold iO.disk kL.shut
 by_cases hz:s.waits.length=0
 ·rw[if_pos (show(lvK k p g id s).waits.length=0 from hz),if_pos hz];exact hl
 rw[if_neg (show ¬(lvK k p g id s).waits.length=0 from hz),if_neg hz]
 have a:=h.fine.ok
 have hs:=h.seg hz
 have hf:=h.free hz
 dsimp only
 rw[jN]
 show lx (splice S (gG p s.segs.length) (gh (s.segs.length:Nat) (ef id s.segs).next (ef id s.segs).prev s.waits)) p g ((ef id s.segs).images++[gh ((ef id s.segs).heads.length:Nat) (ef id s.segs).next (ef id s.segs).prev s.waits])
 rw[a.heads]
 have hw:=hl.write (b:=gh (s.segs.length:Nat) (ef id s.segs).next (ef id s.segs).prev s.waits) (by rw[a.images];exact hf) (jq _ _ _ _ hs.prev hs.room) (by rw[a.images];exact hfit _ hf)
 rw[a.images] at hw
 exact hw
theorem mb(_h:kW id g s)(r:eA):(lvK k p g id s).code r=match s.append g r with|some _=>0|none=>15:=by
 unfold iO.code kL.append iO.fits
 show(if g-s.segs.length=0 then _ else if decide (eX s.waits+eU r<=942)=true then _ else if g-s.segs.length=1 then _ else _)=_
 by_cases h1:g-s.segs.length=0
 ·rw[if_pos h1,if_pos h1]
 rw[if_neg h1,if_neg h1]
 by_cases h2:eX s.waits+eU r<=942
 ·rw[if_pos (decide_eq_true h2),if_pos h2]
 rw[if_neg (by simpa using h2),if_neg h2]
 by_cases h3:g-s.segs.length=1
 ·rw[if_pos h3,if_pos h3]
 rw[if_neg h3,if_neg h3]
theorem sX(_h:kW id n s)(hr:dZ r=true)(h2:¬eX s.waits+eU r<=942):s.waits.length≠0:=by
 intro e
 have a:=List.eq_nil_of_length_eq_zero e
 rw[a] at h2
 have hs:eU r<=942:=by
  have:=gE r
  rw[hr] at this
  unfold eU
  rw[if_pos hr]
  have:=of_decide_eq_true this.symm
  omega
 simp[eX,dW] at h2
 omega
theorem Cl{s':kL}(he:s.append g r=some s')(hw:eX s.waits+eU r<=942):(lvK k p g id s).fits r=true/\(lvK k p g id s).g-(lvK k p g id s).sealed≠0:=by
 refine⟨decide_eq_true hw,fun e=>?_⟩
 unfold kL.append at he
 rw[if_pos (show g-s.segs.length=0 from e)] at he
 cases he
theorem tT(h:kW id g s)(hr:dZ r=true){s':kL}(he:s.append g r=some s'):(lvK k p g id s).append r=lvK k p g id s':=by
 have hc:=mb (k:=k) (p:=p) h r
 rw[he] at hc
 unfold iO.append
 rw[if_neg (by rw[hc];exact(by decide:¬(0:Int)=15))]
 unfold kL.append at he
 split at he
 ·cases he
 split at he
 ·rename_i h2
  injection he with he
  subst he
  rw[if_pos (show(lvK k p g id s).fits r=true from decide_eq_true h2)]
  rfl
 rename_i h2
 split at he
 ·cases he
 injection he with he
 subst he
 rw[if_neg (show ¬(lvK k p g id s).fits r=true from fun q=>h2 (of_decide_eq_true q)),yE h]
 unfold kL.shut
 rw[if_neg (sX h hr h2)]
 rfl
theorem qY(h:kW id g s)(hr:dZ r=true){s':kL}(he:s.append g r=some s'){S:List UInt8}(hl:lx S p g (ef id s.segs).images)(hfit:∀i,i<g->gG p i+1024<=S.length):
  lx ((lvK k p g id s).adisk r S) p g (ef id s'.segs).images:=by
 have hc:=mb (k:=k) (p:=p) h r
 rw[he] at hc
 unfold iO.adisk
 rw[if_neg (by rw[hc];exact(by decide:¬(0:Int)=15))]
 unfold kL.append at he
 split at he
 ·cases he
 split at he
 ·rename_i h2
  injection he with he
  subst he
  rw[if_pos (show(lvK k p g id s).fits r=true from decide_eq_true h2)]
  exact hl
 rename_i h2
 split at he
 ·cases he
 injection he with he
 subst he
 rw[if_neg (show ¬(lvK k p g id s).fits r=true from fun q=>h2 (of_decide_eq_true q))]
 have hd:=ul (k:=k) h hl hfit
 unfold kL.shut at hd
 rw[if_neg (sX h hr h2)] at hd
 exact hd
theorem xz{S b:List UInt8}{off a:Nat}(h:off+b.length<=S.length)(ha:a+n<=off):((splice S off b).drop a).take n=(S.drop a).take n:=by
 apply List.ext_getElem?
 intro x
 rw[List.getElem?_take,List.getElem?_take]
 split
 ·rw[List.getElem?_drop,List.getElem?_drop,pV h,if_neg zo]
 rfl
def lW(S S':List UInt8)(n:Nat):Prop:=S'.length=S.length/\∀a m,a+m<=n->(S'.drop a).take m=(S.drop a).take m
theorem lW.refl(S:List UInt8)(n:Nat):lW S S n:=⟨rfl,fun _ _ _=>rfl⟩
theorem lW.trans{S S' S2:List UInt8}{n:Nat}(h:lW S S' n)(h':lW S' S2 n):lW S S2 n:=⟨h'.1.trans h.1,fun a m ha=>(h'.2 a m ha).trans (h.2 a m ha)⟩
theorem ud(h:kW id g s){S:List UInt8}(hfit:∀i,i<g->gG p i+1024<=S.length):lW S ((lvK k p g id s).disk S) ((1+2*p)*128):=by
 unfold iO.disk
 by_cases hz:s.waits.length=0
 ·rw[if_pos (show(lvK k p g id s).waits.length=0 from hz)];exact lW.refl _ _
 rw[if_neg (show ¬(lvK k p g id s).waits.length=0 from hz)]
 have hs:=h.seg hz
 have hl:(gh (s.segs.length:Nat) (ef id s.segs).next (ef id s.segs).prev s.waits).length=1024:=jq _ _ _ _ hs.prev hs.room
 have hf:=hfit _ (h.free hz)
 have hb:gG p s.segs.length+(gh (s.segs.length:Nat) (ef id s.segs).next (ef id s.segs).prev s.waits).length<=S.length:=by rw[hl];exact hf
 refine⟨pB hb,fun a m ha=>xz hb ?_⟩
 show a+m<=gG p s.segs.length
 unfold gG
 omega
theorem qP(h:kW id g s){S:List UInt8}(hfit:∀i,i<g->gG p i+1024<=S.length):lW S ((lvK k p g id s).adisk r S) ((1+2*p)*128):=by
 unfold iO.adisk
 split
 ·exact lW.refl _ _
 split
 ·exact lW.refl _ _
 exact ud h hfit
end
section
variable {P:Program}{ops:Array Oper}{Q:Exit->Act->World->Prop}{md:Region.Mode}{Ws:List Nat}{S T:World->Prop}{w0:World}{fuel:Nat}{listed:Array Bool}{a:Act}{w:World}
theorem nW(i:Nat){v:Value}(hST:S w/\(il Ws listed=true->T w))(h:iZ P md ops Q Ws S T fuel (listed.setIfInBounds i true) a' w)(hi:ops[i]?=some oi:=by rfl)(hs:Region.noSelect ops=true:=by kernel_rfl)(hf:Region.free md ops listed i=true:=by kernel_rfl)(hr:(Region.ready md ops listed).contains i=true:=by kernel_rfl)(hc:Ws.contains i=false:=by rfl)(hQ:∀c a w,Q (.panic c) (a.put oi.dst v) w->Q (.panic c) a w:=by exact fun _ _ _ h=>h)(hw:Region.wanted oi (yielded ops a.tmps)=true:=by rfl)(hy:∀w',S w'->(execOp a.eval oi).run P w'=.ok (.value v) w':=by intro w' hN;go_simp;try with_reducible rfl)(ha:a.put oi.dst v=a':=by (conv=>lhs;simp only[Act.put,ly1,ly2,ly3,ly4,ly5,ly6]);try exact rfl):iZ P md ops Q Ws S T (fuel+1) listed a w :=
 jQ hST hi hs hf hr hc hQ hw hy (ha▸h)
theorem FU(i:Nat){v:Value}(hST:S w/\(il Ws listed=true->T w))(h:iZ P md ops Q Ws S T fuel (listed.setIfInBounds i true) a' w)(hi:ops[i]?=some oi:=by rfl)(hs:Region.noSelect ops=true:=by kernel_rfl)(hf:Region.free md ops listed i=true:=by kernel_rfl)(hr:(Region.ready md ops listed).contains i=true:=by kernel_rfl)(hc:Et md ops Ws i=true:=by kernel_rfl)(hcl:il Ws listed=true:=by kernel_rfl)(hQ:∀c a w,Q (.panic c) (a.put oi.dst v) w->Q (.panic c) a w:=by exact fun _ _ _ h=>h)(hw:Region.wanted oi (yielded ops a.tmps)=true:=by rfl)(hy:∀w',T w'->(execOp a.eval oi).run P w'=.ok (.value v) w':=by intro w' hN;go_simp;try with_reducible rfl)(ha:a.put oi.dst v=a':=by (conv=>lhs;simp only[Act.put,ly1,ly2,ly3,ly4,ly5,ly6]);try exact rfl):iZ P md ops Q Ws S T (fuel+1) listed a w :=
 sd hST hi hs hf hr hc hcl hQ hw hy (ha▸h)
theorem sU{o:Oper}{K:Act->World->Prop}{s x:Operand}(ho:o.op=.call { callee:=.builtin .append,args:=#[s,x],argTypes:=#[t,t] }){e:TypeId}{bytes:Nat}(ht:P.underlying t=some (.slice e))(hi:∃i z,P.info? e=some i/\i.zero=some z/\i.size=size/\i.bytes=bytes/\z.cells.size=size)(hsz:0<size){c:Nat}(hs:a.eval s=.slice A n c)(hown:Own w base e size A n c xs){A2:Option Addr}{m c2:Nat}{news:List Value}(hx:a.eval x=.slice A2 m c2)(hr:Row w D A2 m size news)(h1:∀u∈news,u.oneCell'=true)(h63:n+m<=maxLen)(hbytes:(n+m)*bytes<=140737488355328)(hb:base<=w.heap.size)(h:∀A' c' w',Own w' base e size A' (n+m) c' (xs++news)->b_ (fun j=>some j≠blk A) w w'->(blk A'=blk A\/blk A'=some w.heap.size)->K (a.put o.dst (.slice A' (n+m) c')) w'):o.wp P a w K Q:=by
 obtain⟨i,z,hi,hz,g,k,l⟩:=hi
 obtain⟨A',c',w',b,h2,hg,d⟩:=jH (P:=P) w base t o.type e i z size bytes ht hi hz g k l hsz A n c xs hown D A2 m c2 news hr h1 h63 hbytes hb
 unfold Oper.wp execOp
 simp only[ho,resolve,invoke,builtin,Sem.run_bind,Sem.run_pure,Result.andThen_ok,List.map_toArray,List.map_cons,List.map_nil,hs,hx,b]
 exact h A' c' w' h2 ⟨hg.os,hg.tape,hg.output,hg.size,fun j hj f=>hg.block j hj f⟩ d
end
section
variable {s s':d'}{o:OpP}
theorem zc{n:Int}{wr:Bool}{f:FdP}(h:fdT s n wr=some f):∃k:Nat,k<8/\n=(k:Int)/\s.fd k=some f/\f.writing=wr:=by
 unfold fdT at h
 split at h
 ·rename_i hn
  obtain⟨h1,h2⟩:=Option.filter_eq_some_iff.1 h
  exact⟨n.toNat,zo,zo,h1,by simpa using h2⟩
 cases h
theorem G_{T:dX}(h:eo T)(p:eZ)(kind:Int):0<=(g_ T p kind).1/\(g_ T p kind).1<=63:=by
 have z:(0:Int)<=0/\(0:Int)<=63:=⟨Int.le_refl _,Zd⟩
 unfold g_
 split
 ·exact z
 split
 ·exact z
 split
 ·exact z
 split
 ·exact z
 split
 ·exact z
 rename_i hl
 have hf:=wS h zo
 exact⟨by have:=hf.2.1;dsimp only;omega,hf.2.2.1⟩
theorem fz.fdSet(h:fz s)(k:Nat)(f:Option FdP)(hf:∀x,f=some x->(x.writing=true->x.b=[]/\0<=x.id/\x.id<=63)/\(x.writing=false->x.id=0/\x.b.length<=4096)):fz (setFd s k f) where
 tree:=h.tree
 few:=h.few
 now:=h.now
 fd:=fun j x a=>by
  unfold setFd at a
  dsimp only at a
  split at a
  ·exact hf x a
  exact h.fd j x a
 snaps:=h.snaps
 snap:=h.snap
 ids:=h.ids
 next:=h.next
 last:=h.last
theorem fz.treeSet(h:fz s){T:dX}(h1:eo T)(h2:eV T):fz { s with T:=T }:=⟨h1,h2,h.now,h.fd,h.snaps,h.snap,h.ids,h.next,h.last⟩
theorem fz.create(h:fz s)(p:eZ):fz (gv s p).2:=by
 unfold gv
 split
 ·exact h
 split
 ·exact h
 refine(h.treeSet (Fr h.tree p 1) (Fs h.few p 1)).fdSet _ _ fun x a=>?_
 injection a with a
 subst a
 exact⟨fun _=>⟨rfl,G_ h.tree p 1⟩,fun e=>by cases e⟩
theorem fz.write(h:fz s)(o:OpP):fz (io s o).2:=by
 unfold io
 repeat' split
 all_goals first|exact h|exact h.treeSet (BY h.tree _ _) (BZ h.few _ _)
theorem fz.close(h:fz s)(ht:0<=o.till):fz (fO s o).2:=by
 unfold fO
 repeat' split
 all_goals first
  | exact h
  | exact(h.treeSet (EP h.tree _ _ ht) (EQ h.few _ _)).fdSet _ _ fun x a=>by cases a
  | exact h.fdSet _ _ fun x a=>by cases a
theorem fz.settled(h:fz s):fz s.settled:=⟨pN h.tree,pO h.few,h.now,fun k f hf=>(by cases hf),h.snaps,h.snap,h.ids,h.next,h.last⟩
def jV(s:d')(o:OpP)(s':d'):Prop :=
 (o.kind=1/\(eH o.path).2=0/\(gv s (eH o.path).1).1.err=0/\s'=(gv s (eH o.path).1).2) \/
 (o.kind=5/\(io s o).1.err=0/\s'=(io s o).2)\/(o.kind=6/\(fO s o).1.err=0/\s'=(fO s o).2/\(fdT s o.fd true).isSome=true)
theorem jV.inv(h:jV s o s')(hS:fz s)(ht:0<=o.till):fz s':=by
 rcases h with⟨-,-,-,rfl⟩|⟨-,-,rfl⟩|⟨-,-,rfl,-⟩
 ·exact hS.create _
 ·exact hS.write _
 exact hS.close ht
theorem jV.strip(h:jV s o s'){a:ji}(ha:iR o.kind=some a):jV s (strip a o) s':=by
 rcases h with⟨hk,h1,h2,h3⟩|⟨hk,h1,h2⟩|⟨hk,h1,h2,h3⟩
 ·rw[hk] at ha
  injection ha with ha
  subst ha
  exact .inl ⟨hk,h1,h2,h3⟩
 ·rw[hk] at ha
  injection ha with ha
  subst ha
  exact .inr (.inl ⟨hk,h1,h2⟩)
 rw[hk] at ha
 injection ha with ha
 subst ha
 exact .inr (.inr ⟨hk,h1,h2,h3⟩)
theorem jV.kind(h:jV s o s'):o.kind=1\/o.kind=5\/o.kind=6:=by
 rcases h with⟨hk,-⟩|⟨hk,-⟩|⟨hk,-⟩
 ·exact .inl hk
 ·exact .inr (.inl hk)
 exact .inr (.inr hk)
end
section
variable {T:dX}{it:eI}{id k:Int}{n:Nat}
theorem z_(h:dN T k=some it)(hne:k≠id):∃it',dN (gD T id) k=some it'/\it'.n=it.n:=by
 unfold gD
 cases hg:dN T id with
 | none=>exact⟨it,h,rfl⟩
 | some x =>
  dsimp only
  split
  ·refine⟨gP id it,?_,rfl⟩
   unfold qV
   rw[gi,if_neg hne,rG,h];rfl
  exact⟨it,h,rfl⟩
theorem rQ:∀(l:List Int){T:dX}{it:eI},dN T k=some it->k∉l->∃it',dN (l.foldl gD T) k=some it'/\it'.n=it.n
 | [],_,it,h,_=>⟨it,h,rfl⟩
 | a::r,T,it,h,hn=>by
  obtain⟨x,hx,he⟩:=z_ (id:=a) h (fun e=>hn (by rw[e];exact List.mem_cons_self ..))
  obtain⟨y,hy,b⟩:=rQ r hx (fun q=>hn (List.mem_cons_of_mem _ q))
  exact⟨y,hy,b.trans he⟩
def kY(T:dX)(n:Nat):dX:=((T.map (·.1)).take n).foldl gD T
theorem C7:kY T T.length=fT T:=by unfold kY;rw[List.take_of_length_le (by simp)];rfl
theorem zZ(h:n<T.length):kY T (n+1)=gD (kY T n) T[n].1:=by
 unfold kY
 rw[uf _ _ _ _ (by rw[List.length_map];exact h),List.getElem_map]
theorem EK(hr:ee T)(h:n<T.length):∃it',dN (kY T n) T[n].1=some it'/\it'.n=T[n].2.n:=by
 refine rQ _ (By hr h) fun hm=>?_
 obtain⟨j,hj,he⟩:=List.getElem_of_mem hm
 rw[List.length_take,List.length_map] at hj
 rw[List.getElem_take,List.getElem_map] at he
 have:=List.pairwise_iff_getElem.1 hr j n zo h zo
 rw[he] at this
 exact Ord2.irr _ this
theorem C5(h:eo T)(n:Nat):eo (kY T n):=ny eo gD (fun _ a hb=>qW hb a) _ _ h
theorem C6(h:eV T)(n:Nat):eV (kY T n):=ny eV gD (fun _ a hb=>qX hb a) _ _ h
end
def mq(p:List UInt8):OpP:=⟨1,p,[],0,0,0,0,0,[]⟩
def nh(d:List UInt8):OpP:=⟨5,[],[],0,0,0,0,0,d⟩
def mT(t:Int):OpP:=⟨6,[],[],0,0,0,t,0,[]⟩
def mZ(nm d:List UInt8)(t:Int)(b:Bool):dX:=[(0,⟨⟨2,1,0,0,true⟩,[],[(nm,1)]⟩),(1,⟨⟨1,1,(d.length:Nat),t,b⟩,d,[]⟩)]
def ze:Nat->Option FdP:=fun j=>if j=0 then some ⟨true,1,[]⟩ else none
def jM(nm d:List UInt8):d':=⟨mZ nm d 0 false,lo,0,ze⟩
def gq(nm d:List UInt8)(t:Int):d':=⟨mZ nm d t true,lo,0,fun _=>none⟩
theorem Fu:gv dV [[97]]=({ noR 0 with n:=0 },jM [97] []):=by
 unfold gv jM ze
 have h1:kH dV=some 0:=rfl
 have h2:g_ dV.T [[97]] 1=(1,0,mZ [97] [] 0 false):=zk
 rw[h1]
 dsimp only
 rw[h2,if_neg Zd]
 rfl
theorem Ft:gv dV [[98]]=({ noR 0 with n:=0 },jM [98] []):=by
 unfold gv jM ze
 have h1:kH dV=some 0:=rfl
 have h2:g_ dV.T [[98]] 1=(1,0,mZ [98] [] 0 false):=zk
 rw[h1]
 dsimp only
 rw[h2,if_neg Zd]
 rfl
theorem yu(nm d:List UInt8)(h:d.length<=200):io (jM nm []) (nh d)=({ noR 0 with n:=(d.length:Nat) },jM nm d):=by
 unfold io
 have h1:fdT (jM nm []) (nh d).fd true=some ⟨true,1,[]⟩:=rfl
 have h2:fE (jM nm []).T 1 d=(0,mZ nm d 0 false):=by
  unfold fE
  have e:dN (jM nm []).T 1=some ⟨⟨1,1,0,0,false⟩,[],[]⟩:=rfl
  rw[e]
  dsimp only
  rw[if_neg Zd,if_neg Zd,if_neg zo]
  rfl
 rw[h1]
 dsimp only
 rw[show(nh d).data=d from rfl,if_neg zo,h2,if_neg (fun q=>q rfl)]
 rfl
theorem vA(nm d:List UInt8):fO (jM nm d) (mT 3)=(noR 0,gq nm d 3):=by
 unfold fO
 have h1:fdT (jM nm d) (mT 3).fd true=some ⟨true,1,[]⟩:=rfl
 have h2:je (jM nm d).T 1 3=(0,mZ nm d 3 true):=rfl
 rw[h1]
 dsimp only
 rw[show(mT 3).till=3 from rfl,h2,if_neg (fun q=>q rfl)]
 unfold gq setFd
 congr 2
 funext j
 show(if j=0 then none else ze j)=none
 unfold ze
 split <;> rfl
theorem qz(nm d:List UInt8):(jM nm d).settled=dV:=by
 unfold d'.settled dV
 have:fT (jM nm d).T=[(0,eD 2)]:=rfl
 rw[this];rfl
theorem wt(nm d:List UInt8)(t:Int):(gq nm d t).settled=gq nm d t:=by
 unfold d'.settled gq
 have:fT (mZ nm d t true)=mZ nm d t true:=rfl
 rw[this]
theorem qx:eH [47,97]=([[97]],0):=zk
theorem qw:eH [47,98]=([[98]],0):=zk
theorem FY:jV dV (mq [47,97]) (jM [97] []):=.inl ⟨rfl,by show(eH [47,97]).2=0;rw[qx],by show(gv dV (eH [47,97]).1).1.err=0;rw[qx,Fu];rfl,by show _=(gv dV (eH [47,97]).1).2;rw[qx,Fu]⟩
theorem FW:jV dV (mq [47,98]) (jM [98] []):=.inl ⟨rfl,by show(eH [47,98]).2=0;rw[qw],by show(gv dV (eH [47,98]).1).1.err=0;rw[qw,Ft];rfl,by show _=(gv dV (eH [47,98]).1).2;rw[qw,Ft]⟩
theorem qN(nm d:List UInt8)(h:d.length<=200):jV (jM nm []) (nh d) (jM nm d):=.inr (.inl ⟨rfl,by rw[yu nm d h];rfl,by rw[yu nm d h]⟩)
theorem vG(nm d:List UInt8):jV (jM nm d) (mT 3) (gq nm d 3):=.inr (.inr ⟨rfl,by rw[vA];rfl,by rw[vA],rfl⟩)
section
variable {w w':World}{c:Col}{i:fe}{b:Nat}{B:iu}{s s':d'}{o:OpP}
def sP(w:World)(c:Col)(i:fe)(P:World->Col->Prop)(e:Ending)(w':World):Prop :=
 (∃r D cd N cn,e=.returned (dT r D cd N cn)/\r.err=0)/\b_ (fun j=>j<w.heap.size/\¬i.has (c j)) w w'/\∃c',Ext w c c'/\P w' c'
theorem rm{x:List UInt8}(h:(eH x).2=0):jB [x]=0:=by
 unfold jB
 rw[if_neg (fun q=>q h)]
 rfl
theorem xL(h:ei w c i b B s)(hS:fz s)(hg:jV s o s'){E:Option Addr}(hlp:o.path.length<=100000)(hlg:o.goal.length<=100000)(hm:fD w)(hD:Bs w D E o.data.length o.data)(hd1:o.data.length<=cd)(hd2:cd<=9223372036854775807)(ht0:0<=o.till)(ht1:o.till<=18446744073709551615):
  Calls prog 13 #[.pointer (some ⟨b,0,none⟩),fB o E cd] w (sP w c i fun w' c'=>∃B',ei w' c' i b B' s'):=by
 have a:∀ {x:ez×d'} {e:Ending} {w':World},jW w c i b x e w'->x.1.err=0->s'=x.2->sP w c i (fun w' c'=>∃B',ei w' c' i b B' s') e w':=by
  rintro x e w'⟨⟨D,cd,N,g,he,-⟩,hk,c',B',j,f⟩ h0 rfl
  exact⟨⟨_,D,cd,N,g,he,h0⟩,hk,c',j,B',f⟩
 rcases hg with⟨hk,k,h0,hs⟩|⟨hk,h0,hs⟩|⟨hk,h0,hs,l⟩
 ·exact(Ai h hS hk (rm k) hlp hlg hm hD hd1 hd2 ht0 ht1).mono fun e w' d=>a d h0 hs
 ·exact(Dj h hS hk rfl hlp hlg hm hD hd1 hd2 ht0 ht1).mono fun e w' d=>a d h0 hs
 exact(Dk h hS hk rfl hlp hlg hm hD hd1 hd2 ht0 ht1).mono fun e w' d=>a d h0 hs
theorem E7(h:eR w c i b (fW s))(hS:fz s)(hg:jV s o s'){E:Option Addr}(hlp:o.path.length<=100000)(hD:Bs w (fun j=>c j=0) E o.data.length o.data)(ht0:0<=o.till)(ht1:o.till<=18446744073709551615):
  Calls prog 22 #[.pointer (some ⟨b,0,none⟩),fB o E cd] w (sP w c i fun w' c'=>eR w' c' i b (fW s')):=by
 have a:∀ {x:ez×d'} {e:Ending} {w':World},jT w c i b (x.1,fW x.2) e w'->x.1.err=0->s'=x.2->sP w c i (fun w' c'=>eR w' c' i b (fW s')) e w':=by
  rintro x e w'⟨⟨D,cd,N,q,he,-⟩,hk,c',r,n⟩ h0 rfl
  exact⟨⟨_,D,cd,N,q,he,h0⟩,hk,c',r,n⟩
 rcases hg with⟨hk,t,h0,hs⟩|⟨hk,h0,hs⟩|⟨hk,h0,hs,m⟩
 ·exact(AG h hS hk t hlp).mono fun e w' d=>a d h0 hs
 ·cases hf:fdT s o.fd true with
  | none =>
   unfold io at h0
   rw[hf] at h0
   exact absurd (show(26:Int)=0 from h0) Zd
  | some f =>
   obtain⟨k,g,hb,l,-⟩:=zc hf
   exact(DB h hS hk g hb l hD h0).mono fun e w' d=>a d h0 hs
 cases hf:fdT s o.fd true with
 | some f =>
  obtain⟨k,g,hb,l,p⟩:=zc hf
  exact(DC h hS hk g hb l ht0 ht1 h0 p).mono fun e w' d=>a d h0 hs
 | none =>
  rw[hf] at m
  cases m
end
section
variable {id:Int}{E:List (Int×List UInt8×Int)}{n:Nat}
def ia(id:Int)(E:List (Int×List UInt8×Int))(n:Nat):List (Int×List UInt8×Int):=E.take n++mO id (E.drop n)
theorem r_:(ia id E n).length<=E.length:=by
 unfold ia mO
 have:=List.length_filter_le (fun x:Int×List UInt8×Int => !decide (x.2.2=id)) (E.drop n)
 rw[zL,List.length_take]
 rw[List.length_drop] at this
 omega
theorem p'(h:n<E.length):n<(ia id E (n+1)).length:=by
 unfold ia
 rw[zL,List.length_take];omega
theorem AP(h:n<E.length):(ia id E (n+1))[n]'(p' h)=E[n]:=by
 have:(ia id E (n+1))[n]?=some E[n]:=by
  unfold ia
  rw[List.getElem?_append_left (by rw[List.length_take];omega),List.getElem?_take,if_pos zo,List.getElem?_eq_getElem h]
 rw[List.getElem?_eq_getElem (p' h)] at this
 injection this
theorem wK(h:n<E.length)(hne:E[n].2.2≠id):ia id E (n+1)=ia id E n:=by
 unfold ia
 rw[List.drop_eq_getElem_cons h,List.take_succ_eq_append_getElem h]
 unfold mO
 rw[List.filter_cons,if_pos (by simpa using hne),List.append_assoc];rfl
theorem yn(h:n<E.length)(he:E[n].2.2=id):ij n (ia id E (n+1))=ia id E n:=by
 have ht:(E.take (n+1)).length=n+1:=by rw[List.length_take];omega
 unfold ia ij
 rw[List.take_append_of_le_length zo,List.take_take,Nat.min_eq_left zo,List.drop_append,List.drop_eq_nil_of_le zo,List.nil_append,ht,Nat.sub_self,List.drop_zero,List.drop_eq_getElem_cons h]
 unfold mO
 rw[List.filter_cons,if_neg (by simp[he])]
theorem yo:ia id E E.length=E:=by unfold ia;rw[List.take_length,List.drop_length];exact List.append_nil _
theorem wJ:ia id E 0=mO id E:=by unfold ia;rw[List.take_zero,List.drop_zero];rfl
end
section
variable {w w':World}{c c':Col}{i j bt:Nat}{T:dX}{id:Int}{it:eI}
theorem DA(h:ey w c i bt (ec T))(hi:i≠0)(hI:eo T)(hL:eV T)(hg:dN T id=some it)(hk:it.n.kind≠2)(hs:it.n.shut=false):
  Calls prog 101 #[.pointer (some ⟨bt,0,none⟩),.int .i64 id] w (jD w c i bt (ec (qV id T)) (.int .i64 0)):=by
 have t:=nL hI hL
 have I:ig T id=0:=by unfold ig;rw[hg];exact if_neg hk
 have p:=zh<|rt h t hI.rising id
 rw[I,if_pos rfl] at p
 have J:it.names=[]:=(hI.node id it hg).bare (((hI.node id it hg).kind).resolve_right hk)
 have q:=E4 hI.rising hI.rise hg J
 have d:atL (wO id) (ec T).nodes=(below id T:Nat):=by rw[oS hI.rising,mA hg]
 obtain⟨k,u⟩:=zx (below id T)
 obtain⟨v,K⟩:=wF hg hI.rising u
 rw[<- u] at p q d
 have x:(ec T).data.length=(ec T).nodes.length:=by rw[fV.1,fV.2.1]
 obtain⟨R,Y⟩:=zx (ec T)
 rw[<- Y] at h t q d v x
 have y:R.nodes[k]=(id,it.n):=by subst Y;exact K
 rw[q]
 have Z:=J3 d v x
 have D:=zh t
 have HT:=zh h
 obtain⟨-,A,ca,B,cb,E,ce,h1,L,-,-,hN,-,-⟩:=h
 have c0:=a_ h1 (k:=0) rfl
 obtain⟨g,off,rfl,-,-,-,-,-,-,F⟩:=hN.rnode v
 rw[y] at F
 dsimp only at F
 rw[hs] at F
 have hn:=t.nodes
 have ad:=L.1
 have af:(0:Int)<=(k:Int):=zo
 have ag:(k:Int)<(R.nodes.length:Int):=zo
 have c2:=a_ h1 (k:=2) rfl
 have M:=t.e
 have N:Hid (R.e.length<=1000000):=zh M
 obtain⟨ne,o⟩:=zx (R.e.length)
 rw[<- o] at c2 M
 have O:=zh o
 clear h1 L hN K y q d x Y u hg hk hs J t I o
 go_in
 go_wp2_with fail
 refine p.mono ?_
 rintro e w1⟨rfl,rfl⟩
 clear p
 go_wp2_with fail
 go_loopw [7] (fun s4 wx=>∃(n:Nat) (cx:Col),s4=.int .i64 ((n:Int)-1)/\n<=ne/\Ext w c cx/\b_ (fun b=>b≠bt) w wx/\ey wx cx i bt ⟨R.nodes,R.data,ia id R.e n⟩) (fun s4 _=>(intOf s4+1).toNat)
 case atStart=>exact⟨ne,c,rfl,zr,Ext.refl _ _,b_.refl _ _,by rw[O.out,yo];exact HT.out⟩
 obtain⟨n,cx,rfl,ah,P,Q,S⟩:=hrel
 have m:=J2 P Q
 have z:=zh S
 obtain⟨-,A,ca,B,cb,E,ce,h1,-,-,r,-,-,G⟩:=S
 clear P Q c0 c2 F
 rcases n with _|n
 ·have aa:¬(0:Int)<=((0:Nat):Int)-1:=by omega
  have U:=zh<|vm z.out hi ⟨D.nodes,D.data,Nat.le_trans r_ N.out⟩ Z.1 Z.2.1 Z.2.2
  clear h1 G r
  go_wp2_with fail
  refine U.mono ?_
  rintro e w2⟨rfl,f,c2,j,a⟩
  have H2:=J3 f j a
  clear f j a U
  go_wp2
  go_ret
  obtain⟨f,j,a⟩:=H2.out
  rw[wJ] at a
  exact⟨rfl,m.2.trans f,c2,m.1.trans j m.2.size,a⟩
 have l:n<R.e.length:=by have:=O.out;omega
 have H:((n+1:Nat):Int)-1=(n:Int):=zo
 rw[H]
 have aa:(0:Int)<=(n:Int):=zo
 have C:=p' (id:=id) l
 have d:=AP (id:=id) l
 obtain⟨g,off,rfl,-,-,-,y2⟩:=Row.rent G C
 rw[d] at y2
 have d2:=a_ h1 (k:=2) rfl
 have V:=r.1
 dsimp only at d2 V C y2
 have W:(ia id R.e (n+1)).length<=1000000:=Nat.le_trans r_ N.out
 have ab:Hid (m8 ⟨R.nodes,R.data,ia id R.e (n+1)⟩):=zh ⟨D.nodes,D.data,W⟩
 obtain⟨np,s⟩:=zx ((ia id R.e (n+1)).length)
 rw[<- s] at d2 V C W
 have ac:=zh s
 have ae:(n:Int)<(np:Int):=zo
 by_cases he:R.e[n].2.2=id
 ·have hq:(R.e[n].2.2==id)=true:=by rw[he];simp
  have X:=zh<|E8 z.out hi ab.out (k:=n) (by have:=ac.out;show n<(ia id R.e (n+1)).length;omega)
  have HP:=zh<|yn l he
  clear h1 G r d s he
  go_wp2_with fail
  refine X.mono ?_
  rintro e w2⟨rfl,f,c2,j,a⟩
  have H2:=J3 f j a
  clear f j a X
  go_wp2
  go_roundw
  case rel =>
   obtain⟨f,j,a⟩:=H2.out
   unfold eM.cut at a
   dsimp only at a
   rw[HP.out] at a
   exact⟨n,c2,by first|rfl|go_num,zo,m.1.trans j m.2.size,m.2.trans f,a⟩
  simp[intOf] <;> omega
 have hq:(R.e[n].2.2==id)=false:=beq_eq_false_iff_ne.2 he
 have HP:=zh<|wK l he
 clear h1 G r d s he
 go_wp2
 go_roundw
 case rel=>exact⟨n,cx,by first|rfl|go_num,zo,m.1,m.2,by rw[<- HP.out];exact z.out⟩
 simp[intOf] <;> omega
theorem sC(h:ey w c i bt (ec T))(hI:eo T)(hL:eV T){j:Nat}(hj:j≠0):Calls prog 30 #[.pointer (some ⟨bt,0,none⟩)] w (rf w c j (ec (fT T))):=by
 have O:=nL hI hL
 have hlt:=h.lt
 have H:=zh<|pX h O j
 have P:=O.nodes
 obtain⟨-,A,ca,B,cb,E,ce,h1,I,-,-,X,-,-⟩:=h
 have HN:Hid (Row w (fun b=>b<w.heap.size) A (ec T).nodes.length 6 ((ec T).nodes.map fo).flatten):=zh (X.imp fun b hb _=>hb)
 have Q:=a_ h1 (k:=0) rfl
 have R:=I.1
 have t:=J2 hI hL
 obtain⟨m,hm⟩:=zx ((ec T).nodes.length)
 have J:m=T.length:=hm.trans fV.1
 rw[<- hm] at Q P R
 have Y:=J2 Q hlt
 have C:=J2 hm J
 clear h1 X Q O hm J hI hL I hlt
 go_in
 go_wp2_with fail
 refine H.mono ?_
 rintro e Z⟨a,c2,rfl,u,D,F,S⟩
 have s:=J4 u D F S
 clear u D F S H
 go_wp2_with fail
 go_loopw [4] (fun U wx=>∃(n:Nat) (cx:Col),U=.int .i64 (n:Int)/\n<=m/\Ext Z c2 cx/\b_ (fun b=>b≠a) Z wx/\ey wx cx j a (ec (kY T n))) (fun U _=>m-(intOf U).toNat)
 case atStart=>exact⟨0,c2,rfl,Nat.zero_le _,Ext.refl _ _,b_.refl _ _,s.2.2.2⟩
 obtain⟨n,cx,rfl,hn,l,d,f⟩:=hrel
 have aa:bt≠a:=by have:=Y.2;have:=s.2.1;omega
 have y0:=d.Qb (s.1.Qb Y.1 zt) aa
 have o:=J3 l d f
 by_cases v:n<m
 ·have ab:(n:Int)<(m:Int):=zo
  have x:n<T.length:=by have:=C.2;omega
  have K:=(HN.new s.1).keep d (fun b _ hb=>by have:=s.2.1;show b≠a;omega)
  obtain⟨g,off,hA,-,V,-,-,-,-,y⟩:=K.rnode (k:=n) (by have:=C.1;omega)
  have he:(ec T).nodes[n]'(by have:=C.1;omega)=(T[n].1,T[n].2.n):=List.getElem_map ..
  rw[he] at V y
  subst hA
  have p:=zh<|EK t.1.rising x
  have q:=zh<|zZ x
  have z:=t.1.node _ _ (By t.1.rising x)
  clear K l d f he
  obtain⟨G,L⟩:=zx (T[n])
  rw[<- L] at V y p q z
  clear L
  dsimp only at V y
  cases hsh:G.2.n.shut with
  | true =>
   rw[hsh] at y
   have r:kY T (n+1)=kY T n:=by
    obtain⟨it',e1,e2⟩:=p.out
    rw[q.out]
    unfold gD
    rw[e1]
    dsimp only
    rw[if_neg]
    rintro⟨-,e⟩
    rw[e2,hsh] at e
    cases e
   have ac:=zh r
   clear r hsh
   go_wp2
   go_roundw
   case rel=>exact⟨n+1,cx,by go_num,v,o.1,o.2.1,by rw[ac.out];exact o.2.2⟩
   simp[intOf];omega
  | false =>
   rw[hsh] at y
   have M:Hid (Calls prog 101 #[.pointer (some ⟨a,0,none⟩),.int .i64 G.1] wr (jD wr cx j a (ec (kY T (n+1))) (.int .i64 0))):=zh (by
    obtain⟨it',e1,e2⟩:=p.out
    have N:it'.n.kind≠2:=fun e=>by rw[e2] at e;have:=(z.dir e).2.2.1;rw[hsh] at this;cases this
    have hs2:it'.n.shut=false:=by rw[e2];exact hsh
    have hd:gD (kY T n) G.1=qV G.1 (kY T n):=by
     unfold gD
     rw[e1]
     dsimp only
     rw[if_pos ⟨N,hs2⟩]
    rw[q.out,hd]
    exact DA o.2.2 hj (C5 t.1 n) (C6 t.2 n) e1 N hs2)
   clear hsh z p q
   go_wp2_with fail
   refine M.mono ?_
   rintro e w2⟨rfl,k2,c3,x2,t2⟩
   have W:=J3 k2 x2 t2
   clear k2 x2 t2 M
   go_wp2
   go_roundw
   case rel=>exact⟨n+1,c3,by go_num,v,o.1.trans W.2.1 o.2.1.size,o.2.1.trans W.1,W.2.2⟩
   simp[intOf];omega
 have ab:¬(n:Int)<(m:Int):=zo
 clear l d f
 go_wp2
 go_ret
 obtain⟨u,D,F,S⟩:=s.out
 obtain⟨l,d,f⟩:=o.out
 have ad:n=T.length:=by have:=C.2;omega
 rw[ad,C7] at f
 exact⟨a,cx,rfl,u.Qd d fun b hb _=>by show b≠a;omega,D,F.trans l u.size,f⟩
end
@[go_sem] theorem Iw(e n a b c d f:Int)(x y:Value)(g:Bool)(w:World):(Instr.field 55 (.agg #[.int .i64 e,.int .i64 n,x,y,.int .i64 a,.int .i64 b,.int .i64 c,.int .i64 d,.int .u64 f,.bool g]) 0).run prog w=.ok (.int .i64 e) w:=by kernel_rfl
theorem qB{s:d'}(h:eR w c I b (fW s))(hS:fz s)(hJ:J.Ok):Calls prog 9 #[.pointer (some ⟨b,0,none⟩)] w (pu w c J (fW s.settled)):=by
 have hlt:=h.lt
 have hn:(fW s).S.list.length<=1000000:=by show(s.S.list.map _).length<=_;rw[List.length_map];have:=hS.snaps;omega
 obtain⟨-,-,F,bs,A,ca,h1,h2,h3,-⟩:=h
 have N:∀W,New w.drew W->W.cell? ⟨b,0,none⟩=some (.pointer (some ⟨F,0,none⟩)):=fun W j=>j.Qb (a_ (w:=w.drew) h1 (k:=0) rfl) trivial
 have c1:∀W,New w.drew W->W.cell? ⟨b,1,none⟩=some (.pointer (some ⟨bs,0,none⟩)):=fun W j=>j.Qb (a_ (w:=w.drew) h1 (k:=1) rfl) trivial
 have c2:∀W,New w.drew W->W.cell? ⟨b,2,none⟩=some (.int .u64 (fW s).clock):=fun W j=>j.Qb (a_ (w:=w.drew) h1 (k:=2) rfl) trivial
 have G:=zh<|sC (w:=w.drew) (h2.new (b_.drew (zN w))) hS.tree hS.few hJ.nz.1
 have H:=zh h3
 clear h1 h2 h3 hS
 go_in
 go_upto_region 1 with fail
 refine eu (b_ (fun _=>True) w.drew) zk ?_
 have a:b_ (fun _=>True) w.drew w.drew:=b_.refl _ _
 refine c_ 0 a ?_
 refine c_ 1 a ?_
 refine c_ 2 a ?_
 refine c_ 3 a ?_
 refine c_ 5 a ?_
 refine c_ 6 a ?_
 refine c_ 7 a ?_
 refine c_ 8 a ?_
 refine c_ 10 a ?_
 refine c_ 11 a ?_
 refine c_ 12 a ?_
 refine c_ 13 a ?_
 refine dQ (i:=4) zk rfl rfl (fun K f=>?_)
 go_simp
 refine G.mono ?_
 rintro e O⟨l,D,rfl,m,x,r,t⟩;have y:=J4 m x r t;clear x r t
 go_wp2_with fail
 have d:=b_.new a m
 refine f _ _ d ?_
 clear f K
 try simp only[zy]
 replace a:=d
 clear d
 refine dQ (i:=9) zk rfl rfl (fun K f=>?_)
 go_simp
 refine(pY (iJ.keep H.out ((b_.drew (zN w)).new y.1) (show Ext w c D from y.2.2.1) trivial fun _ _ _=>zt) hn J.s).mono ?_
 rintro e g⟨n,z,rfl,p,B,q,u⟩;have L:=J4 p B q u;clear B q u
 go_wp2_with fail
 have d:=b_.new a p
 refine f _ _ d ?_
 clear f K
 try simp only[zy]
 replace a:=d
 clear d
 refine c_ 14 a ?_
 have v:=(zN g).alloc (.cells (gu l n (fW s.settled) (fun _=>none) fun _=>0) 80)
 refine dQ (i:=15) zk rfl rfl (fun K f=>?_)
 go_simp
 go_wp2_with fail
 have d:=b_.new a v
 refine f _ _ d ?_
 clear f K
 try simp only[zy]
 replace a:=d
 clear d
 refine c_ 16 a ?_
 refine wpAnyH_done zk ?_ _
 go_wp2
 go_ret
 obtain⟨m,x,r,t⟩:=y.out
 obtain⟨p,B,q,u⟩:=L.out
 have C:New w g:=((b_.drew (zN w)).new m).new p
 have M:=heap_alloc_new g (.cells (gu l n (fW s.settled) (fun _=>none) fun _=>0) 80)
 have e3:=z.Qg g fun _=>J.o
 have E:Ext w c D:=r
 exact⟨g.heap.size,z.on g.heap.size fun _=>J.o,rfl,C.new v,C.size,(E.trans q (Nat.le_trans zr m.size)).trans e3 C.size,z.Qf _ zr,hJ,l,n,fun _=>none,fun _=>0,M,((t.keep p q trivial fun _ _ _=>zt).keep v e3 trivial fun _ _ _=>zt),u.keep v e3 trivial fun _ _ _=>zt,fun k hk=>⟨⟨zr,Nat.zero_le _⟩,Row.nil _ _ _ _⟩⟩
theorem nQ{cs':Array Value}{t':TypeId}{f f':Nat×Nat}(h:w.heap[g]?=some (.cells cs t f))(h':w.heap[g']?=some (.cells cs' t' f'))(ht:t≠t'):g≠g':=by
 rintro rfl
 rw[h] at h'
 injection h' with h'
 injection h' with _ h2
 exact ht h2
theorem r'{f:Nat×Nat}(h:w.heap[g]?=some (.cells cs t f))(h':∃es clock,w.heap[g']?=some (.map es clock)):g≠g':=by
 rintro rfl
 obtain⟨es,clock,h1⟩:=h'
 rw[h] at h1
 injection h1 with h1
 cases h1
theorem DL{c:Nat}(h:Own w base t size A n c xs)(hg:∃es clock,w.heap[g]?=some (.map es clock)):blk A≠some g:=by
 intro e
 rcases h.2 with⟨a,_⟩|⟨d,f,i,a,_,b,_⟩
 ·injection a with hA;subst hA;cases e
 injection a with hA;subst hA
 have:d=g:=by injection e
 subst this
 exact r' b hg rfl
theorem DI{b1 b2:Nat}{t1 t2:TypeId}{s1 s2:Nat}{c n' c':Nat}{ys:List Value}(h:Own w b1 t1 s1 A n c xs)(h':Own w b2 t2 s2 A' n' c' ys)(ht:t1≠t2):∀k,blk A'=some k->blk A≠some k:=by
 intro k hk e
 rcases h'.2 with⟨a,_⟩|⟨d,f,g,a,_,b,_⟩
 ·injection a with hA;subst hA;cases hk
 injection a with hA;subst hA
 have:d=k:=by injection hk
 subst this
 exact mK h b ht e
structure qp where
 bd:Nat
 bs:Nat
 bl:Nat
 br:Nat
 f:Nat->Value
 Aa:Option Addr
 na:Nat
 ca:Nat
def qp.cells(v:qp):Array Value:=#[.pointer (some ⟨v.bd,0,none⟩),.pointer (some ⟨v.bs,0,none⟩),.pointer (some ⟨v.bl,0,none⟩),v.f 0,v.f 1,v.f 2,v.f 3,v.f 4,v.f 5,v.f 6,v.f 7,v.f 8,.pointer (some ⟨v.br,0,none⟩),.slice v.Aa v.na v.ca]
def lz(w:World)(bw:Nat)(v:qp):Prop:=w.heap[bw]?=some (.cells v.cells 41 (0,0))
section
variable {w w':World}{F:Nat->Prop}{bw:Nat}{v:qp}
theorem lz.lt(h:lz w bw v):bw<w.heap.size:=(Zl h)
theorem lz.keep(h:lz w bw v)(hk:b_ F w w')(hb:F bw):lz w' bw v:=(hk.block bw h.lt hb).trans h
theorem lz.new(h:lz w bw v)(hk:New w w'):lz w' bw v:=h.keep hk trivial
theorem lz.cell(h:lz w bw v){k:Nat}{x:Value}(hx:v.cells[k]?=some x):w.cell? ⟨bw,k,none⟩=some x:=a_ h hx
theorem lz.free(h:lz w bw v)(k:Nat):w.frozen? ⟨bw,k,none⟩=false:=dP h k
theorem lz.set(h:lz w bw v)(k:Nat)(x:Value){v':qp}(hv:v.cells.setIfInBounds k x=v'.cells):lz (w.setCell ⟨bw,k,none⟩ x) bw v'/\b_ (fun j=>j≠bw) w (w.setCell ⟨bw,k,none⟩ x):=by
 have:=dM h k x
 rw[hv] at this
 exact⟨this,(b_.refl _ w).setCell (p:=⟨bw,k,none⟩) (fun hd=>absurd rfl hd) _⟩
end
section
variable {w w':World}{F D D2:Nat->Prop}{base bl:Nat}{q:g9}{lv:iO}{A:Option Addr}{cl:Nat}{S:List UInt8}
theorem gU.keepD(h:gU w D base bl q lv A cl S)(hk:b_ F w w')(hl:F bl)(hq:∀b,b=q.bd\/b=q.bs\/b=q.bm->F b)(hA:∀k,blk A=some k->F k)(hD:∀b,b<w.heap.size->D b->F b):gU w' (fun b=>D b/\b<w.heap.size) base bl q lv A cl S:=by
 have h1:=h.log.imp (F:=fun b=>D b/\b<w.heap.size) (fun b hb hd=>⟨hd,hb⟩) (fun hd=>h.log.out hd.1)
 exact⟨h1.keep hk hl hA (fun b hd=>hD b hd.2 hd.1),h.disk.keep hk hq,h.size,h.plan,h.apart,h.row,fun b hb=>h.data b hb.1⟩
theorem gU.imp(h:gU w D base bl q lv A cl S)(hF:∀b,b<w.heap.size->D b->D2 b)(hl:¬D2 bl)(hq:∀b,D2 b->fa q b):gU w D2 base bl q lv A cl S:=⟨h.log.imp hF hl,h.disk,h.size,h.plan,h.apart,h.row,hq⟩
end
def mlG:Nat:=2
def vO(c:Col)(bw:Nat)(q:g9)(v:qp):Nat->Prop:=fun b=>c b=7/\b≠bw/\some b≠blk v.Aa/\b≠v.bl/\fa q b
structure j2 (w:World) (c:Col) (K:fe) (base bw:Nat) (q:g9) (v:qp) (s sr:d') (lv:iO) (A:Option Addr) (cl:Nat) (S:List UInt8):Prop where
 cells:lz w bw v
 bd:v.bd=q.bd
 st:∃B,ei w c ⟨1,2,3⟩ v.bs B s
 ref:eR w c K v.br (fW sr)
 on:gU w (vO c bw q v) base v.bl q lv A cl S
 after:∃vs,Own w base 38 1 v.Aa v.na v.ca vs
 kc:∀x,K.has x->8<=x
 c7:c bw=7/\c v.bl=7/\c q.bd=7/\c q.bs=7/\c q.bm=7/\(∀k,blk A=some k->c k=7)/\(∀k,blk v.Aa=some k->c k=7)/\c mlG=0
 max:fD w
 low:base<=bw/\base<=v.bl/\base<=q.bd/\base<=q.bs/\base<=q.bm/\mlG<base/\base<=w.heap.size
 na:v.na<=1000000
theorem s_{x:Nat}(h:x=7):¬(⟨1,2,3⟩:fe).has x:=by
 subst h
 rintro(e|e|e) <;> exact absurd e Zd
section
variable {w w':World}{c c':Col}{K:fe}{base bw:Nat}{q:g9}{v v':qp}{s s' sr sr':d'}{lv:iO}{A:Option Addr}{cl:Nat}{S:List UInt8}{F:Nat->Prop}
theorem fD.keep(h:fD w)(hk:b_ F w w')(hF:F mlG):fD w':=by
 obtain⟨m,hm⟩:=h
 exact⟨m,hk.Qb hm hF⟩
theorem j2.lts(h:j2 w c K base bw q v s sr lv A cl S):v.bl<w.heap.size/\(∀b,b=q.bd\/b=q.bs\/b=q.bm->b<w.heap.size)/\(∀k,blk A=some k->k<w.heap.size)/\(∀k,blk v.Aa=some k->k<w.heap.size)/\mlG<w.heap.size:=by
 obtain⟨d,a⟩:=h.after
 exact⟨h.on.log.lt,h.on.disk.lt,fun k hk=>(h.on.log.rowLt k hk).2,fun k hk=>(eW a k hk).2,by have:=h.low;omega⟩
theorem j2.turn(h:j2 w c K base bw q v s sr lv A cl S)(hk:b_ F w w')(hx:Ext w c c')(hF:∀b,b<w.heap.size->(c b=7\/c b=0\/K.has (c b)\/(⟨1,2,3⟩:fe).has (c b))->F b):j2 w' c' K base bw q v s sr lv A cl S:=by
 obtain⟨f,d,g,i,j⟩:=h.lts
 obtain⟨l,m,u,x,y,n,o,p⟩:=h.c7
 have f7:∀b,b<w.heap.size->c b=7->F b:=fun b hb e=>hF b hb (.inl e)
 have r:=h.cells.lt
 obtain⟨B,t⟩:=h.st
 obtain⟨z,C⟩:=h.after
 have hq:∀b,b=q.bd\/b=q.bs\/b=q.bm->F b:=fun b hb=>f7 b (d b hb) (by rcases hb with rfl|rfl|rfl <;> assumption)
 have hs:=hk.size
 refine⟨h.cells.keep hk (f7 _ r l),h.bd,⟨B,t.keep hk hx fun b hb e=>hF b hb (e.elim (fun e=>.inr (.inr (.inr e))) fun e=>.inr (.inl e))⟩,h.ref.keep hk hx fun b hb e=>hF b hb (e.elim (fun e=>.inr (.inr (.inl e))) fun e=>.inr (.inl e)),?_,⟨z,eP C hk fun k a=>f7 k (i k a) (o k a)⟩,h.kc,
  ⟨(hx _ r).trans l,(hx _ f).trans m,(hx _ (d _ (.inl rfl))).trans u,(hx _ (d _ (.inr (.inl rfl)))).trans x,(hx _ (d _ (.inr (.inr rfl)))).trans y,fun k a=>(hx _ (g k a)).trans (n k a),fun k a=>(hx _ (i k a)).trans (o k a),(hx _ j).trans p⟩,h.max.keep hk (hF _ j (.inr (.inl p))),⟨h.low.1,h.low.2.1,h.low.2.2.1,h.low.2.2.2.1,h.low.2.2.2.2.1,h.low.2.2.2.2.2.1,Nat.le_trans h.low.2.2.2.2.2.2 hs⟩,h.na⟩
 refine(h.on.keepD hk (f7 _ f m) hq (fun k a=>f7 k (g k a) (n k a)) fun b hb hd=>f7 b hb hd.1).imp (fun b _ hd=>⟨(hx b hd.2).trans hd.1.1,hd.1.2⟩) (fun hd=>hd.2.2.2.1 rfl) fun b hd=>hd.2.2.2.2
theorem j2.new(h:j2 w c K base bw q v s sr lv A cl S)(hk:New w w')(hx:Ext w c c'):j2 w' c' K base bw q v s sr lv A cl S:=h.turn hk hx fun _ _ _=>trivial
theorem j2.apart(h:j2 w c K base bw q v s sr lv A cl S):bw≠v.bl/\fa q bw/\blk A≠some bw/\blk v.Aa≠some bw/\blk v.Aa≠some v.bl/\(∀k,blk v.Aa=some k->fa q k/\blk A≠some k):=by
 obtain⟨_,_,hl,_⟩:=h.on.log.cells
 obtain⟨wr,hd⟩:=h.on.disk
 obtain⟨E,⟨d,a,hm,_⟩,_⟩:=hd.dirty
 have b:∃d a,w.heap[q.bm]?=some (.map d a):=⟨d,a,hm⟩
 have hb:=h.cells
 obtain⟨_,h0⟩:=h.on.log.waits.own
 obtain⟨f,h1⟩:=h.after
 exact⟨nQ hb hl Zd,⟨nQ hb hd.disk Zd,nQ hb hd.safe Zd,r' hb b⟩,mK h0 hb Zd,mK h1 hb Zd,mK h1 hl Zd,
  fun k hk=>⟨⟨fun e=>mK h1 hd.disk Zd (by rw[hk,e]),fun e=>mK h1 hd.safe Zd (by rw[hk,e]),fun e=>DL h1 b (by rw[hk,e])⟩,DI h0 h1 Zd k hk⟩⟩
theorem j2.state_apart(h:j2 w c K base bw q v s sr lv A cl S)(hc:c b≠7):b≠v.bl/\fa q b/\some b≠blk A/\b≠bw/\some b≠blk v.Aa:=by
 obtain⟨a,d,f,g,i,j,k,l⟩:=h.c7
 exact⟨fun e=>hc (by rw[e];exact d),⟨fun e=>hc (by rw[e];exact f),fun e=>hc (by rw[e];exact g),fun e=>hc (by rw[e];exact i)⟩,fun e=>hc (j b e.symm),fun e=>hc (by rw[e];exact a),fun e=>hc (k b e.symm)⟩
theorem j2.logged(h:j2 w c K base bw q v s sr lv A cl S){lv':iO}{cl':Nat}{S':List UInt8}(hk:b_ (fun j=>j≠v.bl/\fa q j/\some j≠blk A) w w')(hl:gU w' (fun b=>vO c bw q v b\/w.heap.size<=b) base v.bl q lv' A' cl' S')(hA:blk A'=blk A\/∀k,blk A'=some k->w.heap.size<=k):j2 w' (c.on w.heap.size fun _=>7) K base bw q v s sr lv' A' cl' S':=by
 obtain⟨o,f,p,l,r⟩:=h.lts
 obtain⟨t,u,x,y,z,C,D,E⟩:=h.c7
 obtain⟨F,G,a3,a4,a5,m⟩:=h.apart
 have H:=h.cells.lt
 have d:=Col.Qg c w fun _=>7
 obtain⟨B,n⟩:=h.st
 obtain⟨I,J⟩:=h.after
 have hs:=hk.size
 have g:∀ {b:Nat},(c b=0\/K.has (c b)\/(⟨1,2,3⟩:fe).has (c b))->c b≠7:=fun {b} e e7=>by
  rcases e with e|e|e
  ·omega
  ·have:=h.kc _ e;omega
  exact s_ e7 e
 have i:∀ {b:Nat},c b≠7->b≠v.bl/\fa q b/\some b≠blk A:=fun {b} hb=>⟨(h.state_apart hb).1,(h.state_apart hb).2.1,(h.state_apart hb).2.2.1⟩
 have hm:mlG≠v.bl/\fa q mlG/\some mlG≠blk A:=by
  have:=h.low
  exact⟨zo,⟨zo,zo,zo⟩,fun e=>by have:=(h.on.log.rowLt _ e.symm).1;omega⟩
 refine⟨h.cells.keep hk ⟨F,G,fun e=>a3 e.symm⟩,h.bd,⟨B,n.keep hk d fun b hb e=>i (g (e.elim (fun e=>.inr (.inr e)) .inl))⟩,h.ref.keep hk d fun b hb e=>i (g (e.elim (fun e=>.inr (.inl e)) .inl)),?_,⟨I,eP J hk fun k a=>⟨fun e=>a5 (by rw[a,e]),(m k a).1,fun e=>(m k a).2 e.symm⟩⟩,h.kc,?_,h.max.keep hk hm,⟨h.low.1,h.low.2.1,h.low.2.2.1,h.low.2.2.2.1,h.low.2.2.2.2.1,h.low.2.2.2.2.2.1,Nat.le_trans h.low.2.2.2.2.2.2 hs⟩,h.na⟩
 ·refine hl.imp (fun b _ hd=>?_) (fun hd=>hd.2.2.2.1 rfl) fun b hd=>hd.2.2.2.2
  rcases hd with hd|hd
  ·by_cases hb:b<w.heap.size
   ·exact⟨(Col.on_old c _ hb).trans hd.1,hd.2⟩
   exact⟨Col.Qf c _ zo,zo,fun e=>by have:=l b e.symm;omega,zo,fun e=>by have:=f b (.inl e);omega,fun e=>by have:=f b (.inr (.inl e));omega,fun e=>by have:=f b (.inr (.inr e));omega⟩
  exact⟨Col.Qf c _ hd,zo,fun e=>by have:=l b e.symm;omega,zo,fun e=>by have:=f b (.inl e);omega,fun e=>by have:=f b (.inr (.inl e));omega,fun e=>by have:=f b (.inr (.inr e));omega⟩
 refine⟨(d _ H).trans t,(d _ o).trans u,(d _ (f _ (.inl rfl))).trans x,(d _ (f _ (.inr (.inl rfl)))).trans y,(d _ (f _ (.inr (.inr rfl)))).trans z,fun k a=>?_,fun k a=>(d _ (l k a)).trans (D k a),(d _ r).trans E⟩
 rcases hA with e|e
 ·rw[e] at a
  exact(d _ (p k a)).trans (C k a)
 exact Col.Qf c _ (e k a)
theorem j2.far(h:j2 w c K base bw q v s sr lv A cl S)(hK:∀x,K'.has x->8<=x)(e:c b=0\/K'.has (c b)\/(⟨1,2,3⟩:fe).has (c b)):b≠v.bl/\fa q b/\some b≠blk A/\b≠bw/\some b≠blk v.Aa:=by
 refine h.state_apart fun e7=>?_
 rcases e with e|e|e
 ·omega
 ·have:=hK _ e;omega
 exact s_ e7 e
theorem j2.done_(h:j2 w c K base bw q v s sr lv A cl S)(hk:b_ F w w')(hx:Ext w c c')(hF:∀b,b<w.heap.size->(c b=7\/c b=0\/K.has (c b))->F b)(hst:∃B,ei w' c' ⟨1,2,3⟩ v.bs B s'):j2 w' c' K base bw q v s' sr lv A cl S:=by
 obtain⟨f,d,g,i,j⟩:=h.lts
 obtain⟨l,m,t,u,x,n,o,p⟩:=h.c7
 have f7:∀b,b<w.heap.size->c b=7->F b:=fun b hb e=>hF b hb (.inl e)
 have r:=h.cells.lt
 obtain⟨y,z⟩:=h.after
 have hq:∀b,b=q.bd\/b=q.bs\/b=q.bm->F b:=fun b hb=>f7 b (d b hb) (by rcases hb with rfl|rfl|rfl <;> assumption)
 have hs:=hk.size
 refine⟨h.cells.keep hk (f7 _ r l),h.bd,hst,h.ref.keep hk hx fun b hb e=>hF b hb (e.elim (fun e=>.inr (.inr e)) fun e=>.inr (.inl e)),?_,⟨y,eP z hk fun k a=>f7 k (i k a) (o k a)⟩,h.kc,
  ⟨(hx _ r).trans l,(hx _ f).trans m,(hx _ (d _ (.inl rfl))).trans t,(hx _ (d _ (.inr (.inl rfl)))).trans u,(hx _ (d _ (.inr (.inr rfl)))).trans x,fun k a=>(hx _ (g k a)).trans (n k a),fun k a=>(hx _ (i k a)).trans (o k a),(hx _ j).trans p⟩,h.max.keep hk (hF _ j (.inr (.inl p))),⟨h.low.1,h.low.2.1,h.low.2.2.1,h.low.2.2.2.1,h.low.2.2.2.2.1,h.low.2.2.2.2.2.1,Nat.le_trans h.low.2.2.2.2.2.2 hs⟩,h.na⟩
 refine(h.on.keepD hk (f7 _ f m) hq (fun k a=>f7 k (g k a) (n k a)) fun b hb hd=>f7 b hb hd.1).imp (fun b _ hd=>⟨(hx b hd.2).trans hd.1.1,hd.1.2⟩) (fun hd=>hd.2.2.2.1 rfl) fun b hd=>hd.2.2.2.2
theorem j2.poke(h:j2 w c K base bw q v s sr lv A cl S)(hk:b_ (fun j=>j≠bw) w w')(hc:lz w' bw v')(hv:v'.bd=v.bd/\v'.bl=v.bl/\v'.Aa=v.Aa/\v'.na=v.na/\v'.ca=v.ca)(hst:∃B,ei w c ⟨1,2,3⟩ v'.bs B s')(href:eR w c K' v'.br (fW sr'))(hK:∀x,K'.has x->8<=x):j2 w' c K' base bw q v' s' sr' lv A cl S:=by
 obtain⟨z,C,D,E,F⟩:=h.lts
 obtain⟨g,i,l,m,n,o,p,r⟩:=h.c7
 obtain⟨t,d,a3,a4,a5,G⟩:=h.apart
 obtain⟨B,hst⟩:=hst
 obtain⟨u,y⟩:=h.after
 obtain⟨e1,e2,e3,e4,e5⟩:=hv
 have hs:=hk.size
 have hm:mlG≠bw:=by have:=h.low;omega
 have f:Ext w c c:=Ext.refl _ _
 have hd:vO c bw q v'=vO c bw q v:=by unfold vO;rw[e2,e3]
 refine⟨hc,e1.trans h.bd,⟨B,hst.keep hk f fun b hb e=>(h.far hK (e.elim (fun e=>.inr (.inr e)) .inl)).2.2.2.1⟩,href.keep hk f fun b hb e=>(h.far hK (e.elim (fun e=>.inr (.inl e)) .inl)).2.2.2.1,?_,⟨u,?_⟩,hK,⟨g,by rw[e2];exact i,l,m,n,o,by rw[e3];exact p,r⟩,h.max.keep hk hm,⟨h.low.1,by rw[e2];exact h.low.2.1,h.low.2.2.1,h.low.2.2.2.1,h.low.2.2.2.2.1,h.low.2.2.2.2.2.1,Nat.le_trans h.low.2.2.2.2.2.2 hs⟩,by rw[e4];exact h.na⟩
 ·rw[e2,hd]
  exact(h.on.keepD hk (Ne.symm t) (fun b hb e=>hb.elim (fun h=>d.1 (e.symm.trans h)) fun h=>h.elim (fun h=>d.2.1 (e.symm.trans h)) fun h=>d.2.2 (e.symm.trans h)) (fun k a e=>a3 (by rw[a,e])) fun b hb hd=>hd.2.1).imp (fun b _ hd=>hd.1) (fun hd=>hd.2.2.2.1 rfl) fun b hd=>hd.2.2.2.2
 rw[e3,e4,e5]
 exact eP y hk fun k a e=>a4 (by rw[a,e])
theorem j2.rowed(h:j2 w c K base bw q v s sr lv A cl S){c':Nat}{vs:List Value}(hg:b_ (fun j=>some j≠blk v.Aa) w w')(hown:Own w' base 38 1 A' (v.na+1) c' vs)(hbk:blk A'=blk v.Aa\/blk A'=some w.heap.size)(hn:v.na+1<=1000000):
  j2 (w'.setCell ⟨bw,13,none⟩ (.slice A' (v.na+1) c')) (c.on w.heap.size fun _=>7) K base bw q { v with Aa:=A',na:=v.na+1,ca:=c' } s sr lv A cl S/\b_ (fun j=>j≠bw/\some j≠blk v.Aa) w (w'.setCell ⟨bw,13,none⟩ (.slice A' (v.na+1) c')):=by
 obtain⟨o,g,p,r,t⟩:=h.lts
 obtain⟨u,x,y,z,C,D,E,F⟩:=h.c7
 obtain⟨G,i,a3,a4,a5,f⟩:=h.apart
 obtain⟨B,l⟩:=h.st
 have H:=h.cells.lt
 have d:=Col.Qg c w fun _=>7
 obtain⟨I,m⟩:=(h.cells.keep hg (fun e=>a4 e.symm)).set 13 (.slice A' (v.na+1) c') (v':={ v with Aa:=A',na:=v.na+1,ca:=c' }) rfl
 have hk:b_ (fun j=>j≠bw/\some j≠blk v.Aa) w (w'.setCell ⟨bw,13,none⟩ (.slice A' (v.na+1) c')):=(hg.imp fun j _ hj=>hj.2).Qd m fun j _ hj=>hj.1
 have hs:=hk.size
 have n:blk A'≠some bw:=fun e=>by
  rcases hbk with e2|e2
  ·exact a4 (by rw[<- e2,e])
  rw[e2] at e;injection e with e;omega
 have hm:mlG≠bw/\some mlG≠blk v.Aa:=⟨by have:=h.low;omega,fun e=>by have:=h.low;have:=(eW (h.after.choose_spec) _ e.symm).1;omega⟩
 refine⟨⟨I,h.bd,⟨B,l.keep hk d fun b hb e=>(h.far h.kc (e.elim (fun e=>.inr (.inr e)) .inl)).2.2.2⟩,h.ref.keep hk d fun b hb e=>(h.far h.kc (e.elim (fun e=>.inr (.inl e)) .inl)).2.2.2,?_,⟨vs,eP hown m fun k a e=>n (by rw[a,e])⟩,h.kc,⟨(d _ H).trans u,(d _ o).trans x,(d _ (g _ (.inl rfl))).trans y,(d _ (g _ (.inr (.inl rfl)))).trans z,(d _ (g _ (.inr (.inr rfl)))).trans C,fun k a=>(d _ (p k a)).trans (D k a),fun k a=>?_,(d _ t).trans F⟩,h.max.keep hk hm,⟨h.low.1,h.low.2.1,h.low.2.2.1,h.low.2.2.2.1,h.low.2.2.2.2.1,h.low.2.2.2.2.2.1,Nat.le_trans h.low.2.2.2.2.2.2 hs⟩,hn⟩,hk⟩
 ·refine(h.on.keepD hk ⟨Ne.symm G,fun e=>a5 e.symm⟩ (fun b hb=>⟨fun e=>hb.elim (fun h=>i.1 (e.symm.trans h)) fun h=>h.elim (fun h=>i.2.1 (e.symm.trans h)) fun h=>i.2.2 (e.symm.trans h),fun e=>hb.elim (fun h=>(f b e.symm).1.1 h) fun h=>h.elim (fun h=>(f b e.symm).1.2.1 h) fun h=>(f b e.symm).1.2.2 h⟩) (fun k a=>⟨fun e=>a3 (by rw[a,e]),fun e=>(f k e.symm).2 a⟩) fun b hb hd=>⟨hd.2.1,hd.2.2.1⟩).imp (fun b _ hd=>⟨(d b hd.2).trans hd.1.1,hd.1.2.1,fun e=>?_,hd.1.2.2.2⟩) (fun hd=>hd.2.2.2.1 rfl) fun b hd=>hd.2.2.2.2
  show False
  have e:some b=blk A':=e
  rcases hbk with e2|e2
  ·exact hd.1.2.2.1 (by rw[e,e2])
  rw[e2] at e;injection e with e;have:=hd.2;omega
 have a:blk A'=some k:=a
 rcases hbk with e|e
 ·rw[e] at a
  exact(d _ (r k a)).trans (E k a)
 rw[e] at a
 injection a with a
 exact Col.Qf c _ zo
end
structure lA (w:World) (c:Col) (w':World) (c':Col):Prop where
 keep:b_ (fun j=>j<w.heap.size/\c j=0) w w'
 ext:Ext w c c'
theorem lA.refl(w:World)(c:Col):lA w c w c:=⟨b_.refl _ _,Ext.refl _ _⟩
theorem lA.step{F:Nat->Prop}(h:lA w c w1 c1)(hk:b_ F w1 w2)(hx:Ext w1 c1 c2)(hF:∀b,b<w1.heap.size->c1 b=0->F b):lA w c w2 c2 :=
 ⟨h.keep.Qd hk fun b hb hc=>hF b (Nat.lt_of_lt_of_le hb h.keep.size) ((h.ext b hb).trans hc.2),h.ext.trans hx h.keep.size⟩
theorem lA.new(h:lA w c w1 c1)(hk:New w1 w2)(hx:Ext w1 c1 c2):lA w c w2 c2:=h.step hk hx fun _ _ _=>trivial
theorem lA.trans(h:lA w c w1 c1)(h':lA w1 c1 w2 c2):lA w c w2 c2:=h.step h'.keep h'.ext fun _ hb hc=>⟨hb,hc⟩
theorem lA.bs(h:lA w c w1 c1){l:List UInt8}(hB:Bs w (fun j=>c j=0) A n l):Bs w1 (fun j=>c1 j=0) A n l:=jR hB h.keep h.ext fun _ hb hc=>⟨hb,hc⟩
def pw(s:d')(r:eA)(s':d'):Prop:=(r.kind=2/\s'=s.settled) \/
 (r.kind=1/\∃o,pJ r.body=(o,0)/\jV s o s'/\0<=o.till/\o.till<=18446744073709551615/\o.path.length<=100000/\o.goal.length<=100000)
theorem pw.inv{s s':d'}{r:eA}(h:pw s r s')(hS:fz s):fz s':=by
 rcases h with⟨-,rfl⟩|⟨-,o,-,hg,h0,-⟩
 ·exact hS.settled
 exact hg.inv hS h0
def Gy(w:World)(c:Col)(i:fe)(s':d')(e:Ending)(w':World):Prop:=∃b' c' B',e=.returned (.tuple #[.pointer (some ⟨b',0,none⟩),.bool true])/\b_ (fun j=>j<w.heap.size/\¬i.has (c j)) w w'/\Ext w c c'/\ei w' c' i b' B' s'
theorem fz.small{s:d'}(h:fz s):s.T.length<=100000/\(∀p∈s.T,-9223372036854775808<=p.1/\p.1<=9223372036854775807)/\s.S.list.length<=1000000 :=
 ⟨by have:=h.tree.few;omega,fun p a=>by have:=h.tree.ids p.1 p.2 (h.tree.rising.get a);omega,by have:=h.snaps;omega⟩
theorem Bf{i:fe}{B:iu}{s:d'}(h:ei w c i b B s)(hS:fz s)(hA:pw s r s')(hm:fD w){cr:Nat}(hB:Bs w D A n r.body)(hn:n<=1000000):
  Calls prog 45 #[.pointer (some ⟨b,0,none⟩),.agg #[.int .i64 r.kind,.int .u64 r.seq,.slice A n cr]] w (Gy w c i s'):=by
 have a:=(zN w).alloc (.cells #[.int .i64 r.kind,.int .u64 r.seq,.slice A n cr] 45)
 have d:=heap_alloc_new w (.cells #[.int .i64 r.kind,.int .u64 r.seq,.slice A n cr] 45)
 rcases hA with⟨hk,hs⟩|⟨hk,o,T,hg,L,M,N,O⟩
 ·rw[hk] at a d ⊢
  subst hs
  obtain⟨V,W,X⟩:=hS.small
  have P:=zh<|oA (J:=i) (h.new a) V W X h.ok
  have U:=a_ d (k:=0) rfl
  have y:=zh a
  clear h hS hm hB hk V W X a d
  go_in
  go_wp2_with fail
  refine P.mono ?_
  rintro e m⟨Y,B2,c2,rfl,f,z2,z,C⟩
  have g:=J3 f z C
  clear f z2 z C P U
  go_wp2
  refine Zb (.tuple #[.pointer (some ⟨Y,0,none⟩),.bool true]) (by simp[results,results45,go_sem]) ?_
  obtain⟨f,z,C⟩:=g.out
  exact⟨Y,c2,B2,rfl,b_.Qe (y.new f),fun j hj=>z j (Nat.lt_of_lt_of_le hj y.size),C⟩
 rw[hk] at a d ⊢
 have l:=zh<|Fh (c:=cr) _ (hB.new a) zo (by rw[T])
 rw[T] at l
 dsimp only at l
 have c2:=a_ d (k:=2) rfl
 have U:=a_ d (k:=0) rfl
 have y:=zh a
 have F:=J4 h hS hg hm
 have G:=J4 L M N O
 clear h hS hm hB hk hg L M N O a d T
 go_in
 go_wp2_with fail
 refine l.mono ?_
 rintro e m⟨⟨E,cd,rfl,H⟩,f⟩
 have g:=J2 H (y.new f)
 have p:=(zN m).alloc (.cells (dY o E cd) 29)
 have q:=heap_alloc_new m (.cells (dY o E cd) 29)
 clear U c2 H f l
 unfold fB
 unfold dY at p q ⊢
 go_upto_region 4 with fail
 obtain⟨wb,Q⟩:=zx (m.alloc (.cells #[.int .i64 o.kind,.string (dR o.path),.string (dR o.goal),.int .i64 o.fd,.int .i64 o.at_,.int .i64 o.n,.int .u64 o.till,.int .i64 o.snap,.slice E o.data.length cd] 29))
 obtain⟨Z,t⟩:=zx (m.heap.size)
 rw[<- Q] at p q ⊢
 rw[<- t] at q ⊢
 have R:w.heap.size<=Z:=by rw[t];exact g.2.size
 have u:=J3 (g.2.new p) (show wb.heap[Z]?=some (.cells (dY o E cd) 29 (0,0)) from q) R
 have aa:=zh<|(Row.Qc g.1).new p
 have S:=J2 (ew g.1) (eh g.1)
 clear p q R Q t
 obtain⟨o0,o1,H,o3,o4,o5,o6,o7,o8⟩:=fq u.2.1
 have x:=zh<|xL (cd:=cd) (F.1.new u.1) F.2.1 F.2.2.1 G.2.2.1 G.2.2.2 (F.2.2.2.new u.1) aa.out S.1 S.2 G.1 G.2.1
 unfold fB dY at x
 go_wp2_with fail
 refine x.mono ?_
 rintro e w4⟨⟨⟨er,nn,dd,nm,nd⟩,D4,ab,N4,ac,rfl,h0⟩,I,c4,K,B4,t4⟩
 dsimp only at h0
 subst h0
 have H4:=J3 I K t4
 clear I K t4 x o0 o1 H o3 o4 o5 o6 o7 o8
 dsimp only[dT]
 go_wp2
 refine Zb (.tuple #[.pointer (some ⟨b,0,none⟩),.bool true]) (by simp[results,results45,go_sem]) ?_
 obtain⟨I,K,t4⟩:=H4.out
 have hz:=u.1.size
 exact⟨b,c4,B4,rfl,ju (c2:=c) (b_.Qe u.1) (Ext.refl _ _) I,fun j hj=>K j (Nat.lt_of_lt_of_le hj hz),t4⟩
def Hp(w:World)(c:Col)(base bw:Nat)(q:g9)(v:qp)(s':d')(lv':iO)(S':List UInt8)(e:Ending)(w':World):Prop :=
 e=.returned (.bool true)/\∃c' K' v' A' cl',lA w c w' c'/\j2 w' c' K' base bw q v' s' s' lv' A' cl' S'/\v'.f=v.f/\v'.na=v.na+1
theorem DZ:(prog.info? 38).map (fun i=>(i.zero.map fun z=>z.cells.size,i.size,i.bytes))=some (some 1,1,8):=zk
theorem qg(K:fe):∃K':fe,K'.Ok/\(∀x,K'.has x->8<=x)/\∀x,K'.has x->¬K.has x :=
 ⟨⟨K.t+K.s+K.o+8,K.t+K.s+K.o+9,K.t+K.s+K.o+10⟩,⟨⟨by dsimp only;omega,by dsimp only;omega,by dsimp only;omega⟩,by dsimp only;omega,by dsimp only;omega,by dsimp only;omega⟩,
  fun x a=>by unfold fe.has at a;dsimp only at a;omega,fun x a hk=>by unfold fe.has at a hk;dsimp only at a;omega⟩
theorem F7{K:fe}{bw:Nat}{q:g9}{v:qp}{s:d'}{k p:Nat}{id:List UInt8}{sl sl':kL}{cl:Nat}{S:List UInt8}(h:j2 w c K base bw q v s s (lvK k p g id sl) A cl S)(hS:fz s){a:ji}{E:Option Addr}(hg:jV s o s')(hk:iR o.kind=some a)(hr:eS o a=0)(hlp:o.path.length<=100000)(hlg:o.goal.length<=100000)(hld:o.data.length<=100000)(ht0:0<=o.till)(ht1:o.till<=18446744073709551615)(hD:Bs w (fun j=>c j=0) E o.data.length o.data)(hd1:o.data.length<=cd)(hd2:cd<=9223372036854775807)(hL:kW id g sl)(hbl:(fN o a).length<=900)(htm:(ef id sl.segs).next+(sl.waits.length:Int)<1000000)(hna:v.na+1<=1000000)(hap:sl.append g ⟨1,(ef id sl.segs).next+(sl.waits.length:Int),fN o a⟩=some sl')(hwf:eX sl.waits+eU ⟨1,(ef id sl.segs).next+(sl.waits.length:Int),fN o a⟩<=942):
  Calls prog 6 #[.pointer (some ⟨bw,0,none⟩),fB o E cd] w (Hp w c base bw q v s' (lvK k p g id sl') ((lvK k p g id sl).adisk ⟨1,(ef id sl.segs).next+(sl.waits.length:Int),fN o a⟩ S)):=by
 have k0:=(zN w).alloc (.cells (dY o E cd) 29)
 have x0:=heap_alloc_new w (.cells (dY o E cd) 29)
 have ab:=Col.Qg c w fun _=>7
 have ac:(c.on w.heap.size fun _=>7) w.heap.size=7:=Col.Qf c _ zr
 obtain⟨c1,aB⟩:=zx (c.on w.heap.size fun _=>7)
 rw[<- aB] at ab ac
 obtain⟨wa,ad⟩:=zx (w.alloc (.cells (dY o E cd) 29))
 obtain⟨l,z⟩:=zx (w.heap.size)
 rw[<- ad] at k0 x0
 rw[<- z] at x0 ac
 have f:=zh<|h.new k0 ab
 have m:=zh<|(lA.refl w c).new k0 ab
 have d:=J2 x0 ac
 obtain⟨K',ai,aC,aD⟩:=qg K
 have HK:=J3 ai aC aD
 have T:Hid (bw<l/\v.bl<l/\(∀b,b=q.bd\/b=q.bs\/b=q.bm->b<l)/\(∀k,blk A=some k->k<l)/\∀k,blk v.Aa=some k->k<l):=zh (by rw[z];exact⟨h.cells.lt,h.lts.1,h.lts.2.1,h.lts.2.2.1,h.lts.2.2.2.1⟩)
 have aE:(fW s).S.list.length<=1000000:=by show(s.S.list.map _).length<=_;rw[List.length_map];have:=hS.snaps;omega
 have aF:=zh<|xR f.ref (nL hS.tree hS.few) aE ai
 have HS:=J2 hS hg
 have M:=J6 hlp hlg ht0 ht1 hd1 hd2
 have HD:=J2 hD hld
 have Q:=J5 hL hbl htm hna hap
 have a2:=zh hwf
 have HA:=J2 hk hr
 have a6:rj o.kind=true:=by rcases hg.kind with e|e|e <;> rw[e] <;> rfl
 have aj:wa.cell? ⟨bw,12,none⟩=some (.pointer (some ⟨v.br,0,none⟩)):=f.cells.cell (k:=12) rfl
 obtain⟨bh,ak⟩:=zx (lvK k p g id sl')
 obtain⟨S',al⟩:=zx ((lvK k p g id sl).adisk ⟨1,(ef id sl.segs).next+(sl.waits.length:Int),fN o a⟩ S)
 rw[<- ak,<- al]
 have aG:=J2 ak al
 clear ak al
 unfold fB at *
 unfold dY at ad ⊢
 clear h hS hg hk hr hlp hlg hld ht0 ht1 hD hd1 hd2 hL hbl htm hna hap hwf k0 x0 ab ac aB ai aC aD aE
 go_in
 go_upto_region 1 with fail
 rw[<- ad,<- z]
 clear ad z
 go_wp2_with fail
 refine aF.mono ?_
 rintro e w2⟨bt,c2,rfl,k2,z2,x2,t2⟩
 replace f:=zh<|f.new k2 x2
 replace m:=zh<|m.new k2 x2
 replace d:=J2 (k2.Qa d.1 zt) ((x2 _ (Array.getElem?_eq_some_iff.1 d.1).1).trans d.2)
 have am:=zh<|E7 (o:=o) (cd:=cd) t2 HS.1 HS.2 M.1 (m.bs HD.1) M.2.2.1 M.2.2.2.1
 clear aj k2 z2 x2 t2 aF
 obtain⟨o0,o1,o2,o3,o4,o5,o6,o7,o8⟩:=fq d.1
 unfold fB dY at am
 go_wp2_with fail
 refine am.mono ?_
 rintro e w3⟨⟨⟨er,nn,dd,nm,nd⟩,D4,bi,N4,bj,rfl,h0⟩,k3,c3,x3,t3⟩
 dsimp only at h0
 subst h0
 have hF:∀b,b<w2.heap.size->(c2 b=7\/c2 b=0\/K.has (c2 b)\/(⟨1,2,3⟩:fe).has (c2 b))->b<w2.heap.size/\¬K'.has (c2 b):=fun b hb e=>⟨hb,fun e2=>by
  have h8:=HK.2.1 _ e2
  rcases e with e|e|e|e
  ·omega
  ·omega
  ·exact HK.2.2 _ e2 e
  unfold fe.has at e;dsimp only at e;omega⟩
 replace f:=zh<|f.turn k3 x3 hF
 replace m:=zh<|m.step k3 x3 fun b hb e=>hF b hb (.inr (.inl e))
 have G:=(Array.getElem?_eq_some_iff.1 d.1).1
 replace d:=J2 (k3.Qa d.1 (hF l G (.inl d.2))) ((x3 _ G).trans d.2)
 have L:=zh t3
 clear k3 x3 t3 am hF G o0 o1 o2 o3 o4 o5 o6 o7 o8
 obtain⟨o0,o1,o2,o3,o4,o5,o6,o7,o8⟩:=fq d.1
 dsimp only[dT]
 have an:=zh<|fun W=>Al o.kind W
 rw[a6] at an
 go_wp2_with fail
 refine(an.out w3).mono ?_
 rintro e bn⟨rfl,rfl⟩
 clear an
 have ao:=zh<|Fg o E cd HA.1 HA.2 w3 (m.bs HD.1) M.2.2.2.2.1 (by have:=M.1;omega) (by have:=M.2.1;omega) (by have:=HD.2;omega) M.2.2.1 M.2.2.2.1
 unfold fB dY at ao
 go_wp2_with fail
 refine ao.mono ?_
 rintro e w4⟨⟨Ab,cb,rfl,ob⟩,k4⟩
 obtain⟨body,U⟩:=zx (fN o a)
 rw[<- U] at ob Q ⊢
 have aH:=zh U
 have a7:Hid (l<w3.heap.size):=zh (Array.getElem?_eq_some_iff.1 d.1).1
 replace f:=zh<|f.new k4 (Ext.refl _ _)
 replace m:=zh<|m.new k4 (Ext.refl _ _)
 replace d:=J2 (k4.Qa d.1 zt) d.2
 replace L:=zh<|L.new k4
 have O:=zh ob
 obtain⟨bl,hbl⟩:=zx (body.length)
 rw[<- hbl] at O ⊢
 have a8:=zh hbl
 clear k4 ob U hbl ao o0 o1 o2 o3 o4 o5 o6 o7 o8
 go_upto_region 7 with fail
 refine eu (b_ (fun j=>j≠v.bl/\fa q j/\some j≠blk A) w4.drew) zk ?_
 have y:New w4 w4.drew:=(zN w4).drew
 replace f:=zh<|f.new y (Ext.refl _ _)
 replace m:=zh<|m.new y (Ext.refl _ _)
 replace d:=J2 (y.Qa d.1 zt) d.2
 replace L:=zh<|L.new y
 replace O:=zh<|eP O.out y fun _ _=>zt
 clear y
 generalize w4.drew=w5 at *
 have H:b_ (fun j=>j≠v.bl/\fa q j/\some j≠blk A) w5 w5:=b_.refl _ _
 have V:=f.apart
 have r2:∀W,b_ (fun j=>j≠v.bl/\fa q j/\some j≠blk A) w5 W->W.cell? ⟨bw,2,none⟩=some (.pointer (some ⟨v.bl,0,none⟩)):=fun W D=>(f.cells.keep D ⟨V.1,V.2.1,fun e=>V.2.2.1 e.symm⟩).cell (k:=2) rfl
 obtain⟨nx,ae⟩:=zx ((ef id sl.segs).next+(sl.waits.length:Int))
 rw[<- ae] at Q
 have aI:Hid (Calls prog 8 #[.pointer (some ⟨v.bl,0,none⟩)] w5 fun e w'=>e=.returned (.int .u64 nx)/\New w5 w'):=zh (by rw[ae];exact qd f.on.log)
 have af:=zh ae
 clear ae V
 refine c_ 0 H ?_
 refine c_ 1 H ?_
 refine c_ 2 H ?_
 refine c_ 3 H ?_
 refine c_ 4 H ?_
 refine c_ 5 H ?_
 refine c_ 6 H ?_
 refine c_ 7 H ?_
 refine c_ 9 H ?_
 clear r2
 refine dQ (i:=8) zk rfl rfl (fun C F=>?_)
 go_simp
 refine aI.mono ?_
 rintro e X⟨rfl,k6⟩
 go_wp2_with fail
 have R:=b_.new H k6
 refine F.out _ _ R ?_
 clear F C aI H
 try simp only[zy]
 refine c_ 10 R ?_
 replace f:=zh<|f.new k6 (Ext.refl _ _)
 replace m:=zh<|m.new k6 (Ext.refl _ _)
 replace d:=J2 (k6.Qa d.1 zt) d.2
 replace L:=zh<|L.new k6
 replace O:=zh<|eP O.out k6 fun _ _=>zt
 obtain⟨r,I⟩:=zx (⟨1,nx,body⟩:eA)
 have ap:dZ r=true:=by
  rw[gE,I]
  exact decide_eq_true ⟨by have:=Q.2.2.1;show nx<=_;omega,by have:=Q.2.1;exact this,.inl rfl⟩
 have aJ:0<=nx:=by
  have h1:=Q.1.fine.ok.next
  have h2:=af.out
  omega
 have aK:∀j,w3.heap.size<=j->j≠v.bl/\fa q j/\some j≠blk A:=fun j hj=>by
  obtain⟨l0,l1,l2,l3,l4⟩:=T.out
  have bo:=a7.out
  exact⟨zo,⟨fun e=>by have:=l2 j (.inl e);omega,fun e=>by have:=l2 j (.inr (.inl e));omega,fun e=>by have:=l2 j (.inr (.inr e));omega⟩,fun e=>by have:=l3 j e.symm;omega⟩
 have aL:Hid (Calls prog 7 #[.pointer (some ⟨v.bl,0,none⟩),.agg #[.int .i64 1,.int .u64 nx,.slice Ab bl cb]] X fun e w'=>e=.returned (.int .i64 0)/\b_ (fun j=>j≠v.bl/\fa q j/\some j≠blk A) X w' /\
   ∃A' c',gU w' (fun b=>vO c3 bw q v b\/X.heap.size<=b) base v.bl q (lvK k p g id sl') A' c' ((lvK k p g id sl).adisk ⟨1,nx,body⟩ S)/\(blk A'=blk A\/∀k,blk A'=some k->X.heap.size<=k)):=zh (by
  have hL:=Q.1
  have aq:=mb (k:=k) (p:=p) hL r
  rw[I,Q.2.2.2.2] at aq
  have hq:r.seq=(lvK k p g id sl).next+((lvK k p g id sl).waits.length:Int):=by rw[I];exact af.out
  have aM:=Cl (k:=k) (p:=p) (id:=id) (r:=r) (by rw[I];exact Q.2.2.2.2) (by rw[I,af.out,aH.out];exact a2.out)
  have Y:=sa f.on r Ab bl cb (by rw[I];exact a8.symm) (D2:=fun b=>w3.heap.size<=b) (by rw[I];exact Row.Qc O.out) (ew O.out) (eh O.out) aK f.low.2.2.2.2.2.2 ap (by rw[I];exact aJ) hq hL.right hL.bytes (fun hz=>hL.seg hz) aM.1 aM.2
  rw[tT hL ap (by rw[I];exact Q.2.2.2.2)] at Y
  rw[I] at Y
  dsimp only at Y aq
  rw[aq] at Y
  exact Y)
 clear I ap aJ aK k6 r
 refine dQ (i:=11) zk rfl rfl (fun C F=>?_)
 go_simp
 refine aL.mono ?_
 rintro e w7⟨rfl,k7,A8,c8,aN,ar⟩
 go_wp2_with fail
 have n2:=R.trans k7
 refine F.out _ _ n2 ?_
 clear F C R aL
 try simp only[zy]
 refine c_ 12 n2 ?_
 refine wpAnyH_done zk ?_ _
 have N:∀b,b<X.heap.size->(c3 b=0\/K'.has (c3 b)\/(⟨1,2,3⟩:fe).has (c3 b))->b≠v.bl/\fa q b/\some b≠blk A:=fun b hb e=>by
  have h1:=f.far HK.2.1 e
  exact⟨h1.1,h1.2.1,h1.2.2.1⟩
 have ag:=Col.Qg c3 X fun _=>7
 have Z:l≠v.bl/\fa q l/\some l≠blk A:=by
  obtain⟨l0,l1,l2,l3,l4⟩:=T.out
  exact⟨zo,⟨fun e=>by have:=l2 l (.inl e);omega,fun e=>by have:=l2 l (.inr (.inl e));omega,fun e=>by have:=l2 l (.inr (.inr e));omega⟩,fun e=>by have:=l3 l e.symm;omega⟩
 have G:=(Array.getElem?_eq_some_iff.1 d.1).1
 replace L:=zh<|L.keep k7 ag fun b hb e=>N b hb (e.elim (fun e=>.inr (.inl e)) .inl)
 replace m:=zh<|m.step k7 ag fun b hb e=>N b hb (.inl e)
 replace d:=J2 (k7.Qa d.1 Z) ((ag _ G).trans d.2)
 replace f:=zh<|f.logged k7 aN ar
 have ba:∀k,blk A8=some k->k<l\/X.heap.size<=k:=fun k hk=>by
  rcases ar with e|e
  ·exact .inl (T.2.2.2.1 k (by rw[<- e];exact hk))
  exact .inr (e k hk)
 clear k7 aN ar N ag Z G n2 ba O
 obtain⟨c7,aO⟩:=zx (c3.on X.heap.size fun _=>7)
 rw[<- aO] at L m d f
 have aa:(lvK k p g id sl).adisk ⟨1,nx,body⟩ S=S':=by rw[af.out,aH.out];exact aG.2.symm
 rw[<- aG.1,aa] at f
 clear aa aO
 have e12:=f.cells.free 12
 have aj:w7.cell? ⟨bw,12,none⟩=some (.pointer (some ⟨v.br,0,none⟩)):=f.cells.cell (k:=12) rfl
 go_upto_region 11 with fail
 obtain⟨p1,p2⟩:=f.cells.set 12 (.pointer (some ⟨bt,0,none⟩)) (v':={ v with br:=bt }) rfl
 have N:∀b,(c7 b=0\/K'.has (c7 b)\/(⟨1,2,3⟩:fe).has (c7 b))->b≠bw:=fun b e=>(f.far HK.2.1 e).2.2.2.1
 have aP:=f.poke p2 p1 ⟨rfl,rfl,rfl,rfl,rfl⟩ f.st L.out HK.2.1
 have aQ:=m.step p2 (Ext.refl _ _) fun b hb e=>N b (.inl e)
 have aR:=p2.Qa d.1 (by have:=T.1;show l≠bw;omega)
 have aS:=L.keep p2 (Ext.refl _ _) fun b hb e=>N b (e.elim (fun e=>.inr (.inl e)) .inl)
 replace f:=zh aP
 replace m:=zh aQ
 replace d:=J2 aR d.2
 replace L:=zh aS
 clear aP aQ aR aS p1 p2 N e12 aj
 generalize w7.setCell ⟨bw,12,none⟩ (.pointer (some ⟨bt,0,none⟩))=w8 at *
 have aa:fz s':=HS.2.inv HS.1 M.2.2.1
 have y:New w8 w8.drew:=(zN w8).drew
 replace f:=zh<|f.new y (Ext.refl _ _)
 replace m:=zh<|m.new y (Ext.refl _ _)
 replace d:=J2 (y.Qa d.1 zt) d.2
 replace L:=zh<|L.new y
 have bb:=zh aa
 refine oM [8,11] (b_ (fun j=>j≠bw/\some j≠blk v.Aa) w8.drew) (New w8.drew) zk ?_
 clear y aa
 generalize w8.drew=w9 at *
 have aT:=zh<|qB (J:=⟨1,2,3⟩) L.out bb.out ⟨⟨Zd,Zd,Zd⟩,Zd,Zd,Zd⟩
 have s0:b_ (fun j=>j≠bw/\some j≠blk v.Aa) w9 w9:=b_.refl _ _
 have t0:New w9 w9:=zN _
 have bc:∀W,New w9 W->W.cell? ⟨bw,13,none⟩=some (.slice v.Aa v.na v.ca):=fun W D=>(f.cells.new D).cell (k:=13) rfl
 refine nW 0 ⟨s0,fun _=>t0⟩ ?_
 refine nW 1 ⟨s0,fun _=>t0⟩ ?_
 refine nW 2 ⟨s0,fun _=>t0⟩ ?_
 refine nW 3 ⟨s0,fun _=>t0⟩ ?_
 refine FU 4 ⟨s0,fun _=>t0⟩ ?_
 refine nW 5 ⟨s0,fun _=>t0⟩ ?_
 clear bc
 refine jo (i:=6) zk rfl rfl (fun C F=>?_)
 go_simp
 refine aT.mono ?_
 rintro e wA⟨b6,cA,rfl,kA,zA,xA,tA⟩
 go_wp2_with fail
 have s6:=b_.new s0 kA
 refine F.out _ _ ⟨s6,fun _=>kA⟩ ?_
 clear F C aT zA tA
 try simp only[zy]
 refine jo (i:=7) zk rfl rfl (fun C F=>?_)
 go_simp
 try go_wp2_with fail
 have kB:=(zN wA).alloc (.cells #[.pointer (some ⟨b6,0,none⟩)] 38)
 have aU:=(Row.made wA 38 #[.pointer (some ⟨b6,0,none⟩)] 1 1 rfl).imp (E:=fun _=>True) fun _ _ _=>trivial
 have s7:=b_.new s6 kB
 have t7:=b_.new kA kB
 refine F.out _ _ ⟨s7,fun _=>t7⟩ ?_
 clear F C
 try simp only[zy]
 replace f:=zh<|(f.new kA xA).new kB (Ext.refl _ _)
 replace m:=zh<|(m.new kA xA).new kB (Ext.refl _ _)
 have G:=(Array.getElem?_eq_some_iff.1 d.1).1
 replace d:=J2 ((kA.new kB).Qa d.1 zt) ((xA _ G).trans d.2)
 clear kA xA kB G L
 generalize wA.alloc (.cells #[.pointer (some ⟨b6,0,none⟩)] 38)=wB at *
 generalize be:wA.heap.size=gA at *
 refine jo (i:=8) zk rfl rfl (fun C F=>?_)
 obtain⟨vs,au⟩:=f.after
 have av:=Q.2.2.2.1
 refine sU (base:=base) rfl underlying39 (fY DZ) Zd rfl au rfl aU (fun u hu=>by rw[List.mem_singleton.1 hu];rfl) (by unfold maxLen;omega) zo f.low.2.2.2.2.2.2 ?_
 intro A9 c9 wC o9 kC aV
 have s8:b_ (fun j=>j≠bw/\some j≠blk v.Aa) w9 wC:=s7.Qd kC fun b _ hb=>hb.2
 refine F.out _ _ ⟨s8,fun h=>absurd h Zd⟩ ?_
 clear F C
 try simp only[zy]
 refine nW 9 ⟨s8,fun h=>absurd h Zd⟩ ?_
 refine nW 10 ⟨s8,fun h=>absurd h Zd⟩ ?_
 have hap:=f.apart
 have ah:=f.cells.keep kC (fun e=>hap.2.2.2.1 e.symm)
 have bf:wC.cell? ⟨bw,13,none⟩=some (.slice v.Aa v.na v.ca):=ah.cell (k:=13) rfl
 have f13:=ah.free 13
 obtain⟨q1,q2⟩:=f.rowed kC o9 aV av
 have HQ:=J2 q1 q2
 have s9:b_ (fun j=>j≠bw/\some j≠blk v.Aa) w9 (wC.setCell ⟨bw,13,none⟩ (.slice A9 (v.na+1) c9)):=s8.Qd (lz.set (v':={ v with br:=bt,Aa:=A9,na:=v.na+1,ca:=c9 }) ah 13 (.slice A9 (v.na+1) c9) rfl).2 fun b _ hb=>hb.1
 clear q1 q2 hap ah av au o9
 refine jo (i:=11) zk rfl rfl (fun C F=>?_)
 go_simp
 refine F.out _ _ ⟨s9,fun h=>absurd h Zd⟩ ?_
 clear F C bf f13 s0 t0 s6 s7 t7 s8 s9 aU
 try simp only[zy]
 refine ou zk ?_ _
 have aw:=Col.Qg cA wB fun _=>7
 have G:=(Array.getElem?_eq_some_iff.1 d.1).1
 have Z:l≠bw/\some l≠blk v.Aa:=⟨by have:=T.1;omega,fun e=>by have:=T.2.2.2.2 l e.symm;omega⟩
 have aW:=m.step HQ.2 aw fun b hb e=>(f.far HK.2.1 (.inl e)).2.2.2
 have aX:=HQ.2.Qa d.1 Z
 replace d:=J2 aX ((aw _ G).trans d.2)
 replace m:=zh aW
 replace f:=zh HQ.1
 clear HQ kC aV aw G Z aW aX
 generalize wC.setCell ⟨bw,13,none⟩ (.slice A9 (v.na+1) c9)=P at *
 obtain⟨t,ax⟩:=zx (cA.on wB.heap.size fun _=>7)
 rw[<- ax] at f m d
 clear ax be
 go_upto_region 12 with fail
 have y:New P P.drew:=(zN P).drew
 replace f:=zh<|f.new y (Ext.refl _ _)
 replace m:=zh<|m.new y (Ext.refl _ _)
 replace d:=J2 (y.Qa d.1 zt) d.2
 refine eu (b_ (fun j=>j<P.heap.size/\¬(⟨1,2,3⟩:fe).has (t j)) P.drew) zk ?_
 have ay:P.heap.size=P.drew.heap.size:=rfl
 rw[ay]
 clear y ay
 generalize P.drew=x at *
 have H:b_ (fun j=>j<x.heap.size/\¬(⟨1,2,3⟩:fe).has (t j)) x x:=b_.refl _ _
 have z:l<x.heap.size/\¬(⟨1,2,3⟩:fe).has (t l):=⟨(Array.getElem?_eq_some_iff.1 d.1).1,s_ d.2⟩
 have aY:bw<x.heap.size/\¬(⟨1,2,3⟩:fe).has (t bw):=⟨f.cells.lt,s_ f.c7.1⟩
 have r1:∀W,b_ (fun j=>j<x.heap.size/\¬(⟨1,2,3⟩:fe).has (t j)) x W->W.cell? ⟨bw,1,none⟩=some (.pointer (some ⟨v.bs,0,none⟩)):=fun W D=>(f.cells.keep D aY).cell (k:=1) rfl
 have u0:∀W,b_ (fun j=>j<x.heap.size/\¬(⟨1,2,3⟩:fe).has (t j)) x W->W.cell? ⟨l,0,none⟩=some (.int .i64 o.kind):=fun W D=>(fq (D.Qa d.1 z)).1
 have u1:∀W,b_ (fun j=>j<x.heap.size/\¬(⟨1,2,3⟩:fe).has (t j)) x W->W.cell? ⟨l,1,none⟩=some (.string (dR o.path)):=fun W D=>(fq (D.Qa d.1 z)).2.1
 have u2:∀W,b_ (fun j=>j<x.heap.size/\¬(⟨1,2,3⟩:fe).has (t j)) x W->W.cell? ⟨l,2,none⟩=some (.string (dR o.goal)):=fun W D=>(fq (D.Qa d.1 z)).2.2.1
 have u3:∀W,b_ (fun j=>j<x.heap.size/\¬(⟨1,2,3⟩:fe).has (t j)) x W->W.cell? ⟨l,3,none⟩=some (.int .i64 o.fd):=fun W D=>(fq (D.Qa d.1 z)).2.2.2.1
 have u4:∀W,b_ (fun j=>j<x.heap.size/\¬(⟨1,2,3⟩:fe).has (t j)) x W->W.cell? ⟨l,4,none⟩=some (.int .i64 o.at_):=fun W D=>(fq (D.Qa d.1 z)).2.2.2.2.1
 have u5:∀W,b_ (fun j=>j<x.heap.size/\¬(⟨1,2,3⟩:fe).has (t j)) x W->W.cell? ⟨l,5,none⟩=some (.int .i64 o.n):=fun W D=>(fq (D.Qa d.1 z)).2.2.2.2.2.1
 have u6:∀W,b_ (fun j=>j<x.heap.size/\¬(⟨1,2,3⟩:fe).has (t j)) x W->W.cell? ⟨l,6,none⟩=some (.int .u64 o.till):=fun W D=>(fq (D.Qa d.1 z)).2.2.2.2.2.2.1
 have u7:∀W,b_ (fun j=>j<x.heap.size/\¬(⟨1,2,3⟩:fe).has (t j)) x W->W.cell? ⟨l,7,none⟩=some (.int .i64 o.snap):=fun W D=>(fq (D.Qa d.1 z)).2.2.2.2.2.2.2.1
 have u8:∀W,b_ (fun j=>j<x.heap.size/\¬(⟨1,2,3⟩:fe).has (t j)) x W->W.cell? ⟨l,8,none⟩=some (.slice E o.data.length cd):=fun W D=>(fq (D.Qa d.1 z)).2.2.2.2.2.2.2.2
 refine c_ 0 H ?_
 refine c_ 1 H ?_
 refine c_ 2 H ?_
 refine c_ 3 H ?_
 refine c_ 4 H ?_
 clear r1 u0 u1 u2 u3 u4 u5 u6 u7 u8 z aY
 obtain⟨B,aZ⟩:=f.st
 have az:=zh<|xL (o:=o) (cd:=cd) aZ HS.1 HS.2 M.1 M.2.1 f.max (m.bs HD.1) M.2.2.2.2.1 M.2.2.2.2.2 M.2.2.1 M.2.2.2.1
 unfold fB dY at az
 clear aZ
 refine dQ (i:=5) zk rfl rfl (fun C F=>?_)
 go_simp
 refine az.mono ?_
 rintro e wE⟨⟨⟨er,nn,dd,nm,nd⟩,D5,bp,N5,bq,rfl,h0⟩,kE,cE,xE,BE,tE⟩
 dsimp only at h0
 subst h0
 go_wp2_with fail
 have R:=H.trans kE
 refine F.out _ _ R ?_
 clear F C az
 try simp only[zy]
 dsimp only[dT]
 refine c_ 6 R ?_
 refine c_ 7 R ?_
 refine c_ 8 R ?_
 refine wpAnyH_done zk ?_ _
 have aA:∀b,b<x.heap.size->(t b=7\/t b=0\/K'.has (t b))->b<x.heap.size/\¬(⟨1,2,3⟩:fe).has (t b):=fun b hb e=>⟨hb,fun e2=>by
  unfold fe.has at e2
  dsimp only at e2
  rcases e with e|e|e
  ·omega
  ·omega
  have:=HK.2.1 _ e;omega⟩
 have a1:=f.done_ kE xE aA ⟨BE,tE⟩
 have bg:=m.step kE xE fun b hb e=>aA b hb (.inr (.inl e))
 clear R kE xE tE aA
 go_wp2
 go_ret
 exact⟨rfl,cE,K',_,A8,c8,bg,a1,rfl,rfl⟩
