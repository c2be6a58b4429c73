/-
  PROVED HERE: parts of a law's walk, each under the conditions that its statement names.
-/
import Derived.Test.YtlopmiaimignkaaGreatDoorPkM18
import Derived.Test.YtlopmiaimignkaaGreatDoorPkM28
set_option maxRecDepth 100000
set_option maxHeartbeats 8000000
namespace Go.Proofs.YtlopmiaimignkaaGreatDoor
open Go.Proofs.Tryz
open Go.RowKit
variable{W W' w:World}{q:g9}{S:List UInt8}{base bt g i j k m n p size:Nat}{A:Option Addr}{vs:List Value}{e:TypeId}{v:Value}{c:Col}{id:Int}
def Jd(w:World)(c:Col)(I:fe)(s:d')(e:Ending)(w':World):Prop:=∃b B c',e=.returned (.tuple #[.pointer (some ⟨b,0,none⟩),.int .i64 0])/\New w w'/\w.heap.size<=b/\Ext w c c'/\ei w' c' I b B s
def sO(s:d'):Prop:=∀(w:World) (c:Col) (I:fe),I.Ok->∀(D:Nat->Prop) (A:Option Addr) (n cp:Nat),Bs w D A n (fQ s)->n<=cp->cp<=9223372036854775807->Calls prog 223 #[.slice A n cp] w (Jd w c I s)
def nO(S:List UInt8)(p i:Nat):List UInt8:=(S.drop ((1+i*p)*128)).take (p*128)
theorem tQ(h:iK w q S)(hk:S.length=k*128)(hp:fg k p g=true)(hi:i=0\/i=1){m:kV}(hm:ol (p:Int) (g:Int) m)(hfit:(m.data.length:Int)<=128*(p:Int)-94)(hb:nO S p i=eG (p:Int) m){s:d'}(hs:m.data=fQ s)(hL:sO s)(c:Col)(I:fe)(hI:I.Ok):
  Calls prog 124 #[.pointer (some ⟨q.bd,0,none⟩),.agg #[.int .i64 k,.int .i64 p,.int .i64 g],.int .i64 i] w fun e w'=>∃v b B c',e=.returned (.tuple #[v,.pointer (some ⟨b,0,none⟩),.bool true])/\Ca w w' m v/\New w w'/\w.heap.size<=b/\Ext w c c'/\ei w' c' I b B s:=by
 have ar:=fX hp
 have K:=fun W=>zh (rZ (i:=(i:Int)) hp zo W)
 obtain⟨f,hf⟩:=zx (1+i*p)
 have aa:(1:Int)+(i:Int)*(p:Int)=(f:Int):=by rw[hf];push_cast;rfl
 rw[aa] at K
 have aF:f+p<=k:=by rcases hi with rfl|rfl <;> omega
 have HB:Hid ((S.drop (f*128)).take (p*128)=eG (p:Int) m):=zh (by rw[hf];exact hb)
 obtain⟨aG,hd⟩:=h
 have HD:=fun W (hW:New w W) (j:Nat) (hj:j<p)=>zh (rK (hd.new hW) hk (f+j) zo)
 have au:=zh<|fun(W:World) (A:Option Addr) (n cp:Nat) (hB:Bs W (fun b=>w.heap.size<=b) A n (eG (p:Int) m)) (hn:(n:Int)=128*(p:Int)) (hc:n<=cp) (hc9:cp<=9223372036854775807)=>ym hp hm hfit hB hn hc hc9
 have HL:=zh hL
 have HS:=J2 hs hI
 have aH:p<=1024:=by omega
 have aI:k<=4096:=by omega
 clear hf aa hb hd hk hi ar hL hs hI hm hfit hp
 have kA:=((zN w).alloc (.cells #[.int .i64 k,.int .i64 p,.int .i64 g] 35)).alloc (.cells #[.int .u64 0,.int .u64 0,.int .i64 0,.slice none 0 0,.slice none 0 0] 101)
 have x1:=((zN (w.alloc (.cells #[.int .i64 k,.int .i64 p,.int .i64 g] 35))).alloc (.cells #[.int .u64 0,.int .u64 0,.int .i64 0,.slice none 0 0,.slice none 0 0] 101)).Qa (heap_alloc_new w (.cells #[.int .i64 k,.int .i64 p,.int .i64 g] 35)) trivial
 have x2:=heap_alloc_new (w.alloc (.cells #[.int .i64 k,.int .i64 p,.int .i64 g] 35)) (.cells #[.int .u64 0,.int .u64 0,.int .i64 0,.slice none 0 0,.slice none 0 0] 101)
 rw[show(w.alloc (.cells #[.int .i64 k,.int .i64 p,.int .i64 g] 35)).heap.size=w.heap.size+1 from by simp] at x2
 go_in
 go_upto_region 1 with fail
 generalize hgp:w.heap.size=l at *
 generalize (w.alloc (.cells #[.int .i64 k,.int .i64 p,.int .i64 g] 35)).alloc (.cells #[.int .u64 0,.int .u64 0,.int .i64 0,.slice none 0 0,.slice none 0 0] 101)=w1 at *
 have L:=zh hgp
 obtain⟨p0,M,p2⟩:=cs3 x1
 have F:=J2 x1 x2
 have u:=zh kA
 clear x1 x2 kA hgp
 go_wp2_with fail
 refine(K _).mono ?_
 rintro e w2⟨rfl,Z⟩
 replace F:=J2 (Z.Qa F.1 zt) (Z.Qa F.2 zt)
 replace u:=zh<|u.new Z
 clear p0 M p2 Z K
 have M:=a_ F.1 (k:=1) rfl
 obtain⟨gb,ab⟩:=zx (w2.heap.size)
 have N:=zh ab
 clear ab
 go_wp2_with fail
 go_loopw [11,26] (fun o i wx=>∃(j m:Nat) (G:Option Addr) (c':Nat),j<=p/\m=j*128/\o=.slice G m c'/\i=.int .i64 (j:Int)/\fy wx gb 5 G m c' ((S.drop (f*128)).take (j*128))/\New w2 wx) (fun _ i _=>p-(intOf i).toNat)
 case atStart=>exact⟨0,0,none,0,Nat.zero_le _,rfl,rfl,rfl,Own.nil _ _ _ _,zN _⟩
 obtain⟨j,O,G,c',aJ,hm,rfl,rfl,P,hK⟩:=hrel
 have x:=zh P
 have z:=zh hK
 have HM:=zh hm
 clear P hK hm
 by_cases hlt:j<p
 ·have aK:(j:Int)<p:=by omega
  have HR:=HD wr (u.new z.out) j hlt
  have hw:IntKind.i64.wrap ((f:Int)+(j:Int))=(f:Int)+(j:Int):=IntWalk.i64_in _ zo
  have aL:IntKind.i64.wrap ((j:Int)+1)=(j:Int)+1:=IntWalk.i64_in _ zo
  clear M
  go_wp2_with fail
  refine HR.mono ?_
  rintro e w3⟨⟨A2,c2,rfl,o2⟩,k3⟩
  have P:=eP x.out k3 (fun _ _=>zt)
  have hr:=Row.Qc o2
  have hb:O+128<=140737488355328:=by have:=HM.out;omega
  have hz:gb<=w3.heap.size:=by have:=(z.new k3).size;rw[<- N.out] at this;exact this
  clear o2
  go_wp2_with (at_builtin;refine fK _ rfl _ _ rfl gb G O c' _ rfl P _ A2 128 c2 _ rfl hr hb hz ?_;intro A4 c4 w4 o4 av aE)
  rw[rO] at o4
  go_roundw
  case rel=>exact⟨j+1,O+128,A4,c4,zo,by have:=HM.out;omega,by go_num,by go_num,o4,(z.new k3).grown av (fun b hb _=>by have:=(eW P b hb).1;rw[<- N.out];exact this)⟩
  simp[intOf];omega
 obtain rfl:j=p:=by omega
 have aw:Hid (Bs wr (fun b=>l<=b) G O (eG (j:Int) m)):=zh (by
  have h1:=Row.Qc x.out
  rw[HB.out] at h1
  exact h1.imp fun b _ hb=>by have:=u.size;have:=L.out;rw[N.out] at hb;omega)
 have Q:=au.out wr G O c' aw.out (by have:=HM.out;omega) (ew x.out) (eh x.out)
 have R:=zh Q
 have ac:=z.Qa F.1 trivial
 have ad:=z.Qa F.2 trivial
 have d:=J2 ac ad
 have r:=zh<|u.new z.out
 have aM:l+1<wr.heap.size:=(Array.getElem?_eq_some_iff.1 d.2).1
 obtain⟨p0,M,p2⟩:=cs3 d.1
 clear HD Q ac ad x HM z
 go_wp2_with fail
 refine R.mono ?_
 rintro e w5⟨⟨v,rfl,H,hc,B,y,rfl,⟨ae,af,ag⟩,ah,ai,aj⟩,k5⟩
 have a:=J4 (za ae (za af ag)) ah ai aj
 replace d:=zh<|k5.Qa d.2 zt
 replace r:=zh<|r.new k5
 clear p0 M p2 R k5 ae af ag ah ai aj
 obtain⟨C,T⟩:=zx (m.data.length)
 rw[<- T] at a ⊢
 have ak:=zh T
 clear T
 go_upto_region 10 with fail
 have U:=(zN w5).alloc (.cells #[.int .u64 m.gen,.int .u64 m.seq,.int .i64 m.segs,.slice H 32 hc,.slice B C y] 101)
 have xM:=heap_alloc_new w5 (.cells #[.int .u64 m.gen,.int .u64 m.seq,.int .i64 m.segs,.slice H 32 hc,.slice B C y] 101)
 generalize w5.alloc (.cells #[.int .u64 m.gen,.int .u64 m.seq,.int .i64 m.segs,.slice H 32 hc,.slice B C y] 101)=w6 at *
 generalize aN:w5.heap.size=gm at *
 replace d:=zh<|U.Qa d.out zt
 replace r:=zh<|r.new U
 replace a:=J3 (za (a.1.1.new U) a.1.2) (a.2.1.new U) a.2.2
 have V:=zh xM
 have ap:l+1<w6.heap.size:=(Array.getElem?_eq_some_iff.1 d.out).1
 have y4:=a_ xM (k:=4) rfl
 have al:=zh<|HL.out w6 (c.on w.heap.size fun _=>I.t+I.s+I.o+1) I HS.2 _ B C y (by rw[<- HS.1];exact a.2.1) a.2.2.1 a.2.2.2
 clear U xM
 go_wp2_with fail
 refine al.mono ?_
 rintro e w7⟨bs,Bs,c',rfl,J,am,an,ao⟩
 have ax:=zh ao
 replace d:=zh<|J.Qa d.out zt
 have aq:=r.size
 replace r:=zh<|r.new J
 replace a:=J3 (za (a.1.1.new J) a.1.2) (a.2.1.new J) a.2.2
 replace V:=zh<|J.Qa V.out zt
 have D:=J2 am an
 have aO:l+1<w7.heap.size:=(Array.getElem?_eq_some_iff.1 d.out).1
 obtain⟨m0,m1,m2,m3,m4⟩:=cs5 V.out
 have ay:=a_ d.out (k:=0) rfl
 have az:=a_ d.out (k:=1) rfl
 have aA:=a_ d.out (k:=2) rfl
 have aB:=a_ d.out (k:=3) rfl
 have aC:=a_ d.out (k:=4) rfl
 obtain⟨z0,z1,z2,z3,z4⟩:=fz5 d.out
 clear y4 al J ao am an
 go_wp2_with fail
 clear ay az aA aB aC z0 z1 z2 z3 z4 m0 m1 m2 m3 m4
 obtain⟨X,E⟩:=nY d.out (.int .u64 m.gen) (.int .u64 m.seq) (.int .i64 m.segs) (.slice H 32 hc) (.slice B C y)
 generalize aP:World.setCell _ _ _=Y at *
 have f0:Y.cell? ⟨l+1,0,none⟩=some (.int .u64 m.gen):=a_ X rfl
 have f1:Y.cell? ⟨l+1,1,none⟩=some (.int .u64 m.seq):=a_ X rfl
 have f2:Y.cell? ⟨l+1,2,none⟩=some (.int .i64 m.segs):=a_ X rfl
 have f3:Y.cell? ⟨l+1,3,none⟩=some (.slice H 32 hc):=a_ X rfl
 have f4:Y.cell? ⟨l+1,4,none⟩=some (.slice B C y):=a_ X rfl
 refine Zb (.tuple #[.agg #[.int .u64 m.gen,.int .u64 m.seq,.int .i64 m.segs,.slice H 32 hc,.slice B C y],.pointer (some ⟨bs,0,none⟩),.bool true]) (by simp[results,results124,go_sem,f0,f1,f2,f3,f4]) ?_
 have aD:c' (l+1)=I.t+I.s+I.o+1:=(D.2 (l+1) (by have:=D.1;have:=ap;omega)).trans (Col.Qf _ _ (by have:=L.out;omega))
 have hF:∀b,b<w7.heap.size->I.has (c' b)\/c' b=0->b≠l+1:=fun b _ hb e=>by
  rw[e,aD] at hb
  rcases hb with hb|hb
  ·unfold fe.has at hb;omega
  omega
 refine⟨_,bs,Bs,c',rfl,⟨H,hc,B,y,by rw[ak.out],⟨(a.1.1.keep E fun b _ hb=>by show b≠l+1;omega).imp fun b _ hb=>by have:=L.out;omega,a.1.2⟩,?_⟩,r.Qd E fun b hb _=>by show b≠l+1;have:=L.out;omega,by have:=D.1;omega,(Col.Qg c w _).trans D.2 aq,ax.keep E (Ext.refl _ _) hF⟩
 rw[<- ak.out]
 exact⟨(a.2.1.keep E fun b _ hb=>by show b≠l+1;omega).imp fun b _ hb=>by have:=L.out;omega,a.2.2⟩
theorem DO(a0 a1 a2 b0 b1 b2 r:Int)(H B H2 B2:Option Addr)(n hc dn dc n2 hc2 dn2 dc2:Nat)(w:World)(hr:(b0<=a0/\r=0)\/(¬b0<=a0/\r=1)):
  Calls prog 125 #[.agg #[.int .u64 a0,.int .u64 a1,.int .i64 a2,.slice H n hc,.slice B dn dc],.agg #[.int .u64 b0,.int .u64 b1,.int .i64 b2,.slice H2 n2 hc2,.slice B2 dn2 dc2],.bool true,.bool true] w fun e w'=>e=.returned (.tuple #[.int .i64 r,.bool true])/\New w w':=by
 have b:=((zN w).alloc (.cells #[.int .u64 a0,.int .u64 a1,.int .i64 a2,.slice H n hc,.slice B dn dc] 101)).alloc (.cells #[.int .u64 b0,.int .u64 b1,.int .i64 b2,.slice H2 n2 hc2,.slice B2 dn2 dc2] 101)
 have c:=((zN (w.alloc (.cells #[.int .u64 a0,.int .u64 a1,.int .i64 a2,.slice H n hc,.slice B dn dc] 101))).alloc (.cells #[.int .u64 b0,.int .u64 b1,.int .i64 b2,.slice H2 n2 hc2,.slice B2 dn2 dc2] 101)).Qa (heap_alloc_new w (.cells #[.int .u64 a0,.int .u64 a1,.int .i64 a2,.slice H n hc,.slice B dn dc] 101)) trivial
 have a:=heap_alloc_new (w.alloc (.cells #[.int .u64 a0,.int .u64 a1,.int .i64 a2,.slice H n hc,.slice B dn dc] 101)) (.cells #[.int .u64 b0,.int .u64 b1,.int .i64 b2,.slice H2 n2 hc2,.slice B2 dn2 dc2] 101)
 rw[show(w.alloc (.cells #[.int .u64 a0,.int .u64 a1,.int .i64 a2,.slice H n hc,.slice B dn dc] 101)).heap.size=w.heap.size+1 from by simp] at a
 have g:=a_ c (k:=0) rfl
 have i:=a_ a (k:=0) rfl
 have d:=zh b
 clear b c a
 rcases hr with⟨h,rfl⟩|⟨h,rfl⟩
 ·have hd:decide (b0<=a0)=true:=decide_eq_true h
  clear h
  go_in
  go_upto_region 1 with fail
  generalize (w.alloc _).alloc _=f at *
  go_wp2
  refine Zb (.tuple #[.int .i64 0,.bool true]) (by simp[results,results125,go_sem]) ?_
  exact⟨rfl,d.out⟩
 have hd:decide (b0<=a0)=false:=decide_eq_false h
 clear h
 go_in
 go_upto_region 1 with fail
 generalize (w.alloc _).alloc _=f at *
 go_wp2
 refine Zb (.tuple #[.int .i64 1,.bool true]) (by simp[results,results125,go_sem]) ?_
 exact⟨rfl,d.out⟩
structure mQ (S:List UInt8) (p g i:Nat) (m:kV) (s:d'):Prop where
 ok:ol (p:Int) (g:Int) m
 fit:(m.data.length:Int)<=128*(p:Int)-94
 laid:nO S p i=eG (p:Int) m
 data:m.data=fQ s
 loads:sO s
def EA(w:World)(c:Col)(I:fe)(m:kV)(s:d')(e:Ending)(w':World):Prop:=∃v b B c',e=.returned (.tuple #[v,.pointer (some ⟨b,0,none⟩),.bool true])/\Ca w w' m v/\New w w'/\w.heap.size<=b/\Ext w c c'/\ei w' c' I b B s
theorem yv(h:iK w q S)(hk:S.length=k*128)(hp:fg k p g=true){m0 m1:kV}{s0 s1:d'}(h0:mQ S p g 0 m0 s0)(h1:mQ S p g 1 m1 s1)(c:Col)(I:fe)(hI:I.Ok){m:kV}{s:d'}(hpick:(m1.gen<=m0.gen/\m=m0/\s=s0)\/(¬m1.gen<=m0.gen/\m=m1/\s=s1)):
  Calls prog 39 #[.pointer (some ⟨q.bd,0,none⟩),.agg #[.int .i64 k,.int .i64 p,.int .i64 g]] w (EA w c I m s):=by
 replace hpick:=zh hpick
 have ar:=zh<|fun W (hW:New w W) (c:Col)=>tQ (i:=0) (h.new hW) hk hp (.inl rfl) h0.ok h0.fit h0.laid h0.data h0.loads c I hI
 have au:=zh<|fun W (hW:New w W) (c:Col)=>tQ (i:=1) (h.new hW) hk hp (.inr rfl) h1.ok h1.fit h1.laid h1.data h1.loads c I hI
 clear h0 h1 hI h hk hp
 have kA:=((zN w).alloc (.cells #[.int .i64 k,.int .i64 p,.int .i64 g] 35)).alloc (.cells #[.int .u64 0,.int .u64 0,.int .i64 0,.slice none 0 0,.slice none 0 0] 101)
 have x1:=((zN (w.alloc (.cells #[.int .i64 k,.int .i64 p,.int .i64 g] 35))).alloc (.cells #[.int .u64 0,.int .u64 0,.int .i64 0,.slice none 0 0,.slice none 0 0] 101)).Qa (heap_alloc_new w (.cells #[.int .i64 k,.int .i64 p,.int .i64 g] 35)) trivial
 have x2:=heap_alloc_new (w.alloc (.cells #[.int .i64 k,.int .i64 p,.int .i64 g] 35)) (.cells #[.int .u64 0,.int .u64 0,.int .i64 0,.slice none 0 0,.slice none 0 0] 101)
 rw[show(w.alloc (.cells #[.int .i64 k,.int .i64 p,.int .i64 g] 35)).heap.size=w.heap.size+1 from by simp] at x2
 go_in
 go_upto_region 1 with fail
 obtain⟨a,hgp⟩:=zx (w.heap.size)
 rw[<- hgp] at x1 x2 ⊢
 generalize (w.alloc (.cells #[.int .i64 k,.int .i64 p,.int .i64 g] 35)).alloc (.cells #[.int .u64 0,.int .u64 0,.int .i64 0,.slice none 0 0,.slice none 0 0] 101)=w1 at *
 have N:=zh hgp
 obtain⟨p0,p1,p2⟩:=cs3 x1
 have Q:=J2 x1 x2
 have x:=zh kA
 have aK:a+1<w1.heap.size:=(Zl x2)
 clear x1 x2 kA hgp
 have E:=zh<|ar.out w1 x.out (c.on w.heap.size fun _=>I.t+I.s+I.o+1)
 rw[show(((0:Nat):Int))=0 from rfl] at E
 go_wp2_with fail
 refine E.mono ?_
 rintro e w2⟨v0,b0,B0,c0,rfl,aA,k2,z2,e2,av⟩
 obtain⟨R,y,T,z,rfl,r1,r2⟩:=aA
 obtain⟨F,aa⟩:=zx (m0.data.length)
 rw[<- aa] at r2 ⊢
 have af:=zh aa
 have f:=J2 r1 r2
 have ag:=zh av
 have U:=J2 z2 e2
 have V:=zh k2
 clear aa r1 r2 av z2 e2 k2 E p0 p1 p2
 go_upto_region 2 with fail
 have O:=(zN w2).alloc (.cells #[.int .u64 m0.gen,.int .u64 m0.seq,.int .i64 m0.segs,.slice R 32 y,.slice T F z] 101)
 have xM:=heap_alloc_new w2 (.cells #[.int .u64 m0.gen,.int .u64 m0.seq,.int .i64 m0.segs,.slice R 32 y,.slice T F z] 101)
 generalize w2.alloc (.cells #[.int .u64 m0.gen,.int .u64 m0.seq,.int .i64 m0.segs,.slice R 32 y,.slice T F z] 101)=w3 at *
 generalize aB:w2.heap.size=ga at *
 have aw:=zh<|show a+1<ga by have:=V.size;omega
 have n:=zh xM
 replace Q:=J2 (O.Qa (V.Qa Q.1 zt) zt) (O.Qa (V.Qa Q.2 zt) zt)
 have A:=zh<|V.new O
 have X:=zh O
 clear O xM V aB
 obtain⟨p0,p1,p2⟩:=cs3 Q.1
 have E:=zh<|au.out w3 (x.new A.out) c0
 rw[show(((1:Nat):Int))=1 from rfl] at E
 go_wp2_with fail
 refine E.mono ?_
 rintro e w4⟨v1,b1,B1,c1,rfl,aC,k4,z4,e4,ax⟩
 obtain⟨Y,B,Z,C,rfl,r1,r2⟩:=aC
 obtain⟨G,ab⟩:=zx (m1.data.length)
 rw[<- ab] at r2 ⊢
 have ah:=zh ab
 have j:=J2 r1 r2
 have ac:=zh ax
 have P:=J2 z4 e4
 have ai:=zh k4
 clear ab r1 r2 ax z4 e4 k4 E p0 p1 p2
 go_upto_region 3 with fail
 have O:=(zN w4).alloc (.cells #[.int .u64 m1.gen,.int .u64 m1.seq,.int .i64 m1.segs,.slice Y 32 B,.slice Z G C] 101)
 have xM:=heap_alloc_new w4 (.cells #[.int .u64 m1.gen,.int .u64 m1.seq,.int .i64 m1.segs,.slice Y 32 B,.slice Z G C] 101)
 generalize w4.alloc (.cells #[.int .u64 m1.gen,.int .u64 m1.seq,.int .i64 m1.segs,.slice Y 32 B,.slice Z G C] 101)=w5 at *
 generalize aD:w4.heap.size=gb at *
 have H:=zh xM
 replace Q:=zh<|O.Qa (ai.Qa Q.2 zt) zt
 have D:=zh<|ai.new O
 replace n:=zh<|D.Qa n.out zt
 have J:=zh O
 clear O xM ai aD
 obtain⟨a0,a1,a2,a3,a4⟩:=cs5 n.out
 obtain⟨y0,y1,y2,y3,y4⟩:=cs5 H.out
 have aL:a+1<w3.heap.size:=by have:=A.size;omega
 replace j:=J3 (za (j.1.1.new J.out) j.1.2) (j.2.1.new J.out) j.2.2
 replace ac:=zh<|ac.new J.out
 replace f:=J3 (za (f.1.1.new (X.new D.out)) f.1.2) (f.2.1.new (X.new D.out)) f.2.2
 have ay:Hid (ei w5 c1 I b0 B0 s0):=zh (by
  have h1:ei w3 c0 I b0 B0 s0:=ag.new X.out
  exact h1.keep D.out P.2 fun _ _ _=>zt)
 have az:=hpick.out
 have ad:=zh<|fun r hr=>DO m0.gen m0.seq m0.segs m1.gen m1.seq m1.segs r R T Y Z 32 y F z 32 B G C w5 hr
 clear ag ar au
 rcases az with⟨ae,rfl,rfl⟩|⟨ae,rfl,rfl⟩
 ·have HN:=zh<|ad.out _ (.inl ⟨ae,rfl⟩)
  clear ad ae
  go_wp2_with fail
  refine HN.mono ?_
  rintro e w6⟨rfl,K⟩
  have l:=zh K
  have d:=zh<|K.Qa Q.out zt
  replace n:=zh<|K.Qa n.out zt
  replace H:=zh<|K.Qa H.out zt
  clear K HN a0 a1 a2 a3 a4 y0 y1 y2 y3 y4
  obtain⟨a0,a1,a2,a3,a4⟩:=cs5 n.out
  obtain⟨y0,y1,y2,y3,y4⟩:=cs5 H.out
  have aj:=a_ d.out (k:=0) rfl
  have ak:=a_ d.out (k:=1) rfl
  have al:=a_ d.out (k:=2) rfl
  have am:=a_ d.out (k:=3) rfl
  have an:=a_ d.out (k:=4) rfl
  obtain⟨z0,z1,z2,z3,z4⟩:=fz5 d.out
  go_wp2_with fail
  clear aj ak al am an z0 z1 z2 z3 z4 a0 a1 a2 a3 a4 y0 y1 y2 y3 y4
  obtain⟨L,u⟩:=nY d.out (.int .u64 m.gen) (.int .u64 m.seq) (.int .i64 m.segs) (.slice R 32 y) (.slice T F z)
  generalize aE:World.setCell _ _ _=M at *
  have f0:M.cell? ⟨a+1,0,none⟩=some (.int .u64 m.gen):=a_ L rfl
  have f1:M.cell? ⟨a+1,1,none⟩=some (.int .u64 m.seq):=a_ L rfl
  have f2:M.cell? ⟨a+1,2,none⟩=some (.int .i64 m.segs):=a_ L rfl
  have f3:M.cell? ⟨a+1,3,none⟩=some (.slice R 32 y):=a_ L rfl
  have f4:M.cell? ⟨a+1,4,none⟩=some (.slice T F z):=a_ L rfl
  refine Zb (.tuple #[.agg #[.int .u64 m.gen,.int .u64 m.seq,.int .i64 m.segs,.slice R 32 y,.slice T F z],.pointer (some ⟨b0,0,none⟩),.bool true]) (by simp[results,results39,go_sem,f0,f1,f2,f3,f4]) ?_
  have HW:=(x.new A.out).new (D.new l.out)
  have aF:=l.size
  have aG:=D.size
  have aH:=J.size
  have aI:=X.size
  have aJ:=A.size
  have ao:c0 (a+1)=I.t+I.s+I.o+1:=(U.2 (a+1) zo).trans (Col.Qf _ _ (by have:=N.out;omega))
  have ap:c1 (a+1)=I.t+I.s+I.o+1:=(P.2 (a+1) (by have:=aw.out;omega)).trans ao
  have hF:∀b,b<w6.heap.size->I.has (c1 b)\/c1 b=0->b≠a+1:=fun b _ hb e=>by
   rw[e,ap] at hb
   rcases hb with hb|hb
   ·unfold fe.has at hb;omega
   omega
  have aq:Ext w c c1:=((Col.Qg c w _).trans U.2 (x.size)).trans P.2 (Nat.le_trans x.size A.size)
  refine⟨_,b0,B0,c1,rfl,⟨R,y,T,z,by rw[af.out],?_,?_⟩,HW.Qd u fun b hb _=>by show b≠a+1;have:=N.out;omega,?_,aq,?_⟩
  ·exact⟨((f.1.1.new l.out).keep u fun b _ hb=>by show b≠a+1;omega).imp fun b _ hb=>by have:=N.out;omega,f.1.2⟩
  ·rw[<- af.out]
   exact⟨((f.2.1.new l.out).keep u fun b _ hb=>by show b≠a+1;omega).imp fun b _ hb=>by have:=N.out;omega,f.2.2⟩
  ·have:=U.1
   have:=N.out
   omega
  exact(ay.new l.out).keep u (Ext.refl _ _) hF
 have HN:=zh<|ad.out _ (.inr ⟨zo,rfl⟩)
 clear ad ae
 go_wp2_with fail
 refine HN.mono ?_
 rintro e w6⟨rfl,K⟩
 have l:=zh K
 have d:=zh<|K.Qa Q.out zt
 replace n:=zh<|K.Qa n.out zt
 replace H:=zh<|K.Qa H.out zt
 clear K HN a0 a1 a2 a3 a4 y0 y1 y2 y3 y4
 obtain⟨a0,a1,a2,a3,a4⟩:=cs5 n.out
 obtain⟨y0,y1,y2,y3,y4⟩:=cs5 H.out
 have aj:=a_ d.out (k:=0) rfl
 have ak:=a_ d.out (k:=1) rfl
 have al:=a_ d.out (k:=2) rfl
 have am:=a_ d.out (k:=3) rfl
 have an:=a_ d.out (k:=4) rfl
 obtain⟨z0,z1,z2,z3,z4⟩:=fz5 d.out
 go_wp2_with fail
 clear aj ak al am an z0 z1 z2 z3 z4 a0 a1 a2 a3 a4 y0 y1 y2 y3 y4
 obtain⟨L,u⟩:=nY d.out (.int .u64 m.gen) (.int .u64 m.seq) (.int .i64 m.segs) (.slice Y 32 B) (.slice Z G C)
 generalize aE:World.setCell _ _ _=M at *
 have f0:M.cell? ⟨a+1,0,none⟩=some (.int .u64 m.gen):=a_ L rfl
 have f1:M.cell? ⟨a+1,1,none⟩=some (.int .u64 m.seq):=a_ L rfl
 have f2:M.cell? ⟨a+1,2,none⟩=some (.int .i64 m.segs):=a_ L rfl
 have f3:M.cell? ⟨a+1,3,none⟩=some (.slice Y 32 B):=a_ L rfl
 have f4:M.cell? ⟨a+1,4,none⟩=some (.slice Z G C):=a_ L rfl
 refine Zb (.tuple #[.agg #[.int .u64 m.gen,.int .u64 m.seq,.int .i64 m.segs,.slice Y 32 B,.slice Z G C],.pointer (some ⟨b1,0,none⟩),.bool true]) (by simp[results,results39,go_sem,f0,f1,f2,f3,f4]) ?_
 have HW:=(x.new A.out).new (D.new l.out)
 have aF:=l.size
 have aG:=D.size
 have aH:=J.size
 have aI:=X.size
 have aJ:=A.size
 have ao:c0 (a+1)=I.t+I.s+I.o+1:=(U.2 (a+1) zo).trans (Col.Qf _ _ (by have:=N.out;omega))
 have ap:c1 (a+1)=I.t+I.s+I.o+1:=(P.2 (a+1) (by have:=aw.out;omega)).trans ao
 have hF:∀b,b<w6.heap.size->I.has (c1 b)\/c1 b=0->b≠a+1:=fun b _ hb e=>by
  rw[e,ap] at hb
  rcases hb with hb|hb
  ·unfold fe.has at hb;omega
  omega
 have aq:Ext w c c1:=((Col.Qg c w _).trans U.2 (x.size)).trans P.2 (Nat.le_trans x.size A.size)
 refine⟨_,b1,B1,c1,rfl,⟨Y,B,Z,C,by rw[ah.out],?_,?_⟩,HW.Qd u fun b hb _=>by show b≠a+1;have:=N.out;omega,?_,aq,?_⟩
 ·exact⟨((j.1.1.new l.out).keep u fun b _ hb=>by show b≠a+1;omega).imp fun b _ hb=>by have:=N.out;omega,j.1.2⟩
 ·rw[<- ah.out]
  exact⟨((j.2.1.new l.out).keep u fun b _ hb=>by show b≠a+1;omega).imp fun b _ hb=>by have:=N.out;omega,j.2.2⟩
 ·have:=P.1
  have:=N.out
  omega
 exact(ac.new l.out).keep u (Ext.refl _ _) hF
def oG(S:List UInt8)(p i:Nat):Prop:=(ev (eJ S p i)).2.2=0/\(ev (eJ S p i)).1.index=(i:Int)
theorem yz{fr:Nat}(h:iK w q S)(hk:S.length=k*128)(hp:fg k p g=true)(_hf:fr<=1000){b:Bool}(hb:b=true↔∃i,fr<=i/\i<g/\oG S p i):
  Calls prog 41 #[.pointer (some ⟨q.bd,0,none⟩),.agg #[.int .i64 k,.int .i64 p,.int .i64 g],.int .i64 fr] w fun e w'=>e=.returned (.bool b)/\New w w':=by
 have L:=fX hp
 have M:=fun W (hW:New w W) (i:Nat) (hi:i<g)=>zh (vp (h.new hW) hk hp hi)
 have N:=zh hb
 have hg:g<=512:=by omega
 clear h hk hp L hb
 have O:=(zN w).alloc (.cells #[.int .i64 k,.int .i64 p,.int .i64 g] 35)
 have P:=heap_alloc_new w (.cells #[.int .i64 k,.int .i64 p,.int .i64 g] 35)
 go_in
 go_upto_region 1 with fail
 generalize w.alloc (.cells #[.int .i64 k,.int .i64 p,.int .i64 g] 35)=w1 at *
 generalize hgp:w.heap.size=gp at *
 have HX:=zh P
 have z:=zh O
 clear P O hgp
 go_wp2_with fail
 go_loopw [7] (fun H wx=>∃j:Nat,H=.int .i64 (j:Int)/\fr<=j/\(j<=g\/j=fr)/\(∀i,fr<=i->i<j->¬oG S p i)/\New w1 wx) (fun H _=>g-(intOf H).toNat)
 case atStart=>exact⟨fr,rfl,zr,.inr rfl,fun i h1 h2=>by omega,zN _⟩
 obtain⟨j,rfl,Q,ad,F,I⟩:=hrel
 have A:=zh F
 have J:=zh I
 have R:=zh<|I.Qa HX.out zt
 clear F I
 obtain⟨p0,p1,p2⟩:=cs3 R.out
 by_cases hlt:j<g
 ·have T:(j:Int)<g:=by omega
  have ae:IntKind.i64.wrap ((j:Int)+1)=(j:Int)+1:=IntWalk.i64_in _ zo
  have U:=M wr (z.new J.out) j hlt
  go_wp2_with fail
  refine U.mono ?_
  rintro e w2⟨⟨A2,c2,rfl,E⟩,V⟩
  obtain⟨d,hd⟩:=zx (ev (eJ S p j))
  have K:=zh<|tB _ A2 1024 c2 _ w2 (Row.Qc E) (ew E) (eh E)
  rw[<- hd] at K
  have X:=zh hd
  have Y:=zh<|J.new V
  clear hd V E U p0 p1 p2
  go_wp2_with fail
  refine K.mono ?_
  rintro e c⟨⟨f,l,m,n,A5,c5,rfl,-,-,-,-,-⟩,Z⟩
  have x:=zh<|Y.new Z
  have B:Hid (oG S p j↔(d.2.2=0/\d.1.index=(j:Int))):=zh (by unfold oG;rw[<- X.out])
  obtain⟨hd,rs,G⟩:=d
  obtain⟨v,o,r,a,pv,s⟩:=hd
  dsimp only at *
  clear Z K X
  have af:=x.size
  by_cases hw:G=0
  ·subst hw
   by_cases y:v=(j:Int)
   ·subst y
    have aa:Hid (b=true):=zh (N.2 ⟨j,Q,hlt,B.2 ⟨rfl,rfl⟩⟩)
    go_upto_region 5 with fail
    have t:=(zN c).alloc (.cells #[.int .i64 (j:Int),.int .u64 o,.int .i64 r,.int .i64 a,.slice f pv.length l,.slice m s.length n] 94)
    have xB:=a_ (heap_alloc_new c (.cells #[.int .i64 (j:Int),.int .u64 o,.int .i64 r,.int .i64 a,.slice f pv.length l,.slice m s.length n] 94)) (k:=0) rfl
    generalize c.alloc (.cells #[.int .i64 (j:Int),.int .u64 o,.int .i64 r,.int .i64 a,.slice f pv.length l,.slice m s.length n] 94)=w4 at *
    have u:=zh t
    clear t
    go_wp2
    go_ret
    exact⟨by rw[aa.out];rfl,z.new (x.new u.out)⟩
   have ab:(v==(j:Int))=false:=by simpa using y
   have C:Hid (∀i,fr<=i->i<j+1->¬oG S p i):=zh fun i h1 h2 D=>by
    by_cases e:i=j
    ·subst e;exact y (B.1 D).2
    exact A.out i h1 zo D
   go_upto_region 5 with fail
   have t:=(zN c).alloc (.cells #[.int .i64 v,.int .u64 o,.int .i64 r,.int .i64 a,.slice f pv.length l,.slice m s.length n] 94)
   have xB:=a_ (heap_alloc_new c (.cells #[.int .i64 v,.int .u64 o,.int .i64 r,.int .i64 a,.slice f pv.length l,.slice m s.length n] 94)) (k:=0) rfl
   generalize c.alloc (.cells #[.int .i64 v,.int .u64 o,.int .i64 r,.int .i64 a,.slice f pv.length l,.slice m s.length n] 94)=w4 at *
   have u:=zh t
   clear t y
   go_wp2
   go_roundw
   case rel=>exact⟨j+1,by go_num,zo,.inl zo,C.out,x.new u.out⟩
   simp[intOf];omega
  have ab:(G==0)=false:=by simpa using hw
  have C:Hid (∀i,fr<=i->i<j+1->¬oG S p i):=zh fun i h1 h2 D=>by
   by_cases e:i=j
   ·subst e;exact hw (B.1 D).1
   exact A.out i h1 zo D
  go_upto_region 5 with fail
  have t:=(zN c).alloc (.cells #[.int .i64 v,.int .u64 o,.int .i64 r,.int .i64 a,.slice f pv.length l,.slice m s.length n] 94)
  generalize c.alloc (.cells #[.int .i64 v,.int .u64 o,.int .i64 r,.int .i64 a,.slice f pv.length l,.slice m s.length n] 94)=w4 at *
  have u:=zh t
  clear t hw
  go_wp2
  go_roundw
  case rel=>exact⟨j+1,by go_num,zo,.inl zo,C.out,x.new u.out⟩
  simp[intOf];omega
 have T:¬(j:Int)<g:=by omega
 have ac:Hid (b=false):=zh (by
  cases e:b with
  | false=>rfl
  | true =>
   obtain⟨i,h1,h2,h3⟩:=N.1 e
   exact absurd h3 (A.out i h1 zo))
 go_wp2
 go_ret
 exact⟨by rw[ac.out];rfl,z.new J.out⟩
section
variable {P:Program}(w:World)
theorem rn(base:Nat)(t ty e:TypeId)(i:TypeInfo)(z:Value)(size bytes:Nat)(ht:P.underlying t=some (.slice e))(hi:P.info? e=some i)(hz:i.zero=some z)(hsize:i.size=size)(hby:i.bytes=bytes)(hzs:z.cells.size=size)(hsz:0<size)(g:Nat)(hown:Own w base e size (some ⟨g,0,none⟩) 0 0 [])(D:Nat->Prop)(A2:Option Addr)(m c2:Nat)(news:List Value)(hr:Row w D A2 m size news)(h1:∀u∈news,u.oneCell'=true)(h63:m<=maxLen)(hbytes:m*bytes<=140737488355328)(hbase:base<=w.heap.size):
  ∃A' c' w',(Builtin.append_ #[t,t] ty #[.slice (some ⟨g,0,none⟩) 0 0,.slice A2 m c2]).run P w=.ok (.slice A' m c') w'/\Own w' base e size A' m c' news/\New w w':=by
 obtain⟨A',c',w',a,c,hg,hb⟩:=jH w base t ty e i z size bytes ht hi hz hsize hby hzs hsz (some ⟨g,0,none⟩) 0 0 [] hown D A2 m c2 news hr h1 zo (by rw[Nat.zero_add];exact hbytes) hbase
 rw[Nat.zero_add] at a c
 rw[List.nil_append] at c
 refine⟨A',c',w',a,c,?_⟩
 rcases Nat.eq_zero_or_pos m with h0|h0
 ·subst h0
  have hn:news=[]:=List.eq_nil_of_length_eq_zero (by simpa using hr.1)
  have h2:(Builtin.append_ #[t,t] ty #[.slice (some ⟨g,0,none⟩) 0 0,.slice A2 0 c2]).run P w=.ok (.slice (some ⟨g,0,none⟩) 0 0) w:=by
   cases A2 <;> simp[Builtin.append_,run_underlying ht,sizeOf,typeInfo,hi,Builtin.lenOf,Builtin.firstCells,loadCells,loadCellsFrom,storeCells]
  rw[h2] at a
  injection a with _ hw
  rw[<- hw]
  exact zN w
 obtain⟨b,off,hA,_,_,hc⟩:=hr.2 h0
 subst hA
 subst hsize
 subst hby
 have d:=run_append_grow (P:=P) w t ty e i z ht hi hz ⟨g,0,none⟩ 0 0 [] (by simp) (by intro j v hj;simp at hj) ⟨b,off,none⟩ m c2 news hr.1 (fun j u f=>by rw[Addr.add_lit];exact hc j u f) zo (by simp only[maxLen] at h63;omega) (growslice_fits zo (by rw[Nat.zero_add];exact hbytes))
 rw[d] at a
 injection a with _ hw
 rw[<- hw]
 exact((zN w).drew).alloc _
theorem kp{o:Oper}{a:Act}{K:Act->World->Prop}{Q:Exit->Act->World->Prop}(s x:Operand)(t:TypeId)(ho:o.op=.call { callee:=.builtin .append,args:=#[s,x],argTypes:=#[t,t] })(base:Nat)(e:TypeId)(i:TypeInfo)(z:Value)(size bytes:Nat)(ht:P.underlying t=some (.slice e))(hi:P.info? e=some i)(hz:i.zero=some z)(hsize:i.size=size)(hby:i.bytes=bytes)(hzs:z.cells.size=size)(hsz:0<size)(g:Nat)(hs:a.eval s=.slice (some ⟨g,0,none⟩) 0 0)(hown:Own w base e size (some ⟨g,0,none⟩) 0 0 [])(D:Nat->Prop)(A2:Option Addr)(m c2:Nat)(news:List Value)(hx:a.eval x=.slice A2 m c2)(hr:Row w D A2 m size news)(h1:∀u∈news,u.oneCell'=true)(h63:m<=maxLen)(hbytes:m*bytes<=140737488355328)(hbase:base<=w.heap.size)(h:∀A' c' w',Own w' base e size A' m c' news->New w w'->K (a.put o.dst (.slice A' m c')) w'):o.wp P a w K Q:=by
 obtain⟨A',c',w',b,h2,h3⟩:=rn (P:=P) w base t o.type e i z size bytes ht hi hz hsize hby hzs hsz g hown D A2 m c2 news hr h1 h63 hbytes hbase
 unfold Oper.wp execOp
 simp only[ho,resolve,invoke,builtin,Sem.run_bind,Sem.run_pure,Result.andThen_ok,List.map_toArray,List.map_cons,List.map_nil,hs,hx,b]
 exact h A' c' w' h2 h3
end
abbrev B6:=Bool×Bool×Bool×Bool×Bool×Bool
def wM(m:B6):Array Bool:=#[m.1,true,true,true,true,m.2.1,m.2.2.1,true,true,true,true,m.2.2.2.1,m.2.2.2.2.1,true,true,true,true,m.2.2.2.2.2,false,false,false]
def nxC(m:B6)(i:Nat):B6:=if i=0 then(true,m.2) else if i=5 then(m.1,true,m.2.2) else if i=6 then(m.1,m.2.1,true,m.2.2.2) else if i=11 then(m.1,m.2.1,m.2.2.1,true,m.2.2.2.2) else if i=12 then(m.1,m.2.1,m.2.2.1,m.2.2.2.1,true,m.2.2.2.2.2) else(m.1,m.2.1,m.2.2.1,m.2.2.2.1,m.2.2.2.2.1,true)
def nu(m:B6):Nat:=cond m.1 0 1+cond m.2.1 0 1+cond m.2.2.1 0 1+cond m.2.2.2.1 0 1+cond m.2.2.2.2.1 0 1+cond m.2.2.2.2.2 0 1
def okC(m:B6):Bool:=(m.1 || !m.2.1)&&(m.2.2.1 || !m.2.2.2.1)&&(m.2.2.2.2.1 || !m.2.2.2.2.2)
def yV(m:B6)(i:Nat):Bool:=(i==0 && !m.1)||(i==5&&m.1 && !m.2.1)||(i==6 && !m.2.2.1)||(i==11&&m.2.2.1 && !m.2.2.2.1)||(i==12 && !m.2.2.2.2.1)||(i==17&&m.2.2.2.2.1 && !m.2.2.2.2.2)
def vW:List Bool:=[false,true]
def Jb:List B6:=vW.flatMap fun a=>vW.flatMap fun b=>vW.flatMap fun c=>vW.flatMap fun d=>vW.flatMap fun e=>vW.map fun f=>(a,b,c,d,e,f)
theorem Fp(m:B6):m∈Jb:=by
 obtain⟨a,b,c,d,e,f⟩:=m
 cases a <;> cases b <;> cases c <;> cases d <;> cases e <;> cases f <;> decide
def I5(md:Region.Mode)(ops:Array Oper)(m:B6):Bool := !okC m||nu m==0||(!(Region.ready md ops (wM m)).isEmpty&&(Region.ready md ops (wM m)).all fun i=>yV m i&&okC (nxC m i)&&nu (nxC m i)+1==nu m&&(wM m).setIfInBounds i true==wM (nxC m i))
def JG(md:Region.Mode)(ops:Array Oper):Bool:=Jb.all (I5 md ops)
theorem G9{md:Region.Mode}{ops:Array Oper}(hc:JG md ops=true)(m:B6)(hok:okC m=true)(hl:0<nu m):
  Region.ready md ops (wM m)≠[]/\∀i∈Region.ready md ops (wM m),yV m i=true/\okC (nxC m i)=true/\nu (nxC m i)+1=nu m/\(wM m).setIfInBounds i true=wM (nxC m i):=by
 have h:=List.all_eq_true.1 hc m (Fp m)
 unfold I5 at h
 rw[hok] at h
 simp only[Bool.not_true,Bool.false_or,Bool.or_eq_true,beq_iff_eq,Bool.and_eq_true,Bool.not_eq_true',List.all_eq_true] at h
 rcases h with h|⟨h1,h2⟩
 ·omega
 refine⟨fun e=>(by rw[e] at h1;cases h1),fun i hi=>?_⟩
 obtain⟨⟨⟨a,b⟩,c⟩,d⟩:=h2 i hi
 exact⟨a,b,c,d⟩
theorem Im{m:B6}(h:yV m i=true):(i=0/\m.1=false)\/(i=5/\m.1=true/\m.2.1=false)\/(i=6/\m.2.2.1=false)\/(i=11/\m.2.2.1=true/\m.2.2.2.1=false)\/(i=12/\m.2.2.2.2.1=false)\/(i=17/\m.2.2.2.2.1=true/\m.2.2.2.2.2=false):=by
 unfold yV at h
 simp only[Bool.or_eq_true,Bool.and_eq_true,beq_iff_eq,Bool.not_eq_true'] at h
 rcases h with((((h|h)|h)|h)|h)|h
 ·exact .inl h
 ·exact .inr (.inl ⟨h.1.1,h.1.2,h.2⟩)
 ·exact .inr (.inr (.inl h))
 ·exact .inr (.inr (.inr (.inl ⟨h.1.1,h.1.2,h.2⟩)))
 ·exact .inr (.inr (.inr (.inr (.inl h))))
 exact .inr (.inr (.inr (.inr (.inr ⟨h.1.1,h.1.2,h.2⟩))))
structure eM where
 nodes:List (Int×i')
 data:List (List UInt8)
 e:List (Int×List UInt8×Int)
def fo(p:Int×i'):List Value:=[.int .i64 p.1,.int .i64 p.2.kind,.int .i64 p.2.links,.int .i64 p.2.size,.int .u64 p.2.till,.bool p.2.shut]
def ic(p:Int×List UInt8×Int):List Value:=[.int .i64 p.1,.string (dR p.2.1),.int .i64 p.2.2]
def ey(w:World)(c:Col)(i:Nat)(bt:Nat)(R:eM):Prop :=
 c bt=i/\∃A ca B cb E ce,w.heap[bt]?=some (.cells #[.slice A R.nodes.length ca,.slice B R.data.length cb,.slice E R.e.length ce] 160 (0,0)) /\
  (R.nodes.length<=ca/\ca<=9223372036854775807)/\(R.data.length<=cb/\cb<=9223372036854775807)/\(R.e.length<=ce/\ce<=9223372036854775807) /\
  Row w (fun b=>c b=0) A R.nodes.length 6 (R.nodes.map fo).flatten/\Bss w (fun b=>c b=0) B R.data.length R.data/\Row w (fun b=>c b=0) E R.e.length 3 (R.e.map ic).flatten
structure uE where
 id:Int
 hash:List UInt8
 T:eM
structure lw where
 list:List uE
 next:Int
 last:List UInt8
def Is(w:World)(c:Col)(vs:List Value)(k:Nat)(s:uE):Prop :=
 ∃A ca bt,vs[k]?=some (.int .i64 s.id)/\vs[k+1]?=some (.slice A s.hash.length ca)/\vs[k+2]?=some (.pointer (some ⟨bt,0,none⟩))/\(s.hash.length<=ca/\ca<=9223372036854775807)/\Bs w (fun b=>c b=0) A s.hash.length s.hash/\ey w c 0 bt s.T
def iJ(w:World)(c:Col)(i:Nat)(bs:Nat)(ns:lw):Prop :=
 c bs=i/\∃L cl A ca vs,w.heap[bs]?=some (.cells #[.int .i64 ns.next,.slice L ns.last.length cl,.slice A ns.list.length ca] 164 (0,0)) /\
  (ns.last.length<=cl/\cl<=9223372036854775807)/\(ns.list.length<=ca/\ca<=9223372036854775807)/\Bs w (fun b=>c b=0) L ns.last.length ns.last/\Row w (fun b=>c b=0) A ns.list.length 3 vs/\∀k (h:k<ns.list.length),Is w c vs (k*3) ns.list[k]
structure zR where
 how:Int
 id:Int
 data:List UInt8
structure gw where
 T:eM
 S:lw
 clock:Int
 fd:Nat->zR
def tt(f:zR)(A:Option Addr)(ca:Nat):List Value:=[.int .i64 f.how,.int .i64 f.id,.slice A f.data.length ca]
def gu(bt bs:Nat)(s:gw)(A:Nat->Option Addr)(ca:Nat->Nat):Array Value :=
 (([Value.pointer (some ⟨bt,0,none⟩),Value.pointer (some ⟨bs,0,none⟩),Value.int .u64 s.clock]:List Value)++([0,1,2,3,4,5,6,7].map fun k=>tt (s.fd k) (A k) (ca k)).flatten).toArray
def eR(w:World)(c:Col)(i:fe)(b:Nat)(s:gw):Prop :=
 c b=i.o/\i.Ok/\∃bt bs A ca,w.heap[b]?=some (.cells (gu bt bs s A ca) 80 (0,0))/\ey w c i.t bt s.T/\iJ w c i.s bs s.S /\
  ∀k,k<8->((s.fd k).data.length<=ca k/\ca k<=9223372036854775807)/\Bs w (fun b=>c b=0) (A k) (s.fd k).data.length (s.fd k).data
section
variable {w w':World}{c c':Col}{i bt bs b:Nat}{R:eM}{ns:lw}{s:gw}{F:Nat->Prop}{I:fe}
theorem lL(h:Row w (fun b=>c b=0) A n m vs)(hk:b_ F w w')(hx:Ext w c c')(h0:∀b,b<w.heap.size->c b=0->F b):Row w' (fun b=>c' b=0) A n m vs :=
 (((h.imp (E:=fun b=>c b=0/\c' b=0) fun b hb hd=>⟨hd,(hx b hb).trans hd⟩).keep hk (fun b hb hd=>h0 b hb hd.1)).imp fun _b _ hd=>hd.2)
theorem ra{l:List (List UInt8)}(h:Bss w (fun b=>c b=0) A n l)(hk:b_ F w w')(hx:Ext w c c')(h0:∀b,b<w.heap.size->c b=0->F b):Bss w' (fun b=>c' b=0) A n l :=
 (((h.imp (E:=fun b=>c b=0/\c' b=0) fun b hb hd=>⟨hd,(hx b hb).trans hd⟩).keep hk (fun b hb hd=>h0 b hb hd.1)).imp fun _b _ hd=>hd.2)
theorem ey.lt(h:ey w c i bt R):bt<w.heap.size:=by obtain⟨_,_,_,_,_,_,_,h,_⟩:=h;exact(Zl h)
theorem ey.keep(h:ey w c i bt R)(hk:b_ F w w')(hx:Ext w c c')(hb:F bt)(h0:∀b,b<w.heap.size->c b=0->F b):ey w' c' i bt R:=by
 have hl:=h.lt
 obtain⟨hc,A,ca,B,a,E,d,h1,h2,h3,e,h5,h6,h7⟩:=h
 exact⟨(hx _ hl).trans hc,A,ca,B,a,E,d,(hk.block bt hl hb).trans h1,h2,h3,e,lL h5 hk hx h0,ra h6 hk hx h0,lL h7 hk hx h0⟩
theorem ey.new(h:ey w c i bt R)(hk:New w w'):ey w' c i bt R:=h.keep hk (Ext.refl _ _) trivial fun _ _ _=>trivial
theorem iJ.lt(h:iJ w c i bs ns):bs<w.heap.size:=by obtain⟨_,_,_,_,_,_,h,_⟩:=h;exact(Zl h)
theorem iJ.keep(h:iJ w c i bs ns)(hk:b_ F w w')(hx:Ext w c c')(hb:F bs)(h0:∀b,b<w.heap.size->c b=0->F b):iJ w' c' i bs ns:=by
 have hl:=h.lt
 obtain⟨hc,L,e,A,ca,f,h1,h2,h3,g,h5,h6⟩:=h
 refine⟨(hx _ hl).trans hc,L,e,A,ca,f,(hk.block bs hl hb).trans h1,h2,h3,jR g hk hx h0,lL h5 hk hx h0,fun k d=>?_⟩
 obtain⟨A1,c1,j,g1,l,g3,g4,m,a⟩:=h6 k d
 exact⟨A1,c1,j,g1,l,g3,g4,jR m hk hx h0,a.keep hk hx (h0 _ a.lt a.1) h0⟩
theorem eR.lt(h:eR w c I b s):b<w.heap.size:=by obtain⟨_,_,_,_,_,_,h,_⟩:=h;exact(Zl h)
theorem eR.keep(h:eR w c I b s)(hk:b_ F w w')(hx:Ext w c c')(hF:∀b,b<w.heap.size->I.has (c b)\/c b=0->F b):eR w' c' I b s:=by
 have hl:=h.lt
 obtain⟨hc,e,f,bs,A,ca,h1,h2,h3,d⟩:=h
 exact⟨(hx _ hl).trans hc,e,f,bs,A,ca,(hk.block b hl (hF _ hl (.inl (.inr (.inr hc))))).trans h1,h2.keep hk hx (hF _ h2.lt (.inl (.inl h2.1))) fun b hb h0=>hF b hb (.inr h0),h3.keep hk hx (hF _ h3.lt (.inl (.inr (.inl h3.1)))) fun b hb h0=>hF b hb (.inr h0),fun k a=>⟨(d k a).1,jR (d k a).2 hk hx fun b hb h0=>hF b hb (.inr h0)⟩⟩
theorem eR.new(h:eR w c I b s)(hk:New w w'):eR w' c I b s:=h.keep hk (Ext.refl _ _) fun _ _ _=>trivial
end
def ke:eM:=⟨[(0,⟨2,1,0,0,true⟩)],[[]],[]⟩
def jf:gw:=⟨ke,⟨[],1,[]⟩,0,fun _=>⟨0,0,[]⟩⟩
def rf(w:World)(c:Col)(i:Nat)(R:eM)(e:Ending)(w':World):Prop:=∃(bt:Nat) (c':Col),e=.returned (.pointer (some ⟨bt,0,none⟩))/\New w w'/\w.heap.size<=bt/\Ext w c c'/\ey w' c' i bt R
def we(w:World)(c:Col)(i:Nat)(ns:lw)(e:Ending)(w':World):Prop:=∃(bs:Nat) (c':Col),e=.returned (.pointer (some ⟨bs,0,none⟩))/\New w w'/\w.heap.size<=bs/\Ext w c c'/\iJ w' c' i bs ns
theorem Dn(c:Col)(i:Nat)(w:World):Calls prog 80 #[] w (rf w c i ke):=by
 have n:=(zN w).alloc (.cells #[.int .i64 0,.int .i64 2,.int .i64 1,.int .i64 0,.int .u64 0,.bool true] 53)
 have o:=Row.made w 53 #[.int .i64 0,.int .i64 2,.int .i64 1,.int .i64 0,.int .u64 0,.bool true] 1 6 rfl
 have f:(w.alloc (.cells #[.int .i64 0,.int .i64 2,.int .i64 1,.int .i64 0,.int .u64 0,.bool true] 53)).heap.size=w.heap.size+1:=by simp
 go_in
 go_wp2
 go_ret
 generalize w.alloc (.cells #[.int .i64 0,.int .i64 2,.int .i64 1,.int .i64 0,.int .u64 0,.bool true] 53)=a at *
 have g:=(zN a).alloc (.cells #[.slice none 0 0] 22)
 have h:=Row.made a 22 #[.slice none 0 0] 1 1 rfl
 have p:(a.alloc (.cells #[.slice none 0 0] 22)).heap.size=w.heap.size+1+1:=by simp[f]
 rw[f] at h
 generalize a.alloc (.cells #[.slice none 0 0] 22)=j at *
 have e:=(zN j).alloc (.cells #[.slice (some ⟨w.heap.size,0,none⟩) 1 1,.slice (some ⟨w.heap.size+1,0,none⟩) 1 1,.slice none 0 0] 160)
 have l:=heap_alloc_new j (.cells #[.slice (some ⟨w.heap.size,0,none⟩) 1 1,.slice (some ⟨w.heap.size+1,0,none⟩) 1 1,.slice none 0 0] 160)
 have m:=(o.new g)
 have e1:=c.Qg w fun b=>if b=w.heap.size+1+1 then i else 0
 have d:∀b,w.heap.size<=b->b≠w.heap.size+1+1->c.on w.heap.size (fun b=>if b=w.heap.size+1+1 then i else 0) b=0:=fun b hb hn=>by rw[c.Qf _ hb,if_neg hn]
 rw[p] at l
 refine⟨w.heap.size+1+1,c.on w.heap.size fun b=>if b=w.heap.size+1+1 then i else 0,rfl,(n.new g).new e,zo,e1,by rw[c.Qf _ zo,if_pos rfl],some ⟨w.heap.size,0,none⟩,1,some ⟨w.heap.size+1,0,none⟩,1,none,0,l,Zd,Zd,Zd,?_,?_,Row.nil _ _ _ _⟩
 ·exact Row.new (m.imp fun b hb hd=>d b hd zo) e
 refine Bss.new ⟨[.slice none 0 0],h.imp fun b hb hd=>d b zo zo,rfl,fun k hk=>?_⟩ e
 match k,hk with
 | 0,_=>exact⟨none,0,rfl,zr,Row.nil _ _ _ _⟩
theorem Dp(c:Col)(i:Nat)(w:World):Calls prog 81 #[] w (we w c i ⟨[],1,[]⟩):=by
 go_in
 go_wp2
 go_ret
 exact⟨w.heap.size,c.on w.heap.size fun _=>i,rfl,(zN w).alloc _,zr,c.Qg w _,c.Qf _ zr,none,0,none,0,[],heap_alloc_new w _,Zd,Zd,Row.nil _ _ _ _,Row.nil _ _ _ _,fun k hk=>absurd hk (Nat.not_lt_zero k)⟩
def pu(w:World)(c:Col)(i:fe)(s:gw)(e:Ending)(w':World):Prop:=∃(b:Nat) (c':Col),e=.returned (.pointer (some ⟨b,0,none⟩))/\New w w'/\w.heap.size<=b/\Ext w c c'/\eR w' c' i b s
theorem tq(c:Col)(i:fe)(hi:i.Ok)(w:World):Calls prog 20 #[] w (pu w c i jf):=by
 have q:=zh<|Dn c i.t w
 go_in
 go_wp2_with fail
 refine q.mono ?_
 rintro e r⟨l,c1,rfl,a,m,g,h⟩
 have u:=J4 a m g h
 clear a m g h q
 go_wp2_with fail
 refine(Dp c1 i.s r).mono ?_
 rintro e d⟨bs,c2,rfl,b,n,f,j⟩
 have v:=J4 b n f j
 clear b n f j
 go_wp2
 go_ret
 obtain⟨a,m,g,h⟩:=u.out
 obtain⟨b,n,f,j⟩:=v.out
 have p:=(zN d).alloc (.cells (gu l bs jf (fun _=>none) fun _=>0) 80)
 have x:=heap_alloc_new d (.cells (gu l bs jf (fun _=>none) fun _=>0) 80)
 have e3:=c2.Qg d fun _=>i.o
 exact⟨d.heap.size,c2.on d.heap.size fun _=>i.o,rfl,(a.new b).new p,Nat.le_trans a.size b.size,(g.trans f a.size).trans e3 (Nat.le_trans a.size b.size),c2.Qf _ zr,hi,l,bs,fun _=>none,fun _=>0,x,((h.keep b f trivial fun _ _ _=>zt).keep p e3 trivial fun _ _ _=>zt),j.keep p e3 trivial fun _ _ _=>zt,fun k hk=>⟨⟨zr,Nat.zero_le _⟩,Row.nil _ _ _ _⟩⟩
theorem fY{P:Program}{bytes:Nat}(h:(P.info? e).map (fun i=>(i.zero.map fun z=>z.cells.size,i.size,i.bytes))=some (some size,size,bytes)):∃i z,P.info? e=some i/\i.zero=some z/\i.size=size/\i.bytes=bytes/\z.cells.size=size:=by
 cases hi:P.info? e with
 | none=>rw[hi] at h;cases h
 | some i =>
  rw[hi] at h
  simp only[Option.map_some,Option.some.injEq,Prod.mk.injEq] at h
  obtain⟨h1,h2,h3⟩:=h
  cases hz:i.zero with
  | none=>rw[hz] at h1;cases h1
  | some z=>rw[hz] at h1;exact⟨i,z,rfl,hz,h2,h3,by simpa using h1⟩
theorem i7:(prog.info? 53).map (fun i=>(i.zero.map fun z=>z.cells.size,i.size,i.bytes))=some (some 6,6,48):=zk
theorem jY:(prog.info? 22).map (fun i=>(i.zero.map fun z=>z.cells.size,i.size,i.bytes))=some (some 1,1,24):=zk
theorem kR:(prog.info? 247).map (fun i=>(i.zero.map fun z=>z.cells.size,i.size,i.bytes))=some (some 3,3,32):=zk
def Cc(W:World)(base:Nat)(e:TypeId)(size:Nat)(v:Value):Prop:=∃g,v=.slice (some ⟨g,0,none⟩) 0 0/\Own W base e size (some ⟨g,0,none⟩) 0 0 []
def EC(W:World)(base:Nat)(e:TypeId)(size n:Nat)(vs:List Value)(v:Value):Prop:=∃A c,v=.slice A n c/\Own W base e size A n c vs
theorem Cc.new(h:Cc W base e size v)(k:New W W'):Cc W' base e size v:=by obtain⟨g,a,b⟩:=h;exact⟨g,a,Own.Qh b k⟩
theorem EC.new(h:EC W base e size n vs v)(k:New W W'):EC W' base e size n vs v:=by obtain⟨A,c,a,b⟩:=h;exact⟨A,c,a,Own.Qh b k⟩
theorem oO(W:World)(hb:base<=W.heap.size)(e:TypeId)(_hs:0<size):Cc (W.alloc (.cells #[] e)) base e size (.slice (some ⟨W.heap.size,0,none⟩) 0 0) :=
 ⟨W.heap.size,rfl,eQ (World.ownsRow_made W #[] 0 zr (by simp[maxLen]) (by simp)) hb⟩
structure m8 (R:eM):Prop where
 nodes:R.nodes.length<=1000000
 data:R.data.length<=1000000
 e:R.e.length<=1000000
theorem nj(l:List (Int×i')):∀u∈(l.map fo).flatten,u.oneCell'=true:=by
 intro u b
 obtain⟨x,c,a⟩:=List.mem_flatten.1 b
 obtain⟨p,_,rfl⟩:=List.mem_map.1 c
 simp only[fo,List.mem_cons,List.not_mem_nil,or_false] at a
 rcases a with rfl|rfl|rfl|rfl|rfl|rfl <;> rfl
theorem qH(l:List (Int×List UInt8×Int)):∀u∈(l.map ic).flatten,u.oneCell'=true:=by
 intro u b
 obtain⟨x,c,a⟩:=List.mem_flatten.1 b
 obtain⟨p,_,rfl⟩:=List.mem_map.1 c
 simp only[ic,List.mem_cons,List.not_mem_nil,or_false] at a
 rcases a with rfl|rfl|rfl <;> rfl
theorem pX{R:eM}(h:ey w c i bt R)(hF:m8 R)(j:Nat):Calls prog 82 #[.pointer (some ⟨bt,0,none⟩)] w (rf w c j R):=by
 have hlt:=h.lt
 obtain⟨-,A,ca,B,cb,E,ce,h1,ad,ae,af,hN,⟨vs,hV,am,M⟩,hE⟩:=h
 have N:∀u∈vs,u.oneCell'=true:=by
  intro u hu
  obtain⟨k,hk,rfl⟩:=List.getElem_of_mem hu
  have hl:vs.length=R.data.length:=by have:=hV.1;omega
  obtain⟨x,y,e,_⟩:=M k zo
  rw[List.getElem?_eq_getElem hk] at e
  injection e with e
  rw[e];rfl
 have HR:=J3 hN hV hE
 have r0:∀W,New w.drew W->W.cell? ⟨bt,0,none⟩=some (.slice A R.nodes.length ca):=fun W O=>O.Qb (a_ (w:=w.drew) h1 (k:=0) rfl) trivial
 have r1:∀W,New w.drew W->W.cell? ⟨bt,1,none⟩=some (.slice B R.data.length cb):=fun W O=>O.Qb (a_ (w:=w.drew) h1 (k:=1) rfl) trivial
 have r2:∀W,New w.drew W->W.cell? ⟨bt,2,none⟩=some (.slice E R.e.length ce):=fun W O=>O.Qb (a_ (w:=w.drew) h1 (k:=2) rfl) trivial
 have J:=zh hF
 have ag:=zh M
 clear hF hN hV hE M ad ae af
 go_in
 go_upto_region 1 with fail
 refine eu (New w.drew) zk ?_
 have o:New w.drew w.drew:=zN _
 refine c_ 1 o ?_
 refine c_ 2 o ?_
 refine c_ 3 o ?_
 refine c_ 4 o ?_
 refine c_ 7 o ?_
 refine c_ 8 o ?_
 refine c_ 9 o ?_
 refine c_ 10 o ?_
 refine c_ 13 o ?_
 refine c_ 14 o ?_
 refine c_ 15 o ?_
 refine c_ 16 o ?_
 refine tZ (F:=3) wM (fun m i=>yV m i=true) nxC nu (fun m=>okC m=true) (fun m a W=>∃v3 t v9 n p v20:Value,a=({ tmps:=#[.pointer (some ⟨bt,0,none⟩),undef,.pointer none,v3,.pointer (some ⟨bt,0,none⟩),.pointer (some ⟨bt,0,none⟩),.pointer (some ⟨bt,0,none⟩),.slice A R.nodes.length ca,t,v9,.pointer (some ⟨bt,0,none⟩),.pointer (some ⟨bt,0,none⟩),.pointer (some ⟨bt,1,none⟩),.slice B R.data.length cb,n,p,.pointer (some ⟨bt,0,none⟩),.pointer (some ⟨bt,0,none⟩),.pointer (some ⟨bt,2,none⟩),.slice E R.e.length ce,v20,undef,undef],defers:=[] }:Act)/\New w.drew W /\
   (m.1=true->Cc W w.heap.size 53 6 v3)/\(m.2.1=true->EC W w.heap.size 53 6 R.nodes.length (R.nodes.map fo).flatten t) /\
   (m.2.2.1=true->Cc W w.heap.size 22 1 v9)/\(m.2.2.2.1=true->EC W w.heap.size 22 1 R.data.length vs n) /\
   (m.2.2.2.2.1=true->Cc W w.heap.size 247 3 p)/\(m.2.2.2.2.2=true->EC W w.heap.size 247 3 R.e.length (R.e.map ic).flatten v20)) ?h0 (fun m hm hl=>G9 zk m hm hl) ?h2 6 (false,false,false,false,false,false) _ _ rfl rfl ⟨undef,undef,undef,undef,undef,undef,rfl,o,nofun,nofun,nofun,nofun,nofun,nofun⟩
 case h2 =>
  rintro⟨b0,b5,b6,P,Q,S⟩ i a l hg ⟨v3,t,v9,n,p,v20,rfl,f,C,f5,f6,f11,f12,f17⟩ K v
  have q:w.heap.size<=l.heap.size:=f.size
  rcases Im hg with⟨rfl,-⟩|⟨rfl,h5,-⟩|⟨rfl,-⟩|⟨rfl,ah,-⟩|⟨rfl,-⟩|⟨rfl,ai,-⟩
  ·refine kN (i:=0) rfl rfl ?_
   have d:=(zN l).alloc (.cells #[] 53)
   have hn:=oO l q 53 (size:=6) Zd
   go_simp
   go_wp2_with fail
   exact v.out _ _ (f.new d) ⟨_,t,v9,n,p,v20,rfl,f.new d,fun _=>hn,fun h=>(f5 h).new d,fun h=>(f6 h).new d,fun h=>(f11 h).new d,fun h=>(f12 h).new d,fun h=>(f17 h).new d⟩
  ·refine kN (i:=5) rfl rfl ?_
   obtain⟨g,rfl,T⟩:=C h5
   obtain⟨U,z,G,H,I,V,X⟩:=fY i7
   refine kp l _ _ 156 rfl w.heap.size 53 U z 6 48 underlying156 G H I V X Zd g rfl T _ A R.nodes.length ca _ rfl (HR.1.drew.new f) (nj _) (by have:=J.nodes;unfold maxLen;omega) (by have:=J.nodes;omega) q ?_
   intro x y w' D d
   exact v.out _ _ (f.new d) ⟨_,_,v9,n,p,v20,rfl,f.new d,fun h=>(C h).new d,fun _=>⟨x,y,rfl,D⟩,fun h=>(f6 h).new d,fun h=>(f11 h).new d,fun h=>(f12 h).new d,fun h=>(f17 h).new d⟩
  ·refine kN (i:=6) rfl rfl ?_
   have d:=(zN l).alloc (.cells #[] 22)
   have hn:=oO l q 22 (size:=1) Zd
   go_simp
   go_wp2_with fail
   exact v.out _ _ (f.new d) ⟨v3,t,_,n,p,v20,rfl,f.new d,fun h=>(C h).new d,fun h=>(f5 h).new d,fun _=>hn,fun h=>(f11 h).new d,fun h=>(f12 h).new d,fun h=>(f17 h).new d⟩
  ·refine kN (i:=11) rfl rfl ?_
   obtain⟨g,rfl,T⟩:=f6 ah
   obtain⟨U,z,G,H,I,V,X⟩:=fY jY
   refine kp l _ _ 157 rfl w.heap.size 22 U z 1 24 underlying157 G H I V X Zd g rfl T _ B R.data.length cb _ rfl (HR.2.1.drew.new f) N (by have:=J.data;unfold maxLen;omega) (by have:=J.data;omega) q ?_
   intro x y w' D d
   exact v.out _ _ (f.new d) ⟨v3,t,_,_,p,v20,rfl,f.new d,fun h=>(C h).new d,fun h=>(f5 h).new d,fun h=>(f6 h).new d,fun _=>⟨x,y,rfl,D⟩,fun h=>(f12 h).new d,fun h=>(f17 h).new d⟩
  ·refine kN (i:=12) rfl rfl ?_
   have d:=(zN l).alloc (.cells #[] 247)
   have hn:=oO l q 247 (size:=3) Zd
   go_simp
   go_wp2_with fail
   exact v.out _ _ (f.new d) ⟨v3,t,v9,n,_,v20,rfl,f.new d,fun h=>(C h).new d,fun h=>(f5 h).new d,fun h=>(f6 h).new d,fun h=>(f11 h).new d,fun _=>hn,fun h=>(f17 h).new d⟩
  refine kN (i:=17) rfl rfl ?_
  obtain⟨g,rfl,T⟩:=f12 ai
  obtain⟨U,z,G,H,I,V,X⟩:=fY kR
  refine kp l _ _ 158 rfl w.heap.size 247 U z 3 32 underlying158 G H I V X Zd g rfl T _ E R.e.length ce _ rfl (HR.2.2.drew.new f) (qH _) (by have:=J.e;unfold maxLen;omega) (by have:=J.e;omega) q ?_
  intro x y w' D d
  exact v.out _ _ (f.new d) ⟨v3,t,v9,n,_,_,rfl,f.new d,fun h=>(C h).new d,fun h=>(f5 h).new d,fun h=>(f6 h).new d,fun h=>(f11 h).new d,fun h=>(f12 h).new d,fun _=>⟨x,y,rfl,D⟩⟩
 rintro⟨b0,b5,b6,P,Q,S⟩ a l aj hl ⟨v3,t,v9,n,p,v20,rfl,f,C,f5,f6,f11,f12,f17⟩
 obtain rfl:b0=true:=by cases b0 with|true=>rfl|false=>simp[nu] at hl
 obtain rfl:b5=true:=by cases b5 with|true=>rfl|false=>simp[nu] at hl
 obtain rfl:b6=true:=by cases b6 with|true=>rfl|false=>simp[nu] at hl
 obtain rfl:P=true:=by cases P with|true=>rfl|false=>simp[nu] at hl
 obtain rfl:Q=true:=by cases Q with|true=>rfl|false=>simp[nu] at hl
 obtain rfl:S=true:=by cases S with|true=>rfl|false=>simp[nu] at hl
 obtain⟨A8,c8,rfl,L⟩:=f5 rfl
 obtain⟨Y,Z,rfl,r⟩:=f11 rfl
 obtain⟨aa,ab,rfl,s⟩:=f17 rfl
 have ak:=J3 L r s
 have al:=zh f
 clear C f5 f6 f11 f12 f17 L r s aj hl
 refine c_ 18 f ?_
 have d:=(zN l).alloc (.cells #[.slice A8 R.nodes.length c8,.slice Y R.data.length Z,.slice aa R.e.length ab] 160)
 have x3:=heap_alloc_new l (.cells #[.slice A8 R.nodes.length c8,.slice Y R.data.length Z,.slice aa R.e.length ab] 160)
 refine dQ (i:=19) zk rfl rfl (fun K v=>?_)
 go_simp
 go_wp2_with fail
 refine v _ _ (f.new d) ?_
 clear v K
 try simp only[zy]
 refine c_ 20 (f.new d) ?_
 refine wpAnyH_done zk ?_ _
 go_wp2
 go_ret
 have kw:New w l:=b_.new (b_.drew (zN w)) al.out
 have hz:w.heap.size<=l.heap.size:=kw.size
 obtain⟨L,r,s⟩:=ak.out
 have e3:=c.Qg w fun b=>if b=l.heap.size then j else 0
 have ac:∀b,w.heap.size<=b->b<l.heap.size->c.on w.heap.size (fun b=>if b=l.heap.size then j else 0) b=0:=fun b hb hn=>by rw[c.Qf _ hb,if_neg zo]
 refine⟨l.heap.size,c.on w.heap.size fun b=>if b=l.heap.size then j else 0,rfl,kw.new d,hz,e3,by rw[c.Qf _ hz,if_pos rfl],A8,c8,Y,Z,aa,ab,x3,⟨ew L,eh L⟩,⟨ew r,eh r⟩,⟨ew s,eh s⟩,?_,?_,?_⟩
 ·exact Row.new ((Row.Qc L).imp fun b hb hd=>ac b hd hb) d
 ·refine⟨vs,Row.new ((Row.Qc r).imp fun b hb hd=>ac b hd hb) d,rfl,fun k hk=>?_⟩
  obtain⟨x,y,G,H,I⟩:=ag.out k hk
  exact⟨x,y,G,H,jR I (kw.new d) e3 fun _ _ _=>zt⟩
 exact Row.new ((Row.Qc s).imp fun b hb hd=>ac b hd hb) d
theorem Bo:(prog.info? 172).map (fun i=>(i.zero,i.size,i.bytes))=some (some (.agg #[.int .i64 0,.slice none 0 0,.pointer none]),3,40):=zk
theorem wY(D:Nat->Prop)(A:Option Addr)(n c:Nat)(vs:List Value)(w:World)(hR:Row w D A n 3 vs)(h1:∀u∈vs,u.oneCell'=true)(hn:n<=1000000):
  Calls prog 105 #[.slice A n c] w fun e w'=>(∃A' c',e=.returned (.slice A' n c')/\Own w' w.heap.size 172 3 A' n c' vs)/\New w w':=by
 have hq:=fun w'=>Lib.run_eql_slice_nil (P:=prog) w' 169 172 A n c 0 0 underlying169
 rcases A with _|r
 ·have h0:n=0:=by
   rcases Nat.eq_zero_or_pos n with h|h
   ·exact h
   obtain⟨_,_,e,_⟩:=hR.2 h
   cases e
  subst h0
  obtain rfl:vs=[]:=List.eq_nil_of_length_eq_zero (by have:=hR.1;omega)
  go_in
  go_wp2
  go_ret
  exact⟨⟨none,0,rfl,Own.nil _ _ _ _⟩,zN _⟩
 obtain⟨s,d,f,g,i⟩:=info_parts Bo
 have b:New w (w.alloc (.cells #[] 172)):=(zN w).alloc _
 obtain⟨C,a,k⟩:=oO w (base:=w.heap.size) zr 172 (size:=3) Zd
 injection a with a
 injection a with a
 injection a with a
 subst a
 have t:=hR.new b
 have l:w.heap.size<=(w.alloc (.cells #[] 172)).heap.size:=b.size
 have m:0+n<=maxLen:=by unfold maxLen;omega
 have o:(0+n)*40<=140737488355328:=by omega
 clear hR
 go_in
 go_wp2_with (at_builtin;refine gW _ rfl _ _ 169 rfl w.heap.size 172 s (.agg #[.int .i64 0,.slice none 0 0,.pointer none]) 3 40 underlying169 d f g i rfl Zd (some ⟨w.heap.size,0,none⟩) 0 0 [] rfl k D (some r) n c vs rfl t h1 m o l ?_;intro v x y p q z)
 rw[Nat.zero_add,List.nil_append] at p
 have B:New w y:=b.grown q (fun j hj _=>(eW k j hj).1)
 go_ret
 exact⟨⟨v,x,rfl,p⟩,B⟩
def Gq(w:World)(c:Col)(j:Nat)(ns:j_)(e:Ending)(w':World):Prop:=∃(bs:Nat) (Q:qq) (c':Col),e=.returned (.pointer (some ⟨bs,0,none⟩))/\New w w'/\w.heap.size<=bs/\Ext w c c'/\iY w' c' j bs Q ns
theorem Dc{β:Nat->CK}{l:List uB}(hl:vs.length=l.length*3)(h:∀k (h:k<l.length),uC w c vs (k*3) (β k) l[k]):∀u∈vs,u.oneCell'=true:=by
 intro u a
 obtain⟨k,hk,rfl⟩:=List.getElem_of_mem a
 have hs:=h (k/3) zo
 have h3:k%3=0\/k%3=1\/k%3=2:=by omega
 have hg:vs[k]?=some vs[k]:=List.getElem?_eq_getElem hk
 rcases h3 with h3|h3|h3
 ·have q:=hs.id;rw[show k/3*3=k from by omega,hg] at q;injection q with q;rw[q];rfl
 ·have q:=hs.hash;rw[show k/3*3+1=k from by omega,hg] at q;injection q with q;rw[q];rfl
 have q:=hs.tree;rw[show k/3*3+2=k from by omega,hg] at q;injection q with q;rw[q];rfl
theorem Dl{bs:Nat}{Q:qq}{ns:j_}(h:iY w c i bs Q ns)(hn:ns.list.length<=1000000)(j:Nat):Calls prog 33 #[.pointer (some ⟨bs,0,none⟩)] w (Gq w c j ns):=by
 have H:=zh h
 obtain⟨s,h1,h2⟩:=h.row
 have t:=zh<|wY _ Q.A ns.list.length Q.ca s w.drew ((Row.Qc h1).drew) (Dc h1.1 h2) hn
 have HV:=zh h2
 have x:∀W,New w.drew W->W.cell? ⟨bs,0,none⟩=some (.slice Q.A ns.list.length Q.ca):=fun W f=>f.Qb (a_ (w:=w.drew) h.snaps (k:=0) rfl) trivial
 have c1:∀W,New w.drew W->W.cell? ⟨bs,1,none⟩=some (.int .i64 ns.next):=fun W f=>f.Qb (a_ (w:=w.drew) h.snaps (k:=1) rfl) trivial
 have c2:∀W,New w.drew W->W.cell? ⟨bs,2,none⟩=some (.slice Q.L ns.last.length Q.cl):=fun W f=>f.Qb (a_ (w:=w.drew) h.snaps (k:=2) rfl) trivial
 clear h h1 h2
 go_in
 go_upto_region 1 with fail
 refine eu (b_ (fun _=>True) w.drew) zk ?_
 have a:b_ (fun _=>True) w.drew w.drew:=b_.refl _ _
 refine c_ 0 a ?_
 refine c_ 1 a ?_
 refine c_ 2 a ?_
 refine c_ 3 a ?_
 refine c_ 5 a ?_
 refine c_ 6 a ?_
 refine c_ 7 a ?_
 refine c_ 8 a ?_
 refine c_ 9 a ?_
 refine c_ 10 a ?_
 refine c_ 11 a ?_
 refine c_ 12 a ?_
 refine dQ (i:=4) zk rfl rfl (fun K l=>?_)
 go_simp
 refine t.mono ?_
 rintro e m⟨⟨A1,d,rfl,q⟩,r⟩;have u:=J2 r q;clear q
 go_wp2_with fail
 have b:=b_.new a r
 refine l _ _ b ?_
 clear l K
 try simp only[zy]
 replace a:=b
 clear b
 refine c_ 13 a ?_
 have n:=(zN m).alloc (.cells #[.slice A1 ns.list.length d,.int .i64 ns.next,.slice Q.L ns.last.length Q.cl] 174)
 refine dQ (i:=14) zk rfl rfl (fun K l=>?_)
 go_simp
 go_wp2_with fail
 have b:=b_.new a n
 refine l _ _ b ?_
 clear l K
 try simp only[zy]
 replace a:=b
 clear b
 refine c_ 15 a ?_
 refine wpAnyH_done zk ?_ _
 go_wp2
 go_ret
 obtain⟨r,q⟩:=u.out
 have o:New w m:=(b_.drew (zN w)).new r
 have v:=heap_alloc_new m (.cells #[.slice A1 ns.list.length d,.int .i64 ns.next,.slice Q.L ns.last.length Q.cl] 174)
 have e3:=c.Qg w fun _=>j
 have p:Own m w.heap.size 172 3 A1 ns.list.length d s:=q
 refine⟨m.heap.size,⟨A1,d,Q.L,Q.cl,Q.β⟩,c.on w.heap.size fun _=>j,rfl,o.new n,o.size,e3,v,⟨c.Qf _ o.size,fun g hg=>⟨c.Qf _ (eW p g hg).1,by have:=(eW p g hg).2;omega⟩⟩,⟨H.last.1,H.last.2.1,jR H.last.2.2 (o.new n) e3 fun _ _ _=>zt⟩,s,?_,fun k hk=>(HV.out k hk).keep (o.new n) e3 fun _ _ _=>zt⟩
 exact eQ (eP p n fun _ _=>zt) (Nat.zero_le _)
def d'.settled(s:d'):d':=⟨fT s.T,s.S,s.now,fun _=>none⟩
theorem oA{I J:fe}{b:Nat}{B:iu}{s:d'}(h:ei w c I b B s)(hn:s.T.length<=100000)(hk:∀p∈s.T,-9223372036854775808<=p.1/\p.1<=9223372036854775807)(hs:s.S.list.length<=1000000)(hJ:J.Ok):
  Calls prog 10 #[.pointer (some ⟨b,0,none⟩)] w (zO w c J s.settled):=by
 have R:∀W,New w.drew W->W.cell? ⟨b,0,none⟩=some (.pointer (some ⟨B.bt,0,none⟩)):=fun W j=>j.Qb (a_ (w:=w.drew) h.state (k:=0) rfl) trivial
 have c1:∀W,New w.drew W->W.cell? ⟨b,1,none⟩=some (.pointer (some ⟨B.bs,0,none⟩)):=fun W j=>j.Qb (a_ (w:=w.drew) h.state (k:=1) rfl) trivial
 have c2:∀W,New w.drew W->W.cell? ⟨b,2,none⟩=some (.int .u64 s.now):=fun W j=>j.Qb (a_ (w:=w.drew) h.state (k:=2) rfl) trivial
 have N:=zh<|m7 (w:=w.drew) (h.tree.new (b_.drew (zN w))) hn hk J.t
 have O:=zh h.snaps
 have H:=J2 hJ hs
 clear h hn hk hJ hs
 go_in
 go_upto_region 1 with fail
 refine eu (b_ (fun _=>True) w.drew) zk ?_
 have a:b_ (fun _=>True) w.drew w.drew:=b_.refl _ _
 refine c_ 0 a ?_
 refine c_ 1 a ?_
 refine c_ 2 a ?_
 refine c_ 3 a ?_
 refine c_ 5 a ?_
 refine c_ 6 a ?_
 refine c_ 7 a ?_
 refine c_ 8 a ?_
 refine c_ 10 a ?_
 refine c_ 11 a ?_
 refine c_ 12 a ?_
 refine c_ 13 a ?_
 refine dQ (i:=4) zk rfl rfl (fun K f=>?_)
 go_simp
 refine N.mono ?_
 rintro e U⟨l,z,L,rfl,m,A,u,v⟩;have C:=J4 m A u v;clear A u v
 go_wp2_with fail
 have d:=b_.new a m
 refine f _ _ d ?_
 clear f K
 try simp only[zy]
 replace a:=d
 clear d
 refine dQ (i:=9) zk rfl rfl (fun K f=>?_)
 go_simp
 refine(Dl (iY.keep O.out ((b_.drew (zN w)).new C.1) (show Ext w c L from C.2.2.1) fun _ _ _=>zt) H.2 J.s).mono ?_
 rintro e g⟨n,D,E,rfl,q,F,r,x⟩;have P:=J4 q F r x;clear F r x
 go_wp2_with fail
 have d:=b_.new a q
 refine f _ _ d ?_
 clear f K
 try simp only[zy]
 replace a:=d
 clear d
 refine c_ 14 a ?_
 have y:=(zN g).alloc (.cells (kG ⟨l,z,n,D,fun _=>none⟩ s.now) 89)
 refine dQ (i:=15) zk rfl rfl (fun K f=>?_)
 go_simp
 go_wp2_with fail
 have d:=b_.new a y
 refine f _ _ d ?_
 clear f K
 try simp only[zy]
 replace a:=d
 clear d
 refine c_ 16 a ?_
 refine wpAnyH_done zk ?_ _
 go_wp2
 go_ret
 obtain⟨m,A,u,v⟩:=C.out
 obtain⟨q,F,r,x⟩:=P.out
 have G:New w g:=((b_.drew (zN w)).new m).new q
 have Q:=heap_alloc_new g (.cells (kG ⟨l,z,n,D,fun _=>none⟩ s.now) 89)
 have e3:=E.Qg g fun _=>J.o
 have M:Ext w c L:=u
 exact⟨g.heap.size,⟨l,z,n,D,fun _=>none⟩,E.on g.heap.size fun _=>J.o,rfl,G.new y,G.size,(M.trans r (Nat.le_trans zr m.size)).trans e3 G.size,Q,E.Qf _ zr,(v.keep q r fun _ _ _=>zt).keep y e3 fun _ _ _=>zt,x.keep y e3 fun _ _ _=>zt,fun k _=>zt,H.1⟩
def Jc(w:World)(c:Col)(j:Nat)(T:dX)(e:Ending)(w':World):Prop:=∃b B c',e=.returned (.tuple #[.pointer (some ⟨b,0,none⟩),.int .i64 0])/\New w w'/\w.heap.size<=b/\Ext w c c'/\ea w' c' j b B T
def Gv(T:dX):Prop:=∀(w:World) (c:Col) (j:Nat),j≠0->∀(D:Nat->Prop) (A:Option Addr) (n cp:Nat),Bs w D A n (e_ T)->n<=cp->cp<=9223372036854775807->Calls prog 263 #[.slice A n cp] w (Jc w c j T)
def Je(w:World)(c:Col)(j:Nat)(ns:j_)(e:Ending)(w':World):Prop:=∃b B c',e=.returned (.tuple #[.pointer (some ⟨b,0,none⟩),.int .i64 0])/\New w w'/\w.heap.size<=b/\Ext w c c'/\iY w' c' j b B ns
def Gw(ns:j_):Prop:=∀(w:World) (c:Col) (j:Nat),∀(D:Nat->Prop) (A:Option Addr) (n cp:Nat),Bs w D A n (fS ns)->n<=cp->cp<=9223372036854775807->Calls prog 264 #[.slice A n cp] w (Je w c j ns)
theorem BM(t:Int)(h:t<=1099511627776)(w:World):Calls prog 156 #[.int .u64 t] w fun e w'=>e=.returned (.bool true)/\New w w':=by
 have hd:decide (t<=1099511627776)=true:=decide_eq_true h
 go_in
 go_wp2
 go_ret
 exact⟨rfl,zN w⟩
theorem C4{s:d'}(hO:rd s)(hnow:s.now<=1099511627776)(hfd:s.fd=fun _=>none)(hcm:fT s.T=s.T)(hT:Gv s.T)(hS:Gw s.S)(hsz:(fQ s).length<=1099511627776):sO s:=by
 intro w c I hI D A n cp hB hc hc9
 obtain⟨d,X⟩:=zx (e_ s.T)
 obtain⟨g,Y⟩:=zx (fS s.S)
 obtain⟨bs,Z⟩:=zx (fQ s)
 have hb:bs=beI 8 s.now++(beI 8 d.length++(d++g)):=by
  rw[Z,X,Y]
  unfold fQ
  rw[hcm]
  simp only[List.append_assoc]
 rw[<- Z] at hB hsz
 have hl:=hB.len
 have aq:bs.length=16+d.length+g.length:=by rw[hb];simp only[zL,dL];omega
 obtain⟨a1,e1,ai⟩:=lm 8 s.now (beI 8 d.length++(d++g)) hO.now.1 zo
 obtain⟨a2,e2,ar⟩:=lm 8 d.length (d++g) zo zo
 have aa:a2=d.length:=by omega
 rw[aa] at e2
 obtain⟨f,C⟩:=zx (d.length)
 obtain⟨i,E⟩:=zx (g.length)
 have e3:RdS.raw ⟨d++g,0⟩ (f:Int)=(d,⟨g,0⟩):=RdS.Qm _ _ _ (by rw[C])
 have e4:RdS.raw ⟨g,0⟩ (i:Int)=(g,⟨[],0⟩):=by
  have:=RdS.Qm g [] (i:Int) (by rw[E])
  rwa[List.append_nil] at this
 have aj:(RdS.mk (d++g) 0).left=f+i:=by unfold RdS.left;rw[if_neg (fun h=>h rfl),zL,C,E]
 have ak:(RdS.mk g 0).left=i:=by unfold RdS.left;rw[if_neg (fun h=>h rfl),E]
 rw[<- C] at e2 e1 hb
 have aG:f<=1099511627776:=by omega
 have aH:i<=1099511627776:=by omega
 have q1:IntKind.u64.wrap ((f+i:Nat):Int)=((f+i:Nat):Int):=by rw[IntKind.wrap_u64];omega
 have aI:IntKind.u64.wrap ((f:Int)+(i:Int))=(f:Int)+(i:Int):=by rw[IntKind.wrap_u64];omega
 have q2:IntKind.i64.wrap (f:Int)=(f:Int):=IntWalk.i64_in _ zo
 have d1:decide ((f:Int)+(i:Int)<(f:Int))=false:=decide_eq_false zo
 have HN:=zh<|kh D A n cp bs w hB zo
 have HB:=zh hb
 have R:=J6 e1 e2 e3 e4 aj ak
 have au:=zh ai
 have al:=fun W=>zh (BM s.now hnow W)
 have HT:=zh hT
 have HS:=zh hS
 have HO:=zh hO
 have HI:=J3 hI hfd hcm
 have z:=J4 X Y C E
 clear hB Z hb hl aq e1 e2 e3 e4 ai ar aa C E aj ak hnow hT hS hO hI hfd hcm X Y hsz
 go_in
 go_wp2_with fail
 refine HN.mono ?_
 rintro e w1⟨⟨p,rfl,hp,j⟩,k1⟩
 rw[HB.out] at j
 have F:=zh<|lC p _ w1 j
 rw[R.1] at F
 dsimp only at F
 rw[au.out] at F
 have HK:=zh k1
 clear HN j k1
 go_wp2_with fail
 refine F.mono ?_
 rintro e w2⟨rfl,j,k2⟩
 have m:=zh k2
 have L:=zh<|lC p _ w2 j
 rw[R.2.1] at L
 dsimp only at L
 clear F j k2
 go_wp2_with fail
 refine L.mono ?_
 rintro e w3⟨rfl,j,B⟩
 replace m:=zh<|m.trans B
 have ab:=al w3
 have a:=zh j
 clear L j B al
 go_wp2_with fail
 refine ab.mono ?_
 rintro e w4⟨rfl,k4⟩
 replace m:=zh<|m.new k4
 have r:=zh<|rr p _ w4 (a.keep k4)
 rw[R.2.2.2.2.1] at r
 replace a:=zh<|a.keep k4
 clear k4 ab
 go_wp2_with fail
 refine r.mono ?_
 rintro e w5⟨rfl,rfl⟩
 have M:(((f+i:Nat)):Int)=(f:Int)+(i:Int):=zo
 rw[M]
 have G:=zh<|jr p ⟨d++g,0⟩ f w4 a.out
 rw[R.2.2.1] at G
 dsimp only at G
 rw[<- z.2.2.1] at G
 have aJ:p<w4.heap.size:=a.lt
 clear r a M q1
 go_wp2_with fail
 refine G.mono ?_
 rintro e w6⟨⟨A6,c6,rfl,o6⟩,j,k6⟩
 replace m:=zh<|m.trans k6
 have am:Hid (New w w6):=zh (HK.Qd m.out fun b hb _=>by show b≠p;omega)
 have a:=zh j
 have u:Hid (Bs w6 (fun b=>w4.heap.size<=b) A6 f d):=zh (Row.Qc o6)
 have an:=J2 (ew o6) (eh o6)
 have av:p<w6.heap.size:=j.lt
 have ao:=zh<|HT.out w6 (c.on w.heap.size fun _=>I.t+I.s+I.o+1) I.t HI.1.nz.1 _ A6 f c6 (by rw[<- z.1];exact u.out) an.1 an.2
 clear G j k6 o6
 go_wp2_with fail
 refine ao.mono ?_
 rintro e w7⟨bt,q,c1,rfl,k7,z7,x7,t7⟩
 have ac:=J2 z7 x7
 have x:=zh t7
 have l:=zh<|am.new k7
 replace u:=zh<|u.new k7
 replace a:=zh<|a.keep k7
 have ad:=zh<|m7 t7 HO.few HO.key 0
 have hcm:=HI.2.2
 rw[hcm] at ad
 clear k7 z7 x7 t7 ao hcm
 go_wp2_with fail
 refine ad.mono ?_
 rintro e w8⟨b8,q8,c8,rfl,U,z8,x8,t8⟩
 have ae:=HO.tree
 rw[HI.2.2] at ae
 have af:=zh<|rk t8 ae
 rw[<- z.1,<- z.2.2.1] at af
 replace x:=zh<|x.new U
 replace l:=zh<|l.new U
 replace u:=zh<|u.new U
 replace a:=zh<|a.keep U
 have aK:=U.size
 clear U z8 x8 t8 ad ae
 go_wp2_with fail
 refine af.mono ?_
 rintro e w9⟨⟨A9,c9,rfl,o9⟩,V⟩
 have ag:=zh<|nA _ _ A9 A6 f c9 f c6 d d w9 (Row.Qc o9) (u.new V)
 rw[show(d==d)=true from by simp] at ag
 replace x:=zh<|x.new V
 replace l:=zh<|l.new V
 replace a:=zh<|a.keep V
 have aL:=V.size
 clear V o9 af u
 go_wp2_with fail
 refine ag.mono ?_
 rintro e aw⟨rfl,rfl⟩
 have r:=zh<|rr p _ w9 a.out
 rw[R.2.2.2.2.2] at r
 clear ag
 go_wp2_with fail
 refine r.mono ?_
 rintro e aw⟨rfl,rfl⟩
 have H:=zh<|jr p ⟨g,0⟩ i w9 a.out
 rw[R.2.2.2.1] at H
 dsimp only at H
 rw[<- z.2.2.2] at H
 clear r a
 go_wp2_with fail
 refine H.mono ?_
 rintro e ax⟨⟨ay,az,rfl,N⟩,-,O⟩
 have aA:c1 p=I.t+I.s+I.o+1:=(ac.2 p av).trans (Col.Qf _ _ (by have:=HK.size;omega))
 replace x:=zh<|x.keep O (Ext.refl _ _) fun b _ hb e=>by rw[e,aA] at hb;omega
 replace l:=zh<|l.Qd O fun b hb _=>by show b≠p;omega
 have aF:=O.size
 have aM:=ac.1
 have ap:=zh<|HS.out ax c1 I.s _ ay i az (by rw[<- z.2.1];exact Row.Qc N) (ew N) (eh N)
 clear H O N
 go_wp2_with fail
 refine ap.mono ?_
 rintro e y⟨ah,Q,c2,rfl,J,aB,K,P⟩
 have aC:=J3 J K P
 have B:=(zN y).alloc (.cells (kG ⟨bt,q,ah,Q,fun _=>none⟩ s.now) 89)
 have x3:=heap_alloc_new y (.cells (kG ⟨bt,q,ah,Q,fun _=>none⟩ s.now) 89)
 have aD:=J2 B x3
 clear J aB K P B x3 ap
 go_wp2
 refine Zb (.tuple #[.pointer (some ⟨y.heap.size,0,none⟩),.int .i64 0]) (by simp[results,results223,go_sem]) ?_
 obtain⟨J,K,P⟩:=aC.out
 obtain⟨B,x3⟩:=aD.out
 have e3:=c2.Qg y fun _=>I.o
 have kw:New w y:=l.new J
 have hfd:=HI.2.1
 obtain⟨sT,sS,aN,sf⟩:=s
 dsimp only at hfd
 subst hfd
 refine⟨y.heap.size,⟨bt,q,ah,Q,fun _=>none⟩,c2.on y.heap.size fun _=>I.o,rfl,kw.new B,kw.size,?_,x3,c2.Qf _ zr,(x.keep J K fun _ _ _=>zt).keep B e3 fun _ _ _=>zt,P.keep B e3 fun _ _ _=>zt,fun k _=>zt,HI.1⟩
 have aE:=am.size
 have e1:Ext w c c1:=(Col.Qg c w _).trans ac.2 aE
 exact(e1.trans K l.size).trans e3 kw.size
theorem sn1:RdS.num ⟨fS lo,0⟩ 8=(1,⟨[0,0,0],0⟩):=zk
theorem sn2:RdS.Qj ⟨[0,0,0],0⟩=([],⟨[0],0⟩):=zk
theorem sn3:RdS.num ⟨[0],0⟩ 1=(0,⟨[],0⟩):=zk
theorem De:Gw lo:=by
 intro w c j D A n J hB hc hc9
 have hl:=hB.len
 have hn:n=11:=by rw[<- hl];kernel_rfl
 have B:=zh<|lp D A n J _ w hB zo
 clear hB hl hn hc hc9
 go_in
 go_wp2_with fail
 refine B.mono ?_
 rintro e K⟨⟨p,rfl,S,a⟩,C⟩
 have f:=zh<|p9 _ p _ K a
 rw[sn1] at f
 dsimp only at f
 have L:=zh C
 clear B a C
 go_wp2_with fail
 refine f.mono ?_
 rintro e M⟨rfl,a,y⟩
 have d:=zh y
 have i:=zh<|kQ _ p _ M a
 rw[sn2] at i
 dsimp only at i
 have R:=y.size
 clear f a y
 go_wp2_with fail
 refine i.mono ?_
 rintro e N⟨⟨r,s,rfl,z⟩,a,E⟩
 have u:=J2 (ew z) (eh z)
 replace d:=zh<|d.trans E
 have l:=zh<|nN _ p _ N a
 rw[sn3] at l
 dsimp only at l
 clear i a E z
 go_wp2_with fail
 refine l.mono ?_
 rintro e m⟨rfl,a,F⟩
 replace d:=zh<|d.trans F
 have G:=zh a
 have o:Hid (New w m):=zh (L.Qd d.out fun b hb _=>by show b≠p;omega)
 clear l a F
 go_upto_region 4 with fail
 have q:=(zN m).alloc (.cells #[.slice none 0 0,.int .i64 1,.slice r 0 s] 174)
 have t:=heap_alloc_new m (.cells #[.slice none 0 0,.int .i64 1,.slice r 0 s] 174)
 generalize m.alloc (.cells #[.slice none 0 0,.int .i64 1,.slice r 0 s] 174)=H at *
 have x:=zh<|qD _ p _ H (G.keep q)
 have he:(RdS.mk [] 0).endOf=0:=rfl
 rw[he] at x
 have O:=J2 q t
 clear q t he
 go_wp2_with fail
 go_loopw [43] (fun I P=>I=.int .i64 0/\P=H) (fun _ _=>0)
 case atStart=>exact⟨rfl,rfl⟩
 obtain⟨rfl,rfl⟩:=hrel
 go_wp2_with fail
 refine x.mono ?_
 rintro e T⟨rfl,rfl⟩
 go_wp2
 refine Zb (.tuple #[.pointer (some ⟨m.heap.size,0,none⟩),.int .i64 0]) (by simp[results,results264,go_sem]) ?_
 obtain⟨q,t⟩:=O.out
 have Q:=o.new q
 refine⟨m.heap.size,⟨none,0,r,s,fun _=>⟨none,0,0,⟨0,fun _=>0,fun _=>0⟩⟩⟩,c.on w.heap.size fun _=>j,rfl,Q,o.size,c.Qg w _,t,⟨c.Qf _ o.size,fun g hg=>(by cases hg)⟩,⟨u.1,u.2,⟨by simp[lo],fun h=>absurd h (by simp[lo])⟩⟩,[],Own.nil _ _ _ _,fun k hk=>absurd hk (Nat.not_lt_zero k)⟩
theorem AB(D:Nat->Prop)(p:Nat)(s s':RdS)(b:Bool)(w:World)(hR:RdD D w p s)(hb:s.num 1=(if b then 1 else 0,s')):
  Calls prog 330 #[.pointer (some ⟨p,0,none⟩)] w fun e w'=>e=.returned (.bool b)/\RdD D w' p s'/\b_ (fun b=>b≠p) w w':=by
 have a:=zh<|nN D p s w hR
 rw[hb] at a
 clear hR hb
 cases b
 ·go_in
  go_wp2_with fail
  refine a.mono ?_
  rintro e d⟨rfl,h1,c⟩
  go_wp2
  go_ret
  exact⟨rfl,h1,c⟩
 go_in
 go_wp2_with fail
 refine a.mono ?_
 rintro e d⟨rfl,h1,c⟩
 go_wp2
 go_ret
 exact⟨rfl,h1,c⟩
theorem Ba{n:i'}(h:qs id n):∃a1 a2 a3 a4 a5:Nat,∃r1 r2 r3 r4 r5:List UInt8,RdS.num ⟨eY id n,0⟩ 2=(a1,⟨r1,0⟩)/\RdS.num ⟨r1,0⟩ 1=(a2,⟨r2,0⟩)/\RdS.num ⟨r2,0⟩ 2=(a3,⟨r3,0⟩)/\RdS.num ⟨r3,0⟩ 2=(a4,⟨r4,0⟩)/\RdS.num ⟨r4,0⟩ 8=(a5,⟨r5,0⟩)/\RdS.num ⟨r5,0⟩ 1=(if n.shut then 1 else 0,⟨[],0⟩) /\
  (a1:Int)=id/\(a2:Int)=n.kind/\(a3:Int)=n.links/\(a4:Int)=n.size/\(a5:Int)=n.till:=by
 have hw:eY id n=beI 2 id++(beI 1 n.kind++(beI 2 n.links++(beI 2 n.size++(beI 8 n.till++iH n.shut)))):=by unfold eY;simp only[List.append_assoc]
 rw[hw]
 have h1:=h.id
 have h2:=h.links
 have h3:=h.till
 have c:=h.kind
 obtain⟨a1,e1,g1⟩:=lm 2 id (beI 1 n.kind++(beI 2 n.links++(beI 2 n.size++(beI 8 n.till++iH n.shut)))) zo zo
 obtain⟨a2,e2,a⟩:=lm 1 n.kind (beI 2 n.links++(beI 2 n.size++(beI 8 n.till++iH n.shut))) zo zo
 obtain⟨a3,e3,g3⟩:=lm 2 n.links (beI 2 n.size++(beI 8 n.till++iH n.shut)) zo zo
 obtain⟨a4,e4,g4⟩:=lm 2 n.size (beI 8 n.till++iH n.shut) zo zo
 obtain⟨a5,e5,b⟩:=lm 8 n.till (iH n.shut) zo zo
 refine⟨a1,a2,a3,a4,a5,_,_,_,_,_,e1,e2,e3,e4,e5,?_,g1,a,g3,g4,b⟩
 cases n.shut <;> kernel_rfl
theorem xI{c0 c1 c2 c3 c4 c5:Value}{t:TypeId}(h:w.heap[g]?=some (.cells #[c0,c1,c2,c3,c4,c5] t (0,0)))(x0 x1 x2 x3 x4 x5:Value):
  ((((((w.setCell ⟨g,0,none⟩ x0).setCell ⟨g,1,none⟩ x1).setCell ⟨g,2,none⟩ x2).setCell ⟨g,3,none⟩ x3).setCell ⟨g,4,none⟩ x4).setCell ⟨g,5,none⟩ x5).heap[g]?=some (.cells #[x0,x1,x2,x3,x4,x5] t (0,0)) /\
  b_ (fun b=>b≠g) w ((((((w.setCell ⟨g,0,none⟩ x0).setCell ⟨g,1,none⟩ x1).setCell ⟨g,2,none⟩ x2).setCell ⟨g,3,none⟩ x3).setCell ⟨g,4,none⟩ x4).setCell ⟨g,5,none⟩ x5):=by
 have a:∀(W:World) (k:Nat) (u:Value),b_ (fun b=>b≠g) w W->b_ (fun b=>b≠g) w (W.setCell ⟨g,k,none⟩ u):=fun W k u c=>c.setCell (p:=⟨g,k,none⟩) (fun hd=>absurd rfl hd) u
 exact⟨dM (dM (dM (dM (dM (dM h 0 x0) 1 x1) 2 x2) 3 x3) 4 x4) 5 x5,a _ _ _ (a _ _ _ (a _ _ _ (a _ _ _ (a _ _ _ (a _ _ _ (b_.refl _ w))))))⟩
theorem yq{n:i'}(h:qs id n){D:Nat->Prop}{cp:Nat}(hB:Bs w D A m (eY id n)):
  Calls prog 312 #[.slice A m cp] w fun e w'=>e=.returned (.tuple #[i'.val id n,.int .i64 0])/\New w w':=by
 obtain⟨a1,a2,a3,a4,a5,r1,r2,r3,r4,r5,e1,e2,e3,e4,e5,e6,g1,g2,g3,g4,g5⟩:=Ba h
 have hl:=hB.len
 rw[jX] at hl
 have R:=(zN w).alloc (.cells #[.int .i64 0,.int .i64 0,.int .i64 0,.int .i64 0,.int .u64 0,.bool false] 53)
 have xA:=heap_alloc_new w (.cells #[.int .i64 0,.int .i64 0,.int .i64 0,.int .i64 0,.int .u64 0,.bool false] 53)
 have HN:=fun W (hW:New w W)=>zh (lp D A m cp _ W (hB.new hW) zo)
 have B:=fun W=>zh (tM h W)
 unfold i'.val at B ⊢
 have r:=J6 e1 e2 e3 e4 e5 e6
 have C:=J5 g1 g2 g3 g4 g5
 obtain⟨s,t,u,x,l⟩:=n
 dsimp only at *
 clear h hB hl e1 e2 e3 e4 e5 e6 g1 g2 g3 g4 g5
 go_in
 go_upto_region 1 with fail
 generalize hgp:w.heap.size=d at *
 generalize w.alloc (.cells #[.int .i64 0,.int .i64 0,.int .i64 0,.int .i64 0,.int .u64 0,.bool false] 53)=w1 at *
 have M:=zh hgp
 have E:=zh xA
 have o:=zh R
 have N:=HN w1 R
 clear xA R HN hgp
 go_wp2_with fail
 refine N.mono ?_
 rintro e K⟨⟨p,rfl,hp,c⟩,S⟩
 have ad:d<p:=Nat.lt_of_lt_of_le (Array.getElem?_eq_some_iff.1 E.out).1 hp
 replace E:=zh<|S.Qa E.out zt
 replace o:=zh<|o.new S
 have aa:New w K:=o.out
 have a:=zh<|b_.refl (fun b=>b≠p) K
 have f:=zh<|iB _ p _ K c
 rw[r.1] at f
 dsimp only at f
 rw[C.1] at f
 clear N S c aa
 go_wp2_with fail
 refine f.mono ?_
 rintro e w3⟨rfl,c,k3⟩
 replace a:=zh<|a.trans k3
 have g:=zh<|nN _ p _ w3 c
 rw[r.2.1] at g
 dsimp only at g
 rw[C.2.1] at g
 clear f k3 c
 go_wp2_with fail
 refine g.mono ?_
 rintro e w4⟨rfl,c,k4⟩
 replace a:=zh<|a.trans k4
 have i:=zh<|iB _ p _ w4 c
 rw[r.2.2.1] at i
 dsimp only at i
 rw[C.2.2.1] at i
 clear g k4 c
 go_wp2_with fail
 refine i.mono ?_
 rintro e w5⟨rfl,c,k5⟩
 replace a:=zh<|a.trans k5
 have j:=zh<|iB _ p _ w5 c
 rw[r.2.2.2.1] at j
 dsimp only at j
 rw[C.2.2.2.1] at j
 clear i k5 c
 go_wp2_with fail
 refine j.mono ?_
 rintro e w6⟨rfl,c,k6⟩
 replace a:=zh<|a.trans k6
 have k:=zh<|p9 _ p _ w6 c
 rw[r.2.2.2.2.1] at k
 dsimp only at k
 rw[C.2.2.2.2] at k
 clear j k6 c
 go_wp2_with fail
 refine k.mono ?_
 rintro e w7⟨rfl,c,k7⟩
 replace a:=zh<|a.trans k7
 have O:=zh<|AB _ p _ _ l w7 c r.2.2.2.2.2
 clear k k7 c
 go_wp2_with fail
 refine O.mono ?_
 rintro e L⟨rfl,c,k8⟩
 replace a:=zh<|a.trans k8
 have P:=zh c
 clear O k8 c
 go_upto_region 3 with fail
 have T:=(zN L).alloc (.cells #[.int .i64 id,.int .i64 s,.int .i64 t,.int .i64 u,.int .u64 x,.bool l] 53)
 have U:=heap_alloc_new L (.cells #[.int .i64 id,.int .i64 s,.int .i64 t,.int .i64 u,.int .u64 x,.bool l] 53)
 generalize L.alloc (.cells #[.int .i64 id,.int .i64 s,.int .i64 t,.int .i64 u,.int .u64 x,.bool l] 53)=V at *
 generalize L.heap.size=gm at *
 have F:=zh<|qD _ p _ V (P.keep T)
 rw[show(RdS.mk [] 0).endOf=0 from rfl] at F
 have Q:Hid (b_ (fun b=>b≠p) K V):=zh (a.new T)
 have G:=zh U
 obtain⟨X,Y,Z,m3,m4,m5⟩:=cs6 U
 have H:=B V
 clear T U P a B
 go_wp2_with fail
 refine F.mono ?_
 rintro e I⟨rfl,rfl⟩
 go_wp2_with fail
 refine H.mono ?_
 rintro e I⟨rfl,q⟩
 replace G:=zh<|q.Qa G.out zt
 have J:Hid (I.heap[d]?=some (.cells #[.int .i64 0,.int .i64 0,.int .i64 0,.int .i64 0,.int .u64 0,.bool false] 53 (0,0))):=zh (by
  have h1:=(Q.new q)
  exact(h1.block d (Array.getElem?_eq_some_iff.1 E.out).1 (by show d≠p;omega)).trans E.out)
 have ab:Hid (New w I):=zh (o.Qd (Q.new q) fun b hb _=>by show b≠p;have:=M.out;omega)
 clear q F H X Y Z m3 m4 m5
 obtain⟨X,Y,Z,m3,m4,m5⟩:=cs6 G.out
 obtain⟨d0,d1,d2,d3,d4,d5⟩:=cs6 J.out
 obtain⟨z0,z1,z2,z3,z4,z5⟩:=fz6 J.out
 go_wp2_with fail
 clear d0 d1 d2 d3 d4 d5 z0 z1 z2 z3 z4 z5 X Y Z m3 m4 m5
 obtain⟨y,ac⟩:=xI J.out (.int .i64 id) (.int .i64 s) (.int .i64 t) (.int .i64 u) (.int .u64 x) (.bool l)
 generalize ae:World.setCell _ _ _=z at *
 have f0:z.cell? ⟨d,0,none⟩=some (.int .i64 id):=a_ y rfl
 have f1:z.cell? ⟨d,1,none⟩=some (.int .i64 s):=a_ y rfl
 have f2:z.cell? ⟨d,2,none⟩=some (.int .i64 t):=a_ y rfl
 have f3:z.cell? ⟨d,3,none⟩=some (.int .i64 u):=a_ y rfl
 have f4:z.cell? ⟨d,4,none⟩=some (.int .u64 x):=a_ y rfl
 have f5:z.cell? ⟨d,5,none⟩=some (.bool l):=a_ y rfl
 refine Zb (.tuple #[.agg #[.int .i64 id,.int .i64 s,.int .i64 t,.int .i64 u,.int .u64 x,.bool l],.int .i64 0]) (by simp[results,results312,go_sem,f0,f1,f2,f3,f4,f5]) ?_
 exact⟨rfl,ab.Qd ac fun b hb _=>by show b≠d;have:=M.out;omega⟩
def ib:eI:=eD 2
def rq:List UInt8:=(e_ dV.T).drop 2
theorem tn0:RdS.num ⟨e_ dV.T,0⟩ 2=(1,⟨rq,0⟩):=zk
theorem tn1:RdS.Qj ⟨rq,0⟩=(eY 0 ib.n,⟨[0,0,0,0],0⟩):=zk
theorem tn2:RdS.Qj ⟨[0,0,0,0],0⟩=([],⟨[0,0],0⟩):=zk
theorem tn3:RdS.num ⟨[0,0],0⟩ 2=(0,⟨[],0⟩):=zk
theorem GO:qs 0 ib.n:=⟨Zd,Zd,Zd,.inr ⟨rfl,rfl,rfl,rfl⟩⟩
theorem GP:i'.val 0 ib.n=.agg #[.int .i64 0,.int .i64 2,.int .i64 1,.int .i64 0,.int .u64 0,.bool true]:=rfl
theorem CV(hR:RdD (fun b=>b<p) w p ⟨rq,0⟩):
  Calls prog 281 #[.pointer (some ⟨p,0,none⟩)] w fun e w'=>(∃bi nb A cp,e=.returned (.tuple #[.pointer (some ⟨bi,0,none⟩),.bool true])/\w.heap.size<=bi/\w.heap.size<=nb/\nb<w'.heap.size/\bi≠nb/\w'.heap[bi]?=some (.cells #[.int .i64 0,.int .i64 2,.int .i64 1,.int .i64 0,.int .u64 0,.bool true,.slice A 0 cp,.map (some nb)] 214 (0,0))/\cp<=9223372036854775807/\mf w' nb [])/\RdD (fun b=>b<p) w' p ⟨[],0⟩/\b_ (fun b=>b≠p) w w':=by
 have ah:=@run_makeMap prog
 have n:=zh<|kQ _ p _ w hR
 rw[tn1] at n
 have ai:=hR.lt
 dsimp only at n
 rw[jX] at n
 clear hR
 go_in
 go_wp2_with fail
 refine n.mono ?_
 rintro e w1⟨⟨A1,c1,rfl,Y⟩,hR,Z⟩
 have B:=zh<|yq (cp:=c1) GO (Row.Qc Y)
 rw[GP] at B
 have d:=zh hR
 have q:=zh Z
 clear n hR Z Y
 go_wp2_with fail
 refine B.mono ?_
 rintro e C⟨rfl,R⟩
 replace d:=zh<|d.keep R
 replace q:=zh<|q.new R
 clear B R
 go_upto_region 2 with fail
 have S:=(zN C).alloc (.cells #[.int .i64 0,.int .i64 2,.int .i64 1,.int .i64 0,.int .u64 0,.bool true] 53)
 have xN:=heap_alloc_new C (.cells #[.int .i64 0,.int .i64 2,.int .i64 1,.int .i64 0,.int .u64 0,.bool true] 53)
 have hgp:p<C.heap.size:=d.lt
 generalize C.alloc (.cells #[.int .i64 0,.int .i64 2,.int .i64 1,.int .i64 0,.int .u64 0,.bool true] 53)=c at *
 generalize aa:C.heap.size=g4 at *
 have aj:w.heap.size<=g4:=by rw[<- aa];exact q.size
 replace d:=zh<|d.keep S
 replace q:=zh<|q.new S
 have a:=zh xN
 have r0:∀W,b_ (fun b=>b≠p) c.drew W->W.cell? ⟨g4,0,none⟩=some (.int .i64 0):=fun W g=>g.Qb (a_ (w:=c.drew) a.out (k:=0) rfl) (by show g4≠p;omega)
 have r1:∀W,b_ (fun b=>b≠p) c.drew W->W.cell? ⟨g4,1,none⟩=some (.int .i64 2):=fun W g=>g.Qb (a_ (w:=c.drew) a.out (k:=1) rfl) (by show g4≠p;omega)
 have r2:∀W,b_ (fun b=>b≠p) c.drew W->W.cell? ⟨g4,2,none⟩=some (.int .i64 1):=fun W g=>g.Qb (a_ (w:=c.drew) a.out (k:=2) rfl) (by show g4≠p;omega)
 have r3:∀W,b_ (fun b=>b≠p) c.drew W->W.cell? ⟨g4,3,none⟩=some (.int .i64 0):=fun W g=>g.Qb (a_ (w:=c.drew) a.out (k:=3) rfl) (by show g4≠p;omega)
 have r4:∀W,b_ (fun b=>b≠p) c.drew W->W.cell? ⟨g4,4,none⟩=some (.int .u64 0):=fun W g=>g.Qb (a_ (w:=c.drew) a.out (k:=4) rfl) (by show g4≠p;omega)
 have r5:∀W,b_ (fun b=>b≠p) c.drew W->W.cell? ⟨g4,5,none⟩=some (.bool true):=fun W g=>g.Qb (a_ (w:=c.drew) a.out (k:=5) rfl) (by show g4≠p;omega)
 have o:=zh<|kQ _ p _ c.drew (d.keep (b_.drew (zN c)))
 rw[tn2] at o
 dsimp only at o
 rw[show(([]:List UInt8)).length=0 from rfl] at o
 clear S xN
 refine eu (b_ (fun b=>b≠p) c.drew) zk ?_
 have h:b_ (fun b=>b≠p) c.drew c.drew:=b_.refl _ _
 refine c_ 0 h ?_
 refine c_ 1 h ?_
 refine dQ (i:=2) zk rfl rfl (fun K D=>?_)
 (go_simp;refine o.mono ?_)
 (rintro e H ⟨⟨t,u,rfl,o4⟩,M,T⟩;go_wp2_with fail)
 have l:=h.trans T
 refine D _ _ l ?_
 clear D K
 try simp only[zy]
 replace h:=l
 clear l
 refine c_ 3 h ?_
 have H4:=J2 (eh o4) M
 have U:=(zN H).alloc (.cells #[.int .i64 0,.int .i64 2,.int .i64 1,.int .i64 0,.int .u64 0,.bool true,.slice t 0 u,.map none] 214)
 clear o4 M
 refine dQ (i:=4) zk rfl rfl (fun K D=>?_)
 go_simp
 go_wp2_with fail
 have l:=b_.new h U
 refine D _ _ l ?_
 clear D K
 try simp only[zy]
 replace h:=l
 clear l
 refine c_ 5 h ?_
 refine wpAnyH_done zk ?_ _
 have x:=heap_alloc_new H (.cells #[.int .i64 0,.int .i64 2,.int .i64 1,.int .i64 0,.int .u64 0,.bool true,.slice t 0 u,.map none] 214)
 generalize H.alloc (.cells #[.int .i64 0,.int .i64 2,.int .i64 1,.int .i64 0,.int .u64 0,.bool true,.slice t 0 u,.map none] 214)=y at *
 generalize ak:H.heap.size=bi at *
 have N:=zh<|q.trans (b_.trans (b_.drew (b_.refl _ c)) h)
 have al:g4<bi:=by
  have h1:=(b_.trans (b_.drew (b_.refl (fun b=>b≠p) c)) T).size
  have h2:=(Array.getElem?_eq_some_iff.1 a.out).1
  omega
 have f:=zh x
 have E:=zh<|H4.2.keep U
 replace a:=zh<|(b_.trans (b_.drew (b_.refl (fun b=>b≠p) c)) h).block g4 (Array.getElem?_eq_some_iff.1 a.out).1 (by show g4≠p;omega) |>.trans a.out
 clear r0 r1 r2 r3 r4 r5 h U x T o d q
 have y6:∀m,(y.drewN m).cell? ⟨bi,6,none⟩=some (.slice t 0 u):=fun m=>a_ (w:=y.drewN m) f.out (k:=6) rfl
 have y3:∀m,(y.drewN m).cell? ⟨g4,3,none⟩=some (.int .i64 0):=fun m=>a_ (w:=y.drewN m) a.out (k:=3) rfl
 go_upto_region 3 with fail
 go_quiet (fail)
 have F:=(zN y).drewN nq
 generalize y.drewN nq=w6 at *
 have ab:=zh<|N.new F
 replace f:=zh<|F.Qa f.out zt
 replace a:=zh<|F.Qa a.out zt
 have s:=zh<|iB _ p _ w6 (E.keep F)
 rw[tn3] at s
 dsimp only at s
 clear F y6 y3 E N
 go_wp2_with fail
 refine s.mono ?_
 rintro e j⟨rfl,O,I⟩
 have d:=zh O
 have G:=zh<|ab.trans I
 replace f:=zh<|(I.block bi (Array.getElem?_eq_some_iff.1 f.out).1 (by show bi≠p;omega)).trans f.out
 replace a:=zh<|(I.block g4 (Array.getElem?_eq_some_iff.1 a.out).1 (by show g4≠p;omega)).trans a.out
 have l:=a_ a.out (k:=1) rfl
 clear s O I
 go_upto_region 8 with fail
 have r:=(zN j).alloc (.map #[] 0)
 have z:=qf j
 have am:bi<j.heap.size:=(Array.getElem?_eq_some_iff.1 f.out).1
 have x:=r.Qa f.out trivial
 have y7:=a_ x (k:=7) rfl
 have z7:=dP x 7
 go_upto_region 9 with fail
 clear y7 z7 x r z
 have xS:=dM f.out 7 (.map (some j.heap.size))
 have V:=(b_.refl (fun b=>b≠bi) j).setCell (p:=⟨bi,7,none⟩) (fun hd=>absurd rfl hd) (.map (some j.heap.size))
 have hS:(j.setCell ⟨bi,7,none⟩ (.map (some j.heap.size))).heap.size=j.heap.size:=by simp
 generalize ac:j.heap.size=nb at *
 generalize j.setCell ⟨bi,7,none⟩ (.map (some nb))=J at *
 have z:=qf J
 have r:=(zN J).alloc (.map #[] 0)
 have P:J.heap[bi]?=some (.cells #[.int .i64 0,.int .i64 2,.int .i64 1,.int .i64 0,.int .u64 0,.bool true,.slice t 0 u,.map (some nb)] 214 (0,0)):=xS
 have Q:=r.Qa P trivial
 rw[hS] at z
 generalize J.alloc (.map #[] 0)=L at *
 have HF:=J2 Q z
 have ad:w.heap.size<=nb:=by rw[<- ac];exact G.size
 have ae:Hid (b_ (fun b=>b≠p) w L):=zh ((G.Qd V fun b hb _=>by show b≠bi;omega).new r)
 have af:Hid (RdD (fun b=>b<p) L p ⟨[],0⟩):=zh ((d.keepE V (by show p≠bi;omega) fun b _ hb=>by show b≠bi;omega).keep r)
 have X:nb<L.heap.size:=z.lt
 clear hS r z xS P Q V d f a G l
 go_wp2_with fail
 go_loopw [46] (fun ag wx=>ag=.int .i64 0/\wx=L) (fun _ _=>0)
 case atStart=>exact⟨rfl,rfl⟩
 obtain⟨rfl,rfl⟩:=hrel
 go_wp2
 refine Zb (.tuple #[.pointer (some ⟨bi,0,none⟩),.bool true]) (by simp[results,results281,go_sem]) ?_
 exact⟨⟨bi,nb,t,u,rfl,zo,ad,X,zo,HF.1,H4.1,HF.2⟩,af.out,ae.out⟩
theorem DS{q:fx}(h:ea w c j bt q dV.T)(cm:Nat):
  Calls prog 313 #[.pointer (some ⟨bt,0,none⟩),.int .i64 0,.int .i64 0,.map (some cm)] w fun e w'=>e=.returned (.bool true)/\New w w':=by
 have a:=(h.look (id:=0) Zd Zd).2
 rw[show dN dV.T 0=some ib from rfl] at a
 simp only[Option.elim_some] at a
 have o:w.cell? ⟨bt,0,none⟩=some (.map (some q.bm)):=a_ h.tree (k:=0) rfl
 have hi:=h.item 0 ib rfl
 obtain⟨A,G,-,-,-,-,-,-,-,i,-⟩:=gj hi
 rw[if_pos (show ib.n.kind=2 from rfl)] at i
 obtain⟨h0,E,b,hsh⟩:=(hi.names rfl).2
 have l:=zh<|pW b hsh h0
 rw[show ib.names.length=0 from rfl] at l
 clear h hi h0 hsh
 go_in
 go_wp2_with (first
  | (at_range;refine wpList_range_own _ rfl _ 212 rfl 9 3 FI underlying212 _ (q.γ 0) 0 _ rfl b ?_;intro p d f u)
  | fail)
 have m:=J2 d f
 clear d f o i a
 try simp only[zy]
 go_loopw [] (fun wr=>wr=p) (fun _=>0)
 case atStart=>rfl
 subst hrel
 go_wp2_with (first
  | (at_next;refine wpList_next_ranges _ rfl _ rfl 9 FI im (fun v:Value=>v) (fun c:Value=>c) (fun key _ _=>⟨key,rfl⟩) (fun v y H=>⟨v,rfl⟩) (q.γ 0) w.heap.size 0 _ _ _ rfl m.1 ?_ ?_)
  | fail)
 ·intro _ _
  go_wp2
  go_ret
  exact⟨rfl,pm m.2 (fun k e=>by cases e)⟩
 intro x I J y K L r s a z B t g C D F
 exact absurd g (by rw[l.out];exact Nat.not_lt_zero _)
theorem zU{q:fx}(h:ea w c j bt q dV.T):
  Calls prog 282 #[.pointer (some ⟨bt,0,none⟩)] w fun e w'=>e=.returned (.bool true)/\New w w':=by
 have af:=@run_makeMap prog
 have d:=(h.look (id:=0) Zd Zd).1
 rw[show dN dV.T 0=some ib from rfl] at d
 simp only[Option.elim_some,Option.isSome_some] at d
 have R:=h.own.len underlying215 3
 rw[show(dV.T.length:Int)=1 from rfl] at R
 have c0:w.cell? ⟨bt,0,none⟩=some (.map (some q.bm)):=a_ h.tree (k:=0) rfl
 have hi:=h.item 0 ib rfl
 obtain⟨A,cp,-,x1,M,-,-,N,-,-,-⟩:=gj hi
 have H:=zh h
 have k1:=(zN w).alloc (.map #[] 0)
 have m1:=fU.made (κ:=Int) (α:=Int) w (fun _ n=>.int .i64 n)
 obtain⟨w2,p,m2,k2,z2⟩:=m1.store underlying375 Zd (k:=0) (wf0 Zd Zd) (1:Int)
 replace p:(Instr.mapUpdate 375 (.map (some w.heap.size)) (.int .i64 0) (.int .i64 1)).run prog (w.alloc (.map #[] 0))=.ok () w2:=p
 have O:=J4 k1 m2 k2 z2
 clear h hi m1 k1 m2 k2 z2
 go_in
 go_wp2_with fail
 have G:New w w2:=O.1.Qd O.2.2.1 fun b hb _=>by show b≠w.heap.size;omega
 have HL:=zh<|DS (H.new G) w.heap.size
 have an:w.heap.size<w2.heap.size:=O.2.1.lt
 have S:=zh G
 clear d R c0 x1 M N p G af
 refine HL.mono ?_
 rintro e a⟨rfl,P⟩
 have B:=H.new (S.new P)
 have U:fU a w.heap.size (fun(_:Int) (n:Int)=>.int .i64 n) (eN (0:Int) (1:Int) []):=O.2.1.new P
 obtain⟨h0,E,ac,hsh⟩:=B.own
 have V:=zh B
 have HS:=zh hsh
 have W:=zh U
 have ag:=zh<|S.new P
 have c0:a.cell? ⟨bt,0,none⟩=some (.map (some q.bm)):=a_ B.tree (k:=0) rfl
 clear HL P B U h0 hsh
 go_wp2_with (first
  | (at_range;refine wpList_range_own _ rfl _ 215 rfl 3 209 qL underlying215 _ q.bm _ _ rfl ac ?_;intro w0 I X ao)
  | fail)
 try simp only[zy]
 have HG:=J2 I X
 clear I X c0
 go_loopw [] (fun wr=>∃(left:Lit->Bool) (Y:Nat),wr.ranges prog 3 im q.bm a.heap.size dV.T.length E left Y/\(∀F,left F=true->Maps.has E F=true)/\b_ (fun b=>b<a.heap.size) a wr) (fun wr=>wr.rangeLeft q.bm a.heap.size)
 case atStart=>exact⟨_,_,HG.1,fun _ h=>h,b_.Qe (pm HG.2 (fun k e=>by cases e))⟩
 obtain⟨left,Y,C,D,Q⟩:=hrel
 have HR:=J2 D Q
 have ah:=zh C
 go_wp2_with (first
  | (at_next;refine wpList_next_ranges _ rfl _ rfl 3 qL im (Value.int .i64) (fun c:Value=>c) (fun key F l=>by obtain⟨x,rfl,_⟩:=Maps.keyOf_int_inv underlying3 l;exact⟨x,rfl⟩) (fun v y hv=>⟨v,rfl⟩) q.bm a.heap.size _ _ _ _ rfl C ?_ ?_)
  | fail)
 ·intro _ _
  clear C D Q
  go_wp2
  go_ret
  exact⟨rfl,ag.new (HR.2.Qi fun b hb=>hb)⟩
 intro x cv F y ps r ad l d f Z J K g ai ap
 obtain⟨s,ex,rfl,aj⟩:=Maps.keyOf_int_inv underlying3 l
 obtain rfl:s=x:=by injection ex with _ e;exact e.symm
 have hy:y=.held cv:=by injection f with f;injection f with f;exact f.symm
 subst hy
 have t:=D _ d
 obtain⟨L,i⟩:∃L,dN dV.T s=some L:=by
  cases hg:dN dV.T s with
  | none=>have:=(HS.out s).1 hg;rw[show(KeyL.lit s:Lit)=.int .i64 s from rfl] at this;rw[this] at t;cases t
  | some L=>exact⟨L,rfl⟩
 have ak:s=0:=by
  have:dV.T=[(0,ib)]:=rfl
  rw[this] at i
  unfold dN at i
  split at i
  ·rename_i e;exact e.symm
  cases i
 subst ak
 have al:cv=.pointer (some ⟨q.β 0,0,none⟩):=by
  have:=(Z .nil).symm.trans (((HS.out 0).2 L i).2 .nil)
  injection this
 subst al
 have aa:b_ (fun b=>b≠a.heap.size) wr r:=⟨g.os,g.tape,g.output,g.size,fun j hj hd=>g.block j hj (fun e=>hd (by injection e))⟩
 have o:b_ (fun b=>b<a.heap.size) a r:=Q.Qd aa fun b hb _=>by show b≠a.heap.size;omega
 have am:=zh o
 have u:=J2 J K
 have ae:w.heap.size<a.heap.size:=W.lt
 have l1:∀m,(Instr.lookup 375 (.map (some w.heap.size)) (.int .i64 0) false).run prog (r.drewN m)=.ok (.int .i64 1) (r.drewN m):=fun m=>by
  have:=((W.keep (o.drewN m) ae).look underlying375 (qt _) (k:=0) (wf0 Zd Zd)).2
  exact this
 obtain⟨A,cp,-,x1,M,-,-,N,-,-,-⟩:=gj (V.item 0 ib rfl)
 have ab:=(V.item 0 ib rfl).lt
 have y2:∀m,(r.drewN m).cell? ⟨q.β 0,2,none⟩=some (.int .i64 1):=fun m=>(o.drewN m).Qb M ab
 have y5:∀m,(r.drewN m).cell? ⟨q.β 0,5,none⟩=some (.bool true):=fun m=>(o.drewN m).Qb N ab
 clear l f Z J K g ai t i aa o D Q C d aj x1 M N
 go_upto_region 10 with fail
 go_quiet (fail)
 go_wp2_with fail
 refine⟨⟨fun z=>left z && !z.sameKey (Lit.int IntKind.i64 0),ad,u.1,fun F h=>HR.1 F (by rw[Bool.and_eq_true] at h;exact h.1),am.drewN nq⟩,?_⟩
 have e1:=u.1.left_eq
 have e2:=ah.left_eq
 show r.rangeLeft q.bm a.heap.size<_
 rw[e1,e2]
 exact u.2
theorem CY:Gv dV.T:=by
 intro w c j hj D A n cp hB hc hc9
 have ai:=@run_makeMap prog
 have hl:=hB.len
 have hn:n=24:=by rw[<- hl];kernel_rfl
 have HN:=zh<|lp D A n cp _ w hB zo
 clear hB hl hn hc hc9 hj
 go_in
 go_wp2_with fail
 refine HN.mono ?_
 rintro e r⟨⟨p,rfl,hp,s⟩,k1⟩
 have g:=zh s
 have V:=zh k1
 have aj:=s.lt
 clear HN s k1
 go_upto_region 3 with fail
 have m1:=fU.made (κ:=Int) (α:=eI) r (fun _ _=>.pointer (some ⟨0,0,none⟩))
 have W:=(zN r).alloc (.map #[] 0)
 have z2:(r.alloc (.map #[] 0)).heap.size=r.heap.size+1:=by simp
 generalize O:r.heap.size=a at *
 generalize r.alloc (.map #[] 0)=u at *
 have G:=(zN u).alloc (.cells #[.map (some a)] 217)
 have X:=heap_alloc_new u (.cells #[.map (some a)] 217)
 have z3:(u.alloc (.cells #[.map (some a)] 217)).heap.size=u.heap.size+1:=by simp
 rw[z2] at X z3
 generalize u.alloc (.cells #[.map (some a)] 217)=w3 at *
 have ab:w.heap.size<=a:=by rw[<- O];exact V.size
 have i:=zh<|iB _ p _ w3 ((g.keep W).keep G)
 rw[tn0] at i
 dsimp only at i
 have y:=J3 X (m1.new G) (V.new (W.new G))
 have ac:=zh z3
 clear W G X m1 z2 z3 O g V
 go_wp2_with fail
 refine i.mono ?_
 rintro e H⟨rfl,P,z⟩
 have g:=zh P
 have ad:=zh<|y.2.2.Qd z fun b hb _=>by show b≠p;omega
 have B:Hid (H.heap[a+1]?=some (.cells #[.map (some a)] 217 (0,0))/\fU H a (fun(_:Int) (_:eI)=>.pointer (some ⟨0,0,none⟩)) []):=zh ⟨(z.block (a+1) (Array.getElem?_eq_some_iff.1 y.1).1 (by show a+1≠p;omega)).trans y.1,y.2.1.keep z (by show a≠p;omega)⟩
 have ak:a+2<=H.heap.size:=by have:=z.size;have:=ac.out;omega
 clear i P z y
 go_wp2_with fail
 go_loopw [6,16] (fun s6 l I=>(s6=.int .i64 (-1)/\l=.int .i64 0/\I=H)\/(s6=.int .i64 0/\l=.int .i64 1/\New w I/\RdD (fun b=>b<p) I p ⟨[],0⟩/\∃q,ea I (c.on w.heap.size fun _=>j) j (a+1) q dV.T)) (fun _ l _=>1-(intOf l).toNat)
 case atStart=>exact .inl ⟨rfl,rfl,rfl⟩
 rcases hrel with⟨rfl,rfl,rfl⟩|⟨rfl,rfl,hK,s,q,Y⟩
 ·have Q:=zh<|CV g.out
  go_wp2_with fail
  refine Q.mono ?_
  rintro e J⟨⟨d,K,A5,ae,rfl,af,ag,Z,ah,m,aa,R⟩,S,L⟩
  have t5:J.heap[a+1]?=some (.cells #[.map (some a)] 217 (0,0)):=(L.block (a+1) (Array.getElem?_eq_some_iff.1 B.1).1 (by show a+1≠p;omega)).trans B.1
  have m5:fU J a (fun(_:Int) (_:eI)=>.pointer (some ⟨d,0,none⟩)) []:=(B.2.keep L (by show a≠p;omega)).fn fun k x h=>by cases h
  obtain⟨M,C,m6,t,z6⟩:=m5.store underlying215 Zd (k:=0) (wf0 Zd Zd) ib
  replace C:(Instr.mapUpdate 215 (.map (some a)) (.int .i64 0) (.pointer (some ⟨d,0,none⟩))).run prog J=.ok () M:=C
  have c5:=a_ t5 (k:=0) rfl
  have i5:=a_ m (k:=0) rfl
  have E:d<J.heap.size:=(Zl m)
  have x6:=(t.block d E (by show d≠a;omega)).trans m
  have t6:=(t.block (a+1) (Zl t5) (by show a+1≠a;omega)).trans t5
  have n6:=fU.keep R t (by show K≠a;omega)
  have N:Hid (New w M/\RdD (fun b=>b<p) M p ⟨[],0⟩/\∃q,ea M (c.on w.heap.size fun _=>j) j (a+1) q dV.T):=zh ⟨(ad.Qd L fun b hb _=>by show b≠p;omega).Qd t fun b hb _=>by show b≠a;omega,S.keepE t (by show p≠a;omega) fun b _ hb=>by show b≠a;omega,⟨a,fun _=>d,fun _=>K⟩,by
   have o:∀b,w.heap.size<=b->(c.on w.heap.size fun _=>j) b=j:=fun b hb=>c.Qf _ hb
   refine⟨t6,m6,fun k f hg=>?_,⟨o _ zo,o _ ab⟩,fun k k' f it' h1 h2 h3=>?_,fun k f _ _=>by show K≠a;omega⟩
   ·have h0:k=0/\f=ib:=by
     rw[show dV.T=[(0,ib)] from rfl] at hg
     unfold dN at hg
     split at hg
     ·rename_i e;injection hg with hg;exact⟨e.symm,hg.symm⟩
     cases hg
    obtain⟨rfl,rfl⟩:=h0
    exact⟨o d zo,⟨A5,ae,x6,Nat.zero_le _,aa,⟨by simp[ib,eD],fun h=>absurd h (by simp[ib,eD])⟩⟩,fun _=>⟨o K zo,n6⟩,fun _=>rfl⟩
   exfalso
   have hz:∀k f,dN dV.T k=some f->k=0:=fun k f hg=>by
    rw[show dV.T=[(0,ib)] from rfl] at hg
    unfold dN at hg
    split at hg
    ·rename_i e;exact e.symm
    cases hg
   exact h3 ((hz k f h1).trans (hz k' it' h2).symm)⟩
  clear Q m R S L t5 m5 m6 t z6 x6 t6 n6 af ag Z ah E
  go_wp2
  go_roundw
  case rel=>exact .inr ⟨rfl,by go_num,N.out⟩
  simp[intOf]
 have F:=zh<|qD _ p _ wr s
 rw[show(RdS.mk [] 0).endOf=0 from rfl] at F
 have U:=zh<|zU Y
 have HT:=J2 hK Y
 clear s hK Y
 go_wp2_with fail
 refine F.mono ?_
 rintro e w7⟨rfl,rfl⟩
 go_wp2_with fail
 refine U.mono ?_
 rintro e w8⟨rfl,k8⟩
 have N:=J2 (HT.1.new k8) (HT.2.new k8)
 clear k8 U F
 go_wp2
 refine Zb (.tuple #[.pointer (some ⟨a+1,0,none⟩),.int .i64 0]) (by simp[results,results263,go_sem]) ?_
 exact⟨a+1,q,c.on w.heap.size fun _=>j,rfl,N.1,zo,c.Qg w _,N.2⟩
