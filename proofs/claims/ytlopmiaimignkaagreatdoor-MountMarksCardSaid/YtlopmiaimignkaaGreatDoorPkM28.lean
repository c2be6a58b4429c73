/-
  PROVED HERE: what point.Decode answers of a point's bytes; condition: a mark that may be, and that fits.
-/
import Derived.Test.YtlopmiaimignkaaGreatDoorPkM27
set_option maxRecDepth 100000
set_option maxHeartbeats 1000000
namespace Go.Proofs.YtlopmiaimignkaaGreatDoor
open Go.Proofs.Tryz
open Go.RowKit
theorem nY{w:World}{g:Nat}{c0 c1 c2 c3 c4:Value}{t:TypeId}(h:w.heap[g]?=some (.cells #[c0,c1,c2,c3,c4] t (0,0)))(x0 x1 x2 x3 x4:Value):
  (((((w.setCell ⟨g,0,none⟩ x0).setCell ⟨g,1,none⟩ x1).setCell ⟨g,2,none⟩ x2).setCell ⟨g,3,none⟩ x3).setCell ⟨g,4,none⟩ x4).heap[g]?=some (.cells #[x0,x1,x2,x3,x4] t (0,0)) /\
  b_ (fun b=>b≠g) w (((((w.setCell ⟨g,0,none⟩ x0).setCell ⟨g,1,none⟩ x1).setCell ⟨g,2,none⟩ x2).setCell ⟨g,3,none⟩ x3).setCell ⟨g,4,none⟩ x4):=by
 have a:∀(W:World) (k:Nat) (u:Value),b_ (fun b=>b≠g) w W->b_ (fun b=>b≠g) w (W.setCell ⟨g,k,none⟩ u):=fun W k u c=>c.setCell (p:=⟨g,k,none⟩) (fun hd=>absurd rfl hd) u
 exact⟨dM (dM (dM (dM (dM h 0 x0) 1 x1) 2 x2) 3 x3) 4 x4,a _ _ _ (a _ _ _ (a _ _ _ (a _ _ _ (a _ _ _ (b_.refl _ w)))))⟩
def Ca(w w':World)(m:kV)(v:Value):Prop:=∃H hc B dc,v=.agg #[.int .u64 m.gen,.int .u64 m.seq,.int .i64 m.segs,.slice H 32 hc,.slice B m.data.length dc] /\
 (Bs w' (fun b=>w.heap.size<=b) H 32 m.head/\32<=hc/\hc<=9223372036854775807)/\(Bs w' (fun b=>w.heap.size<=b) B m.data.length m.data/\m.data.length<=dc/\dc<=9223372036854775807)
theorem ym{s p g:Int}{m:kV}(hr:fg s p g=true)(hm:ol p g m)(hfit:(m.data.length:Int)<=128*p-94){D:Nat->Prop}{A:Option Addr}{n c:Nat}{w:World}(hB:Bs w D A n (eG p m))(hn:(n:Int)=128*p)(hc:n<=c)(hc9:c<=9223372036854775807):
  Calls prog 222 #[.agg #[.int .i64 s,.int .i64 p,.int .i64 g],.slice A n c] w fun e w'=>(∃v,e=.returned (.tuple #[v,.int .i64 0])/\Ca w w' m v)/\New w w':=by
 have a2:=fX hr
 obtain⟨g',q',s',a',b',r1,r2,r3,r4,r5,r6,r7,r8,r9,hP⟩:=yi hm zo zo
 obtain⟨z,hz⟩:=zx ((128*p).toNat-94-m.data.length)
 rw[<- hz] at hP
 have HR:=fun W=>zh (kP s p g zo W)
 rw[hr] at HR
 have HM:=fun(A:Option Addr) (cc:Nat) W=>zh (tG (s:=s) hm A none 32 cc 0 0 rfl W)
 have HO:=fun W=>zh (vo hr W)
 obtain⟨bs,aA⟩:=zx (eG p m)
 rw[<- aA] at hB hP
 have hsh:=hP.hash
 have aT:=hm.gen
 have aU:=hm.seq
 have ay:=hm.segs
 have aB:=hm.head
 obtain⟨gen,seq,segs,head,data⟩:=m
 dsimp only at *
 obtain⟨j,aC⟩:=zx (data.length)
 have eg:=hP.hg
 have eq:=hP.hq
 have es:=hP.hs
 dsimp only at eg eq es
 obtain⟨cs,ab⟩:=zx (fp (bs.take 58))
 have qa:IntKind.u32.wrap (a':Int)=wv (cs >>> 16):=by rw[hP.ha,<- ab,IntKind.wrap_u32];have:=uY (cs >>> 16);omega
 have qb:IntKind.u32.wrap (b':Int)=wv (cs &&& 65535#32):=by rw[hP.hb,<- ab,IntKind.wrap_u32];have:=uY (cs &&& 65535#32);omega
 have q1:IntKind.i64.wrap (128*p)=128*p:=IntWalk.i64_in _ zo
 have q2:IntKind.u64.wrap (128*p-94)=128*p-94:=by rw[IntKind.wrap_u64];omega
 have q3:IntKind.i64.wrap (j:Int)=(j:Int):=IntWalk.i64_in _ zo
 have q4:IntKind.i64.wrap (94+(j:Int))=94+(j:Int):=IntWalk.i64_in _ zo
 have d0:((n:Int) !=128*p)=false:=by simp[hn]
 have d1:decide (128*p-94<(j:Int))=false:=decide_eq_false zo
 have bp:94+j<=n:=by omega
 have bq:j<=200000:=by omega
 have a6:n-(94+j)=z:=by omega
 have bt:n<=200000:=by omega
 have I:=zh hP
 have aD:=zh hB
 have a7:=zh ab
 have F:=zh aC
 have a8:=zh aB
 have aj:=J3 eg eq es
 clear hr hm hP hB aA hsh aT aU ay aB a2 hz ab aC eg eq es
 have kA:=((zN w).alloc (.cells #[.int .i64 s,.int .i64 p,.int .i64 g] 35)).alloc (.cells #[.int .u64 0,.int .u64 0,.int .i64 0,.slice none 0 0,.slice none 0 0] 101)
 have x1:=((zN (w.alloc (.cells #[.int .i64 s,.int .i64 p,.int .i64 g] 35))).alloc (.cells #[.int .u64 0,.int .u64 0,.int .i64 0,.slice none 0 0,.slice none 0 0] 101)).Qa (heap_alloc_new w (.cells #[.int .i64 s,.int .i64 p,.int .i64 g] 35)) trivial
 have x2:=heap_alloc_new (w.alloc (.cells #[.int .i64 s,.int .i64 p,.int .i64 g] 35)) (.cells #[.int .u64 0,.int .u64 0,.int .i64 0,.slice none 0 0,.slice none 0 0] 101)
 rw[show(w.alloc (.cells #[.int .i64 s,.int .i64 p,.int .i64 g] 35)).heap.size=w.heap.size+1 from by simp] at x2
 go_in
 go_upto_region 1 with fail
 generalize hgp:w.heap.size=o at *
 generalize (w.alloc (.cells #[.int .i64 s,.int .i64 p,.int .i64 g] 35)).alloc (.cells #[.int .u64 0,.int .u64 0,.int .i64 0,.slice none 0 0,.slice none 0 0] 101)=w1 at *
 have HG:=zh hgp
 obtain⟨p0,p1,p2⟩:=cs3 x1
 have J:=J2 x1 x2
 have P:=zh kA
 clear x1 x2 kA hgp
 go_wp2_with fail
 refine(HR _).mono ?_
 rintro e w2⟨rfl,k2⟩
 replace J:=J2 (k2.Qa J.1 zt) (k2.Qa J.2 zt)
 replace P:=zh<|P.new k2
 clear p0 p1 p2 k2 HR
 obtain⟨p0,p1,p2⟩:=cs3 J.1
 have aE:=zh<|kh D A n c bs w2 (aD.new P.out) zo
 go_wp2_with fail
 refine aE.mono ?_
 rintro e w3⟨⟨f,rfl,ba,h⟩,k3⟩
 have HK:=zh k3
 have aF:o+1<w2.heap.size:=(Array.getElem?_eq_some_iff.1 J.2).1
 have bu:o+1<f:=Nat.lt_of_lt_of_le aF ba
 have HQ:Hid (∀W,b_ (fun b=>b≠f) w3 W->b_ (fun b=>b<f) w2 W):=zh fun W hW=>(b_.Qe (D:=fun b=>b<f) HK.out).Qd hW fun b _ hb=>Nat.ne_of_lt hb
 have Q:=zh<|lC f ⟨bs,0⟩ w3 h
 rw[I.e1] at Q
 dsimp only at Q
 rw[aj.1] at Q
 clear aE k3 h p0 p1 p2 aF
 have l:=zh<|b_.refl (fun b=>b≠f) w3
 go_wp2_with fail
 refine Q.mono ?_
 rintro e w4⟨rfl,h,k4⟩
 replace l:=zh<|l.trans k4
 have R:=zh<|lC f ⟨r1,0⟩ w4 h
 rw[I.e2] at R
 dsimp only at R
 rw[aj.2.1] at R
 clear Q k4 h
 go_wp2_with fail
 refine R.mono ?_
 rintro e w5⟨rfl,h,k5⟩
 replace l:=zh<|l.trans k5
 have S:=zh<|jk f ⟨r2,0⟩ w5 h
 rw[I.e3] at S
 dsimp only at S
 rw[aj.2.2] at S
 clear R k5 h
 go_wp2_with fail
 refine S.mono ?_
 rintro e w6⟨rfl,h,k6⟩
 replace l:=zh<|l.trans k6
 have T:=zh<|jr f ⟨r3,0⟩ 32 w6 h
 have e4:=I.e4
 dsimp only at e4
 rw[e4] at T
 dsimp only at T
 rw[a8.out] at T
 have bx:=h.lt
 clear S k6 h e4
 go_wp2_with fail
 refine T.mono ?_
 rintro e w7⟨⟨G,M,rfl,o4⟩,h,k7⟩
 replace l:=zh<|l.trans k7
 have ac:=zh o4
 have t:=zh h
 clear T k7 h o4
 go_upto_region 5 with fail
 have kM:=(zN w7).alloc (.cells #[.int .u64 gen,.int .u64 seq,.int .i64 segs,.slice G 32 M,.slice none 0 0] 101)
 have xM:=heap_alloc_new w7 (.cells #[.int .u64 gen,.int .u64 seq,.int .i64 segs,.slice G 32 M,.slice none 0 0] 101)
 have bz:f<w7.heap.size:=t.lt
 generalize w7.alloc (.cells #[.int .u64 gen,.int .u64 seq,.int .i64 segs,.slice G 32 M,.slice none 0 0] 101)=w8 at *
 generalize aV:w7.heap.size=i at *
 have a:=zh xM
 replace l:=zh<|l.new kM
 have d:Hid (Bs w8 (fun b=>w6.heap.size<=b/\b<i) G 32 head):=zh (((Row.Qc ac.out).imp (E:=fun b=>w6.heap.size<=b/\b<i) fun b hb hd=>⟨hd,by rw[<- aV];exact hb⟩).new kM)
 have bb:=J2 (ew ac.out) (eh ac.out)
 have U:=zh<|lC f ⟨r4,0⟩ w8 (t.keep kM)
 have e5:=I.e5
 dsimp only at e5
 rw[e5] at U
 dsimp only at U
 rw[<- F.out] at U
 clear ac t kM xM e5
 go_wp2_with fail
 refine U.mono ?_
 rintro e w9⟨rfl,h,k9⟩
 replace l:=zh<|l.trans k9
 have aW:=k9.size
 replace a:=zh<|(k9.block i (Array.getElem?_eq_some_iff.1 a.out).1 (by show i≠f;omega)).trans a.out
 replace d:=zh<|d.keep k9 fun b _ hb=>by show b≠f;omega
 have ad:=zh<|jk f ⟨r5,0⟩ w9 h
 have e6:=I.e6
 rw[e6] at ad
 dsimp only at ad
 clear U k9 h e6 aW
 go_wp2_with fail
 refine ad.mono ?_
 rintro e bc⟨rfl,h,ae⟩
 replace l:=zh<|l.trans ae
 replace a:=zh<|(ae.block i (Array.getElem?_eq_some_iff.1 a.out).1 (by show i≠f;omega)).trans a.out
 replace d:=zh<|d.keep ae fun b _ hb=>by show b≠f;omega
 have af:=zh<|jk f ⟨r6,0⟩ bc h
 rw[I.e7] at af
 dsimp only at af
 clear ad ae h
 go_wp2_with fail
 refine af.mono ?_
 rintro e aG⟨rfl,h,ag⟩
 replace l:=zh<|l.trans ag
 replace a:=zh<|(ag.block i (Array.getElem?_eq_some_iff.1 a.out).1 (by show i≠f;omega)).trans a.out
 replace d:=zh<|d.keep ag fun b _ hb=>by show b≠f;omega
 have bA:i<aG.heap.size:=(Array.getElem?_eq_some_iff.1 a.out).1
 have V:=zh<|jr f ⟨r7,0⟩ 32 aG h
 have e8:=I.e8
 dsimp only at e8
 have ak:=gy data
 obtain⟨hs,al⟩:=zx (gL data)
 rw[<- al] at e8 ak
 rw[e8] at V
 dsimp only at V
 rw[ak] at V
 have bd:=zh al
 clear af ag h e8 al ak
 go_wp2_with fail
 refine V.mono ?_
 rintro e aH⟨⟨aI,be,rfl,aJ⟩,h,ah⟩
 replace l:=zh<|l.trans ah
 replace a:=zh<|(ah.block i (Array.getElem?_eq_some_iff.1 a.out).1 (by show i≠f;omega)).trans a.out
 replace d:=zh<|d.keep ah fun b _ hb=>by show b≠f;omega
 have q:=zh<|Row.Qc aJ
 have t:=zh h
 have aK:Hid (∀W,b_ (fun b=>b≠f) w3 W->Bs W (fun b=>b<f) A n bs):=zh fun W hW=>((aD.imp (E:=fun b=>b<f) fun b hb _=>by have:=HG.out;omega).new P.out).keep (HQ.out W hW) fun b _ hb=>hb
 have am:=zh<|pn _ A 58 c (bs.take 58) aH ((aK.out _ l.out).Qk zo) Zd
 rw[<- a7.out] at am
 clear V ah h aJ
 go_wp2_with fail
 refine am.mono ?_
 rintro e aL⟨rfl,rfl⟩
 rw[xn]
 have p0:=(HQ.out _ l.out).Qb (a_ J.1 (k:=0) rfl) (by show o<f;omega)
 have p1:=(HQ.out _ l.out).Qb (a_ J.1 (k:=1) rfl) (by show o<f;omega)
 have p2:=(HQ.out _ l.out).Qb (a_ J.1 (k:=2) rfl) (by show o<f;omega)
 obtain⟨m0,m1,m2,m3,m4⟩:=cs5 a.out
 have aM:=HM G M aH
 clear HM am
 go_wp2_with fail
 refine aM.mono ?_
 rintro e aL⟨rfl,y⟩
 have p0:=y.Qb p0 trivial
 have p1:=y.Qb p1 trivial
 have p2:=y.Qb p2 trivial
 have aN:=HO aL
 have aX:=zh<|l.new y
 replace a:=zh<|y.Qa a.out zt
 replace t:=zh<|t.keep y
 replace q:=zh<|q.new y
 replace d:=zh<|d.new y
 clear aM HO y m0 m1 m2 m3 m4
 go_wp2_with fail
 refine aN.mono ?_
 rintro e an⟨rfl,K⟩
 have ao:=zh<|aX.new K
 replace a:=zh<|K.Qa a.out zt
 replace t:=zh<|t.keep K
 replace q:=zh<|q.new K
 replace d:=zh<|d.new K
 obtain⟨X,hX⟩:∃X,(if c=94+j then A else Option.map (fun x=>x.add (94+j)) A)=X:=⟨_,rfl⟩
 have ap:Hid (∀cc,z<=cc->cc<=9223372036854775807->Calls prog 120 #[.slice X z cc,.string { data:=#[0] }] an fun e w'=>xe (bs.drop (94+j)) e/\New an w'):=zh (fun cc h1 h2=>by
  refine xv (fun b=>b<f) _ _ cc _ an ?_ h1 h2
  have aq:=aK.out _ ao.out
  by_cases e:c=94+j
  ·have e1:z=0:=by omega
   have e2:bs.drop (94+j)=[]:=List.drop_eq_nil_of_le (by have:=aq.len;omega)
   rw[e1,e2];exact Row.nil _ _ _ _
  rw[<- hX,if_neg e,<- a6];exact Bs.from_ aq zo)
 have ai:=I.tail
 dsimp only at ai
 rw[<- F.out] at ai
 rw[ai] at ap
 clear aN K p0 p1 p2 ai
 go_wp2_with fail
 all_goals
  refine(ap.out _ zo zo).mono ?_
  rintro e aO⟨⟨At,mt,ct,rfl,-,aP⟩,L⟩
  obtain rfl:mt=0:=aP fun x hx=>(List.mem_replicate.1 hx).2
  have aY:=zh<|ao.new L
  replace a:=zh<|L.Qa a.out zt
  replace q:=zh<|q.new L
  replace d:=zh<|d.new L
  have Y:=zh<|jr f ⟨r8,0⟩ j aO (t.keep L)
  have e9:=I.e9
  dsimp only at e9
  rw[<- F.out] at e9
  rw[e9] at Y
  dsimp only at Y
  rw[<- F.out] at Y
  clear ap L aP hX e9 t
  go_wp2_with fail
  refine Y.mono ?_
  rintro e ar⟨⟨u,B,rfl,aQ⟩,-,Z⟩
  have aZ:=zh<|aY.trans Z
  have az:i<aO.heap.size:=(Array.getElem?_eq_some_iff.1 a.out).1
  replace a:=zh<|(Z.block i az (by show i≠f;omega)).trans a.out
  replace q:=zh<|q.keep Z fun b _ hb=>by show b≠f;omega
  replace d:=zh<|d.keep Z fun b _ hb=>by show b≠f;omega
  have N:=zh aQ
  have m4:=a_ a.out (k:=4) rfl
  have z4:=dP a.out 4
  clear Y Z aQ
  go_upto_region 13 with fail
  have xS:=dM a.out 4 (.slice u j B)
  have kS:=(b_.refl (fun b=>b≠i) ar).setCell (p:=⟨i,4,none⟩) (fun hd=>absurd rfl hd) (.slice u j B)
  have bf:i<ar.heap.size:=(Array.getElem?_eq_some_iff.1 a.out).1
  generalize ar.setCell ⟨i,4,none⟩ (.slice u j B)=C at *
  have aR:C.heap[i]?=some (.cells #[.int .u64 gen,.int .u64 seq,.int .i64 segs,.slice G 32 M,.slice u j B] 101 (0,0)):=xS
  replace a:=zh aR
  have O:Hid (Bs C (fun b=>o+2<=b/\b≠i) u j data):=zh ((((Row.Qc N.out).imp (E:=fun b=>o+2<=b/\b≠i) fun b _ hb=>⟨zo,zo⟩).keep kS fun b _ hb=>hb.2))
  have au:Hid (Bs C (fun b=>o+2<=b/\b≠i) G 32 head):=zh ((d.imp (E:=fun b=>o+2<=b/\b≠i) fun b _ hb=>⟨zo,zo⟩).keep kS fun b _ hb=>hb.2)
  have a1:Hid (Bs C (fun b=>o+2<=b/\b≠i) aI 32 hs):=zh ((q.imp (E:=fun b=>o+2<=b/\b≠i) fun b _ hb=>⟨zo,zo⟩).keep kS fun b _ hb=>hb.2)
  have av:=J2 (ew N.out) (eh N.out)
  have r:Hid (C.heap[o+1]?=some (.cells #[.int .u64 0,.int .u64 0,.int .i64 0,.slice none 0 0,.slice none 0 0] 101 (0,0))/\New w C):=zh (by
   have h1:=HQ.out _ aZ.out
   have h2:b_ (fun b=>b<f) w2 C:=h1.Qd kS fun b _ hb=>by show b≠i;omega
   exact⟨(h2.block (o+1) (Array.getElem?_eq_some_iff.1 J.2).1 (by show o+1<f;omega)).trans J.2,(P.Qd h2 fun b hb _=>by have:=HG.out;omega)⟩)
  have y4:=a_ a.out (k:=4) rfl
  have aS:=zh<|mm _ u j B data C O.out (by have:=av.out;omega) (by have:=F.out;omega)
  clear xS aR kS m4 z4 N d q
  go_wp2_with fail
  refine aS.mono ?_
  rintro e bg⟨⟨bh,bi,rfl,aw⟩,H⟩
  rw[<- bd.out] at aw
  have aa:=zh<|nA _ _ bh aI 32 bi 32 be hs hs bg (Row.Qc aw) (a1.new H)
  replace a:=zh<|H.Qa a.out zt
  replace O:=zh<|O.new H
  replace au:=zh<|au.new H
  replace r:=J2 (H.Qa r.1 zt) (r.2.new H)
  rw[show(hs==hs)=true from by simp] at aa
  clear aS H aw y4
  go_wp2_with fail
  refine aa.mono ?_
  rintro e bB⟨rfl,rfl⟩
  obtain⟨m0,m1,m2,m3,m4⟩:=cs5 a.out
  have bj:=a_ r.1 (k:=0) rfl
  have bl:=a_ r.1 (k:=1) rfl
  have bm:=a_ r.1 (k:=2) rfl
  have bn:=a_ r.1 (k:=3) rfl
  have bo:=a_ r.1 (k:=4) rfl
  obtain⟨z0,z1,z2,z3,z4⟩:=fz5 r.1
  clear aa
  go_wp2_with fail
  clear bj bl bm bn bo z0 z1 z2 z3 z4 m0 m1 m2 m3 m4
  obtain⟨hE,ax⟩:=nY r.1 (.int .u64 gen) (.int .u64 seq) (.int .i64 segs) (.slice G 32 M) (.slice u j B)
  generalize bC:World.setCell _ _ _=wE at *
  have f0:wE.cell? ⟨o+1,0,none⟩=some (.int .u64 gen):=a_ hE rfl
  have f1:wE.cell? ⟨o+1,1,none⟩=some (.int .u64 seq):=a_ hE rfl
  have f2:wE.cell? ⟨o+1,2,none⟩=some (.int .i64 segs):=a_ hE rfl
  have f3:wE.cell? ⟨o+1,3,none⟩=some (.slice G 32 M):=a_ hE rfl
  have f4:wE.cell? ⟨o+1,4,none⟩=some (.slice u j B):=a_ hE rfl
  refine Zb (.tuple #[.agg #[.int .u64 gen,.int .u64 seq,.int .i64 segs,.slice G 32 M,.slice u j B],.int .i64 0]) (by simp[results,results222,go_sem,f0,f1,f2,f3,f4]) ?_
  refine⟨⟨_,rfl,G,M,u,B,by rw[F.out],⟨(au.keep ax fun b _ hb=>by show b≠o+1;omega).imp fun b _ hb=>by have:=HG.out;omega,bb.out⟩,?_⟩,r.2.Qd ax fun b hb _=>by show b≠o+1;have:=HG.out;omega⟩
  dsimp only
  rw[<- F.out]
  exact⟨(O.keep ax fun b _ hb=>by show b≠o+1;omega).imp fun b _ hb=>by have:=HG.out;omega,av.out⟩
