/-
  PROVED HERE: parts of a law's walk, each under the conditions that its statement names.
-/
import Derived.Test.YtlopmiaimignkaaGreatDoorPkM37
set_option maxRecDepth 100000
set_option maxHeartbeats 2000000
namespace Go.Proofs.YtlopmiaimignkaaGreatDoor
open Go.Proofs.Tryz
open Go.RowKit
variable{base bw cl g i k p:Nat}{w:World}{q:g9}{S id:List UInt8}{s s' sr:d'}{o:OpP}{a:ji}{c:Col}{K:fe}{A:Option Addr}
theorem jok:fe.Ok ⟨1,2,3⟩:=⟨⟨Zd,Zd,Zd⟩,Zd,Zd,Zd⟩
theorem mM{k:Int}{it:eI}(h:dN dV.T k=some it):k=0/\it=eD 2:=by
 unfold dV at h
 dsimp only at h
 unfold dN at h
 split at h
 ·rename_i e
  injection h with h
  exact⟨e.symm,h.symm⟩
 cases h
theorem Fj:eo dV.T where
 rising:=List.pairwise_singleton _ _
 names:=fun k a h=>by obtain⟨-,rfl⟩:=mM h;exact List.Pairwise.nil
 few:=by decide
 ids:=fun k a h=>by obtain⟨rfl,-⟩:=mM h;exact⟨Int.le_refl _,Zd⟩
 root:=rfl
 node:=fun k a h=>by
  obtain⟨-,rfl⟩:=mM h
  exact⟨.inr rfl,fun e=>absurd e Zd,fun _=>⟨rfl,rfl,rfl,rfl⟩,⟨rfl,Zd⟩,Zd⟩
 leads:=fun d a b k h hn=>by obtain⟨-,rfl⟩:=mM h;cases hn
 count:=fun k a h h0=>absurd (mM h).1 h0
 alive:=fun k a h hl=>by obtain⟨-,rfl⟩:=mM h;exact absurd hl Zd
 depth:=⟨fun _=>0,rfl,fun d a b k h hn=>by obtain⟨-,rfl⟩:=mM h;cases hn⟩
theorem m':fz dV where
 tree:=Fj
 few:=fun k b hg=>by
  obtain⟨-,rfl⟩:=mM hg
  show(1:Int)<=64
  decide
 now:=by decide
 fd:=fun k f hf=>by cases hf
 snaps:=by decide
 snap:=fun x a=>by cases a
 ids:=fun x a=>by cases a
 next:=by decide
 last:=by decide
theorem yw(h0:64<=k)(h1:k<=1000)(hid:id.length=16)(h:iK w q (fu k id))(hml:fD w)(c:Col):
  Calls prog 12 #[.pointer (some ⟨q.bd,0,none⟩)] w (wg w c ⟨1,2,3⟩ 7 q (fu k id) k (k/4) ((k-1-2*(k/4))/8) 0 id 2 0 0 1 (jA id) dV) :=
 tR (fr:=0) h (lV h0 hid) (vM h0 zo hid) (Cr h0 hid _) (Cq h0 hid _) (.inl ⟨by show(1:Int)<=2;decide,rfl,rfl⟩) rfl rfl (by show(0:Int)<_;decide) (D' h0 hid _ _) (fn:=0) rfl (se:=0) rfl rfl (Nat.zero_le _) (fun i _ hi a=>ug h0 hid hi a.1) (rs:=[]) rfl Zd (fun r a=>by cases a) (st:=fun _=>dV) rfl (fun n hn=>absurd hn (Nat.not_lt_zero n)) m' hml c ⟨1,2,3⟩ jok 7 ⟨s_ rfl,Zd⟩
def uF(w:World)(k:Nat)(e:Ending)(w':World):Prop:=New w w'/\∃(bw:Nat) (c:Col) (K:fe) (q:g9) (v:qp),e=.returned (.pointer (some ⟨bw,0,none⟩))/\(∀b,b<w.heap.size->c b=0) /\
 j2 w' c K w.heap.size bw q v dV dV (lvK k (k/4) ((k-1-2*(k/4))/8) jP ⟨[],[]⟩) none 0 (fu k jP)/\v.na=1/\v.f 4=.int .u64 2/\v.f 7=.int .i64 0
theorem uv(k:Nat)(h0:64<=k)(h1:k<=1000)(w:World)(hml:fD w):Calls prog 4 #[.int .i64 (k:Int)] w (uF w k):=by
 have ac:=zh<|fun W=>zj k h0 zo W
 have ad:=zh<|fun(W:World) (q:g9) (d:New w W) (hC:iK W q (fu k jP))=>yw h0 h1 Zd hC (hml.new d) (Col.on (fun _=>0) w.heap.size fun _=>7)
 have au:Hid (lvK k (k/4) ((k-1-2*(k/4))/8) jP ⟨[],[]⟩=⟨k,k/4,(k-1-2*(k/4))/8,0,1,jA jP,[]⟩):=zh rfl
 have av:=zh hml
 unfold uF
 generalize (k-1-2*(k/4))/8=g at *
 generalize k/4=p at *
 have ae:fe.Ok ⟨8,9,10⟩:=⟨⟨Zd,Zd,Zd⟩,Zd,Zd,Zd⟩
 have HJ:=J3 jok ae jok
 clear ae hml
 go_in
 go_wp2_with fail
 refine(ac.out _).mono ?_
 rintro e w1⟨⟨q,rfl,hq,af⟩,k1⟩
 have F:=zh<|iK.of af
 have Q:=J2 hq k1
 clear af hq k1 ac
 go_wp2_with fail
 refine(FT _).mono ?_
 rintro e w2⟨⟨A2,rfl,ag⟩,k2⟩
 have ah:=zh ag
 have R:=zh<|F.new k2
 have ai:=zh k2
 clear ag k2
 go_wp2_with fail
 obtain⟨aD,aj⟩:=R.out
 refine(Be (k:=k) aj (by rw[List.length_replicate]) h0 h1 R.beyond Zd (fun i b h=>nomatch h) ah.out (fun b hb=>⟨fun e=>by have:=F.lt b (.inl e);omega,fun e=>by have:=F.lt b (.inr (.inr e));omega⟩) Zd).mono ?_
 rintro e w3⟨rfl,k3,aE,ak⟩
 have al:=zh<|iK.of ak
 have G:Hid (New w w3):=zh ((Q.2.new ai.out).Qd k3 fun b hb _=>⟨fun e=>by have:=Q.1 b (.inl e);omega,fun e=>by have:=Q.1 b (.inr (.inl e));omega,fun e=>by have:=Q.1 b (.inr (.inr e));omega⟩)
 clear aj k3 ak ah R F ai
 have HM:=zh<|ad.out _ _ G.out al.out
 clear ad
 go_wp2_with fail
 refine HM.mono ?_
 rintro e o⟨bs,B,c4,v,I,r,H,hc,rfl,O,zb,xc,am,⟨zl,L⟩,S,hI,aw,hH,ax⟩
 have ay:=J6 O am S xc zl L
 clear O xc am S hI aw hH ax zb zl L HM
 have xF:=heap_alloc_new o (.cells #[.int .i64 k,.int .i64 p,.int .i64 g,.slice I 16 r,.int .u64 2,.int .u64 0,.int .i64 0,.int .i64 0,.slice H 32 hc] 37)
 have y:=(zN o).alloc (.cells #[.int .i64 k,.int .i64 p,.int .i64 g,.slice I 16 r,.int .u64 2,.int .u64 0,.int .i64 0,.int .i64 0,.slice H 32 hc] 37)
 go_upto_region 7 with fail
 change Code.wp _ _ _ _ (o.alloc (.cells #[.int .i64 k,.int .i64 p,.int .i64 g,.slice I 16 r,.int .u64 2,.int .u64 0,.int .i64 0,.int .i64 0,.slice H 32 hc] 37))
 generalize o.alloc (.cells #[.int .i64 k,.int .i64 p,.int .i64 g,.slice I 16 r,.int .u64 2,.int .u64 0,.int .i64 0,.int .i64 0,.slice H 32 hc] 37)=w5 at *
 generalize an:o.heap.size=u at *
 have j:=J3 xF y an
 clear xF y an
 have ao:=zh<|tq c4 ⟨8,9,10⟩ HJ.2.1 w5
 go_wp2_with fail
 refine ao.mono ?_
 rintro e a⟨br,c6,rfl,f,z6,T,U⟩
 have H6:=J4 f z6 T U
 have f0:∀W,New a.drew W->W.cell? ⟨u,0,none⟩=some (.int .i64 k):=fun W d=>(b_.new f ((b_.drew (zN a)).new d)).Qb (a_ j.1 (k:=0) rfl) trivial
 have f1:∀W,New a.drew W->W.cell? ⟨u,1,none⟩=some (.int .i64 p):=fun W d=>(b_.new f ((b_.drew (zN a)).new d)).Qb (a_ j.1 (k:=1) rfl) trivial
 have f2:∀W,New a.drew W->W.cell? ⟨u,2,none⟩=some (.int .i64 g):=fun W d=>(b_.new f ((b_.drew (zN a)).new d)).Qb (a_ j.1 (k:=2) rfl) trivial
 have f3:∀W,New a.drew W->W.cell? ⟨u,3,none⟩=some (.slice I 16 r):=fun W d=>(b_.new f ((b_.drew (zN a)).new d)).Qb (a_ j.1 (k:=3) rfl) trivial
 have f4:∀W,New a.drew W->W.cell? ⟨u,4,none⟩=some (.int .u64 2):=fun W d=>(b_.new f ((b_.drew (zN a)).new d)).Qb (a_ j.1 (k:=4) rfl) trivial
 have f5:∀W,New a.drew W->W.cell? ⟨u,5,none⟩=some (.int .u64 0):=fun W d=>(b_.new f ((b_.drew (zN a)).new d)).Qb (a_ j.1 (k:=5) rfl) trivial
 have f6:∀W,New a.drew W->W.cell? ⟨u,6,none⟩=some (.int .i64 0):=fun W d=>(b_.new f ((b_.drew (zN a)).new d)).Qb (a_ j.1 (k:=6) rfl) trivial
 have f7:∀W,New a.drew W->W.cell? ⟨u,7,none⟩=some (.int .i64 0):=fun W d=>(b_.new f ((b_.drew (zN a)).new d)).Qb (a_ j.1 (k:=7) rfl) trivial
 have f8:∀W,New a.drew W->W.cell? ⟨u,8,none⟩=some (.slice H 32 hc):=fun W d=>(b_.new f ((b_.drew (zN a)).new d)).Qb (a_ j.1 (k:=8) rfl) trivial
 have HS:=zh<|pF (J:=⟨1,2,3⟩) (eR.new U (b_.drew (zN a))) vg.few rV Zd HJ.2.2
 clear f z6 T U ao
 go_upto_region 8 with fail
 refine eu (b_ (fun _=>True) a.drew) zk ?_
 have l:b_ (fun _=>True) a.drew a.drew:=b_.refl _ _
 refine c_ 0 l ?_
 refine c_ 1 l ?_
 refine c_ 2 l ?_
 refine c_ 3 l ?_
 refine c_ 4 l ?_
 refine c_ 5 l ?_
 refine dQ (i:=6) zk rfl rfl (fun K z=>?_)
 go_simp
 refine HS.mono ?_
 rintro e c⟨m,V,rfl,k7,z7,A,s7⟩;have H7:=J4 k7 z7 A s7;clear z7 A s7
 go_wp2_with fail
 have n:=b_.new l k7
 refine z _ _ n ?_
 clear z K
 try simp only[zy]
 replace l:=n
 clear n
 have k8:=(zN c).alloc (.cells #[.pointer (some ⟨m,0,none⟩)] 38)
 refine dQ (i:=7) zk rfl rfl (fun K z=>?_)
 go_simp
 go_wp2_with fail
 have n:=b_.new l k8
 refine z _ _ n ?_
 clear z K
 try simp only[zy]
 replace l:=n
 clear n
 refine c_ 8 l ?_
 have k9:=(zN (c.alloc (.cells #[.pointer (some ⟨m,0,none⟩)] 38))).alloc (.cells #[.pointer (some ⟨q.bd,0,none⟩),.pointer (some ⟨bs,0,none⟩),.pointer (some ⟨v,0,none⟩),.int .i64 k,.int .i64 p,.int .i64 g,.slice I 16 r,.int .u64 2,.int .u64 0,.int .i64 0,.int .i64 0,.slice H 32 hc,.pointer (some ⟨br,0,none⟩),.slice (some ⟨c.heap.size,0,none⟩) 1 1] 41)
 refine dQ (i:=9) zk rfl rfl (fun K z=>?_)
 go_simp
 go_wp2_with fail
 have n:=b_.new l k9
 refine z _ _ n ?_
 clear z K
 try simp only[zy]
 replace l:=n
 clear n
 refine c_ 10 l ?_
 refine wpAnyH_done zk ?_ _
 go_wp2
 go_ret
 obtain⟨O,s4,l4,x4,zl,L⟩:=ay.out
 obtain⟨xF,y,eF⟩:=j.out
 obtain⟨f,z6,T,U⟩:=H6.out
 obtain⟨-,z7,A,s7⟩:=H7.out
 have A:Ext a c6 V:=A
 have aF:=f.drew.new k7
 have C:New a c:=(b_.drew (zN a)).new k7
 have ap:=heap_alloc_new c (.cells #[.pointer (some ⟨m,0,none⟩)] 38)
 have az:=k9.Qa ap trivial
 have X:=heap_alloc_new (c.alloc (.cells #[.pointer (some ⟨m,0,none⟩)] 38)) (.cells #[.pointer (some ⟨q.bd,0,none⟩),.pointer (some ⟨bs,0,none⟩),.pointer (some ⟨v,0,none⟩),.int .i64 k,.int .i64 p,.int .i64 g,.slice I 16 r,.int .u64 2,.int .u64 0,.int .i64 0,.int .i64 0,.slice H 32 hc,.pointer (some ⟨br,0,none⟩),.slice (some ⟨c.heap.size,0,none⟩) 1 1] 41)
 rw[show(c.alloc (.cells #[.pointer (some ⟨m,0,none⟩)] 38)).heap.size=c.heap.size+1 from by simp] at X
 have M:=b_.new k8 k9
 have Y:New o ((c.alloc (.cells #[.pointer (some ⟨m,0,none⟩)] 38)).alloc (.cells #[.pointer (some ⟨q.bd,0,none⟩),.pointer (some ⟨bs,0,none⟩),.pointer (some ⟨v,0,none⟩),.int .i64 k,.int .i64 p,.int .i64 g,.slice I 16 r,.int .u64 2,.int .u64 0,.int .i64 0,.int .i64 0,.slice H 32 hc,.pointer (some ⟨br,0,none⟩),.slice (some ⟨c.heap.size,0,none⟩) 1 1] 41)):=((y.new f).new C).new M
 have aG:=G.size
 have aH:=O.size
 have aI:o.heap.size<=c.heap.size:=((y.new f).new C).size
 clear k8 k9 ap
 generalize (c.alloc (.cells #[.pointer (some ⟨m,0,none⟩)] 38)).alloc (.cells #[.pointer (some ⟨q.bd,0,none⟩),.pointer (some ⟨bs,0,none⟩),.pointer (some ⟨v,0,none⟩),.int .i64 k,.int .i64 p,.int .i64 g,.slice I 16 r,.int .u64 2,.int .u64 0,.int .i64 0,.int .i64 0,.slice H 32 hc,.pointer (some ⟨br,0,none⟩),.slice (some ⟨c.heap.size,0,none⟩) 1 1] 41)=wE at *
 have aJ:o.heap.size<=w5.heap.size:=y.size
 have aK:w5.heap.size<=a.heap.size:=f.size
 have aC:a.heap.size<=c.heap.size:=C.size
 have aL:=M.size
 have aM:c.heap.size+1<wE.heap.size:=(Zl X)
 have N:=Col.Qg V c fun _=>7
 obtain⟨P,aq⟩:=zx (V.on c.heap.size fun _=>7)
 have Z:∀b,c.heap.size<=b->P b=7:=fun b hb=>by rw[aq];exact Col.Qf V _ hb
 rw[<- aq] at N
 have D:∀b,b<o.heap.size->P b=c4 b:=fun b hb=>(N b zo).trans ((A b zo).trans (T b zo))
 have ar:∀b,b<w3.heap.size->P b=(Col.on (fun _=>0) w.heap.size fun _=>7) b:=fun b hb=>(D b zo).trans (x4 b hb)
 have aa:∀b,b<w.heap.size->P b=0:=fun b hb=>(ar b zo).trans (Col.on_old _ _ hb)
 have E:∀b,w.heap.size<=b->b<w3.heap.size->P b=7:=fun b h1 h2=>(ar b h2).trans (Col.Qf _ _ h1)
 have s:=al.lt
 have t:=Q.1
 have aA:v<o.heap.size:=l4.log.lt
 have hml:=av.out
 have ab:mlG<w.heap.size:=by obtain⟨mv,aB⟩:=hml;exact World.block_lt_of_cell? w _ aB
 refine⟨(G.new O).new Y,c.heap.size+1,P,⟨8,9,10⟩,q,⟨q.bd,bs,v,br,fun i=>match i with|0=>.int .i64 k|1=>.int .i64 p|2=>.int .i64 g|3=>.slice I 16 r|4=>.int .u64 2|5=>.int .u64 0|6=>.int .i64 0|7=>.int .i64 0|_=>.slice H 32 hc,some ⟨c.heap.size,0,none⟩,1,1⟩,rfl,aa,?_,rfl,rfl,rfl⟩
 rw[au.out]
 refine⟨X,rfl,⟨B,?_⟩,?_,?_,⟨[.pointer (some ⟨m,0,none⟩)],rfl,.inr ⟨c.heap.size,1,#[.pointer (some ⟨m,0,none⟩)],rfl,zo,az,zr,Zd,rfl,rfl⟩⟩,?_,⟨Z _ zo,(D v aA).trans L,?_,?_,?_,fun k hk=>(by cases hk),fun k hk=>?_,aa mlG ab⟩,hml.new ((G.new O).new Y),⟨zo,by show w.heap.size<=v;omega,t _ (.inl rfl),t _ (.inr (.inl rfl)),t _ (.inr (.inr rfl)),ab,zo⟩,(by decide:1<=1000000)⟩
 ·have e1:ei a c6 ⟨1,2,3⟩ bs B dV.settled:=s4.keep (y.new f) (fun b hb=>T b (Nat.lt_of_lt_of_le hb y.size)) fun _ _ _=>trivial
  exact(e1.keep C A fun _ _ _=>zt).keep M N fun _ _ _=>trivial
 ·have e1:eR c V ⟨8,9,10⟩ br jf:=U.keep C A fun _ _ _=>trivial
  exact e1.keep M N fun _ _ _=>trivial
 ·have h1:=(l4.keepD Y trivial (fun _ _=>zt) (fun k hk=>by cases hk) fun _ _ _=>zt).low (base:=w.heap.size) zo
  refine h1.imp (fun b _ hb=>⟨(D b hb.2).trans hb.1.2.2,by have:=hb.2;omega,fun e=>?_,hb.1.2.1,fun e=>?_,fun e=>?_,fun e=>?_⟩) (fun hd=>hd.2.2.2.1 rfl) fun b hd=>hd.2.2.2.2
  ·have e:some b=some c.heap.size:=e
   injection e with e
   have:=hb.2
   omega
  ·have:=s b (.inl e);have:=hb.1.1;omega
  ·have:=s b (.inr (.inl e));have:=hb.1.1;omega
  have:=s b (.inr (.inr e));have:=hb.1.1;omega
 ·rintro x (e|e|e) <;> rw[e] <;> decide
 ·exact E _ (t _ (.inl rfl)) (s _ (.inl rfl))
 ·exact E _ (t _ (.inr (.inl rfl))) (s _ (.inr (.inl rfl)))
 ·exact E _ (t _ (.inr (.inr rfl))) (s _ (.inr (.inr rfl)))
 have hk:some c.heap.size=some k:=hk
 injection hk with hk
 exact Z _ zo
theorem Bl(w:World)(hml:fD w):Calls prog 16 #[] w fun e w'=>e=.returned (.bool true)/\New w w':=by
 have G:fe.Ok ⟨1,2,3⟩:=⟨⟨Zd,Zd,Zd⟩,Zd,Zd,Zd⟩
 have aa:=zh G
 have H:=zh<|uv 64 Zd Zd w hml
 have I:=zh<|fun W=>zj 64 Zd Zd W
 clear G
 go_in
 go_wp2_with fail
 refine H.mono ?_
 rintro e w1⟨k1,bw,c,KK,q1,v1,rfl,-,o,-,J,L⟩
 obtain⟨B,s⟩:=o.st
 have hx:=o.cells
 have M:w.heap.size<=bw:=o.low.1
 obtain⟨bs,t⟩:=zx (v1.bs)
 rw[<- t] at s
 have U:=J3 J L t
 have u:=J4 k1 M hx s
 clear H k1 M hx s o J L t hml
 go_wp2_with fail
 refine(I.out _).mono ?_
 rintro e w2⟨⟨q,rfl,hq,N⟩,k2⟩
 have O:=zh<|iK.of N
 have V:=zh k2
 clear hq N k2 I
 have P:=zh<|Bc (k:=64) O.out (by rw[List.length_replicate]) (by rw[List.take_replicate];exact sY)
 go_wp2_with fail
 refine P.mono ?_
 rintro e w3⟨rfl,X⟩
 have N3:=u.1.new (V.new X)
 have z:=(V.new X).alloc (.cells f_ 37)
 have A:=z.Qa u.2.2.1 trivial
 have S4:=u.2.2.2.new z
 have N4:=u.1.new z
 clear X P
 go_upto_region 6 with fail
 change Code.wp _ _ _ _ (w3.alloc (.cells f_ 37))
 generalize w3.alloc (.cells f_ 37)=f at *
 have ab:=zh N4
 have j:∀W,New f W->W.cell? ⟨bw,1,none⟩=some (.pointer (some ⟨bs,0,none⟩)):=fun W h=>by rw[U.2.2];exact h.Qb (a_ A (k:=1) rfl) trivial
 have l:∀W,New f W->W.cell? ⟨bw,7,none⟩=some (.int .u64 2):=fun W h=>by rw[<- U.1];exact h.Qb (a_ A (k:=7) rfl) trivial
 have d:∀W,New f W->W.cell? ⟨bw,10,none⟩=some (.int .i64 0):=fun W h=>by rw[<- U.2.1];exact h.Qb (a_ A (k:=10) rfl) trivial
 have Q:ei f c ⟨1,2,3⟩ bs B dV:=S4
 have R:Hid (∀W,New f W->Calls prog 14 #[.pointer (some ⟨bs,0,none⟩)] W fun e w'=>(∃v m,e=.returned (.slice v 51 m)/\fy w' W.heap.size 5 v 51 m (fQ dV))/\New W w'):=zh fun W h=>by
  have:=pU (Q.new h) lO
  rw[lY] at this
  exact this
 have S:Hid (∀W b m,eR W m ⟨1,2,3⟩ b jf->Calls prog 15 #[.pointer (some ⟨b,0,none⟩)] W fun e w'=>(∃v m,e=.returned (.slice v 51 m)/\fy w' W.heap.size 5 v 51 m (fQ dV))/\New W w'):=zh fun W b m h=>by
  have:=xQ h
  unfold ej at this
  rw[lY] at this
  exact this
 obtain⟨C,T⟩:=zx (fQ dV)
 rw[<- T] at R S
 have HV:Hid (∀W b Y Z,fy W b 5 Y 51 Z C->∀D,New W D->(convert 22 9 (.slice Y 51 Z)).run prog D=.ok (.string (dR C)) D) :=
  zh fun W b Y Z ho D h=>mG (Row.Qc (Own.Qh ho h))
 have ac:(C==C)=true:=by simp
 clear S4 Q A z N3 N4 T O u V
 refine eL zk ?_
 have g:New f f.drew:=(zN f).drew
 replace j:=fun W (a:New f.drew W)=>j W (b_.new g a)
 replace l:=fun W (a:New f.drew W)=>l W (b_.new g a)
 replace d:=fun W (a:New f.drew W)=>d W (b_.new g a)
 refine cL 0 ?_
 refine cL 1 ?_
 refine cL 2 ?_
 refine cL 3 ?_
 refine cL 4 ?_
 refine cL 5 ?_
 refine cL 6 ?_
 refine cL 7 ?_
 refine cL 8 ?_
 refine cL 9 ?_
 refine cL 10 ?_
 refine cL 11 ?_
 refine cL 12 ?_
 refine cL 13 ?_
 refine cL 14 ?_
 refine cL 15 ?_
 refine cL 16 ?_
 refine cL 17 ?_
 refine cL 18 ?_
 refine cL 19 ?_
 refine cL 20 ?_
 refine cL 21 ?_
 refine cL 22 ?_
 refine d_ (i:=23) zk rfl rfl (fun K n=>?_)
 go_simp
 refine(R.out _ g).mono ?_
 rintro e E⟨⟨A5,c5,rfl,o5⟩,x⟩;have v5:=HV.out E _ A5 c5 o5;clear o5
 go_wp2_with fail
 refine n _ _ x ?_
 clear n K
 try simp only[zy]
 replace g:=b_.new g x
 replace j:=fun W (a:New E W)=>j W (b_.new x a)
 replace l:=fun W (a:New E W)=>l W (b_.new x a)
 replace d:=fun W (a:New E W)=>d W (b_.new x a)
 refine cL 24 ?_
 refine d_ (i:=25) zk rfl rfl (fun K n=>?_)
 go_simp
 refine(tq (fun _=>0) ⟨1,2,3⟩ aa.out _).mono ?_
 rintro e F⟨b6,c6,rfl,p,z6,x6,s6⟩;have H6:=zh s6;clear z6 x6 s6
 go_wp2_with fail
 refine n _ _ p ?_
 clear n K
 try simp only[zy]
 replace g:=b_.new g p
 replace j:=fun W (a:New F W)=>j W (b_.new p a)
 replace l:=fun W (a:New F W)=>l W (b_.new p a)
 replace d:=fun W (a:New F W)=>d W (b_.new p a)
 replace v5:=fun W (a:New F W)=>v5 W (b_.new p a)
 refine d_ (i:=26) zk rfl rfl (fun K n=>?_)
 go_simp
 refine(S.out _ _ _ H6.out).mono ?_
 rintro e y⟨⟨A7,c7,rfl,o7⟩,r⟩;have v7:=HV.out y _ A7 c7 o7;clear o7
 go_wp2_with fail
 refine n _ _ r ?_
 clear n K
 try simp only[zy]
 replace g:=b_.new g r
 replace j:=fun W (a:New y W)=>j W (b_.new r a)
 replace l:=fun W (a:New y W)=>l W (b_.new r a)
 replace d:=fun W (a:New y W)=>d W (b_.new r a)
 replace v5:=fun W (a:New y W)=>v5 W (b_.new r a)
 refine cL 27 ?_
 refine cL 28 ?_
 refine cL 29 ?_
 refine cL 30 ?_
 refine wpAnyH_done zk ?_ _
 go_wp2
 go_ret
 exact⟨rfl,ab.new g⟩
def xb:ji:=⟨true,false,false,false,false,false,false⟩
def xa:ji:=⟨false,false,true,false,false,false,true⟩
def Ez:ji:=⟨false,false,true,false,true,false,false⟩
theorem CG:iR 1=some xb:=rfl
theorem CF:iR 5=some xa:=rfl
theorem Hw:iR 6=some Ez:=rfl
theorem nK(p:List UInt8)(h:p.length<=200):eS (mq p) xb=0:=by
 unfold eS hU iQ xb mq
 simp
 omega
theorem o_(d:List UInt8)(h:d.length<=200):eS (nh d) xa=0:=by
 unfold eS hU iQ xa nh jF
 simp
 omega
theorem tr:eS (mT 3) Ez=0:=by decide
theorem qK(p:List UInt8)(h:p.length<=200):(fN (mq p) xb).length=3+p.length:=by
 unfold fN ll lk lj li lh lg lf xb mq
 simp[dL,kq]
 omega
theorem sI(d:List UInt8)(h:d.length<=200):(fN (nh d) xa).length=5+d.length:=by
 unfold fN ll lk lj li lh lg lf xa nh
 simp[dL,kq]
 omega
theorem yG:(fN (mT 3) Ez).length=11:=by
 unfold fN ll lk lj li lh lg lf Ez mT
 simp[dL]
def jb(d e:List UInt8):List eA:=[⟨1,1,fN (mq [47,97]) xb⟩,⟨1,2,fN (nh d) xa⟩,⟨2,3,[]⟩,⟨1,4,fN (mq [47,98]) xb⟩,⟨1,5,fN (nh e) xa⟩,⟨1,6,fN (mT 3) Ez⟩]
def sD(d e:List UInt8)(n:Nat):kL:=⟨[],(jb d e).take n⟩
theorem px:∀ {rs:List eA},(∀r∈rs,dZ r=true)->eX rs=(rs.map eU).sum
 | [],_=>rfl
 | r::rs,h=>by
  have h1:=h r (List.mem_cons_self ..)
  have ih:=px (rs:=rs) fun x a=>h x (List.mem_cons_of_mem _ a)
  unfold eX dW at *
  rw[List.map_cons,List.flatten_cons,zL,List.map_cons,List.sum_cons,ih]
  simp[h1,mI r h1]
section
variable {d e:List UInt8}{n:Nat}
theorem tx{k q:Int}{b:List UInt8}(hk:k=1)(hq:q<=1000)(hb:b.length<=900):dZ ⟨k,q,b⟩=true:=by
 rw[gE]
 exact decide_eq_true ⟨by show q<=_;omega,hb,.inl hk⟩
theorem lH(hd:d.length<=200)(he:e.length<=200):∀r∈jb d e,dZ r=true/\0<=r.seq:=by
 intro r a
 unfold jb at a
 simp only[List.mem_cons,List.not_mem_nil,or_false] at a
 have e1:=qK [47,97] Zd
 have e2:=sI d hd
 have e4:=qK [47,98] Zd
 have e5:=sI e he
 have e6:=yG
 rcases a with rfl|rfl|rfl|rfl|rfl|rfl
 ·exact⟨tx rfl Zd (by rw[e1];decide),Zd⟩
 ·exact⟨tx rfl Zd zo,(by decide:(0:Int)<=2)⟩
 ·exact⟨rfl,Zd⟩
 ·exact⟨tx rfl Zd (by rw[e4];decide),Zd⟩
 ·exact⟨tx rfl Zd zo,(by decide:(0:Int)<=5)⟩
 exact⟨tx rfl Zd (by rw[e6];decide),Zd⟩
theorem Fl(hd:d.length<=200)(he:e.length<=200):((jb d e).map eU).sum<=600:=by
 have a:=lH hd he
 have hs:∀r∈jb d e,eU r=15+r.body.length:=fun r h=>by unfold eU;rw[if_pos (a r h).1]
 have hm:(jb d e).map eU=(jb d e).map fun r=>15+r.body.length:=List.map_congr_left hs
 rw[hm]
 unfold jb
 simp only[List.map_cons,List.map_nil,List.sum_cons,List.sum_nil,qK [47,97] Zd,sI d hd,qK [47,98] Zd,sI e he,yG,List.length_cons,List.length_nil]
 omega
theorem xy:∀(l:List Nat) (n:Nat),(l.take n).sum<=l.sum
 | [],n=>by simp
 | a::r,0=>by simp
 | a::r,n+1=>by have:=xy r n;simp;exact this
theorem rB(hd:d.length<=200)(he:e.length<=200)(hn:n<(jb d e).length):eX (sD d e n).waits+eU (jb d e)[n]<=942:=by
 have a:=lH hd he
 have h1:eX ((jb d e).take (n+1))<=600:=by
  rw[px fun r h=>(a r (List.mem_of_mem_take h)).1,List.map_take]
  exact Nat.le_trans (xy _ _) (Fl hd he)
 rw[List.take_succ_eq_append_getElem hn,kX _ (a _ (List.getElem_mem hn)).1] at h1
 show eX ((jb d e).take n)+_<=_
 omega
theorem pg(hd:d.length<=200)(he:e.length<=200)(hn:n<(jb d e).length):(sD d e n).append 12 (jb d e)[n]=some (sD d e (n+1)):=by
 have h1:=rB hd he hn
 unfold kL.append
 rw[if_neg (by show ¬12-0=0;decide),if_pos h1]
 unfold sD
 dsimp only
 rw[List.take_succ_eq_append_getElem hn]
theorem Fm(hn:n<(jb d e).length):(jb d e)[n].seq=1+(n:Int):=by
 have h6:n<6:=hn
 match n,h6 with
 | 0,_=>rfl
 | 1,_=>rfl
 | 2,_=>rfl
 | 3,_=>rfl
 | 4,_=>rfl
 | 5,_=>rfl
theorem yx(hn:n<=(jb d e).length):(sD d e n).waits.length=n:=by
 show((jb d e).take n).length=n
 rw[List.length_take];omega
theorem ph(hd:d.length<=200)(he:e.length<=200):∀n,n<=(jb d e).length->kW jP 12 (sD d e n)
 | 0,_=>⟨gQ.nil jP,Nat.zero_le _,Zd,fun r h=>(by cases h),fun k h=>absurd h (Nat.not_lt_zero k),Nat.zero_le _,fun h=>absurd rfl h,(show(1:Int)+((0:Nat):Int)<=1000000 by decide)⟩
 | n+1,hn=>by
  have h:=ph hd he n zo
  have hs:=Fm (d:=d) (e:=e) (n:=n) zo
  refine h.appended (r:=(jb d e)[n]) (lH hd he _ (List.getElem_mem zo)).1 ?_ ?_ (pg hd he zo)
  ·rw[hs,yx zo];rfl
  have h6:n+1<=6:=hn
  rw[hs];omega
theorem vB:(sD d e 6).shut=⟨[jb d e],[]⟩:=rfl
def mst(d e:List UInt8):Nat->d'
 | 0=>dV
 | 1=>jM [97] []
 | 2=>jM [97] d
 | 3=>dV
 | 4=>jM [98] []
 | 5=>jM [98] e
 | _=>gq [98] e 3
theorem oU{q:Int}(hk:iR o.kind=some a)(hr:eS o a=0)(ht0:0<=o.till)(ht1:o.till<=1000)(hg:jV s o s')(hp:o.path.length<=1000)(hl:o.goal.length<=1000)(h0:0<=(strip a o).till/\(strip a o).till<=1000):pw s ⟨1,q,fN o a⟩ s':=by
 refine .inr ⟨rfl,strip a o,GY hk hr ht0 zo,hg.strip hk,h0.1,zo,?_,?_⟩
 ·show(if a.path then o.path else[]).length<=_
  split
  ·omega
  exact Nat.zero_le _
 show(if a.goal then o.goal else[]).length<=_
 split
 ·omega
 exact Nat.zero_le _
theorem vy(hd:d.length<=200)(he:e.length<=200):∀n (h:n<(jb d e).length),pw (mst d e n) (jb d e)[n] (mst d e (n+1)):=by
 intro n h
 have h6:n<6:=h
 match n,h6 with
 | 0,_=>exact oU CG (nK _ Zd) Zd Zd FY Zd Zd Zd
 | 1,_=>exact oU CF (o_ d hd) (show(0:Int)<=0 by decide) (show(0:Int)<=1000 by decide) (qN [97] d hd) (Nat.zero_le _) (Nat.zero_le _) ⟨Int.le_refl _,(show(0:Int)<=1000 by decide)⟩
 | 2,_=>exact .inl ⟨rfl,(qz [97] d).symm⟩
 | 3,_=>exact oU CG (nK _ Zd) Zd Zd FW Zd Zd Zd
 | 4,_=>exact oU CF (o_ e he) (show(0:Int)<=0 by decide) (show(0:Int)<=1000 by decide) (qN [98] e he) (Nat.zero_le _) (Nat.zero_le _) ⟨Int.le_refl _,(show(0:Int)<=1000 by decide)⟩
 | 5,_=>exact oU Hw tr Zd Zd (vG [98] e) Zd Zd Zd
theorem qI(hd:d.length<=200)(he:e.length<=200):∀n,n<=(jb d e).length->fz (mst d e n)
 | 0,_=>m'
 | n+1,hn=>(vy hd he n zo).inv (qI hd he n zo)
theorem Bb(hd:d.length<=200)(he:e.length<=200):∀r∈jb d e,r.body.length<=1000000:=fun r h=>by
 have:=(lH hd he r h).1
 rw[gE] at this
 have:=of_decide_eq_true this
 omega
theorem Bg(hd:d.length<=200)(he:e.length<=200):gQ jP [jb d e]:=by
 have:=(ph hd he 6 zr).sealed.fine
 rw[vB] at this
 exact this
theorem pK(S:List UInt8)(h:eJ S p i=List.replicate 1024 0):(ev (eJ S p i)).2.2≠0:=vv _ (by rw[h];rfl)
theorem yC(hd:d.length<=200)(he:e.length<=200)(hl:lx S 50 12 (ef jP [jb d e]).images):(eJ S 50 0=(ef jP [jb d e]).images.getD 0 [])/\∀i,1<=i->i<12->eJ S 50 i=List.replicate 1024 0:=by
 have hi:(ef jP [jb d e]).images.length=1:=(Bg hd he).ok.images
 generalize (ef jP [jb d e]).images=a at *
 refine⟨?_,fun i h1 h2=>?_⟩
 ·rw[hl 0 zo,List.getD_eq_getElem?_getD,List.getD_eq_getElem?_getD,List.getElem?_eq_getElem zo];rfl
 rw[hl i h2,List.getD_eq_getElem?_getD,List.getElem?_eq_none zo];rfl
theorem G'(hd:d.length<=200)(he:e.length<=200)(hl:lx S 50 12 (ef jP [jb d e]).images):jp S 50 12 0 1 (jA jP)=(ef jP [jb d e]).heads.zip [jb d e]:=by
 have hm:=yC hd he hl
 have h1:=vK (Bg hd he) (S:=S) (p:=50) (g:=12) (show 1<=12 by omega) (fun i h=>by
  have h:i<1:=h
  obtain rfl:i=0:=by omega
  exact hm.1) (fun _=>.inl (pK S (hm.2 1 zo zo))) 1 0 rfl
 exact h1
theorem Fv(hd:d.length<=200)(he:e.length<=200)(hl:lx S 50 12 (ef jP [jb d e]).images)(h1:2<=i)(h2:i<12):¬oG S 50 i:=fun a =>
 pK S ((yC hd he hl).2 i zo h2) a.1
theorem FZ(h0:64<=k)(hid:id.length=16):lx (fu k id) (k/4) ((k-1-2*(k/4))/8) []:=by
 intro i hi
 have hs:(fc (k:Int) id).length=128:=gl hid
 have h2:=fF (id:=id) (gen:=2) h0 Zd Zd
 have h1:=fF (id:=id) (gen:=1) h0 Zd Zd
 unfold eJ fu gG
 rw[kO hs zo,kO h2 zo,kO h1 zo,List.drop_replicate,List.take_replicate]
 show _=List.replicate 1024 0
 congr 1
 omega
theorem sk{S':List UInt8}{m:kV}(h:mQ S p g i m s)(hi:i<=1)(hf:lW S S' ((1+2*p)*128)):mQ S' p g i m s:=by
 refine⟨h.ok,h.fit,?_,h.data,h.loads⟩
 rw[<- h.laid]
 unfold nO
 refine hf.2 _ _ ?_
 have:i*p<=p:=by have:=Nat.mul_le_mul_right p hi;omega
 rw[<- Nat.add_mul]
 exact Nat.mul_le_mul_right _ zo
theorem y'(he:e.length<=200):(e_ (gq [98] e 3).T).length<=1000:=by
 unfold e_ gq mZ iC eY iH fP
 simp[dL,kq]
 omega
theorem In(hd:d.length<=200)(he:e.length<=200):rd (gq [98] e 3):=by
 have hI:fz (gq [98] e 3):=qI hd he 6 zr
 refine⟨(by decide:(0:Int)<=0/\(0:Int)<=18446744073709551615),hI.small.1,hI.small.2.1,(pN hI.tree).ok (pO hI.few),?_,⟨(by decide:0<=8),fun x a=>by cases a⟩⟩
 have:fT (gq [98] e 3).T=(gq [98] e 3).T:=rfl
 rw[this]
 have:=y' he
 omega
theorem Eg(hd:d.length<=200)(he:e.length<=200):mn (fW (gq [98] e 3))=fQ (gq [98] e 3):=by
 have hI:fz (gq [98] e 3):=qI hd he 6 zr
 unfold mn fQ
 have h1:fM (fW (gq [98] e 3)).T=e_ (gq [98] e 3).T:=(tj hI.tree).bytes
 have h2:iA (fW (gq [98] e 3)).S=fS (gq [98] e 3).S:=(tk fun x a=>by cases a).bytes
 have h3:fT (gq [98] e 3).T=(gq [98] e 3).T:=rfl
 rw[h1,h2,h3];rfl
theorem Hf(hd:d.length<=200)(he:e.length<=200):uD (fW (gq [98] e 3))/\∀p∈(fW (gq [98] e 3)).T.nodes,p.2.shut=true:=by
 have hI:fz (gq [98] e 3):=qI hd he 6 zr
 have c:=tj hI.tree
 have h1:fM (fW (gq [98] e 3)).T=e_ (gq [98] e 3).T:=c.bytes
 have h2:iA (fW (gq [98] e 3)).S=fS (gq [98] e 3).S:=(tk fun x a=>by cases a).bytes
 have hz:=y' he
 have f:=nL hI.tree hI.few
 refine⟨⟨(by decide:(0:Int)<=0/\(0:Int)<=18446744073709551615),f,?_,by rw[h1];omega,⟨(by decide:0<=8),fun x a=>by cases a⟩,by rw[h2];exact(by decide:(fS lo).length<=900000000000)⟩,fun p b=>?_⟩
 ·refine c.rok (hI.tree.ok hI.few) (by decide:1<=10000) (fun p b=>?_) fun p b=>?_
  ·have b:p∈[((0:Int),([98]:List UInt8),(1:Int))]:=b
   rw[List.mem_singleton.1 b];decide
  have:=(hI.tree.node _ _ (hI.tree.rising.get b)).size;omega
 obtain⟨x,a,rfl⟩:=List.mem_map.1 b
 unfold gq mZ at a
 simp only[List.mem_cons,List.not_mem_nil,or_false] at a
 rcases a with rfl|rfl <;> rfl
end
structure MW (w:World) (c:Col) (K:fe) (base bw:Nat) (q:g9) (v:qp) (s:d') (d e:List UInt8) (n:Nat) (A:Option Addr) (cl:Nat) (S:List UInt8):Prop where
 wd:j2 w c K base bw q v s s (lvK 200 50 12 jP (sD d e n)) A cl S
 inv:fz s
 laid:lx S 50 12 []
 front:lW (fu 200 jP) S ((1+2*50)*128)
theorem Fw(S:List UInt8)(h:S.length=25600):∀i,i<12->gG 50 i+1024<=S.length:=fun i hi=>by unfold gG;omega
theorem m_s(S:List UInt8)(h:lW (fu 200 jP) S ((1+2*50)*128)):S.length=25600:=by rw[h.1,lV Zd Zd]
def It(w:World)(c:Col)(base bw:Nat)(q:g9)(s':d')(d e:List UInt8)(n na:Nat)(x:Value)(en:Ending)(w':World):Prop :=
 en=.returned x/\∃c' K' v' A' cl' S',lA w c w' c'/\MW w' c' K' base bw q v' s' d e n A' cl' S'/\v'.na=na
theorem yr{v:qp}{d e:List UInt8}{n:Nat}(h:MW w c K base bw q v s d e n A cl S)(hd:d.length<=200)(he:e.length<=200)(hn:n<6){E:Option Addr}{cd:Nat}(hg:jV s o s')(hk:iR o.kind=some a)(hr:eS o a=0)(hre:(jb d e)[n]?=some ⟨1,1+(n:Int),fN o a⟩)(hlp:o.path.length<=1000)(hlg:o.goal.length<=1000)(hld:o.data.length<=1000)(ht0:0<=o.till)(ht1:o.till<=1000)(hD:Bs w (fun j=>c j=0) E o.data.length o.data)(hd1:o.data.length<=cd)(hd2:cd<=9223372036854775807){na:Nat}(hna:v.na+1=na)(hnb:na<=1000):
  Calls prog 6 #[.pointer (some ⟨bw,0,none⟩),fB o E cd] w (It w c base bw q s' d e (n+1) na (.bool true)):=by
 have b:n<(jb d e).length:=hn
 have f:(jb d e)[n]=⟨1,1+(n:Int),fN o a⟩:=by rw[List.getElem?_eq_getElem b] at hre;injection hre
 have i:=ph hd he n (Nat.le_of_lt b)
 have g:(ef jP (sD d e n).segs).next+((sD d e n).waits.length:Int)=1+(n:Int):=by rw[yx (Nat.le_of_lt b)];rfl
 have k:=pg hd he b
 rw[f] at k
 have r:(fN o a).length<=900:=by
  have h1:=(lH hd he _ (List.getElem_mem b)).1
  rw[f,gE] at h1
  exact(of_decide_eq_true h1).2.1
 have m:=(lH hd he _ (List.getElem_mem b)).1
 rw[f] at m
 have t:=F7 h.wd h.inv (cd:=cd) hg hk hr zo zo zo ht0 zo hD hd1 hd2 i r (by rw[g];omega) zo (by rw[g];exact k) (by rw[g,<- f];exact rB hd he b)
 refine t.mono ?_
 rintro B C⟨rfl,x,y,v',z,u,hz,p,-,D⟩
 rw[g] at p
 have l:=Fw S (m_s S h.front)
 exact⟨rfl,x,y,v',z,u,_,hz,⟨p,hg.inv h.inv ht0,qY i m k h.laid l,h.front.trans (qP i l)⟩,zo⟩
theorem CR{v:qp}{sl sl':kL}(h:j2 w c K base bw q v s sr (lvK k p g id sl) A cl S)(hL:kW id g sl){r:eA}(hr:dZ r=true)(h0:0<=r.seq)(hq:r.seq=(ef id sl.segs).next+(sl.waits.length:Int))(hap:sl.append g r=some sl')(hwf:eX sl.waits+eU r<=942){D:Nat->Prop}{B:Option Addr}{m cb:Nat}(hm:r.body.length=m)(hB:Bs w D B m r.body)(hcb:m<=cb)(hcm:cb<=9223372036854775807)(hD:∀j,D j->j≠v.bl/\fa q j/\some j≠blk A):
  Calls prog 7 #[.pointer (some ⟨v.bl,0,none⟩),.agg #[.int .i64 r.kind,.int .u64 r.seq,.slice B m cb]] w fun en w'=>en=.returned (.int .i64 0)/\b_ (fun j=>j≠v.bl/\fa q j/\some j≠blk A) w w'/\∃A' cl',j2 w' (c.on w.heap.size fun _=>7) K base bw q v s sr (lvK k p g id sl') A' cl' ((lvK k p g id sl).adisk r S):=by
 have a:=mb (k:=k) (p:=p) hL r
 rw[hap] at a
 have d:=Cl (k:=k) (p:=p) (id:=id) hap hwf
 have b:=sa h.on r B m cb hm hB hcb hcm hD h.low.2.2.2.2.2.2 hr h0 hq hL.right hL.bytes (fun hz=>hL.seg hz) d.1 d.2
 rw[tT hL hr hap] at b
 dsimp only at a
 rw[a] at b
 refine b.mono ?_
 rintro en w'⟨rfl,e,A',f,h1,h2⟩
 exact⟨rfl,e,A',f,h.logged e h1 h2⟩
theorem GC{v:qp}{sl:kL}(h:j2 w c K base bw q v s sr (lvK k p g id sl) A cl S)(hL:kW id g sl):
  Calls prog 11 #[.pointer (some ⟨v.bl,0,none⟩)] w fun en w'=>en=.returned (.int .i64 0)/\b_ (fun j=>j≠v.bl/\fa q j/\some j≠blk A) w w'/\∃A' cl',j2 w' (c.on w.heap.size fun _=>7) K base bw q v s sr (lvK k p g id sl.shut) A' cl' ((lvK k p g id sl).disk S):=by
 have a:=DR h.on fun hz=>⟨hL.seg hz,hL.free hz⟩
 rw[yE hL] at a
 refine a.mono ?_
 rintro en w'⟨rfl,d,A',f,h1,h2⟩
 have b:b_ (fun j=>j≠v.bl/\fa q j/\some j≠blk A) w w':=d.imp fun j _ hj=>⟨hj.1,hj.2.1⟩
 exact⟨rfl,b,A',f,h.logged b h1 (h2.elim (fun e=>.inl (by rw[e])) fun e=>.inr fun k hk=>by rw[e] at hk;cases hk)⟩
