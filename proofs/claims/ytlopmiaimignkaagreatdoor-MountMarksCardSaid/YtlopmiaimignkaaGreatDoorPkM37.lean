/-
  PROVED HERE: what mount.Mount answers of a disk on which records lie behind its points; conditions: nothing on the disk is unsafe; the points' states are loaded; the records can be done again.
-/
import Derived.Test.YtlopmiaimignkaaGreatDoorPkM36
set_option maxRecDepth 100000
set_option maxHeartbeats 16000000
namespace Go.Proofs.YtlopmiaimignkaaGreatDoor
open Go.Proofs.Tryz
open Go.RowKit
variable{q:g9}{rs:List eA}{k n:Nat}{w:World}{D:Nat->Prop}{A:Option Addr}{S:List UInt8}
def ve(q:Int)(rs:List eA):Nat->Int
 | 0=>q
 | n+1=>match rs[n]? with|some r=>r.seq|none=>q
theorem Ae{q:Int}(h:n<rs.length):ve q rs (n+1)=rs[n].seq:=by
 show(match rs[n]? with|some r=>r.seq|none=>q)=_
 rw[List.getElem?_eq_getElem h]
def wg(w:World)(c:Col)(J:fe)(xc:Nat)(q:g9)(S:List UInt8)(k p g se:Nat)(id:List UInt8)(gen sq:Int)(nr:Nat)(nxE:Int)(hdE:List UInt8)(s:d')(e:Ending)(w':World):Prop :=
 ∃b B c' bl I ci H hc,e=.returned (.tuple #[.pointer (some ⟨b,0,none⟩),.pointer (some ⟨bl,0,none⟩),.agg #[.int .i64 k,.int .i64 p,.int .i64 g,.slice I 16 ci,.int .u64 gen,.int .u64 sq,.int .i64 se,.int .i64 nr,.slice H 32 hc],.int .i64 0]) /\
  New w w'/\w.heap.size<=b/\Ext w c c'/\ei w' c' J b B s.settled/\(w.heap.size<=bl/\c' bl=xc)/\gU w' (fun b=>w.heap.size<=b/\b≠bl/\c' b=xc) w.heap.size bl q ⟨k,p,g,se,nxE,hdE,[]⟩ none 0 S /\
  Bs w' (fun b=>w.heap.size<=b) I 16 id/\16<=ci/\Bs w' (fun b=>w.heap.size<=b) H 32 hdE/\32<=hc
theorem gU.low{base base' bl:Nat}{v:iO}{c:Nat}(h:gU w D base' bl q v A c S)(hb:base<=base'):gU w D base bl q v A c S :=
 ⟨⟨h.log.cells,h.log.waits.rebase hb,h.log.next0,h.log.next1,h.log.few,h.log.out,h.log.apart⟩,h.disk,h.size,h.plan,h.apart,h.row,h.data⟩
theorem Er(c:Col)(n:Nat):∃m,∀b,b<n->c b<m:=by
 induction n with
 | zero=>exact⟨0,fun b hb=>absurd hb (Nat.not_lt_zero b)⟩
 | succ n ih =>
  obtain⟨m,hm⟩:=ih
  refine⟨m+c n+1,fun b hb=>?_⟩
  by_cases e:b<n
  ·have:=hm b e;omega
  obtain rfl:b=n:=by omega
  omega
theorem Fd(c:Col)(n x:Nat):∃I:fe,I.Ok/\(∀b,b<n->¬I.has (c b))/\¬I.has x:=by
 obtain⟨m,hm⟩:=Er c n
 refine⟨⟨m+x+1,m+x+2,m+x+3⟩,⟨⟨by dsimp only;omega,by dsimp only;omega,by dsimp only;omega⟩,by dsimp only;omega,by dsimp only;omega,by dsimp only;omega⟩,fun b hb hh=>?_,fun hh=>?_⟩
 ·have:=hm b hb;unfold fe.has at hh;dsimp only at hh;omega
 unfold fe.has at hh;dsimp only at hh;omega
theorem E6(h:Sl gT w D A n rs)(hk:k<rs.length):
  ∃b off Q qc,A=some ⟨b,off,none⟩/\w.cell? ⟨b,off+k*3,none⟩=some (.int .i64 rs[k].kind)/\w.cell? ⟨b,off+k*3+1,none⟩=some (.int .u64 rs[k].seq)/\w.cell? ⟨b,off+k*3+2,none⟩=some (.slice Q rs[k].body.length qc)/\Bs w D Q rs[k].body.length rs[k].body/\rs[k].body.length<=qc:=by
 obtain⟨b,off,c,hA,-,-,h1,h2,h3⟩:=h.at_ hk
 obtain⟨Q,qc,a,e1,e2,e3,e4,e5,e6,e7⟩:=h1
 exact⟨b,off,Q,qc,hA,h3 0 _ a,h3 1 _ e1,h3 2 _ e2,e4,e3⟩
theorem tR{fr:Nat}{id:List UInt8}(h:iK w q S)(hk:S.length=k*128)(hsup:jC (S.take 128)=some (k,id)){m0 m1 m:kV}{s0 s1 s:d'}(h0:mQ S (k/4) ((k-1-2*(k/4))/8) 0 m0 s0)(h1:mQ S (k/4) ((k-1-2*(k/4))/8) 1 m1 s1)(hpick:(m1.gen<=m0.gen/\m=m0/\s=s0)\/(¬m1.gen<=m0.gen/\m=m1/\s=s1))(hfr:m.segs=fr)(h00:fr=0)(hseq:m.seq<1099511627776){fd:List (jj×List eA)}{fn se:Nat}{nxE:Int}{hdE:List UInt8}(hfd:jp S (k/4) ((k-1-2*(k/4))/8-fr) fr (qF fr (m.seq+1)) (qG fr id m.head)=fd)(hfn:fn=fd.length)(hse:se=fr+fn)(hend:jg (qF fr (m.seq+1)) (qG fr id m.head) fd=(nxE,hdE))(hsg:se<=(k-1-2*(k/4))/8)(hbe:∀i,se+1<=i->i<(k-1-2*(k/4))/8->¬oG S (k/4) i)(hrs:(fd.map Prod.snd).flatten=rs)(hrl:rs.length<=1000000)(hrb:∀r∈rs,r.body.length<=1000000){st:Nat->d'}(hs0:st 0=s)(hst:∀n (h:n<rs.length),pw (st n) rs[n] (st (n+1)))(hinv:fz s)(hml:fD w)(c:Col)(J:fe)(hJ:J.Ok)(xc:Nat)(hxc:¬J.has xc/\xc≠0):
  Calls prog 12 #[.pointer (some ⟨q.bd,0,none⟩)] w (wg w c J xc q S k (k/4) ((k-1-2*(k/4))/8) se id m.gen (ve m.seq rs rs.length) rs.length nxE hdE (st rs.length)):=by
 obtain⟨I0,be,bf,bV⟩:=Fd c w.heap.size xc
 have T:=J4 be bf bV hxc
 have dB:¬I0.has (c mlG):=bf mlG (by obtain⟨mv,aN⟩:=hml;exact World.block_lt_of_cell? w _ aN)
 have am:=J4 hinv hs0 hst hml
 have aw:=J3 hrs hrl hrb
 have an:=J3 hend hse hsg
 obtain⟨rl,aE⟩:=zx (rs.length)
 rw[<- aE]
 have bg:=zh aE
 clear aE bf bV hxc hinv hs0 hst hml hrs hrl hrb hend
 obtain⟨D,e',dC,dv⟩:=h.size
 obtain rfl:D=k:=by omega
 clear e'
 have hp:fg (D:Int) ((D/4:Nat):Int) (((D-1-2*(D/4))/8:Nat):Int)=true:=jy.2 zo
 obtain⟨p,aO⟩:=zx (D/4)
 obtain⟨g,aP⟩:=zx ((D-1-2*p)/8)
 have bW:=zh<|fun W (a:New w W)=>tP (h.new a) hk
 have aF:ol (p:Int) (g:Int) m:=by
  rw[aP,aO]
  rcases hpick with⟨-,rfl,-⟩|⟨-,rfl,-⟩
  ·exact h0.ok
  exact h1.ok
 rw[<- aO] at h0 h1 hfd hbe hp an hsg ⊢
 rw[<- aP] at h0 h1 hfd hbe hp an hsg ⊢
 have bX:Hid (∀W e w',j4 W D S e w'->(∃A' c',e=.returned (.tuple #[.agg #[.int .i64 (D:Int),.int .i64 (p:Int),.int .i64 (g:Int)],.slice A' 16 c',.int .i64 0])/\fy w' W.heap.size 5 A' 16 c' id)/\New W w'):=zh fun W e w' hh=>by
  unfold j4 at hh
  rw[hsup] at hh
  dsimp only at hh
  rw[if_pos rfl,<- aO,<- aP] at hh
  exact hh
 have bY:=zh<|fun W (a:New w W) (c:Col)=>yv (h.new a) hk hp h0 h1 c I0 be hpick
 have cQ:fr<=g:=by have:=aF.segs.2;omega
 have dD:g<=512:=by omega
 have dE:=aF.seq.1
 have bZ:=zh<|fun W (a:New w W) (Hd I:Option Addr) (cR ci:Nat) (D3 D4:Nat->Prop) (hH:Bs W D3 Hd 32 m.head) (hI:Bs W D4 I 16 id) (cS:16<=ci)=>Bh (h.new a) hk hp cQ h00 Hd cR m.head hH (m.seq+1) zo zo I 16 ci id hI cS Zd
 have b0:=zh<|fun W (a:New w W)=>yz (fr:=se+1) (b:=false) (h.new a) hk hp zo ⟨fun h=>(by cases h),fun⟨i,g1,g2,g3⟩=>absurd g3 (hbe i g1 g2)⟩
 have b1:=J2 hfd hfn
 have cT:=zh hJ
 have q1:IntKind.u64.wrap (m.seq+1)=m.seq+1:=by rw[IntKind.wrap_u64];omega
 have q2:IntKind.i64.wrap ((se:Int)+1)=(se:Int)+1:=IntWalk.i64_in _ zo
 have d1:decide (1099511627776<=m.seq)=false:=decide_eq_false zo
 have bh:=J3 h hk hp
 have cU:=zh hfr
 clear h hk hsup h0 h1 hpick hfr h00 hseq hfd hfn hse hbe hJ hp aO aP aF be
 have kA:=(zN w).alloc (.cells f_ 37)
 have xA:=heap_alloc_new w (.cells f_ 37)
 go_in
 go_upto_region 1 with fail
 obtain⟨o,aQ⟩:=zx (w.heap.size)
 rw[<- aQ] at xA ⊢
 generalize w.alloc (.cells f_ 37)=w1 at *
 have b3:=zh aQ
 have HX:=zh xA
 have HK:=zh kA
 have b4:=zh<|bW.out w1 kA
 clear xA kA aQ bW
 go_wp2_with fail
 refine b4.mono ?_
 rintro e w2 bi
 obtain⟨⟨I,ci,rfl,o2⟩,k2⟩:=bX.out _ _ _ bi
 have dF:o<w1.heap.size:=(Array.getElem?_eq_some_iff.1 HX.out).1
 replace HX:=zh<|k2.Qa HX.out zt
 have b5:=zh<|HK.new k2
 have b6:=J2 (ew o2) (eh o2)
 have HI:=zh<|(Row.Qc o2).imp (E:=fun b=>w1.heap.size<=b/\b<w2.heap.size) fun b hb hd=>⟨hd,hb⟩
 clear b4 bX k2 o2 bi
 go_upto_region 4 with fail
 have kB:=(zN w2).alloc (.cells #[.int .i64 D,.int .i64 p,.int .i64 g] 35)
 have xB:=heap_alloc_new w2 (.cells #[.int .i64 D,.int .i64 p,.int .i64 g] 35)
 generalize w2.alloc (.cells #[.int .i64 D,.int .i64 p,.int .i64 g] 35)=w3 at *
 generalize hgp:w2.heap.size=gp at *
 have cD:Hid (gp<=w3.heap.size):=zh (by rw[<- hgp];exact kB.size)
 replace HX:=zh<|kB.Qa HX.out zt
 have O:=zh xB
 have cV:Hid (o<w3.heap.size):=zh (Array.getElem?_eq_some_iff.1 HX.out).1
 have aR:=zh<|b5.new kB
 replace HI:=zh<|HI.new kB
 obtain⟨p0,p1,p2⟩:=cs3 xB
 have bj:=zh<|bY.out w3 aR.out (c.on w.heap.size fun _=>xc)
 clear kB xB bY b5
 go_wp2_with fail
 refine bj.mono ?_
 rintro e V⟨v,b,B,c1,rfl,mk,k4,z4,e4,b7⟩
 obtain⟨Hd,hc,Bd,dc,rfl,r1,r2⟩:=mk
 obtain⟨dn,b8⟩:=zx (m.data.length)
 rw[<- b8]
 have b9:=J3 z4 e4 b7
 have HH:=zh r1
 have aG:=zh k4.size
 replace HX:=zh<|k4.Qa HX.out zt
 replace O:=zh<|k4.Qa O.out zt
 have cb:=zh<|aR.new k4
 replace HI:=zh<|HI.new k4
 clear p0 p1 p2 bj k4 z4 e4 b7 r1 r2 b8
 go_upto_region 7 with fail
 have kM:=(zN V).alloc (.cells #[.int .u64 m.gen,.int .u64 m.seq,.int .i64 m.segs,.slice Hd 32 hc,.slice Bd dn dc] 101)
 have xM:=heap_alloc_new V (.cells #[.int .u64 m.gen,.int .u64 m.seq,.int .i64 m.segs,.slice Hd 32 hc,.slice Bd dn dc] 101)
 generalize V.alloc (.cells #[.int .u64 m.gen,.int .u64 m.seq,.int .i64 m.segs,.slice Hd 32 hc,.slice Bd dn dc] 101)=w5 at *
 generalize cW:V.heap.size=gm at *
 have cc:Hid (V.heap.size=gm):=zh cW
 rw[cU.out] at xM
 have ad:=zh xM
 replace HX:=zh<|kM.Qa HX.out zt
 replace O:=zh<|kM.Qa O.out zt
 have ce:=zh<|cb.new kM
 replace HI:=zh<|HI.new kM
 have cf:=zh kM
 have bm:Hid (w3.heap.size<=w5.heap.size/\o<w5.heap.size/\o<w3.heap.size):=zh (by have h3:=aG.out;have h4:=(Array.getElem?_eq_some_iff.1 ad.out).1;have:=cV.out;omega)
 replace HH:=J2 (HH.1.new kM) HH.2
 obtain⟨p0,p1,p2⟩:=cs3 O.out
 have y1:=a_ ad.out (k:=1) rfl
 have y2:=a_ ad.out (k:=2) rfl
 have y3:=a_ ad.out (k:=3) rfl
 have bn:=zh<|bZ.out w5 ce.out Hd I hc ci _ _ HH.1 HI.out b6.1
 clear kM xM bZ cb
 go_wp2_with fail
 refine bn.mono ?_
 rintro e L⟨k6,bl,Ao,co,cX,hfd,he,bo,ag,ac⟩
 rw[b1.1] at hfd
 subst hfd
 rw[<- b1.2] at he ag ac
 rw[<- an.2.1,an.1] at ag
 subst he
 have cE:=zh<|ac.sl.imp (F:=fun b=>w5.heap.size<=b/\b<L.heap.size) fun b hb hd=>⟨hd.elim (fun h=>h) fun h=>h.1,hb⟩
 have cF:=zh ag.log.lt
 have af:gU L (fun b=>w5.heap.size<=b/\b≠bl) w5.heap.size bl q ⟨D,p,g,se,nxE,hdE,[]⟩ none 0 S:=ag
 have bp:=zh af
 have cG:=zh k6.size
 have cY:=zh bo
 replace HX:=zh<|k6.Qa HX.out zt
 replace O:=zh<|k6.Qa O.out zt
 replace ad:=zh<|k6.Qa ad.out zt
 have ax:=zh<|ce.new k6
 replace HI:=zh<|HI.new k6
 have cI:=zh<|cf.new k6
 have bq:=zh<|fun W (a:New L W)=>ww (af.log.new a)
 have cg:=zh<|fun W (a:New L W)=>Bx (af.log.new a)
 dsimp only at bq cg
 have aH:=zh<|fun W (a:New L W)=>b0.out W (ax.new a)
 clear p0 p1 p2 y1 y2 y3 bn k6 ag af bo HH b0 ac
 have p0:∀W,b_ (fun _=>True) L.drew W->W.cell? ⟨gp,0,none⟩=some (.int .i64 D):=fun W a=>a.Qb (a_ (w:=L.drew) O.out (k:=0) rfl) trivial
 have p1:∀W,b_ (fun _=>True) L.drew W->W.cell? ⟨gp,1,none⟩=some (.int .i64 p):=fun W a=>a.Qb (a_ (w:=L.drew) O.out (k:=1) rfl) trivial
 have p2:∀W,b_ (fun _=>True) L.drew W->W.cell? ⟨gp,2,none⟩=some (.int .i64 g):=fun W a=>a.Qb (a_ (w:=L.drew) O.out (k:=2) rfl) trivial
 have ar:New L L.drew:=b_.drew (zN L)
 have aS:(((se+1:Nat)):Int)=(se:Int)+1:=by omega
 rw[aS] at aH
 clear aS
 go_upto_region 10 with fail
 refine eu (b_ (fun _=>True) L.drew) zk ?_
 have f:b_ (fun _=>True) L.drew L.drew:=b_.refl _ _
 refine c_ 0 f ?_
 refine c_ 1 f ?_
 refine c_ 2 f ?_
 refine c_ 3 f ?_
 refine c_ 4 f ?_
 refine c_ 5 f ?_
 refine dQ (i:=6) zk rfl rfl (fun K d=>?_)
 go_simp
 refine(bq.out _ (ar.new f)).mono ?_
 rintro e w7⟨rfl,k7⟩
 go_wp2_with fail
 have X:=b_.new f k7
 refine d _ _ X ?_
 clear d K
 try simp only[zy]
 replace f:=X
 clear X
 refine c_ 7 f ?_
 refine dQ (i:=8) zk rfl rfl (fun K d=>?_)
 go_simp
 refine(aH.out _ (ar.new f)).mono ?_
 rintro e l⟨rfl,k8⟩
 go_wp2_with fail
 have X:=b_.new f k8
 refine d _ _ X ?_
 clear d K
 try simp only[zy]
 replace f:=X
 clear X
 refine c_ 9 f ?_
 refine wpAnyH_done zk ?_ _
 have ch:New L l:=ar.new f
 have u:=zh ch
 clear p0 p1 p2 f k7 k8 ch ar aH
 go_upto_region 12 with fail
 go_cut [14] from 71 to 81 (fun cZ wx=>∃(gf:Nat) (H:Option Addr) (x:Nat),cZ=.pointer (some ⟨gf,0,none⟩)/\l.heap.size<=gf/\wx.heap[gf]?=some (.cells #[.int .i64 D,.int .i64 p,.int .i64 g,.slice I 16 ci,.int .u64 m.gen,.int .u64 m.seq,.int .i64 se,.int .i64 0,.slice H 32 x] 37 (0,0))/\Bs wx (fun b=>l.heap.size<=b/\b≠gf) H 32 hdE/\(32<=x/\x<=9223372036854775807)/\New l wx)
 case first =>
  have bt:=zh<|fun W (a:New l W)=>bq.out W (u.new a)
  have aI:=zh<|fun W (a:New l W)=>cg.out W (u.new a)
  have A:New l l.drew:=b_.drew (zN l)
  have p0:∀W,b_ (fun _=>True) l.drew W->W.cell? ⟨gp,0,none⟩=some (.int .i64 D):=fun W a=>a.Qb (a_ (w:=l.drew) (u.Qa O.out zt) (k:=0) rfl) trivial
  have p1:∀W,b_ (fun _=>True) l.drew W->W.cell? ⟨gp,1,none⟩=some (.int .i64 p):=fun W a=>a.Qb (a_ (w:=l.drew) (u.Qa O.out zt) (k:=1) rfl) trivial
  have p2:∀W,b_ (fun _=>True) l.drew W->W.cell? ⟨gp,2,none⟩=some (.int .i64 g):=fun W a=>a.Qb (a_ (w:=l.drew) (u.Qa O.out zt) (k:=2) rfl) trivial
  have y0:∀W,b_ (fun _=>True) l.drew W->W.cell? ⟨gm,0,none⟩=some (.int .u64 m.gen):=fun W a=>a.Qb (a_ (w:=l.drew) (u.Qa ad.out zt) (k:=0) rfl) trivial
  have y1:∀W,b_ (fun _=>True) l.drew W->W.cell? ⟨gm,1,none⟩=some (.int .u64 m.seq):=fun W a=>a.Qb (a_ (w:=l.drew) (u.Qa ad.out zt) (k:=1) rfl) trivial
  refine eu (b_ (fun _=>True) l.drew) zk ?_
  have f:b_ (fun _=>True) l.drew l.drew:=b_.refl _ _
  have aT:Hid (l.drew.heap.size=l.heap.size):=zh rfl
  generalize l.drew=wd at *
  refine c_ 0 f ?_
  refine c_ 1 f ?_
  refine c_ 2 f ?_
  refine c_ 3 f ?_
  refine c_ 4 f ?_
  refine c_ 5 f ?_
  refine c_ 6 f ?_
  refine c_ 8 f ?_
  clear p0 p1 p2 y0 y1
  refine mw (i:=7) (j:=11) zk rfl rfl rfl rfl (fun K d=>?_) (fun K d=>?_)
  ·skip
   go_simp
   refine(bt.out _ (A.new f)).mono ?_
   rintro e G⟨rfl,aJ⟩
   go_wp2_with fail
   have M:=b_.new f aJ
   refine d _ _ M ?_
   clear d K
   try simp only[zy]
   refine mw (i:=9) (j:=11) zk rfl rfl rfl rfl (fun K d=>?_) (fun K d=>?_)
   ·skip
    go_simp
    refine(aI.out _ (A.new M)).mono ?_
    rintro e wa⟨⟨H,x,rfl,oH⟩,Y⟩
    go_wp2_with fail
    have t:=b_.new M Y
    refine d _ _ t ?_
    clear d K
    try simp only[zy]
    have bH:=Row.Qc oH
    have cH:=za (ew oH) (eh oH)
    refine c_ 10 t ?_
    refine dQ (i:=11) zk rfl rfl (fun K d=>?_)
    go_simp
    try go_wp2_with fail
    have U:=(zN wa).alloc (.cells f_ 37)
    have P:=heap_alloc_new wa (.cells f_ 37)
    have C:=b_.new t U
    refine d _ _ C ?_
    clear d K
    try simp only[zy]
    generalize cj:wa.alloc (.cells f_ 37)=wb at *
    generalize ah:wa.heap.size=gf at *
    have ai:l.heap.size<=gf:=by rw[<- ah];exact(A.new t).size
    have ay:Bs wb (fun b=>l.heap.size<=b/\b≠gf) H 32 hdE:=(bH.imp (E:=fun b=>l.heap.size<=b/\b≠gf) fun b hb hd=>⟨Nat.le_trans (A.new M).size hd,zo⟩).new U
    have bu:=b_.size C
    obtain⟨f0,f1,f2,f3,f4,f5,f6,f7,f8⟩:=cs9 P
    obtain⟨z0,z1,z2,z3,z4,z5,z6,z7,z8⟩:=fz9 P
    have az:l.heap.size<=gf:=ai
    obtain⟨hE,y⟩:=mr P (.int .i64 D) (.int .i64 p) (.int .i64 g) (.slice I 16 ci) (.int .u64 m.gen) (.int .u64 m.seq) (.int .i64 se) (.int .i64 0) (.slice H 32 x)
    have nE:b_ (fun _=>True) wd _:=b_.Qd C y fun b hb _=>by have:=aT.out;show b≠gf;omega
    refine dQ (i:=12) zk rfl rfl (fun K d=>?_)
    go_simp
    try go_wp2_with fail
    clear f0 f1 f2 f3 f4 f5 f6 f7 f8 z0 z1 z2 z3 z4 z5 z6 z7 z8
    refine d _ _ nE ?_
    clear d K
    try simp only[zy]
    refine wpAnyH_done zk ?_ _
    generalize aU:World.setCell _ _ _=wE at *
    go_wp2
    go_meet
    exact⟨gf,H,x,rfl,az,hE,ay.keep y fun b _ hb=>hb.2,cH,A.new nE⟩
   skip
   go_simp
   try go_wp2_with fail
   have Y:=(zN G).alloc (.cells f_ 37)
   have P:=heap_alloc_new G (.cells f_ 37)
   have t:=b_.new M Y
   refine d _ _ t ?_
   clear d K
   try simp only[zy]
   generalize cj:G.alloc (.cells f_ 37)=wa at *
   generalize ah:G.heap.size=gf at *
   have ai:l.heap.size<=gf:=by rw[<- ah];exact(A.new M).size
   refine dQ (i:=9) zk rfl rfl (fun K d=>?_)
   go_simp
   refine(aI.out _ (A.new t)).mono ?_
   rintro e wb⟨⟨H,x,rfl,oH⟩,U⟩
   go_wp2_with fail
   have C:=b_.new t U
   refine d _ _ C ?_
   clear d K
   try simp only[zy]
   have bH:=Row.Qc oH
   have cH:=za (ew oH) (eh oH)
   refine c_ 10 C ?_
   have c0:gf<wa.heap.size:=(Zl P)
   have P:=U.Qa P trivial
   have ay:Bs wb (fun b=>l.heap.size<=b/\b≠gf) H 32 hdE:=bH.imp fun b _ hd=>⟨Nat.le_trans (A.new t).size hd,zo⟩
   have bu:=b_.size C
   obtain⟨f0,f1,f2,f3,f4,f5,f6,f7,f8⟩:=cs9 P
   obtain⟨z0,z1,z2,z3,z4,z5,z6,z7,z8⟩:=fz9 P
   have az:l.heap.size<=gf:=ai
   obtain⟨hE,y⟩:=mr P (.int .i64 D) (.int .i64 p) (.int .i64 g) (.slice I 16 ci) (.int .u64 m.gen) (.int .u64 m.seq) (.int .i64 se) (.int .i64 0) (.slice H 32 x)
   have nE:b_ (fun _=>True) wd _:=b_.Qd C y fun b hb _=>by have:=aT.out;show b≠gf;omega
   refine dQ (i:=12) zk rfl rfl (fun K d=>?_)
   go_simp
   try go_wp2_with fail
   clear f0 f1 f2 f3 f4 f5 f6 f7 f8 z0 z1 z2 z3 z4 z5 z6 z7 z8
   refine d _ _ nE ?_
   clear d K
   try simp only[zy]
   refine wpAnyH_done zk ?_ _
   generalize aU:World.setCell _ _ _=wE at *
   go_wp2
   go_meet
   exact⟨gf,H,x,rfl,az,hE,ay.keep y fun b _ hb=>hb.2,cH,A.new nE⟩
  skip
  go_simp
  try go_wp2_with fail
  have aJ:=(zN wd).alloc (.cells f_ 37)
  have P:=heap_alloc_new wd (.cells f_ 37)
  have M:=b_.new f aJ
  refine d _ _ M ?_
  clear d K
  try simp only[zy]
  generalize cj:wd.alloc (.cells f_ 37)=G at *
  generalize ah:wd.heap.size=gf at *
  have ai:l.heap.size<=gf:=by have:=aT.out;omega
  refine dQ (i:=7) zk rfl rfl (fun K d=>?_)
  go_simp
  refine(bt.out _ (A.new M)).mono ?_
  rintro e wa⟨rfl,Y⟩
  go_wp2_with fail
  have t:=b_.new M Y
  refine d _ _ t ?_
  clear d K
  try simp only[zy]
  have c0:gf<G.heap.size:=(Zl P)
  have P:=Y.Qa P trivial
  refine dQ (i:=9) zk rfl rfl (fun K d=>?_)
  go_simp
  refine(aI.out _ (A.new t)).mono ?_
  rintro e wb⟨⟨H,x,rfl,oH⟩,U⟩
  go_wp2_with fail
  have C:=b_.new t U
  refine d _ _ C ?_
  clear d K
  try simp only[zy]
  have bH:=Row.Qc oH
  have cH:=za (ew oH) (eh oH)
  refine c_ 10 C ?_
  have P:=U.Qa P trivial
  have ay:Bs wb (fun b=>l.heap.size<=b/\b≠gf) H 32 hdE:=bH.imp fun b _ hd=>⟨Nat.le_trans (A.new t).size hd,by have:=b_.size Y;omega⟩
  have bu:=b_.size C
  obtain⟨f0,f1,f2,f3,f4,f5,f6,f7,f8⟩:=cs9 P
  obtain⟨z0,z1,z2,z3,z4,z5,z6,z7,z8⟩:=fz9 P
  have az:l.heap.size<=gf:=ai
  obtain⟨hE,y⟩:=mr P (.int .i64 D) (.int .i64 p) (.int .i64 g) (.slice I 16 ci) (.int .u64 m.gen) (.int .u64 m.seq) (.int .i64 se) (.int .i64 0) (.slice H 32 x)
  have nE:b_ (fun _=>True) wd _:=b_.Qd C y fun b hb _=>by have:=aT.out;show b≠gf;omega
  refine dQ (i:=12) zk rfl rfl (fun K d=>?_)
  go_simp
  try go_wp2_with fail
  clear f0 f1 f2 f3 f4 f5 f6 f7 f8 z0 z1 z2 z3 z4 z5 z6 z7 z8
  refine d _ _ nE ?_
  clear d K
  try simp only[zy]
  refine wpAnyH_done zk ?_ _
  generalize aU:World.setCell _ _ _=wE at *
  go_wp2
  go_meet
  exact⟨gf,H,x,rfl,az,hE,ay.keep y fun b _ hb=>hb.2,cH,A.new nE⟩
 obtain⟨gf,H,x,rfl,ah,hF,ck,cl,kF⟩:=hcut
 have c3:=zh ah
 have aA:=J2 ck cl
 have c4:=zh kF
 have aV:=cE.new (u.new kF)
 have aW:=zh<|zD _ Ao fn co (cX.map Prod.snd) wc aV (by rw[aw.1];exact aw.2.1) (by have h1:=an.2.1;have h2:=an.2.2;have h3:=bh.2.2;have:=fX h3;omega)
 rw[aw.1] at aW
 have N:o≠gf:=by
  have h1:=ax.size
  have h2:=u.size
  have h3:=(Array.getElem?_eq_some_iff.1 HX.out).1
  omega
 rw[<- bg.out] at aW
 have dw:rl<=1000000:=by rw[bg.out];exact aw.2.1
 obtain⟨Z,bx⟩:=zx (c1.on V.heap.size fun _=>xc)
 have aK:∀b,V.heap.size<=b->Z b=xc:=fun b hb=>by rw[bx];exact Col.Qf c1 _ hb
 have aL:Ext V c1 Z:=by rw[bx];exact Col.Qg c1 V _
 have bA:V.heap.size<=w5.heap.size:=cf.size
 have bB:=cG.out
 have bC:L.heap.size<=l.heap.size:=u.size
 have bD:=kF.size
 have bE:¬I0.has (Z gf):=by rw[aK gf zo];exact T.2.2.1
 have cJ:w3.heap.size<=V.heap.size:=by have:=aG.out;have:=cc.out;omega
 have c5:=aR.size
 have au:∀b,b<w3.heap.size->Z b=(c.on w.heap.size fun _=>xc) b:=fun b hb=>(aL b zo).trans (b9.2.1 b hb)
 have bF:∀b,b<w.heap.size->Z b=c b:=fun b hb=>(au b zo).trans (Col.on_old c _ hb)
 have bG:Z o=xc:=by have:=b3.out;have h3:=bm.2.2;exact(au o h3).trans (Col.Qf c _ zo)
 have aB:=J3 aK aL bE
 have aC:=J3 au bF bG
 have bI:=J4 bA bB bC bD
 have cm:=zh hF
 clear hF ck cl kF ah aV bx aK aL bE bA bB bC bD cJ c5 au bF bG
 go_wp2_with fail
 refine aW.mono ?_
 rintro e G⟨⟨A9,c9,rfl,o9⟩,k9⟩
 have aX:New l G:=c4.new k9
 have ao:=zh aX
 have c6:=zh k9.size
 have bJ:gf<wc.heap.size:=(Array.getElem?_eq_some_iff.1 cm.out).1
 have cn:=k9.Qa cm.out trivial
 replace aA:=J2 (aA.1.new k9) aA.2
 have cp:=zh o9
 have c7:=zh bJ
 have cK:Hid (New V G):=zh (cI.new (u.new aX))
 have bK:ei G Z I0 b B (st 0):=by rw[am.2.1];exact b9.2.2.keep cK.out aB.2.1 fun _ _ _=>trivial
 have c8:fD G:=am.2.2.2.new ((ax.new u.out).new aX)
 clear k9 aX aW bJ o9
 go_wp2_with fail
 go_loopw [10,85] (fun da bL wx=>∃(n bb:Nat) (BB:iu) (cx:Col),da=.pointer (some ⟨bb,0,none⟩)/\bL=.int .i64 (n:Int)/\n<=rl/\Ext G Z cx/\b_ (fun j=>j<G.heap.size/\¬I0.has (Z j)/\j≠gf) G wx/\ei wx cx I0 bb BB (st n)/\fz (st n) /\
  wx.heap[gf]?=some (.cells #[.int .i64 D,.int .i64 p,.int .i64 g,.slice I 16 ci,.int .u64 m.gen,.int .u64 (ve m.seq rs n),.int .i64 se,.int .i64 (n:Int),.slice H 32 x] 37 (0,0))) (fun _ bL _=>rl-(intOf bL).toNat)
 case atStart=>exact⟨0,b,B,Z,rfl,rfl,Nat.zero_le _,Ext.refl _ _,b_.refl _ _,bK,by rw[am.2.1];exact am.1,cn⟩
 clear bK c8 cn
 obtain⟨n,bb,BB,cx,rfl,rfl,dG,cq,cs,ct,cu,db⟩:=hrel
 have z:=J4 cq cs ct cu
 have R:=zh db
 clear cq cs ct cu
 have aa:Hid (w.heap.size<=w3.heap.size/\w3.heap.size<=V.heap.size/\V.heap.size<=w5.heap.size/\w5.heap.size<=L.heap.size/\L.heap.size<=l.heap.size/\l.heap.size<=gf/\gf<wc.heap.size/\wc.heap.size<=G.heap.size/\G.heap.size<=wr.heap.size):=zh ⟨aR.size,by have:=aG.out;have:=cc.out;omega,bI.1,bI.2.1,bI.2.2.1,c3.out,c7.out,c6.out,z.2.1.size⟩
 have aY:∀b,b<w.heap.size->b<G.heap.size/\¬I0.has (Z b)/\b≠gf:=fun b hb=>by
  have:=aa.out
  exact⟨zo,by rw[aC.2.1 b hb];exact T.2.1 b hb,zo⟩
 have aZ:∀b,V.heap.size<=b->b<G.heap.size->b≠gf->b<G.heap.size/\¬I0.has (Z b)/\b≠gf:=fun b h4 h9 hg=>⟨h9,by rw[aB.1 b h4];exact T.2.2.1,hg⟩
 have ae:=J2 aY aZ
 clear aY aZ
 by_cases hlt:n<rl
 ·have aD:n<rs.length:=by have:=bg.out;omega
  have dd:(n:Int)<(rl:Int):=zo
  have ac:=cp.keepE z.2.1 (fun k hk=>by have h1:=cp.lt k hk;have:=aa.out;exact ae.2 k zo h1.2 zo) (fun b hb=>by have:=aa.out;have h1:=hb.1.1;have h2:=hb.1.2;exact ae.2 b zo zo zo)
  obtain⟨gb,off,Q,qc,de,r0,r1,r2,a1,bM⟩:=E6 ac.sl aD
  subst de
  have bN:=am.2.2.1 n aD
  have bO:=aw.2.2 _ (List.getElem_mem aD)
  obtain⟨r,hr⟩:=zx (rs[n])
  have aj:ve m.seq rs (n+1)=r.seq:=by rw[Ae aD,hr]
  rw[<- hr] at r0 r1 r2 a1 bM bN bO
  have a2:=J3 bN aj bO
  have hml:fD wr:=by
   obtain⟨mv,aN⟩:=am.2.2.2
   have df:=((ax.new u.out).new ao.out).Qb aN trivial
   exact⟨mv,z.2.1.Qb df (ae.1 mlG (World.block_lt_of_cell? w _ aN))⟩
  obtain⟨bz,bP⟩:=zx (r.body.length)
  rw[<- bP] at r2 a1 bM bO
  have dg:=zh bP
  have cv:=J2 hml a1
  clear ac bN aj hr aD hml a1 bP bM
  go_upto_region 16 with fail
  have kB:=(zN wr).alloc (.cells #[.int .i64 r.kind,.int .u64 r.seq,.slice Q bz qc] 45)
  have xB:=heap_alloc_new wr (.cells #[.int .i64 r.kind,.int .u64 r.seq,.slice Q bz qc] 45)
  have ak:=Col.Qg cx wr fun _=>xc
  have ab:(cx.on wr.heap.size fun _=>xc) wr.heap.size=xc:=Col.Qf cx _ zr
  obtain⟨cy,cw⟩:=zx (cx.on wr.heap.size fun _=>xc)
  rw[<- cw] at ak ab
  have cz:=zh<|Bf (cr:=qc) (z.2.2.1.keep kB ak fun _ _ _=>zt) z.2.2.2 a2.1 (cv.1.new kB) (cv.2.new kB) (by rw[dg.out];exact a2.2.2)
  have bQ:wr.heap.size<(wr.alloc (.cells #[.int .i64 r.kind,.int .u64 r.seq,.slice Q bz qc] 45)).heap.size:=(Zl xB)
  generalize wr.alloc (.cells #[.int .i64 r.kind,.int .u64 r.seq,.slice Q bz qc] 45)=wB at *
  have cM:wr.heap.size≠gf:=by have:=aa.out;omega
  have HY:=J4 kB ak ab bQ
  obtain⟨dH,aM⟩:=zx (wr.heap.size)
  rw[<- aM] at xB cM ⊢
  have bR:=zh aM
  obtain⟨t0,t1,t2⟩:=cs3 xB
  have dh:=zh xB
  clear kB xB ak ab cw bQ aM r0 r1 r2
  go_wp2_with fail
  refine cz.mono ?_
  rintro e w2⟨b2,c2,B2,rfl,k2,x2,a6⟩
  have al:cy gf=xc:=by
   have h1:=aa.out
   have e1:=HY.2.1 gf zo
   have e2:=z.1 gf zo
   exact e1.trans (e2.trans (aB.1 gf zo))
  have cA:=k2.Qa dh.out ⟨by rw[bR.out];exact HY.2.2.2,by rw[bR.out,HY.2.2.1];exact T.2.2.1⟩
  have ap:=k2.Qa (HY.1.Qa R.out zt) ⟨by have h1:=aa.out;have:=HY.1.size;omega,by rw[al];exact T.2.2.1⟩
  have H2:=J4 k2 x2 a6 al
  have di:=zh ap
  have u1:=a_ cA (k:=1) rfl
  have g7:=a_ ap (k:=7) rfl
  have g5:=a_ ap (k:=5) rfl
  have z7:=dP ap 7
  have z5:=dP ap 5
  have dI:IntKind.i64.wrap ((n:Int)+1)=((n+1:Nat):Int):=by rw[IntWalk.i64_in _ zo];rfl
  clear t0 t1 t2 cz k2 x2 a6 al cA ap
  go_wp2
  go_roundw
  case rel =>
   obtain⟨k2,x2,a6,al⟩:=H2.out
   have dJ:=k2.size
   have hs:=aa.out
   obtain⟨kB,ak,ab,bQ⟩:=HY.out
   have p1:b_ (fun j=>j≠gf) w2 (w2.setCell ⟨gf,7,none⟩ (.int .i64 ((n:Int)+1))):=(b_.refl _ w2).setCell (p:=⟨gf,7,none⟩) (fun hd=>absurd rfl hd) _
   have p2:=p1.trans ((b_.refl (fun j=>j≠gf) (w2.setCell ⟨gf,7,none⟩ (.int .i64 ((n:Int)+1)))).setCell (p:=⟨gf,5,none⟩) (fun hd=>absurd rfl hd) (.int .u64 r.seq))
   have hb:=dM (dM di.out 7 (.int .i64 ((n:Int)+1))) 5 (.int .u64 r.seq)
   have hx2:Ext G Z c2:=fun j hj=>(x2 j zo).trans ((ak j zo).trans (z.1 j hj))
   have dj:c2 gf=xc:=(x2 gf zo).trans al
   refine⟨n+1,b2,B2,c2,rfl,by go_num,zo,hx2,((z.2.1.Qd kB fun _ _ _=>zt).Qd k2 fun j hj hh=>⟨zo,by rw[ak j zo,z.1 j hj];exact hh.2.1⟩).Qd p2 fun j hj hh=>hh.2.2,a6.keep p2 (Ext.refl _ _) fun j hj e e2=>?_,a2.1.inv z.2.2.2,?_⟩
   ·subst e2
    rw[dj] at e
    exact e.elim T.2.2.1 T.2.2.2.2
   rw[a2.2.1]
   exact hb
  simp[intOf];omega
 obtain rfl:n=rl:=by omega
 have dd:¬(n:Int)<(n:Int):=zo
 have bS:o<G.heap.size/\¬I0.has (Z o)/\o≠gf:=⟨by have:=aa.out;have:=bm.2.2;omega,by rw[aC.2.2];exact T.2.2.1,N⟩
 have cB:=z.2.1.Qa ((u.new ao.out).Qa HX.out zt) bS
 have dk:=zh cB
 go_upto_region 22 with fail
 have a7:=z.2.2.2.small
 have cN:=zh<|oA (J:=J) (z.2.2.1.new (b_.drew (zN wr))) a7.1 a7.2.1 a7.2.2 cT.out
 obtain⟨sq,aj⟩:=zx (ve m.seq rs n)
 rw[<- aj] at R
 rw[show ve m.seq rs n=sq from aj.symm]
 obtain⟨nn,bT⟩:=zx ((n:Int):Int)
 have dl:=zh bT
 rw[<- bT] at R
 have f0:∀W,b_ (fun b=>b≠o) wr.drew W->W.cell? ⟨gf,0,none⟩=some (.int .i64 D):=fun W a=>a.Qb (a_ (w:=wr.drew) R.out (k:=0) rfl) (Ne.symm N)
 have f1:∀W,b_ (fun b=>b≠o) wr.drew W->W.cell? ⟨gf,1,none⟩=some (.int .i64 p):=fun W a=>a.Qb (a_ (w:=wr.drew) R.out (k:=1) rfl) (Ne.symm N)
 have f2:∀W,b_ (fun b=>b≠o) wr.drew W->W.cell? ⟨gf,2,none⟩=some (.int .i64 g):=fun W a=>a.Qb (a_ (w:=wr.drew) R.out (k:=2) rfl) (Ne.symm N)
 have f3:∀W,b_ (fun b=>b≠o) wr.drew W->W.cell? ⟨gf,3,none⟩=some (.slice I 16 ci):=fun W a=>a.Qb (a_ (w:=wr.drew) R.out (k:=3) rfl) (Ne.symm N)
 have f4:∀W,b_ (fun b=>b≠o) wr.drew W->W.cell? ⟨gf,4,none⟩=some (.int .u64 m.gen):=fun W a=>a.Qb (a_ (w:=wr.drew) R.out (k:=4) rfl) (Ne.symm N)
 have f5:∀W,b_ (fun b=>b≠o) wr.drew W->W.cell? ⟨gf,5,none⟩=some (.int .u64 sq):=fun W a=>a.Qb (a_ (w:=wr.drew) R.out (k:=5) rfl) (Ne.symm N)
 have f6:∀W,b_ (fun b=>b≠o) wr.drew W->W.cell? ⟨gf,6,none⟩=some (.int .i64 se):=fun W a=>a.Qb (a_ (w:=wr.drew) R.out (k:=6) rfl) (Ne.symm N)
 have f7:∀W,b_ (fun b=>b≠o) wr.drew W->W.cell? ⟨gf,7,none⟩=some (.int .i64 nn):=fun W a=>a.Qb (a_ (w:=wr.drew) R.out (k:=7) rfl) (Ne.symm N)
 have f8:∀W,b_ (fun b=>b≠o) wr.drew W->W.cell? ⟨gf,8,none⟩=some (.slice H 32 x):=fun W a=>a.Qb (a_ (w:=wr.drew) R.out (k:=8) rfl) (Ne.symm N)
 have dm:=zh aj
 clear a7 bS cB bT aj
 refine eu (b_ (fun b=>b≠o) wr.drew) zk ?_
 have f:b_ (fun b=>b≠o) wr.drew wr.drew:=b_.refl _ _
 refine c_ 0 f ?_
 refine c_ 2 f ?_
 refine c_ 3 f ?_
 refine dQ (i:=1) zk rfl rfl (fun K d=>?_)
 go_simp
 refine cN.mono ?_
 rintro e bU⟨b',B',c',rfl,aq,a8,ba,av⟩
 go_wp2_with fail
 have X:=b_.new f aq
 refine d _ _ X ?_
 clear d K
 try simp only[zy]
 replace f:=X
 clear X
 refine c_ 4 f ?_
 refine c_ 5 f ?_
 have ab:bU.heap[o]?=some (.cells f_ 37 (0,0)):=aq.Qa (show wr.drew.heap[o]?=_ from dk.out) trivial
 have dp:=J4 aq a8 ba av
 clear aq a8 ba av f0 f1 f2 f3 f4 f5 f6 f7 f8
 obtain⟨d0,dq,d2,d3,d4,d5,d6,d7,d8⟩:=cs9 ab
 obtain⟨z0,z1,z2,z3,z4,z5,z6,z7,z8⟩:=fz9 ab
 obtain⟨hE,y⟩:=mr ab (.int .i64 D) (.int .i64 p) (.int .i64 g) (.slice I 16 ci) (.int .u64 m.gen) (.int .u64 sq) (.int .i64 se) (.int .i64 nn) (.slice H 32 x)
 refine dQ (i:=6) zk rfl rfl (fun K d=>?_)
 (go_simp;try go_wp2_with fail;clear d0 dq d2 d3 d4 d5 d6 d7 d8 z0 z1 z2 z3 z4 z5 z6 z7 z8)
 skip
 have X:=f.trans y
 refine d _ _ X ?_
 clear d K
 try simp only[zy]
 replace f:=X
 clear X
 refine c_ 7 f ?_
 refine wpAnyH_done zk ?_ _
 generalize aU:World.setCell _ _ _=wE at *
 have HE:=J2 hE y
 clear hE y aU f ab
 obtain⟨f0,f1,f2,f3,f4,f5,f6,f7,f8⟩:=cs9 HE.1
 go_wp2
 refine Zb (.tuple #[.pointer (some ⟨b',0,none⟩),.pointer (some ⟨bl,0,none⟩),.agg #[.int .i64 D,.int .i64 p,.int .i64 g,.slice I 16 ci,.int .u64 m.gen,.int .u64 sq,.int .i64 se,.int .i64 nn,.slice H 32 x],.int .i64 0]) (by simp[results,results12,go_sem,f0,f1,f2,f3,f4,f5,f6,f7,f8]) ?_
 clear f0 f1 f2 f3 f4 f5 f6 f7 f8
 obtain⟨aq,a8,ba,av⟩:=dp.out
 have y:=HE.2
 have hs:=aa.out
 have kr:New wr bU:=(b_.drew (zN wr)).new aq
 have zd:wr.heap.size<=b':=a8
 have cO:Ext wr cx c':=ba
 have aQ:=b3.out
 have dx:=bm.2.2
 have bc:∀b,b<G.heap.size->c' b=Z b:=fun b hb=>(cO b zo).trans (z.1 b hb)
 have cP:c' o=xc:=(bc o zo).trans aC.2.2
 have hF:∀b,b<bU.heap.size->J.has (c' b)\/c' b=0->b≠o:=fun b _ hb e=>by
  rw[e,cP] at hb
  exact hb.elim T.2.2.2.1 T.2.2.2.2
 have n9:New w G:=(ax.new u.out).new ao.out
 have nr:New w wr:=(n9.Qd z.2.1 fun b hb _=>ae.1 b hb)
 have bo:=cY.out
 have dy:=cF.out
 have cC:=bh.1.lt
 have dK:=bp.new (u.new ao.out)
 have dr:gU G (fun b=>(w5.heap.size<=b/\b≠bl)/\b<L.heap.size) w5.heap.size bl q ⟨D,p,g,se,nxE,hdE,[]⟩ none 0 S:=by
  have h0:=bp.keepD (u.new ao.out) trivial (fun _ _=>zt) (fun k hk=>by cases hk) fun _ _ _=>trivial
  exact h0
 have ds:=dr.keepD z.2.1 (ae.2 bl zo zo zo) (fun b hb=>ae.1 b (cC b hb)) (fun k hk=>by cases hk) fun b _ hb=>ae.2 b (by have:=hb.1.1;omega) (by have:=hb.2;omega) (by have:=hb.2;omega)
 have dt:=(ds.new kr).keepD y (by show bl≠o;omega) (fun b hb=>by have:=cC b hb;show b≠o;omega) (fun k hk=>by cases hk) fun b _ hb=>by have:=hb.1.1.1;show b≠o;omega
 have du:=dt.imp (D2:=fun b=>w.heap.size<=b/\b≠bl/\c' b=xc) (fun b _ hb=>⟨by have:=hb.1.1.1.1;omega,hb.1.1.1.2,(bc b (by have:=hb.1.1.2;omega)).trans (aB.1 b (by have:=hb.1.1.1.1;omega))⟩) (fun hb=>hb.2.1 rfl) (fun b hb=>bh.1.beyond b hb.1)
 rw[dl.out,dm.out]
 refine⟨b',B',c',bl,I,ci,H,x,rfl,(nr.new kr).Qd y fun b hb _=>by show b≠o;omega,zo,fun b hb=>(bc b zo).trans (aC.2.1 b hb),av.keep y (Ext.refl _ _) hF,⟨zo,(bc bl zo).trans (aB.1 bl zo)⟩,du.low zo,?_,b6.1,?_,aA.2.1⟩
 ·have dz:=cD.out
  have dA:=HK.size
  have h1:=(HI.new (u.new ao.out)).keep z.2.1 fun b _ hb=>⟨zo,by rw[aC.1 b zo,Col.Qf c _ zo];exact T.2.2.1,zo⟩
  exact((h1.new kr).keep y fun b _ hb=>by show b≠o;omega).imp fun b _ hb=>by omega
 have h1:=aA.1.keep z.2.1 fun b hb hd=>ae.2 b zo hb hd.2
 exact((h1.new kr).keep y fun b _ hb=>by show b≠o;omega).imp fun b _ hb=>by omega
