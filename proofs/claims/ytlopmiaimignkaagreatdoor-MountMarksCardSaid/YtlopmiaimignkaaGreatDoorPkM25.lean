/-
  PROVED HERE: what log.Open answers where its arguments are right, and it begins at the first segment; conditions: nothing on the disk is unsafe.
-/
import Derived.Test.YtlopmiaimignkaaGreatDoorPkM23
set_option maxRecDepth 100000
set_option maxHeartbeats 16000000
namespace Go.Proofs.YtlopmiaimignkaaGreatDoor
open Go.Proofs.Tryz
open Go.RowKit
theorem Bh{w:World}{q:g9}{S:List UInt8}{s p g fr:Nat}(hC:iK w q S)(hk:S.length=s*128)(hp:fg s p g=true)(hf:fr<=g)(h0:fr=0){D3 D4:Nat->Prop}(Hd:Option Addr)(hdc:Nat)(hb:List UInt8)(hH:Bs w D3 Hd 32 hb)(next:Int)(hn1:1<=next)(hn2:next<=1099511627776)(I:Option Addr)(ni ci:Nat)(id:List UInt8)(hI:Bs w D4 I ni id)(hci:ni<=ci)(hni:ni<=1000000):
  Calls prog 40 #[.pointer (some ⟨q.bd,0,none⟩),.agg #[.int .i64 s,.int .i64 p,.int .i64 g],.slice I ni ci,.int .i64 fr,.slice Hd 32 hdc,.int .u64 next] w (xh w q S s p g fr (qF fr next) (qG fr id hb)):=by
 replace h0:=zh h0
 obtain⟨P,aq⟩:=zx (qF fr next)
 obtain⟨aa,ar⟩:=zx (qG fr id hb)
 rw[<- aq,<- ar]
 replace aq:=zh aq
 replace ar:=zh ar
 have bm:=jy.1 hp
 have hg:g<=1000:=by omega
 have b7:s<=4096:=by omega
 have k1:New w (w.alloc (.cells #[.int .i64 s,.int .i64 p,.int .i64 g] 35)):=(zN w).alloc _
 have x1:=heap_alloc_new w (.cells #[.int .i64 s,.int .i64 p,.int .i64 g] 35)
 have aK:=fun W=>zh (kP s p g zo W)
 rw[hp] at aK
 have aW:=fun W (a:New w W)=>zh (by (obtain⟨b8,hd⟩:=hC.new a);exact mF hd hk)
 have aA:=fun W (a:New w W)=>zh (ik D3 Hd 32 hdc hb W (hH.new a) Zd)
 have aX:=fun W (a:New w W)=>zh (sj D4 I ni ci id W (hI.new a) hci zo)
 have bn:=zh<|fun W (a:New w W) (i:Nat) (hi:i<g)=>vp (hC.new a) hk hp hi
 have HH:=J3 hC hk hp
 have aB:Hid (∀j,w.heap.size<=j->fa q j):=zh hC.beyond
 clear hC hk hp hH hI bm
 generalize bo:w.alloc (.cells #[.int .i64 s,.int .i64 p,.int .i64 g] 35)=w1 at *
 have O:=J2 x1 k1
 clear x1 k1
 have y0:∀W,New w1 W->W.cell? ⟨w.heap.size,0,none⟩=some (.int .i64 s):=fun W a=>a_ (k:=0) (a.Qa O.1 zt) rfl
 have y1:∀W,New w1 W->W.cell? ⟨w.heap.size,1,none⟩=some (.int .i64 p):=fun W a=>a_ (k:=1) (a.Qa O.1 zt) rfl
 have y2:∀W,New w1 W->W.cell? ⟨w.heap.size,2,none⟩=some (.int .i64 g):=fun W a=>a_ (k:=2) (a.Qa O.1 zt) rfl
 have e1:decide (((fr:Nat):Int)<0)=false:=decide_eq_false zo
 have e2:decide (((g:Nat):Int)<((fr:Nat):Int))=false:=decide_eq_false zo
 have e6:decide (g<fr)=false:=decide_eq_false zo
 have e3:decide (next<1)=false:=decide_eq_false zo
 have e4:decide (1099511627776<next)=false:=decide_eq_false zo
 have e5:(((s:Nat):Int) !=((s:Nat):Int))=false:=by simp
 go_in
 go_upto_region 1 with fail
 clear bo
 refine eL zk ?_
 have c:New w1 w1.drew:=(zN w1).drew
 replace y0:=fun W (a:New w1.drew W)=>y0 W (b_.new c a)
 replace y1:=fun W (a:New w1.drew W)=>y1 W (b_.new c a)
 replace y2:=fun W (a:New w1.drew W)=>y2 W (b_.new c a)
 refine cL 0 ?_
 refine cL 1 ?_
 refine cL 2 ?_
 refine cL 3 ?_
 refine d_ (i:=4) zk rfl rfl (fun K l=>?_)
 go_simp
 refine(aK _).mono ?_
 rintro e w2⟨rfl,k2⟩
 go_wp2_with fail
 refine l _ _ k2 ?_
 clear l K
 try simp only[zy]
 replace c:=b_.new c k2
 replace y0:=fun W (a:New w2 W)=>y0 W (b_.new k2 a)
 replace y1:=fun W (a:New w2 W)=>y1 W (b_.new k2 a)
 replace y2:=fun W (a:New w2 W)=>y2 W (b_.new k2 a)
 refine cL 5 ?_
 refine cL 6 ?_
 refine cL 7 ?_
 refine cL 8 ?_
 refine cL 9 ?_
 refine cL 10 ?_
 refine d_ (i:=11) zk rfl rfl (fun K l=>?_)
 go_simp
 refine(aW _ (O.2.new c)).mono ?_
 rintro e w3⟨rfl,k3⟩;have k3:=New.of_eq k3
 go_wp2_with fail
 refine l _ _ k3 ?_
 clear l K
 try simp only[zy]
 replace c:=b_.new c k3
 replace y0:=fun W (a:New w3 W)=>y0 W (b_.new k3 a)
 replace y1:=fun W (a:New w3 W)=>y1 W (b_.new k3 a)
 replace y2:=fun W (a:New w3 W)=>y2 W (b_.new k3 a)
 refine cL 12 ?_
 refine cL 13 ?_
 refine cL 14 ?_
 refine cL 15 ?_
 refine cL 16 ?_
 refine cL 17 ?_
 refine cL 18 ?_
 refine cL 19 ?_
 refine cL 20 ?_
 refine cL 21 ?_
 refine cL 22 ?_
 refine cL 23 ?_
 refine cL 24 ?_
 refine cL 25 ?_
 refine cL 26 ?_
 refine cL 27 ?_
 refine cL 28 ?_
 refine cL 29 ?_
 refine cL 30 ?_
 refine cL 31 ?_
 refine cL 32 ?_
 refine cL 33 ?_
 refine cL 34 ?_
 refine cL 35 ?_
 refine cL 36 ?_
 refine wpAnyH_done zk ?_ _
 have aC:=zh<|O.2.new c
 have an:=zh<|c.Qa O.1 zt
 clear k2 k3 c aK aW e1 e2 e3 e4 e5 e6 y0 y1 y2 O
 go_upto_region 3 with fail
 have y0:∀W,New w3 W->W.cell? ⟨w.heap.size,0,none⟩=some (.int .i64 s):=fun W a=>a_ (k:=0) (a.Qa an.out zt) rfl
 have y1:∀W,New w3 W->W.cell? ⟨w.heap.size,1,none⟩=some (.int .i64 p):=fun W a=>a_ (k:=1) (a.Qa an.out zt) rfl
 have y2:∀W,New w3 W->W.cell? ⟨w.heap.size,2,none⟩=some (.int .i64 g):=fun W a=>a_ (k:=2) (a.Qa an.out zt) rfl
 refine eu (New w3.drew) zk ?_
 have T:New w3 w3.drew:=(zN w3).drew
 have r0:∀W,New w3.drew W->W.cell? ⟨w.heap.size,0,none⟩=some (.int .i64 s):=fun W a=>y0 W (T.new a)
 have r1:∀W,New w3.drew W->W.cell? ⟨w.heap.size,1,none⟩=some (.int .i64 p):=fun W a=>y1 W (T.new a)
 have r2:∀W,New w3.drew W->W.cell? ⟨w.heap.size,2,none⟩=some (.int .i64 g):=fun W a=>y2 W (T.new a)
 generalize w3.drew=w4 at *
 have c:New w4 w4:=zN _
 refine c_ 0 c ?_
 refine c_ 1 c ?_
 refine c_ 2 c ?_
 refine c_ 3 c ?_
 refine c_ 5 c ?_
 refine dQ (i:=4) zk rfl rfl (fun K l=>?_)
 go_simp
 refine(aA _ (aC.new T)).mono ?_
 rintro e w5⟨⟨A5,V,rfl,o5⟩,k5⟩
 go_wp2_with fail
 refine l _ _ k5 ?_
 clear l K
 try simp only[zy]
 refine c_ 6 k5 ?_
 refine dQ (i:=7) zk rfl rfl (fun K l=>?_)
 go_simp
 try go_wp2_with fail
 have k6:=k5.alloc (.cells #[.pointer (some ⟨q.bd,0,none⟩),.int .i64 s,.int .i64 p,.int .i64 g,.int .i64 fr,.slice A5 32 V,.int .u64 next,.slice none 0 0] 71)
 have x6:=heap_alloc_new w5 (.cells #[.pointer (some ⟨q.bd,0,none⟩),.int .i64 s,.int .i64 p,.int .i64 g,.int .i64 fr,.slice A5 32 V,.int .u64 next,.slice none 0 0] 71)
 have q6:=(zN w5).alloc (.cells #[.pointer (some ⟨q.bd,0,none⟩),.int .i64 s,.int .i64 p,.int .i64 g,.int .i64 fr,.slice A5 32 V,.int .u64 next,.slice none 0 0] 71)
 refine l _ _ k6 ?_
 clear l K
 try simp only[zy]
 have bp:=zh<|Row.new ((Row.Qc o5).imp (E:=fun b=>w4.heap.size<=b/\b<w5.heap.size) fun b hb hd=>⟨hd,hb⟩) q6
 have b9:=ew o5
 have bt:=(aC.new T).size
 have bu:=k5.size
 generalize w5.alloc (.cells #[.pointer (some ⟨q.bd,0,none⟩),.int .i64 s,.int .i64 p,.int .i64 g,.int .i64 fr,.slice A5 32 V,.int .u64 next,.slice none 0 0] 71)=w6 at *
 generalize bx:w5.heap.size=u at *
 refine c_ 8 k6 ?_
 refine wpAnyH_done zk ?_ _
 have aL:=zh<|(aC.new T).new k6
 have aY:=zh<|(T.new k6).Qa an.out zt
 have aD:w.heap.size<=u:=Nat.le_trans bt bu
 have aZ:w.heap.size≠u:=by have h1:=(Array.getElem?_eq_some_iff.1 an.out).1;have h2:=T.size;omega
 clear y0 y1 y2 r0 r1 r2 c k5 k6 q6 T an aC o5 bx aA
 have aM:(1:Int)=P:=by rw[aq.out];exact(if_pos h0.out).symm
 have hx2:jA id=aa:=by rw[ar.out];exact(if_pos h0.out).symm
 have hn1:1<=P:=by omega
 have hn2:P<=1099511627776:=by omega
 replace aM:=zh aM
 replace hx2:=zh hx2
 have cb:(((fr:Nat):Int)==0)=true:=by rw[h0.out];rfl
 go_upto_region 5 with fail
 go_wp2_with fail
 refine(aX _ aL.out).mono ?_
 rintro e z⟨⟨A8,c8,rfl,o8⟩,k8⟩
 have aE:=k8.Qa x6 trivial
 have b3:=(Zl x6)
 have aF:=dM aE 5 (.slice A8 32 c8)
 have aN:=dM aF 6 (.int .u64 1)
 have V:=a_ aE (k:=5) rfl
 have f5:=dP aE 5
 have c6:=a_ aF (k:=6) rfl
 have f6:=dP aF 6
 go_upto_region 6 with fail
 have kk:b_ (fun j=>j≠u) z ((z.setCell ⟨u,5,none⟩ (.slice A8 32 c8)).setCell ⟨u,6,none⟩ (.int .u64 1)):=((b_.refl _ z).setCell (p:=⟨u,5,none⟩) (fun hd=>absurd rfl hd) _).setCell (p:=⟨u,6,none⟩) (fun hd=>absurd rfl hd) _
 clear V f5 c6 f6 aF aE
 generalize (z.setCell ⟨u,5,none⟩ (.slice A8 32 c8)).setCell ⟨u,6,none⟩ (.int .u64 1)=H at *
 have bf:H.heap[u]?=some (.cells #[.pointer (some ⟨q.bd,0,none⟩),.int .i64 s,.int .i64 p,.int .i64 g,.int .i64 fr,.slice A8 32 c8,.int .u64 P,.slice none 0 0] 71 (0,0)):=by rw[<- aM.out];exact aN
 have bz:Hid (Bs H (fun b=>w6.heap.size<=b) A8 32 aa):=zh (by rw[<- hx2.out];exact(Row.Qc o8).keep kk (fun b _ hb e=>by omega))
 have bA:=ew o8
 have bB:=zh<|kk.Qa (k8.Qa aY.out zt) aZ
 have bg:=zh<|((b_.Qe (D:=fun b=>b<w.heap.size) (aL.new k8)).Qd kk (fun b _ hb e=>by omega)).Qi (fun b hb=>hb)
 have cc:=aL.size
 clear aX aY bp x6 aN o8 k8 kk
 have bC:Hid (jU H (fun b=>w.heap.size<=b/\b≠u) w.heap.size u q.bd ⟨s,p,g,fr,P,aa,[]⟩ none 0):=zh ⟨⟨A8,c8,bf,bA,bz.imp fun b _ hb=>⟨⟨zo,zo⟩,by simp[blk]⟩⟩,gJ.nil _ _ _ _ _,by dsimp only;omega,by dsimp only;omega,⟨Nat.zero_le _,hf,hg⟩,fun h=>h.2 rfl,by simp[blk]⟩
 obtain⟨F0,aO⟩:∃F0,Hid (F0=jp S p (g-fr) fr P aa):=⟨_,zh rfl⟩
 go_upto_region 6 with fail
 go_wp2_with fail
 go_loopw [16] (fun so wx=>∃(j:Nat) (Ao:Option Addr) (co:Nat) (Y:List (jj×List eA)),fr+j<=g/\Y.length=j/\so=.slice Ao j co/\New w wx/\wx.heap[w.heap.size]?=some (.cells #[.int .i64 s,.int .i64 p,.int .i64 g] 35 (0,0)) /\
     jU wx (fun b=>(w.heap.size<=b/\b≠u)/\some b≠blk Ao) w.heap.size u q.bd ⟨s,p,g,fr+j,(jg (P) (aa) Y).1,(jg (P) (aa) Y).2,[]⟩ none 0/\gJ 68 (vd gT) wx w.heap.size (fun b=>w.heap.size<=b/\b≠u) Ao j co (Y.map Prod.snd)/\blk Ao≠some u /\
     F0=Y++jp S p (g-(fr+j)) (fr+j) (jg (P) (aa) Y).1 (jg (P) (aa) Y).2) (fun so _=>(g-fr)-(match so with|.slice _ n _=>n|_=>0))
 case atStart=>exact⟨0,none,0,[],hf,rfl,rfl,bg.out,bB.out,bC.imp (fun b _ hb=>⟨hb,by simp[blk]⟩) (fun h=>h.1.2 rfl),gJ.nil _ _ _ _ _,by simp[blk],aO.out⟩
 obtain⟨j,Ao,co,Y,hj,a1,rfl,l,hx,hL,hO,a2,hF⟩:=hrel
 have HK:=zh l
 have O:=zh hx
 have HL:=zh hL
 have HO:=zh hO
 have aP:=zh a2
 have aG:=zh hF
 have aj:=zh a1
 obtain⟨nx,au⟩:=zx ((jg (P) (aa) Y).1)
 obtain⟨af,av⟩:=zx ((jg (P) (aa) Y).2)
 rw[<- au,<- av] at HL aG
 replace au:=zh au
 replace av:=zh av
 clear l hO a2 hF a1 hL
 obtain⟨Hh,ce,J,b4,ak⟩:=HL.cells
 replace ak:=zh ak
 have c4:wr.cell? ⟨u,4,none⟩=some (.int .i64 ((fr+j:Nat):Int)):=a_ J (k:=4) rfl
 have p2:=a_ hx (k:=2) rfl
 obtain⟨o,R⟩:=zx (fr+j)
 rw[<- R] at c4
 replace R:=zh R
 clear hx J
 go_upto_region 7 with fail
 go_quiet (fail)
 rename_i nq
 have hq:New wr (wr.drewN nq):=(zN wr).drewN nq
 have HK:=zh<|HK.new hq
 have O:=zh<|hq.Qa O.out zt
 have HL:=zh<|HL.new hq
 have HO:=zh<|HO.new hq
 replace ak:=zh<|ak.new hq
 generalize wr.drewN nq=M at *
 clear c4 p2 hq
 have bh:=zh HL.lt
 have bD:=zh HO.out
 have bE:Hid (blk Ao≠some w.heap.size):=zh (by obtain⟨_,ho⟩:=HO.own;exact mK ho O.out Zd)
 by_cases hlt:o<g
 ·have bF:(o:Int)<(g:Int):=zo
  have aw:=fun W (a:New M W)=>zh (bn.out W (HK.new a) o hlt)
  have ao:=fun(W:World) (Q:Option Addr) (qc:Nat) (hB:Bs W (fun b=>M.heap.size<=b) Q 1024 (eJ S p o)) (h1:1024<=qc) (h2:qc<=9223372036854775807)=>zh (tB _ Q 1024 qc (eJ S p o) W hB h1 h2)
  have aH:=uK (eJ S p o)
  have aQ:=AF (eJ S p o)
  have aR:=Bv (eJ S p o)
  have aS:Hid (∀m,jp S p (m+1) o nx af=if (ev (eJ S p o)).2.2=0/\(ev (eJ S p o)).1.index=o/\(ev (eJ S p o)).1.first=nx/\(ev (eJ S p o)).1.prev=af then((ev (eJ S p o)).1,(ev (eJ S p o)).2.1)::jp S p m (o+1) ((ev (eJ S p o)).1.first+(ev (eJ S p o)).1.count) (la (ev (eJ S p o)).1) else[]):=zh fun m=>rfl
  generalize eJ S p o=pb at *
  generalize ev pb=d at *
  obtain⟨h,U,ai⟩:=d
  dsimp only at aH aQ aR aS ao
  have ax:=J3 aH.1 aQ aR
  have cf:U.length<=942:=aH.2.2
  clear aH aQ aR
  go_upto_region 8 with fail
  go_cut [17,18,19] (fun bG bH bI wx=>∃(A:Nat) (P1 P2 Z:Option Addr) (p1 p2 G:Nat),bG=.pointer (some ⟨A,0,none⟩)/\bH=.slice Z U.length G/\bI=.int .i64 ai/\M.heap.size<=A/\wx.heap[A]?=some (.cells #[.int .i64 h.index,.int .u64 h.first,.int .i64 h.count,.int .i64 h.bytes,.slice P1 h.prev.length p1,.slice P2 h.root.length p2] 94 (0,0)) /\
     h.prev.length<=p1/\h.root.length<=p2/\Bs wx (fun b=>M.heap.size<=b) P1 h.prev.length h.prev/\Bs wx (fun b=>M.heap.size<=b) P2 h.root.length h.root/\U.length<=G/\G<=9223372036854775807/\Sl gT wx (fun b=>M.heap.size<=b) Z U.length U/\New M wx)
  case first =>
   have T:New M M.drew:=(zN M).drew
   refine eu (New M.drew) zk ?_
   have r0:∀W,New M.drew W->W.cell? ⟨w.heap.size,0,none⟩=some (.int .i64 s):=fun W a=>a_ (k:=0) ((T.new a).Qa O.out zt) rfl
   have r1:∀W,New M.drew W->W.cell? ⟨w.heap.size,1,none⟩=some (.int .i64 p):=fun W a=>a_ (k:=1) ((T.new a).Qa O.out zt) rfl
   have r2:∀W,New M.drew W->W.cell? ⟨w.heap.size,2,none⟩=some (.int .i64 g):=fun W a=>a_ (k:=2) ((T.new a).Qa O.out zt) rfl
   have r4:∀W,New M.drew W->W.cell? ⟨u,4,none⟩=some (.int .i64 (o:Int)):=fun W a=>by (obtain⟨Hz,hz,bJ,_⟩:=(HL.new (T.new a)).cells);rw[R.out];exact a_ (k:=4) bJ rfl
   have ab:M.heap.size=M.drew.heap.size:=rfl
   have aw:=fun W (a:New M.drew W)=>aw W (T.new a)
   rw[ab] at ao
   generalize M.drew=z at *
   have c:New z z:=zN _
   refine c_ 0 c ?_
   refine c_ 1 c ?_
   refine c_ 2 c ?_
   refine c_ 3 c ?_
   refine c_ 4 c ?_
   refine c_ 5 c ?_
   clear r0 r1 r2 r4
   refine mw (i:=6) (j:=12) zk rfl rfl rfl rfl (fun K l=>?_) (fun K l=>?_)
   ·as_aux_lemma =>
    go_simp
    refine(aw _ c).mono ?_
    rintro e f⟨⟨A5,V,rfl,o5⟩,k5⟩
    go_wp2_with fail
    have n1:=b_.new c k5
    refine l _ _ n1 ?_
    clear l K
    try simp only[zy]
    have ag:Bs f (fun b=>z.heap.size<=b) A5 1024 pb:=(Row.Qc o5).imp fun b _ hb=>Nat.le_trans (b_.size c) hb
    have h5:1024<=V/\V<=9223372036854775807:=⟨ew o5,eh o5⟩
    clear o5
    refine mw (i:=7) (j:=12) zk rfl rfl rfl rfl (fun K l=>?_) (fun K l=>?_)
    ·as_aux_lemma =>
     go_simp
     refine(ao f A5 V ag h5.1 h5.2).mono ?_
     rintro e H⟨⟨P1,p1,P2,p2,Z,G,rfl,ac,ad,r,t,B⟩,k6⟩
     dsimp only at ac ad r t B ⊢
     go_wp2_with fail
     have n2:=b_.new n1 k6
     refine l _ _ n2 ?_
     clear l K
     try simp only[zy]
     have X:=b_.size n1
     have r:=r.imp (E:=fun b=>z.heap.size<=b/\b<H.heap.size) (fun b hlt hb=>⟨Nat.le_trans X hb,hlt⟩)
     have t:=t.imp (E:=fun b=>z.heap.size<=b/\b<H.heap.size) (fun b hlt hb=>⟨Nat.le_trans X hb,hlt⟩)
     have C:=(qE.1 (B.recs (fun x hx=>by have h1:=gE x;rw[ax.1 x hx] at h1;have h2:=of_decide_eq_true h1.symm;omega))).imp (F:=fun b=>z.heap.size<=b/\b<H.heap.size) (fun b hlt hb=>(fun b hlt hb=>⟨Nat.le_trans X hb,hlt⟩) b hlt (hb.elim (fun h=>h) (fun h=>h)))
     have ae:U.length<=G/\G<=9223372036854775807:=⟨B.cap,B.capMax⟩
     clear B ag h5
     refine c_ 8 n2 ?_
     refine c_ 9 n2 ?_
     refine c_ 10 n2 ?_
     refine c_ 11 n2 ?_
     refine dQ (i:=12) zk rfl rfl (fun K l=>?_)
     go_simp
     try go_wp2_with fail
     have n4:=n2.alloc (.cells #[.int .i64 0,.int .u64 0,.int .i64 0,.int .i64 0,.slice none 0 0,.slice none 0 0] 94)
     have y:=heap_alloc_new H (.cells #[.int .i64 0,.int .u64 0,.int .i64 0,.int .i64 0,.slice none 0 0,.slice none 0 0] 94)
     have kz:=(zN H).alloc (.cells #[.int .i64 0,.int .u64 0,.int .i64 0,.int .i64 0,.slice none 0 0,.slice none 0 0] 94)
     have ay:=b_.size n2
     have N:H.heap.size<(H.alloc (.cells #[.int .i64 0,.int .u64 0,.int .i64 0,.int .i64 0,.slice none 0 0,.slice none 0 0] 94)).heap.size:=by simp
     refine l _ _ n4 ?_
     clear l K
     try simp only[zy]
     generalize H.alloc (.cells #[.int .i64 0,.int .u64 0,.int .i64 0,.int .i64 0,.slice none 0 0,.slice none 0 0] 94)=wz at *
     generalize a6:H.heap.size=A at y ay N r t C ⊢
     have r:=(r.new kz).imp (E:=fun b=>z.heap.size<=b/\b≠A) fun b _ hb=>⟨hb.1,Nat.ne_of_lt hb.2⟩
     have t:=(t.new kz).imp (E:=fun b=>z.heap.size<=b/\b≠A) fun b _ hb=>⟨hb.1,Nat.ne_of_lt hb.2⟩
     have C:=(C.new kz).imp (F:=fun b=>z.heap.size<=b/\b≠A) fun b _ hb=>⟨hb.1,Nat.ne_of_lt hb.2⟩
     obtain⟨z0,z1,z2,z3,z4,z5⟩:=fz6 y
     obtain⟨d0,d1,d2,d3,d4,d5⟩:=cs6 y
     refine dQ (i:=13) zk rfl rfl (fun K l=>?_)
     go_simp
     obtain⟨az,kf⟩:=six_cells y (.int .i64 h.index) (.int .u64 h.first) (.int .i64 h.count) (.int .i64 h.bytes) (.slice P1 h.prev.length p1) (.slice P2 h.root.length p2)
     have nf:=((b_.Qe (D:=fun b=>b<z.heap.size) n4).Qd kf (fun b _ hb e=>by omega)).Qi (fun b hb=>hb)
     have r:=r.keep kf (fun b _ hb=>hb.2)
     have t:=t.keep kf (fun b _ hb=>hb.2)
     have C:=C.keep kf (fun b _ hb=>hb.2)
     refine l _ _ nf ?_
     clear l K z0 z1 z2 z3 z4 z5 d0 d1 d2 d3 d4 d5
     try simp only[zy]
     generalize World.setCell _ _ _=wf at *
     refine c_ 14 nf ?_
     refine c_ 15 nf ?_
     refine wpAnyH_done zk ?_ _
     go_wp2
     go_meet
     exact⟨A,P1,P2,Z,p1,p2,G,rfl,rfl,rfl,zo,az,ac,ad,r.imp fun b _ hb=>by rw[ab];exact hb.1,t.imp fun b _ hb=>by rw[ab];exact hb.1,ae.1,ae.2,C.imp fun b _ hb=>by rw[ab];exact hb.1,T.new nf⟩
    as_aux_lemma =>
    go_simp
    try go_wp2_with fail
    have n4:=n1.alloc (.cells #[.int .i64 0,.int .u64 0,.int .i64 0,.int .i64 0,.slice none 0 0,.slice none 0 0] 94)
    have y:=heap_alloc_new f (.cells #[.int .i64 0,.int .u64 0,.int .i64 0,.int .i64 0,.slice none 0 0,.slice none 0 0] 94)
    have kz:=(zN f).alloc (.cells #[.int .i64 0,.int .u64 0,.int .i64 0,.int .i64 0,.slice none 0 0,.slice none 0 0] 94)
    have ay:=b_.size n1
    have N:f.heap.size<(f.alloc (.cells #[.int .i64 0,.int .u64 0,.int .i64 0,.int .i64 0,.slice none 0 0,.slice none 0 0] 94)).heap.size:=by simp
    refine l _ _ n4 ?_
    clear l K
    try simp only[zy]
    generalize f.alloc (.cells #[.int .i64 0,.int .u64 0,.int .i64 0,.int .i64 0,.slice none 0 0,.slice none 0 0] 94)=wz at *
    generalize a6:f.heap.size=A at y ay N  ⊢
    have ag:=ag.new kz
    refine dQ (i:=7) zk rfl rfl (fun K l=>?_)
    go_simp
    refine(ao wz A5 V ag h5.1 h5.2).mono ?_
    rintro e H⟨⟨P1,p1,P2,p2,Z,G,rfl,ac,ad,r,t,B⟩,k6⟩
    dsimp only at ac ad r t B ⊢
    go_wp2_with fail
    have n5:=b_.new n4 k6
    refine l _ _ n5 ?_
    clear l K
    try simp only[zy]
    have X:=b_.size n4
    have r:=r.imp (E:=fun b=>z.heap.size<=b/\b≠A) (fun b _ hb=>⟨Nat.le_trans X hb,by have h1:A<wz.heap.size:=N;omega⟩)
    have t:=t.imp (E:=fun b=>z.heap.size<=b/\b≠A) (fun b _ hb=>⟨Nat.le_trans X hb,by have h1:A<wz.heap.size:=N;omega⟩)
    have C:=(qE.1 (B.recs (fun x hx=>by have h1:=gE x;rw[ax.1 x hx] at h1;have h2:=of_decide_eq_true h1.symm;omega))).imp (F:=fun b=>z.heap.size<=b/\b≠A) (fun b hlt hb=>(fun b _ hb=>⟨Nat.le_trans X hb,by have h1:A<wz.heap.size:=N;omega⟩) b hlt (hb.elim (fun h=>h) (fun h=>h)))
    have ae:U.length<=G/\G<=9223372036854775807:=⟨B.cap,B.capMax⟩
    clear B ag h5
    have y:=k6.Qa y trivial
    refine c_ 8 n5 ?_
    refine c_ 9 n5 ?_
    refine c_ 10 n5 ?_
    refine c_ 11 n5 ?_
    obtain⟨z0,z1,z2,z3,z4,z5⟩:=fz6 y
    obtain⟨d0,d1,d2,d3,d4,d5⟩:=cs6 y
    refine dQ (i:=13) zk rfl rfl (fun K l=>?_)
    go_simp
    obtain⟨az,kf⟩:=six_cells y (.int .i64 h.index) (.int .u64 h.first) (.int .i64 h.count) (.int .i64 h.bytes) (.slice P1 h.prev.length p1) (.slice P2 h.root.length p2)
    have nf:=((b_.Qe (D:=fun b=>b<z.heap.size) n5).Qd kf (fun b _ hb e=>by omega)).Qi (fun b hb=>hb)
    have r:=r.keep kf (fun b _ hb=>hb.2)
    have t:=t.keep kf (fun b _ hb=>hb.2)
    have C:=C.keep kf (fun b _ hb=>hb.2)
    refine l _ _ nf ?_
    clear l K z0 z1 z2 z3 z4 z5 d0 d1 d2 d3 d4 d5
    try simp only[zy]
    generalize World.setCell _ _ _=wf at *
    refine c_ 14 nf ?_
    refine c_ 15 nf ?_
    refine wpAnyH_done zk ?_ _
    go_wp2
    go_meet
    exact⟨A,P1,P2,Z,p1,p2,G,rfl,rfl,rfl,zo,az,ac,ad,r.imp fun b _ hb=>by rw[ab];exact hb.1,t.imp fun b _ hb=>by rw[ab];exact hb.1,ae.1,ae.2,C.imp fun b _ hb=>by rw[ab];exact hb.1,T.new nf⟩
   as_aux_lemma =>
   go_simp
   try go_wp2_with fail
   have n1:=c.alloc (.cells #[.int .i64 0,.int .u64 0,.int .i64 0,.int .i64 0,.slice none 0 0,.slice none 0 0] 94)
   have y:=heap_alloc_new z (.cells #[.int .i64 0,.int .u64 0,.int .i64 0,.int .i64 0,.slice none 0 0,.slice none 0 0] 94)
   have kz:=(zN z).alloc (.cells #[.int .i64 0,.int .u64 0,.int .i64 0,.int .i64 0,.slice none 0 0,.slice none 0 0] 94)
   have ay:=b_.size c
   have N:z.heap.size<(z.alloc (.cells #[.int .i64 0,.int .u64 0,.int .i64 0,.int .i64 0,.slice none 0 0,.slice none 0 0] 94)).heap.size:=by simp
   refine l _ _ n1 ?_
   clear l K
   try simp only[zy]
   generalize z.alloc (.cells #[.int .i64 0,.int .u64 0,.int .i64 0,.int .i64 0,.slice none 0 0,.slice none 0 0] 94)=wz at *
   generalize a6:z.heap.size=A at y ay N  ⊢
   refine dQ (i:=6) zk rfl rfl (fun K l=>?_)
   go_simp
   refine(aw _ n1).mono ?_
   rintro e f⟨⟨A5,V,rfl,o5⟩,k5⟩
   go_wp2_with fail
   have n4:=b_.new n1 k5
   refine l _ _ n4 ?_
   clear l K
   try simp only[zy]
   have ag:Bs f (fun b=>z.heap.size<=b) A5 1024 pb:=(Row.Qc o5).imp fun b _ hb=>Nat.le_trans (b_.size n1) hb
   have h5:1024<=V/\V<=9223372036854775807:=⟨ew o5,eh o5⟩
   clear o5
   have y:=k5.Qa y trivial
   have N:A<f.heap.size:=Nat.lt_of_lt_of_le N k5.size
   refine dQ (i:=7) zk rfl rfl (fun K l=>?_)
   go_simp
   refine(ao f A5 V ag h5.1 h5.2).mono ?_
   rintro e H⟨⟨P1,p1,P2,p2,Z,G,rfl,ac,ad,r,t,B⟩,k6⟩
   dsimp only at ac ad r t B ⊢
   go_wp2_with fail
   have n5:=b_.new n4 k6
   refine l _ _ n5 ?_
   clear l K
   try simp only[zy]
   have X:=b_.size n4
   have r:=r.imp (E:=fun b=>z.heap.size<=b/\b≠A) (fun b _ hb=>⟨Nat.le_trans X hb,by have h1:A<f.heap.size:=N;omega⟩)
   have t:=t.imp (E:=fun b=>z.heap.size<=b/\b≠A) (fun b _ hb=>⟨Nat.le_trans X hb,by have h1:A<f.heap.size:=N;omega⟩)
   have C:=(qE.1 (B.recs (fun x hx=>by have h1:=gE x;rw[ax.1 x hx] at h1;have h2:=of_decide_eq_true h1.symm;omega))).imp (F:=fun b=>z.heap.size<=b/\b≠A) (fun b hlt hb=>(fun b _ hb=>⟨Nat.le_trans X hb,by have h1:A<f.heap.size:=N;omega⟩) b hlt (hb.elim (fun h=>h) (fun h=>h)))
   have ae:U.length<=G/\G<=9223372036854775807:=⟨B.cap,B.capMax⟩
   clear B ag h5
   have y:=k6.Qa y trivial
   refine c_ 8 n5 ?_
   refine c_ 9 n5 ?_
   refine c_ 10 n5 ?_
   refine c_ 11 n5 ?_
   obtain⟨z0,z1,z2,z3,z4,z5⟩:=fz6 y
   obtain⟨d0,d1,d2,d3,d4,d5⟩:=cs6 y
   refine dQ (i:=13) zk rfl rfl (fun K l=>?_)
   go_simp
   obtain⟨az,kf⟩:=six_cells y (.int .i64 h.index) (.int .u64 h.first) (.int .i64 h.count) (.int .i64 h.bytes) (.slice P1 h.prev.length p1) (.slice P2 h.root.length p2)
   have nf:=((b_.Qe (D:=fun b=>b<z.heap.size) n5).Qd kf (fun b _ hb e=>by omega)).Qi (fun b hb=>hb)
   have r:=r.keep kf (fun b _ hb=>hb.2)
   have t:=t.keep kf (fun b _ hb=>hb.2)
   have C:=C.keep kf (fun b _ hb=>hb.2)
   refine l _ _ nf ?_
   clear l K z0 z1 z2 z3 z4 z5 d0 d1 d2 d3 d4 d5
   try simp only[zy]
   generalize World.setCell _ _ _=wf at *
   refine c_ 14 nf ?_
   refine c_ 15 nf ?_
   refine wpAnyH_done zk ?_ _
   go_wp2
   go_meet
   exact⟨A,P1,P2,Z,p1,p2,G,rfl,rfl,rfl,zo,az,ac,ad,r.imp fun b _ hb=>by rw[ab];exact hb.1,t.imp fun b _ hb=>by rw[ab];exact hb.1,ae.1,ae.2,C.imp fun b _ hb=>by rw[ab];exact hb.1,T.new nf⟩
  obtain⟨A,P1,P2,Z,p1,p2,G,rfl,rfl,rfl,cg,a7,ac,ad,r,t,ae,bi,C,k8⟩:=hcut
  generalize wc=f at *
  have HK:=zh<|HK.new k8
  have O:=zh<|k8.Qa O.out zt
  have HL:=zh<|HL.new k8
  have HO:=zh<|HO.new k8
  replace ak:=zh<|ak.new k8
  have ch:=k8.size
  have HB:=J3 r t C
  have ap:=zh a7
  clear r t C a7 k8 aw ao
  obtain⟨Hq,a8,J,b5,ba⟩:=HL.cells
  have al:=zh<|fun W (a:New f W)=>nA _ _ P1 Hq h.prev.length p1 32 a8 h.prev af W (HB.1.new a) (ba.new a)
  have aA:=zh J
  rw[<- R.out] at J
  clear ba
  go_upto_region 9 with fail
  go_cut [123] (fun sx wx=>sx=.bool (!decide (ai=0/\h.index=(o:Int)/\h.first=nx/\h.prev=af))/\New f wx)
  case first =>
   have c:New f f:=zN _
   have r0:∀W,New f W->W.cell? ⟨A,0,none⟩=some (.int .i64 h.index):=fun W a=>a_ (k:=0) (a.Qa ap.out zt) rfl
   have r1:∀W,New f W->W.cell? ⟨A,1,none⟩=some (.int .u64 h.first):=fun W a=>a_ (k:=1) (a.Qa ap.out zt) rfl
   have r4:∀W,New f W->W.cell? ⟨A,4,none⟩=some (.slice P1 h.prev.length p1):=fun W a=>a_ (k:=4) (a.Qa ap.out zt) rfl
   have t4:∀W,New f W->W.cell? ⟨u,4,none⟩=some (.int .i64 (o:Int)):=fun W a=>a_ (k:=4) (a.Qa J zt) rfl
   have t5:∀W,New f W->W.cell? ⟨u,5,none⟩=some (.slice Hq 32 a8):=fun W a=>a_ (k:=5) (a.Qa J zt) rfl
   have t6:∀W,New f W->W.cell? ⟨u,6,none⟩=some (.int .u64 nx):=fun W a=>a_ (k:=6) (a.Qa J zt) rfl
   clear J
   by_cases q0:ai=0
   rotate_left
   ·as_aux_lemma =>
    have b0:(ai !=0)=true:=by simpa using q0
    refine eL zk ?_
    have c:New f f.drew:=(zN f).drew
    replace r0:=fun W (a:New f.drew W)=>r0 W (b_.new c a)
    replace r1:=fun W (a:New f.drew W)=>r1 W (b_.new c a)
    replace r4:=fun W (a:New f.drew W)=>r4 W (b_.new c a)
    replace t4:=fun W (a:New f.drew W)=>t4 W (b_.new c a)
    replace t5:=fun W (a:New f.drew W)=>t5 W (b_.new c a)
    replace t6:=fun W (a:New f.drew W)=>t6 W (b_.new c a)
    refine cL 0 ?_
    refine cL 1 ?_
    refine cL 2 ?_
    refine gc 3 ?_
    refine gc 4 ?_
    refine gc 5 ?_
    refine gc 6 ?_
    refine gc 7 ?_
    refine gc 8 ?_
    refine gc 9 ?_
    refine cL 10 ?_
    refine cL 11 ?_
    refine gc 12 ?_
    refine gc 13 ?_
    refine gc 14 ?_
    refine gc 15 ?_
    refine gc 16 ?_
    refine gc 17 ?_
    refine gc 18 ?_
    refine cL 19 ?_
    refine cL 20 ?_
    refine gc 21 ?_
    refine gc 22 ?_
    refine gc 23 ?_
    refine gc 24 ?_
    refine gc 25 ?_
    refine gc 26 ?_
    refine gc 27 ?_
    refine gc 28 ?_
    refine cL 29 ?_
    refine wpAnyH_done zk ?_ _
    go_wp2
    go_meet
    exact⟨by simp[q0],c⟩
   have b0:(ai !=0)=false:=by simpa using q0
   replace q0:=zh q0
   by_cases q1:h.index=(o:Int)
   rotate_left
   ·as_aux_lemma =>
    have b1:(h.index !=(o:Int))=true:=by simpa using q1
    refine eL zk ?_
    have c:New f f.drew:=(zN f).drew
    replace r0:=fun W (a:New f.drew W)=>r0 W (b_.new c a)
    replace r1:=fun W (a:New f.drew W)=>r1 W (b_.new c a)
    replace r4:=fun W (a:New f.drew W)=>r4 W (b_.new c a)
    replace t4:=fun W (a:New f.drew W)=>t4 W (b_.new c a)
    replace t5:=fun W (a:New f.drew W)=>t5 W (b_.new c a)
    replace t6:=fun W (a:New f.drew W)=>t6 W (b_.new c a)
    refine cL 0 ?_
    refine cL 1 ?_
    refine cL 2 ?_
    refine cL 3 ?_
    refine cL 4 ?_
    refine cL 5 ?_
    refine cL 6 ?_
    refine cL 7 ?_
    refine cL 8 ?_
    refine cL 9 ?_
    refine cL 10 ?_
    refine cL 11 ?_
    refine gc 12 ?_
    refine gc 13 ?_
    refine gc 14 ?_
    refine gc 15 ?_
    refine gc 16 ?_
    refine gc 17 ?_
    refine gc 18 ?_
    refine cL 19 ?_
    refine cL 20 ?_
    refine gc 21 ?_
    refine gc 22 ?_
    refine gc 23 ?_
    refine gc 24 ?_
    refine gc 25 ?_
    refine gc 26 ?_
    refine gc 27 ?_
    refine gc 28 ?_
    refine cL 29 ?_
    refine wpAnyH_done zk ?_ _
    go_wp2
    go_meet
    exact⟨by simp[q1],c⟩
   have b1:(h.index !=(o:Int))=false:=by simpa using q1
   by_cases q2:h.first=nx
   rotate_left
   ·as_aux_lemma =>
    have b2:(h.first !=nx)=true:=by simpa using q2
    replace q1:=zh q1
    refine eL zk ?_
    have c:New f f.drew:=(zN f).drew
    replace r0:=fun W (a:New f.drew W)=>r0 W (b_.new c a)
    replace r1:=fun W (a:New f.drew W)=>r1 W (b_.new c a)
    replace r4:=fun W (a:New f.drew W)=>r4 W (b_.new c a)
    replace t4:=fun W (a:New f.drew W)=>t4 W (b_.new c a)
    replace t5:=fun W (a:New f.drew W)=>t5 W (b_.new c a)
    replace t6:=fun W (a:New f.drew W)=>t6 W (b_.new c a)
    refine cL 0 ?_
    refine cL 1 ?_
    refine cL 2 ?_
    refine cL 3 ?_
    refine cL 4 ?_
    refine cL 5 ?_
    refine cL 6 ?_
    refine cL 7 ?_
    refine cL 8 ?_
    refine cL 9 ?_
    refine cL 10 ?_
    refine cL 11 ?_
    refine cL 12 ?_
    refine cL 13 ?_
    refine cL 14 ?_
    refine cL 15 ?_
    refine cL 16 ?_
    refine cL 17 ?_
    refine cL 18 ?_
    refine cL 19 ?_
    refine cL 20 ?_
    refine gc 21 ?_
    refine gc 22 ?_
    refine gc 23 ?_
    refine gc 24 ?_
    refine gc 25 ?_
    refine gc 26 ?_
    refine gc 27 ?_
    refine gc 28 ?_
    refine cL 29 ?_
    refine wpAnyH_done zk ?_ _
    go_wp2
    go_meet
    exact⟨by simp[q2],c⟩
   have b2:(h.first !=nx)=false:=by simpa using q2
   replace q1:=zh q1
   replace q2:=zh q2
   obtain⟨bq,aI⟩:=zx ((h.prev==af))
   have al:=al.out
   rw[<- aI] at al
   replace al:=zh al
   replace aI:=zh aI
   refine eL zk ?_
   have c:New f f.drew:=(zN f).drew
   replace r0:=fun W (a:New f.drew W)=>r0 W (b_.new c a)
   replace r1:=fun W (a:New f.drew W)=>r1 W (b_.new c a)
   replace r4:=fun W (a:New f.drew W)=>r4 W (b_.new c a)
   replace t4:=fun W (a:New f.drew W)=>t4 W (b_.new c a)
   replace t5:=fun W (a:New f.drew W)=>t5 W (b_.new c a)
   replace t6:=fun W (a:New f.drew W)=>t6 W (b_.new c a)
   refine cL 0 ?_
   refine cL 1 ?_
   refine cL 2 ?_
   refine cL 3 ?_
   refine cL 4 ?_
   refine cL 5 ?_
   refine cL 6 ?_
   refine cL 7 ?_
   refine cL 8 ?_
   refine cL 9 ?_
   refine cL 10 ?_
   refine cL 11 ?_
   refine cL 12 ?_
   refine cL 13 ?_
   refine cL 14 ?_
   refine cL 15 ?_
   refine cL 16 ?_
   refine cL 17 ?_
   refine cL 18 ?_
   refine cL 19 ?_
   refine cL 20 ?_
   refine cL 21 ?_
   refine cL 22 ?_
   refine cL 23 ?_
   refine cL 24 ?_
   refine cL 25 ?_
   refine cL 26 ?_
   refine d_ (i:=27) zk rfl rfl (fun K l=>?_)
   go_simp
   refine(al.out _ c).mono ?_
   rintro e wz⟨rfl,L⟩;have L:=New.of_eq L
   go_wp2_with fail
   refine l _ _ L ?_
   clear l K
   try simp only[zy]
   replace c:=b_.new c L
   replace r0:=fun W (a:New wz W)=>r0 W (b_.new L a)
   replace r1:=fun W (a:New wz W)=>r1 W (b_.new L a)
   replace r4:=fun W (a:New wz W)=>r4 W (b_.new L a)
   replace t4:=fun W (a:New wz W)=>t4 W (b_.new L a)
   replace t5:=fun W (a:New wz W)=>t5 W (b_.new L a)
   replace t6:=fun W (a:New wz W)=>t6 W (b_.new L a)
   refine cL 28 ?_
   refine cL 29 ?_
   refine wpAnyH_done zk ?_ _
   go_wp2
   go_meet
   exact⟨by rw[aI.out];simp[q0.out,q1.out,q2.out,Bool.beq_eq_decide_eq],c⟩
  obtain⟨rfl,L⟩:=hcut
  have HK:=zh<|HK.new L
  have O:=zh<|L.Qa O.out zt
  have HL:=zh<|HL.new L
  have HO:=zh<|HO.new L
  have ap:=zh<|L.Qa ap.out zt
  have HB:=J3 (HB.1.new L) (HB.2.1.new L) (HB.2.2.new L)
  have cj:=L.size
  clear J aA al L ak
  by_cases ah:ai=0/\h.index=(o:Int)/\h.first=nx/\h.prev=af
  ·have am:(!decide (ai=0/\h.index=(o:Int)/\h.first=nx/\h.prev=af))=false:=by rw[decide_eq_true ah];rfl
   rw[am]
   clear am
   replace ah:=zh ah
   have aJ:=aS.out (g-(o+1))
   rw[if_pos ah.out] at aJ
   replace aJ:=zh aJ
   have ck:=HL.lt
   have b6:u<M.heap.size:=bh.out
   have bK:=zh<|Ct HL.out h P1 P2 p1 p2 HB.1 ac HB.2.1 ad (fun b hb e=>by omega) (fun b hb e=>by omega) ah.2.2.1 ax.2.2.1 ax.2.2.2 (by have:=R.out;dsimp only;omega)
   obtain⟨c0,c1,c2,G,c4,V⟩:=cs6 ap.out
   go_upto_region 10 with fail
   go_wp2_with fail
   refine bK.mono ?_
   rintro e wd⟨rfl,kd,bb⟩
   clear c0 c1 c2 G c4 V
   have kA:New wd (wd.alloc (.cells #[.slice Z U.length G] 68)):=(zN wd).alloc _
   have bL:=(Row.made wd 68 #[.slice Z U.length G] 1 1 rfl).imp (E:=fun _=>True) fun _ _ _=>trivial
   have bc:=(HO.keepE kd (fun k hk e=>aP.out (by rw[hk,e])) (fun b hb=>hb.2)).new kA
   have aT:=fun k hk=>(bD.lt k hk).2
   have be:Sl gT (wd.alloc (.cells #[.slice Z U.length G] 68)) (fun b=>(w.heap.size<=b/\b≠u)/\some b≠blk Ao) Z U.length U:=((HB.2.2.keep kd (fun b _ hb=>by show b≠u;omega)).new kA).imp fun b _ hb=>⟨⟨zo,zo⟩,fun e=>by have:=aT b e.symm;omega⟩
   generalize cl:wd.alloc (.cells #[.slice Z U.length G] 68)=wA at *
   have bM:w.heap.size<=wA.heap.size:=Nat.le_trans HK.size (Nat.le_trans kd.size kA.size)
   obtain⟨q0,bN,bO,bP,bQ⟩:=info_parts Bn
   have bR:=zh bc
   have bS:=zh be
   have bT:=zh bb
   have bU:=J2 kd kA
   clear bc be bb kd kA aT
   go_wp2_with (at_builtin;refine Ir (E:=vd gT) _ rfl _ _ 104 68 rfl q0 (.slice none 0 0) 24 underlying104 bN bO bP bQ rfl w.heap.size (fun b=>w.heap.size<=b/\b≠u) Ao j co (Y.map Prod.snd) rfl bR.out (fun _=>True) (some ⟨wd.heap.size,0,none⟩) 1 [.slice Z U.length G] U rfl bL ⟨Z,G,rfl,ae,bi,bS.out⟩ zo zo bM ?_;intro A4 c4 w4 o4 bV aU)
   have kg:b_ (fun j=>some j≠blk Ao) wA w4:=b_.grown (b_.refl _ _) bV (fun j hj hd=>absurd hj.symm hd)
   obtain⟨kd,kA⟩:=bU.out
   have aV:=HO.lt
   have cm:=kd.size
   have bW:New w w4:=((((b_.Qe (D:=fun b=>b<w.heap.size) HK.out).Qd kd (fun b _ hb=>by show b≠u;omega)).new kA).Qd kg (fun b _ hb e=>by have:=(aV b e.symm).1;omega)).Qi (fun b hb=>hb)
   have bX:=kg.Qa (kA.Qa (kd.Qa O.out aZ) zt) (fun e=>by have h1:=(aV _ e.symm).1;have h2:=bE.out;exact h2 e.symm)
   have bj:blk A4≠some u:=fun e=>by rcases aU with h1|h1;exact aP.out (h1.symm.trans e);rw[h1] at e;injection e with e;have:=kA.size;omega
   have bY:=(bT.new kA).imp (F:=fun b=>((w.heap.size<=b/\b≠u)/\some b≠blk Ao)/\b<wA.heap.size) (fun b hb hd=>⟨by rcases hd with hd|hd;exact hd;exact⟨⟨zo,zo⟩,fun e=>by have:=(aV b e.symm).2;omega⟩,hb⟩) (fun hd=>hd.1.1.2 rfl)
   have bZ:=(bY.keep kg (fun e=>aP.out e.symm) (fun k hk=>by cases hk) (fun b hb=>hb.1.2)).imp (F:=fun b=>(w.heap.size<=b/\b≠u)/\some b≠blk A4) (fun b _ hd=>⟨hd.1.1,fun e=>by rcases aU with h1|h1;exact hd.1.2 (e.trans h1);rw[h1] at e;injection e with e;have:=hd.2;omega⟩) (fun hd=>hd.1.2 rfl)
   go_roundw
   case rel =>
    refine⟨j+1,A4,c4,Y++[(h,U)],by have:=R.out;omega,by rw[zL,aj.out];rfl,rfl,bW,bX,?_,?_,bj,?_⟩
    ·rw[mY]
     exact bZ
    ·rw[List.map_append]
     exact o4
    rw[mY,aG.out,List.append_assoc]
    have h2:=R.out
    have e1:jp S p (g-o) o nx af=(h,U)::jp S p (g-(o+1)) (o+1) (h.first+h.count) (la h):=by (have h1:=aJ.out);rwa[show g-(o+1)+1=g-o from by omega] at h1
    have e2:fr+(j+1)=o+1:=by omega
    rw[e2]
    first|rw[e1]|rw[<- h2,e1]
    rfl
   have:=R.out;simp;omega
  have am:(!decide (ai=0/\h.index=(o:Int)/\h.first=nx/\h.prev=af))=true:=by rw[decide_eq_false ah];rfl
  rw[am]
  clear am
  have hfd:F0=Y:=by (have h1:=aS.out (g-(o+1)));rw[if_neg ah,show g-(o+1)+1=g-(fr+j) from by have:=R.out;omega,R.out] at h1;rw[aG.out,h1,List.append_nil]
  replace ah:=zh ah
  replace hfd:=zh hfd
  go_wp2
  refine Zb (.tuple #[.pointer (some ⟨u,0,none⟩),.slice Ao j co,.int .i64 0]) (by simp[results,results40,go_sem]) ?_
  unfold xh
  refine⟨HK.out,u,Ao,co,Y,hfd.symm.trans aO.out,by rw[aj.out],aD,⟨?_,HH.1.new HK.out,HH.2.1,HH.2.2,aB.out u aD,fun k hk=>(by cases hk),fun b hb=>aB.out b hb.1⟩,by rw[aj.out];exact HO.out⟩
  rw[aj.out,<- au.out,<- av.out]
  exact HL.imp (fun b _ hd=>hd.1) (fun hd=>hd.2 rfl)
 have bF:¬((o:Int)<(g:Int)):=zo
 have hfd:F0=Y:=by rw[aG.out,show g-(fr+j)=0 from by have:=R.out;omega];exact List.append_nil _
 replace hfd:=zh hfd
 go_wp2
 refine Zb (.tuple #[.pointer (some ⟨u,0,none⟩),.slice Ao j co,.int .i64 0]) (by simp[results,results40,go_sem]) ?_
 unfold xh
 refine⟨HK.out,u,Ao,co,Y,hfd.symm.trans aO.out,by rw[aj.out],aD,⟨?_,HH.1.new HK.out,HH.2.1,HH.2.2,aB.out u aD,fun k hk=>(by cases hk),fun b hb=>aB.out b hb.1⟩,by rw[aj.out];exact HO.out⟩
 rw[aj.out,<- au.out,<- av.out]
 exact HL.imp (fun b _ hd=>hd.1) (fun hd=>hd.2 rfl)
