/-
  PROVED HERE: what log.Append answers; conditions: the log is as LogOn says, its records make a segment.
-/
import Derived.Deep.CutBlock
import Derived.Test.YtlopmiaimignkaaGreatDoorPkM23
set_option maxRecDepth 100000
set_option maxHeartbeats 1000000
namespace Go.Proofs.YtlopmiaimignkaaGreatDoor
open Go.Proofs.Tryz
open Go.RowKit
variable{r:eA}{w w':World}{D:Nat->Prop}{base bl c:Nat}{q:g9}{A:Option Addr}{S:List UInt8}
theorem F1{rs:List eA}(h:∀x∈rs,dZ x=true)(hr:dZ r=true):decide ((rs.length:Int)<(i8 942 (rs++[r]):Nat))=decide (eX rs+eU r<=942):=by
 have b:∀x∈rs++[r],dZ x=true:=fun x a=>by
  rcases List.mem_append.1 a with a|a
  ·exact h x a
  rw[List.mem_singleton] at a;subst a;exact hr
 have hw:=kX rs hr
 have hl:(rs++[r]).length=rs.length+1:=by simp
 rw[decide_eq_decide]
 constructor
 ·intro h1
  have h2:=(qS 942 (rs++[r]) zo).2.1
  unfold eX at *
  omega
 intro h1
 have h2:=qj (left:=942) b (by unfold eX at *;omega)
 omega
theorem gU.wide{v:iO}(h:gU w D base bl q v A c S)(hk:New w w'):gU w' (fun b=>D b\/w.heap.size<=b) base bl q v A c S:=by
 have hl:=h.log.lt
 have h2:=h.new hk
 exact⟨h2.log.imp (fun b _ hd=>.inl hd) (fun hd=>hd.elim h.log.out (fun h=>by omega)),h2.disk,h.size,h.plan,h.apart,h.row,fun b hb=>hb.elim (h.data b) (h.disk.beyond b)⟩
theorem gU.under{v:iO}(h:gU w D base bl q v A c S)(hk:New w w'):gU w' (fun b=>D b/\b<w.heap.size) base bl q v A c S:=by
 have h1:gU w (fun b=>D b/\b<w.heap.size) base bl q v A c S:=⟨h.log.imp (fun b hb hd=>⟨hd,hb⟩) (fun hd=>h.log.out hd.1),h.disk,h.size,h.plan,h.apart,h.row,fun b hb=>h.data b hb.1⟩
 exact h1.new hk
def iO.fits(v:iO)(r:eA):Bool:=decide (eX v.waits+eU r<=942)
def iO.code(v:iO)(r:eA):Int:=if v.g-v.sealed=0 then 15 else if v.fits r=true then 0 else if v.g-v.sealed=1 then 15 else 0
def iO.more(v:iO)(r:eA):iO:=⟨v.s,v.p,v.g,v.sealed,v.next,v.head,v.waits++[r]⟩
def iO.append(v:iO)(r:eA):iO:=if v.code r=15 then v else if v.fits r=true then v.more r else v.shut.more r
def iO.adisk(v:iO)(r:eA)(S:List UInt8):List UInt8:=if v.code r=15 then S else if v.fits r=true then S else v.disk S
theorem gU.grown{w9 wA wB wC:World}{D1:Nat->Prop}{v v1:iO}{A1 A7 H9:Option Addr}{c1 c7 hc9 gt:Nat}{S1:List UInt8}(h:gU w D base bl q v A c S)(k0:b_ (fun j=>j≠bl/\fa q j/\some j≠blk A) w w9)(s8:b_ (fun j=>j≠bl/\some j≠blk A1) w9 wC)(h9:gU w9 D1 base bl q v1 A1 c1 S1)(hbE:wC.heap[bl]?=some (.cells #[.pointer (some ⟨q.bd,0,none⟩),.int .i64 v1.s,.int .i64 v1.p,.int .i64 v1.g,.int .i64 v1.sealed,.slice H9 32 hc9,.int .u64 v1.next,.slice A7 (v1.waits.length+1) c7] 71 (0,0)))(h32:32<=hc9)(hB9:Bs w9 (fun b=>D1 b/\some b≠blk A1) H9 32 v1.head)(kS:b_ (fun b=>b≠bl) wB wC)(o7:gJ 45 gT wB base (fun b=>D1 b\/gt<=b) A7 (v1.waits.length+1) c7 (v1.waits++[r]))(hbk7:blk A7=blk A1\/blk A7=some wA.heap.size)(hA9:w9.heap.size<=wA.heap.size)(hgt:w.heap.size<=gt)(hA1:blk A1=blk A\/A1=none)(hD1:∀b,D1 b->D b\/w.heap.size<=b)(hn:v1.waits.length+1<=100):
  b_ (fun j=>j≠bl/\fa q j/\some j≠blk A) w wC/\∃A' c',gU wC (fun b=>D b\/w.heap.size<=b) base bl q (v1.more r) A' c' S1/\(blk A'=blk A\/∀k,blk A'=some k->w.heap.size<=k):=by
 have e:(v1.waits++[r]).length=v1.waits.length+1:=by simp
 have hl:=h.log.lt
 have hz:=k0.size
 have d:=h9.log.apart
 have a:blk A7≠some bl:=fun e=>by
  rcases hbk7 with h1|h1
  ·exact d (h1.symm.trans e)
  rw[h1] at e;injection e;omega
 rw[<- e] at hbE o7
 refine⟨k0.Qd s8 (fun j _ hd=>⟨hd.1,fun e=>?_⟩),A7,c7,⟨⟨⟨H9,hc9,hbE,h32,?_⟩,?_,h9.log.next0,h9.log.next1,⟨by rw[<- e] at hn;exact hn,h9.log.few.2⟩,fun hd=>hd.elim h.log.out (fun h=>by omega),a⟩,h9.disk.keep s8 (fun b hb=>⟨fun e=>my hb (e▸h.apart),fun e=>my hb (h9.row b e.symm)⟩),h9.size,h9.plan,h.apart,fun k hk=>?_,fun b hb=>hb.elim (h.data b) (h.disk.beyond b)⟩,?_⟩
 ·rcases hA1 with h1|h1
  ·exact hd.2.2 (e.trans h1)
  rw[h1] at e;cases e
 ·refine((hB9.imp (E:=fun b=>(D1 b/\some b≠blk A1)/\b<w9.heap.size) fun b hb hd=>⟨hd,hb⟩).keep s8 (fun b _ hd=>⟨fun e=>h9.log.out (e▸hd.1.1),hd.1.2⟩)).imp fun b _ hd=>⟨hD1 b hd.1.1,fun e=>?_⟩
  rcases hbk7 with h1|h1
  ·exact hd.1.2 (e.trans h1)
  rw[h1] at e;injection e;have:=hd.2;omega
 ·exact(o7.keepE kS (fun k hk e=>a (by rw[hk,e])) (fun b hb e=>hb.elim (fun hb=>h9.log.out (e▸hb)) (fun hb=>by omega))).imp fun b _ hb=>hb.elim (hD1 b) (fun hb=>.inr (Nat.le_trans hgt hb))
 ·rcases hbk7 with h1|h1
  ·exact h9.row k (h1.symm.trans hk)
  rw[h1] at hk;injection hk with hk;exact h.disk.beyond k zo
 rcases hbk7 with h1|h1
 ·rcases hA1 with h2|h2
  ·exact .inl (h1.trans h2)
  exact .inr fun k hk=>by rw[h1,h2] at hk;cases hk
 exact .inr fun k hk=>by rw[h1] at hk;injection hk with hk;omega
theorem sa{v:iO}(h:gU w D base bl q v A c S)(r:eA)(Ar:Option Addr)(m cr:Nat)(hm:r.body.length=m){D2:Nat->Prop}(hB:Bs w D2 Ar m r.body)(hcr:m<=cr)(hcr9:cr<=9223372036854775807)(hD2:∀j,D2 j->j≠bl/\fa q j/\some j≠blk A)(hbase:base<=w.heap.size)(hr:dZ r=true)(hs0:0<=r.seq)(hq:r.seq=v.next+(v.waits.length:Int))(hwr:∀x∈v.waits,dZ x=true/\0<=x.seq)(hwb:eX v.waits<=942)(hfine:v.waits.length≠0->j3 v.sealed v.next v.head v.waits)(hft0:v.fits r=true)(hr0:v.g-v.sealed≠0):
  Calls prog 7 #[.pointer (some ⟨bl,0,none⟩),.agg #[.int .i64 r.kind,.int .u64 r.seq,.slice Ar m cr]] w fun e w'=>e=.returned (.int .i64 (v.code r))/\b_ (fun j=>j≠bl/\fa q j/\some j≠blk A) w w' /\
   ∃A' c',gU w' (fun b=>D b\/w.heap.size<=b) base bl q (v.append r) A' c' (v.adisk r S)/\(blk A'=blk A\/∀k,blk A'=some k->w.heap.size<=k):=by
 have k1:New w (w.alloc (.cells #[.int .i64 r.kind,.int .u64 r.seq,.slice Ar m cr] 45)):=(zN w).alloc _
 have x1:=heap_alloc_new w (.cells #[.int .i64 r.kind,.int .u64 r.seq,.slice Ar m cr] 45)
 have HR:=fun W=>zh (mh r.kind r.seq Ar m cr r W rfl rfl hm (by have:=gE r;rw[hr] at this;have:=of_decide_eq_true this.symm;omega))
 rw[hr] at HR
 have HN:=fun W (a:New w W)=>zh (qd (h.log.new a))
 rw[<- hq] at HN
 have bE:(r.seq !=r.seq)=false:=by simp
 have bF:m<=900:=by have:=gE r;rw[hr] at this;have:=of_decide_eq_true this.symm;omega
 have bG:r.seq<=1099511627776:=by have:=gE r;rw[hr] at this;have:=of_decide_eq_true this.symm;omega
 have bH:=h.log.lt
 have a8:=ri hwr
 obtain⟨ba,bI,bJ⟩:=h.log.few
 have o:=F1 (fun x hx=>(hwr x hx).1) hr
 have ah:=fun(Q:Option Addr) (qc:Nat) (W:World) (E:Nat->Prop) (hS:Sl gT W E Q (v.waits.length+1) (v.waits++[r]))=>qR E Q (v.waits.length+1) qc (v.waits++[r]) W (qE.2 hS) zo
 have aL:Hid (v.fits r=decide (eX v.waits+eU r<=942)):=zh rfl
 rw[<- aL.out] at o
 have ap:=fun W (a:New w W)=>uW _ A v.waits.length c v.waits W (h.log.waits.sl.new a) zo
 obtain⟨H,hc,hb,bK,bb⟩:=h.log.cells
 have HH:=J5 h hB hD2 hfine hbase
 have HX:=J2 x1 k1
 obtain⟨n,hn⟩:=zx (v.waits.length)
 rw[<- hn] at hb o ap ba ah
 have aq:=zh ap
 have bD:n<=62:=by omega
 generalize i8 942 (v.waits++[r])=fi at *
 have ar:=zh ah
 clear ah
 replace o:=zh o
 replace hq:=zh hq
 replace hwr:=zh hwr
 replace hwb:=zh hwb
 clear hr
 have au:∀(W:World) (t:TypeId),Row (W.alloc (.cells #[.int .i64 r.kind,.int .u64 r.seq,.slice Ar m cr] t)) (fun _=>True) (some ⟨W.heap.size,0,none⟩) 1 3 [.int .i64 r.kind,.int .u64 r.seq,.slice Ar m cr]:=fun W t=>(Row.made W t #[.int .i64 r.kind,.int .u64 r.seq,.slice Ar m cr] 1 3 rfl).imp fun _ _ _=>trivial
 have av:=zh au
 have aw:=zh<|fun W (a:New w W)=>(hB.imp (E:=fun b=>D2 b/\b<w.heap.size) fun b hb hd=>⟨hd,hb⟩).new a
 replace hm:=zh hm
 clear h hB hD2 hfine hbase ap bb a8 au
 generalize bc:w.alloc (.cells #[.int .i64 r.kind,.int .u64 r.seq,.slice Ar m cr] 45)=J at *
 clear k1 x1
 have P:∀W,New J W->W.cell? ⟨w.heap.size,0,none⟩=some (.int .i64 r.kind):=fun W a=>a_ (k:=0) (a.Qa HX.1 zt) rfl
 have R:∀W,New J W->W.cell? ⟨w.heap.size,1,none⟩=some (.int .u64 r.seq):=fun W a=>a_ (k:=1) (a.Qa HX.1 zt) rfl
 have T:∀W,New J W->W.cell? ⟨w.heap.size,2,none⟩=some (.slice Ar m cr):=fun W a=>a_ (k:=2) (a.Qa HX.1 zt) rfl
 have L:∀W,New J W->W.cell? ⟨bl,7,none⟩=some (.slice A n c):=fun W a=>a_ (k:=7) ((HX.2.new a).Qa hb zt) rfl
 replace hn:=zh hn
 go_in
 go_upto_region 1 with fail
 clear bc
 refine eL zk ?_
 have f:New J J.drew:=(zN J).drew
 replace P:=fun W (a:New J.drew W)=>P W (b_.new f a)
 replace R:=fun W (a:New J.drew W)=>R W (b_.new f a)
 replace T:=fun W (a:New J.drew W)=>T W (b_.new f a)
 replace L:=fun W (a:New J.drew W)=>L W (b_.new f a)
 refine cL 0 ?_
 refine d_ (i:=1) zk rfl rfl (fun K d=>?_)
 go_simp
 refine(HR _).mono ?_
 rintro e w2⟨rfl,k2⟩
 go_wp2_with fail
 refine d _ _ k2 ?_
 clear d K
 try simp only[zy]
 replace f:=b_.new f k2
 replace P:=fun W (a:New w2 W)=>P W (b_.new k2 a)
 replace R:=fun W (a:New w2 W)=>R W (b_.new k2 a)
 replace T:=fun W (a:New w2 W)=>T W (b_.new k2 a)
 replace L:=fun W (a:New w2 W)=>L W (b_.new k2 a)
 refine cL 2 ?_
 refine cL 3 ?_
 refine cL 4 ?_
 refine cL 5 ?_
 refine cL 6 ?_
 refine d_ (i:=7) zk rfl rfl (fun K d=>?_)
 go_simp
 refine(HN _ (HX.2.new f)).mono ?_
 rintro e C⟨rfl,k3⟩
 go_wp2_with fail
 refine d _ _ k3 ?_
 clear d K
 try simp only[zy]
 replace f:=b_.new f k3
 replace P:=fun W (a:New C W)=>P W (b_.new k3 a)
 replace R:=fun W (a:New C W)=>R W (b_.new k3 a)
 replace T:=fun W (a:New C W)=>T W (b_.new k3 a)
 replace L:=fun W (a:New C W)=>L W (b_.new k3 a)
 refine cL 8 ?_
 refine cL 9 ?_
 refine wpAnyH_done zk ?_ _
 have n3:New J C:=f
 have ax:=zh<|HX.2.new n3
 have ay:=zh<|n3.Qa HX.1 zt
 clear k2 k3 f n3 HR HN
 go_upto_region 3 with fail
 go_cut [5] (fun s5 wx=>s5=.bool (v.fits r)/\New C wx)
 case first =>
  have n3:New C C.drew:=(zN C).drew
  refine eu (New C.drew) zk ?_
  have f:New C.drew C.drew:=zN _
  generalize C.drew=s at *
  have M:=zh<|ax.new n3
  have az:=zh<|n3.Qa ay.out zt
  clear P R T L
  have P:∀W,New s W->W.cell? ⟨w.heap.size,0,none⟩=some (.int .i64 r.kind):=fun W a=>a_ (k:=0) (a.Qa az.out zt) rfl
  have R:∀W,New s W->W.cell? ⟨w.heap.size,1,none⟩=some (.int .u64 r.seq):=fun W a=>a_ (k:=1) (a.Qa az.out zt) rfl
  have T:∀W,New s W->W.cell? ⟨w.heap.size,2,none⟩=some (.slice Ar m cr):=fun W a=>a_ (k:=2) (a.Qa az.out zt) rfl
  have L:∀W,New s W->W.cell? ⟨bl,7,none⟩=some (.slice A n c):=fun W a=>a_ (k:=7) ((M.new a).Qa hb zt) rfl
  refine c_ 0 f ?_
  refine c_ 1 f ?_
  refine c_ 2 f ?_
  refine c_ 3 f ?_
  refine c_ 5 f ?_
  refine c_ 9 f ?_
  refine c_ 10 f ?_
  refine c_ 11 f ?_
  refine c_ 12 f ?_
  refine c_ 13 f ?_
  clear P R T L
  refine mw (i:=4) (j:=6) zk rfl rfl rfl rfl (fun K d=>?_) (fun K d=>?_)
  ·as_aux_lemma =>
   go_simp
   refine(aq.out _ (M.new f)).mono ?_
   rintro e u⟨⟨G,z,rfl,B⟩,U⟩
   go_wp2_with fail
   have n5:=b_.new f U
   refine d _ _ n5 ?_
   clear d K
   try simp only[zy]
   refine dQ (i:=6) zk rfl rfl (fun K d=>?_)
   go_simp
   try go_wp2_with fail
   have N:New s (u.alloc (.cells #[.int .i64 r.kind,.int .u64 r.seq,.slice Ar m cr] 45)):=n5.alloc _
   refine d _ _ N ?_
   clear d K
   try simp only[zy]
   have I:=av.out u 45
   have B:=B.new ((zN u).alloc (.cells #[.int .i64 r.kind,.int .u64 r.seq,.slice Ar m cr] 45))
   have be:=n5.size
   have bf:s.heap.size<=s.heap.size:=Nat.le_refl _
   generalize u.alloc (.cells #[.int .i64 r.kind,.int .u64 r.seq,.slice Ar m cr] 45)=wz at *
   generalize u.heap.size=gr at *
   generalize bg:s.heap.size=b5 at B
   have O:=B.lt
   have bh:=N.size
   have bi:=M.size
   refine dQ (i:=7) zk rfl rfl (fun K d=>?_)
   obtain⟨q0,aa,ab,ac,ad⟩:=info_parts jO
   refine EE (E:=gT) _ _ _ 68 45 rfl q0 (.agg #[.int .i64 0,.int .u64 0,.slice none 0 0]) 40 underlying68 aa ab ac ad rfl b5 (fun b=>b<b5) G n z v.waits rfl B (fun _=>True) (some ⟨gr,0,none⟩) 1 [.int .i64 r.kind,.int .u64 r.seq,.slice Ar m cr] r rfl I ⟨Ar,cr,rfl,rfl,by rw[hm.out];rfl,by rw[hm.out];exact hcr,by rw[hm.out];exact(aw.out _ (M.new N)).imp (fun b _ hb=>⟨by have:=hb.2;omega,fun e=>by have h1:=(O b e.symm).1;have h2:=hb.2;omega⟩),hs0,zo,by rw[hm.out];omega,hcr9⟩ zo zo zo ?_
   intro A6 c6 w6 o6 ae ai
   have n7:New s w6:=N.grown ae (fun k hk _=>by have:=(O k hk).1;omega)
   refine d _ _ n7 ?_
   clear d K
   try simp only[zy]
   have HF:=zh<|ar.out A6 c6 w6 _ o6.sl
   clear o6 B I ae ai O N
   refine dQ (i:=8) zk rfl rfl (fun K d=>?_)
   go_simp
   refine HF.mono ?_
   rintro e w7⟨rfl,V⟩
   go_wp2_with fail
   have X:=b_.new n7 V
   refine d _ _ X ?_
   clear d K
   try simp only[zy]
   refine c_ 14 X ?_
   refine c_ 15 X ?_
   refine wpAnyH_done zk ?_ _
   go_wp2
   go_meet
   exact⟨by rw[<- o.out];congr 1;exact decide_eq_decide.2 zo,n3.new X⟩
  as_aux_lemma =>
  go_simp
  try go_wp2_with fail
  have n5:New s (s.alloc (.cells #[.int .i64 r.kind,.int .u64 r.seq,.slice Ar m cr] 45)):=f.alloc _
  refine d _ _ n5 ?_
  clear d K
  try simp only[zy]
  have I:=av.out s 45
  have bf:=n5.size
  generalize s.alloc (.cells #[.int .i64 r.kind,.int .u64 r.seq,.slice Ar m cr] 45)=wa at *
  generalize bL:s.heap.size=gr at I ⊢
  refine dQ (i:=4) zk rfl rfl (fun K d=>?_)
  go_simp
  refine(aq.out _ (M.new n5)).mono ?_
  rintro e u⟨⟨G,z,rfl,B⟩,U⟩
  go_wp2_with fail
  have N:=b_.new n5 U
  refine d _ _ N ?_
  clear d K
  try simp only[zy]
  have I:=I.new U
  have be:=U.size
  generalize bg:wa.heap.size=b5 at B
  generalize u=wz at *
  have O:=B.lt
  have bh:=N.size
  have bi:=M.size
  refine dQ (i:=7) zk rfl rfl (fun K d=>?_)
  obtain⟨q0,aa,ab,ac,ad⟩:=info_parts jO
  refine EE (E:=gT) _ _ _ 68 45 rfl q0 (.agg #[.int .i64 0,.int .u64 0,.slice none 0 0]) 40 underlying68 aa ab ac ad rfl b5 (fun b=>b<b5) G n z v.waits rfl B (fun _=>True) (some ⟨gr,0,none⟩) 1 [.int .i64 r.kind,.int .u64 r.seq,.slice Ar m cr] r rfl I ⟨Ar,cr,rfl,rfl,by rw[hm.out];rfl,by rw[hm.out];exact hcr,by rw[hm.out];exact(aw.out _ (M.new N)).imp (fun b _ hb=>⟨by have:=hb.2;omega,fun e=>by have h1:=(O b e.symm).1;have h2:=hb.2;omega⟩),hs0,zo,by rw[hm.out];omega,hcr9⟩ zo zo zo ?_
  intro A6 c6 w6 o6 ae ai
  have n7:New s w6:=N.grown ae (fun k hk _=>by have:=(O k hk).1;omega)
  refine d _ _ n7 ?_
  clear d K
  try simp only[zy]
  have HF:=zh<|ar.out A6 c6 w6 _ o6.sl
  clear o6 B I ae ai O N
  refine dQ (i:=8) zk rfl rfl (fun K d=>?_)
  go_simp
  refine HF.mono ?_
  rintro e w7⟨rfl,V⟩
  go_wp2_with fail
  have X:=b_.new n7 V
  refine d _ _ X ?_
  clear d K
  try simp only[zy]
  refine c_ 14 X ?_
  refine c_ 15 X ?_
  refine wpAnyH_done zk ?_ _
  go_wp2
  go_meet
  exact⟨by rw[<- o.out];congr 1;exact decide_eq_decide.2 zo,n3.new X⟩
 obtain⟨rfl,n4⟩:=hcut
 have aM:=zh<|ax.new n4
 have ak:=zh<|n4.Qa ay.out zt
 have aA:=zh<|fun W (a:New w W)=>Az (HH.1.log.new a)
 obtain⟨ro,aB⟩:=zx ((v.g:Int)-(v.sealed:Int))
 rw[<- aB] at aA
 have aC:=zh aB
 clear aB P R T L n4 aq ar av ay ax HX hb o
 generalize aN:v.fits r=ft at *
 have aD:=zh aN
 clear aN aL
 by_cases e0:ro=0
 · have:=aC.out
   omega
 have d0:(ro==0)=false:=by simpa using e0
 cases ft
 · cases hft0
 as_aux_lemma =>
 go_wp2_with fail
 refine(aA.out _ aM.out).mono ?_
 rintro e u⟨rfl,U⟩
 have ak:=zh<|U.Qa ak.out zt
 have af:=zh<|aM.new U
 clear U
 have aO:v.g-v.sealed≠0:=by have:=aC.out;omega
 have aE:Hid (v.waits.length<=62):=zh (by have:=hn.out;omega)
 have Y:Hid (v.code r=0):=zh (by unfold iO.code;rw[aD.out,if_neg aO,if_pos rfl])
 have a1:Hid (v.append r=v.more r):=zh (by unfold iO.append;rw[if_neg (by rw[Y.out];decide),if_pos aD.out])
 have a2:Hid (v.adisk r S=S):=zh (by unfold iO.adisk;rw[if_neg (by rw[Y.out];decide),if_pos aD.out])
 have HL:=zh<|gU.under HH.1 af.out
 have al:=ak
 have aP:=zh<|aw.out _ af.out
 have aQ:Hid (b_ (fun j=>j≠bl/\fa q j/\some j≠blk A) w u):=zh (b_.Qe af.out)
 have aj:=HH.1.log.rowLt
 have aR:∀j,j=q.bd\/j=q.bs\/j=q.bm->j<w.heap.size:=HH.1.disk.lt
 have aS:=af.size
 have aT:Hid (blk A≠some w.heap.size):=zh fun e=>by have:=(aj _ e).2;omega
 have bj:Hid (∀k,blk A=some k->k<u.heap.size):=zh fun k hk=>Nat.lt_of_lt_of_le (aj k hk).2 aS
 have bn:Hid ((blk A=blk A\/A=none)/\∀b,(fun b=>D b/\b<w.heap.size) b->D b\/w.heap.size<=b):=zh ⟨.inl rfl,fun b hb=>.inl hb.1⟩
 generalize aU:(fun b=>D b/\b<w.heap.size)=D1 at *
 have bo:Hid (∀b,D1 b->b≠w.heap.size):=zh fun b hb e=>by rw[<- aU] at hb;have:=hb.2;omega
 have bp:=zh aR
 clear aU aj aR aS aA d0 aO
 have c2:=a_ al.out (k:=2) rfl
 have aV:=zh<|ik (fun b=>D2 b/\b<w.heap.size) Ar m cr r.body u aP.out zo
 have bM:w.heap.size<u.heap.size:=(Array.getElem?_eq_some_iff.1 al.out).1
 go_wp2_with fail
 refine aV.mono ?_
 rintro e w7⟨⟨G,z,rfl,B⟩,V⟩
 have Z:=V.Qa al.out trivial
 have f2:=dP Z 2
 have c2:=a_ Z (k:=2) rfl
 have aF:=zh<|HL.new V
 have am:=zh B
 have aG:=zh<|b_.new aQ.out V
 have bN:=V.size
 clear B aV V
 go_upto_region 10 with fail
 have l:=dM Z 2 (.slice G m z)
 have q8:b_ (fun j=>j≠w.heap.size) w7 (w7.setCell ⟨w.heap.size,2,none⟩ (.slice G m z)):=(b_.refl _ w7).setCell (p:=⟨w.heap.size,2,none⟩) (fun hd=>absurd rfl hd) _
 clear f2 c2 Z
 generalize w7.setCell ⟨w.heap.size,2,none⟩ (.slice G m z)=w8 at *
 have bO:=aF.log.rowLt
 have ag:gU w8 D1 base bl q v A c S:=aF.keep q8 zo (fun k hk e=>aT.out (by rw[hk,e])) (fun b hb=>bo.out b hb) (fun b hb e=>by have:=bp.out b hb;omega)
 have an:Bs w8 (fun b=>u.heap.size<=b) G m r.body:=(Row.Qc am.out).keep q8 (fun b _ hb=>by omega)
 have aW:m<=z/\z<=9223372036854775807:=⟨ew am.out,eh am.out⟩
 have bq:=q8.size
 have bt:=zh<|(aG.Qd q8 (fun j hj _=>by omega)).drew
 replace ag:=ag.new (zN w8).drew
 replace an:=an.drew
 have l:w8.drew.heap[w.heap.size]?=_:=l
 clear am aF aG q8 al aP ak af aQ
 refine oM [7,10] (b_ (fun j=>j≠bl/\some j≠blk A) w8.drew) (New w8.drew) zk ?_
 have aX:w8.heap.size=w8.drew.heap.size:=rfl
 rw[aX] at bq
 clear aX
 generalize w8.drew=y at *
 have s0:b_ (fun j=>j≠bl/\some j≠blk A) y y:=b_.refl _ _
 have t0:New y y:=zN _
 have aH:w.heap.size≠bl/\some w.heap.size≠blk A:=⟨zo,fun e=>aT.out e.symm⟩
 have r0:∀W,b_ (fun j=>j≠bl/\some j≠blk A) y W->W.cell? _=_:=fun W h=>a_ (h.Qa l aH) (k:=0) rfl
 have r1:∀W,b_ (fun j=>j≠bl/\some j≠blk A) y W->W.cell? _=_:=fun W h=>a_ (h.Qa l aH) (k:=1) rfl
 have r2:∀W,b_ (fun j=>j≠bl/\some j≠blk A) y W->W.cell? _=_:=fun W h=>a_ (h.Qa l aH) (k:=2) rfl
 obtain⟨H9,hc9,aI,a6,aY⟩:=ag.log.cells
 have r7:∀W,New y W->W.cell? ⟨bl,7,none⟩=_:=fun W h=>a_ (h.Qa aI zt) (k:=7) rfl
 have aJ:=zh ag
 have bu:=zh aY
 have bx:=zh an
 have bz:=J2 aI l
 clear ag aY an aI l
 refine jQ (i:=0) (v:=?_) ⟨s0,fun _=>t0⟩ rfl zk zk zk rfl (fun _ _ _ h=>h) rfl ?_ ?_
 rotate_left
 ·intro w' hN
  go_simp
  try with_reducible rfl
 simp only[Act.put,ly1,ly3,ly4,ly5,ly6]
 refine jQ (i:=1) (v:=?_) ⟨s0,fun _=>t0⟩ rfl zk zk zk rfl (fun _ _ _ h=>h) rfl ?_ ?_
 rotate_left
 ·intro w' hN
  go_simp
  try with_reducible rfl
 simp only[Act.put,ly1,ly2,ly3,ly4,ly5,ly6]
 refine jQ (i:=2) (v:=?_) ⟨s0,fun _=>t0⟩ rfl zk zk zk rfl (fun _ _ _ h=>h) rfl ?_ ?_
 rotate_left
 ·intro w' hN
  go_simp
  try with_reducible rfl
 simp only[Act.put,ly1,ly2,ly3,ly4,ly5,ly6]
 refine jQ (i:=3) (v:=?_) ⟨s0,fun _=>t0⟩ rfl zk zk zk rfl (fun _ _ _ h=>h) rfl ?_ ?_
 rotate_left
 ·intro w' hN
  go_simp
  try with_reducible rfl
 simp only[Act.put,ly1,ly2,ly3,ly4,ly5,ly6]
 refine sd (i:=4) (v:=?_) ⟨s0,fun _=>t0⟩ rfl zk zk zk zk zk (fun _ _ _ h=>h) rfl ?_ ?_
 rotate_left
 ·intro w' hN
  go_simp
  try with_reducible rfl
 simp only[Act.put,ly1,ly2,ly3,ly4,ly5,ly6]
 refine jQ (i:=5) (v:=?_) ⟨s0,fun _=>t0⟩ rfl zk zk zk rfl (fun _ _ _ h=>h) rfl ?_ ?_
 rotate_left
 ·intro w' hN
  go_simp
  try with_reducible rfl
 simp only[Act.put,ly1,ly2,ly3,ly4,ly5,ly6]
 clear r0 r1 r2 r7
 refine jo (i:=6) zk rfl rfl (fun K d=>?_)
 go_simp
 try go_wp2_with fail
 have kA:New y (y.alloc (.cells #[.int .i64 r.kind,.int .u64 r.seq,.slice G m z] 45)):=(zN y).alloc _
 have bA:=(Row.made y 45 #[.int .i64 r.kind,.int .u64 r.seq,.slice G m z] 1 3 rfl).imp (E:=fun _=>True) fun _ _ _=>trivial
 refine d _ _ ⟨s0.new kA,fun _=>kA⟩ ?_
 clear d K
 try simp only[zy]
 generalize y.alloc (.cells #[.int .i64 r.kind,.int .u64 r.seq,.slice G m z] 45)=wA at *
 have ao:=aJ.log.waits.new kA
 have ao:=ao.imp (F:=fun b=>D1 b\/u.heap.size<=b) fun b _ hb=>.inl hb
 have bP:=ao.lt
 refine jo (i:=7) zk rfl rfl (fun K d=>?_)
 obtain⟨q0,aa,ab,ac,ad⟩:=info_parts jO
 refine EE (E:=gT) _ _ _ 68 45 rfl q0 (.agg #[.int .i64 0,.int .u64 0,.slice none 0 0]) 40 underlying68 aa ab ac ad rfl base (fun b=>D1 b\/u.heap.size<=b) A v.waits.length c v.waits rfl ao (fun _=>True) (some ⟨y.heap.size,0,none⟩) 1 [.int .i64 r.kind,.int .u64 r.seq,.slice G m z] r rfl bA ⟨G,z,rfl,rfl,by rw[hm.out];rfl,by rw[hm.out];exact aW.1,by rw[hm.out];exact(bx.new kA).imp (fun b _ hb=>⟨.inr hb,fun e=>by have:=bj.out b e.symm;omega⟩),hs0,zo,by rw[hm.out];omega,aW.2⟩ (by have:=aE.out;omega) (by have:=aE.out;omega) (by have:=kA.size;have:=HH.2.2.2.2;omega) ?_
 intro A7 c7 wB o7 bB a7
 have kB:b_ (fun j=>some j≠blk A) wA wB:=b_.grown (b_.refl _ _) bB (fun j hj hd=>absurd hj.symm hd)
 have s7:b_ (fun j=>j≠bl/\some j≠blk A) y wB:=(s0.new kA).Qd kB (fun b _ hb=>hb.2)
 refine d _ _ ⟨s7,fun h=>absurd h Zd⟩ ?_
 clear d K
 try simp only[zy]
 refine jQ (i:=8) (v:=?_) ⟨s7,fun h=>absurd h Zd⟩ rfl zk zk zk rfl (fun _ _ _ h=>h) rfl ?_ ?_
 rotate_left
 ·intro w' hN
  go_simp
  try with_reducible rfl
 simp only[Act.put,ly1,ly2,ly3,ly4,ly5,ly6]
 refine jQ (i:=9) (v:=?_) ⟨s7,fun h=>absurd h Zd⟩ rfl zk zk zk rfl (fun _ _ _ h=>h) rfl ?_ ?_
 rotate_left
 ·intro w' hN
  go_simp
  try with_reducible rfl
 simp only[Act.put,ly1,ly2,ly3,ly4,ly5,ly6]
 have aK:=kB.Qa (kA.Qa bz.1 zt) (fun e=>aJ.log.apart e.symm)
 have d7:=a_ aK (k:=7) rfl
 have L:=dP aK 7
 refine jo (i:=10) zk rfl rfl (fun K d=>?_)
 go_simp
 have bC:=dM aK 7 (.slice A7 (v.waits.length+1) c7)
 have kS:b_ (fun b=>b≠bl) wB (wB.setCell ⟨bl,7,none⟩ (.slice A7 (v.waits.length+1) c7)):=(b_.refl _ wB).setCell (p:=⟨bl,7,none⟩) (fun hd=>absurd rfl hd) _
 have s8:=s7.Qd kS (fun b _ hb=>hb.1)
 refine d _ _ ⟨s8,fun h=>absurd h Zd⟩ ?_
 clear d K d7 L
 try simp only[zy]
 generalize wB.setCell _ _=wC at *
 refine ou zk ?_ _
 go_wp2
 go_ret
 rw[Y.out,show v.append r=iO.more v r from a1.out,show v.adisk r S=S from a2.out]
 obtain⟨hk,A8,c8,aZ,l⟩:=gU.grown HH.1 bt.out s8 aJ.out bC a6 bu.out kS o7 a7 kA.size zo (.inl rfl) bn.2 (by have:=aE.out;omega)
 first|exact⟨rfl,hk,A8,c8,aZ,l⟩|exact⟨rfl,hk,A8,⟨c8,aZ⟩,l⟩
