/-
  PROVED HERE: law22.MountMarks answers true; conditions: what a slice of bytes may have; the table that strings.Index reads is there.
-/
import Derived.Test.YtlopmiaimignkaaGreatDoorPkM38
set_option maxRecDepth 100000
set_option maxHeartbeats 16000000
namespace Go.Proofs.YtlopmiaimignkaaGreatDoor
open Go.Proofs.Tryz
open Go.RowKit
variable{w:World}{c:Col}{J:fe}{bt:Nat}{e:List UInt8}
theorem xr(p:List UInt8):fB (mq p) none 0=.agg #[.int .i64 1,.string (dR p),.string ⟨#[]⟩,.int .i64 0,.int .i64 0,.int .i64 0,.int .u64 0,.int .i64 0,.slice none 0 0]:=rfl
theorem Cg(d:List UInt8)(E:Option Addr)(cd:Nat):fB (nh d) E cd=.agg #[.int .i64 5,.string ⟨#[]⟩,.string ⟨#[]⟩,.int .i64 0,.int .i64 0,.int .i64 0,.int .u64 0,.int .i64 0,.slice E d.length cd]:=rfl
theorem EF:fB (mT 3) none 0=.agg #[.int .i64 6,.string ⟨#[]⟩,.string ⟨#[]⟩,.int .i64 0,.int .i64 0,.int .i64 0,.int .u64 3,.int .i64 0,.slice none 0 0]:=rfl
def tL(p:List UInt8):OpP:=⟨12,p,[],0,0,0,0,0,[]⟩
theorem xq(p:List UInt8):fB (tL p) none 0=.agg #[.int .i64 12,.string (dR p),.string ⟨#[]⟩,.int .i64 0,.int .i64 0,.int .i64 0,.int .u64 0,.int .i64 0,.slice none 0 0]:=rfl
def CJ(w:World)(c:Col)(J:fe)(bt:Nat)(s:d')(x:Option Addr->Nat->Option Addr->Nat->Value)(en:Ending)(w':World):Prop :=
 (∃D cd N cn,en=.returned (x D cd N cn))/\b_ (fun j=>j<w.heap.size/\¬J.has (c j)) w w'/\∃c' B',Ext w c c'/\ei w' c' J bt B' s
theorem If{B:iu}(h:ei w c J bt B (gq [98] e 3))(hS:fz (gq [98] e 3))(hm:fD w):
  Calls prog 13 #[.pointer (some ⟨bt,0,none⟩),.agg #[.int .i64 12,.string ⟨#[47,97]⟩,.string ⟨#[]⟩,.int .i64 0,.int .i64 0,.int .i64 0,.int .u64 0,.int .i64 0,.slice none 0 0]] w
   (CJ w c J bt (gq [98] e 3) fun D cd N cn=>.agg #[.int .i64 20,.int .i64 0,.slice D 0 cd,.slice N 0 cn,.int .i64 0,.int .i64 0,.int .i64 0,.int .i64 0,.int .u64 0,.bool false]):=by
 have h1:=xK (o:=tL [47,97]) (E:=none) (cd:=0) (D:=fun _=>True) h hS rfl (rm (by show(eH [47,97]).2=0;rw[qx])) Zd Zd hm (Row.nil _ _ _ _) Zd Zd Zd Zd rfl
 rw[xq] at h1
 refine h1.mono ?_
 rintro d f⟨⟨D,cd,N,cn,rfl,-⟩,k,a,b,x,st⟩
 refine⟨⟨D,cd,N,cn,?_⟩,k,a,b,x,st⟩
 show Ending.returned (dT (pz (gq [98] e 3) (tL [47,97]) (eH [47,97]).1) D cd N cn)=_
 rw[qx]
 rfl
theorem Ie{B:iu}(h:ei w c J bt B (gq [98] e 3))(hS:fz (gq [98] e 3))(hm:fD w):
  Calls prog 13 #[.pointer (some ⟨bt,0,none⟩),.agg #[.int .i64 12,.string ⟨#[47,98]⟩,.string ⟨#[]⟩,.int .i64 0,.int .i64 0,.int .i64 0,.int .u64 0,.int .i64 0,.slice none 0 0]] w
   (CJ w c J bt (gq [98] e 3) fun D cd N cn=>.agg #[.int .i64 0,.int .i64 0,.slice D 0 cd,.slice N 0 cn,.int .i64 1,.int .i64 1,.int .i64 1,.int .i64 (e.length:Nat),.int .u64 3,.bool true]):=by
 have h1:=xK (o:=tL [47,98]) (E:=none) (cd:=0) (D:=fun _=>True) h hS rfl (rm (by show(eH [47,98]).2=0;rw[qw])) Zd Zd hm (Row.nil _ _ _ _) Zd Zd Zd Zd rfl
 rw[xq] at h1
 refine h1.mono ?_
 rintro d f⟨⟨D,cd,N,cn,rfl,-⟩,k,a,b,x,st⟩
 refine⟨⟨D,cd,N,cn,?_⟩,k,a,b,x,st⟩
 show Ending.returned (dT (pz (gq [98] e 3) (tL [47,98]) (eH [47,98]).1) D cd N cn)=_
 rw[qw]
 rfl
theorem uP{q:g9}{S:List UInt8}{d:List UInt8}(hd:d.length<=200)(he:e.length<=200)(h:iK w q S)(hf:lW (fu 200 jP) S ((1+2*50)*128))(hl:lx S 50 12 (ef jP [jb d e]).images)(hml:fD w)(J:fe)(hJ:J.Ok)(h7:¬J.has 7):
  Calls prog 12 #[.pointer (some ⟨q.bd,0,none⟩)] w fun en w'=>∃b B c' bl I ci H hc,en=.returned (.tuple #[.pointer (some ⟨b,0,none⟩),.pointer (some ⟨bl,0,none⟩),.agg #[.int .i64 200,.int .i64 50,.int .i64 12,.slice I 16 ci,.int .u64 2,.int .u64 6,.int .i64 1,.int .i64 6,.slice H 32 hc],.int .i64 0]) /\
   New w w'/\Ext w c c'/\ei w' c' J b B (gq [98] e 3):=by
 have a:=Bg hd he
 have hh:(ef jP [jb d e]).heads.length=1:=a.ok.heads
 have g:=vL a 1 0 rfl
 have hm:=tR (k:=200) (fr:=0) (id:=jP) (m:=jZ jP 2) (s:=dV) h (by rw[m_s S hf]) (by have:=hf.2 0 128 Zd;rw[List.drop_zero,List.drop_zero] at this;rw[this];exact vM Zd Zd Zd)
  (sk (Cr Zd Zd 12) Zd hf) (sk (Cq Zd Zd 12) Zd hf) (.inl ⟨by show(1:Int)<=2;decide,rfl,rfl⟩) rfl rfl (by show(0:Int)<_;decide)
  (G' hd he hl) (fn:=1) (by rw[List.length_zip,hh];rfl) (se:=1) rfl (nxE:=(ef jP [jb d e]).next) (hdE:=(ef jP [jb d e]).prev) g Zd (fun i h1 h2=>Fv hd he hl h1 h2)
  (rs:=jb d e) (by rw[List.map_snd_zip (by rw[hh];exact Nat.le_refl _)];exact List.append_nil _) (by show(6:Nat)<=_;decide) (Bb hd he) (st:=mst d e) rfl (vy hd he) m' hml c J hJ 7 ⟨h7,Zd⟩
 refine hm.mono ?_
 rintro en w'⟨b,B,c',bl,I,ci,H,hc,rfl,k,-,x,st,-⟩
 have f:ei w' c' J b B (gq [98] e 3).settled:=st
 rw[wt] at f
 exact⟨b,B,c',bl,I,ci,H,hc,rfl,k,x,f⟩
theorem yA(D1 D2:Nat->Prop)(A1 A2:Option Addr)(n1 c1 n2 c2:Nat)(data more:List UInt8)(w:World)(hml:fD w)(h1:Bs w D1 A1 n1 data)(h2:Bs w D2 A2 n2 more)(hn1:n1<=c1)(hn2:n2<=c2)(hc1:c1<=9223372036854775807)(hc2:c2<=9223372036854775807):
  Calls prog 3 #[.slice A1 n1 c1,.slice A2 n2 c2] w fun en w'=>en=.returned (.bool true)/\New w w':=by
 have a1:=zh<|uv 200 Zd Zd w hml
 have an:=fun W=>zh (fun(l:New w W)=>Cx A1 n1 c1 200 data D1 W (h1.new l) zo hn1 Zd)
 have ao:=fun W=>zh (fun(l:New w W)=>Cx A2 n2 c2 200 more D2 W (h2.new l) zo hn2 Zd)
 obtain⟨d,hd⟩:=zx (data.take 200)
 obtain⟨e,he⟩:=zx (more.take 200)
 have ap:min n1 200=d.length:=by rw[hd,List.length_take,h1.len];omega
 have aq:min n2 200=e.length:=by rw[he,List.length_take,h2.len];omega
 have a2:Bs w (fun j=>j<w.heap.size) A1 d.length d:=by
  have h3:=(Row.cutTake h1 (k:=min n1 200) zo).imp (E:=fun j=>j<w.heap.size) fun b hb _=>hb
  rw[ap] at h3
  have e3:(data.map eE).take (d.length*1)=d.map eE:=by rw[Nat.mul_one,<- List.map_take,hd];congr 1;rw[List.length_take,List.take_eq_take_iff];omega
  rw[e3] at h3
  exact h3
 have a6:Bs w (fun j=>j<w.heap.size) A2 e.length e:=by
  have h3:=(Row.cutTake h2 (k:=min n2 200) zo).imp (E:=fun j=>j<w.heap.size) fun b hb _=>hb
  rw[aq] at h3
  have e3:(more.map eE).take (e.length*1)=e.map eE:=by rw[Nat.mul_one,<- List.map_take,he];congr 1;rw[List.length_take,List.take_eq_take_iff];omega
  rw[e3] at h3
  exact h3
 rw[ap] at an
 rw[aq] at ao
 have bO:d.length<=200:=by omega
 have bP:e.length<=200:=by omega
 have g:=J6 bO bP (show d.length<=c1 by omega) (show e.length<=c2 by omega) hc1 hc2
 have ar:=J2 a2 a6
 clear hd he ap aq a2 a6 h1 h2 hn1 hn2 hc1 hc2 hml data more
 go_in
 go_wp2_with fail
 refine a1.mono ?_
 rintro en w1⟨k1,bw,c,K,q,v,rfl,ag,a7,x,-,-⟩
 have HW:Hid (MW w1 c K w.heap.size bw q v dV d e 0 none 0 (fu 200 jP)):=zh ⟨a7,m',FZ Zd Zd,lW.refl _ _⟩
 have p:=zh<|lA.refl w1 c
 have a8:=J2 ((ar.1.new k1).imp (E:=fun j=>c j=0) fun b _ hb=>ag b hb) ((ar.2.new k1).imp (E:=fun j=>c j=0) fun b _ hb=>ag b hb)
 have S:=J3 k1 ag x
 clear k1 ag a7 x a1 ar
 go_wp2_with fail
 refine((an w1).out S.1).mono ?_
 rintro en wq⟨rfl,rfl⟩
 clear an
 go_wp2_with fail
 refine((ao w1).out S.1).mono ?_
 rintro en wq⟨rfl,rfl⟩
 clear ao
 have au:=zh<|yr HW.out g.1 g.2.1 Zd (o:=mq [47,97]) (a:=xb) (E:=none) (cd:=0) FY CG (nK _ Zd) rfl Zd Zd Zd Zd Zd (Row.nil _ _ _ _) Zd Zd (na:=2) (by rw[S.2.2]) Zd
 rw[xr] at au
 go_wp2_with fail
 refine au.mono ?_
 rintro en w2⟨rfl,bX,K2,v2,B2,l2,S2,ba,bb,av⟩
 replace p:=zh<|p.trans ba
 have aw:=J2 bb av
 clear au ba bb av HW
 have ax:=zh<|yr aw.1 g.1 g.2.1 Zd (o:=nh d) (a:=xa) (E:=A1) (cd:=c1) (qN [97] d g.1) CF (o_ d g.1) rfl (Nat.zero_le _) (Nat.zero_le _) (by show d.length<=1000;have:=g.1;omega) (Int.le_refl 0) (by decide:(0:Int)<=1000) (p.bs a8.1) g.2.2.1 g.2.2.2.2.1 (na:=3) (by rw[aw.2]) Zd
 rw[Cg] at ax
 go_wp2_with fail
 refine ax.mono ?_
 rintro en w3⟨rfl,c3,K3,v3,B3,l3,S3,bc,be,ay⟩
 replace p:=zh<|p.trans bc
 have N:=J2 be ay
 clear ax bc be ay aw
 go_upto_region 7 with fail
 refine eu (b_ (fun j=>j≠v3.bl/\fa q j/\some j≠blk B3) w3.drew) zk ?_
 have az:New w3 w3.drew:=(zN w3).drew
 have f:=zh<|N.1.wd.new az (Ext.refl _ _)
 replace p:=zh<|p.new az (Ext.refl _ _)
 clear az
 generalize w3.drew=w4 at *
 have s:b_ (fun j=>j≠v3.bl/\fa q j/\some j≠blk B3) w4 w4:=b_.refl _ _
 have U:=f.apart
 have r2:∀W,b_ (fun j=>j≠v3.bl/\fa q j/\some j≠blk B3) w4 W->W.cell? ⟨bw,2,none⟩=some (.pointer (some ⟨v3.bl,0,none⟩)):=fun W l=>(f.cells.keep l ⟨U.1,U.2.1,fun e=>U.2.2.1 e.symm⟩).cell (k:=2) rfl
 have bf:Hid (Calls prog 8 #[.pointer (some ⟨v3.bl,0,none⟩)] w4 fun e w'=>e=.returned (.int .u64 3)/\New w4 w'):=zh (qd f.on.log)
 clear U
 refine c_ 0 s ?_
 refine c_ 1 s ?_
 refine c_ 2 s ?_
 refine c_ 3 s ?_
 refine c_ 4 s ?_
 refine c_ 5 s ?_
 refine c_ 6 s ?_
 refine c_ 7 s ?_
 clear r2
 refine dQ (i:=8) zk rfl rfl (fun C hC=>?_)
 go_simp
 refine bf.mono ?_
 rintro en w5⟨rfl,L⟩
 go_wp2_with fail
 have n1:=b_.new s L
 refine hC.out _ _ n1 ?_
 clear hC C bf s
 try simp only[zy]
 refine c_ 9 n1 ?_
 replace f:=zh<|f.new L (Ext.refl _ _)
 replace p:=zh<|p.new L (Ext.refl _ _)
 have aA:=zh<|CR f.out (ph g.1 g.2.1 2 (by show 2<=6;decide)) (r:=⟨2,3,[]⟩) rfl Zd rfl (pg g.1 g.2.1 (n:=2) (by show 2<6;decide)) (rB g.1 g.2.1 (n:=2) (by show 2<6;decide)) (D:=fun _=>False) (B:=none) (m:=0) (cb:=0) rfl (Row.nil _ _ _ _) Zd Zd (fun j hj=>hj.elim)
 dsimp only at aA
 refine dQ (i:=10) zk rfl rfl (fun C hC=>?_)
 go_simp
 refine aA.mono ?_
 rintro en w6⟨rfl,k6,B6,l6,bg⟩
 go_wp2_with fail
 have n2:=n1.trans k6
 refine hC.out _ _ n2 ?_
 clear hC C n1 aA L
 try simp only[zy]
 refine c_ 11 n2 ?_
 refine wpAnyH_done zk ?_ _
 have ab:=ph g.1 g.2.1 2 (show 2<=6 by decide)
 have y:=Fw S3 (m_s S3 N.1.front)
 replace p:=zh<|p.step k6 (Col.Qg c3 w5 fun _=>7) fun b hb t=>⟨(f.far f.kc (.inl t)).1,(f.far f.kc (.inl t)).2.1,(f.far f.kc (.inl t)).2.2.1⟩
 have aB:=J2 (qY (k:=200) ab (r:=⟨2,3,[]⟩) rfl (pg g.1 g.2.1 (n:=2) (show 2<6 by decide)) N.1.laid y) (N.1.front.trans (qP (k:=200) ab (r:=⟨2,3,[]⟩) y))
 replace f:=zh bg
 have V:=J2 N.2 N.1.inv
 clear ab y bg n2 k6 N
 obtain⟨c6,bh⟩:=zx (c3.on w5.heap.size fun _=>7)
 rw[<- bh] at p f
 generalize (lvK 200 50 12 jP (sD d e 2)).adisk ⟨2,3,[]⟩ S3=S6 at *
 clear bh
 obtain⟨K7,aC,bi,bj⟩:=qg K3
 have bm:=J3 aC bi bj
 have bn:=zh<|qB (J:=K7) f.ref V.2 aC
 have aD:=f.cells.cell (k:=12) rfl
 clear aC bi bj
 go_wp2_with fail
 refine bn.mono ?_
 rintro en w7⟨aa,c7,rfl,M,z7,x7,t7⟩
 replace f:=zh<|f.new M x7
 replace p:=zh<|p.new M x7
 have bo:=zh t7
 clear M z7 x7 t7 bn aD
 have aD:=f.cells.cell (k:=12) rfl
 have e12:=f.cells.free 12
 go_upto_region 10 with fail
 obtain⟨p1,p2⟩:=f.cells.set 12 (.pointer (some ⟨aa,0,none⟩)) (v':={ v3 with br:=aa }) rfl
 have bp:=f.poke p2 p1 ⟨rfl,rfl,rfl,rfl,rfl⟩ f.st bo.out bm.2.1
 replace p:=zh<|p.step p2 (Ext.refl _ _) fun b hb t=>(f.far f.kc (.inl t)).2.2.2.1
 replace f:=zh bp
 clear p1 p2 bp aD e12 bo
 generalize w7.setCell ⟨bw,12,none⟩ (.pointer (some ⟨aa,0,none⟩))=w8 at *
 obtain⟨B8,aE⟩:=f.st
 have ah:=V.2.small
 have bq:=zh<|oA (J:=⟨1,2,3⟩) aE ah.1 ah.2.1 ah.2.2 jok
 have d1:=f.cells.cell (k:=1) rfl
 clear aE ah
 go_wp2_with fail
 refine bq.mono ?_
 rintro en w9⟨b9,B9,c9,rfl,k9,z9,x9,t9⟩
 replace f:=zh<|f.new k9 x9
 replace p:=zh<|p.new k9 x9
 have bu:=zh t9
 clear k9 z9 x9 t9 bq d1
 have d1:=f.cells.cell (k:=1) rfl
 have e1:=f.cells.free 1
 go_upto_region 14 with fail
 obtain⟨p1,p2⟩:=f.cells.set 1 (.pointer (some ⟨b9,0,none⟩)) (v':={ v3 with br:=aa,bs:=b9 }) rfl
 have ac:=f.poke p2 p1 ⟨rfl,rfl,rfl,rfl,rfl⟩ ⟨B9,bu.out⟩ f.ref f.kc
 rw[qz] at ac
 replace p:=zh<|p.step p2 (Ext.refl _ _) fun b hb t=>(f.far f.kc (.inl t)).2.2.2.1
 have HW:Hid (MW _ c9 K7 w.heap.size bw q { v3 with br:=aa,bs:=b9 } dV d e 3 B6 l6 S6):=zh ⟨ac,m',aB.1,aB.2⟩
 clear p1 p2 ac d1 e1 bu f
 generalize w9.setCell ⟨bw,1,none⟩ (.pointer (some ⟨b9,0,none⟩))=bY at *
 have aF:=zh<|yr HW.out g.1 g.2.1 Zd (o:=mq [47,98]) (a:=xb) (E:=none) (cd:=0) FW CG (nK _ Zd) rfl Zd Zd Zd Zd Zd (Row.nil _ _ _ _) Zd Zd (na:=4) (by show v3.na+1=4;rw[V.1]) Zd
 rw[xr] at aF
 go_wp2_with fail
 refine aF.mono ?_
 rintro en bZ⟨rfl,b1,b2,b3,b5,b6,b8,hz,hw,x⟩
 replace p:=zh<|p.trans hz
 have ad:=J2 hw x
 clear aF hz hw x HW aB V bm
 have aG:=zh<|yr ad.1 g.1 g.2.1 Zd (o:=nh e) (a:=xa) (E:=A2) (cd:=c2) (qN [98] e g.2.1) CF (o_ e g.2.1) rfl (Nat.zero_le _) (Nat.zero_le _) (by show e.length<=1000;have:=g.2.1;omega) (Int.le_refl 0) (by decide:(0:Int)<=1000) (p.bs a8.2) g.2.2.2.1 g.2.2.2.2.2 (na:=5) (by rw[ad.2]) Zd
 rw[Cg] at aG
 go_wp2_with fail
 refine aG.mono ?_
 rintro en ce⟨rfl,cf,cg,ch,cj,ck,cl,hz,hw,x⟩
 replace p:=zh<|p.trans hz
 have ae:=J2 hw x
 clear aG hz hw x ad
 have aH:=zh<|yr ae.1 g.1 g.2.1 Zd (o:=mT 3) (a:=Ez) (E:=none) (cd:=0) (vG [98] e) Hw tr rfl Zd Zd Zd Zd Zd (Row.nil _ _ _ _) Zd Zd (na:=6) (by rw[ae.2]) Zd
 rw[EF] at aH
 go_wp2_with fail
 refine aH.mono ?_
 rintro en bx⟨rfl,aI,bz,bA,cm,cn,aJ,hz,hw,x⟩
 replace p:=zh<|p.trans hz
 have z:=zh hw
 have d2:=hw.wd.cells.cell (k:=2) rfl
 clear aH hz hw x ae
 have X:=ph g.1 g.2.1 6 (show 6<=6 by decide)
 have bB:=zh<|GC z.wd X
 have y:=Fw aJ (m_s aJ z.front)
 have hl:=ul (k:=200) X z.laid y
 rw[vB] at hl
 have af:=J2 hl (z.front.trans (ud (k:=200) X y))
 clear X y hl
 go_wp2_with fail
 refine bB.mono ?_
 rintro en bQ⟨rfl,bC,co,cp,aK⟩
 have Y:=fun b (t:aI b=0)=>z.wd.far z.wd.kc (b:=b) (.inl t)
 replace p:=zh<|p.step bC (Col.Qg aI bx fun _=>7) fun b hb t=>⟨(Y b t).1,(Y b t).2.1,(Y b t).2.2.1⟩
 have f:=zh aK
 clear bC aK Y bB z d2
 generalize (lvK 200 50 12 jP (sD d e 6)).disk aJ=cq at *
 obtain⟨bR,aL⟩:=zx (aI.on bx.heap.size fun _=>7)
 rw[<- aL] at p f
 clear aL
 obtain⟨J,bD,aM,bE⟩:=qg bz
 have bF:=zh<|uP (c:=bR) g.1 g.2.1 f.on.disk af.2 af.1 f.max J bD (fun h7=>by have:=aM 7 h7;omega)
 have bG:=J2 aM bE
 have d0:bQ.cell? ⟨bw,0,none⟩=some (.pointer (some ⟨q.bd,0,none⟩)):=by rw[<- f.bd];exact f.cells.cell (k:=0) rfl
 clear bD aM bE
 go_wp2_with fail
 refine bF.mono ?_
 rintro en ai⟨bt,Bt,cs,ct,I,ci,H,hc,rfl,aN,aO,bH⟩
 replace f:=zh<|f.new aN aO
 replace p:=zh<|p.new aN aO
 clear bF aN aO d0 af
 have kF:=(zN ai).alloc (.cells #[.int .i64 200,.int .i64 50,.int .i64 12,.slice I 16 ci,.int .u64 2,.int .u64 6,.int .i64 1,.int .i64 6,.slice H 32 hc] 37)
 have xF:=heap_alloc_new ai (.cells #[.int .i64 200,.int .i64 50,.int .i64 12,.slice I 16 ci,.int .u64 2,.int .u64 6,.int .i64 1,.int .i64 6,.slice H 32 hc] 37)
 go_upto_region 17 with fail
 replace f:=zh<|f.new kF (Ext.refl _ _)
 replace p:=zh<|p.new kF (Ext.refl _ _)
 have F:=zh<|bH.new kF
 obtain⟨f0,f1,f2,f3,f4,f5,f6,f7,f8⟩:=cs9 xF
 clear kF xF bH f0 f1 f2 f3 f4 f6 f8
 generalize ai.alloc (.cells #[.int .i64 200,.int .i64 50,.int .i64 12,.slice I 16 ci,.int .u64 2,.int .u64 6,.int .i64 1,.int .i64 6,.slice H 32 hc] 37)=cu at *
 generalize ai.heap.size=cv at *
 have aP:=qI g.1 g.2.1 6 (show 6<=6 by decide)
 have bI:Hid (fz (gq [98] e 3)):=zh aP
 clear aP
 have bJ:=zh<|If F.out bI.out f.max
 go_wp2_with fail
 refine bJ.mono ?_
 rintro en O⟨⟨Da,ca,Na,na,rfl⟩,aQ,aj,cw,aR,bK⟩
 have ak:∀(W:World) (cc:Col) b,b<W.heap.size->(cc b=7\/cc b=0\/bz.has (cc b)\/(⟨1,2,3⟩:fe).has (cc b))->b<W.heap.size/\¬J.has (cc b):=fun W cc b hb t=>⟨hb,fun e2=>by
  have h8:=bG.1 _ e2
  rcases t with t|t|t|t
  ·omega
  ·omega
  ·exact bG.2 _ e2 t
  unfold fe.has at t;dsimp only at t;omega⟩
 have aS:=zh ak
 replace f:=zh<|f.turn aQ aR (ak _ _)
 replace p:=zh<|p.step aQ aR fun b hb t=>ak _ _ b hb (.inr (.inl t))
 clear ak aQ aR bJ F f5 f7
 have kA:=(zN O).alloc (.cells #[.int .i64 20,.int .i64 0,.slice Da 0 ca,.slice Na 0 na,.int .i64 0,.int .i64 0,.int .i64 0,.int .i64 0,.int .u64 0,.bool false] 55)
 have xA:=heap_alloc_new O (.cells #[.int .i64 20,.int .i64 0,.slice Da 0 ca,.slice Na 0 na,.int .i64 0,.int .i64 0,.int .i64 0,.int .i64 0,.int .u64 0,.bool false] 55)
 go_upto_region 20 with fail
 have Z:=Col.Qg aj O fun _=>7
 have aT:(aj.on O.heap.size fun _=>7) O.heap.size=7:=Col.Qf aj _ zr
 replace f:=zh<|f.new kA Z
 replace p:=zh<|p.new kA Z
 have F:=zh<|bK.keep kA Z fun _ _ _=>zt
 have P:=J2 xA aT
 clear kA xA bK Z aT
 generalize O.alloc (.cells #[.int .i64 20,.int .i64 0,.slice Da 0 ca,.slice Na 0 na,.int .i64 0,.int .i64 0,.int .i64 0,.int .i64 0,.int .u64 0,.bool false] 55)=cy at *
 generalize O.heap.size=gA at *
 obtain⟨cz,aU⟩:=zx (aj.on gA fun _=>7)
 rw[<- aU] at f p F P
 clear aU
 have bL:=zh<|Ie F.out bI.out f.max
 go_wp2_with fail
 refine bL.mono ?_
 rintro en al⟨⟨Db,cb,Nb,nb,rfl⟩,am,cA,cB,aV,bM⟩
 have bN:=am.Qa P.1 (aS.out _ _ gA (Array.getElem?_eq_some_iff.1 P.1).1 (.inl P.2))
 replace f:=zh<|f.turn am aV (aS.out _ _)
 replace p:=zh<|p.step am aV fun b hb t=>aS.out _ _ b hb (.inr (.inl t))
 clear am aV bL F P
 have kB:=(zN al).alloc (.cells #[.int .i64 0,.int .i64 0,.slice Db 0 cb,.slice Nb 0 nb,.int .i64 1,.int .i64 1,.int .i64 1,.int .i64 (e.length:Nat),.int .u64 3,.bool true] 55)
 have xB:=heap_alloc_new al (.cells #[.int .i64 0,.int .i64 0,.slice Db 0 cb,.slice Nb 0 nb,.int .i64 1,.int .i64 1,.int .i64 1,.int .i64 (e.length:Nat),.int .u64 3,.bool true] 55)
 go_upto_region 21 with fail
 replace f:=zh<|f.new kB (Ext.refl _ _)
 replace p:=zh<|p.new kB (Ext.refl _ _)
 have F:=zh<|bM.new kB
 have P:=zh<|kB.Qa bN zt
 have aW:=zh xB
 clear kB xB bM bN
 generalize al.alloc (.cells #[.int .i64 0,.int .i64 0,.slice Db 0 cb,.slice Nb 0 nb,.int .i64 1,.int .i64 1,.int .i64 1,.int .i64 (e.length:Nat),.int .u64 3,.bool true] 55)=u at *
 generalize al.heap.size=gB at *
 have a0:∀W,New u W->W.cell? ⟨gA,0,none⟩=some (.int .i64 20):=fun W h=>h.Qb (a_ P.out (k:=0) rfl) trivial
 have b0:∀W,New u W->W.cell? ⟨gB,0,none⟩=some (.int .i64 0):=fun W h=>h.Qb (a_ aW.out (k:=0) rfl) trivial
 have b4:∀W,New u W->W.cell? ⟨gB,4,none⟩=some (.int .i64 1):=fun W h=>h.Qb (a_ aW.out (k:=4) rfl) trivial
 have b7:∀W,New u W->W.cell? ⟨gB,7,none⟩=some (.int .i64 (e.length:Nat)):=fun W h=>h.Qb (a_ aW.out (k:=7) rfl) trivial
 have G:∀W,New u W->W.cell? ⟨bw,12,none⟩=some (.pointer (some ⟨bA.br,0,none⟩)):=fun W h=>(f.cells.new h).cell (k:=12) rfl
 have bS:(fQ (gq [98] e 3)).length=(fQ (gq [98] e 3)).length:=rfl
 have aX:=Hf (d:=d) g.1 g.2.1
 obtain⟨sb,aY⟩:=zx (fQ (gq [98] e 3))
 obtain⟨sn,aZ⟩:=zx (sb.length)
 have bT:Hid (∀W,New u W->Calls prog 14 #[.pointer (some ⟨bt,0,none⟩)] W fun e w'=>(∃A' c',e=.returned (.slice A' sn c')/\fy w' W.heap.size 5 A' sn c' sb)/\New W w'):=zh fun W h=>by
  have:=pU (F.new h) (In (d:=d) g.1 g.2.1)
  rw[<- aY,<- aZ] at this
  exact this
 have bU:Hid (∀W,New u W->Calls prog 15 #[.pointer (some ⟨bA.br,0,none⟩)] W fun e w'=>(∃A' c',e=.returned (.slice A' sn c')/\fy w' W.heap.size 5 A' sn c' sb)/\New W w'):=zh fun W h=>by
  have:=qA (f.ref.new h) aX.1 aX.2
  rw[Eg (d:=d) g.1 g.2.1] at this
  unfold ej at this
  rw[<- aY,<- aZ] at this
  exact this
 have HV:Hid (∀W b A9 c9,fy W b 5 A9 sn c9 sb->∀W',New W W'->(convert 22 9 (.slice A9 sn c9)).run prog W'=.ok (.string (dR sb)) W') :=
  zh fun W b A9 c9 ho W' h=>mG (Row.Qc (Own.Qh ho h))
 have cC:(sb==sb)=true:=by simp
 have bV:=zh<|fun W (h:New u W)=>Bl W (f.max.new h)
 clear aY aZ bS aX
 refine eL zk ?_
 have s:New u u.drew:=(zN u).drew
 replace a0:=fun W (l:New u.drew W)=>a0 W (b_.new s l)
 replace b0:=fun W (l:New u.drew W)=>b0 W (b_.new s l)
 replace b4:=fun W (l:New u.drew W)=>b4 W (b_.new s l)
 replace b7:=fun W (l:New u.drew W)=>b7 W (b_.new s l)
 replace G:=fun W (l:New u.drew W)=>G W (b_.new s l)
 refine cL 0 ?_
 refine cL 1 ?_
 refine cL 2 ?_
 refine cL 3 ?_
 refine cL 4 ?_
 refine cL 5 ?_
 refine cL 6 ?_
 refine cL 7 ?_
 refine cL 8 ?_
 refine cL 9 ?_
 refine cL 10 ?_
 refine cL 11 ?_
 refine cL 12 ?_
 refine cL 13 ?_
 refine cL 14 ?_
 refine cL 15 ?_
 refine cL 16 ?_
 refine cL 17 ?_
 refine cL 18 ?_
 refine cL 19 ?_
 refine cL 20 ?_
 refine cL 21 ?_
 refine cL 22 ?_
 refine cL 23 ?_
 refine cL 26 ?_
 refine cL 27 ?_
 refine cL 28 ?_
 refine cL 29 ?_
 refine d_ (i:=24) zk rfl rfl (fun K hK=>?_)
 go_simp
 refine(bT.out _ s).mono ?_
 rintro en T⟨⟨A5,c5,rfl,o5⟩,L⟩;have v5:=HV.out T _ A5 c5 o5;clear o5
 go_wp2_with fail
 refine hK _ _ L ?_
 clear hK K
 try simp only[zy]
 replace s:=b_.new s L
 replace a0:=fun W (l:New T W)=>a0 W (b_.new L l)
 replace b0:=fun W (l:New T W)=>b0 W (b_.new L l)
 replace b4:=fun W (l:New T W)=>b4 W (b_.new L l)
 replace b7:=fun W (l:New T W)=>b7 W (b_.new L l)
 replace G:=fun W (l:New T W)=>G W (b_.new L l)
 refine cL 25 ?_
 refine d_ (i:=30) zk rfl rfl (fun K hK=>?_)
 go_simp
 refine(bU.out _ s).mono ?_
 rintro en Q⟨⟨A7,c7,rfl,o7⟩,M⟩;have v7:=HV.out Q _ A7 c7 o7;clear o7
 go_wp2_with fail
 refine hK _ _ M ?_
 clear hK K
 try simp only[zy]
 replace s:=b_.new s M
 replace a0:=fun W (l:New Q W)=>a0 W (b_.new M l)
 replace b0:=fun W (l:New Q W)=>b0 W (b_.new M l)
 replace b4:=fun W (l:New Q W)=>b4 W (b_.new M l)
 replace b7:=fun W (l:New Q W)=>b7 W (b_.new M l)
 replace G:=fun W (l:New Q W)=>G W (b_.new M l)
 replace v5:=fun W (l:New Q W)=>v5 W (b_.new M l)
 refine cL 31 ?_
 refine cL 32 ?_
 refine cL 33 ?_
 refine cL 34 ?_
 refine d_ (i:=35) zk rfl rfl (fun K hK=>?_)
 go_simp
 refine(bV.out _ s).mono ?_
 rintro en R⟨rfl,A⟩
 go_wp2_with fail
 refine hK _ _ A ?_
 clear hK K
 try simp only[zy]
 replace s:=b_.new s A
 replace a0:=fun W (l:New R W)=>a0 W (b_.new A l)
 replace b0:=fun W (l:New R W)=>b0 W (b_.new A l)
 replace b4:=fun W (l:New R W)=>b4 W (b_.new A l)
 replace b7:=fun W (l:New R W)=>b7 W (b_.new A l)
 replace G:=fun W (l:New R W)=>G W (b_.new A l)
 replace v5:=fun W (l:New R W)=>v5 W (b_.new A l)
 replace v7:=fun W (l:New R W)=>v7 W (b_.new A l)
 refine cL 36 ?_
 refine cL 37 ?_
 refine wpAnyH_done zk ?_ _
 have bW:=zh s
 clear s
 go_wp2
 go_ret
 refine⟨rfl,?_⟩
 have h1:=p.keep
 have h2:New w u:=S.1.Qd h1 fun b hb _=>⟨Nat.lt_of_lt_of_le hb S.1.size,S.2.1 b hb⟩
 exact h2.new bW.out
