/-
  PROVED HERE: what segment.Read answers; conditions: lengths that a slice may have.
-/
import Derived.Test.YtlopmiaimignkaaGreatDoorPkM12
import Derived.Test.YtlopmiaimignkaaGreatDoorPkM13
set_option maxRecDepth 100000
set_option maxHeartbeats 4000000
namespace Go.Proofs.YtlopmiaimignkaaGreatDoor
open Go.Proofs.Tryz
open Go.RowKit
variable{w:World}{g:Nat}
def fZ:jj:=⟨0,0,0,0,[],[]⟩
def ie(bs:List UInt8):jj :=
 let s1:=(RdS.mk bs 0).num 2
 let s2:=s1.2.num 8
 let s3:=s2.2.num 2
 let s4:=s3.2.num 2
 let s5:=s4.2.raw 32
 ⟨s1.1,s2.1,s3.1,s4.1,s5.1,(s5.2.raw 32).1⟩
def ev(bs:List UInt8):jj×List eA×Int :=
 if bs.length≠1024 then(fZ,[],1)
 else if be4 (fp (bs.take 78))≠(bs.drop 78).take 4 then(fZ,[],14)
 else if (ie bs).count=0\/942<(ie bs).bytes then(fZ,[],12)
 else match ip (ie bs).first (ie bs).count.toNat 0 ((bs.drop 82).take (ie bs).bytes.toNat) with
  | none=>(fZ,[],12)
  | some (rs,rest) =>
   if rest.length≠0\/(bs.drop (82+(ie bs).bytes.toNat)).all (· == 0)=false then(fZ,[],12)
   else if iw (dW rs)≠(ie bs).root then(fZ,[],40)
   else(ie bs,rs,0)
def xg(d:jj×List eA×Int)(w:World)(e:Ending)(w':World):Prop :=
 (∃A1 c1 A2 c2 A3 c3,e=.returned (.tuple #[.agg #[.int .i64 d.1.index,.int .u64 d.1.first,.int .i64 d.1.count,.int .i64 d.1.bytes,.slice A1 d.1.prev.length c1,.slice A2 d.1.root.length c2],.slice A3 d.2.1.length c3,.int .i64 d.2.2]) /\
  d.1.prev.length<=c1/\d.1.root.length<=c2/\Bs w' (fun b=>w.heap.size<=b) A1 d.1.prev.length d.1.prev/\Bs w' (fun b=>w.heap.size<=b) A2 d.1.root.length d.1.root/\eK w' w.heap.size (fun b=>w.heap.size<=b) A3 d.2.1.length c3 d.2.1)/\New w w'
theorem AE(D:Nat->Prop)(A:Option Addr)(n c:Nat)(bs:List UInt8)(w:World)(hB:Bs w D A n bs)(h:n≠1024):
  Calls prog 36 #[.slice A n c] w (xg (ev bs) w):=by
 have hd:Hid (ev bs=(fZ,[],1)):=zh (by unfold ev;rw[if_pos (by rw[hB.len];exact h)])
 have hn:((n:Int) !=1024)=true:=by simp;omega
 clear hB
 go_in
 go_wp2
 refine Zb (.tuple #[.agg #[.int .i64 0,.int .u64 0,.int .i64 0,.int .i64 0,.slice none 0 0,.slice none 0 0],.slice none 0 0,.int .i64 1]) (by simp[results,results36,go_sem]) ?_
 rw[hd.out]
 exact⟨⟨none,0,none,0,none,0,rfl,zr,zr,Row.nil _ _ _ _,Row.nil _ _ _ _,eK.nil _ _ _⟩,(zN w).alloc _⟩
theorem mE{a b c d e f:Value}{t:TypeId}(h:w.heap[g]?=some (.cells #[a,b,c,d,e,f] t (0,0)))(x0 x1 x2 x3 x4 x5:Value):
  ((((((w.setCell ⟨g,0,none⟩ x0).setCell ⟨g,1,none⟩ x1).setCell ⟨g,2,none⟩ x2).setCell ⟨g,3,none⟩ x3).setCell ⟨g,4,none⟩ x4).setCell ⟨g,5,none⟩ x5).heap[g]?=some (.cells #[x0,x1,x2,x3,x4,x5] t (0,0)) :=
 dM (dM (dM (dM (dM (dM h 0 x0) 1 x1) 2 x2) 3 x3) 4 x4) 5 x5
theorem yK(w:World)(g:Nat)(x0 x1 x2 x3 x4 x5:Value):
  b_ (fun b=>b≠g) w ((((((w.setCell ⟨g,0,none⟩ x0).setCell ⟨g,1,none⟩ x1).setCell ⟨g,2,none⟩ x2).setCell ⟨g,3,none⟩ x3).setCell ⟨g,4,none⟩ x4).setCell ⟨g,5,none⟩ x5) :=
 ((((((b_.refl _ w).setCell (p:=⟨g,0,none⟩) (fun h=>absurd rfl h) x0).setCell (p:=⟨g,1,none⟩) (fun h=>absurd rfl h) x1).setCell (p:=⟨g,2,none⟩) (fun h=>absurd rfl h) x2).setCell (p:=⟨g,3,none⟩) (fun h=>absurd rfl h) x3).setCell (p:=⟨g,4,none⟩) (fun h=>absurd rfl h) x4).setCell (p:=⟨g,5,none⟩) (fun h=>absurd rfl h) x5
theorem mL{w0:World}(h:New w0 w)(hg:w0.heap.size<=g)(x0 x1 x2 x3 x4 x5:Value):
  New w0 ((((((w.setCell ⟨g,0,none⟩ x0).setCell ⟨g,1,none⟩ x1).setCell ⟨g,2,none⟩ x2).setCell ⟨g,3,none⟩ x3).setCell ⟨g,4,none⟩ x4).setCell ⟨g,5,none⟩ x5) :=
 (b_.Qd (D:=fun b=>b<w0.heap.size) (b_.Qe h) (yK w g x0 x1 x2 x3 x4 x5) (fun i hi _=>by omega)).Qi (fun i hi=>hi)
theorem eK.keep{w w':World}{base:Nat}{D E:Nat->Prop}{A:Option Addr}{n c:Nat}{rs:List eA}(h:eK w base D A n c rs)(hk:b_ E w w')(hb:∀k,base<=k->E k)(hD:∀b,D b->E b):eK w' base D A n c rs:=by
 obtain⟨d,h1,h2,h3⟩:=h
 exact⟨d,eP h1 hk (fun k a=>hb k (eW h1 k a).1),h2,fun k a=>(h3 k a).keep hk fun b _ hd=>hD b hd.1⟩
theorem eK.imp{w:World}{base:Nat}{D E:Nat->Prop}{A:Option Addr}{n c:Nat}{rs:List eA}(h:eK w base D A n c rs)(hE:∀b,D b->E b):eK w base E A n c rs:=by
 obtain⟨d,h1,h2,h3⟩:=h
 exact⟨d,h1,h2,fun k a=>(h3 k a).imp fun b _ hd=>⟨hE b hd.1,hd.2⟩⟩
theorem eK.rebase{base base':Nat}{D:Nat->Prop}{A:Option Addr}{n c:Nat}{rs:List eA}(h:eK w base' D A n c rs)(hb:base<=base'):eK w base D A n c rs:=by
 obtain⟨a,h1,h2,h3⟩:=h
 exact⟨a,eQ h1 hb,h2,h3⟩
theorem GT(D:Nat->Prop)(A:Option Addr)(c:Nat)(bs:List UInt8)(w:World)(hB:Bs w D A 1024 bs)(hc:1024<=c)(hc9:c<=9223372036854775807):
  Calls prog 36 #[.slice A 1024 c] w (xg (ev bs) w):=by
 have hH:Hid (ie bs=⟨((RdS.mk bs 0).num 2).1,(((RdS.mk bs 0).num 2).2.num 8).1,((((RdS.mk bs 0).num 2).2.num 8).2.num 2).1,(((((RdS.mk bs 0).num 2).2.num 8).2.num 2).2.num 2).1,((((((RdS.mk bs 0).num 2).2.num 8).2.num 2).2.num 2).2.raw 32).1,(((((((RdS.mk bs 0).num 2).2.num 8).2.num 2).2.num 2).2.raw 32).2.raw 32).1⟩):=zh rfl
 have P:Hid (ev bs=(if be4 (fp (bs.take 78))≠(bs.drop 78).take 4 then(fZ,[],14)
  else if (ie bs).count=0\/942<(ie bs).bytes then(fZ,[],12)
  else match ip (ie bs).first (ie bs).count.toNat 0 ((bs.drop 82).take (ie bs).bytes.toNat) with
  | none=>(fZ,[],12)
  | some (rs,rest) =>
   if rest.length≠0\/(bs.drop (82+(ie bs).bytes.toNat)).all (· == 0)=false then(fZ,[],12)
   else if iw (dW rs)≠(ie bs).root then(fZ,[],40)
   else(ie bs,rs,0):jj×List eA×Int)):=zh (by unfold ev;rw[if_neg (by rw[hB.len];decide)])
 have r2:=lG ((RdS.mk bs 0).num 2).2 8
 have r3:=lG (((RdS.mk bs 0).num 2).2.num 8).2 2
 have r4:=lG ((((RdS.mk bs 0).num 2).2.num 8).2.num 2).2 2
 have G1:=zh<|fun p B h=>jk p (RdS.mk bs 0) B h
 generalize ((RdS.mk bs 0).num 2).1=ix at *
 generalize ((RdS.mk bs 0).num 2).2=s1 at *
 have G2:=zh<|fun p B h=>lC p s1 B h
 generalize (s1.num 8).1=Q at *
 generalize (s1.num 8).2=s2 at *
 have G3:=zh<|fun p B h=>jk p s2 B h
 generalize (s2.num 2).1=I at *
 generalize (s2.num 2).2=s3 at *
 have G4:=zh<|fun p B h=>jk p s3 B h
 generalize (s3.num 2).1=j at *
 generalize (s3.num 2).2=s4 at *
 have G5:=zh<|fun p B h=>jr p s4 32 B h
 generalize (s4.raw 32).1=pr at *
 generalize (s4.raw 32).2=s5 at *
 have G6:=zh<|fun p B h=>jr p s5 32 B h
 generalize (s5.raw 32).1=L at *
 generalize (s5.raw 32).2=s6 at *
 rw[hH.out] at P
 dsimp only at P
 rw[Int.toNat_natCast,Int.toNat_natCast] at P
 have aF:Bs w D A 78 (bs.take 78):=hB.Qk Zd
 have bl:=zh aF
 have aG:Bs w D (Option.map (fun x=>x.add 78) A) 4 ((bs.drop 78).take 4):=(hB.from_ (l:=78) Zd).Qk (hi:=4) Zd
 have bm:=zh aG
 have aH:Hid (∀W,New w W->Calls prog 110 #[.slice A 78 c] W fun e B=>e=.returned (.int .u32 (wv (fp (bs.take 78))))/\New W B) :=
  zh fun W h=>(pn D A 78 c _ W (bl.new h) Zd).mono fun e B ⟨h1,h2⟩=>⟨h1,h2▸zN _⟩
 have aI:Hid (∀W b A9 c9 x,New w W->fy W b 5 A9 4 c9 x->Calls prog 118 #[.slice A9 4 c9,.slice (Option.map (fun x=>x.add 78) A) 4 (c-78)] W fun e B=>e=.returned (.bool (x==(bs.drop 78).take 4))/\New W B) :=
  zh fun W b A9 c9 x h ho=>(nA _ D A9 _ 4 c9 4 (c-78) x _ W (Row.Qc ho) (bm.new h)).mono fun e B ⟨h1,h2⟩=>⟨h1,h2▸zN _⟩
 have aJ:=zh hB
 clear aF aG bl bm
 generalize fp (bs.take 78)=cx at *
 generalize (bs.drop 78).take 4=ck at *
 have bn:=zh<|heap_alloc_new w (.cells #[.int .i64 0,.int .u64 0,.int .i64 0,.int .i64 0,.slice none 0 0,.slice none 0 0] 94)
 have bo:New w (w.alloc (.cells #[.int .i64 0,.int .u64 0,.int .i64 0,.int .i64 0,.slice none 0 0,.slice none 0 0] 94)):=(zN w).alloc _
 clear hB
 go_in
 go_wp2_with fail
 refine(kh D _ 1024 c bs _ (aJ.new ((zN w).alloc _)) Zd).mono ?_
 rintro e w1⟨⟨p,rfl,hp,aK⟩,aL⟩
 have aM:w.heap.size<p:=by rw[World.size_alloc] at hp;omega
 have bp:=zh<|aL.Qa bn.out zt
 have aN:=bo.new aL
 have aO:=aK.lt
 clear aL hp bo bn
 go_wp2_with fail
 refine(G1.out p w1 aK).mono ?_
 rintro e w2⟨rfl,bq,bt⟩
 go_wp2_with fail
 refine(G2.out p w2 bq).mono ?_
 rintro e w3⟨rfl,bu,bx⟩
 go_wp2_with fail
 refine(G3.out p w3 bu).mono ?_
 rintro e w4⟨rfl,bz,bA⟩
 go_wp2_with fail
 refine(G4.out p w4 bz).mono ?_
 rintro e w5⟨rfl,bB,bC⟩
 go_wp2_with fail
 refine(G5.out p w5 bB).mono ?_
 rintro e w6⟨⟨A6,c6,rfl,O⟩,bD,aP⟩
 go_wp2_with fail
 refine(G6.out p w6 bD).mono ?_
 rintro e w7⟨⟨R,S,rfl,aa⟩,bU,aQ⟩
 have ao:=(((bt.trans bx).trans bA).trans bC)
 have az:=(ao.trans aP).trans aQ
 have aR:=zh<|az.Qa bp.out (Nat.ne_of_lt aM)
 have aS:New w w7:=(b_.Qd (D:=fun b=>b<w.heap.size) (b_.Qe aN) az (fun i hi _=>by omega)).Qi (fun i hi=>hi)
 have bV:=ao.size
 have bW:=(ao.trans aP).size
 have bX:w.heap.size<w1.heap.size:=Nat.lt_trans aM aO
 have aq:=eQ (base:=w.heap.size+1) (eP O aQ (fun k hk e=>by have:=(eW O k hk).1;omega)) zo
 have ar:=eQ (base:=w.heap.size+1) aa zo
 clear aK bq bu bz bB bD bU bt bx bA bC aP aQ ao az O aa aN bp bV bW bX G1 G2 G3 G4 G5 G6 aM aO
 go_wp2_with fail
 have au:New w7 (w7.alloc (.cells #[.int .i64 (ix:Int),.int .u64 (Q:Int),.int .i64 (I:Int),.int .i64 (j:Int),.slice A6 pr.length c6,.slice R L.length S] 94)):=(zN w7).alloc _
 have bE:=zh<|heap_alloc_new w7 (.cells #[.int .i64 (ix:Int),.int .u64 (Q:Int),.int .i64 (I:Int),.int .i64 (j:Int),.slice A6 pr.length c6,.slice R L.length S] 94)
 have b6:w.heap.size<w7.heap.size:=(Array.getElem?_eq_some_iff.1 aR.out).1
 generalize w7.alloc _=w8 at *
 generalize w7.heap.size=M at *
 have T:=aS.new au
 have aT:=zh<|au.Qa aR.out zt
 have O:=Own.Qh aq au
 have aa:=Own.Qh ar au
 clear aq ar aS au aR
 have i1:(78:Int)<=c:=by omega
 have i2:(82:Int)<=c:=by omega
 have i3:¬c=78:=by omega
 have i4:(1024:Int)<=c:=by omega
 by_cases hs:be4 cx=ck
 ·have aU:(be4 cx==ck)=true:=by simpa using hs
  have HS:=zh hs
  clear hs
  refine eL zk ?_
  have a:New w8 w8.drew:=(zN w8).drew
  refine cL 0 ?_
  refine cL 1 ?_
  refine cL 4 ?_
  refine cL 5 ?_
  refine d_ (i:=2) zk rfl rfl (fun K s=>?_)
  go_simp
  refine(aH.out _ (T.new a)).mono ?_
  rintro e w9⟨rfl,k9⟩
  go_wp2_with fail
  refine s _ _ k9 ?_
  clear s K
  try simp only[zy]
  replace a:=b_.new a k9
  refine d_ (i:=3) zk rfl rfl (fun K s=>?_)
  go_simp
  refine(ue _ _).mono ?_
  rintro e bY⟨⟨aV,aW,rfl,aE⟩,ah⟩
  go_wp2_with fail
  refine s _ _ ah ?_
  clear s K
  try simp only[zy]
  replace a:=b_.new a ah
  refine d_ (i:=6) zk rfl rfl (fun K s=>?_)
  go_simp
  refine(aI.out _ _ aV aW _ (T.new a) aE).mono ?_
  rintro e d⟨rfl,ai⟩
  go_wp2_with fail
  refine s _ _ ai ?_
  clear s K
  try simp only[zy]
  replace a:=b_.new a ai
  refine cL 7 ?_
  refine wpAnyH_done zk ?_ _
  clear aU aH aI k9 ah ai aE
  have C:=zh<|a.Qa aT.out zt
  have N:=zh<|a.Qa bE.out zt
  have ad:=T.new a
  have p6:=Own.Qh O a
  have p7:=Own.Qh aa a
  rw[if_neg (fun h=>h HS.out)] at P
  clear aT bE T O aa a
  by_cases av:I=0
  ·have bF:((I:Int)==0)=true:=by rw[av];rfl
   have x2:d.cell? ⟨M,2,none⟩=some (.int .i64 (I:Int)):=a_ N.out rfl
   have bZ:=zh av
   clear av
   have U:d.cell? ⟨w.heap.size,0,none⟩=some (.int .i64 0):=a_ C.out rfl
   have V:d.cell? ⟨w.heap.size,1,none⟩=some (.int .u64 0):=a_ C.out rfl
   have Y:d.cell? ⟨w.heap.size,2,none⟩=some (.int .i64 0):=a_ C.out rfl
   have Z:d.cell? ⟨w.heap.size,3,none⟩=some (.int .i64 0):=a_ C.out rfl
   have d4:d.cell? ⟨w.heap.size,4,none⟩=some (.slice none 0 0):=a_ C.out rfl
   have d5:d.cell? ⟨w.heap.size,5,none⟩=some (.slice none 0 0):=a_ C.out rfl
   obtain⟨z0,z1,z2,z3,z4,z5⟩:=fz6 C.out
   go_wp2_with fail
   clear U V Y Z d4 d5 z0 z1 z2 z3 z4 z5
   have o:=mE C.out (.int .i64 0) (.int .u64 0) (.int .i64 0) (.int .i64 0) (.slice none 0 0) (.slice none 0 0)
   have G:=mL ad (g:=w.heap.size) zr (.int .i64 0) (.int .u64 0) (.int .i64 0) (.int .i64 0) (.slice none 0 0) (.slice none 0 0)
   generalize World.setCell _ _ _=q at *
   have f0:q.cell? ⟨w.heap.size,0,none⟩=some (.int .i64 0):=a_ o rfl
   have f1:q.cell? ⟨w.heap.size,1,none⟩=some (.int .u64 0):=a_ o rfl
   have f2:q.cell? ⟨w.heap.size,2,none⟩=some (.int .i64 0):=a_ o rfl
   have f3:q.cell? ⟨w.heap.size,3,none⟩=some (.int .i64 0):=a_ o rfl
   have f4:q.cell? ⟨w.heap.size,4,none⟩=some (.slice none 0 0):=a_ o rfl
   have f5:q.cell? ⟨w.heap.size,5,none⟩=some (.slice none 0 0):=a_ o rfl
   refine Zb (.tuple #[.agg #[.int .i64 0,.int .u64 0,.int .i64 0,.int .i64 0,.slice none 0 0,.slice none 0 0],.slice none 0 0,.int .i64 12]) (by simp[results,results36,go_sem,f0,f1,f2,f3,f4,f5]) ?_
   rw[show ev bs=(fZ,[],12) from by rw[P.out,if_pos (.inl (by rw[bZ.out];rfl))]]
   exact⟨⟨none,0,none,0,none,0,rfl,zr,zr,Row.nil _ _ _ _,Row.nil _ _ _ _,eK.nil _ _ _⟩,G⟩
  have bF:((I:Int)==0)=false:=by simpa using av
  have x2:d.cell? ⟨M,2,none⟩=some (.int .i64 (I:Int)):=a_ N.out rfl
  have x3:d.cell? ⟨M,3,none⟩=some (.int .i64 (j:Int)):=a_ N.out rfl
  by_cases b0:(942:Int)<j
  ·-- BEGIN bad12b
   have U:d.cell? ⟨w.heap.size,0,none⟩=some (.int .i64 0):=a_ C.out rfl
   have V:d.cell? ⟨w.heap.size,1,none⟩=some (.int .u64 0):=a_ C.out rfl
   have Y:d.cell? ⟨w.heap.size,2,none⟩=some (.int .i64 0):=a_ C.out rfl
   have Z:d.cell? ⟨w.heap.size,3,none⟩=some (.int .i64 0):=a_ C.out rfl
   have d4:d.cell? ⟨w.heap.size,4,none⟩=some (.slice none 0 0):=a_ C.out rfl
   have d5:d.cell? ⟨w.heap.size,5,none⟩=some (.slice none 0 0):=a_ C.out rfl
   obtain⟨z0,z1,z2,z3,z4,z5⟩:=fz6 C.out
   go_wp2_with fail
   clear U V Y Z d4 d5 z0 z1 z2 z3 z4 z5
   have o:=mE C.out (.int .i64 0) (.int .u64 0) (.int .i64 0) (.int .i64 0) (.slice none 0 0) (.slice none 0 0)
   have G:=mL ad (g:=w.heap.size) zr (.int .i64 0) (.int .u64 0) (.int .i64 0) (.int .i64 0) (.slice none 0 0) (.slice none 0 0)
   generalize World.setCell _ _ _=q at *
   have f0:q.cell? ⟨w.heap.size,0,none⟩=some (.int .i64 0):=a_ o rfl
   have f1:q.cell? ⟨w.heap.size,1,none⟩=some (.int .u64 0):=a_ o rfl
   have f2:q.cell? ⟨w.heap.size,2,none⟩=some (.int .i64 0):=a_ o rfl
   have f3:q.cell? ⟨w.heap.size,3,none⟩=some (.int .i64 0):=a_ o rfl
   have f4:q.cell? ⟨w.heap.size,4,none⟩=some (.slice none 0 0):=a_ o rfl
   have f5:q.cell? ⟨w.heap.size,5,none⟩=some (.slice none 0 0):=a_ o rfl
   refine Zb (.tuple #[.agg #[.int .i64 0,.int .u64 0,.int .i64 0,.int .i64 0,.slice none 0 0,.slice none 0 0],.slice none 0 0,.int .i64 12]) (by simp[results,results36,go_sem,f0,f1,f2,f3,f4,f5]) ?_
   rw[show ev bs=(fZ,[],12) from by rw[P.out,if_pos (.inr b0)]]
   exact⟨⟨none,0,none,0,none,0,rfl,zr,zr,Row.nil _ _ _ _,Row.nil _ _ _ _,eK.nil _ _ _⟩,G⟩
  have bM:¬((I:Int)=0):=zo
  rw[if_neg zo] at P
  go_wp2_with fail
  clear x2 x3 av bM bF
  have y0:∀W,New d W->W.cell? ⟨M,0,none⟩=some (.int .i64 (ix:Int)):=fun W h=>a_ (h.Qa N.out zt) rfl
  have y1:∀W,New d W->W.cell? ⟨M,1,none⟩=some (.int .u64 (Q:Int)):=fun W h=>a_ (h.Qa N.out zt) rfl
  have y2:∀W,New d W->W.cell? ⟨M,2,none⟩=some (.int .i64 (I:Int)):=fun W h=>a_ (h.Qa N.out zt) rfl
  have y3:∀W,New d W->W.cell? ⟨M,3,none⟩=some (.int .i64 (j:Int)):=fun W h=>a_ (h.Qa N.out zt) rfl
  have y4:∀W,New d W->W.cell? ⟨M,4,none⟩=some (.slice A6 pr.length c6):=fun W h=>a_ (h.Qa N.out zt) rfl
  have y:∀W,New d W->W.cell? ⟨M,5,none⟩=some (.slice R L.length S):=fun W h=>a_ (h.Qa N.out zt) rfl
  have q1:IntKind.i64.wrap (82+(j:Int))=82+(j:Int):=IntWalk.i64_in _ zo
  have q2:(82:Int)<=82+(j:Int):=zo
  have q3:82+(j:Int)<=c:=by omega
  have q4:¬c=82:=by omega
  have q5:(82+(j:Int)).toNat=82+j:=by omega
  have q6:82+j-82=j:=by omega
  have bG:Bs d D (Option.map (fun x=>x.add 82) A) (1024-82) (bs.drop 82):=Bs.from_ (aJ.new ad) Zd
  have aA:Bs d D (Option.map (fun x=>x.add 82) A) j ((bs.drop 82).take j):=Bs.Qk bG zo
  have b7:=aA.len
  have b1:=zh aA
  have aw:Hid (∀W,New d W->Calls prog 119 #[.slice (Option.map (fun x=>x.add 82) A) j (c-82),.agg #[.int .i64 (ix:Int),.int .u64 (Q:Int),.int .i64 (I:Int),.int .i64 (j:Int),.slice A6 pr.length c6,.slice R L.length S]] W fun e B=>(re (ip Q I 0 ((bs.drop 82).take j)) W.heap.size e B)/\New W B) :=
   zh fun W h=>yd D _ A6 R j (c-82) pr.length c6 L.length S _ ix Q j I W (b1.new h) zo zo zo zo zo zo
  have bH:=zh<|fun rs rest=>rx (Q:Int) I 0 ((bs.drop 82).take j) rs rest
  have b2:=(Array.getElem?_eq_some_iff.1 N.out).1
  clear aA bG
  generalize (bs.drop 82).take j=sub at *
  rcases hG:ip (Q:Int) I 0 sub with _|⟨rs,rest⟩
  ·rw[hG] at aw P
   refine eL zk ?_
   have a:New d d.drew:=(zN d).drew
   replace y0:=fun W (f:New d.drew W)=>y0 W (b_.new a f)
   replace y1:=fun W (f:New d.drew W)=>y1 W (b_.new a f)
   replace y2:=fun W (f:New d.drew W)=>y2 W (b_.new a f)
   replace y3:=fun W (f:New d.drew W)=>y3 W (b_.new a f)
   replace y4:=fun W (f:New d.drew W)=>y4 W (b_.new a f)
   replace y:=fun W (f:New d.drew W)=>y W (b_.new a f)
   refine cL 0 ?_
   refine cL 1 ?_
   refine cL 2 ?_
   refine cL 3 ?_
   refine cL 4 ?_
   refine cL 5 ?_
   refine d_ (i:=6) zk rfl rfl (fun K s=>?_)
   go_simp
   refine(aw.out _ a).mono ?_
   rintro e n⟨H,u⟩;obtain rfl:=H
   go_wp2_with fail
   refine s _ _ u ?_
   clear s K
   try simp only[zy]
   replace a:=b_.new a u
   replace y0:=fun W (f:New n W)=>y0 W (b_.new u f)
   replace y1:=fun W (f:New n W)=>y1 W (b_.new u f)
   replace y2:=fun W (f:New n W)=>y2 W (b_.new u f)
   replace y3:=fun W (f:New n W)=>y3 W (b_.new u f)
   replace y4:=fun W (f:New n W)=>y4 W (b_.new u f)
   replace y:=fun W (f:New n W)=>y W (b_.new u f)
   refine cL 7 ?_
   refine cL 8 ?_
   refine cL 9 ?_
   refine cL 10 ?_
   refine cL 11 ?_
   refine wpAnyH_done zk ?_ _
   have t:=zh<|a.Qa C.out zt
   have s:=ad.new a
   clear y0 y1 y2 y3 y4 y
   have U:n.cell? ⟨w.heap.size,0,none⟩=some (.int .i64 0):=a_ t.out rfl
   have V:n.cell? ⟨w.heap.size,1,none⟩=some (.int .u64 0):=a_ t.out rfl
   have Y:n.cell? ⟨w.heap.size,2,none⟩=some (.int .i64 0):=a_ t.out rfl
   have Z:n.cell? ⟨w.heap.size,3,none⟩=some (.int .i64 0):=a_ t.out rfl
   have d4:n.cell? ⟨w.heap.size,4,none⟩=some (.slice none 0 0):=a_ t.out rfl
   have d5:n.cell? ⟨w.heap.size,5,none⟩=some (.slice none 0 0):=a_ t.out rfl
   obtain⟨z0,z1,z2,z3,z4,z5⟩:=fz6 t.out
   go_wp2_with fail
   clear U V Y Z d4 d5 z0 z1 z2 z3 z4 z5
   have o:=mE t.out (.int .i64 0) (.int .u64 0) (.int .i64 0) (.int .i64 0) (.slice none 0 0) (.slice none 0 0)
   have G:=mL s (g:=w.heap.size) zr (.int .i64 0) (.int .u64 0) (.int .i64 0) (.int .i64 0) (.slice none 0 0) (.slice none 0 0)
   generalize World.setCell _ _ _=q at *
   have f0:q.cell? ⟨w.heap.size,0,none⟩=some (.int .i64 0):=a_ o rfl
   have f1:q.cell? ⟨w.heap.size,1,none⟩=some (.int .u64 0):=a_ o rfl
   have f2:q.cell? ⟨w.heap.size,2,none⟩=some (.int .i64 0):=a_ o rfl
   have f3:q.cell? ⟨w.heap.size,3,none⟩=some (.int .i64 0):=a_ o rfl
   have f4:q.cell? ⟨w.heap.size,4,none⟩=some (.slice none 0 0):=a_ o rfl
   have f5:q.cell? ⟨w.heap.size,5,none⟩=some (.slice none 0 0):=a_ o rfl
   refine Zb (.tuple #[.agg #[.int .i64 0,.int .u64 0,.int .i64 0,.int .i64 0,.slice none 0 0,.slice none 0 0],.slice none 0 0,.int .i64 12]) (by simp[results,results36,go_sem,f0,f1,f2,f3,f4,f5]) ?_
   rw[show ev bs=(fZ,[],12) from by rw[P.out]]
   exact⟨⟨none,0,none,0,none,0,rfl,zr,zr,Row.nil _ _ _ _,Row.nil _ _ _ _,eK.nil _ _ _⟩,G⟩
  rw[hG] at aw P
  have HG:=zh<|bH.out rs rest hG
  clear bH hG
  by_cases ab:rest.length=0
  ·have aX:decide (rest.length=0)=true:=by simpa using ab
   refine eL zk ?_
   have a:New d d.drew:=(zN d).drew
   replace y0:=fun W (f:New d.drew W)=>y0 W (b_.new a f)
   replace y1:=fun W (f:New d.drew W)=>y1 W (b_.new a f)
   replace y2:=fun W (f:New d.drew W)=>y2 W (b_.new a f)
   replace y3:=fun W (f:New d.drew W)=>y3 W (b_.new a f)
   replace y4:=fun W (f:New d.drew W)=>y4 W (b_.new a f)
   replace y:=fun W (f:New d.drew W)=>y W (b_.new a f)
   refine cL 0 ?_
   refine cL 1 ?_
   refine cL 2 ?_
   refine cL 3 ?_
   refine cL 4 ?_
   refine cL 5 ?_
   refine d_ (i:=6) zk rfl rfl (fun K s=>?_)
   go_simp
   refine(aw.out _ a).mono ?_
   rintro e n⟨H,u⟩;unfold re at H;dsimp only at H;rw[aX] at H;obtain⟨ax,ay,rfl,aY⟩:=H
   go_wp2_with fail
   refine s _ _ u ?_
   clear s K
   try simp only[zy]
   replace a:=b_.new a u
   replace y0:=fun W (f:New n W)=>y0 W (b_.new u f)
   replace y1:=fun W (f:New n W)=>y1 W (b_.new u f)
   replace y2:=fun W (f:New n W)=>y2 W (b_.new u f)
   replace y3:=fun W (f:New n W)=>y3 W (b_.new u f)
   replace y4:=fun W (f:New n W)=>y4 W (b_.new u f)
   replace y:=fun W (f:New n W)=>y W (b_.new u f)
   refine cL 7 ?_
   refine cL 8 ?_
   refine cL 9 ?_
   refine cL 10 ?_
   refine cL 11 ?_
   refine wpAnyH_done zk ?_ _
   have bN:=zh<|a.Qa C.out zt
   have aZ:=zh<|a.Qa N.out zt
   have a1:=ad.new a
   have s6:=Own.Qh p6 a
   have s7:=Own.Qh p7 a
   have x3:n.cell? ⟨M,3,none⟩=some (.int .i64 (j:Int)):=a_ aZ.out rfl
   have bi:M<d.drew.heap.size:=b2
   have a2:=eK.rebase (base:=w.heap.size+1) (eK.imp aY (E:=fun b=>w.heap.size+1<=b) (fun b hb=>by omega)) zo
   clear aY bi p6 p7 a y0 y1 y2 y3 y4 y u
   have aB:=aJ.new a1
   have bO:bs.length=1024:=Bs.len aB
   have q7:(82:Int)+(j:Int)<=1024:=by omega
   have bP:(∃X m cc,(if c=82+j then A else Option.map (fun x=>x.add (82+j)) A)=X/\1024-(82+j)=m/\c-(82+j)=cc/\Hid (Calls prog 120 #[.slice X m cc,.string { data:=#[0] }] n fun e B=>xe (bs.drop (82+j)) e/\New n B)):=by
    refine⟨_,_,_,rfl,rfl,rfl,zh (xv D _ _ (c-(82+j)) _ n ?_ zo zo)⟩
    by_cases e:c=82+j
    ·have e1:1024-(82+j)=0:=by omega
     have e2:bs.drop (82+j)=[]:=List.drop_eq_nil_of_le zo
     rw[e1,e2];exact Row.nil _ _ _ _
    rw[if_neg e];exact Bs.from_ aB zo
   have a6:=HG.1
   have bQ:=HG.2.1
   have hfl:(dW rs).flatten.length<=942:=by
    have h:=congrArg List.length a6
    rw[zL] at h
    omega
   have a7:∀r∈rs,r.body.length<=9223372036854770000:=fun r hr=>by
    have h:=(HG.2.2.1 r hr).1
    unfold dZ at h
    rw[decide_eq_true_eq] at h
    omega
   have bR:=zh<|a2.recs a7
   have b3:rs.length<=1099511620000:=by omega
   have bS:(dW rs).flatten.length<=1099511620000:=by omega
   have b8:(dW rs).length=rs.length:=by unfold dW;rw[List.length_map]
   have bI:Hid (∀W b (E:Nat->Prop) aj ak,iS W b E aj rs.length ak (dW rs)->Calls prog 108 #[.slice aj rs.length ak] W fun e B=>(∃A' c',e=.returned (.slice A' 32 c')/\fy B W.heap.size 5 A' 32 c' (iw (dW rs)))/\New W B) :=
    zh fun W b E aj ak ho=>xU rs.length _ aj ak (dW rs) W ho.bss ho.cap bS zo ho.capMax
   have bJ:Hid (∀W b al am,New n W->fy W b 5 al 32 am (iw (dW rs))->Calls prog 118 #[.slice al 32 am,.slice R L.length S] W fun e B=>e=.returned (.bool (iw (dW rs)==L))/\New W B) :=
    zh fun W b al am hN ho=>(nA _ _ al R 32 am L.length S _ L W (Row.Qc ho) (Row.Qc (Own.Qh s7 hN))).mono fun e B ⟨h1,h2⟩=>⟨h1,h2▸zN _⟩
   clear a6 bQ hfl a7 bO aB
   by_cases a8:c=82+j
   all_goals
    obtain⟨X,m,cc,hX,hm,bT,bK⟩:=bP
    first
     | (rw[if_pos a8] at hX)
     | (rw[if_neg a8] at hX)
    subst hX
    subst hm
    subst bT
    try subst a8
    go_wp2_with fail
    try rw[Nat.sub_self,show 1024-(82+j)=0 from by omega] at bK
    refine bK.mono ?_
    rintro e F⟨⟨b9,ba,cb,rfl,t1,t2⟩,ac⟩
    have J:=zh<|ac.Qa bN.out zt
    have bb:=zh<|ac.Qa aZ.out zt
    have aC:=a1.new ac
    by_cases ap:ba=0
    ·have hz:=t1 ap
     have bj:¬(0:Int)<ba:=by omega
     have HZ:Hid ((bs.drop (82+j)).all (· == 0)=true):=zh (by rw[List.all_eq_true];intro x hx;simpa using hz x hx)
     clear hz t1 t2 ap
     go_wp2_with fail
     have y:∀W,New F W->W.cell? ⟨M,5,none⟩=some (.slice R L.length S):=fun W h=>a_ (h.Qa bb.out zt) rfl
     have bL:Hid (∀W,New F W->Calls prog 106 #[.slice ax rs.length ay] W fun e B=>(∃A' c',e=.returned (.slice A' rs.length c')/\iS B W.heap.size (fun b=>W.heap.size<=b) A' rs.length c' (dW rs))/\New W B) :=
      zh fun W h=>tV _ ax rs.length ay rs W ((bR.new ac).new h) b3
     by_cases an:iw (dW rs)=L
     ·have aD:(iw (dW rs)==L)=true:=by simpa using an
      have bc:=zh an
      clear an
      refine eL zk ?_
      have a:New F F.drew:=(zN F).drew
      replace y:=fun W (f:New F.drew W)=>y W (b_.new a f)
      refine cL 0 ?_
      refine cL 3 ?_
      refine cL 4 ?_
      refine d_ (i:=1) zk rfl rfl (fun K s=>?_)
      go_simp
      refine(bL.out _ a).mono ?_
      rintro e bd⟨⟨aj,ak,rfl,be⟩,ae⟩
      go_wp2_with fail
      refine s _ _ ae ?_
      clear s K
      try simp only[zy]
      replace a:=b_.new a ae
      replace y:=fun W (f:New bd W)=>y W (b_.new ae f)
      refine d_ (i:=2) zk rfl rfl (fun K s=>?_)
      go_simp
      refine(bI.out _ _ _ _ _ be).mono ?_
      rintro e bf⟨⟨al,am,rfl,bg⟩,af⟩
      go_wp2_with fail
      refine s _ _ af ?_
      clear s K
      try simp only[zy]
      replace a:=b_.new a af
      replace y:=fun W (f:New bf W)=>y W (b_.new af f)
      refine d_ (i:=5) zk rfl rfl (fun K s=>?_)
      go_simp
      refine(bJ.out _ _ _ _ (ac.new a) bg).mono ?_
      rintro e z⟨rfl,ag⟩
      go_wp2_with fail
      refine s _ _ ag ?_
      clear s K
      try simp only[zy]
      replace a:=b_.new a ag
      replace y:=fun W (f:New z W)=>y W (b_.new ag f)
      refine cL 6 ?_
      refine wpAnyH_done zk ?_ _
      clear aD y
      have t:=zh<|a.Qa J.out zt
      have HX:=zh<|a.Qa bb.out zt
      have s:=aC.new a
      have v6:=Own.Qh (Own.Qh s6 ac) a
      have v7:=Own.Qh (Own.Qh s7 ac) a
      have b4:=(a2.new ac).new a
      have c0:z.cell? ⟨M,0,none⟩=some (.int .i64 (ix:Int)):=a_ HX.out rfl
      have c1:z.cell? ⟨M,1,none⟩=some (.int .u64 (Q:Int)):=a_ HX.out rfl
      have c2:z.cell? ⟨M,2,none⟩=some (.int .i64 (I:Int)):=a_ HX.out rfl
      have c3:z.cell? ⟨M,3,none⟩=some (.int .i64 (j:Int)):=a_ HX.out rfl
      have c4:z.cell? ⟨M,4,none⟩=some (.slice A6 pr.length c6):=a_ HX.out rfl
      have c5:z.cell? ⟨M,5,none⟩=some (.slice R L.length S):=a_ HX.out rfl
      have U:z.cell? ⟨w.heap.size,0,none⟩=some (.int .i64 0):=a_ t.out rfl
      have V:z.cell? ⟨w.heap.size,1,none⟩=some (.int .u64 0):=a_ t.out rfl
      have Y:z.cell? ⟨w.heap.size,2,none⟩=some (.int .i64 0):=a_ t.out rfl
      have Z:z.cell? ⟨w.heap.size,3,none⟩=some (.int .i64 0):=a_ t.out rfl
      have d4:z.cell? ⟨w.heap.size,4,none⟩=some (.slice none 0 0):=a_ t.out rfl
      have d5:z.cell? ⟨w.heap.size,5,none⟩=some (.slice none 0 0):=a_ t.out rfl
      obtain⟨z0,z1,z2,z3,z4,z5⟩:=fz6 t.out
      go_wp2_with fail
      clear c0 c1 c2 c3 c4 c5 U V Y Z d4 d5 z0 z1 z2 z3 z4 z5
      have o:=mE t.out (.int .i64 (ix:Int)) (.int .u64 (Q:Int)) (.int .i64 (I:Int)) (.int .i64 (j:Int)) (.slice A6 pr.length c6) (.slice R L.length S)
      have bh:=yK z w.heap.size (.int .i64 (ix:Int)) (.int .u64 (Q:Int)) (.int .i64 (I:Int)) (.int .i64 (j:Int)) (.slice A6 pr.length c6) (.slice R L.length S)
      have G:=mL s (g:=w.heap.size) zr (.int .i64 (ix:Int)) (.int .u64 (Q:Int)) (.int .i64 (I:Int)) (.int .i64 (j:Int)) (.slice A6 pr.length c6) (.slice R L.length S)
      generalize World.setCell _ _ _=q at *
      have f0:q.cell? ⟨w.heap.size,0,none⟩=some (.int .i64 (ix:Int)):=a_ o rfl
      have f1:q.cell? ⟨w.heap.size,1,none⟩=some (.int .u64 (Q:Int)):=a_ o rfl
      have f2:q.cell? ⟨w.heap.size,2,none⟩=some (.int .i64 (I:Int)):=a_ o rfl
      have f3:q.cell? ⟨w.heap.size,3,none⟩=some (.int .i64 (j:Int)):=a_ o rfl
      have f4:q.cell? ⟨w.heap.size,4,none⟩=some (.slice A6 pr.length c6):=a_ o rfl
      have f5:q.cell? ⟨w.heap.size,5,none⟩=some (.slice R L.length S):=a_ o rfl
      refine Zb (.tuple #[.agg #[.int .i64 (ix:Int),.int .u64 (Q:Int),.int .i64 (I:Int),.int .i64 (j:Int),.slice A6 pr.length c6,.slice R L.length S],.slice ax rs.length ay,.int .i64 0]) (by simp[results,results36,go_sem,f0,f1,f2,f3,f4,f5]) ?_
      rw[show ev bs=(⟨ix,Q,I,j,pr,L⟩,rs,0) from by rw[P.out];exact(if_neg (by rintro(h|h);exact h ab;rw[HZ.out] at h;cases h)).trans (if_neg (fun h=>h bc.out))]
      have u6:=eP v6 bh (fun k hk e=>by have:=(eW v6 k hk).1;omega)
      have u7:=eP v7 bh (fun k hk e=>by have:=(eW v7 k hk).1;omega)
      exact⟨⟨A6,c6,R,S,ax,ay,rfl,ew u6,ew u7,(Row.Qc u6).imp (fun b _ h=>by omega),(Row.Qc u7).imp (fun b _ h=>by omega),eK.rebase (eK.imp (eK.keep b4 bh (fun k hk=>by omega) (fun b hb=>by omega)) (fun b hb=>by omega)) (Nat.le_succ _)⟩,G⟩
     have aD:(iw (dW rs)==L)=false:=by simpa using an
     have bc:=zh an
     clear an
     refine eL zk ?_
     have a:New F F.drew:=(zN F).drew
     replace y:=fun W (f:New F.drew W)=>y W (b_.new a f)
     refine cL 0 ?_
     refine cL 3 ?_
     refine cL 4 ?_
     refine d_ (i:=1) zk rfl rfl (fun K s=>?_)
     go_simp
     refine(bL.out _ a).mono ?_
     rintro e bd⟨⟨aj,ak,rfl,be⟩,ae⟩
     go_wp2_with fail
     refine s _ _ ae ?_
     clear s K
     try simp only[zy]
     replace a:=b_.new a ae
     replace y:=fun W (f:New bd W)=>y W (b_.new ae f)
     refine d_ (i:=2) zk rfl rfl (fun K s=>?_)
     go_simp
     refine(bI.out _ _ _ _ _ be).mono ?_
     rintro e bf⟨⟨al,am,rfl,bg⟩,af⟩
     go_wp2_with fail
     refine s _ _ af ?_
     clear s K
     try simp only[zy]
     replace a:=b_.new a af
     replace y:=fun W (f:New bf W)=>y W (b_.new af f)
     refine d_ (i:=5) zk rfl rfl (fun K s=>?_)
     go_simp
     refine(bJ.out _ _ _ _ (ac.new a) bg).mono ?_
     rintro e z⟨rfl,ag⟩
     go_wp2_with fail
     refine s _ _ ag ?_
     clear s K
     try simp only[zy]
     replace a:=b_.new a ag
     replace y:=fun W (f:New z W)=>y W (b_.new ag f)
     refine cL 6 ?_
     refine wpAnyH_done zk ?_ _
     clear aD y
     have t:=zh<|a.Qa J.out zt
     have s:=aC.new a
     have U:z.cell? ⟨w.heap.size,0,none⟩=some (.int .i64 0):=a_ t.out rfl
     have V:z.cell? ⟨w.heap.size,1,none⟩=some (.int .u64 0):=a_ t.out rfl
     have Y:z.cell? ⟨w.heap.size,2,none⟩=some (.int .i64 0):=a_ t.out rfl
     have Z:z.cell? ⟨w.heap.size,3,none⟩=some (.int .i64 0):=a_ t.out rfl
     have d4:z.cell? ⟨w.heap.size,4,none⟩=some (.slice none 0 0):=a_ t.out rfl
     have d5:z.cell? ⟨w.heap.size,5,none⟩=some (.slice none 0 0):=a_ t.out rfl
     obtain⟨z0,z1,z2,z3,z4,z5⟩:=fz6 t.out
     go_wp2_with fail
     clear U V Y Z d4 d5 z0 z1 z2 z3 z4 z5
     have o:=mE t.out (.int .i64 0) (.int .u64 0) (.int .i64 0) (.int .i64 0) (.slice none 0 0) (.slice none 0 0)
     have G:=mL s (g:=w.heap.size) zr (.int .i64 0) (.int .u64 0) (.int .i64 0) (.int .i64 0) (.slice none 0 0) (.slice none 0 0)
     generalize World.setCell _ _ _=q at *
     have f0:q.cell? ⟨w.heap.size,0,none⟩=some (.int .i64 0):=a_ o rfl
     have f1:q.cell? ⟨w.heap.size,1,none⟩=some (.int .u64 0):=a_ o rfl
     have f2:q.cell? ⟨w.heap.size,2,none⟩=some (.int .i64 0):=a_ o rfl
     have f3:q.cell? ⟨w.heap.size,3,none⟩=some (.int .i64 0):=a_ o rfl
     have f4:q.cell? ⟨w.heap.size,4,none⟩=some (.slice none 0 0):=a_ o rfl
     have f5:q.cell? ⟨w.heap.size,5,none⟩=some (.slice none 0 0):=a_ o rfl
     refine Zb (.tuple #[.agg #[.int .i64 0,.int .u64 0,.int .i64 0,.int .i64 0,.slice none 0 0,.slice none 0 0],.slice none 0 0,.int .i64 40]) (by simp[results,results36,go_sem,f0,f1,f2,f3,f4,f5]) ?_
     rw[show ev bs=(fZ,[],40) from by rw[P.out];exact(if_neg (by rintro(h|h);exact h ab;rw[HZ.out] at h;cases h)).trans (if_pos bc.out)]
     exact⟨⟨none,0,none,0,none,0,rfl,zr,zr,Row.nil _ _ _ _,Row.nil _ _ _ _,eK.nil _ _ _⟩,G⟩
    have bj:(0:Int)<ba:=by omega
    have HZ:Hid ((bs.drop (82+j)).all (· == 0)=false):=zh (by
     rw[List.all_eq_false]
     apply Decidable.byContradiction
     intro hh
     exact ap (t2 fun x hx=>Decidable.byContradiction fun b5=>hh ⟨x,hx,by simpa using b5⟩))
    clear t1 t2 ap
    have U:F.cell? ⟨w.heap.size,0,none⟩=some (.int .i64 0):=a_ J.out rfl
    have V:F.cell? ⟨w.heap.size,1,none⟩=some (.int .u64 0):=a_ J.out rfl
    have Y:F.cell? ⟨w.heap.size,2,none⟩=some (.int .i64 0):=a_ J.out rfl
    have Z:F.cell? ⟨w.heap.size,3,none⟩=some (.int .i64 0):=a_ J.out rfl
    have d4:F.cell? ⟨w.heap.size,4,none⟩=some (.slice none 0 0):=a_ J.out rfl
    have d5:F.cell? ⟨w.heap.size,5,none⟩=some (.slice none 0 0):=a_ J.out rfl
    obtain⟨z0,z1,z2,z3,z4,z5⟩:=fz6 J.out
    go_wp2_with fail
    clear U V Y Z d4 d5 z0 z1 z2 z3 z4 z5
    have o:=mE J.out (.int .i64 0) (.int .u64 0) (.int .i64 0) (.int .i64 0) (.slice none 0 0) (.slice none 0 0)
    have G:=mL aC (g:=w.heap.size) zr (.int .i64 0) (.int .u64 0) (.int .i64 0) (.int .i64 0) (.slice none 0 0) (.slice none 0 0)
    generalize World.setCell _ _ _=q at *
    have f0:q.cell? ⟨w.heap.size,0,none⟩=some (.int .i64 0):=a_ o rfl
    have f1:q.cell? ⟨w.heap.size,1,none⟩=some (.int .u64 0):=a_ o rfl
    have f2:q.cell? ⟨w.heap.size,2,none⟩=some (.int .i64 0):=a_ o rfl
    have f3:q.cell? ⟨w.heap.size,3,none⟩=some (.int .i64 0):=a_ o rfl
    have f4:q.cell? ⟨w.heap.size,4,none⟩=some (.slice none 0 0):=a_ o rfl
    have f5:q.cell? ⟨w.heap.size,5,none⟩=some (.slice none 0 0):=a_ o rfl
    refine Zb (.tuple #[.agg #[.int .i64 0,.int .u64 0,.int .i64 0,.int .i64 0,.slice none 0 0,.slice none 0 0],.slice none 0 0,.int .i64 12]) (by simp[results,results36,go_sem,f0,f1,f2,f3,f4,f5]) ?_
    rw[show ev bs=(fZ,[],12) from by rw[P.out];exact if_pos (.inr HZ.out)]
    exact⟨⟨none,0,none,0,none,0,rfl,zr,zr,Row.nil _ _ _ _,Row.nil _ _ _ _,eK.nil _ _ _⟩,G⟩
  have aX:decide (rest.length=0)=false:=by simpa using ab
  refine eL zk ?_
  have a:New d d.drew:=(zN d).drew
  replace y0:=fun W (f:New d.drew W)=>y0 W (b_.new a f)
  replace y1:=fun W (f:New d.drew W)=>y1 W (b_.new a f)
  replace y2:=fun W (f:New d.drew W)=>y2 W (b_.new a f)
  replace y3:=fun W (f:New d.drew W)=>y3 W (b_.new a f)
  replace y4:=fun W (f:New d.drew W)=>y4 W (b_.new a f)
  replace y:=fun W (f:New d.drew W)=>y W (b_.new a f)
  refine cL 0 ?_
  refine cL 1 ?_
  refine cL 2 ?_
  refine cL 3 ?_
  refine cL 4 ?_
  refine cL 5 ?_
  refine d_ (i:=6) zk rfl rfl (fun K s=>?_)
  go_simp
  refine(aw.out _ a).mono ?_
  rintro e n⟨H,u⟩;unfold re at H;dsimp only at H;rw[aX] at H;obtain⟨ax,ay,rfl,aY⟩:=H
  go_wp2_with fail
  refine s _ _ u ?_
  clear s K
  try simp only[zy]
  replace a:=b_.new a u
  replace y0:=fun W (f:New n W)=>y0 W (b_.new u f)
  replace y1:=fun W (f:New n W)=>y1 W (b_.new u f)
  replace y2:=fun W (f:New n W)=>y2 W (b_.new u f)
  replace y3:=fun W (f:New n W)=>y3 W (b_.new u f)
  replace y4:=fun W (f:New n W)=>y4 W (b_.new u f)
  replace y:=fun W (f:New n W)=>y W (b_.new u f)
  refine cL 7 ?_
  refine cL 8 ?_
  refine cL 9 ?_
  refine cL 10 ?_
  refine cL 11 ?_
  refine wpAnyH_done zk ?_ _
  have t:=zh<|a.Qa C.out zt
  have s:=ad.new a
  clear y0 y1 y2 y3 y4 y
  have U:n.cell? ⟨w.heap.size,0,none⟩=some (.int .i64 0):=a_ t.out rfl
  have V:n.cell? ⟨w.heap.size,1,none⟩=some (.int .u64 0):=a_ t.out rfl
  have Y:n.cell? ⟨w.heap.size,2,none⟩=some (.int .i64 0):=a_ t.out rfl
  have Z:n.cell? ⟨w.heap.size,3,none⟩=some (.int .i64 0):=a_ t.out rfl
  have d4:n.cell? ⟨w.heap.size,4,none⟩=some (.slice none 0 0):=a_ t.out rfl
  have d5:n.cell? ⟨w.heap.size,5,none⟩=some (.slice none 0 0):=a_ t.out rfl
  obtain⟨z0,z1,z2,z3,z4,z5⟩:=fz6 t.out
  go_wp2_with fail
  clear U V Y Z d4 d5 z0 z1 z2 z3 z4 z5
  have o:=mE t.out (.int .i64 0) (.int .u64 0) (.int .i64 0) (.int .i64 0) (.slice none 0 0) (.slice none 0 0)
  have G:=mL s (g:=w.heap.size) zr (.int .i64 0) (.int .u64 0) (.int .i64 0) (.int .i64 0) (.slice none 0 0) (.slice none 0 0)
  generalize World.setCell _ _ _=q at *
  have f0:q.cell? ⟨w.heap.size,0,none⟩=some (.int .i64 0):=a_ o rfl
  have f1:q.cell? ⟨w.heap.size,1,none⟩=some (.int .u64 0):=a_ o rfl
  have f2:q.cell? ⟨w.heap.size,2,none⟩=some (.int .i64 0):=a_ o rfl
  have f3:q.cell? ⟨w.heap.size,3,none⟩=some (.int .i64 0):=a_ o rfl
  have f4:q.cell? ⟨w.heap.size,4,none⟩=some (.slice none 0 0):=a_ o rfl
  have f5:q.cell? ⟨w.heap.size,5,none⟩=some (.slice none 0 0):=a_ o rfl
  refine Zb (.tuple #[.agg #[.int .i64 0,.int .u64 0,.int .i64 0,.int .i64 0,.slice none 0 0,.slice none 0 0],.slice none 0 0,.int .i64 12]) (by simp[results,results36,go_sem,f0,f1,f2,f3,f4,f5]) ?_
  rw[show ev bs=(fZ,[],12) from by rw[P.out];exact if_pos (.inl ab)]
  exact⟨⟨none,0,none,0,none,0,rfl,zr,zr,Row.nil _ _ _ _,Row.nil _ _ _ _,eK.nil _ _ _⟩,G⟩
 have aU:(be4 cx==ck)=false:=by simpa using hs
 have HS:=zh hs
 clear hs
 refine eL zk ?_
 have a:New w8 w8.drew:=(zN w8).drew
 refine cL 0 ?_
 refine cL 1 ?_
 refine cL 4 ?_
 refine cL 5 ?_
 refine d_ (i:=2) zk rfl rfl (fun K s=>?_)
 go_simp
 refine(aH.out _ (T.new a)).mono ?_
 rintro e w9⟨rfl,k9⟩
 go_wp2_with fail
 refine s _ _ k9 ?_
 clear s K
 try simp only[zy]
 replace a:=b_.new a k9
 refine d_ (i:=3) zk rfl rfl (fun K s=>?_)
 go_simp
 refine(ue _ _).mono ?_
 rintro e bY⟨⟨aV,aW,rfl,aE⟩,ah⟩
 go_wp2_with fail
 refine s _ _ ah ?_
 clear s K
 try simp only[zy]
 replace a:=b_.new a ah
 refine d_ (i:=6) zk rfl rfl (fun K s=>?_)
 go_simp
 refine(aI.out _ _ aV aW _ (T.new a) aE).mono ?_
 rintro e d⟨rfl,ai⟩
 go_wp2_with fail
 refine s _ _ ai ?_
 clear s K
 try simp only[zy]
 replace a:=b_.new a ai
 refine cL 7 ?_
 refine wpAnyH_done zk ?_ _
 clear aU
 have t:=zh<|a.Qa aT.out zt
 have s:=T.new a
 have U:d.cell? ⟨w.heap.size,0,none⟩=some (.int .i64 0):=a_ t.out rfl
 have V:d.cell? ⟨w.heap.size,1,none⟩=some (.int .u64 0):=a_ t.out rfl
 have Y:d.cell? ⟨w.heap.size,2,none⟩=some (.int .i64 0):=a_ t.out rfl
 have Z:d.cell? ⟨w.heap.size,3,none⟩=some (.int .i64 0):=a_ t.out rfl
 have d4:d.cell? ⟨w.heap.size,4,none⟩=some (.slice none 0 0):=a_ t.out rfl
 have d5:d.cell? ⟨w.heap.size,5,none⟩=some (.slice none 0 0):=a_ t.out rfl
 obtain⟨z0,z1,z2,z3,z4,z5⟩:=fz6 t.out
 go_wp2_with fail
 clear U V Y Z d4 d5 z0 z1 z2 z3 z4 z5
 have o:=mE t.out (.int .i64 0) (.int .u64 0) (.int .i64 0) (.int .i64 0) (.slice none 0 0) (.slice none 0 0)
 have G:=mL s (g:=w.heap.size) zr (.int .i64 0) (.int .u64 0) (.int .i64 0) (.int .i64 0) (.slice none 0 0) (.slice none 0 0)
 generalize World.setCell _ _ _=q at *
 have f0:q.cell? ⟨w.heap.size,0,none⟩=some (.int .i64 0):=a_ o rfl
 have f1:q.cell? ⟨w.heap.size,1,none⟩=some (.int .u64 0):=a_ o rfl
 have f2:q.cell? ⟨w.heap.size,2,none⟩=some (.int .i64 0):=a_ o rfl
 have f3:q.cell? ⟨w.heap.size,3,none⟩=some (.int .i64 0):=a_ o rfl
 have f4:q.cell? ⟨w.heap.size,4,none⟩=some (.slice none 0 0):=a_ o rfl
 have f5:q.cell? ⟨w.heap.size,5,none⟩=some (.slice none 0 0):=a_ o rfl
 refine Zb (.tuple #[.agg #[.int .i64 0,.int .u64 0,.int .i64 0,.int .i64 0,.slice none 0 0,.slice none 0 0],.slice none 0 0,.int .i64 14]) (by simp[results,results36,go_sem,f0,f1,f2,f3,f4,f5]) ?_
 rw[show ev bs=(fZ,[],14) from by rw[P.out,if_pos HS.out]]
 exact⟨⟨none,0,none,0,none,0,rfl,zr,zr,Row.nil _ _ _ _,Row.nil _ _ _ _,eK.nil _ _ _⟩,G⟩
theorem tB(D:Nat->Prop)(A:Option Addr)(n c:Nat)(bs:List UInt8)(w:World)(hB:Bs w D A n bs)(hc:n<=c)(hc9:c<=9223372036854775807):
  Calls prog 36 #[.slice A n c] w (xg (ev bs) w):=by
 by_cases h:n=1024
 ·subst h;exact GT D A c bs w hB hc hc9
 exact AE D A n c bs w hB h
