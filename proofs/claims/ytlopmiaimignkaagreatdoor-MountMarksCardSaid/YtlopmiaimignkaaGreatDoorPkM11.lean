/-
  PROVED HERE: what record.Decode answers; condition: fewer than 2^40 bytes.
-/
import Derived.Test.YtlopmiaimignkaaGreatDoorPkM10
set_option maxRecDepth 100000
set_option maxHeartbeats 2000000
namespace Go.Proofs.YtlopmiaimignkaaGreatDoor
open Go.Proofs.Tryz
open Go.RowKit
variable{w:World}{g:Nat}
def nk:eA:=⟨0,0,[]⟩
def gX(bs:List UInt8):eA×Nat×List UInt8 :=
 let s1:=(RdS.mk bs 0).num 1
 let s2:=s1.2.num 8
 let s3:=s2.2.Qj
 (⟨s1.1,s2.1,s3.1⟩,bs.length-s3.2.left,(s3.2.raw 4).1)
def oF(bs:List UInt8):Bool:=decide (0<bs.length/\bs.getD 0 0≠1/\bs.getD 0 0≠2)
def gz(bs:List UInt8):eA×Nat×Int :=
 if oF bs=true then(nk,0,12)
 else if (gX bs).2.2.length<4 then(nk,0,10)
 else if (gX bs).2.2≠be4 (fp (bs.take (gX bs).2.1)) then(nk,0,14)
 else if dZ (gX bs).1=false then(nk,0,12)
 else((gX bs).1,(gX bs).2.1+4,0)
def B_(d:eA×Nat×Int)(w:World)(e:Ending)(w':World):Prop :=
 (∃A' c',e=.returned (.tuple #[.agg #[.int .i64 d.1.kind,.int .u64 d.1.seq,.slice A' d.1.body.length c'],.int .i64 (d.2.1:Nat),.int .i64 d.2.2])/\fy w' w.heap.size 5 A' d.1.body.length c' d.1.body)/\New w w'
theorem BK(D:Nat->Prop)(A:Option Addr)(n c:Nat)(bs:List UInt8)(w:World)(hB:Bs w D A n bs)(hn:n<=1099511627776)(h:oF bs=true):
  Calls prog 212 #[.slice A n c] w (B_ (nk,0,12) w):=by
 have hl:=hB.len
 unfold oF at h
 rw[decide_eq_true_eq] at h
 obtain⟨h0,h1,h2⟩:=h
 obtain⟨b,off,rfl,_,hlt,hc⟩:=hB.cellAt zo
 have a:=hc 0 h0
 rw[Nat.add_zero] at a
 have e:bs.getD 0 0=bs[0]:=by rw[List.getD_eq_getElem?_getD,List.getElem?_eq_getElem h0];rfl
 rw[e] at h1 h2
 generalize bs[0]=x at *
 have f:(bv x !=1)=true:=by rw[bne_iff_ne];exact fun h=>h1 (ur (h.trans Zd))
 have g:(bv x !=2)=true:=by rw[bne_iff_ne];exact fun h=>h2 (ur (h.trans Zd))
 have d:(0:Int)<n:=by omega
 clear hc hB hl e h0 h1 h2
 go_in
 go_wp2
 refine Zb (.tuple #[.agg #[.int .i64 0,.int .u64 0,.slice none 0 0],.int .i64 0,.int .i64 12]) (by simp[results,results212,go_sem]) ?_
 exact⟨⟨none,0,rfl,Own.nil _ _ _ _⟩,(zN w).alloc _⟩
theorem oY{a b c:Value}{t:TypeId}(h:w.heap[g]?=some (.cells #[a,b,c] t (0,0)))(x y z:Value):
  (((w.setCell ⟨g,0,none⟩ x).setCell ⟨g,1,none⟩ y).setCell ⟨g,2,none⟩ z).heap[g]?=some (.cells #[x,y,z] t (0,0)):=dM (dM (dM h 0 x) 1 y) 2 z
theorem pf{w0:World}(h:New w0 w)(hg:w0.heap.size<=g)(x y z:Value):New w0 (((w.setCell ⟨g,0,none⟩ x).setCell ⟨g,1,none⟩ y).setCell ⟨g,2,none⟩ z) :=
 ((h.setCell (p:=⟨g,0,none⟩) (fun _=>hg) x).setCell (p:=⟨g,1,none⟩) (fun _=>hg) y).setCell (p:=⟨g,2,none⟩) (fun _=>hg) z
theorem DJ{base:Nat}{e:TypeId}{size n c:Nat}{A:Option Addr}{xs:List Value}(h:Own w base e size A n c xs)(hg:g<base)(x y z:Value):
  Own (((w.setCell ⟨g,0,none⟩ x).setCell ⟨g,1,none⟩ y).setCell ⟨g,2,none⟩ z) base e size A n c xs:=by
 have a:blk A≠some g:=fun e=>by have:=(eW h g e).1;omega
 exact le (p:=⟨g,2,none⟩) (le (p:=⟨g,1,none⟩) (le (p:=⟨g,0,none⟩) h a _) a _) a _
theorem vD(s:RdS):s.Qj.2.bs.length<=s.bs.length/\s.Qj.1.length<=s.bs.length:=by
 unfold RdS.Qj
 have h1:=(s.raw_le 2).2.1
 have h2:=(s.num 2).2.raw_le (s.num 2).1
 have e:(s.num 2).2=(s.raw 2).2:=rfl
 rw[e] at h2 ⊢
 omega
theorem Fi(s:RdS)(k:Nat):(s.num k).2.bs.length<=s.bs.length:=(s.raw_le k).2.1
theorem Ha(s:RdS):s.left<=s.bs.length:=by unfold RdS.left;split <;> omega
theorem En(D:Nat->Prop)(A:Option Addr)(n c:Nat)(bs:List UInt8)(w:World)(hB:Bs w D A n bs)(hnc:n<=c)(hn:n<=1099511627776)(h:oF bs=false):
  Calls prog 212 #[.slice A n c] w (B_ (gz bs) w):=by
 have hl:=hB.len
 have hD:Hid (gz bs=if (gX bs).2.2.length<4 then(nk,0,10)
  else if (gX bs).2.2≠be4 (fp (bs.take (gX bs).2.1)) then(nk,0,14)
  else if dZ (gX bs).1=false then(nk,0,12)
  else((gX bs).1,(gX bs).2.1+4,0)):=zh (by unfold gz;rw[if_neg (by rw[h];decide)])
 have hP:Hid (gX bs=(⟨((RdS.mk bs 0).num 1).1,(((RdS.mk bs 0).num 1).2.num 8).1,(((RdS.mk bs 0).num 1).2.num 8).2.Qj.1⟩,bs.length-(((RdS.mk bs 0).num 1).2.num 8).2.Qj.2.left,((((RdS.mk bs 0).num 1).2.num 8).2.Qj.2.raw 4).1)):=zh rfl
 rw[hP.out] at hD
 have k1:=Fi (RdS.mk bs 0) 1
 have k2:=Fi ((RdS.mk bs 0).num 1).2 8
 have k3:=vD (((RdS.mk bs 0).num 1).2.num 8).2
 have k4:=Ha (((RdS.mk bs 0).num 1).2.num 8).2.Qj.2
 have r1:=lG (RdS.mk bs 0) 1
 have r2:=lG ((RdS.mk bs 0).num 1).2 8
 have aV:Hid (RdS.mk bs 0=RdS.mk bs 0):=zh rfl
 have G1:=zh<|fun p f h=>DD p (RdS.mk bs 0) f h
 have aF:(RdS.mk bs 0).bs.length=n:=hl
 rw[aF] at k1
 generalize ((RdS.mk bs 0).num 1).1=q at *
 generalize ((RdS.mk bs 0).num 1).2=s1 at *
 have G2:=zh<|fun p f h=>lC p s1 f h
 generalize (s1.num 8).1=se at *
 generalize (s1.num 8).2=s2 at *
 have G3:=zh<|fun p f h=>AH p s2 f h
 generalize s2.Qj.1=body at *
 generalize s2.Qj.2=s3 at *
 have G4:=zh<|fun p f h=>rr p s3 f h
 have G5:=zh<|fun p f h=>jr p s3 4 f h
 generalize s3.left=t at *
 generalize (s3.raw 4).1=d at *
 generalize (s3.raw 4).2=s4 at *
 rw[hl] at hD
 have bc:body.length<=1099511627776:=by omega
 have bd:t<=n:=by omega
 have be:se<18446744073709551616:=r2
 have bf:q<256:=r1
 clear hP aV k1 k2 k3 k4 r1 r2
 have ab:Bs w D A (n-t) (bs.take (n-t)):=hB.Qk zo
 have aG:=zh ab
 have ai:(n:Int)-t=((n-t:Nat):Int):=zo
 have aT:=zh ai
 have aH:Bs (w.alloc (.cells #[.int .i64 0,.int .u64 0,.slice none 0 0] 45)) D A n bs:=hB.alloc _
 have aI:=heap_alloc_new w (.cells #[.int .i64 0,.int .u64 0,.slice none 0 0] 45)
 have aJ:New w (w.alloc (.cells #[.int .i64 0,.int .u64 0,.slice none 0 0] 45)):=(zN w).alloc _
 have aW:=zh aH
 have aK:=zh aI
 clear ab ai aH aI
 have aD:(¬(0:Int)<n)\/∃b off,A=some ⟨b,off,none⟩/\b<w.heap.size/\0<(n:Int)/\(w.cell? ⟨b,off,none⟩=some (.int .u8 (bv 1))\/w.cell? ⟨b,off,none⟩=some (.int .u8 (bv 2))):=by
  by_cases hz:n=0
  ·exact .inl zo
  obtain⟨b,off,rfl,_,hlt,aE⟩:=hB.cellAt zo
  have P:=aE 0 zo
  rw[Nat.add_zero] at P
  have hh:bs.getD 0 0=bs[0]'zo:=by rw[List.getD_eq_getElem?_getD,List.getElem?_eq_getElem zo];rfl
  refine .inr ⟨b,off,rfl,hlt,zo,?_⟩
  unfold oF at h
  rw[decide_eq_false_iff_not,hh] at h
  by_cases e1:bs[0]'zo=1
  ·rw[e1] at P;exact .inl P
  by_cases e2:bs[0]'zo=2
  ·rw[e2] at P;exact .inr P
  exact absurd ⟨zo,e1,e2⟩ h
 have aL:Hid (∀W,New w W->Calls prog 256 #[.slice A (n-t) c] W fun e f=>(∃A' c',e=.returned (.slice A' 4 c')/\∀W',New f W'->(convert 22 9 (.slice A' 4 c')).run prog W'=.ok (.string (dR (be4 (fp (bs.take (n-t)))))) W')/\New W f) :=
  zh fun W h=>(tv D A (n-t) c _ W (aG.new h) zo).mono fun e f ⟨⟨A',c',he,ho⟩,hk⟩=>⟨⟨A',c',he,fun W' aX=>mG (Row.Qc (Own.Qh ho aX))⟩,hk⟩
 generalize be4 (fp (bs.take (n-t)))=sm at *
 clear hB hl h aF aG
 rcases aD with aY|⟨b,off,rfl,a8,aY,P|P⟩
 all_goals
  have aZ:(bv 1 !=1)=false:=by decide
  have t21:(bv 2 !=1)=true:=by decide
  have t22:(bv 2 !=2)=false:=by decide
  go_in
  go_wp2_with fail
  clear aZ t21 t22
  refine(kh D _ n c bs _ aW.out hn).mono ?_
  rintro e w1⟨⟨p,rfl,hp,aj⟩,ak⟩
  have aM:w.heap.size<p:=by rw[World.size_alloc] at hp;omega
  have al:=zh<|ak.Qa aK.out zt
  have am:=aJ.new ak
  have an:=aj.lt
  clear ak hp
  go_wp2_with fail
  refine(G1.out p w1 aj).mono ?_
  rintro e w2⟨rfl,aN,ac⟩
  clear aj
  go_wp2_with fail
  refine(G2.out p w2 aN).mono ?_
  rintro e w3⟨rfl,aO,ad⟩
  clear aN
  go_wp2_with fail
  refine(G3.out p w3 aO).mono ?_
  rintro e j⟨⟨u,x,rfl,B⟩,ae,aP⟩
  clear aO
  have Q:=(ac.trans ad).trans aP
  have aQ:=zh<|Q.Qa al.out (Nat.ne_of_lt aM)
  have ao:New w j:=(b_.Qd (D:=fun b=>b<w.heap.size) (b_.Qe am) Q (fun i hi _=>by omega)).Qi (fun i hi=>hi)
  have ap:w.heap.size<w3.heap.size:=Nat.lt_of_lt_of_le (Array.getElem?_eq_some_iff.1 al.out).1 (ac.trans ad).size
  have G:=eQ (base:=w.heap.size+1) B ap
  have aq:blk u≠some p:=fun e=>by have h1:=(eW B p e).1;have h2:=ae.lt;have h3:p<w3.heap.size:=Nat.lt_of_lt_of_le an (ac.trans ad).size;omega
  clear ac ad aP Q B am
  go_wp2_with fail
  have H:New j (j.alloc (.cells #[.int .i64 (q:Int),.int .u64 (se:Int),.slice u body.length x] 45)):=(zN j).alloc _
  have aR:=zh<|heap_alloc_new j (.cells #[.int .i64 (q:Int),.int .u64 (se:Int),.slice u body.length x] 45)
  have a1:j.heap.size<(j.alloc (.cells #[.int .i64 (q:Int),.int .u64 (se:Int),.slice u body.length x] 45)).heap.size:=by simp
  generalize j.alloc _=w5 at *
  have ar:=ae.keep H
  refine(G4.out p w5 ar).mono ?_
  rintro e bg⟨rfl,rfl⟩
  go_wp2_with fail
  rw[aT.out]
  refine(G5.out p w5 ar).mono ?_
  rintro e r⟨⟨A6,c6,rfl,af⟩,a2,I⟩
  have au:=zh<|I.Qa (H.Qa aQ.out zt) (Nat.ne_of_lt aM)
  have aS:=zh<|I.Qa aR.out (by have:=ae.lt;omega)
  have J:=eP (Own.Qh G H) I (fun k hk e=>aq (by rw[hk,e]))
  have s:New w r:=(b_.Qd (D:=fun b=>b<w.heap.size) (b_.Qe (ao.new H)) I (fun i hi _=>by omega)).Qi (fun i hi=>hi)
  have bh:w.heap.size<=w.heap.size:=Nat.le_refl _
  clear H ae ar a2 I aq G ap aQ al aR an a1 ao aJ aK G1 G2 G3 G4 G5
  by_cases av:d.length<4
  ·have aU:(d.length:Int)<4:=by omega
   have a:=au
   have R:r.cell? ⟨w.heap.size,0,none⟩=some (.int .i64 0):=a_ a.out rfl
   have S:r.cell? ⟨w.heap.size,1,none⟩=some (.int .u64 0):=a_ a.out rfl
   have T:r.cell? ⟨w.heap.size,2,none⟩=some (.slice none 0 0):=a_ a.out rfl
   obtain⟨z0,U,V⟩:=fz3 a.out
   go_wp2_with fail
   clear R S T z0 U V
   have l:=oY a.out (.int .i64 0) (.int .u64 0) (.slice none 0 0)
   have y:=pf s (g:=w.heap.size) zr (.int .i64 0) (.int .u64 0) (.slice none 0 0)
   generalize World.setCell _ _ _=m at *
   have X:m.cell? ⟨w.heap.size,0,none⟩=some (.int .i64 0):=a_ l rfl
   have Y:m.cell? ⟨w.heap.size,1,none⟩=some (.int .u64 0):=a_ l rfl
   have Z:m.cell? ⟨w.heap.size,2,none⟩=some (.slice none 0 0):=a_ l rfl
   refine Zb (.tuple #[.agg #[.int .i64 0,.int .u64 0,.slice none 0 0],.int .i64 0,.int .i64 10]) (by simp[results,results212,go_sem,X,Y,Z]) ?_
   rw[hD.out,if_pos av]
   exact⟨⟨none,0,rfl,Own.nil _ _ _ _⟩,y⟩
  have aU:¬(d.length:Int)<4:=by omega
  have aa:=zh av
  clear av
  go_wp2_with fail
  have L:∀W,New r W->(convert 22 9 (.slice A6 d.length c6)).run prog W=.ok (.string (dR d)) W:=fun W h=>mG (Row.Qc (Own.Qh af h))
  have ba:(0:Int)<=((n-t:Nat):Int):=zo
  have bb:((n-t:Nat):Int)<=c:=by omega
  have bi:j.heap.size<r.heap.size:=(Array.getElem?_eq_some_iff.1 aS.out).1
  by_cases z:d=sm
  ·have aw:(d==sm)=true:=by simpa using z
   have ag:=zh z
   clear z
   refine eL zk ?_
   have o:New r r.drew:=(zN r).drew
   replace L:=fun W (hW:New r.drew W)=>L W (b_.new o hW)
   refine cL 0 ?_
   refine cL 1 ?_
   refine cL 2 ?_
   refine cL 3 ?_
   refine cL 4 ?_
   refine d_ (i:=5) zk rfl rfl (fun K hK=>?_)
   go_simp
   refine(aL.out _ (s.new o)).mono ?_
   rintro e C⟨⟨A7,c7,rfl,v7⟩,M⟩
   go_wp2_with fail
   refine hK _ _ M ?_
   clear hK K
   try simp only[zy]
   replace o:=b_.new o M
   replace L:=fun W (hW:New C W)=>L W (b_.new M hW)
   refine cL 6 ?_
   refine cL 7 ?_
   refine cL 8 ?_
   refine wpAnyH_done zk ?_ _
   have a6:=zh<|o.Qa au.out zt
   have ah:=zh<|o.Qa aS.out zt
   have N:=Own.Qh J o
   have E:=s.new o
   have e0:C.cell? ⟨j.heap.size,0,none⟩=some (.int .i64 (q:Int)):=a_ ah.out rfl
   have e1:C.cell? ⟨j.heap.size,1,none⟩=some (.int .u64 (se:Int)):=a_ ah.out rfl
   have e2:C.cell? ⟨j.heap.size,2,none⟩=some (.slice u body.length x):=a_ ah.out rfl
   have a7:=zh<|fun f=>mh q se u body.length x ⟨q,se,body⟩ f rfl rfl rfl zo
   clear aw M J s af
   go_wp2_with fail
   clear e0 e1 e2
   refine(a7.out _).mono ?_
   rintro e F⟨rfl,O⟩
   have a:=zh<|O.Qa a6.out zt
   have ax:=zh<|O.Qa ah.out zt
   have ay:=E.new O
   have az:=Own.Qh N O
   clear O N E
   by_cases hr:dZ ⟨q,se,body⟩=true
   ·have aA:=zh hr
    rw[hr]
    clear hr
    have e0:F.cell? ⟨j.heap.size,0,none⟩=some (.int .i64 (q:Int)):=a_ ax.out rfl
    have e1:F.cell? ⟨j.heap.size,1,none⟩=some (.int .u64 (se:Int)):=a_ ax.out rfl
    have e2:F.cell? ⟨j.heap.size,2,none⟩=some (.slice u body.length x):=a_ ax.out rfl
    have R:F.cell? ⟨w.heap.size,0,none⟩=some (.int .i64 0):=a_ a.out rfl
    have S:F.cell? ⟨w.heap.size,1,none⟩=some (.int .u64 0):=a_ a.out rfl
    have T:F.cell? ⟨w.heap.size,2,none⟩=some (.slice none 0 0):=a_ a.out rfl
    obtain⟨z0,U,V⟩:=fz3 a.out
    go_wp2_with fail
    clear R S T z0 U V
    have l:=oY a.out (.int .i64 (q:Int)) (.int .u64 (se:Int)) (.slice u body.length x)
    have y:=pf ay (g:=w.heap.size) zr (.int .i64 (q:Int)) (.int .u64 (se:Int)) (.slice u body.length x)
    generalize aB:World.setCell _ _ _=m at *
    have X:m.cell? ⟨w.heap.size,0,none⟩=some (.int .i64 (q:Int)):=a_ l rfl
    have Y:m.cell? ⟨w.heap.size,1,none⟩=some (.int .u64 (se:Int)):=a_ l rfl
    have Z:m.cell? ⟨w.heap.size,2,none⟩=some (.slice u body.length x):=a_ l rfl
    refine Zb (.tuple #[.agg #[.int .i64 (q:Int),.int .u64 (se:Int),.slice u body.length x],.int .i64 ((n-t:Nat)+4:Int),.int .i64 0]) (by simp[results,results212,go_sem,X,Y,Z]) ?_
    rw[hD.out,if_neg aa.out,if_neg (fun h=>h ag.out),if_neg (by rw[aA.out];decide)]
    exact⟨⟨u,x,by simp,by rw[<- aB];exact eQ (DJ az zo _ _ _) zo⟩,y⟩
   have aC:dZ ⟨q,se,body⟩=false:=by simpa using hr
   have aA:=zh aC
   rw[aC]
   clear hr aC
   have R:F.cell? ⟨w.heap.size,0,none⟩=some (.int .i64 0):=a_ a.out rfl
   have S:F.cell? ⟨w.heap.size,1,none⟩=some (.int .u64 0):=a_ a.out rfl
   have T:F.cell? ⟨w.heap.size,2,none⟩=some (.slice none 0 0):=a_ a.out rfl
   obtain⟨z0,U,V⟩:=fz3 a.out
   go_wp2_with fail
   clear R S T z0 U V
   have l:=oY a.out (.int .i64 0) (.int .u64 0) (.slice none 0 0)
   have y:=pf ay (g:=w.heap.size) zr (.int .i64 0) (.int .u64 0) (.slice none 0 0)
   generalize aB:World.setCell _ _ _=m at *
   have X:m.cell? ⟨w.heap.size,0,none⟩=some (.int .i64 0):=a_ l rfl
   have Y:m.cell? ⟨w.heap.size,1,none⟩=some (.int .u64 0):=a_ l rfl
   have Z:m.cell? ⟨w.heap.size,2,none⟩=some (.slice none 0 0):=a_ l rfl
   refine Zb (.tuple #[.agg #[.int .i64 0,.int .u64 0,.slice none 0 0],.int .i64 0,.int .i64 12]) (by simp[results,results212,go_sem,X,Y,Z]) ?_
   rw[hD.out,if_neg aa.out,if_neg (fun h=>h ag.out),if_pos aA.out]
   exact⟨⟨none,0,rfl,Own.nil _ _ _ _⟩,y⟩
  have aw:(d==sm)=false:=by simpa using z
  have ag:=zh z
  clear z
  refine eL zk ?_
  have o:New r r.drew:=(zN r).drew
  replace L:=fun W (hW:New r.drew W)=>L W (b_.new o hW)
  refine cL 0 ?_
  refine cL 1 ?_
  refine cL 2 ?_
  refine cL 3 ?_
  refine cL 4 ?_
  refine d_ (i:=5) zk rfl rfl (fun K hK=>?_)
  go_simp
  refine(aL.out _ (s.new o)).mono ?_
  rintro e C⟨⟨A7,c7,rfl,v7⟩,M⟩
  go_wp2_with fail
  refine hK _ _ M ?_
  clear hK K
  try simp only[zy]
  replace o:=b_.new o M
  replace L:=fun W (hW:New C W)=>L W (b_.new M hW)
  refine cL 6 ?_
  refine cL 7 ?_
  refine cL 8 ?_
  refine wpAnyH_done zk ?_ _
  have a:=zh<|o.Qa au.out zt
  have E:=s.new o
  clear aw
  have R:C.cell? ⟨w.heap.size,0,none⟩=some (.int .i64 0):=a_ a.out rfl
  have S:C.cell? ⟨w.heap.size,1,none⟩=some (.int .u64 0):=a_ a.out rfl
  have T:C.cell? ⟨w.heap.size,2,none⟩=some (.slice none 0 0):=a_ a.out rfl
  obtain⟨z0,U,V⟩:=fz3 a.out
  go_wp2_with fail
  clear R S T z0 U V
  have l:=oY a.out (.int .i64 0) (.int .u64 0) (.slice none 0 0)
  have y:=pf E (g:=w.heap.size) zr (.int .i64 0) (.int .u64 0) (.slice none 0 0)
  generalize aB:World.setCell _ _ _=m at *
  have X:m.cell? ⟨w.heap.size,0,none⟩=some (.int .i64 0):=a_ l rfl
  have Y:m.cell? ⟨w.heap.size,1,none⟩=some (.int .u64 0):=a_ l rfl
  have Z:m.cell? ⟨w.heap.size,2,none⟩=some (.slice none 0 0):=a_ l rfl
  refine Zb (.tuple #[.agg #[.int .i64 0,.int .u64 0,.slice none 0 0],.int .i64 0,.int .i64 14]) (by simp[results,results212,go_sem,X,Y,Z]) ?_
  rw[hD.out,if_neg aa.out,if_pos ag.out]
  exact⟨⟨none,0,rfl,Own.nil _ _ _ _⟩,y⟩
theorem BL(D:Nat->Prop)(A:Option Addr)(n c:Nat)(bs:List UInt8)(w:World)(hB:Bs w D A n bs)(hnc:n<=c)(hn:n<=1099511627776):
  Calls prog 212 #[.slice A n c] w (B_ (gz bs) w):=by
 by_cases h:oF bs=true
 ·have e:gz bs=(nk,0,12):=by unfold gz;rw[if_pos h]
  rw[e]
  exact BK D A n c bs w hB hn h
 exact En D A n c bs w hB hnc hn (by simpa using h)
