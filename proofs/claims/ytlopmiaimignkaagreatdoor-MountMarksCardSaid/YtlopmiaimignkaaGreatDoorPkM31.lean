/-
  PROVED HERE: what mount.Format does to a disk; conditions: an id of 16 bytes, no more than 1000 sectors.
-/
import Derived.Test.YtlopmiaimignkaaGreatDoorPkM27
set_option maxRecDepth 100000
set_option maxHeartbeats 4000000
namespace Go.Proofs.YtlopmiaimignkaaGreatDoor
open Go.Proofs.Tryz
open Go.RowKit
def jZ(id:List UInt8)(gen:Int):kV:=⟨gen,0,0,jA id,fQ dV⟩
def kx(M:gM)(k:Nat)(id:List UInt8):Nat->gM
 | 0=>gO (gO M 0 1 (fc k id)) 1 (k-1) (List.replicate ((k-1)*128) 0)
 | j+1=>gO (kx M k id j) (1+(((j+1:Nat):Int)%2).toNat*(k/4)) (k/4) (eG ((k/4:Nat):Int) (jZ id ((j+1:Nat):Int)))
theorem lY:(fQ dV).length=51:=by decide
theorem nX{id:List UInt8}{p g:Nat}{gen:Nat}(h1:1<=gen)(h2:gen<=2)(hp:16<=p):ol p g (jZ id gen)/\(jZ id gen).data.length<=128*p-94/\(jZ id gen).data.length=51:=by
 have e:(jZ id gen).data.length=51:=lY
 refine⟨⟨⟨?_,?_⟩,⟨by show(0:Int)<=0;omega,by show(0:Int)<=1099511627776;omega⟩,⟨by show(0:Int)<=0;omega,by show(0:Int)<=g;omega⟩,gy _⟩,?_,e⟩
 ·show(1:Int)<=gen;omega
 ·show(gen:Int)<=1099511627776;omega
 rw[e];omega
theorem yy{w:World}{D:Nat->Prop}{q:g9}{S:List UInt8}{M:gM}{n:Nat}{wr0:Int}{k:Nat}(h:fj w D q S M n wr0)(hk:S.length=k*128)(hk0:64<=k)(hk1:k<=1000)(hD:∀b,w.heap.size<=b->D b)(hn:n<=100000){D1:Nat->Prop}{A:Option Addr}{c:Nat}{id:List UInt8}(hM:∀(i:Nat) b,kx M k id 2 i=some b->i*128+128<=S.length)(hid:Bs w D1 A 16 id)(hD1:∀b,D1 b->b≠q.bd/\b≠q.bm)(hc:16<=c):
  Calls prog 18 #[.pointer (some ⟨q.bd,0,none⟩),.slice A 16 c] w fun e w'=>e=.returned (.int .i64 0)/\b_ (fun j=>j≠q.bd/\j≠q.bs/\j≠q.bm) w w' /\
   ∃wr',fj w' D q (lN S (kx M k id 2)) gM.no 0 wr':=by
 obtain⟨p,hp⟩:=zx (k/4)
 obtain⟨g,hg⟩:=zx ((k-1-2*p)/8)
 obtain⟨T,F⟩:=zx (k-1)
 have I:j9 (k:Int)=((k:Int),(p:Int),(g:Int),0):=by
  rw[lF zo zo]
  have e1:(k:Int)/4=(p:Int):=zo
  have e2:((k:Int)-1-2*(p:Int))/8=(g:Int):=zo
  rw[e1,e2]
 have z:fg (k:Int) p g=true:=jy.2 zo
 have aB:16<=p/\p<=250:=by omega
 have J:=fun W=>zh (oL (k:Int) zo W)
 rw[I] at J
 dsimp only at J
 have aj:kx M k id 0=gO (gO M 0 1 (fc k id)) 1 T (List.replicate (T*128) 0):=by rw[F];rfl
 have ak:∀j,kx M k id (j+1)=gO (kx M k id j) (1+(((j+1:Nat):Int)%2).toNat*p) p (eG (p:Int) (jZ id ((j+1:Nat):Int))):=fun j=>by rw[hp];rfl
 have U:=J2 aj ak
 have l:=zh h.lt
 have al:=zh hid
 have a:=J7 hk hD hM hD1 hn z aB
 have G:=fun W (w0:World) (S0:List UInt8) (M0:gM) (d:Nat) (aC:Int) (hd:fj W D q S0 M0 d aC) (hs:S0.length=k*128)=>zh (mF hd hs)
 have HD:=zh h
 have r:=J3 F hk0 hk1
 obtain⟨FD,V⟩:=zx (kx M k id)
 rw[<- V] at U a ⊢
 clear h hk hid hD hM hD1 hn z I aj ak hp hg F V
 go_in
 go_wp2_with fail
 refine(G _ w _ _ _ _ HD.out a.1).mono ?_
 rintro e w1⟨rfl,rfl⟩
 go_wp2_with fail
 refine(vb (n:=(k:Int)) (c:=c) zo zo al.out).mono ?_
 rintro e w1⟨⟨As,cs,rfl,os⟩,am⟩
 have H:=zh am
 have L:=zh os
 clear am os
 go_wp2_with fail
 refine(G _ w _ _ _ _ (HD.new H.out) a.1).mono ?_
 rintro e X⟨rfl,rfl⟩
 go_wp2_with fail
 refine(J _).mono ?_
 rintro e X⟨rfl,k2⟩
 go_upto_region 7 with fail
 have kA:=(zN X).alloc (.cells #[.int .i64 k,.int .i64 p,.int .i64 g] 35)
 have xA:=heap_alloc_new X (.cells #[.int .i64 k,.int .i64 p,.int .i64 g] 35)
 generalize X.alloc (.cells #[.int .i64 k,.int .i64 p,.int .i64 g] 35)=w3 at *
 obtain⟨t,hgp⟩:=zx (X.heap.size)
 rw[<- hgp] at xA ⊢
 have Y:=zh xA
 have Z:=zh<|(H.new k2).new kA
 have aa:=zh<|(Row.Qc L.out).new (k2.new kA)
 have ab:=J2 (ew L.out) (eh L.out)
 have x:=zh<|show w.heap.size<=t by have:=H.size;have:=k2.size;omega
 clear k2 kA xA hgp J L
 have ac:=zh<|tS (first:=0) (m:=1) (HD.new Z.out) a.1 (fun b hb=>a.2.1 b (Nat.le_trans Z.size hb)) zo (by have:=a.2.2.2.2.1;omega) Zd Zd As cs _ aa.out (by have:=ab.out;omega) (by have:=ab.out;omega) (fun j hj=>⟨fun e=>by have:=l.out q.bd (.inl rfl);omega,fun e=>by have:=l.out q.bm (.inr (.inr rfl));omega⟩)
 rw[Nat.one_mul] at ac
 go_wp2_with fail
 refine ac.mono ?_
 rintro e w4⟨rfl,k4,aP,an⟩
 have B:=zh<|(b_.Qe (D:=fun j=>j≠q.bd/\j≠q.bm) Z.out).trans k4
 have ad:=zh an
 have N:=zh<|(k4.block t (Array.getElem?_eq_some_iff.1 Y.out).1 ⟨fun e=>by have:=l.out q.bd (.inl rfl);have:=x.out;omega,fun e=>by have:=l.out q.bm (.inr (.inr rfl));have:=x.out;omega⟩).trans Y.out
 clear k4 an ac
 go_wp2_with fail
 refine(G _ w _ _ _ _ ad.out a.1).mono ?_
 rintro e w5⟨rfl,rfl⟩
 obtain⟨s,ao⟩:=zx (T*128)
 have C:=zh ao
 have q5:IntKind.i64.wrap ((k:Int)-1)=(k:Int)-1:=IntWalk.i64_in _ zo
 have q6:IntKind.i64.wrap (128*((k:Int)-1))=(s:Int):=by rw[IntWalk.i64_in _ zo];have:=r.out;omega
 obtain⟨Zc,O⟩:=zx (((List.replicate s (0:UInt8)).map eE).toArray)
 have aD:∀W,(Instr.makeSlice 22 (.int .i64 (s:Int)) (.int .i64 (s:Int))).run prog W=.ok (.slice (some ⟨W.heap.size,0,none⟩) s s) (W.alloc (.cells Zc 5)):=fun W=>by rw[O];exact l8 s (by have:=r.out;omega) W
 have ae:Hid (Zc.toList=(List.replicate s (0:UInt8)).map eE/\Zc.size=s):=zh ⟨by rw[O],by rw[O];simp⟩
 have kz:=(zN w4).alloc (.cells Zc 5)
 have hz:=Row.made w4 5 Zc s 1 (by rw[ae.2,Nat.mul_one])
 rw[ae.1] at hz
 have y:=zh kz
 have HZ:=zh hz
 have q7:IntKind.i64.wrap (s:Int)=(s:Int):=IntWalk.i64_in _ (by have:=r.out;omega)
 clear O ao kz hz
 go_wp2_with fail
 have af:=zh<|tS (first:=1) (m:=T) (ad.new y.out) a.1 (fun b hb=>a.2.1 b (by have:=B.size;have:=y.size;omega)) (by have:=r.out;omega) (by have:=a.2.2.2.2.1;have:=r.out;omega) (by have:=r.out;omega) (by have:=r.out;omega) (some ⟨w4.heap.size,0,none⟩) s _ (by rw[<- C.out];exact HZ.out) (by rw[<- C.out];exact Nat.le_refl _) (by have:=C.out;have:=r.out;omega) (fun j hj=>⟨fun e=>by have:=l.out q.bd (.inl rfl);have:=B.size;omega,fun e=>by have:=l.out q.bm (.inr (.inr rfl));have:=B.size;omega⟩)
 rw[<- C.out] at af
 refine af.mono ?_
 rintro e w5⟨rfl,k5,aE,ag⟩
 rw[C.out,<- U.1] at ag
 have aF:=zh<|(B.new y.out).trans k5
 have aG:=zh ag
 have aH:=zh<|(k5.block t (Nat.lt_of_lt_of_le (Array.getElem?_eq_some_iff.1 N.out).1 y.size) ⟨fun e=>by have:=l.out q.bd (.inl rfl);have:=x.out;omega,fun e=>by have:=l.out q.bm (.inr (.inr rfl));have:=x.out;omega⟩).trans ((y.block t (Array.getElem?_eq_some_iff.1 N.out).1 zt).trans N.out)
 clear k5 ag af q5 q6 q7 aD ae y HZ ad N B Y aa ab
 go_wp2_with fail
 go_loopw [38] (fun ah wx=>∃j:Nat,ah=.int .u64 (j:Int)/\j<=2/\b_ (fun b=>b≠q.bd/\b≠q.bm) w wx/\wx.heap[t]?=some (.cells #[.int .i64 k,.int .i64 p,.int .i64 g] 35 (0,0))/\∃wr,fj wx D q S (FD j) (n+1+T+j*p) wr) (fun ah _=>2-(intOf ah).toNat)
 case atStart=>exact⟨0,rfl,Zd,aF.out,aH.out,aE,by rw[Nat.zero_mul,Nat.add_zero];exact aG.out⟩
 obtain⟨j,rfl,aQ,ap,aq,aR,ar⟩:=hrel
 have f:=J3 ap aq ar
 clear ap aq ar
 by_cases hlt:j<2
 ·skip
  have aS:(j:Int)<2:=by omega
  have q1:IntKind.u64.wrap ((j:Int)+1)=((j:Int)+1):=by rw[IntKind.wrap_u64];omega
  have aI:t<wr.heap.size:=(Array.getElem?_eq_some_iff.1 f.2.1).1
  have P:t≠q.bd/\t≠q.bm:=⟨fun e=>by have:=l.out q.bd (.inl rfl);have:=x.out;omega,fun e=>by have:=l.out q.bm (.inr (.inr rfl));have:=x.out;omega⟩
  have r0:∀W,b_ (fun b=>b≠q.bd/\b≠q.bm) wr.drew W->W.cell? ⟨t,0,none⟩=some (.int .i64 k):=fun W hW=>hW.Qb (a_ (w:=wr.drew) f.2.1 (k:=0) rfl) P
  have r1:∀W,b_ (fun b=>b≠q.bd/\b≠q.bm) wr.drew W->W.cell? ⟨t,1,none⟩=some (.int .i64 p):=fun W hW=>hW.Qb (a_ (w:=wr.drew) f.2.1 (k:=1) rfl) P
  have r2:∀W,b_ (fun b=>b≠q.bd/\b≠q.bm) wr.drew W->W.cell? ⟨t,2,none⟩=some (.int .i64 g):=fun W hW=>hW.Qb (a_ (w:=wr.drew) f.2.1 (k:=2) rfl) P
  have aJ:=zh<|f.2.2.new (b_.drew (zN wr))
  have ay:Hid (Bs wr.drew D1 A 16 id):=zh (Row.keep (E:=fun b=>b≠q.bd/\b≠q.bm) al.out (f.1.drew) fun b _ hb=>a.2.2.2.1 b hb)
  go_upto_region 12 with fail
  refine eu (b_ (fun b=>b≠q.bd/\b≠q.bm) wr.drew) zk ?_
  have d:b_ (fun b=>b≠q.bd/\b≠q.bm) wr.drew wr.drew:=b_.refl _ _
  refine c_ 0 d ?_
  refine c_ 1 d ?_
  refine c_ 2 d ?_
  refine c_ 3 d ?_
  refine c_ 4 d ?_
  refine dQ (i:=5) zk rfl rfl (fun K u=>?_)
  go_simp
  refine(sj D1 A 16 c id _ ay.out hc Zd).mono ?_
  rintro e w6⟨⟨Ag,cg,rfl,og⟩,k6⟩
  go_wp2_with fail
  have o:=b_.new d k6
  refine u _ _ o ?_
  clear u K
  try simp only[zy]
  replace d:=o
  clear o
  have aK:=zh og
  have aL:=zh<|aJ.new k6
  clear og
  refine dQ (i:=6) zk rfl rfl (fun K u=>?_)
  go_simp
  refine(C3 (fun _=>0) ⟨1,2,3⟩ ⟨⟨Zd,Zd,Zd⟩,Zd,Zd,Zd⟩ _).mono ?_
  rintro e w7⟨aT,aU,aV,rfl,k7,z7,x7,au⟩
  go_wp2_with fail
  have o:=b_.new d k7
  refine u _ _ o ?_
  clear u K
  try simp only[zy]
  replace d:=o
  clear o
  have aM:=zh<|aL.new k7
  have az:=zh<|pU au lO
  clear z7 x7 au
  refine dQ (i:=7) zk rfl rfl (fun K u=>?_)
  go_simp
  refine az.mono ?_
  rintro e w8⟨⟨Av,cv,rfl,ov⟩,k8⟩
  go_wp2_with fail
  have o:=b_.new d k8
  refine u _ _ o ?_
  clear u K
  try simp only[zy]
  replace d:=o
  clear o
  have aN:=zh<|aM.new k8
  have av:=zh ov
  have aA:=zh<|((Row.Qc aK.out).new k7).new k8
  clear ov
  refine c_ 8 d ?_
  have aw:=nX (id:=id) (p:=p) (g:=g) (gen:=j+1) zo zo a.2.2.2.2.2.2.1
  have Q:=zh<|DP (c1:=cg) (c2:=cv) aN.out a.1 (fun b hb=>a.2.1 b (by have:=f.1.size;have:wr.drew.heap.size=wr.heap.size:=rfl;have:=k6.size;have:=k7.size;have:=k8.size;omega)) (by have:=a.2.2.2.2.1;have:=a.2.2.2.2.2.2;have:=r.out;have:j*p<=2*p:=Nat.mul_le_mul_right _ zo;omega) (by have:=a.2.2.2.2.2.2;omega) a.2.2.2.2.2.1 aw.1 aA.out (Row.Qc av.out) (ew av.out) (by have:=aw.2.1;have:=a.2.2.2.2.2.2.1;omega)
  dsimp only[jZ] at Q
  rw[show(((j+1:Nat)):Int)=(j:Int)+1 from by omega] at Q
  refine dQ (i:=9) zk rfl rfl (fun K u=>?_)
  (go_simp;refine Q.mono ?_)
  (rintro e w9 ⟨rfl,R,aO,v⟩;go_wp2_with fail)
  have o:=d.trans R
  refine u _ _ o ?_
  clear u K
  try simp only[zy]
  replace d:=o
  clear o
  refine wpAnyH_done zk ?_ _
  have HF:=J2 d v
  clear d v r0 r1 r2 Q
  go_wp2
  go_roundw
  case rel =>
   obtain⟨f1,f2⟩:=HF.out
   have ai:((j:Int)+1)=((j+1:Nat):Int):=zo
   refine⟨j+1,by go_num,zo,f.1.drew.trans f1,(f1.block t aI P).trans f.2.1,aO,?_⟩
   rw[U.2,Nat.succ_mul,<- Nat.add_assoc,<- ai]
   exact f2
  simp[intOf];omega
 obtain rfl:j=2:=by omega
 have ax:=zh<|vN f.2.2 a.2.2.1
 go_wp2_with fail
 refine ax.mono ?_
 rintro e w9⟨rfl,R,v⟩
 have HF:=J2 R v
 clear R v ax
 go_wp2
 go_ret
 obtain⟨R,v⟩:=HF.out
 exact⟨rfl,(f.1.imp (E:=fun j=>j≠q.bd/\j≠q.bs/\j≠q.bm) fun _ _ hj=>⟨hj.1,hj.2.2⟩).Qd R fun _ _ hj=>⟨hj.2.1,hj.2.2⟩,_,v⟩
