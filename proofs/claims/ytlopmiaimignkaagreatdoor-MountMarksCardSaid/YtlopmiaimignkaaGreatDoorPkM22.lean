/-
  PROVED HERE: what log.Lay does to a disk of which nothing is unsafe; conditions: the plan is a disk's, the segment is one of it.
-/
import Derived.Test.YtlopmiaimignkaaGreatDoorPkM20
import Derived.Test.YtlopmiaimignkaaGreatDoorPkM21
set_option maxRecDepth 100000
set_option maxHeartbeats 400000
namespace Go.Proofs.YtlopmiaimignkaaGreatDoor
open Go.Proofs.Tryz
open Go.RowKit Go.Shelf
open Go.Maps (Keyed)
variable{first g i k n p:Nat}{S b:List UInt8}{w:World}{D:Nat->Prop}{q:g9}{wr:Int}
attribute [local go_sem] Oper.semAt_some
def iz(b:List UInt8)(x:Nat):List UInt8:=(b.drop (x*128)).take 128
def kI(first:Nat)(b:List UInt8)(pre:List { x:Nat // x<8 }):gM:=fun k=>if (first:Int)<=k/\k<first+pre.length then(pre[(k-first).toNat]?).map fun x=>iz b x.1 else none
theorem BH(first:Nat)(b:List UInt8):kI first b []=gM.no:=by
 funext k
 unfold kI
 rw[if_neg (by simp)];rfl
theorem zs(first:Nat)(b:List UInt8)(pre:List { x:Nat // x<8 })(x:{ x:Nat // x<8 }):kI first b (pre++[x])=(kI first b pre).put ((first+pre.length:Nat):Int) (iz b x.1):=by
 funext k
 unfold kI gM.put
 by_cases e:k=((first+pre.length:Nat):Int)
 ·rw[if_pos e,if_pos (by rw[zL,List.length_singleton];omega),show(k-first).toNat=pre.length from by omega,List.getElem?_append_right zr]
  simp
 rw[if_neg e]
 dsimp only
 by_cases h:(first:Int)<=k/\k<first+pre.length
 ·rw[if_pos h,if_pos (by rw[zL,List.length_singleton];omega),List.getElem?_append_left zo]
 rw[if_neg h,if_neg (by rw[zL,List.length_singleton];omega)]
theorem zq{pre:List { x:Nat // x<8 }}{c:List UInt8}(h:kI first b pre k=some c):first<=k/\k<first+pre.length:=by
 unfold kI at h
 split at h
 ·omega
 cases h
theorem BI(hb:b.length=1024)(hf:first*128+1024<=S.length):lN S (kI first b (ml 8 8))=splice S (first*128) b:=by
 have a:∀j,j<8->(ml 8 8)[j]?=if h:j<8 then some ⟨j,h⟩ else none:=by decide
 apply List.ext_getElem?
 intro j
 unfold lN iv splice
 rw[List.getElem?_mapIdx]
 by_cases h1:j<first*128
 ·rw[List.getElem?_append_left (by rw[List.length_take];omega),List.getElem?_take,if_pos h1]
  have e:kI first b (ml 8 8) ((j/128:Nat):Int)=none:=by unfold kI;rw[if_neg zo]
  rw[e]
  simp
 rw[List.getElem?_append_right (by rw[List.length_take];omega),List.length_take,Nat.min_eq_left zo]
 by_cases h2:j<first*128+1024
 ·rw[List.getElem?_append_left zo,List.getElem?_eq_getElem (show j<S.length by omega)]
  have e:kI first b (ml 8 8) ((j/128:Nat):Int)=some (iz b (j/128-first)):=by
   unfold kI
   rw[if_pos (by rw[iV zr];omega),show(((j/128:Nat):Int)-first).toNat=j/128-first from by omega,a _ zo]
   rw[dif_pos zo]
   rfl
  rw[e]
  simp only[Option.map_some,if_true]
  rw[List.getElem?_eq_getElem zo]
  congr 1
  unfold iz
  rw[List.getD_eq_getElem?_getD,List.getElem?_take,if_pos zo,List.getElem?_drop,show(j/128-first)*128+j%128=j-first*128 from by omega,List.getElem?_eq_getElem zo]
  rfl
 rw[List.getElem?_append_right zo,List.getElem?_drop,hb,show first*128+1024+(j-first*128-1024)=j from by omega]
 have e:kI first b (ml 8 8) ((j/128:Nat):Int)=none:=by unfold kI;rw[if_neg (by rw[iV zr];omega)]
 rw[e]
 simp
section
variable {w w':World}{D:Nat->Prop}{row:Option Nat}
theorem Row.other{A:Option Addr}{size:Nat}{vs:List Value}(h:Row w D A n size vs)(hg:w.grownBy w' row)(hr:∀r,row=some r->∃o:Obj,w.heap[r]?=some o/\o.isCells=false):Row w' D A n size vs :=
 ⟨h.1,fun hn=>let ⟨b,off,e,hd,hl,hc⟩:=h.2 hn;⟨b,off,e,hd,Nat.lt_of_lt_of_le hl hg.size,fun k u a=>cell_kept (hc k u a) hg hr⟩⟩
theorem fj.other{q:g9}{S:List UInt8}{M:gM}{n:Nat}{wr:Int}(h:fj w D q S M n wr)(hg:w.grownBy w' row)(B:Nat)(hB:∀b,b=q.bd\/b=q.bs\/b=q.bm->b<B)(hr:∀r,row=some r->B<=r/\∃o:Obj,w.heap[r]?=some o/\o.isCells=false):fj w' D q S M n wr:=by
 have a:∀b,b=q.bd\/b=q.bs\/b=q.bm->some b≠row:=fun b hb e=>by have:=(hr b e.symm).1;have:=hB b hb;omega
 refine⟨(hg.block q.bd (h.lt _ (.inl rfl)) (a _ (.inl rfl))).trans h.disk,(hg.block q.bs (h.lt _ (.inr (.inl rfl))) (a _ (.inr (.inl rfl)))).trans h.safe,?_,h.size,h.out⟩
 obtain⟨E,h1,h2⟩:=h.dirty
 refine⟨E,h1.kept hg (a _ (.inr (.inr rfl))),fun k=>⟨(h2 k).1,fun bs hb=>?_⟩⟩
 obtain⟨g1,d,g3,g4,A,c,f,g,i,j⟩:=(h2 k).2 bs hb
 exact⟨g1,d,g3,g4,A,c,f,g,i,j.other hg fun r e=>(hr r e).2⟩
end
theorem fj.swap{F:Nat->Prop}(h:fj w D q S gM.no n wr)(hF:∀b,b=q.bd\/b=q.bs\/b=q.bm->¬F b):fj w F q S gM.no n wr :=
 ⟨h.disk,h.safe,let ⟨E,h1,h2⟩:=h.dirty;⟨E,h1,fun k=>⟨(h2 k).1,fun bs hb=>by cases hb⟩⟩,h.size,hF⟩
theorem wN(h:fg k p g=true)(hi:i<g):1+2*p+i*8+8<=k/\k<=4096:=by
 have:=jy.1 h
 omega
theorem FB(h:fg k p g=true)(hi:i<g):pD k p g i=(((1+2*p+i*8:Nat):Int),0):=by
 unfold pD
 rw[if_pos ⟨h,zo,zo⟩]
 congr 1
theorem xT{bb off:Nat}(h:Bs w D (some ⟨bb,off,none⟩) n b){x m:Nat}(hx:x+m<=n):Bs w D (some ⟨bb,off+x,none⟩) m ((b.drop x).take m):=by
 have hl:=h.len
 refine⟨by simp;omega,fun hm=>?_⟩
 obtain⟨c,d,e,h1,h2,h3⟩:=h.2 zo
 injection e with e
 injection e with e1 e2
 subst e1 e2
 refine⟨bb,off+x,rfl,h1,h2,fun j u a=>?_⟩
 rw[Nat.add_assoc]
 refine h3 (x+j) u ?_
 rw[List.getElem?_map,List.getElem?_take] at a
 split at a
 ·rw[List.getElem?_drop] at a;rw[List.getElem?_map];exact a
 cases a
theorem Hb(h:fj w D q S gM.no 0 wr)(hk:S.length=k*128)(hD:∀b,w.heap.size<=b->D b)(hp:fg k p g=true)(hi:i<g){D2:Nat->Prop}(ad:Addr)(cap:Nat)(b:List UInt8)(hB:Bs w D2 (some ad) 1024 b)(hcap:1024<=cap)(hcm:cap<=9223372036854775807)(hD2:∀j,D2 j->j≠q.bd/\j≠q.bs/\j≠q.bm):
  Calls prog 35 #[.pointer (some ⟨q.bd,0,none⟩),.agg #[.int .i64 k,.int .i64 p,.int .i64 g],.int .i64 i,.slice (some ad) 1024 cap] w fun e w'=>e=.returned (.tuple #[])/\b_ (fun j=>j≠q.bd/\j≠q.bs/\j≠q.bm) w w' /\
   ∃wr',fj w' D q (splice S ((1+2*p+i*8)*128) b) gM.no 0 wr':=by
 have N:=hB.len
 have u:=wN hp hi
 have G:=fun W=>zh (pC k p g i zo W)
 rw[FB hp hi] at G
 dsimp only at G
 obtain⟨first,aa⟩:=zx (1+2*p+i*8)
 rw[<- aa] at G u ⊢
 clear aa hp hi
 obtain⟨v,off,Q,aj,aA,ak⟩:=hB.2 Zd
 injection Q with Q
 subst Q
 have HH:=J7 h hk hD hB hD2 N u
 clear h hk hD hB hD2 N u ak aj
 refine(callsIn_wide (n:=6)).1 ?_
 refine callsIn_of_wp_marks func35 rfl trivial ?_ rfl
 simp only[ntmps35,List.size_toArray,List.length_cons,List.length_nil,Nat.reduceAdd,Nat.reduceSub,Array.replicate_succ,Array.replicate_zero,List.push_toArray,List.append_toArray,List.nil_append,List.cons_append]
 gi_wp2
 refine⟨zt,(callsIn_wide.2 (G _).out).mono ?_⟩
 rintro e y⟨rfl,k1⟩
 gi_wp2
 refine⟨zt,(callsIn_wide.2 (vS _ _ _ _)).mono ?_⟩
 rintro e s⟨rfl,H⟩
 have k0:New w ((w.alloc (.cells #[.pointer (some ⟨q.bd,0,none⟩)] 31)).alloc (.cells #[.int .i64 k,.int .i64 p,.int .i64 g] 35)):=((zN w).alloc _).alloc _
 have x0:((w.alloc (.cells #[.pointer (some ⟨q.bd,0,none⟩)] 31)).alloc (.cells #[.int .i64 k,.int .i64 p,.int .i64 g] 35)).heap[w.heap.size]?=some (.cells #[.pointer (some ⟨q.bd,0,none⟩)] 31 (0,0)):=(b_.alloc (zN _) _).Qa (heap_alloc_new w _) trivial
 have x1:=k1.Qa x0 trivial
 have k2:=k0.new k1
 clear k0 x0 k1 G
 have kF:New y (y.alloc (.cells #[.int .i64 first] 3)):=(zN y).alloc _
 have xF:=heap_alloc_new y (.cells #[.int .i64 first] 3)
 have R:(y.alloc (.cells #[.int .i64 first] 3)).heap.size=y.heap.size+1:=by simp
 have zw:w.heap.size<y.heap.size:=(Zl x1)
 generalize aC:y.heap.size=a at *
 generalize y.alloc (.cells #[.int .i64 first] 3)=T at *
 have U:New T s:=by rw[H];exact((zN T).alloc _).alloc _
 have y1:s.heap[a+1]?=some (.cells #[.slice (some ⟨v,off,none⟩) 1024 cap] 22 (0,0)):=by rw[H,<- R];exact(b_.alloc (zN _) _).Qa (heap_alloc_new T _) trivial
 have y2:s.heap[a+1+1]?=some (.cells #[.int .i64 128] 3 (0,0)):=by rw[H,<- R,show T.heap.size+1=(T.alloc (.cells #[.slice (some ⟨v,off,none⟩) 1024 cap] 22)).heap.size from by simp];exact heap_alloc_new _ _
 have z2:s.heap.size=a+1+1+1:=by rw[H];simp[R]
 have al:=U.Qa xF trivial
 have x2:=U.Qa (kF.Qa x1 zt) trivial
 have V:=(k2.new kF).new U
 rw[R]
 clear H U kF xF x1 k2 R
 gi_wp2
 have am:s.cell? ⟨a+1,0,none⟩=some (.slice (some ⟨v,off,none⟩) (8*128) cap):=a_ y1 rfl
 have an:s.cell? ⟨a+1+1,0,none⟩=some (.int .i64 128):=a_ y2 rfl
 have ai:SeqStopsK Fence.wide (6-1) prog 209 #[.pointer (some ⟨a+1,0,none⟩),.pointer (some ⟨a+1+1,0,none⟩)] (fun x:{ x:Nat // x<8 }=>#[Value.slice (some ⟨v,off+x.1*128,none⟩) 128 128])
   (fun X Y=>b_ (fun j=>j=a+1\/j=a+1+1) X Y) (fun xs=>xs=ml 8 8) (fun _=>True) 8 s:=fun l J Jx W hW hJ _ hY ao=>by
  have hk:b_ (fun j=>j=a+1\/j=a+1+1) s W:=(b_.below hW).imp fun j hj _=>hj
  exact vT (6-1) Zd l (a+1) (a+1+1) v off 8 cap Zd hcap hcm J Jx _ hJ hY W (hk.Qb am (.inl rfl)) (hk.Qb an (.inr rfl)) ao
 obtain⟨I,hk,hD,hB,hD2,N,u⟩:=HH.out
 have aD:=I.ne
 have hlt:=I.lt
 have d2:=(I.new V).swap (F:=fun j=>D j/\j≠a) (fun j hj hd=>I.out j hj hd.1)
 rw[<- BH first b] at d2
 have ab:=V.size
 have ap:=(hB.imp (E:=fun j=>D2 j/\j<w.heap.size) fun j hj hd=>⟨hd,hj⟩).new V
 refine wpIn_rangeFunc_ownG (α:={ x:Nat // x<8 }) rfl Zd (gf:=209) (lb:=#[.pointer (some ⟨a+1,0,none⟩),.pointer (some ⟨a+1+1,0,none⟩)]) rfl trivial (enters_of func209 zk rfl)
  ai (fun h1 h2=>h1.trans h2) (fun W l o o' hl ho _ _=>⟨rfl,rfl,rfl,by simp,fun j _ hj=>World.putObj_heap_other zo⟩) (Below.refl _ _) (fun _=>rfl)
  (fun f W=>(∃wr',fj W (fun j=>D j/\j≠a) q S (kI first b f) f.length wr')/\W.heap[a]?=some (.cells #[.int .i64 ((first+f.length:Nat):Int)] 3 (0,0))/\b_ (fun j=>j<s.heap.size/\j≠q.bd/\j≠q.bm/\j≠a) s W)
  (fun _ _ _=>False) ?hI (fun _ _ _ _ _ hs _ _=>hs) ⟨⟨_,d2⟩,al,b_.refl _ _⟩
  (fun x=>{ tmps:=#[.pointer (some ⟨q.bd,0,none⟩),.agg #[.int .i64 k,.int .i64 p,.int .i64 g],.int .i64 i,.slice (some ⟨v,off,none⟩) 1024 cap,.pointer (some ⟨w.heap.size,0,none⟩),.pointer (some ⟨w.heap.size+1,0,none⟩),undef,undef,.pointer (some ⟨a,0,none⟩),.int .i64 0,.slice (some ⟨v,off+x.1*128,none⟩) 128 128,.tuple #[.int .i64 first,.int .i64 0],.agg #[.int .i64 k,.int .i64 p,.int .i64 g],.int .i64 i,.tuple #[.int .i64 first,.int .i64 0],.int .i64 first,.int .i64 0,.slice (some ⟨v,off,none⟩) 1024 cap,.func (.func 209) #[] #[.pointer (some ⟨a+1,0,none⟩),.pointer (some ⟨a+1+1,0,none⟩)],.slice (some ⟨v,off+x.1*128,none⟩) 128 128,undef,undef,undef,undef,undef,undef,undef,undef],defers:=[] }) ?assign ?body ?done ?stop
 case hI =>
  rintro f A C aE⟨⟨wr',hd⟩,hf,d⟩ hg hr
  refine⟨⟨wr',hd.other hg s.heap.size (fun j hj=>Nat.lt_of_lt_of_le (hlt j hj) ab) hr⟩,(hg.block a (Zl hf) (fun e=>by have:=(hr a e.symm).1;omega)).trans hf,d.trans ⟨hg.os,hg.tape,hg.output,hg.size,fun j aq hj=>hg.block j aq (fun e=>by have:=(hr j e.symm).1;omega)⟩⟩
 case assign =>
  intro l x W K hK
  gi_wp2
  exact hK
 case body =>
  rintro l f x W⟨⟨wr',hd⟩,hf,d⟩ aB
  have aF:=x.2
  have c4:W.cell? ⟨w.heap.size,0,none⟩=some (.pointer (some ⟨q.bd,0,none⟩)):=a_ ((d.block w.heap.size zo ⟨zo,fun e=>by have:=hlt q.bd (.inl rfl);omega,fun e=>by have:=hlt q.bm (.inr (.inr rfl));omega,zo⟩).trans x2) rfl
  have c8:W.cell? ⟨a,0,none⟩=some (.int .i64 ((first+f.length:Nat):Int)):=a_ hf rfl
  have aG:=d.size
  have ac:=(xT ap (x:=x.1*128) (m:=128) zo).keep d (fun j hj hd=>⟨hj,(hD2 j hd.1).1,(hD2 j hd.1).2.2,zo⟩)
  have HW:=zh<|uk hd hk (fun j hj=>⟨hD j zo,zo⟩) zo (first+f.length) zo _ 128 _ ac
  have Z:=J3 hd hf d
  clear ac hd hf d
  obtain⟨z,hz⟩:=zx (first+f.length)
  rw[<- hz] at HW c8
  replace hz:=zh hz
  gi_wp2
  refine⟨zt,(CallsIn.inRound l (callsIn_wide.2 HW.out)).mono ?_⟩
  rintro e B⟨rfl,L,ar,O⟩
  obtain⟨hd,hf,d⟩:=Z.out
  have t:=(L.block a (Zl hf) ⟨fun e=>by have:=hlt q.bd (.inl rfl);omega,fun e=>by have:=hlt q.bm (.inr (.inr rfl));omega⟩).trans hf
  rw[<- hz.out] at t
  have c8:B.cell? ⟨a,0,none⟩=some (.int .i64 (z:Int)):=a_ t rfl
  have z8:=dP t 0
  have au:=J3 L O t
  have aH:z<=5000:=by have:=hz.out;omega
  clear L O t hd hf d
  gi_wp2
  obtain⟨hd,hf,d⟩:=Z.out
  obtain⟨L,O,t⟩:=au.out
  have av:=hz.out
  have ae:b_ (fun j=>j≠a) B (B.setCell ⟨a,0,none⟩ (.int .i64 ((z:Int)+1))):=(b_.refl _ B).setCell (fun hd=>absurd rfl hd) _
  have e1:=hlt q.bd (.inl rfl)
  have e2:=hlt q.bm (.inr (.inr rfl))
  have e3:=hlt q.bs (.inr (.inl rfl))
  have P:b_ (fun j=>j≠q.bd/\j≠q.bm/\j≠a) W (B.setCell ⟨a,0,none⟩ (.int .i64 ((z:Int)+1))):=(L.imp (E:=fun j=>j≠q.bd/\j≠q.bm/\j≠a) fun _ _ hj=>⟨hj.1,hj.2.1⟩).Qd ae fun _ _ hj=>hj.2.2
  refine⟨⟨P.size,fun j o hj ho _=>(P.block j (Zl ho) ⟨zo,zo,zo⟩).trans ho⟩,P.imp (fun j _ hj=>by omega),⟨ar,?_⟩,?_,?_⟩
  ·have aw:=O.keep ae (fun j hj=>by rcases hj with rfl|rfl|rfl <;> omega) (fun j hj ax e=>?_)
   ·rw[zs,zL,List.length_singleton,<- av];exact aw
   exact ax.2 e
  ·have hv:((z:Int)+1)=((first+(f++[x]).length:Nat):Int):=by rw[zL,List.length_singleton];omega
   rw[dM t 0,hv]
   rfl
  exact d.Qd P fun j _ hj=>hj.2
 case done =>
  rintro Db xs W ay rfl⟨⟨wr',hd⟩,hf,d⟩ M
  have c4:W.cell? ⟨w.heap.size,0,none⟩=some (.pointer (some ⟨q.bd,0,none⟩)):=a_ ((d.block w.heap.size zo ⟨zo,fun e=>by have:=hlt q.bd (.inl rfl);omega,fun e=>by have:=hlt q.bm (.inr (.inr rfl));omega,zo⟩).trans x2) rfl
  have af:=zh (vN hd (fun j c hj=>by
   have h1:=zq hj
   rw[iV zr] at h1
   omega))
  rw[BI N zo] at af
  have Z:=J2 d M
  clear hd hf d M
  gi_wp2
  refine⟨zt,(callsIn_wide.2 af.out).mono ?_⟩
  rintro e B⟨rfl,ag,az⟩
  gi_wp2
  obtain⟨d,M⟩:=Z.out
  have e1:=hlt q.bd (.inl rfl)
  have e2:=hlt q.bm (.inr (.inr rfl))
  have e3:=hlt q.bs (.inr (.inl rfl))
  have ah:B.heap[Db]?=some (.deferred (some [])):=(ag.block Db (Zl M) ⟨zo,zo⟩).trans M
  refine⟨by simp,.inl ⟨_,_,rfl,run_takeDeferred ah,?_⟩⟩
  have hg:=grownBy_putObj' B Db (.deferred none)
  have q1:b_ (fun j=>j≠q.bd/\j≠q.bs/\j≠q.bm) w W:=(b_.Qe V).Qd d (fun j hj hd=>⟨zo,hd.1,hd.2.2,zo⟩)
  have q2:b_ (fun j=>j≠q.bd/\j≠q.bs/\j≠q.bm) w B:=q1.Qd ag (fun j hj hd=>⟨hd.2.1,hd.2.2⟩)
  refine⟨_,results_none rfl _ _ _,rfl,q2.grown hg (fun j e hd=>by injection e with e;omega),wr',(az.other hg s.heap.size (fun j hj=>Nat.lt_of_lt_of_le (hlt j hj) ab) (fun r e=>by injection e with e;subst e;exact⟨ay,_,ah,rfl⟩)).swap I.out⟩
 rintro D c f W _ _ h _
 exact h.elim
