/-
  PROVED HERE: slices.Chunk at rows of 128 bytes: what it answers, and what its iterator hands to a loop's rounds; condition: a whole number of rows, no more than 1000.
-/
import Derived.RangeFuncNested
import Derived.RangeFuncBound
import Derived.RangeFuncCalls
import Derived.RangeFuncLeaves
import Derived.Shelf.Abstract
import Derived.Shelf.RegionOpen
import Derived.OwnWalkIn
import Derived.TacticsInMore
import Derived.LoopNIn
import Derived.LoopIn
import Derived.Test.YtlopmiaimignkaaGreatDoorPkM19
set_option maxRecDepth 100000
set_option maxHeartbeats 2000000
namespace Go.Proofs.YtlopmiaimignkaaGreatDoor
open Go.Proofs.Tryz
open Go.RowKit Go.Shelf
attribute [local go_sem] Oper.semAt_some
theorem vS(A:Option Addr)(len cap:Nat)(w:World):
  Calls prog 112 #[.slice A len cap,.int .i64 128] w fun e w'=>e=.returned (.func (.func 209) #[] #[.pointer (some ⟨w.heap.size,0,none⟩),.pointer (some ⟨w.heap.size+1,0,none⟩)]) /\
   w'=(w.alloc (.cells #[.slice A len cap] 22)).alloc (.cells #[.int .i64 128] 3):=by
 go_in
 go_wp2
 go_ret
 exact⟨rfl,rfl⟩
def ml(m k:Nat):List { x:Nat // x<m }:=(List.range k).filterMap fun j=>if h:j<m then some ⟨j,h⟩ else none
theorem pT{m k:Nat}(h:k<m):ml m (k+1)=ml m k++[⟨k,h⟩]:=by simp[ml,List.range_succ,h]
theorem iV{m:Nat}:∀ {k:Nat},k<=m->(ml m k).length=k
 | 0,_=>rfl
 | k+1,h=>by rw[pT h,zL,iV zo];rfl
theorem Bm(D:Nat->Prop)(w:World)(n:Nat):b_ D w (w.drewN n):=⟨rfl,rfl,rfl,zr,fun _ _ _=>rfl⟩
theorem uS(w:World)(n:Nat):w.grownBy (w.drewN n) none:=⟨rfl,rfl,rfl,zr,fun _ _ _=>rfl⟩
theorem vT(n:Nat)(hn:1<=n)(l B1 B2 b off m cap:Nat)(hm:m<=1000)(hcap:m*128<=cap)(_hcm:cap<=9223372036854775807)(J Jx:List { x:Nat // x<m }->World->Prop)(H0:Nat)(hJ:AbidesFrom H0 J)(hY:∀pre x W,J pre W->pre.length<m->YieldAt Fence.wide (n-1) prog l #[.slice (some ⟨b,off+x.1*128,none⟩) 128 128] W fun e W' =>
   (e=.returned (.bool true)/\J (pre++[x]) W'/\b_ (fun j=>j=B1\/j=B2) W W')\/(e=.returned (.bool false)/\Jx (pre++[x]) W'))(W:World)(h1:W.cell? ⟨B1,0,none⟩=some (.slice (some ⟨b,off,none⟩) (m*128) cap))(h2:W.cell? ⟨B2,0,none⟩=some (.int .i64 128))(h0:J [] W):
  CallsIn Fence.wide n prog 209 #[.func (.yield l) #[] #[],.pointer (some ⟨B1,0,none⟩),.pointer (some ⟨B2,0,none⟩)] W fun e W'=>(∃v,e=.returned v) /\
   ((∃ys,ys=ml m m/\J ys W')\/(∃pre,True/\Jx pre W')):=by
 refine callsIn_of_wp func209 rfl trivial ?_ rfl
 simp only[ntmps209,List.size_toArray,List.length_cons,List.length_nil,Nat.reduceAdd,Nat.reduceSub,Array.replicate_succ,Array.replicate_zero,List.push_toArray,List.append_toArray,List.nil_append,List.cons_append]
 gi_wp2
 gi_loopw [4] (fun i wr=>∃k:Nat,k<=m/\i=.int .i64 ((k*128:Nat):Int)/\J (ml m k) wr/\b_ (fun j=>j=B1\/j=B2) W wr)
  (fun i _=>m*128-(intOf i).toNat)
 case atStart=>exact⟨0,Nat.zero_le _,rfl,h0,b_.refl _ _⟩
 obtain⟨k,hk,rfl,d,a⟩:=hrel
 have c1:wr.cell? ⟨B1,0,none⟩=some (.slice (some ⟨b,off,none⟩) (m*128) cap):=a.Qb h1 (.inl rfl)
 have c2:wr.cell? ⟨B2,0,none⟩=some (.int .i64 128):=a.Qb h2 (.inr rfl)
 by_cases hlt:k<m
 ·gi_wp2
  refine wpIn_wide.2 ?_
  go_quiet (fail)
  rename_i nq
  have f:=Bm (fun j=>j=B1\/j=B2) wr nq
  have c1:=f.Qb c1 (.inl rfl)
  have c2:=f.Qb c2 (.inr rfl)
  have o:=hJ _ _ _ none d (uS wr nq) (fun r e=>by cases e)
  have g:=a.trans f
  obtain⟨fn,tmps,assign,body,hy,q⟩:=hY _ ⟨k,hlt⟩ _ o (by rw[iV zo];exact hlt)
  dsimp only at hy
  generalize wr.drewN nq=s at *
  gi_wp2
  refine q.mono ?_
  rintro e t (⟨rfl,p,c⟩|⟨rfl,h⟩)
  ·have c1:=c.Qb c1 (.inl rfl)
   have c2:=c.Qb c2 (.inr rfl)
   gi_wp2
   go_roundw
   case rel=>exact⟨k+1,zo,by simp[Nat.add_mul],by rw[pT hlt];exact p,g.trans c⟩
   simp[intOf];omega
  gi_wp2
  refine bodyPost_ret (results_none rfl _ _ _) rfl ?_
  exact⟨⟨_,rfl⟩,.inr ⟨_,zt,h⟩⟩
 obtain rfl:k=m:=by omega
 gi_wp2
 go_end0
 exact⟨⟨_,rfl⟩,.inl ⟨_,rfl,d⟩⟩
