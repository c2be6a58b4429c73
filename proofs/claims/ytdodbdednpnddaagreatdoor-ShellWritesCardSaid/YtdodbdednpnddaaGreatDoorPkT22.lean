/-
  PROVED HERE: slices.Chunk at rows of 128 bytes: what it answers, and what its iterator hands to a loop's rounds; condition: a whole number of rows, no more than 1000.
-/
import Derived.RangeFuncNested
import Derived.RangeFuncBound
import Derived.RangeFuncCalls
import Derived.RangeFuncLeaves
import Derived.Shelf.Abstract
import Derived.Shelf.RegionOpen
import Derived.OwnWalkIn
import Derived.TacticsInMore
import Derived.LoopNIn
import Derived.LoopIn
import Derived.Test.YtdodbdednpnddaaGreatDoorPkT20
set_option maxRecDepth 100000
set_option maxHeartbeats 2000000
namespace Go.Proofs.YtdodbdednpnddaaGreatDoor
open Go.RowKit Go.Shelf
attribute [local go_sem] Oper.semAt_some
theorem chunk_any (A:Option Addr) (len cap:Nat) (w:World):
  Calls Tryz.prog 112 #[.slice A len cap,.int .i64 128] w fun e w'=>e=.returned (.func (.func 145) #[] #[.pointer (some ⟨w.heap.size,0,none⟩),.pointer (some ⟨w.heap.size+1,0,none⟩)]) ∧
   w'=(w.alloc (.cells #[.slice A len cap] 24)).alloc (.cells #[.int .i64 128] 3):=by
 go_enter Tryz.func112,Tryz.ntmps112
 go_wp2_with fail
 go_ret
 exact ⟨rfl,rfl⟩
def uptoN (m k:Nat):List { x:Nat // x<m }:=(List.range k).filterMap fun j=>if h:j<m then some ⟨j,h⟩ else none
theorem uptoN_succ {m k:Nat}(h:k<m):uptoN m (k+1)=uptoN m k++[⟨k,h⟩]:=by simp [uptoN,List.range_succ,h]
theorem uptoN_length {m:Nat}:∀ {k:Nat},k≤m→(uptoN m k).length=k
 | 0,_=>rfl
 | k+1,h=>by rw [uptoN_succ h,List.length_append,uptoN_length (by omega)];rfl
theorem keep_drewN (D:Nat→Prop) (w:World) (n:Nat):Keep D w (w.drewN n):=⟨rfl,rfl,rfl,Nat.le_refl _,fun _ _ _=>rfl⟩
theorem grownBy_drewN (w:World) (n:Nat):w.grownBy (w.drewN n) none:=⟨rfl,rfl,rfl,Nat.le_refl _,fun _ _ _=>rfl⟩
theorem chunk1_in (n:Nat) (hn:1≤n) (l B1 B2 b off m cap:Nat) (hm:m≤1000) (hcap:m*128≤cap) (_hcm:cap≤9223372036854775807) (J Jx:List { x:Nat // x<m }→World→Prop) (H0:Nat) (hJ:AbidesFrom H0 J)
  (hY:∀ pre x W,J pre W→pre.length<m→YieldAt Fence.wide (n-1) Tryz.prog l #[.slice (some ⟨b,off+x.1*128,none⟩) 128 128] W fun e W' =>
   (e=.returned (.bool true)∧J (pre++[x]) W'∧Keep (fun j=>j=B1∨j=B2) W W')∨(e=.returned (.bool false)∧Jx (pre++[x]) W'))
  (W:World) (h1:W.cell? ⟨B1,0,none⟩=some (.slice (some ⟨b,off,none⟩) (m*128) cap)) (h2:W.cell? ⟨B2,0,none⟩=some (.int .i64 128)) (h0:J [] W):
  CallsIn Fence.wide n Tryz.prog 145 #[.func (.yield l) #[] #[],.pointer (some ⟨B1,0,none⟩),.pointer (some ⟨B2,0,none⟩)] W fun e W'=>(∃ v,e=.returned v) ∧
   ((∃ ys,ys=uptoN m m∧J ys W')∨(∃ pre,True∧Jx pre W')):=by
 refine callsIn_of_wp Tryz.func145 rfl trivial ?_ rfl
 simp only [Tryz.ntmps145,List.size_toArray,List.length_cons,List.length_nil,Nat.reduceAdd,Nat.reduceSub,Array.replicate_succ,Array.replicate_zero,List.push_toArray,List.append_toArray,List.nil_append,List.cons_append]
 gi_wp2
 gi_loopw [4] (fun i wr=>∃ k:Nat,k≤m∧i=.int .i64 ((k*128:Nat):Int)∧J (uptoN m k) wr∧Keep (fun j=>j=B1∨j=B2) W wr)
  (fun i _=>m*128-(intOf i).toNat)
 case atStart=>exact ⟨0,Nat.zero_le _,rfl,h0,Keep.refl _ _⟩
 case round =>
  obtain ⟨k,hk,rfl,hJs,hnx⟩:=hrel
  have c1:wr.cell? ⟨B1,0,none⟩=some (.slice (some ⟨b,off,none⟩) (m*128) cap):=hnx.cell_some h1 (.inl rfl)
  have c2:wr.cell? ⟨B2,0,none⟩=some (.int .i64 128):=hnx.cell_some h2 (.inr rfl)
  by_cases hlt:k<m
  ·gi_wp2
   refine wpIn_wide.2 ?_
   go_quiet (fail)
   rename_i nq
   have k2:=keep_drewN (fun j=>j=B1∨j=B2) wr nq
   have c1:=k2.cell_some c1 (.inl rfl)
   have c2:=k2.cell_some c2 (.inr rfl)
   have hJ2:=hJ _ _ _ none hJs (grownBy_drewN wr nq) (fun r e=>by cases e)
   have hnx2:=hnx.trans k2
   obtain ⟨fn,tmps,assign,body,hy,hR⟩:=hY _ ⟨k,hlt⟩ _ hJ2 (by rw [uptoN_length (by omega)];exact hlt)
   dsimp only at hy
   generalize wr.drewN nq=w2 at *
   gi_wp2
   refine hR.mono ?_
   rintro e W3 (⟨rfl,hJ3,hk3⟩|⟨rfl,hJx3⟩)
   ·have c1:=hk3.cell_some c1 (.inl rfl)
    have c2:=hk3.cell_some c2 (.inr rfl)
    gi_wp2
    go_roundw
    case rel=>exact ⟨k+1,by omega,by simp [Nat.add_mul],by rw [uptoN_succ hlt];exact hJ3,hnx2.trans hk3⟩
    case measure=>simp [intOf];omega
   ·gi_wp2
    refine bodyPost_ret (results_none rfl _ _ _) rfl ?_
    exact ⟨⟨_,rfl⟩,.inr ⟨_,trivial,hJx3⟩⟩
  ·obtain rfl:k=m:=by omega
   gi_wp2
   go_end0
   exact ⟨⟨_,rfl⟩,.inl ⟨_,rfl,hJs⟩⟩
end Go.Proofs.YtdodbdednpnddaaGreatDoor
