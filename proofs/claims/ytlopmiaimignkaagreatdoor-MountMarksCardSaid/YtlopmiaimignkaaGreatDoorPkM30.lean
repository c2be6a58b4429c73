/-
  PROVED HERE: what mount.Mount answers of a disk that has nothing behind its points; conditions: nothing on the disk is unsafe; the points' states are loaded.
-/
import Derived.Test.YtlopmiaimignkaaGreatDoorPkM25
import Derived.Test.YtlopmiaimignkaaGreatDoorPkM29
set_option maxHeartbeats 2000000
namespace Go.Proofs.YtlopmiaimignkaaGreatDoor
open Go.RowKit
theorem mr{w:World}{g:Nat}{c0 c1 c2 c3 c4 c5 c6 c7 c8:Value}{t:TypeId}(h:w.heap[g]?=some (.cells #[c0,c1,c2,c3,c4,c5,c6,c7,c8] t (0,0)))(x0 x1 x2 x3 x4 x5 x6 x7 x8:Value):
  (((((((((w.setCell ⟨g,0,none⟩ x0).setCell ⟨g,1,none⟩ x1).setCell ⟨g,2,none⟩ x2).setCell ⟨g,3,none⟩ x3).setCell ⟨g,4,none⟩ x4).setCell ⟨g,5,none⟩ x5).setCell ⟨g,6,none⟩ x6).setCell ⟨g,7,none⟩ x7).setCell ⟨g,8,none⟩ x8).heap[g]?=some (.cells #[x0,x1,x2,x3,x4,x5,x6,x7,x8] t (0,0)) /\
  b_ (fun b=>b≠g) w (((((((((w.setCell ⟨g,0,none⟩ x0).setCell ⟨g,1,none⟩ x1).setCell ⟨g,2,none⟩ x2).setCell ⟨g,3,none⟩ x3).setCell ⟨g,4,none⟩ x4).setCell ⟨g,5,none⟩ x5).setCell ⟨g,6,none⟩ x6).setCell ⟨g,7,none⟩ x7).setCell ⟨g,8,none⟩ x8):=by
 have a:∀(W:World) (k:Nat) (u:Value),b_ (fun b=>b≠g) w W->b_ (fun b=>b≠g) w (W.setCell ⟨g,k,none⟩ u):=fun W k u C=>C.setCell (p:=⟨g,k,none⟩) (fun hd=>absurd rfl hd) u
 refine⟨?_,a _ _ _ (a _ _ _ (a _ _ _ (a _ _ _ (a _ _ _ (a _ _ _ (a _ _ _ (a _ _ _ (a _ _ _ (b_.refl _ w)))))))))⟩
 clear a
 obtain⟨o,c⟩:=zx (w.setCell ⟨g,0,none⟩ x0)
 rw[<- c]
 have h1:o.heap[g]?=some (.cells #[x0,c1,c2,c3,c4,c5,c6,c7,c8] t (0,0)):=by rw[c];exact dM h 0 x0
 clear c
 obtain⟨q,d⟩:=zx (o.setCell ⟨g,1,none⟩ x1)
 rw[<- d]
 have h2:q.heap[g]?=some (.cells #[x0,x1,c2,c3,c4,c5,c6,c7,c8] t (0,0)):=by rw[d];exact dM h1 1 x1
 clear h1 d
 obtain⟨r,e⟩:=zx (q.setCell ⟨g,2,none⟩ x2)
 rw[<- e]
 have h3:r.heap[g]?=some (.cells #[x0,x1,x2,c3,c4,c5,c6,c7,c8] t (0,0)):=by rw[e];exact dM h2 2 x2
 clear h2 e
 obtain⟨s,f⟩:=zx (r.setCell ⟨g,3,none⟩ x3)
 rw[<- f]
 have v:s.heap[g]?=some (.cells #[x0,x1,x2,x3,c4,c5,c6,c7,c8] t (0,0)):=by rw[f];exact dM h3 3 x3
 clear h3 f
 obtain⟨x,i⟩:=zx (s.setCell ⟨g,4,none⟩ x4)
 rw[<- i]
 have h5:x.heap[g]?=some (.cells #[x0,x1,x2,x3,x4,c5,c6,c7,c8] t (0,0)):=by rw[i];exact dM v 4 x4
 clear v i
 obtain⟨y,j⟩:=zx (x.setCell ⟨g,5,none⟩ x5)
 rw[<- j]
 have h6:y.heap[g]?=some (.cells #[x0,x1,x2,x3,x4,x5,c6,c7,c8] t (0,0)):=by rw[j];exact dM h5 5 x5
 clear h5 j
 obtain⟨z,l⟩:=zx (y.setCell ⟨g,6,none⟩ x6)
 rw[<- l]
 have h7:z.heap[g]?=some (.cells #[x0,x1,x2,x3,x4,x5,x6,c7,c8] t (0,0)):=by rw[l];exact dM h6 6 x6
 clear h6 l
 obtain⟨A,m⟩:=zx (z.setCell ⟨g,7,none⟩ x7)
 rw[<- m]
 have B:A.heap[g]?=some (.cells #[x0,x1,x2,x3,x4,x5,x6,x7,c8] t (0,0)):=by rw[m];exact dM h7 7 x7
 clear h7 m
 obtain⟨D,n⟩:=zx (A.setCell ⟨g,8,none⟩ x8)
 rw[<- n]
 have E:D.heap[g]?=some (.cells #[x0,x1,x2,x3,x4,x5,x6,x7,x8] t (0,0)):=by rw[n];exact dM B 8 x8
 clear B n
 exact E
abbrev f_:Array Value:=#[.int .i64 0,.int .i64 0,.int .i64 0,.slice none 0 0,.int .u64 0,.int .u64 0,.int .i64 0,.int .i64 0,.slice none 0 0]
