/-
  PROVED HERE: plain lemmas on a disk in memory: its row of bytes, and its map of the sectors that were written since; no program is in sight but for numbers of types.
-/
import Derived.Maps.OwnSet
import Derived.Maps.RangeWalk
import Derived.Laws.CopyOwn
import Derived.Test.YtlopmiaimignkaaGreatDoorPkM00
namespace Go.Proofs.YtlopmiaimignkaaGreatDoor
open Go.Proofs.Tryz
open Go.RowKit
open Go.Maps (Keyed)
variable{k:Int}{w:World}{g:Nat}{t:TypeId}
def im(v:Value):Option (DataW Value×List MemPlace):=some (.held v,[])
theorem qL:Keyed prog 3:=Maps.int_keyed underlying3
theorem wfI(h0 : -1000000<=k)(h1:k<=1000000):(Lit.int .i64 k).wf=true:=by
 simp[Lit.wf,IntKind.min,IntKind.max,IntKind.signed,IntKind.bits];omega
theorem tY(h:(Lit.int .i64 k).wf=true):keyOf prog 3 (.int .i64 k)=some (.int .i64 k):=Maps.keyOf_int_mk underlying3 h
abbrev gM:=Int->Option (List UInt8)
def gM.no:gM:=fun _=>none
def gM.put(M:gM)(i:Int)(b:List UInt8):gM:=fun k=>if k=i then some b else M k
def oq(w:World)(D:Nat->Prop)(E:DataW Value)(M:gM):Prop :=
 ∀k:Int,(M k=none->Maps.has E (.int .i64 k)=false)/\∀bs,M k=some bs->Maps.has E (.int .i64 k)=true/\0<=k/\k<4096/\bs.length=128/\∃A c,128<=c/\c<=9223372036854775807/\(∀zd,E.atKey (.int .i64 k) zd=.held (.slice A 128 c))/\Bs w D A 128 bs
def j5(w:World)(D:Nat->Prop)(bm n:Nat)(M:gM):Prop:=∃E:DataW Value,w.ownsMap prog 3 im bm n E/\oq w D E M
section
variable {w w':World}{D F:Nat->Prop}{E:DataW Value}{M:gM}{bm n:Nat}
theorem oq.keep(h:oq w D E M)(hk:b_ F w w')(hF:∀b,b<w.heap.size->D b->F b):oq w' D E M:=fun k =>
 ⟨(h k).1,fun bs hb=>by
  obtain⟨h1,h2,h3,a,A,c,h5,h6,h7,d⟩:=(h k).2 bs hb
  exact⟨h1,h2,h3,a,A,c,h5,h6,h7,d.keep hk hF⟩⟩
theorem oq.imp(h:oq w D E M)(hF:∀b,b<w.heap.size->D b->F b):oq w F E M:=fun k =>
 ⟨(h k).1,fun bs hb=>by
  obtain⟨h1,h2,h3,a,A,c,h5,h6,h7,d⟩:=(h k).2 bs hb
  exact⟨h1,h2,h3,a,A,c,h5,h6,h7,d.imp hF⟩⟩
theorem xJ(w:World)(D:Nat->Prop):oq w D (.map []) gM.no:=fun k=>⟨fun _=>rfl,fun bs hb=>by cases hb⟩
theorem nP(h:w.ownsMap prog 3 im bm n E)(hk:b_ F w w')(hF:F bm):w'.ownsMap prog 3 im bm n E:=by
 have hlt:=h.lt
 obtain⟨b,a,hb,rest⟩:=h
 exact⟨b,a,(hk.block bm hlt hF).trans hb,rest⟩
theorem j5.keep(h:j5 w D bm n M)(hk:b_ F w w')(hb:F bm)(hF:∀b,b<w.heap.size->D b->F b):j5 w' D bm n M:=by
 obtain⟨E,h1,h2⟩:=h
 exact⟨E,nP h1 hk hb,h2.keep hk hF⟩
theorem j5.imp(h:j5 w D bm n M)(hF:∀b,b<w.heap.size->D b->F b):j5 w F bm n M:=by
 obtain⟨E,h1,h2⟩:=h
 exact⟨E,h1,h2.imp hF⟩
theorem j5.new(h:j5 w D bm n M)(hk:New w w'):j5 w' D bm n M:=h.keep hk trivial fun _ _ _=>trivial
theorem j5.lt(h:j5 w D bm n M):bm<w.heap.size:=by obtain⟨E,h1,_⟩:=h;exact h1.lt
theorem BG(w:World)(D:Nat->Prop):j5 (w.alloc (.map #[] 0)) D w.heap.size 0 gM.no:=⟨.map [],World.ownsMap_made w _ _ _,xJ _ _⟩
theorem oq.put(h:oq w D E M)(hE:Maps.IsMap E){i:Int}{b:List UInt8}(h0:0<=i)(h1:i<4096)(hb:b.length=128){A:Option Addr}{c:Nat}(hc:128<=c)(hm:c<=9223372036854775807)(hB:Bs w D A 128 b):
  oq w D (E.put (.int .i64 i) (.held (.slice A 128 c))) (M.put i b):=by
 have a:WideAt.IsKeyLit (.int .i64 i):=qL.key (tY (wfI zo zo))
 intro k
 by_cases e:k=i
 ·subst e
  refine⟨fun hn=>?_,fun bs d=>?_⟩
  ·simp[gM.put] at hn
  have:bs=b:=by simpa[gM.put] using d.symm
  subst this
  exact⟨Maps.has_put_same hE a _,h0,h1,hb,A,c,hc,hm,fun zd=>Maps.atKey_put_same hE a _ zd,hB⟩
 have f:(Lit.int .i64 k)≠.int .i64 i:=fun q=>e (by injection q)
 refine⟨fun hn=>?_,fun bs d=>?_⟩
 ·rw[Maps.has_put_other f];exact(h k).1 (by simpa[gM.put,e] using hn)
 obtain⟨g1,g,g3,g4,j,l,m,n,o,p⟩:=(h k).2 bs (by simpa[gM.put,e] using d)
 exact⟨by rw[Maps.has_put_other f];exact g1,g,g3,g4,j,l,m,n,fun zd=>by rw[Maps.atKey_put_other f];exact o zd,p⟩
end
structure g9 where
 bd:Nat
 bs:Nat
 bm:Nat
structure fj (w:World) (D:Nat->Prop) (q:g9) (S:List UInt8) (M:gM) (n:Nat) (wr:Int):Prop where
 disk:w.heap[q.bd]?=some (.cells #[.slice (some ⟨q.bs,0,none⟩) S.length S.length,.map (some q.bm),.int .i64 wr] 134 (0,0))
 safe:w.heap[q.bs]?=some (.cells (S.map eE).toArray 5 (0,0))
 dirty:j5 w D q.bm n M
 size:∃k,S.length=k*128/\64<=k/\k<=4096
 out:∀b,b=q.bd\/b=q.bs\/b=q.bm->¬D b
section
variable {w w':World}{D F:Nat->Prop}{q:g9}{S:List UInt8}{M:gM}{n:Nat}{wr:Int}
theorem fj.keep(h:fj w D q S M n wr)(hk:b_ F w w')(hq:∀b,b=q.bd\/b=q.bs\/b=q.bm->F b)(hF:∀b,b<w.heap.size->D b->F b):fj w' D q S M n wr :=
 ⟨(hk.block q.bd (Array.getElem?_eq_some_iff.1 h.disk).1 (hq _ (.inl rfl))).trans h.disk,(hk.block q.bs (Array.getElem?_eq_some_iff.1 h.safe).1 (hq _ (.inr (.inl rfl)))).trans h.safe,h.dirty.keep hk (hq _ (.inr (.inr rfl))) hF,h.size,h.out⟩
theorem fj.new(h:fj w D q S M n wr)(hk:New w w'):fj w' D q S M n wr:=h.keep hk (fun _ _=>zt) fun _ _ _=>trivial
theorem fj.lt(h:fj w D q S M n wr):∀b,b=q.bd\/b=q.bs\/b=q.bm->b<w.heap.size:=by
 rintro b (rfl|rfl|rfl)
 ·exact(Array.getElem?_eq_some_iff.1 h.disk).1
 ·exact(Array.getElem?_eq_some_iff.1 h.safe).1
 exact h.dirty.lt
theorem fj.ne(h:fj w D q S M n wr):q.bd≠q.bs/\q.bd≠q.bm/\q.bs≠q.bm:=by
 have h1:=h.disk
 have h2:=h.safe
 obtain⟨E,⟨b,a,h3,_⟩,_⟩:=h.dirty
 refine⟨fun e=>?_,fun e=>?_,fun e=>?_⟩
 ·rw[e,h2] at h1;injection h1 with h1;injection h1 with _ ht;exact absurd ht Zd
 ·rw[e,h3] at h1;injection h1 with h1;cases h1
 rw[e,h3] at h2;injection h2 with h2;cases h2
theorem fj.sector(h:fj w D q S M n wr){i:Nat}(hi:(i+1)*128<=S.length):Bs w (fun b=>b=q.bs) (some ⟨q.bs,i*128,none⟩) 128 ((S.drop (i*128)).take 128):=by
 refine⟨by simp;omega,fun _=>⟨q.bs,i*128,rfl,rfl,(Array.getElem?_eq_some_iff.1 h.safe).1,fun k u a=>?_⟩⟩
 rw[cell_of_row _ _ _ _ _ (0,0) h.safe]
 rw[List.getElem?_map,List.getElem?_take] at a
 split at a
 ·rw[List.getElem?_drop] at a
  simpa using a
 cases a
end
theorem wo(S bs:List UInt8)(off:Nat):splice (S.map eE) off (bs.map eE)=(splice S off bs).map eE:=by simp[splice,List.map_take,List.map_drop]
theorem wu{cur:Array Value}{fr:Nat×Nat}(hg:w.heap[g]?=some (.cells cur t fr))(cs:Array Value):(w.setRow g cs).heap[g]?=some (.cells cs t fr):=setRow_heap w g cur cs t fr hg
theorem yL(w:World)(g:Nat)(cs:Array Value):b_ (fun b=>b≠g) w (w.setRow g cs):=⟨rfl,rfl,rfl,by simp[World.setRow],fun k _ hd=>setRow_other w g k cs (fun e=>hd e)⟩
theorem Dm{P:Program}{H:Type}{k e:TypeId}(ht:P.underlying t=some (.map k e)){R:Value->Option (DataW H×List MemPlace)}{b n:Nat}{E:DataW H}(hown:w.ownsMap P k R b n E):
  ∃w',(∀ty,(Builtin.clear_ #[t] ty #[.map (some b)]).run P w=.ok (.tuple #[]) w')/\w'.ownsMap P k R b 0 (.map [])/\b_ (fun i=>i≠b) w w'/\w'.heap.size=w.heap.size:=by
 obtain⟨d,a,hb,F,hs,rfl⟩:=hown
 have hlt:b<w.heap.size:=(Zl hb)
 refine⟨{ w with heap:=w.heap.setIfInBounds b (.map #[] a) },fun ty=>?_,⟨#[],a,?_,⟨by simp,MapKept.stamped_empty a,by simp⟩,zr,rfl⟩,⟨rfl,rfl,rfl,by simp,fun i hi c=>?_⟩,by simp⟩
 ·simp[Builtin.clear_,run_underlying ht,MapKept.run_getObj_map hb,MapKept.run_setObj_map _ hb,Result.andThen]
 ·simp[hlt]
 simp[Ne.symm c]
theorem tl{off:Nat}{L b:List UInt8}{D:Nat->Prop}{A:Option Addr}{m:Nat}(hg:w.heap[g]?=some (.cells (L.map eE).toArray 5 (0,0)))(hB:Bs w D A m b)(hm:0<m)(dLen dCap cap:Nat)(hl:m<=dLen)(hfit:off+m<=L.length)(ty:TypeId):
  (Builtin.copy_ #[22,22] ty #[.slice (some ⟨g,off,none⟩) dLen dCap,.slice A m cap]).run prog w=.ok (goInt m) (w.setRow g ((splice L off b).map eE).toArray):=by
 have a:=hB.len
 obtain⟨d,f,rfl,_,_,hc⟩:=hB.2 hm
 have h:=run_copy_row prog w 22 22 ty 5 g off dLen dCap ⟨d,f,none⟩ m cap (L.map eE).toArray 5 (b.map eE) underlying22 (by obtain⟨i,hi,_,c,_⟩:=info_parts nV;rw[hi];exact congrArg some c) hg
  (by rw[List.length_map,a];exact(Nat.min_eq_left hl).symm) (fun j v hj=>by rw[Addr.add_lit];exact hc j v hj) (by simpa[a] using hfit) (kT b)
 rw[List.length_map,a] at h
 have e:((L.map eE).toArray.toList.take off++b.map eE++(L.map eE).toArray.toList.drop (off+m))=(splice L off b).map eE:=by
  rw[<- wo]
  simp[splice,a]
 rw[e] at h
 exact h
