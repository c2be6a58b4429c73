/-
  PROVED HERE: plain lemmas on a disk in memory: its row of bytes, and its map of the sectors that were written since; no program is in sight but for numbers of types.
-/
import Derived.Maps.OwnSet
import Derived.Maps.RangeWalk
import Derived.Laws.CopyOwn
import Derived.Test.YtdodbdednpnddaaGreatDoorPkT00
namespace Go.Proofs.YtdodbdednpnddaaGreatDoor
open Go.RowKit
open Go.Maps (Keyed)
def heldR (v:Value):Option (DataW Value×List MemPlace):=some (.held v,[])
theorem keyI:Keyed Tryz.prog 3:=Maps.int_keyed Tryz.underlying3
theorem wfI {k:Int}(h0 : -1000000≤k) (h1:k≤1000000):(Lit.int .i64 k).wf=true:=by
 simp [Lit.wf,IntKind.min,IntKind.max,IntKind.signed,IntKind.bits];omega
theorem keyOfI {k:Int}(h:(Lit.int .i64 k).wf=true):keyOf Tryz.prog 3 (.int .i64 k)=some (.int .i64 k):=Maps.keyOf_int_mk Tryz.underlying3 h
abbrev Dirt:=Int→Option (List UInt8)
def Dirt.no:Dirt:=fun _=>none
def Dirt.put (M:Dirt) (i:Int) (b:List UInt8):Dirt:=fun k=>if k=i then some b else M k
def Shows (w:World) (D:Nat→Prop) (E:DataW Value) (M:Dirt):Prop :=
 ∀ k:Int,(M k=none→Maps.has E (.int .i64 k)=false)∧∀ bs,M k=some bs→Maps.has E (.int .i64 k)=true∧0≤k∧k<4096∧bs.length=128∧∃ A c,128≤c∧c≤9223372036854775807∧(∀ zd,E.atKey (.int .i64 k) zd=.held (.slice A 128 c))∧Bs w D A 128 bs
def DirtyAt (w:World) (D:Nat→Prop) (bm n:Nat) (M:Dirt):Prop:=∃ E:DataW Value,w.ownsMap Tryz.prog 3 heldR bm n E∧Shows w D E M
section
variable {w w':World}{D F:Nat→Prop}{E:DataW Value}{M:Dirt}{bm n:Nat}
theorem Shows.keep (h:Shows w D E M) (hk:Keep F w w') (hF:∀ b,b<w.heap.size→D b→F b):Shows w' D E M:=fun k =>
 ⟨(h k).1,fun bs hb=>by
  obtain ⟨h1,h2,h3,h4,A,c,h5,h6,h7,h8⟩:=(h k).2 bs hb
  exact ⟨h1,h2,h3,h4,A,c,h5,h6,h7,h8.keep hk hF⟩⟩
theorem Shows.imp (h:Shows w D E M) (hF:∀ b,b<w.heap.size→D b→F b):Shows w F E M:=fun k =>
 ⟨(h k).1,fun bs hb=>by
  obtain ⟨h1,h2,h3,h4,A,c,h5,h6,h7,h8⟩:=(h k).2 bs hb
  exact ⟨h1,h2,h3,h4,A,c,h5,h6,h7,h8.imp hF⟩⟩
theorem shows_no (w:World) (D:Nat→Prop):Shows w D (.map []) Dirt.no:=fun k=>⟨fun _=>rfl,fun bs hb=>by cases hb⟩
theorem ownsMap_keep (h:w.ownsMap Tryz.prog 3 heldR bm n E) (hk:Keep F w w') (hF:F bm):w'.ownsMap Tryz.prog 3 heldR bm n E:=by
 have hlt:=h.lt
 obtain ⟨es,clock,hb,rest⟩:=h
 exact ⟨es,clock,(hk.block bm hlt hF).trans hb,rest⟩
theorem DirtyAt.keep (h:DirtyAt w D bm n M) (hk:Keep F w w') (hb:F bm) (hF:∀ b,b<w.heap.size→D b→F b):DirtyAt w' D bm n M:=by
 obtain ⟨E,h1,h2⟩:=h
 exact ⟨E,ownsMap_keep h1 hk hb,h2.keep hk hF⟩
theorem DirtyAt.imp (h:DirtyAt w D bm n M) (hF:∀ b,b<w.heap.size→D b→F b):DirtyAt w F bm n M:=by
 obtain ⟨E,h1,h2⟩:=h
 exact ⟨E,h1,h2.imp hF⟩
theorem DirtyAt.new (h:DirtyAt w D bm n M) (hk:New w w'):DirtyAt w' D bm n M:=h.keep hk trivial fun _ _ _=>trivial
theorem DirtyAt.lt (h:DirtyAt w D bm n M):bm<w.heap.size:=by obtain ⟨E,h1,_⟩:=h;exact h1.lt
theorem dirty_made (w:World) (D:Nat→Prop):DirtyAt (w.alloc (.map #[] 0)) D w.heap.size 0 Dirt.no:=⟨.map [],World.ownsMap_made w _ _ _,shows_no _ _⟩
theorem Shows.put (h:Shows w D E M) (hE:Maps.IsMap E){i:Int}{b:List UInt8}(h0:0≤i) (h1:i<4096) (hb:b.length=128){A:Option Addr}{c:Nat}(hc:128≤c) (hm:c≤9223372036854775807) (hB:Bs w D A 128 b):
  Shows w D (E.put (.int .i64 i) (.held (.slice A 128 c))) (M.put i b):=by
 have hkey:WideAt.IsKeyLit (.int .i64 i):=keyI.key (keyOfI (wfI (by omega) (by omega)))
 intro k
 by_cases e:k=i
 ·subst e
  refine ⟨fun hn=>?_,fun bs hbs=>?_⟩
  ·simp [Dirt.put] at hn
  ·have:bs=b:=by simpa [Dirt.put] using hbs.symm
   subst this
   exact ⟨Maps.has_put_same hE hkey _,h0,h1,hb,A,c,hc,hm,fun zd=>Maps.atKey_put_same hE hkey _ zd,hB⟩
 ·have hne:(Lit.int .i64 k)≠.int .i64 i:=fun q=>e (by injection q)
  refine ⟨fun hn=>?_,fun bs hbs=>?_⟩
  ·rw [Maps.has_put_other hne];exact (h k).1 (by simpa [Dirt.put,e] using hn)
  ·obtain ⟨g1,g2,g3,g4,A',c',g5,g6,g7,g8⟩:=(h k).2 bs (by simpa [Dirt.put,e] using hbs)
   exact ⟨by rw [Maps.has_put_other hne];exact g1,g2,g3,g4,A',c',g5,g6,fun zd=>by rw [Maps.atKey_put_other hne];exact g7 zd,g8⟩
end
structure DiskB where
 bd:Nat
 bs:Nat
 bm:Nat
structure DiskAt (w:World) (D:Nat→Prop) (q:DiskB) (S:List UInt8) (M:Dirt) (n:Nat) (wr:Int):Prop where
 disk:w.heap[q.bd]?=some (.cells #[.slice (some ⟨q.bs,0,none⟩) S.length S.length,.map (some q.bm),.int .i64 wr] 133 (0,0))
 safe:w.heap[q.bs]?=some (.cells (S.map byteVal).toArray 5 (0,0))
 dirty:DirtyAt w D q.bm n M
 size:∃ k,S.length=k*128∧64≤k∧k≤4096
 out:∀ b,b=q.bd∨b=q.bs∨b=q.bm→¬ D b
section
variable {w w':World}{D F:Nat→Prop}{q:DiskB}{S:List UInt8}{M:Dirt}{n:Nat}{wr:Int}
theorem DiskAt.keep (h:DiskAt w D q S M n wr) (hk:Keep F w w') (hq:∀ b,b=q.bd∨b=q.bs∨b=q.bm→F b) (hF:∀ b,b<w.heap.size→D b→F b):DiskAt w' D q S M n wr :=
 ⟨(hk.block q.bd (Array.getElem?_eq_some_iff.1 h.disk).1 (hq _ (.inl rfl))).trans h.disk,(hk.block q.bs (Array.getElem?_eq_some_iff.1 h.safe).1 (hq _ (.inr (.inl rfl)))).trans h.safe,h.dirty.keep hk (hq _ (.inr (.inr rfl))) hF,h.size,h.out⟩
theorem DiskAt.new (h:DiskAt w D q S M n wr) (hk:New w w'):DiskAt w' D q S M n wr:=h.keep hk (fun _ _=>trivial) fun _ _ _=>trivial
theorem DiskAt.lt (h:DiskAt w D q S M n wr):∀ b,b=q.bd∨b=q.bs∨b=q.bm→b<w.heap.size:=by
 rintro b (rfl|rfl|rfl)
 ·exact (Array.getElem?_eq_some_iff.1 h.disk).1
 ·exact (Array.getElem?_eq_some_iff.1 h.safe).1
 ·exact h.dirty.lt
theorem DiskAt.ne (h:DiskAt w D q S M n wr):q.bd≠q.bs∧q.bd≠q.bm∧q.bs≠q.bm:=by
 have h1:=h.disk
 have h2:=h.safe
 obtain ⟨E,⟨es,clock,h3,_⟩,_⟩:=h.dirty
 refine ⟨fun e=>?_,fun e=>?_,fun e=>?_⟩
 ·rw [e,h2] at h1;injection h1 with h1;injection h1 with _ ht;exact absurd ht (by decide)
 ·rw [e,h3] at h1;injection h1 with h1;cases h1
 ·rw [e,h3] at h2;injection h2 with h2;cases h2
theorem DiskAt.row (h:DiskAt w D q S M n wr):Bs w (fun b=>b=q.bs) (some ⟨q.bs,0,none⟩) S.length S:=by
 refine ⟨by simp,fun _=>⟨q.bs,0,rfl,rfl,(Array.getElem?_eq_some_iff.1 h.safe).1,fun k u hu=>?_⟩⟩
 rw [cell_of_row _ _ _ _ _ (0,0) h.safe]
 simpa using hu
theorem DiskAt.sector (h:DiskAt w D q S M n wr){i:Nat}(hi:(i+1)*128≤S.length):Bs w (fun b=>b=q.bs) (some ⟨q.bs,i*128,none⟩) 128 ((S.drop (i*128)).take 128):=by
 refine ⟨by simp;omega,fun _=>⟨q.bs,i*128,rfl,rfl,(Array.getElem?_eq_some_iff.1 h.safe).1,fun k u hu=>?_⟩⟩
 rw [cell_of_row _ _ _ _ _ (0,0) h.safe]
 rw [List.getElem?_map,List.getElem?_take] at hu
 split at hu
 ·rw [List.getElem?_drop] at hu
  simpa using hu
 ·cases hu
end
theorem splice_bytes (S bs:List UInt8) (off:Nat):splice (S.map byteVal) off (bs.map byteVal)=(splice S off bs).map byteVal:=by simp [splice,List.map_take,List.map_drop]
theorem setRow_block {w:World}{g:Nat}{cur:Array Value}{t:TypeId}{fr:Nat×Nat}(hg:w.heap[g]?=some (.cells cur t fr)) (cs:Array Value):(w.setRow g cs).heap[g]?=some (.cells cs t fr):=setRow_heap w g cur cs t fr hg
theorem keep_setRow (w:World) (g:Nat) (cs:Array Value):Keep (fun b=>b≠g) w (w.setRow g cs):=⟨rfl,rfl,rfl,by simp [World.setRow],fun k _ hd=>setRow_other w g k cs (fun e=>hd e)⟩
theorem run_clear {P:Program}{H:Type}{w:World}{t k e:TypeId}(ht:P.underlying t=some (.map k e)){R:Value→Option (DataW H×List MemPlace)}{b n:Nat}{E:DataW H}(hown:w.ownsMap P k R b n E):
  ∃ w',(∀ ty,(Builtin.clear_ #[t] ty #[.map (some b)]).run P w=.ok (.tuple #[]) w')∧w'.ownsMap P k R b 0 (.map [])∧Keep (fun i=>i≠b) w w'∧w'.heap.size=w.heap.size:=by
 obtain ⟨es,clock,hb,F,hs,rfl⟩:=hown
 have hlt:b<w.heap.size:=(Array.getElem?_eq_some_iff.1 hb).1
 refine ⟨{ w with heap:=w.heap.setIfInBounds b (.map #[] clock) },fun ty=>?_,⟨#[],clock,?_,⟨by simp,MapKept.stamped_empty clock,by simp⟩,Nat.le_refl _,rfl⟩,⟨rfl,rfl,rfl,by simp,fun i hi hne=>?_⟩,by simp⟩
 ·simp [Builtin.clear_,run_underlying ht,MapKept.run_getObj_map hb,MapKept.run_setObj_map _ hb,Result.andThen]
 ·simp [hlt]
 ·simp [Ne.symm hne]
theorem run_copy_bytes {w:World}{g off:Nat}{L b:List UInt8}{D:Nat→Prop}{A:Option Addr}{m:Nat}(hg:w.heap[g]?=some (.cells (L.map byteVal).toArray 5 (0,0))) (hB:Bs w D A m b) (hm:0<m) (dLen dCap cap:Nat) (hl:m≤dLen) (hfit:off+m≤L.length) (ty:TypeId):
  (Builtin.copy_ #[24,24] ty #[.slice (some ⟨g,off,none⟩) dLen dCap,.slice A m cap]).run Tryz.prog w=.ok (goInt m) (w.setRow g ((splice L off b).map byteVal).toArray):=by
 have hbl:=hB.len
 obtain ⟨b',o',rfl,_,_,hc⟩:=hB.2 hm
 have h:=run_copy_row Tryz.prog w 24 24 ty 5 g off dLen dCap ⟨b',o',none⟩ m cap (L.map byteVal).toArray 5 (b.map byteVal) Tryz.underlying24 (by obtain ⟨i,hi,_,hz1,_⟩:=info_parts info_u8;rw [hi];exact congrArg some hz1) hg
  (by rw [List.length_map,hbl];exact (Nat.min_eq_left hl).symm) (fun j v hj=>by rw [Addr.add_lit];exact hc j v hj) (by simpa [hbl] using hfit) (byteVal_one b)
 rw [List.length_map,hbl] at h
 have e:((L.map byteVal).toArray.toList.take off++b.map byteVal++(L.map byteVal).toArray.toList.drop (off+m))=(splice L off b).map byteVal:=by
  rw [← splice_bytes]
  simp [splice,hbl]
 rw [e] at h
 exact h
end Go.Proofs.YtdodbdednpnddaaGreatDoor
