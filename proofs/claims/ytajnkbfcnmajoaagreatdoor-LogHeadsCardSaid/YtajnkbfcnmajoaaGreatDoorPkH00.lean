/-
  PROVED HERE: texts that belong together, one behind the other; what each proves, and under which conditions, its own opening remark says: World21, Do2, Do0, Image21, AgainLaw.
-/
import Derived.Test.YtajnkbfcnmajoaaGreatDoorPkB25
import Derived.Test.YtajnkbfcnmajoaaGreatDoorPkB34
import Derived.Test.YtajnkbfcnmajoaaGreatDoorPkB35
import Derived.Test.YtajnkbfcnmajoaaGreatDoorPkB38
import Derived.Test.YtajnkbfcnmajoaaGreatDoorPkB39
/-
  PROVED HERE: plain lemmas on chapter 21's world in memory: its lists, its log, its disk, and that they lie apart; no program is in sight but for numbers of types.
-/
namespace Go.Proofs.YtajnkbfcnmajoaaGreatDoor
open Go.RowKit
def lvOf (v : W21V) (s : LogS) : LogV := ⟨v.k, v.p, v.g, s.segs.length, (logOf id21 s.segs).next, (logOf id21 s.segs).prev, s.waits⟩
structure Mid (w : World) (D DL : Nat → Prop) (base bw : Nat) (q : DiskB) (v : W21V) (s : LogS) (lv : LogV) (A : Option Addr) (c : Nat) (S : List UInt8) : Prop where
 doc : DocAt w D base bw v s
 on : LogOn w DL base v.bl q lv A c S
 bd : v.bd = q.bd
 cross1 : ∀ b, DL b → b ≠ bw ∧ some b ≠ blk v.Aw ∧ some b ≠ blk v.Ah ∧ some b ≠ blk v.Aa ∧ some b ≠ blk v.Ai
 cross2 : ∀ b, D b → b ≠ v.bl ∧ DiskOf q b ∧ some b ≠ blk A
 low : base ≤ bw ∧ base ≤ v.bl ∧ base ≤ q.bd ∧ base ≤ q.bs ∧ base ≤ q.bm
 size : base ≤ w.heap.size
structure WAt (J : Prop) (w : World) (D DL : Nat → Prop) (base bw : Nat) (q : DiskB) (v : W21V) (s : LogS) (A : Option Addr) (c : Nat) (S : List UInt8) : Prop where
 mid : Mid w D DL base bw q v s (lvOf v s) A c S
 st : LogSt id21 v.g s
 m : v.m = refOf id21 v.g s
 laid : J ∨ LaidOn S v.p v.g (logOf id21 s.segs).images
section
variable {w w' : World} {D DL F : Nat → Prop} {base bw : Nat} {q : DiskB} {v : W21V} {s : LogS} {lv : LogV} {A : Option Addr} {c : Nat} {S : List UInt8}
structure Apart (bw : Nat) (q : DiskB) (v : W21V) (A : Option Addr) : Prop where
 wl : bw ≠ v.bl
 wd : DiskOf q bw
 wA : blk A ≠ some bw
 l : blk v.Aw ≠ some v.bl ∧ blk v.Ah ≠ some v.bl ∧ blk v.Aa ≠ some v.bl ∧ blk v.Ai ≠ some v.bl
 d : (∀ k, blk v.Aw = some k → DiskOf q k) ∧ (∀ k, blk v.Ah = some k → DiskOf q k) ∧ (∀ k, blk v.Aa = some k → DiskOf q k) ∧ (∀ k, blk v.Ai = some k → DiskOf q k)
 A : (∀ k, blk v.Aw = some k → blk A ≠ some k) ∧ (∀ k, blk v.Ah = some k → blk A ≠ some k) ∧ (∀ k, blk v.Aa = some k → blk A ≠ some k) ∧ (∀ k, blk v.Ai = some k → blk A ≠ some k)
theorem other_type {w : World} {g g' : Nat} {cs cs' : Array Value} {t t' : TypeId} {f f' : Nat × Nat} (h : w.heap[g]? = some (.cells cs t f)) (h' : w.heap[g']? = some (.cells cs' t' f')) (ht : t ≠ t') : g ≠ g' := by
 rintro rfl
 rw [h] at h'
 injection h' with h'
 injection h' with _ h2
 exact ht h2
theorem other_map {w : World} {g g' : Nat} {cs : Array Value} {t : TypeId} {f : Nat × Nat} (h : w.heap[g]? = some (.cells cs t f)) (h' : ∃ es clock, w.heap[g']? = some (.map es clock)) : g ≠ g' := by
 rintro rfl
 obtain ⟨es, clock, h1⟩ := h'
 rw [h] at h1
 injection h1 with h1
 cases h1
theorem own_map {w : World} {base : Nat} {t : TypeId} {size n c : Nat} {A : Option Addr} {xs : List Value} (h : Own w base t size A n c xs) {g : Nat} (hg : ∃ es clock, w.heap[g]? = some (.map es clock)) : blk A ≠ some g := by
 intro e
 rcases h.2 with ⟨hv, _⟩ | ⟨g2, cap2, cur2, hv, _, hg2, _⟩
 ·injection hv with hA; subst hA; cases e
 ·injection hv with hA; subst hA
  have : g2 = g := by injection e
  subst this
  exact other_map hg2 hg rfl
theorem Mid.apart (h : Mid w D DL base bw q v s lv A c S) : Apart bw q v A := by
 obtain ⟨_, _, hl, _⟩ := h.on.log.cells
 obtain ⟨wr, hd⟩ := h.on.disk
 obtain ⟨E, ⟨es, clock, hm, _⟩, _⟩ := hd.dirty
 have hm' : ∃ es clock, w.heap[q.bm]? = some (.map es clock) := ⟨es, clock, hm⟩
 have hb := h.doc.cells
 obtain ⟨_, h0⟩ := h.on.log.waits.own
 obtain ⟨_, h1⟩ := h.doc.waits.own
 obtain ⟨_, h2⟩ := h.doc.heads.own
 obtain ⟨_, h3⟩ := h.doc.all.own
 obtain ⟨_, h4⟩ := h.doc.image.own
 have dsk : ∀ {t : TypeId} {size n c : Nat} {B : Option Addr} {xs : List Value}, Own w base t size B n c xs → t ≠ 92 → t ≠ 5 → ∀ k, blk B = some k → DiskOf q k := fun {t size n c B xs} ho t1 t2 k hk =>
  ⟨fun e => own_not ho hd.disk t1 (by rw [hk, e]), fun e => own_not ho hd.safe t2 (by rw [hk, e]), fun e => own_map ho hm' (by rw [hk, e])⟩
 exact ⟨other_type hb hl (by decide), ⟨other_type hb hd.disk (by decide), other_type hb hd.safe (by decide), other_map hb hm'⟩, own_not h0 hb (by decide),
  ⟨own_not h1 hl (by decide), own_not h2 hl (by decide), own_not h3 hl (by decide), own_not h4 hl (by decide)⟩,
  ⟨dsk h1 (by decide) (by decide), dsk h2 (by decide) (by decide), dsk h3 (by decide) (by decide), dsk h4 (by decide) (by decide)⟩,
  ⟨own_two h0 h1 (by decide), own_two h0 h2 (by decide), own_two h0 h3 (by decide), own_two h0 h4 (by decide)⟩⟩
theorem Mid.new (h : Mid w D DL base bw q v s lv A c S) (hk : New w w') : Mid w' D DL base bw q v s lv A c S := ⟨h.doc.new hk, h.on.new hk, h.bd, h.cross1, h.cross2, h.low, Nat.le_trans h.size hk.size⟩
theorem WAt.new {J : Prop} (h : WAt J w D DL base bw q v s A c S) (hk : New w w') : WAt J w' D DL base bw q v s A c S := ⟨h.mid.new hk, h.st, h.m, h.laid⟩
theorem Mid.docs (h : Mid w D DL base bw q v s lv A c S) (hk : Keep (fun j => j ≠ bw ∧ some j ≠ blk v.Aw ∧ some j ≠ blk v.Ah ∧ some j ≠ blk v.Aa ∧ some j ≠ blk v.Ai) w w') :
  LogOn w' DL base v.bl q lv A c S :=
 let a := h.apart
 h.on.keep hk ⟨a.wl.symm, fun e => a.l.1 e.symm, fun e => a.l.2.1 e.symm, fun e => a.l.2.2.1 e.symm, fun e => a.l.2.2.2 e.symm⟩
  (fun k hk => ⟨fun e => a.wA (by rw [hk, e]), fun e => a.A.1 k e.symm hk, fun e => a.A.2.1 k e.symm hk, fun e => a.A.2.2.1 k e.symm hk, fun e => a.A.2.2.2 k e.symm hk⟩)
  (fun b hb => h.cross1 b hb)
  (fun b hb => ⟨fun e => diskOf_not hb (e ▸ a.wd), fun e => diskOf_not hb (a.d.1 b e.symm), fun e => diskOf_not hb (a.d.2.1 b e.symm), fun e => diskOf_not hb (a.d.2.2.1 b e.symm), fun e => diskOf_not hb (a.d.2.2.2 b e.symm)⟩)
theorem Mid.logs (h : Mid w D DL base bw q v s lv A c S) (hk : Keep (fun j => j ≠ v.bl ∧ DiskOf q j ∧ some j ≠ blk A) w w') : DocAt w' D base bw v s :=
 let a := h.apart
 h.doc.keep hk ⟨a.wl, a.wd, fun e => a.wA e.symm⟩ (fun k hk => ⟨fun e => a.l.1 (by rw [hk, e]), a.d.1 k hk, fun e => a.A.1 k hk e.symm⟩) (fun k hk => ⟨fun e => a.l.2.1 (by rw [hk, e]), a.d.2.1 k hk, fun e => a.A.2.1 k hk e.symm⟩)
  (fun k hk => ⟨fun e => a.l.2.2.1 (by rw [hk, e]), a.d.2.2.1 k hk, fun e => a.A.2.2.1 k hk e.symm⟩) (fun k hk => ⟨fun e => a.l.2.2.2 (by rw [hk, e]), a.d.2.2.2 k hk, fun e => a.A.2.2.2 k hk e.symm⟩) (fun b hb => h.cross2 b hb)
theorem Mid.log {DL' : Nat → Prop} {lv' : LogV} {A' : Option Addr} {c' : Nat} {S' : List UInt8} (h : Mid w D DL base bw q v s lv A c S) (hk : Keep (fun j => j ≠ v.bl ∧ DiskOf q j ∧ some j ≠ blk A) w w') (hl : LogOn w' DL' base v.bl q lv' A' c' S') (hDL : ∀ b, DL' b → DL b ∨ w.heap.size ≤ b) (hA : blk A' = blk A ∨ ∀ k, blk A' = some k → w.heap.size ≤ k) :
  Mid w' (fun b => D b ∧ b < w.heap.size) DL' base bw q v s lv' A' c' S' := by
 have hd := h.logs hk
 have l1 := h.doc.waits.lt
 have l2 := h.doc.heads.lt
 have l3 := h.doc.all.lt
 have l4 := h.doc.image.lt
 have l0 := h.doc.cells.lt
 refine ⟨(DocAt.imp (h.doc) (F := fun b => D b ∧ b < w.heap.size) (fun b hb hd => ⟨hd, hb⟩) (fun b hb => h.doc.out b hb.1)).keep hk ?_ ?_ ?_ ?_ ?_ ?_, hl, h.bd, fun b hb => ?_, fun b hb => ⟨(h.cross2 b hb.1).1, (h.cross2 b hb.1).2.1, fun e => ?_⟩, h.low, Nat.le_trans h.size hk.size⟩
 ·have a := h.apart; exact ⟨a.wl, a.wd, fun e => a.wA e.symm⟩
 ·have a := h.apart; exact fun k hk => ⟨fun e => a.l.1 (by rw [hk, e]), a.d.1 k hk, fun e => a.A.1 k hk e.symm⟩
 ·have a := h.apart; exact fun k hk => ⟨fun e => a.l.2.1 (by rw [hk, e]), a.d.2.1 k hk, fun e => a.A.2.1 k hk e.symm⟩
 ·have a := h.apart; exact fun k hk => ⟨fun e => a.l.2.2.1 (by rw [hk, e]), a.d.2.2.1 k hk, fun e => a.A.2.2.1 k hk e.symm⟩
 ·have a := h.apart; exact fun k hk => ⟨fun e => a.l.2.2.2 (by rw [hk, e]), a.d.2.2.2 k hk, fun e => a.A.2.2.2 k hk e.symm⟩
 ·exact fun b hb => h.cross2 b hb.1
 ·rcases hDL b hb with h1 | h1
  ·exact h.cross1 b h1
  ·exact ⟨by omega, fun e => by have := (l1 b e.symm).2; omega, fun e => by have := (l2 b e.symm).2; omega, fun e => by have := (l3 b e.symm).2; omega, fun e => by have := (l4 b e.symm).2; omega⟩
 ·rcases hA with h1 | h1
  ·exact (h.cross2 b hb.1).2.2 (e.trans h1)
  ·have := h1 b e.symm; have := hb.2; omega
theorem Mid.setm {m' : RefL} (h : Mid w D DL base bw q v s lv A c S) (hk : Keep (fun j => j ≠ bw) w w') (hc : W21At w' bw { v with m := m' }) : Mid w' D DL base bw q { v with m := m' } s lv A c S := by
 have a := h.apart
 have n := h.doc.no
 refine ⟨⟨hc, h.doc.nw, h.doc.nh, h.doc.na, h.doc.ni, h.doc.waits.keepE hk (fun k hk e => n.1 (by rw [hk, e])) (fun b hb => (h.doc.out b hb).1), h.doc.heads.keepE hk (fun k hk e => n.2.1 (by rw [hk, e])) (fun b hb => (h.doc.out b hb).1),
  h.doc.all.keepE hk (fun k hk e => n.2.2.1 (by rw [hk, e])) (fun b hb => (h.doc.out b hb).1), h.doc.image.keepE hk (fun k hk e => n.2.2.2 (by rw [hk, e])) (fun b hb => (h.doc.out b hb).1), h.doc.out, h.doc.apart⟩,
  h.docs (hk.imp fun _ _ hj => hj.1), h.bd, h.cross1, h.cross2, h.low, Nat.le_trans h.size hk.size⟩
theorem Mid.lists {D' : Nat → Prop} {v' : W21V} {s' : LogS} (h : Mid w D DL base bw q v s lv A c S) (hk : Keep (fun j => j ≠ bw ∧ some j ≠ blk v.Aw ∧ some j ≠ blk v.Ah ∧ some j ≠ blk v.Aa ∧ some j ≠ blk v.Ai) w w') (hd : DocAt w' D' base bw v' s') (hb : v'.bd = v.bd) (hl : v'.bl = v.bl) (hD : ∀ b, D' b → D b ∨ w.heap.size ≤ b)
  (hr : RowsOf w v v') :
  Mid w' D' (fun b => DL b ∧ b < w.heap.size) base bw q v' s' lv A c S := by
 have ho := h.docs hk
 have hol : LogOn w (fun b => DL b ∧ b < w.heap.size) base v.bl q lv A c S := ⟨h.on.log.imp (fun b hb hd => ⟨hd, hb⟩) (fun hd => h.on.log.out hd.1), h.on.disk, h.on.size, h.on.plan, h.on.apart, h.on.row, fun b hb => h.on.data b hb.1⟩
 have h2 : Mid w D (fun b => DL b ∧ b < w.heap.size) base bw q v s lv A c S := ⟨h.doc, hol, h.bd, fun b hb => h.cross1 b hb.1, h.cross2, h.low, h.size⟩
 have hq := h.on.disk.lt
 have hbl := h.on.log.lt
 have hA := h.on.log.rowLt
 have row : ∀ {B B' : Option Addr}, (∀ k, blk B' = some k → blk B = some k ∨ w.heap.size ≤ k) → ∀ b, b < w.heap.size → some b ≠ blk B → some b ≠ blk B' := fun {B B'} hor b hb hne e => by
  rcases hor b e.symm with h1 | h1
  ·exact hne h1.symm
  ·omega
 obtain ⟨hw, hh, ha, hi⟩ := hr
 refine ⟨hd, by rw [hl]; exact h2.docs hk, hb.trans h.bd, fun b hb => ?_, fun b hb => ?_, ⟨h.low.1, by rw [hl]; exact h.low.2.1, h.low.2.2⟩, Nat.le_trans h.size hk.size⟩
 ·obtain ⟨c1, c2, c3, c4, c5⟩ := h.cross1 b hb.1
  exact ⟨c1, row hw b hb.2 c2, row hh b hb.2 c3, row ha b hb.2 c4, row hi b hb.2 c5⟩
 ·rw [hl]
  rcases hD b hb with h1 | h1
  ·exact h.cross2 b h1
  ·exact ⟨by omega, h.on.disk.beyond b h1, fun e => by have := (hA b e.symm).2; omega⟩
end
/-
  PROVED HERE: what chapter 21's world.do answers where it is asked to seal, or nothing it knows: true, and the world stays one; conditions: the world is as WAt says.
-/
section
variable {w w' : World} {D DL F : Nat → Prop} {base bw : Nat} {q : DiskB} {v : W21V} {s : LogS} {lv : LogV} {A : Option Addr} {c : Nat} {S : List UInt8}
theorem Mid.below (h : Mid w D DL base bw q v s lv A c S) (hk : Keep (fun j => j ≠ bw ∧ j ≠ v.bl ∧ DiskOf q j ∧ some j ≠ blk A ∧ some j ≠ blk v.Aw ∧ some j ≠ blk v.Ah ∧ some j ≠ blk v.Aa ∧ some j ≠ blk v.Ai) w w') : Keep (fun b => b < base) w w' := by
 obtain ⟨l1, l2, l3, l4, l5⟩ := h.low
 exact hk.imp fun j _ hj => ⟨by omega, by omega, ⟨by omega, by omega, by omega⟩, fun e => by have := (h.on.log.rowLt j e.symm).1; omega, fun e => by have := (h.doc.waits.lt j e.symm).1; omega, fun e => by have := (h.doc.heads.lt j e.symm).1; omega, fun e => by have := (h.doc.all.lt j e.symm).1; omega, fun e => by have := (h.doc.image.lt j e.symm).1; omega⟩
def FarOf (bw : Nat) (q : DiskB) (v : W21V) (A : Option Addr) (b : Nat) : Prop := b ≠ bw ∧ b ≠ v.bl ∧ DiskOf q b ∧ some b ≠ blk A ∧ some b ≠ blk v.Aw ∧ some b ≠ blk v.Ah ∧ some b ≠ blk v.Aa ∧ some b ≠ blk v.Ai
theorem Mid.lowFar (h : Mid w D DL base bw q v s lv A c S) : ∀ b, b < base → b < w.heap.size ∧ FarOf bw q v A b := fun b hb => by
 obtain ⟨l1, l2, l3, l4, l5⟩ := h.low
 have := h.size
 exact ⟨by omega, by omega, by omega, ⟨by omega, by omega, by omega⟩, fun e => by have := (h.on.log.rowLt b e.symm).1; omega, fun e => by have := (h.doc.waits.lt b e.symm).1; omega, fun e => by have := (h.doc.heads.lt b e.symm).1; omega, fun e => by have := (h.doc.all.lt b e.symm).1; omega, fun e => by have := (h.doc.image.lt b e.symm).1; omega⟩
theorem Mid.newFar (h : Mid w D DL base bw q v s lv A c S) : ∀ b, w.heap.size ≤ b → FarOf bw q v A b := fun b hb =>
 ⟨by have := h.doc.cells.lt; omega, by have := h.on.log.lt; omega, h.on.disk.beyond b hb, fun e => by have := (h.on.log.rowLt b e.symm).2; omega, fun e => by have := (h.doc.waits.lt b e.symm).2; omega, fun e => by have := (h.doc.heads.lt b e.symm).2; omega, fun e => by have := (h.doc.all.lt b e.symm).2; omega, fun e => by have := (h.doc.image.lt b e.symm).2; omega⟩
theorem Mid.withFar {E : Nat → Prop} (h : Mid w D DL base bw q v s lv A c S) (hE : ∀ b, E b → FarOf bw q v A b) : Mid w (fun b => D b ∨ E b) DL base bw q v s lv A c S :=
 ⟨h.doc.imp (fun b _ hd => .inl hd) (fun b hb => hb.elim (h.doc.out b) fun hb => by obtain ⟨e1, e2, e3, e4, e5⟩ := hE b hb; exact ⟨e1, e5⟩), h.on, h.bd, h.cross1, fun b hb => hb.elim (h.cross2 b) fun hb => by obtain ⟨e1, e2, e3, e4, e5⟩ := hE b hb; exact ⟨e2, e3, e4⟩, h.low, h.size⟩
def Do1Ret (J : Prop) (w : World) (D DL B : Nat → Prop) (base bw : Nat) (q : DiskB) (v : W21V) (A : Option Addr) (s' : LogS) (e : Ending) (w' : World) : Prop := e = .returned (.bool true) ∧ Keep (fun b => b < w.heap.size ∧ FarOf bw q v A b) w w' ∧
 ∃ (v' : W21V) (D' DL' : Nat → Prop) (A' : Option Addr) (c' : Nat) (S' : List UInt8), WAt J w' D' DL' base bw q v' s' A' c' S' ∧ v'.k = v.k ∧ v'.p = v.p ∧ v'.g = v.g ∧ (∀ b, b < w.heap.size → FarOf bw q v A b → FarOf bw q v' A' b) ∧ ∀ b, b < w.heap.size → (D' b → D b ∨ B b) ∧ (DL' b → DL b)
theorem far_row {b n : Nat} {B B2 : Option Addr} (ho : ∀ k, blk B2 = some k → blk B = some k ∨ n ≤ k) (hn : some b ≠ blk B) (hb : b < n) : some b ≠ blk B2 := fun e => (ho b e.symm).elim (fun h1 => hn h1.symm) (fun h1 => by omega)
theorem small_of {id : List UInt8} {n : Nat} (h : LogSt id n s) : (refOf id n s).Small := by
 have h1 := h.room
 have h2 := h.few
 have h3 := h.bytes
 have h4 := wait_many h.right
 have h5 := h.time
 have h6 := h.fine.ok.next
 refine ⟨?_, ?_, ?_, ?_, ?_⟩ <;> simp only [refOf] <;> omega
theorem lv_shut (h : LogSt id21 v.g s) : (lvOf v s).shut = lvOf v s.shut := by
 unfold LogV.shut LogS.shut
 by_cases hz : s.waits.length = 0
 ·rw [if_pos hz, if_pos (show (lvOf v s).waits.length = 0 from hz)]
 ·rw [if_neg hz, if_neg (show ¬ (lvOf v s).waits.length = 0 from hz)]
  unfold lvOf
  dsimp only
  rw [logOf_snoc]
  unfold logStep
  dsimp only
  rw [h.fine.ok.heads, List.length_append, List.length_singleton]
theorem disk_shut (h : LogSt id21 v.g s) {S : List UInt8} (hl : LaidOn S v.p v.g (logOf id21 s.segs).images) (hfit : ∀ i, i < v.g → placeAt v.p i + 1024 ≤ S.length) : LaidOn ((lvOf v s).disk S) v.p v.g (logOf id21 s.shut.segs).images := by
 unfold LogV.disk LogS.shut
 by_cases hz : s.waits.length = 0
 ·rw [if_pos (show (lvOf v s).waits.length = 0 from hz), if_pos hz]; exact hl
 ·rw [if_neg (show ¬ (lvOf v s).waits.length = 0 from hz), if_neg hz]
  have ho := h.fine.ok
  have hs := h.seg hz
  have hf := h.free hz
  dsimp only
  rw [logOf_snoc]
  show LaidOn (splice S (placeAt v.p s.segs.length) (segBytes (s.segs.length : Nat) (logOf id21 s.segs).next (logOf id21 s.segs).prev s.waits)) v.p v.g ((logOf id21 s.segs).images ++ [segBytes ((logOf id21 s.segs).heads.length : Nat) (logOf id21 s.segs).next (logOf id21 s.segs).prev s.waits])
  rw [ho.heads]
  have hw := hl.write (b := segBytes (s.segs.length : Nat) (logOf id21 s.segs).next (logOf id21 s.segs).prev s.waits) (by rw [ho.images]; exact hf) (segBytes_length _ _ _ _ hs.prev hs.room) (by rw [ho.images]; exact hfit _ hf)
  rw [ho.images] at hw
  exact hw
theorem mid_seal (h : Mid w D DL base bw q v s lv A c S) (hs : LogSt id21 v.g s) :
  Calls Tryz.prog 30 #[.pointer (some ⟨bw, 0, none⟩)] w fun e w' => e = .returned (.tuple #[]) ∧ Keep (fun b => b < base) w w' ∧ Keep (fun j => j ≠ bw ∧ some j ≠ blk v.Ah ∧ some j ≠ blk v.Aa ∧ some j ≠ blk v.Ai) w w' ∧
   ∃ (v' : W21V) (D' DL' : Nat → Prop), Mid w' D' DL' base bw q v' s.shut lv A c S ∧ (v'.bl = v.bl ∧ v'.k = v.k ∧ v'.p = v.p ∧ v'.g = v.g ∧ v'.m = v.m) ∧ RowsOf w v v' ∧ ∀ b, b < w.heap.size → (D' b → D b) ∧ (DL' b → DL b) := by
 by_cases hz : s.waits.length = 0
 ·refine (wseal_none h.doc.cells (by rw [h.doc.nw]; exact hz)).mono ?_
  rintro e w' ⟨rfl, hk⟩
  refine ⟨rfl, Keep.of_new hk, Keep.of_new hk, v, D, DL, ?_, ⟨rfl, rfl, rfl, rfl, rfl⟩, ⟨fun k hk => .inl hk, fun k hk => .inl hk, fun k hk => .inl hk, fun k hk => .inl hk⟩, fun _ _ => ⟨id, id⟩⟩
  unfold LogS.shut
  rw [if_pos hz]
  exact h.new hk
 ·have hn := hs.fine.ok.next
  have ht := hs.time
  refine (wseal_any h.doc h.size (hs.seg hz) hs.fine (by omega)).mono ?_
  rintro e w' ⟨rfl, hk, v', D', hd, ⟨b1, b2, b3, b4, b5, b6⟩, hr, hD⟩
  refine ⟨rfl, h.below (hk.imp fun j _ hj => ⟨hj.1, hj.2.2.2.2.2.1, hj.2.2.2.2.2.2.1, hj.2.2.2.2.2.2.2⟩), hk, v', D', (fun b => DL b ∧ b < w.heap.size), ?_, ⟨b2, b3, b4, b5, b6⟩, hr, fun b hb => ⟨fun h1 => (hD b h1).elim id (fun h2 => absurd hb (by omega)), fun h1 => h1.1⟩⟩
  unfold LogS.shut
  rw [if_neg hz]
  exact h.lists (hk.imp fun j _ hj => ⟨hj.1, hj.2.2⟩) hd b1 b2 hD hr
theorem WAt.fit {J : Prop} (h : WAt J w D DL base bw q v s A c S) : ∀ i, i < v.g → placeAt v.p i + 1024 ≤ S.length := fun i hi => by
 have h1 := layPlan h.mid.on.plan (i := i) hi
 have h2 := h.mid.on.size
 rw [h2]
 show (1 + 2 * v.p + i * 8) * 128 + 1024 ≤ v.k * 128
 have : (lvOf v s).s = v.k := rfl
 have : (lvOf v s).p = v.p := rfl
 omega
theorem WAt.same {J : Prop} (h : WAt J w D DL base bw q v s A c S) : Calls Tryz.prog 27 #[.pointer (some ⟨bw, 0, none⟩)] w fun e w' => e = .returned (.bool true) ∧ New w w' := by
 have hl := h.mid.on.log
 rw [← h.mid.bd] at hl
 have hm := h.m
 refine same_any h.mid.doc.cells hl h.mid.doc.heads.sl ?_ ?_ ?_ ?_ rfl ?_
 ·rw [hm]; rfl
 ·rw [h.mid.doc.nh]; rfl
 ·rw [hm, h.mid.doc.nh]; rfl
 ·rw [h.mid.doc.nw]; rfl
 ·exact h.st.fine.ok.last
set_option maxRecDepth 100000 in
set_option maxHeartbeats 1000000 in
theorem do2_any {J : Prop} (h : WAt J w D DL base bw q v s A c S) (by' : Int) (mk : Bool) (Ab : Option Addr) (nb cb : Nat) :
  Calls Tryz.prog 10 #[.pointer (some ⟨bw, 0, none⟩), .agg #[.int .i64 2, .int .i64 by', .bool mk, .slice Ab nb cb]] w (Do1Ret J w D DL (fun _ => False) base bw q v A s.shut) := by
 have k1 := (New.refl w).alloc (.cells #[.int .i64 2, .int .i64 by', .bool mk, .slice Ab nb cb] 27)
 have x0 := cellOf (heap_alloc_new w (.cells #[.int .i64 2, .int .i64 by', .bool mk, .slice Ab nb cb] 27)) (k := 0) rfl
 have h1 := h.new k1
 have c7 : (w.alloc (.cells #[.int .i64 2, .int .i64 by', .bool mk, .slice Ab nb cb] 27)).cell? ⟨bw, 7, none⟩ = some (.pointer (some ⟨v.bl, 0, none⟩)) := h1.mid.doc.cells.cell rfl
 have HSL := Lib.hid (lseal_any h1.mid.on (fun hne => ⟨h.st.seg hne, h.st.free hne⟩))
 have HK1 := Lib.hid k1
 have H1 := Lib.hid h1
 clear h1 k1
 generalize hw1 : w.alloc (.cells #[.int .i64 2, .int .i64 by', .bool mk, .slice Ab nb cb] 27) = w1 at *
 go_enter Tryz.func10, Tryz.ntmps10
 go_wp2_with fail
 refine HSL.out.mono ?_
 rintro e w2 ⟨rfl, k2, A2, c2, hl2, hA2⟩
 clear x0 c7 HSL hw1
 have hA2' : blk A2 = blk A ∨ ∀ k, blk A2 = some k → w1.heap.size ≤ k := hA2.elim (fun e => .inl (by rw [e])) (fun e => .inr fun k hk => by rw [e] at hk; cases hk)
 have m2 := H1.out.mid.log (k2.imp fun j _ hj => ⟨hj.1, hj.2.1⟩) hl2 (fun b hb => hb) hA2'
 have HA2 := Lib.hid hA2'
 have HRS := Lib.hid (rseal_any m2.doc.cells (by rw [h.m]; exact small_of h.st))
 have HM2 := Lib.hid m2
 have HB2 := Lib.hid ((Keep.of_new (D := fun b => b < w.heap.size ∧ FarOf bw q v A b) HK1.out).trans (k2.imp fun j _ hj => ⟨hj.2.2.1, hj.2.2.2.1⟩))
 clear k2 hl2 hA2 hA2' m2
 go_wp2_with fail
 refine HRS.out.mono ?_
 rintro e w3 ⟨rfl, k3, hc3⟩
 have m3 := HM2.out.setm k3 hc3
 have HWS := Lib.hid (mid_seal m3 h.st)
 have HZ3 : Hid (w.heap.size ≤ w3.heap.size) := Lib.hid (by have h1 := HB2.out.size; have h2 := k3.size; omega)
 have HB3 := Lib.hid (HB2.out.trans (k3.imp fun j _ hj e => hj.2.1 e))
 clear k3 hc3 m3 HRS HM2 HB2
 go_wp2_with fail
 refine HWS.out.mono ?_
 rintro e w4 ⟨rfl, -, b4, v4, D4, DL4, m4, ⟨q1, q2, q3, q4, q5⟩, hr4, hd4⟩
 have hfin : WAt J w4 D4 DL4 base bw q v4 s.shut A2 c2 ((lvOf v s).disk S) := by
  have hlv : lvOf v4 s.shut = (lvOf v s).shut := by rw [lv_shut h.st]; unfold lvOf; rw [q2, q3, q4]
  refine ⟨by rw [hlv]; exact m4, by rw [q4]; exact h.st.sealed, ?_, ?_⟩
  ·rw [q5, q4]
   show v.m.shut = _
   rw [h.m, ref_seal]
  ·rw [q3, q4]
   exact h.laid.imp id fun hl => disk_shut h.st hl h.fit
 have HSM := Lib.hid hfin.same
 have HF := Lib.hid hfin
 have HB4 := Lib.hid (HB3.out.trans (b4.imp fun j _ hj => ⟨hj.2.1, hj.2.2.2.2.2.2.1, hj.2.2.2.2.2.2.2.1, hj.2.2.2.2.2.2.2.2⟩))
 have HDX : Hid (∀ b, b < w.heap.size → (D4 b → D b ∨ False) ∧ (DL4 b → DL b)) := Lib.hid (fun b hb => by
  have hz := HZ3.out
  have hz1 := HK1.out.size
  exact ⟨fun h1 => .inl ((hd4 b (by omega)).1 h1).1, fun h1 => ((hd4 b (by omega)).2 h1).elim id (fun h2 => by have h2 : w1.heap.size ≤ b := h2; omega)⟩)
 have HFX : Hid (∀ b, b < w.heap.size → FarOf bw q v A b → FarOf bw q v4 A2 b) := Lib.hid (fun b hb hf => by
  obtain ⟨f1, f2, f3, f4, f5, f6, f7, f8⟩ := hf
  have hz := HZ3.out
  have hz1 := HK1.out.size
  exact ⟨f1, by rw [q1]; exact f2, f3, far_row (fun k hk => HA2.out.elim (fun e => .inl (e ▸ hk)) (fun e => .inr (e k hk))) f4 (show b < w1.heap.size by omega), far_row hr4.1 f5 (by omega), far_row hr4.2.1 f6 (by omega), far_row hr4.2.2.1 f7 (by omega), far_row hr4.2.2.2 f8 (by omega)⟩)
 have HQ := Lib.hid (And.intro q2 (And.intro q3 q4))
 clear hfin b4 m4 q1 q2 q3 q4 q5 hr4 hd4 HWS HB3
 go_wp2_with fail
 refine HSM.out.mono ?_
 rintro e w5 ⟨rfl, k5⟩
 go_wp2_with fail
 go_ret
 exact ⟨rfl, HB4.out.new k5, v4, D4, DL4, A2, c2, _, HF.out.new k5, HQ.out.1, HQ.out.2.1, HQ.out.2.2, HFX.out, HDX.out⟩
end
/-
  PROVED HERE: what chapter 21's world.do answers where it is asked nothing that it knows; plain lemmas on a record that is taken; conditions: the world is as WAt says.
-/
section
variable {w w' : World} {D DL F : Nat → Prop} {base bw : Nat} {q : DiskB} {v : W21V} {s : LogS} {lv : LogV} {A : Option Addr} {c : Nat} {S : List UInt8}
set_option maxRecDepth 100000 in
set_option maxHeartbeats 1000000 in
theorem do0_any {J : Prop} (h : WAt J w D DL base bw q v s A c S) (ki by' : Int) (hk1 : ki ≠ 1) (hk2 : ki ≠ 2) (hk3 : ki ≠ 3) (mk : Bool) (Ab : Option Addr) (nb cb : Nat) :
  Calls Tryz.prog 10 #[.pointer (some ⟨bw, 0, none⟩), .agg #[.int .i64 ki, .int .i64 by', .bool mk, .slice Ab nb cb]] w fun e w' => e = .returned (.bool true) ∧ New w w' := by
 have k1 := (New.refl w).alloc (.cells #[.int .i64 ki, .int .i64 by', .bool mk, .slice Ab nb cb] 27)
 have x0 := cellOf (heap_alloc_new w (.cells #[.int .i64 ki, .int .i64 by', .bool mk, .slice Ab nb cb] 27)) (k := 0) rfl
 have HSM := Lib.hid (h.new k1).same
 have HK := Lib.hid k1
 have e1 : (ki == 1) = false := by simpa using hk1
 have e2 : (ki == 2) = false := by simpa using hk2
 have e3 : (ki == 3) = false := by simpa using hk3
 clear k1 h hk1 hk2 hk3
 go_enter Tryz.func10, Tryz.ntmps10
 go_wp2_with fail
 refine HSM.out.mono ?_
 rintro e w2 ⟨rfl, k2⟩
 go_wp2_with fail
 go_ret
 exact ⟨rfl, HK.out.new k2⟩
/-! ### a record that is taken -/
def askRec (mk : Bool) (next : Int) (body : List UInt8) : RecP := if mk = true then ⟨2, next, []⟩ else ⟨1, next, body.take 300⟩
theorem ask_right {mk : Bool} {next : Int} {body : List UInt8} (h : next ≤ 1099511627776) : recRight (askRec mk next body) = true := by
 unfold askRec
 split
 ·rw [recRight_def]; exact decide_eq_true ⟨h, by simp, .inr ⟨rfl, rfl⟩⟩
 ·rw [recRight_def]; exact decide_eq_true ⟨h, by simp only [List.length_take]; omega, .inl rfl⟩
theorem ask_seq {mk : Bool} {next : Int} {body : List UInt8} : (askRec mk next body).seq = next := by unfold askRec; split <;> rfl
theorem code_append (_h : LogSt id21 v.g s) (r : RecP) : (lvOf v s).code r = match s.append v.g r with | some _ => 0 | none => 15 := by
 unfold LogV.code LogS.append LogV.fits
 show (if v.g - s.segs.length = 0 then _ else if decide (waitBytes s.waits + recSize r ≤ 942) = true then _ else if v.g - s.segs.length = 1 then _ else _) = _
 by_cases h1 : v.g - s.segs.length = 0
 ·rw [if_pos h1, if_pos h1]
 ·rw [if_neg h1, if_neg h1]
  by_cases h2 : waitBytes s.waits + recSize r ≤ 942
  ·rw [if_pos (decide_eq_true h2), if_pos h2]
  ·rw [if_neg (by simpa using h2), if_neg h2]
   by_cases h3 : v.g - s.segs.length = 1
   ·rw [if_pos h3, if_pos h3]
   ·rw [if_neg h3, if_neg h3]
theorem wait_some {n : Nat} (_h : LogSt id21 n s) {r : RecP} (hr : recRight r = true) (h2 : ¬ waitBytes s.waits + recSize r ≤ 942) : s.waits.length ≠ 0 := by
 intro e
 have hnil := List.eq_nil_of_length_eq_zero e
 rw [hnil] at h2
 have hs : recSize r ≤ 942 := by
  have := recRight_def r
  rw [hr] at this
  unfold recSize
  rw [if_pos hr]
  have := of_decide_eq_true this.symm
  omega
 simp [waitBytes, leavesOf] at h2
 omega
theorem lv_append (h : LogSt id21 v.g s) {r : RecP} (hr : recRight r = true) {s' : LogS} (he : s.append v.g r = some s') : (lvOf v s).append r = lvOf v s' := by
 have hc := code_append h r
 rw [he] at hc
 unfold LogV.append
 rw [if_neg (by rw [hc]; exact (by decide : ¬ (0 : Int) = 15))]
 unfold LogS.append at he
 split at he
 ·cases he
 ·split at he
  ·rename_i h2
   injection he with he
   subst he
   rw [if_pos (show (lvOf v s).fits r = true from decide_eq_true h2)]
   rfl
  ·rename_i h2
   split at he
   ·cases he
   ·injection he with he
    subst he
    rw [if_neg (show ¬ (lvOf v s).fits r = true from fun q => h2 (of_decide_eq_true q)), lv_shut h]
    unfold LogS.shut
    rw [if_neg (wait_some h hr h2)]
    rfl
theorem disk_append (h : LogSt id21 v.g s) {r : RecP} (hr : recRight r = true) {s' : LogS} (he : s.append v.g r = some s') {S : List UInt8} (hl : LaidOn S v.p v.g (logOf id21 s.segs).images) (hfit : ∀ i, i < v.g → placeAt v.p i + 1024 ≤ S.length) :
  LaidOn ((lvOf v s).adisk r S) v.p v.g (logOf id21 s'.segs).images := by
 have hc := code_append h r
 rw [he] at hc
 unfold LogV.adisk
 rw [if_neg (by rw [hc]; exact (by decide : ¬ (0 : Int) = 15))]
 unfold LogS.append at he
 split at he
 ·cases he
 ·split at he
  ·rename_i h2
   injection he with he
   subst he
   rw [if_pos (show (lvOf v s).fits r = true from decide_eq_true h2)]
   exact hl
  ·rename_i h2
   split at he
   ·cases he
   ·injection he with he
    subst he
    rw [if_neg (show ¬ (lvOf v s).fits r = true from fun q => h2 (of_decide_eq_true q))]
    have hd := disk_shut h hl hfit
    unfold LogS.shut at hd
    rw [if_neg (wait_some h hr h2)] at hd
    exact hd
end
end Go.Proofs.YtajnkbfcnmajoaaGreatDoor
/-
  PROVED HERE: what disk.Image answers where nothing is unsafe; condition: the disk is as Clean says.
-/
namespace Go.Proofs.YtajnkbfcnmajoaaGreatDoor
open Go.RowKit
open Go.Maps (Keyed)
set_option maxRecDepth 100000 in
theorem image_any {w : World} {q : DiskB} {S : List UInt8} (h : Clean w q S) :
  Calls Tryz.prog 33 #[.pointer (some ⟨q.bd, 0, none⟩)] w fun e w' => (∃ A' c', e = .returned (.slice A' S.length c') ∧ Bs w' (fun b => w.heap.size ≤ b) A' S.length S ∧ S.length ≤ c' ∧ c' ≤ 9223372036854775807) ∧ New w w' := by
 obtain ⟨wr0, hd⟩ := h
 obtain ⟨k, hk, hk0, hk1⟩ := hd.size
 have hdisk := hd.disk
 have hlt := hd.lt
 obtain ⟨n, hn⟩ : ∃ n, n = S.length := ⟨_, rfl⟩
 have hbs := hd.row
 rw [← hn] at hdisk hbs ⊢
 have hn9 : n ≤ 1000000 := by omega
 have c0 : w.cell? ⟨q.bd, 0, none⟩ = some (.slice (some ⟨q.bs, 0, none⟩) n n) := by rw [cell_of_row _ _ _ _ _ (0, 0) hdisk]; rfl
 have HC := Lib.hid (clone_bytes _ (some ⟨q.bs, 0, none⟩) n n S w hbs (by omega))
 obtain ⟨E, hown, hs⟩ := hd.dirty
 have HS : Hid (∀ x : Int, Maps.has E (.int .i64 x) = false) := Lib.hid fun x => (hs x).1 rfl
 have HD := Lib.hid hdisk
 have HO := Lib.hid hown
 have hbm := hlt q.bm (.inr (.inr rfl))
 clear hd hk hk0 hk1 hn hlt hbs hown hs hdisk
 go_enter Tryz.func33, Tryz.ntmps33
 go_wp2_with fail
 refine HC.out.mono ?_
 rintro e w1 ⟨⟨A', c', rfl, ho⟩, k1⟩
 have hown1 := ownsMap_keep (F := fun _ => True) HO.out k1 trivial
 have c1 : w1.cell? ⟨q.bd, 1, none⟩ = some (.map (some q.bm)) := cellOf (k1.blockAt HD.out trivial) (k := 1) rfl
 have hB := Row.of_own ho
 have hcp := own_cap ho
 have hcm := own_capMax ho
 clear c0 ho HC
 go_wp2_with (first
  | (at_range; refine wpList_range_own _ rfl _ 90 rfl 3 25 keyI Tryz.underlying90 _ q.bm 0 _ rfl hown1 ?_; intro w0 hrg0 hg0 hs0)
  | fail)
 go_frame
 clear c1
 go_loopw [4] (fun _ wr => ∃ (left : Lit → Bool) (cnt : Nat), wr.ranges Tryz.prog 3 heldR q.bm w1.heap.size 0 E left cnt ∧ (∀ kl, left kl = true → Maps.has E kl = true) ∧ Keep (fun b => b < w1.heap.size) w1 wr)
  (fun _ wr => wr.rangeLeft q.bm w1.heap.size)
 case atStart => exact ⟨_, _, hrg0, fun _ h => h, ⟨hg0.os, hg0.tape, hg0.output, hg0.size, fun j hj _ => hg0.block j hj (by simp)⟩⟩
 case round =>
  obtain ⟨left, cnt, hrg, hle, hK⟩ := hrel
  go_wp2_with (first
   | (at_next; refine wpList_next_ranges _ rfl _ rfl 3 keyI heldR (Value.int .i64) (fun c : Value => c) (fun key kl hkey => by obtain ⟨x, rfl, _⟩ := Maps.keyOf_int_inv Tryz.underlying3 hkey; exact ⟨x, rfl⟩) (fun v y hv => ⟨v, rfl⟩) q.bm w1.heap.size 0 _ _ _ rfl hrg ?_ ?_)
   | fail)
  ·intro _ hl0
   go_wp2_with fail
   go_ret
   have kf : New w1 wr := hK.toNew fun j hj => hj
   exact ⟨⟨A', c', rfl, hB.new kf, hcp, hcm⟩, k1.new kf⟩
  ·intro x c kl y ps w2 cnt1 hkey hlk hR hat hrg1 hlt1 hg1 hs1 hen
   exfalso
   obtain ⟨x', ex, rfl, hwx⟩ := Maps.keyOf_int_inv Tryz.underlying3 hkey
   have h1 := hle _ hlk
   rw [HS.out] at h1
   cases h1
end Go.Proofs.YtajnkbfcnmajoaaGreatDoor
/-
  PROVED HERE: plain law on a log that is opened again: what is found behind some segments, and where it ends; no program is in sight.
-/
namespace Go.Proofs.YtajnkbfcnmajoaaGreatDoor
open Go.RowKit
section
variable {id : List UInt8} {l : List (List RecP)}
theorem zip_drop (hf : LogFine id l) {i : Nat} (hil : i < l.length) : ((logOf id l).heads.zip l).drop i = ((logOf id l).heads.getD i noHead, l[i]) :: ((logOf id l).heads.zip l).drop (i + 1) := by
 have hz : i < ((logOf id l).heads.zip l).length := by rw [List.length_zip, hf.ok.heads]; omega
 rw [List.drop_eq_getElem_cons hz, List.getElem_zip]
 congr 2
 rw [List.getD_eq_getElem?_getD, List.getElem?_eq_getElem (by rw [hf.ok.heads]; omega)]
 rfl
theorem head_at (hf : LogFine id l) {i : Nat} (hil : i < l.length) : (logOf id l).heads.getD i noHead = chainHead i (logOf id (l.take i)).next (logOf id (l.take i)).prev l[i] := by
 rw [List.getD_eq_getElem?_getD, hf.ok.head i hil]; rfl
theorem head_next (hf : LogFine id l) {i : Nat} (hil : i < l.length) : ((logOf id l).heads.getD i noHead).first + ((logOf id l).heads.getD i noHead).count = (logOf id (l.take (i + 1))).next := by
 rw [head_at hf hil, logOf_next hil]; rfl
theorem found_end (hf : LogFine id l) : ∀ (m i : Nat), i + m = l.length → foundEnd (logOf id (l.take i)).next (logOf id (l.take i)).prev (((logOf id l).heads.zip l).drop i) = ((logOf id l).next, (logOf id l).prev)
 | 0, i, hi => by
  have hz : ((logOf id l).heads.zip l).length = l.length := by rw [List.length_zip, hf.ok.heads]; omega
  rw [List.drop_eq_nil_of_le (by omega), List.take_of_length_le (by omega)]
  rfl
 | m + 1, i, hi => by
  have hil : i < l.length := by omega
  have ih := found_end hf m (i + 1) (by omega)
  rw [zip_drop hf hil]
  unfold foundEnd
  dsimp only
  rw [head_next hf hil, hf.shut hil]
  exact ih
theorem zip_snd (hf : LogFine id l) (i : Nat) : (((logOf id l).heads.zip l).drop i).map Prod.snd = l.drop i := by
 rw [List.map_drop, List.map_snd_zip (by rw [hf.ok.heads]; exact Nat.le_refl _)]
theorem zip_len (hf : LogFine id l) (i : Nat) : (((logOf id l).heads.zip l).drop i).length = l.length - i := by
 rw [List.length_drop, List.length_zip, hf.ok.heads, Nat.min_self]
theorem head_take (hf : LogFine id l) {i : Nat} (hi : i ≤ l.length) : headSeal id ((logOf id l).heads.take i) = (logOf id (l.take i)).prev := by
 rw [hf.ok.takes i hi]; exact (hf.take i).ok.last.symm
theorem recs_at (hf : LogFine id l) {i k : Nat} (hil : i < l.length) (hk : k < l[i].length) : (logOf id l).recs[((logOf id (l.take i)).recs.length + k)]? = some l[i][k] := by
 have h1 := hf.ok.recs
 have h2 := (hf.take i).ok.recs
 rw [h1, h2]
 have hs : l = l.take i ++ l[i] :: l.drop (i + 1) := by rw [← List.drop_eq_getElem_cons hil, List.take_append_drop]
 have hfl : l.flatten = (l.take i).flatten ++ (l[i] ++ (l.drop (i + 1)).flatten) := by
  conv => lhs; rw [hs]
  rw [List.flatten_append, List.flatten_cons]
 rw [hfl, List.getElem?_append_right (by omega), Nat.add_sub_cancel_left, List.getElem?_append_left hk, List.getElem?_eq_getElem hk]
end
end Go.Proofs.YtajnkbfcnmajoaaGreatDoor
