/-
  PROVED HERE: what log.Lay does to a disk of which nothing is unsafe; conditions: the plan is a disk's, the segment is one of it.
-/
import Derived.Test.YtijjhfkgbmckkaaGreatDoorPkF33
import Derived.Test.YtijjhfkgbmckkaaGreatDoorPkF34
namespace Go.Proofs.YtijjhfkgbmckkaaGreatDoor
open Go.RowKit Go.Shelf
open Go.Maps (Keyed)
attribute [local go_sem] Oper.semAt_some
def chunkOf (b : List UInt8) (x : Nat) : List UInt8 := (b.drop (x * 128)).take 128
/-! ### what a turn of a block that is no cells leaves -/
section
variable {w w' : World} {D : Nat → Prop} {row : Option Nat}
theorem Row.other {A : Option Addr} {n size : Nat} {vs : List Value} (h : Row w D A n size vs) (hg : w.grownBy w' row) (hr : ∀ r, row = some r → ∃ o : Obj, w.heap[r]? = some o ∧ o.isCells = false) : Row w' D A n size vs :=
 ⟨h.1, fun hn => let ⟨b, off, e, hd, hl, hc⟩ := h.2 hn; ⟨b, off, e, hd, Nat.lt_of_lt_of_le hl hg.size, fun k u hu => cell_kept (hc k u hu) hg hr⟩⟩
theorem DiskAt.other {q : DiskB} {S : List UInt8} {M : Dirt} {n : Nat} {wr : Int} (h : DiskAt w D q S M n wr) (hg : w.grownBy w' row) (B : Nat) (hB : ∀ b, b = q.bd ∨ b = q.bs ∨ b = q.bm → b < B) (hr : ∀ r, row = some r → B ≤ r ∧ ∃ o : Obj, w.heap[r]? = some o ∧ o.isCells = false) : DiskAt w' D q S M n wr := by
 have hne : ∀ b, b = q.bd ∨ b = q.bs ∨ b = q.bm → some b ≠ row := fun b hb e => by have := (hr b e.symm).1; have := hB b hb; omega
 refine ⟨(hg.block q.bd (h.lt _ (.inl rfl)) (hne _ (.inl rfl))).trans h.disk, (hg.block q.bs (h.lt _ (.inr (.inl rfl))) (hne _ (.inr (.inl rfl)))).trans h.safe, ?_, h.size, h.out⟩
 obtain ⟨E, h1, h2⟩ := h.dirty
 refine ⟨E, h1.kept hg (hne _ (.inr (.inr rfl))), fun k => ⟨(h2 k).1, fun bs hb => ?_⟩⟩
 obtain ⟨g1, g2, g3, g4, A, c, g5, g6, g7, g8⟩ := (h2 k).2 bs hb
 exact ⟨g1, g2, g3, g4, A, c, g5, g6, g7, g8.other hg fun r e => (hr r e).2⟩
end
theorem DiskAt.swap {w : World} {D F : Nat → Prop} {q : DiskB} {S : List UInt8} {n : Nat} {wr : Int} (h : DiskAt w D q S Dirt.no n wr) (hF : ∀ b, b = q.bd ∨ b = q.bs ∨ b = q.bm → ¬ F b) : DiskAt w F q S Dirt.no n wr :=
 ⟨h.disk, h.safe, let ⟨E, h1, h2⟩ := h.dirty; ⟨E, h1, fun k => ⟨(h2 k).1, fun bs hb => by cases hb⟩⟩, h.size, hF⟩
theorem layPlan {k p g i : Nat} (h : planRight k p g = true) (hi : i < g) : 1 + 2 * p + i * 8 + 8 ≤ k ∧ k ≤ 4096 := by
 have := planRight_iff.1 h
 omega
theorem laySeg {k p g i : Nat} (h : planRight k p g = true) (hi : i < g) : segAt k p g i = (((1 + 2 * p + i * 8 : Nat) : Int), 0) := by
 unfold segAt
 rw [if_pos ⟨h, by omega, by omega⟩]
 congr 1
theorem row_part {w : World} {D : Nat → Prop} {bb off n : Nat} {b : List UInt8} (h : Bs w D (some ⟨bb, off, none⟩) n b) {x m : Nat} (hx : x + m ≤ n) : Bs w D (some ⟨bb, off + x, none⟩) m ((b.drop x).take m) := by
 have hl := h.len
 refine ⟨by simp; omega, fun hm => ?_⟩
 obtain ⟨b', o', e, h1, h2, h3⟩ := h.2 (by omega)
 injection e with e
 injection e with e1 e2
 subst e1 e2
 refine ⟨bb, off + x, rfl, h1, h2, fun j u hu => ?_⟩
 rw [Nat.add_assoc]
 refine h3 (x + j) u ?_
 rw [List.getElem?_map, List.getElem?_take] at hu
 split at hu
 ·rw [List.getElem?_drop] at hu; rw [List.getElem?_map]; exact hu
 ·cases hu
end Go.Proofs.YtijjhfkgbmckkaaGreatDoor
