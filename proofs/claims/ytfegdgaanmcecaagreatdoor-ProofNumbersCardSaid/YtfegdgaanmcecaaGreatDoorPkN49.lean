/-
  PROVED HERE: what ProofNumbers asks of plain lists and of memory: the segments that it writes, a proof that is turned; no condition.
-/
import Derived.Test.YtfegdgaanmcecaaGreatDoorPkN48
namespace Go.Proofs.YtfegdgaanmcecaaGreatDoor
open Go.RowKit
/-! ### three segments -/
def segs3 : List (List (List UInt8)) := [[[1], [2], [3]], [], [[4], [5]]]
def img3 (i : Nat) : List UInt8 := segBytes i (chainTo id24 segs3 i).next (chainTo id24 segs3 i).prev (segRecs id24 segs3 i)
theorem imgs3 : (chainTo id24 segs3 3).images = [img3 0, img3 1, img3 2] := rfl
theorem img3_read (i : Nat) (hi : i ≤ 1000) : segRead (img3 i) = (chainHead i (chainTo id24 segs3 i).next (chainTo id24 segs3 i).prev (segRecs id24 segs3 i), segRecs id24 segs3 i, 0) := by
 have ho := chain_ok id24 segs3 i hi
 have q0 := ho.next0
 have q1 := ho.next1
 exact (chain_fine (i := i) (next := (chainTo id24 segs3 i).next) (raw := segs3.getD i []) hi (by omega) (by omega) ho.prev).read
theorem make_two {b0 b1 : List UInt8} {h0 h1 : HeadP} {r0 r1 : List RecP} {y : Int} (e1 : segRead b1 = (h1, r1, 0)) (e0 : segRead b0 = (h0, r0, y)) (hn : y ≠ 0 ∨ h0.index ≠ IntKind.i64.wrap (h1.index + 1)) : makeOf [b1, b0] 1 = (noProof, 40) := by
 have h : gather none [b1, b0] = none := by
  rw [gather, e1, if_pos ⟨rfl, rfl⟩, gather, e0, if_neg]
  ·rfl
  ·rintro ⟨h2, h3⟩
   rcases hn with hn | hn
   ·exact hn h2
   ·have h4 : followOf h1 h0 = true := h3
    unfold followOf at h4
    simp only [Bool.and_eq_true, beq_iff_eq] at h4
    exact hn h4.1.1
 unfold makeOf
 rw [h]
theorem make_swap : makeOf [img3 1, img3 0] 1 = (noProof, 40) := by
 refine make_two (img3_read 1 (by decide)) (img3_read 0 (by decide)) (.inr ?_)
 have h0 : ∀ n s p r, (chainHead n s p r).index = (n : Int) := fun _ _ _ _ => rfl
 rw [h0, h0]
 decide
theorem make_short : makeOf [img3 0, []] 1 = (noProof, 40) := by
 have h2 : segRead [] = (noHead, [], 1) := by unfold segRead; rw [if_pos (by decide)]
 exact make_two (img3_read 0 (by decide)) h2 (.inl (by decide))
theorem make_nil : makeOf [] 1 = (noProof, 20) := rfl
theorem encodeOf_small (p : ProofP) : (encodeOf p).1.length ≤ 10000000 := by
 by_cases h : rightProof p = true
 ·obtain ⟨h1, h2, h3, h4, h5, h6⟩ := right_parts h
  have hf := fine_lens h6
  have f1 : p.path.flatten.length = 32 * p.path.length := by have := flat_len p.path p.path.length (Nat.le_refl _) h4; rwa [List.take_of_length_le (Nat.le_refl _)] at this
  have f2 : (p.later.map headBytes).flatten.length = 78 * p.later.length := by have := heads_len p.later p.later.length (Nat.le_refl _) h5; rwa [List.take_of_length_le (Nat.le_refl _)] at this
  have hlb : (lenBytes p.leaf).length ≤ 65537 := by unfold lenBytes; rw [List.length_append, beI_length, List.length_take]; omega
  unfold encodeOf
  rw [if_pos h]
  dsimp only
  unfold proofBytes
  rw [List.length_append, List.length_append, List.length_append, List.length_append, List.length_append, List.length_append, f1, f2, headBytes_length, beI_length, beI_length, beI_length]
  omega
 ·unfold encodeOf
  rw [if_neg h]
  exact Nat.zero_le _
/-! ### a proof in one block -/
def PCell (w : World) (g : Nat) (y : ProofP) : Prop :=
 ∃ (P1 R1 L1 Pa1 La1 : Option Addr) (p1 r1 lc1 pc1 lac1 : Nat), w.heap[g]? = some (.cells #[.int .i64 y.head.index, .int .u64 y.head.first, .int .i64 y.head.count, .int .i64 y.head.bytes, .slice P1 y.head.prev.length p1, .slice R1 y.head.root.length r1, .int .i64 y.place, .slice L1 y.leaf.length lc1, .slice Pa1 y.path.length pc1, .slice La1 y.later.length lac1] 50 (0, 0)) ∧ PrAt w (fun _ => True) y P1 R1 L1 Pa1 p1 r1 lc1 pc1 ∧ Heads w (fun _ => True) La1 y.later.length y.later ∧ SmallP y ∧ y.path.length ≤ 1000
theorem row_cells (w : World) (t : TypeId) (cs : Array Value) (g n : Nat) (hg : g = w.heap.size) (h : cs.size = n * 1) : Row (w.alloc (.cells cs t)) (fun _ => True) (some ⟨g, 0, none⟩) n 1 cs.toList := by
 subst hg
 exact (Row.made w t cs n 1 h).imp fun _ _ _ => trivial
theorem heads_first {w : World} {D : Nat → Prop} {A : Option Addr} {n : Nat} {vs : List Value} {h : HeadP} {hs : List HeadP} {z : Int} (hrow : Row w D A n 6 (vs.set 0 (.int .i64 z))) (hl : (h :: hs).length = n) (hat : ∀ k (hk : k < (h :: hs).length), HeadAt w D vs (k * 6) (h :: hs)[k]) : Heads w D A n ({ h with index := z } :: hs) := by
 have hvl : vs.length = n * 6 := by have := hrow.1; rwa [List.length_set] at this
 have hn : 0 < n := by rw [← hl]; simp
 refine ⟨_, hrow, by rw [← hl]; rfl, fun k hk => ?_⟩
 obtain ⟨Q1, q1, Q2, q2, e0, e1, e2, e3, e4, e5, rest⟩ := hat k (by simpa using hk)
 cases k with
 | zero =>
  refine ⟨Q1, q1, Q2, q2, ?_, ?_, ?_, ?_, ?_, ?_, rest⟩
  ·rw [List.getElem?_set_self (by omega)]; rfl
  all_goals rw [List.getElem?_set_ne (by omega)]
  ·exact e1
  ·exact e2
  ·exact e3
  ·exact e4
  ·exact e5
 | succ k =>
  refine ⟨Q1, q1, Q2, q2, ?_, ?_, ?_, ?_, ?_, ?_, rest⟩
  all_goals rw [List.getElem?_set_ne (by omega)]
  ·exact e0
  ·exact e1
  ·exact e2
  ·exact e3
  ·exact e4
  ·exact e5
def z32c : Array Value := (List.replicate 32 (Value.int .u8 0)).toArray
def z32 : List UInt8 := List.replicate 32 0
theorem z32_list : z32c.toList = z32.map byteVal := rfl
theorem make_z32 (w : World) : (Instr.makeSlice 31 (.int .i64 32) (.int .i64 32)).run Tryz.prog w = .ok (.slice (some ⟨w.heap.size, 0, none⟩) 32 32) (w.alloc (.cells z32c 5)) := by kernel_rfl
theorem bs_z32 (w : World) : Bs (w.alloc (.cells z32c 5)) (fun b => w.heap.size ≤ b) (some ⟨w.heap.size, 0, none⟩) 32 z32 := by
 have h := Row.made w 5 z32c 32 1 rfl
 rwa [z32_list] at h
end Go.Proofs.YtfegdgaanmcecaaGreatDoor
