/-
  PROVED HERE: plain law: a proof's bytes are read as that proof, and what is read is just what is written; no condition.
-/
import Derived.Test.YtfegdgaanmcecaaGreatDoorPkK15
import Derived.Test.YtfegdgaanmcecaaGreatDoorPkK44
import Derived.Test.YtfegdgaanmcecaaGreatDoorPkK48
namespace Go.Proofs.YtfegdgaanmcecaaGreatDoor
open Go.RowKit

theorem shortB_iff {n : Int} : shortB n = true ↔ 0 ≤ n ∧ n ≤ 65535 := by unfold shortB; rw [decide_eq_true_eq]
theorem fine_parts {h : HeadP} (hf : fineHead h = true) : (0 ≤ h.index ∧ h.index ≤ 65535) ∧ (0 ≤ h.count ∧ h.count ≤ 65535) ∧ (0 ≤ h.bytes ∧ h.bytes ≤ 65535) ∧ h.first ≤ 1099511627776 ∧ h.prev.length = 32 ∧ h.root.length = 32 := by
  unfold fineHead at hf
  simp only [Bool.and_eq_true, decide_eq_true_eq, shortB_iff] at hf
  exact ⟨hf.1.1, hf.1.2.1, hf.1.2.2, hf.2.1, hf.2.2.1, hf.2.2.2⟩
theorem num_beI (k : Nat) (n : Int) (rest : List UInt8) (h0 : 0 ≤ n) (h1 : n < 256 ^ k) : ∃ m : Nat, RdS.num ⟨beI k n ++ rest, 0⟩ k = (m, ⟨rest, 0⟩) ∧ (m : Int) = n :=
  ⟨beNat (beI k n), RdS.num_cut _ _ _ (beI_length k n).symm, beNat_beI k n h0 h1⟩
theorem getHead_cut (h : HeadP) (rest : List UInt8) (hf : fineHead h = true) (h0 : 0 ≤ h.first) : getHead ⟨headBytes h ++ rest, 0⟩ = (h, ⟨rest, 0⟩) := by
  obtain ⟨f1, f2, f3, f4, f5, f6⟩ := fine_parts hf
  have h8 : h.first < 256 ^ 8 := by
    have e : (256 : Int) ^ 8 = 18446744073709551616 := by decide
    omega
  obtain ⟨m1, e1, g1⟩ := num_beI 2 h.index (beI 8 h.first ++ (beI 2 h.count ++ (beI 2 h.bytes ++ (h.prev ++ (h.root ++ rest))))) f1.1 (by omega)
  obtain ⟨m2, e2, g2⟩ := num_beI 8 h.first (beI 2 h.count ++ (beI 2 h.bytes ++ (h.prev ++ (h.root ++ rest)))) h0 h8
  obtain ⟨m3, e3, g3⟩ := num_beI 2 h.count (beI 2 h.bytes ++ (h.prev ++ (h.root ++ rest))) f2.1 (by omega)
  obtain ⟨m4, e4, g4⟩ := num_beI 2 h.bytes (h.prev ++ (h.root ++ rest)) f3.1 (by omega)
  have e5 := RdS.raw_cut h.prev (h.root ++ rest) 32 (by decide) (by omega)
  have e6 := RdS.raw_cut h.root rest 32 (by decide) (by omega)
  have e : headBytes h ++ rest = beI 2 h.index ++ (beI 8 h.first ++ (beI 2 h.count ++ (beI 2 h.bytes ++ (h.prev ++ (h.root ++ rest))))) := by unfold headBytes; simp only [List.append_assoc]
  rw [e]
  simp only [getHead, e1, e2, e3, e4, e5, e6]
  rw [g1, g2, g3, g4]
theorem getRows_cut (ls : List (List UInt8)) (rest : List UInt8) (hl : (ls.all fun b => b.length == 32) = true) : ∀ k, k ≤ ls.length → getRows k ⟨ls.flatten ++ rest, 0⟩ = (ls.take k, ⟨(ls.drop k).flatten ++ rest, 0⟩)
  | 0, _ => rfl
  | k + 1, hk => by
    have hlk : k < ls.length := by omega
    have h32 : ls[k].length = 32 := by have h := List.all_eq_true.1 hl ls[k] (List.getElem_mem hlk); simpa using h
    rw [getRows, getRows_cut ls rest hl k (by omega)]
    dsimp only
    rw [List.drop_eq_getElem_cons hlk, List.flatten_cons, List.append_assoc, RdS.raw_cut _ _ 32 (by decide) (by omega), List.take_add_one, List.getElem?_eq_getElem hlk]
    rfl
theorem getHeads_cut (ls : List HeadP) (rest : List UInt8) (hl : (ls.all fineHead) = true) (h0 : ∀ h ∈ ls, 0 ≤ h.first) : ∀ k, k ≤ ls.length → getHeads k ⟨(ls.map headBytes).flatten ++ rest, 0⟩ = (ls.take k, ⟨((ls.drop k).map headBytes).flatten ++ rest, 0⟩)
  | 0, _ => rfl
  | k + 1, hk => by
    have hlk : k < ls.length := by omega
    have hfx := List.all_eq_true.1 hl ls[k] (List.getElem_mem hlk)
    rw [getHeads, getHeads_cut ls rest hl h0 k (by omega)]
    dsimp only
    rw [List.drop_eq_getElem_cons hlk, List.map_cons, List.flatten_cons, List.append_assoc, getHead_cut _ _ hfx (h0 _ (List.getElem_mem hlk)), List.take_add_one, List.getElem?_eq_getElem hlk]
    rfl
/-- a proof that may be written. -/
structure GoodP (p : ProofP) : Prop where
  right : rightProof p = true
  first : 0 ≤ p.head.first
  later : ∀ h ∈ p.later, 0 ≤ h.first
theorem decParts_cut (p : ProofP) (rest : List UInt8) (hg : GoodP p) : decParts (proofBytes p ++ rest) = (p, ⟨rest, 0⟩) := by
  obtain ⟨hl1, hl2, hl3, hl4, hl5, hl6⟩ := right_parts hg.right
  have hpl : 0 ≤ p.place ∧ p.place ≤ 65535 := by
    have h := hg.right
    unfold rightProof at h
    simp only [Bool.and_eq_true, decide_eq_true_eq, shortB_iff] at h
    exact h.2.1
  obtain ⟨m1, e1, g1⟩ := num_beI 2 p.place (lenBytes p.leaf ++ (beI 1 (p.path.length : Nat) ++ (p.path.flatten ++ (beI 2 (p.later.length : Nat) ++ ((p.later.map headBytes).flatten ++ rest))))) hpl.1 (by omega)
  have hlb : lenBytes p.leaf = beI 2 (p.leaf.length : Nat) ++ p.leaf := by unfold lenBytes; rw [Nat.min_eq_left hl1, List.take_of_length_le hl1]
  obtain ⟨m2, e2, g2⟩ := num_beI 2 (p.leaf.length : Nat) (p.leaf ++ (beI 1 (p.path.length : Nat) ++ (p.path.flatten ++ (beI 2 (p.later.length : Nat) ++ ((p.later.map headBytes).flatten ++ rest))))) (by omega) (by omega)
  have g2' : m2 = p.leaf.length := by omega
  subst g2'
  have e3 := RdS.raw_zero p.leaf (beI 1 (p.path.length : Nat) ++ (p.path.flatten ++ (beI 2 (p.later.length : Nat) ++ ((p.later.map headBytes).flatten ++ rest)))) (p.leaf.length : Nat) rfl
  have e4 : RdS.lenRow ⟨lenBytes p.leaf ++ (beI 1 (p.path.length : Nat) ++ (p.path.flatten ++ (beI 2 (p.later.length : Nat) ++ ((p.later.map headBytes).flatten ++ rest)))), 0⟩ = (p.leaf, ⟨beI 1 (p.path.length : Nat) ++ (p.path.flatten ++ (beI 2 (p.later.length : Nat) ++ ((p.later.map headBytes).flatten ++ rest))), 0⟩) := by
    unfold RdS.lenRow
    rw [hlb, List.append_assoc, e2]
    exact e3
  obtain ⟨m5, e5, g5⟩ := num_beI 1 (p.path.length : Nat) (p.path.flatten ++ (beI 2 (p.later.length : Nat) ++ ((p.later.map headBytes).flatten ++ rest))) (by omega) (by omega)
  have g5' : m5 = p.path.length := by omega
  subst g5'
  have e6 := getRows_cut p.path (beI 2 (p.later.length : Nat) ++ ((p.later.map headBytes).flatten ++ rest)) hl4 p.path.length (Nat.le_refl _)
  rw [List.take_of_length_le (Nat.le_refl _), List.drop_eq_nil_of_le (Nat.le_refl _), List.flatten_nil, List.nil_append] at e6
  obtain ⟨m7, e7, g7⟩ := num_beI 2 (p.later.length : Nat) ((p.later.map headBytes).flatten ++ rest) (by omega) (by omega)
  have g7' : m7 = p.later.length := by omega
  subst g7'
  have e8 := getHeads_cut p.later rest hl5 hg.later p.later.length (Nat.le_refl _)
  rw [List.take_of_length_le (Nat.le_refl _), List.drop_eq_nil_of_le (Nat.le_refl _), List.map_nil, List.flatten_nil, List.nil_append] at e8
  have e0 := getHead_cut p.head (beI 2 p.place ++ (lenBytes p.leaf ++ (beI 1 (p.path.length : Nat) ++ (p.path.flatten ++ (beI 2 (p.later.length : Nat) ++ ((p.later.map headBytes).flatten ++ rest)))))) hl6 hg.first
  have e : proofBytes p ++ rest = headBytes p.head ++ (beI 2 p.place ++ (lenBytes p.leaf ++ (beI 1 (p.path.length : Nat) ++ (p.path.flatten ++ (beI 2 (p.later.length : Nat) ++ ((p.later.map headBytes).flatten ++ rest)))))) := by unfold proofBytes; simp only [List.append_assoc]
  rw [e]
  simp only [decParts, e0, e1, e4, e5, e6, e7, e8]
  rw [g1]
/-- back from its bytes. -/
theorem decode_bytes (p : ProofP) (hg : GoodP p) : decodeOf (proofBytes p) = (p, 0) := by
  have h := decParts_cut p [] hg
  rw [List.append_nil] at h
  unfold decodeOf
  rw [h, if_pos ⟨rfl, hg.right⟩]










/-! ### what is read is what is written -/












































































































































/-! ### a chain's -/
theorem chainHead_fine (id : List UInt8) (l : List (List (List UInt8))) {i : Nat} (hi : i ≤ 1000) : fineHead (chainHead i (chainTo id l i).next (chainTo id l i).prev (segRecs id l i)) = true ∧ 0 ≤ (chainHead i (chainTo id l i).next (chainTo id l i).prev (segRecs id l i)).first := by
  have ho := chain_ok id l i hi
  have q0 := ho.next0
  have q1 := ho.next1
  have hf := chain_fine (i := i) (next := (chainTo id l i).next) (raw := l.getD i []) hi (by omega) (by omega) ho.prev
  have h6 : (segRecs id l i).length ≤ 6 := (chainRecs_length _ _).2
  have hr := hf.room
  refine ⟨?_, by show 0 ≤ (chainTo id l i).next; omega⟩
  unfold fineHead chainHead
  simp only [Bool.and_eq_true, decide_eq_true_eq, shortB_iff]
  have e : chainRecs (chainTo id l i).next (l.getD i []) = segRecs id l i := rfl
  rw [e] at hr
  exact ⟨⟨⟨by omega, by omega⟩, ⟨by omega, by omega⟩, by omega, by omega⟩, by omega, ho.prev, rootOf_length _⟩
theorem chain_good (id : List UInt8) (l : List (List (List UInt8))) {n i : Nat} (hn : n ≤ 1000) (hi : i < n) {s : Int} (h0 : (chainTo id l i).next ≤ s) (h1 : s < (chainTo id l (i + 1)).next) : GoodP (chainProof id l n i s) := by
  have hc := chainHead_fine id l (i := i) (by omega)
  have h6 : (segRecs id l i).length ≤ 6 := (chainRecs_length _ _).2
  have e1 : (chainTo id l (i + 1)).next = (chainTo id l i).next + (segRecs id l i).length := rfl
  have hall : ∀ h ∈ (chainTo id l n).heads.drop (i + 1), fineHead h = true ∧ 0 ≤ h.first := fun h hh => by
    obtain ⟨k, hk, rfl⟩ := List.mem_iff_getElem.1 (List.mem_of_mem_drop hh)
    have hkn : k < n := by rwa [chain_heads_len] at hk
    have h2 := chain_head_at id l k n hkn
    rw [List.getElem?_eq_getElem hk] at h2
    injection h2 with h2
    rw [h2]
    exact chainHead_fine id l (by omega)
  refine ⟨?_, hc.2, fun h hh => (hall h hh).2⟩
  unfold rightProof chainProof madeProof
  simp only [Bool.and_eq_true, decide_eq_true_eq, shortB_iff, List.all_eq_true]
  have hll : (leavesOf (segRecs id l i)).length = (segRecs id l i).length := by unfold leavesOf; rw [List.length_map]
  refine ⟨hc.1, ⟨by omega, by omega⟩, Nat.le_trans (leaf_small _ _) (by decide), ?_, ?_, fun b hb => ?_, fun h hh => (hall h hh).1⟩
  · have := pathOf_le (leavesOf (segRecs id l i)) (s - (chainTo id l i).next).toNat
    omega
  · rw [List.length_drop, chain_heads_len]; omega
  · have := pathOf_lens _ (leavesOf (segRecs id l i)) _ rfl b hb
    simpa using this
end Go.Proofs.YtfegdgaanmcecaaGreatDoor
