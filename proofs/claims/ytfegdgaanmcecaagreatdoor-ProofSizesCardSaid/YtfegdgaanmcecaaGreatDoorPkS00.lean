/-
  PROVED HERE: lemmas of other texts that this claim asks for beside them; each says its own conditions.
-/
import Derived.Test.YtfegdgaanmcecaaGreatDoorPkT43
namespace Go.Proofs.YtfegdgaanmcecaaGreatDoor
open Go.RowKit
theorem num_beI (k : Nat) (n : Int) (rest : List UInt8) (h0 : 0 ≤ n) (h1 : n < 256 ^ k) : ∃ m : Nat, RdS.num ⟨beI k n ++ rest, 0⟩ k = (m, ⟨rest, 0⟩) ∧ (m : Int) = n :=
 ⟨beNat (beI k n), RdS.num_cut _ _ _ (beI_length k n).symm, beNat_beI k n h0 h1⟩
theorem getHead_cut (h : HeadP) (rest : List UInt8) (hf : fineHead h = true) (h0 : 0 ≤ h.first) : getHead ⟨headBytes h ++ rest, 0⟩ = (h, ⟨rest, 0⟩) := by
 obtain ⟨f1, f2, f3, f4, f5, f6⟩ := fine_parts hf
 have h8 : h.first < 256 ^ 8 := by
  have e : (256 : Int) ^ 8 = 18446744073709551616 := by decide
  omega
 obtain ⟨m1, e1, g1⟩ := num_beI 2 h.index (beI 8 h.first ++ (beI 2 h.count ++ (beI 2 h.bytes ++ (h.prev ++ (h.root ++ rest))))) f1.1 (by omega)
 obtain ⟨m2, e2, g2⟩ := num_beI 8 h.first (beI 2 h.count ++ (beI 2 h.bytes ++ (h.prev ++ (h.root ++ rest)))) h0 h8
 obtain ⟨m3, e3, g3⟩ := num_beI 2 h.count (beI 2 h.bytes ++ (h.prev ++ (h.root ++ rest))) f2.1 (by omega)
 obtain ⟨m4, e4, g4⟩ := num_beI 2 h.bytes (h.prev ++ (h.root ++ rest)) f3.1 (by omega)
 have e5 := RdS.raw_cut h.prev (h.root ++ rest) 32 (by decide) (by omega)
 have e6 := RdS.raw_cut h.root rest 32 (by decide) (by omega)
 have e : headBytes h ++ rest = beI 2 h.index ++ (beI 8 h.first ++ (beI 2 h.count ++ (beI 2 h.bytes ++ (h.prev ++ (h.root ++ rest))))) := by unfold headBytes; simp only [List.append_assoc]
 rw [e]
 simp only [getHead, e1, e2, e3, e4, e5, e6]
 rw [g1, g2, g3, g4]
theorem getRows_cut (ls : List (List UInt8)) (rest : List UInt8) (hl : (ls.all fun b => b.length == 32) = true) : ∀ k, k ≤ ls.length → getRows k ⟨ls.flatten ++ rest, 0⟩ = (ls.take k, ⟨(ls.drop k).flatten ++ rest, 0⟩)
 | 0, _ => rfl
 | k + 1, hk => by
  have hlk : k < ls.length := by omega
  have h32 : ls[k].length = 32 := by have h := List.all_eq_true.1 hl ls[k] (List.getElem_mem hlk); simpa using h
  rw [getRows, getRows_cut ls rest hl k (by omega)]
  dsimp only
  rw [List.drop_eq_getElem_cons hlk, List.flatten_cons, List.append_assoc, RdS.raw_cut _ _ 32 (by decide) (by omega), List.take_add_one, List.getElem?_eq_getElem hlk]
  rfl
theorem getHeads_cut (ls : List HeadP) (rest : List UInt8) (hl : (ls.all fineHead) = true) (h0 : ∀ h ∈ ls, 0 ≤ h.first) : ∀ k, k ≤ ls.length → getHeads k ⟨(ls.map headBytes).flatten ++ rest, 0⟩ = (ls.take k, ⟨((ls.drop k).map headBytes).flatten ++ rest, 0⟩)
 | 0, _ => rfl
 | k + 1, hk => by
  have hlk : k < ls.length := by omega
  have hfx := List.all_eq_true.1 hl ls[k] (List.getElem_mem hlk)
  rw [getHeads, getHeads_cut ls rest hl h0 k (by omega)]
  dsimp only
  rw [List.drop_eq_getElem_cons hlk, List.map_cons, List.flatten_cons, List.append_assoc, getHead_cut _ _ hfx (h0 _ (List.getElem_mem hlk)), List.take_add_one, List.getElem?_eq_getElem hlk]
  rfl
theorem decParts_cut (p : ProofP) (rest : List UInt8) (hg : GoodP p) : decParts (proofBytes p ++ rest) = (p, ⟨rest, 0⟩) := by
 obtain ⟨hl1, hl2, hl3, hl4, hl5, hl6⟩ := right_parts hg.right
 have hpl : 0 ≤ p.place ∧ p.place ≤ 65535 := by
  have h := hg.right
  unfold rightProof at h
  simp only [Bool.and_eq_true, decide_eq_true_eq, shortB_iff] at h
  exact h.2.1
 obtain ⟨m1, e1, g1⟩ := num_beI 2 p.place (lenBytes p.leaf ++ (beI 1 (p.path.length : Nat) ++ (p.path.flatten ++ (beI 2 (p.later.length : Nat) ++ ((p.later.map headBytes).flatten ++ rest))))) hpl.1 (by omega)
 have hlb : lenBytes p.leaf = beI 2 (p.leaf.length : Nat) ++ p.leaf := by unfold lenBytes; rw [Nat.min_eq_left hl1, List.take_of_length_le hl1]
 obtain ⟨m2, e2, g2⟩ := num_beI 2 (p.leaf.length : Nat) (p.leaf ++ (beI 1 (p.path.length : Nat) ++ (p.path.flatten ++ (beI 2 (p.later.length : Nat) ++ ((p.later.map headBytes).flatten ++ rest))))) (by omega) (by omega)
 have g2' : m2 = p.leaf.length := by omega
 subst g2'
 have e3 := RdS.raw_zero p.leaf (beI 1 (p.path.length : Nat) ++ (p.path.flatten ++ (beI 2 (p.later.length : Nat) ++ ((p.later.map headBytes).flatten ++ rest)))) (p.leaf.length : Nat) rfl
 have e4 : RdS.lenRow ⟨lenBytes p.leaf ++ (beI 1 (p.path.length : Nat) ++ (p.path.flatten ++ (beI 2 (p.later.length : Nat) ++ ((p.later.map headBytes).flatten ++ rest)))), 0⟩ = (p.leaf, ⟨beI 1 (p.path.length : Nat) ++ (p.path.flatten ++ (beI 2 (p.later.length : Nat) ++ ((p.later.map headBytes).flatten ++ rest))), 0⟩) := by
  unfold RdS.lenRow
  rw [hlb, List.append_assoc, e2]
  exact e3
 obtain ⟨m5, e5, g5⟩ := num_beI 1 (p.path.length : Nat) (p.path.flatten ++ (beI 2 (p.later.length : Nat) ++ ((p.later.map headBytes).flatten ++ rest))) (by omega) (by omega)
 have g5' : m5 = p.path.length := by omega
 subst g5'
 have e6 := getRows_cut p.path (beI 2 (p.later.length : Nat) ++ ((p.later.map headBytes).flatten ++ rest)) hl4 p.path.length (Nat.le_refl _)
 rw [List.take_of_length_le (Nat.le_refl _), List.drop_eq_nil_of_le (Nat.le_refl _), List.flatten_nil, List.nil_append] at e6
 obtain ⟨m7, e7, g7⟩ := num_beI 2 (p.later.length : Nat) ((p.later.map headBytes).flatten ++ rest) (by omega) (by omega)
 have g7' : m7 = p.later.length := by omega
 subst g7'
 have e8 := getHeads_cut p.later rest hl5 hg.later p.later.length (Nat.le_refl _)
 rw [List.take_of_length_le (Nat.le_refl _), List.drop_eq_nil_of_le (Nat.le_refl _), List.map_nil, List.flatten_nil, List.nil_append] at e8
 have e0 := getHead_cut p.head (beI 2 p.place ++ (lenBytes p.leaf ++ (beI 1 (p.path.length : Nat) ++ (p.path.flatten ++ (beI 2 (p.later.length : Nat) ++ ((p.later.map headBytes).flatten ++ rest)))))) hl6 hg.first
 have e : proofBytes p ++ rest = headBytes p.head ++ (beI 2 p.place ++ (lenBytes p.leaf ++ (beI 1 (p.path.length : Nat) ++ (p.path.flatten ++ (beI 2 (p.later.length : Nat) ++ ((p.later.map headBytes).flatten ++ rest)))))) := by unfold proofBytes; simp only [List.append_assoc]
 rw [e]
 simp only [decParts, e0, e1, e4, e5, e6, e7, e8]
 rw [g1]
theorem decode_bytes (p : ProofP) (hg : GoodP p) : decodeOf (proofBytes p) = (p, 0) := by
 have h := decParts_cut p [] hg
 rw [List.append_nil] at h
 unfold decodeOf
 rw [h, if_pos ⟨rfl, hg.right⟩]
theorem decode_more (p : ProofP) (b : UInt8) (hg : GoodP p) : (decodeOf (proofBytes p ++ [b])).2 = 12 := by
 unfold decodeOf
 rw [decParts_cut p [b] hg, if_neg]
 intro h
 exact absurd h.1 (by unfold RdS.endOf; simp)
theorem bytes_inj {p q : ProofP} (hp : GoodP p) (hq : GoodP q) (h : proofBytes p = proofBytes q) : p = q := by
 have h1 := decode_bytes p hp
 rw [h, decode_bytes q hq] at h1
 injection h1 with h1
 exact h1.symm
theorem decode_less (p : ProofP) (hg : GoodP p) : (decodeOf (proofBytes p).dropLast).2 = 12 := by
 by_cases h : (decodeOf (proofBytes p).dropLast).2 = 0
 ·obtain ⟨h1, h2⟩ := decode_good h
  have hne : proofBytes p ≠ [] := by
   intro e
   have := congrArg List.length e
   unfold proofBytes at this
   simp only [List.length_append, headBytes_length, List.length_nil] at this
   omega
  have h3 := List.dropLast_concat_getLast hne
  have h4 := decParts_cut (decodeOf (proofBytes p).dropLast).1 [(proofBytes p).getLast hne] h1
  rw [h2, h3] at h4
  have h5 := decParts_cut p [] hg
  rw [List.append_nil, h4] at h5
  have h6 : ([(proofBytes p).getLast hne] : List UInt8) = [] := congrArg RdS.bs (congrArg Prod.snd h5)
  cases h6
 ·unfold decodeOf at h ⊢
  split at h
  ·exact absurd rfl h
  ·rename_i hc
   rw [if_neg hc]
end Go.Proofs.YtfegdgaanmcecaaGreatDoor
