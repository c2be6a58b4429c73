/-
  PROVED HERE: plain law: a proof's bytes are read as that proof, and what is read is just what is written; no condition.
-/
import Derived.Test.YtfegdgaanmcecaaGreatDoorPkN35
import Derived.Test.YtfegdgaanmcecaaGreatDoorPkN41
namespace Go.Proofs.YtfegdgaanmcecaaGreatDoor
open Go.RowKit
theorem shortB_iff {n : Int} : shortB n = true ↔ 0 ≤ n ∧ n ≤ 65535 := by unfold shortB; rw [decide_eq_true_eq]
theorem fine_parts {h : HeadP} (hf : fineHead h = true) : (0 ≤ h.index ∧ h.index ≤ 65535) ∧ (0 ≤ h.count ∧ h.count ≤ 65535) ∧ (0 ≤ h.bytes ∧ h.bytes ≤ 65535) ∧ h.first ≤ 1099511627776 ∧ h.prev.length = 32 ∧ h.root.length = 32 := by
 unfold fineHead at hf
 simp only [Bool.and_eq_true, decide_eq_true_eq, shortB_iff] at hf
 exact ⟨hf.1.1, hf.1.2.1, hf.1.2.2, hf.2.1, hf.2.2.1, hf.2.2.2⟩
structure GoodP (p : ProofP) : Prop where
 right : rightProof p = true
 first : 0 ≤ p.head.first
 later : ∀ h ∈ p.later, 0 ≤ h.first
/-! ### what is read is what is written -/
theorem num_ok {s : RdS} {k : Nat} (h : (s.num k).2.why = 0) : s.why = 0 ∧ s.bs = beI k ((s.num k).1 : Nat) ++ (s.num k).2.bs := by
 have h1 := RdS.raw_split (s := s) (n := k) h (by omega)
 refine ⟨h1.1, ?_⟩
 have hl : (s.raw k).1.length = k := by have := h1.2.2; omega
 have e := beI_beNat k (s.raw k).1 hl
 show s.bs = beI k ((beNat (s.raw k).1 : Nat) : Int) ++ (s.raw k).2.bs
 rw [e]
 exact h1.2.1
theorem getHead_ok {s : RdS} (h : (getHead s).2.why = 0) : s.why = 0 ∧ s.bs = headBytes (getHead s).1 ++ (getHead s).2.bs := by
 have h6 := RdS.raw_split (s := (((((s.num 2).2.num 8).2.num 2).2.num 2).2.raw 32).2) (n := 32) h (by decide)
 have h5 := RdS.raw_split (s := ((((s.num 2).2.num 8).2.num 2).2.num 2).2) (n := 32) h6.1 (by decide)
 have h4 := num_ok (s := (((s.num 2).2.num 8).2.num 2).2) (k := 2) h5.1
 have h3 := num_ok (s := ((s.num 2).2.num 8).2) (k := 2) h4.1
 have h2 := num_ok (s := (s.num 2).2) (k := 8) h3.1
 have h1 := num_ok (s := s) (k := 2) h2.1
 refine ⟨h1.1, ?_⟩
 rw [h1.2, h2.2, h3.2, h4.2, h5.2.1, h6.2.1]
 unfold headBytes getHead
 simp only [List.append_assoc]
theorem getRows_ok {s : RdS} : ∀ (n : Nat), (getRows n s).2.why = 0 → s.why = 0 ∧ s.bs = (getRows n s).1.flatten ++ (getRows n s).2.bs
 | 0, h => ⟨h, by rw [getRows]; rfl⟩
 | n + 1, h => by
  rw [getRows] at h ⊢
  dsimp only at h ⊢
  have h1 := RdS.raw_split (s := (getRows n s).2) (n := 32) h (by decide)
  have h2 := getRows_ok n h1.1
  refine ⟨h2.1, ?_⟩
  rw [List.flatten_append, List.append_assoc]
  simp only [List.flatten_cons, List.flatten_nil, List.append_nil]
  rw [← h1.2.1]
  exact h2.2
theorem getHeads_ok {s : RdS} : ∀ (n : Nat), (getHeads n s).2.why = 0 → s.why = 0 ∧ s.bs = ((getHeads n s).1.map headBytes).flatten ++ (getHeads n s).2.bs
 | 0, h => ⟨h, by rw [getHeads]; rfl⟩
 | n + 1, h => by
  rw [getHeads] at h ⊢
  dsimp only at h ⊢
  have h1 := getHead_ok (s := (getHeads n s).2) h
  have h2 := getHeads_ok n h1.1
  refine ⟨h2.1, ?_⟩
  rw [List.map_append, List.flatten_append, List.append_assoc]
  simp only [List.map_cons, List.map_nil, List.flatten_cons, List.flatten_nil, List.append_nil]
  rw [← h1.2]
  exact h2.2
/-! ### a chain's -/
theorem chainHead_fine (id : List UInt8) (l : List (List (List UInt8))) {i : Nat} (hi : i ≤ 1000) : fineHead (chainHead i (chainTo id l i).next (chainTo id l i).prev (segRecs id l i)) = true ∧ 0 ≤ (chainHead i (chainTo id l i).next (chainTo id l i).prev (segRecs id l i)).first := by
 have ho := chain_ok id l i hi
 have q0 := ho.next0
 have q1 := ho.next1
 have hf := chain_fine (i := i) (next := (chainTo id l i).next) (raw := l.getD i []) hi (by omega) (by omega) ho.prev
 have h6 : (segRecs id l i).length ≤ 6 := (chainRecs_length _ _).2
 have hr := hf.room
 refine ⟨?_, by show 0 ≤ (chainTo id l i).next; omega⟩
 unfold fineHead chainHead
 simp only [Bool.and_eq_true, decide_eq_true_eq, shortB_iff]
 have e : chainRecs (chainTo id l i).next (l.getD i []) = segRecs id l i := rfl
 rw [e] at hr
 exact ⟨⟨⟨by omega, by omega⟩, ⟨by omega, by omega⟩, by omega, by omega⟩, by omega, ho.prev, rootOf_length _⟩
theorem chain_good (id : List UInt8) (l : List (List (List UInt8))) {n i : Nat} (hn : n ≤ 1000) (hi : i < n) {s : Int} (h0 : (chainTo id l i).next ≤ s) (h1 : s < (chainTo id l (i + 1)).next) : GoodP (chainProof id l n i s) := by
 have hc := chainHead_fine id l (i := i) (by omega)
 have h6 : (segRecs id l i).length ≤ 6 := (chainRecs_length _ _).2
 have e1 : (chainTo id l (i + 1)).next = (chainTo id l i).next + (segRecs id l i).length := rfl
 have hall : ∀ h ∈ (chainTo id l n).heads.drop (i + 1), fineHead h = true ∧ 0 ≤ h.first := fun h hh => by
  obtain ⟨k, hk, rfl⟩ := List.mem_iff_getElem.1 (List.mem_of_mem_drop hh)
  have hkn : k < n := by rwa [chain_heads_len] at hk
  have h2 := chain_head_at id l k n hkn
  rw [List.getElem?_eq_getElem hk] at h2
  injection h2 with h2
  rw [h2]
  exact chainHead_fine id l (by omega)
 refine ⟨?_, hc.2, fun h hh => (hall h hh).2⟩
 unfold rightProof chainProof madeProof
 simp only [Bool.and_eq_true, decide_eq_true_eq, shortB_iff, List.all_eq_true]
 have hll : (leavesOf (segRecs id l i)).length = (segRecs id l i).length := by unfold leavesOf; rw [List.length_map]
 refine ⟨hc.1, ⟨by omega, by omega⟩, Nat.le_trans (leaf_small _ _) (by decide), ?_, ?_, fun b hb => ?_, fun h hh => (hall h hh).1⟩
 ·have := pathOf_le (leavesOf (segRecs id l i)) (s - (chainTo id l i).next).toNat
  omega
 ·rw [List.length_drop, chain_heads_len]; omega
 ·have := pathOf_lens _ (leavesOf (segRecs id l i)) _ rfl b hb
  simpa using this
end Go.Proofs.YtfegdgaanmcecaaGreatDoor
