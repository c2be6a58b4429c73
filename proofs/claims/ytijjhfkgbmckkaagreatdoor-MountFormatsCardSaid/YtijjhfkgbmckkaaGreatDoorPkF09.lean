/-
  PROVED HERE: what segment.Build answers; conditions: lengths that a slice may have.
-/
import Derived.Test.YtijjhfkgbmckkaaGreatDoorPkF08
namespace Go.Proofs.YtijjhfkgbmckkaaGreatDoor
open Go.RowKit
def seqsFrom : Int → List RecP → Bool
 | _, [] => true
 | s, r :: rs => decide (r.seq = s) && seqsFrom (s + 1) rs
theorem seqsFrom_iff : ∀ (s : Int) (rs : List RecP), seqsFrom s rs = true ↔ ∀ k (h : k < rs.length), rs[k].seq = s + k
 | s, [] => by simp [seqsFrom]
 | s, r :: rs => by
  rw [seqsFrom, Bool.and_eq_true, decide_eq_true_eq, seqsFrom_iff (s + 1) rs]
  constructor
  ·rintro ⟨h1, h2⟩ k hk
   rcases k with _ | k
   ·simpa using h1
   ·have := h2 k (by simpa using hk); simp only [List.getElem_cons_succ]; omega
  ·intro h
   refine ⟨by have := h 0 (by simp); rw [List.getElem_cons_zero] at this; simpa using this, fun k hk => ?_⟩
   have := h (k + 1) (by simpa using hk)
   simp only [List.getElem_cons_succ] at this; omega
def buildArgs (index first : Int) (n : Nat) (rs : List RecP) : Bool := decide (0 ≤ index ∧ index ≤ 65535 ∧ first ≤ 1099511627776 ∧ n = 32 ∧ rs.length ≠ 0 ∧ rs.length ≤ fitsIn 942 rs)
def segHead (index first : Int) (prev : List UInt8) (rs : List RecP) : List UInt8 :=
 beI 2 index ++ beI 8 first ++ beI 2 rs.length ++ beI 2 (leavesOf rs).flatten.length ++ prev ++ rootOf (leavesOf rs)
def segBytes (index first : Int) (prev : List UInt8) (rs : List RecP) : List UInt8 :=
 segHead index first prev rs ++ be4 (crcSum (segHead index first prev rs)) ++ (leavesOf rs).flatten ++ List.replicate (942 - (leavesOf rs).flatten.length) 0
theorem recEnc_size (r : RecP) (h : recRight r = true) : (recEnc r).length = recSize r := by
 have : r.body.length ≤ 900 := by unfold recRight at h; simp at h; omega
 rw [recEnc_length]; unfold recSize; rw [if_pos h]; omega
theorem segHead_length (index first : Int) (prev : List UInt8) (rs : List RecP) (h : prev.length = 32) : (segHead index first prev rs).length = 78 := by
 simp only [segHead, List.length_append, beI_length, rootOf_length, h]
theorem segBytes_length (index first : Int) (prev : List UInt8) (rs : List RecP) (h : prev.length = 32) (hl : (leavesOf rs).flatten.length ≤ 942) : (segBytes index first prev rs).length = 1024 := by
 simp only [segBytes, List.length_append, segHead_length index first prev rs h, be4, List.length_cons, List.length_nil, List.length_replicate]; omega
end Go.Proofs.YtijjhfkgbmckkaaGreatDoor
