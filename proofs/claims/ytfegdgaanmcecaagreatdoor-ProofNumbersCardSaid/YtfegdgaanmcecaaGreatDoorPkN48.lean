/-
  PROVED HERE: the law ProofTells answers true; conditions: lengths that a slice may have.
-/
import Derived.Test.YtfegdgaanmcecaaGreatDoorPkN43
import Derived.Test.YtfegdgaanmcecaaGreatDoorPkN45
import Derived.Test.YtfegdgaanmcecaaGreatDoorPkN47
namespace Go.Proofs.YtfegdgaanmcecaaGreatDoor
open Go.RowKit
theorem chain_any (id : List UInt8) (l : List (List (List UInt8))) {n : Nat} (hn : n ≤ 1000) (s : Int) : ∃ p why, makeOf (chainTo id l n).images s = (p, why) ∧ p.later.length ≤ 1000000 ∧ (why = 0 → GoodP p ∧ rightProof p = true ∧ 0 < n) := by
 by_cases h : s < 1 ∨ (chainTo id l n).next ≤ s
 ·exact ⟨noProof, 20, chain_make_out id l hn h, by decide, fun h => absurd h (by decide)⟩
 ·obtain ⟨i, hi, h0, h1⟩ := chain_find id l n s (by omega) (by omega)
  have hg := chain_good id l hn hi h0 h1
  exact ⟨_, 0, chain_make_in id l hn hi h0 h1, by have := (right_parts hg.right).2.2.1; omega, fun _ => ⟨hg, hg.right, by omega⟩⟩
end Go.Proofs.YtfegdgaanmcecaaGreatDoor
