/-
  PROVED HERE: the law ProofBack answers true; conditions: lengths that a slice may have.
-/
import Derived.Test.YtfegdgaanmcecaaGreatDoorPkT11
import Derived.Test.YtfegdgaanmcecaaGreatDoorPkT24
import Derived.Test.YtfegdgaanmcecaaGreatDoorPkT36
import Derived.Test.YtfegdgaanmcecaaGreatDoorPkT42
namespace Go.Proofs.YtfegdgaanmcecaaGreatDoor
open Go.RowKit
theorem mod_placeB (z : Int) (m : Nat) (hm : 0 < m) : ∃ kk : Nat, kk < m ∧ (0 : Int) + z % ((m : Int) - 1 - 0 + 1) = (kk : Int) := by
 have h0 := Int.emod_nonneg z (show (m : Int) ≠ 0 by omega)
 have h1 := Int.emod_lt_of_pos z (show (0 : Int) < (m : Int) by omega)
 refine ⟨(z % (m : Int)).toNat, by omega, ?_⟩
 rw [show (m : Int) - 1 - 0 + 1 = (m : Int) by omega]
 omega
theorem bytes_small {p : ProofP} (hg : GoodP p) : (proofBytes p).length ≤ 6000000 := by
 obtain ⟨hl1, hl2, hl3, hl4, hl5, hl6⟩ := right_parts hg.right
 have h1 := flat_len p.path p.path.length (Nat.le_refl _) hl4
 have h2 := heads_len p.later p.later.length (Nat.le_refl _) hl5
 rw [List.take_of_length_le (Nat.le_refl _)] at h1 h2
 have h3 := fine_lens hl6
 have h4 : (lenBytes p.leaf).length ≤ 65537 := by unfold lenBytes; rw [List.length_append, beI_length, List.length_take]; omega
 unfold proofBytes
 simp only [List.length_append, beI_length, headBytes_length]
 omega
end Go.Proofs.YtfegdgaanmcecaaGreatDoor
