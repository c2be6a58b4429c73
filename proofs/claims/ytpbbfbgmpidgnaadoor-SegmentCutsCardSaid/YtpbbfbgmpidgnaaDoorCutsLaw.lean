/-
  PROVED HERE: what segment.Read answers at bytes of another length; how much it reads; no condition.
-/
import Derived.Test.YtpbbfbgmpidgnaaDoorBackLaw
namespace Go.Proofs.YtpbbfbgmpidgnaaDoor
open Go.RowKit

theorem right_len : ∀ (rs : List RecP), (∀ r ∈ rs, recRight r = true) → 15 * rs.length ≤ (leavesOf rs).flatten.length
  | [], _ => by simp
  | r :: rs, h => by
    have ih := right_len rs (fun x hx => h x (by simp [hx]))
    have h1 := h r (by simp)
    rw [leavesOf_cons h1, List.flatten_cons, List.length_append, recEnc_len h1, List.length_cons]
    omega
theorem segRead_small (bs : List UInt8) : (∀ r ∈ (segRead bs).2.1, recRight r = true) ∧ (leavesOf (segRead bs).2.1).flatten.length ≤ 942 ∧ (segRead bs).2.1.length ≤ 942 := by
  have nil : (∀ r ∈ ([] : List RecP), recRight r = true) ∧ (leavesOf ([] : List RecP)).flatten.length ≤ 942 ∧ ([] : List RecP).length ≤ 942 := by simp [leavesOf]
  unfold segRead
  split
  · exact nil
  split
  · exact nil
  split
  · exact nil
  rename_i h1 h2 h3
  split
  · exact nil
  · rename_i rs rest hg
    split
    · exact nil
    split
    · exact nil
    · obtain ⟨e, _, hr, _⟩ := recsGo_ok _ _ _ _ _ _ hg
      have hl := congrArg List.length e
      rw [List.length_append, List.length_take] at hl
      have hb : (headOf bs).bytes.toNat ≤ 942 := by omega
      have hr' : ∀ r ∈ rs, recRight r = true := fun r h => (hr r h).1
      have h15 := right_len rs hr'
      refine ⟨hr', ?_, ?_⟩
      · show (leavesOf rs).flatten.length ≤ 942
        omega
      · show rs.length ≤ 942
        omega
theorem read_no (D : Nat → Prop) (A : Option Addr) (n c : Nat) (bs : List UInt8) (w : World) (hB : Bs w D A n bs) (h : n ≠ 1024) :
    Calls Tryd.prog 13 #[.slice A n c] w fun e w' =>
      (∃ B1 e1 B2 e2 B3 e3, e = .returned (.tuple #[.agg #[.int .i64 0, .int .u64 0, .int .i64 0, .int .i64 0, .slice B1 0 e1, .slice B2 0 e2], .slice B3 0 e3, .int .i64 1])) ∧ New w w' := by
  have e : segRead bs = (noHead, [], 1) := by unfold segRead; rw [if_pos (by rw [hB.len]; exact h)]
  refine (read_short D A n c bs w hB h).mono ?_
  rintro en w' ⟨⟨B1, e1, B2, e2, B3, e3, he, -⟩, hK⟩
  rw [e] at he
  exact ⟨⟨B1, e1, B2, e2, B3, e3, he⟩, hK⟩
end Go.Proofs.YtpbbfbgmpidgnaaDoor
