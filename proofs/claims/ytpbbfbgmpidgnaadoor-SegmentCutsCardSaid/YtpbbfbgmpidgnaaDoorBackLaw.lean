/-
  PROVED HERE: plain law: raw records that fit make a right segment; no program is in sight.
-/
import Derived.Test.YtpbbfbgmpidgnaaDoorLaw17
import Derived.Test.YtpbbfbgmpidgnaaDoorRaws
namespace Go.Proofs.YtpbbfbgmpidgnaaDoor
open Go.RowKit

theorem fitsIn_take : ∀ (left : Nat) (rs : List RecP), fitsIn left (rs.take (fitsIn left rs)) = fitsIn left rs
  | _, [] => by simp [fitsIn]
  | left, r :: rs => by
    by_cases h : recRight r = true ∧ recSize r ≤ left
    · have e : fitsIn left (r :: rs) = fitsIn (left - recSize r) rs + 1 := by rw [fitsIn, if_pos h]
      rw [e, List.take_succ_cons, fitsIn, if_pos h, fitsIn_take]
    · have e : fitsIn left (r :: rs) = 0 := by rw [fitsIn, if_neg h]
      rw [e, List.take_zero]; rfl
theorem rawRecs_get (first : Int) (most : Nat) (l : List RawP) (n k : Nat) (hk : k < (rawRecs first most l n).length) : (rawRecs first most l n)[k] = rawRec (l.getD k default) (IntKind.u64.wrap (first + k)) most := by
  simp only [rawRecs, List.getElem_map, List.getElem_range]
theorem rawRec_body (r : RawP) (s : Int) (most : Nat) : (rawRec r s most).body.length ≤ most := by
  unfold rawRec
  split
  · simp
  · simp only [List.length_take]; omega
theorem rawRec_seq (r : RawP) (s : Int) (most : Nat) : (rawRec r s most).seq = s := by unfold rawRec; split <;> rfl
theorem rawRecs_body {first : Int} {most : Nat} {l : List RawP} {n : Nat} {r : RecP} (h : r ∈ rawRecs first most l n) : r.body.length ≤ most := by
  obtain ⟨k, hk, rfl⟩ := List.mem_iff_getElem.1 h
  rw [rawRecs_get]; exact rawRec_body _ _ _
theorem raw_fine {index first : Int} {prev : List UInt8} {l : List RawP} {n most : Nat} (hi0 : 0 ≤ index) (hi1 : index ≤ 65535) (hf0 : 0 ≤ first) (hf1 : first ≤ 1099511627776) (hp : prev.length = 32)
    (hm : fitsIn 942 (rawRecs first most l n) ≠ 0) : SegFine index first prev ((rawRecs first most l n).take (fitsIn 942 (rawRecs first most l n))) := by
  generalize hrs : rawRecs first most l n = rs0 at *
  have hle := fitsIn_le 942 rs0
  have hlen : (rs0.take (fitsIn 942 rs0)).length = fitsIn 942 rs0 := by rw [List.length_take]; omega
  obtain ⟨h1, h2, h3⟩ := fits_all 942 (rs0.take (fitsIn 942 rs0)) (by rw [fitsIn_take, hlen]; exact Nat.le_refl _)
  have hseq : ∀ k (h : k < (rs0.take (fitsIn 942 rs0)).length), (rs0.take (fitsIn 942 rs0))[k].seq = first + k := by
    intro k hk
    rw [List.getElem_take]
    subst hrs
    rw [rawRecs_get, rawRec_seq, IntKind.wrap_u64]
    omega
  refine ⟨hi0, hi1, hf0, hf1, hp, by rw [hlen]; exact hm, fun r hr => ⟨h1 r hr, ?_⟩, h2, h3, hseq⟩
  obtain ⟨k, hk, rfl⟩ := List.mem_iff_getElem.1 hr
  rw [hseq k hk]; omega
theorem raw_build {index first : Int} {l : List RawP} {n most : Nat} (hi0 : 0 ≤ index) (hi1 : index ≤ 65535) (hf0 : 0 ≤ first) (hf1 : first ≤ 1099511627776)
    (hm : fitsIn 942 (rawRecs first most l n) ≠ 0) : buildArgs index first 32 ((rawRecs first most l n).take (fitsIn 942 (rawRecs first most l n))) = true ∧ seqsFrom first ((rawRecs first most l n).take (fitsIn 942 (rawRecs first most l n))) = true := by
  have hF := raw_fine (prev := List.replicate 32 0) hi0 hi1 hf0 hf1 (by simp) hm
  have hle := fitsIn_le 942 (rawRecs first most l n)
  have hlen : ((rawRecs first most l n).take (fitsIn 942 (rawRecs first most l n))).length = fitsIn 942 (rawRecs first most l n) := by rw [List.length_take]; omega
  refine ⟨?_, (seqsFrom_iff _ _).2 hF.seqs⟩
  unfold buildArgs
  rw [decide_eq_true_eq, fitsIn_take]
  exact ⟨hi0, hi1, hf1, rfl, hF.any, by omega⟩
theorem raw_none {index first : Int} {l : List RawP} {n most : Nat} (hm : fitsIn 942 (rawRecs first most l n) = 0) : buildArgs index first 32 ((rawRecs first most l n).take (fitsIn 942 (rawRecs first most l n))) = false := by
  unfold buildArgs
  rw [decide_eq_false_iff_not, hm]
  rintro ⟨_, _, _, _, h, _⟩
  exact h rfl
theorem Recs.take {w : World} {D : Nat → Prop} {A : Option Addr} {n : Nat} {rs : List RecP} (h : Recs w D A n rs) {m : Nat} (hm : m ≤ n) : Recs w D A m (rs.take m) := by
  obtain ⟨vs, h1, h2, h3⟩ := h
  refine ⟨vs.take (m * 3), h1.cutTo hm, by rw [List.length_take]; omega, fun k hk => ?_⟩
  have hk' : k < m := by rw [List.length_take] at hk; omega
  obtain ⟨A', c', e1, e2, e3, rest⟩ := h3 k (by omega)
  rw [List.getElem_take]
  exact ⟨A', c', by rw [List.getElem?_take, if_pos (by omega)]; exact e1, by rw [List.getElem?_take, if_pos (by omega)]; exact e2, by rw [List.getElem?_take, if_pos (by omega)]; exact e3, rest⟩
@[go_sem] theorem bv_xor (a b : UInt8) : bits .xor .u8 (bv a) (bv b) = bv (a ^^^ b) := by
  unfold bv
  rw [UInt8.toNat_xor]
  exact u8_xor_nat _ _ a.toNat_lt b.toNat_lt
end Go.Proofs.YtpbbfbgmpidgnaaDoor
