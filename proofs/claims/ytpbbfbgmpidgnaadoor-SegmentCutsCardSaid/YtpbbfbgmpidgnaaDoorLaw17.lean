/-
  PROVED HERE: plain law on a segment's bytes: what is laid is read; a byte turned, but for those of a Body's length, is told; no program is in sight.
-/
import Derived.Test.YtpbbfbgmpidgnaaDoorSegRead
namespace Go.Proofs.YtpbbfbgmpidgnaaDoor
open Go.RowKit

/-! ### a segment -/
theorem headOf_cut (a b c d e f rest : List UInt8) (ha : a.length = 2) (hb : b.length = 8) (hc : c.length = 2) (hd : d.length = 2) (he : e.length = 32) (hf : f.length = 32) :
    headOf (a ++ (b ++ (c ++ (d ++ (e ++ (f ++ rest)))))) = ⟨(beNat a : Nat), (beNat b : Nat), (beNat c : Nat), (beNat d : Nat), e, f⟩ := by
  unfold headOf
  dsimp only
  rw [RdS.num_cut a _ 2 ha.symm]
  dsimp only
  rw [RdS.num_cut b _ 8 hb.symm]
  dsimp only
  rw [RdS.num_cut c _ 2 hc.symm]
  dsimp only
  rw [RdS.num_cut d _ 2 hd.symm]
  dsimp only
  rw [RdS.raw_zero e _ 32 (by omega)]
  dsimp only
  rw [RdS.raw_zero f _ 32 (by omega)]
/-- what lies in a segment, part by part. -/
def segOf (index first count bytes : Int) (prev root sum body tail : List UInt8) : List UInt8 :=
  beI 2 index ++ (beI 8 first ++ (beI 2 count ++ (beI 2 bytes ++ (prev ++ (root ++ (sum ++ (body ++ tail)))))))
theorem segBytes_of (index first : Int) (prev : List UInt8) (rs : List RecP) :
    segBytes index first prev rs = segOf index first rs.length (leavesOf rs).flatten.length prev (rootOf (leavesOf rs)) (be4 (crcSum (segHead index first prev rs))) (leavesOf rs).flatten (List.replicate (942 - (leavesOf rs).flatten.length) 0) := by
  simp only [segBytes, segHead, segOf, List.append_assoc]
theorem seg_take {index first : Int} {prev : List UInt8} {rs : List RecP} (h : prev.length = 32) : (segBytes index first prev rs).take 78 = segHead index first prev rs := by
  unfold segBytes
  rw [List.append_assoc, List.append_assoc, ← segHead_length index first prev rs h, List.take_left']; rfl
theorem seg_split {index first : Int} {prev : List UInt8} {rs : List RecP} (h : prev.length = 32) : segBytes index first prev rs = (segHead index first prev rs ++ be4 (crcSum (segHead index first prev rs))) ++ ((leavesOf rs).flatten ++ List.replicate (942 - (leavesOf rs).flatten.length) 0) ∧ (segHead index first prev rs ++ be4 (crcSum (segHead index first prev rs))).length = 82 := by
  refine ⟨by unfold segBytes; rw [List.append_assoc], ?_⟩
  rw [List.length_append, segHead_length _ _ _ _ h, be4_length]
theorem seg_sum {hd sum rest : List UInt8} (h : hd.length = 78) (hs : sum.length = 4) : ((hd ++ sum ++ rest).drop 78).take 4 = sum ∧ (hd ++ sum ++ rest).take 78 = hd ∧ (hd ++ sum ++ rest).drop 82 = rest := by
  refine ⟨?_, ?_, ?_⟩
  · rw [List.append_assoc, List.drop_left' h, List.take_left' hs]
  · rw [List.append_assoc, List.take_left' h]
  · rw [List.drop_left']; simp [h, hs]
/-- a segment's head is right: what is laid by Build. -/
structure SegFine (index first : Int) (prev : List UInt8) (rs : List RecP) : Prop where
  i0 : 0 ≤ index
  i1 : index ≤ 65535
  f0 : 0 ≤ first
  f1 : first ≤ 1099511627776
  prev : prev.length = 32
  any : rs.length ≠ 0
  right : ∀ r ∈ rs, recRight r = true ∧ 0 ≤ r.seq
  room : (leavesOf rs).flatten.length ≤ 942
  many : 15 * rs.length ≤ 942
  seqs : ∀ k (h : k < rs.length), rs[k].seq = first + k
section
variable {index first : Int} {prev : List UInt8} {rs : List RecP}
theorem SegFine.seqsW (h : SegFine index first prev rs) : ∀ k (hk : k < rs.length), rs[k].seq = IntKind.u64.wrap (first + (0 + k : Nat)) := by
  intro k hk
  have h1 := h.seqs k hk
  have h2 := h.right rs[k] (List.getElem_mem hk)
  have h3 : rs[k].seq ≤ 1099511627776 := by have := h2.1; unfold recRight at this; rw [decide_eq_true_eq] at this; exact this.1
  rw [IntKind.wrap_u64]
  omega
/-- the head that is read of any bytes that begin as a segment does. -/
theorem SegFine.head (h : SegFine index first prev rs) (rest : List UInt8) : headOf (segHead index first prev rs ++ rest) = ⟨index, first, rs.length, (leavesOf rs).flatten.length, prev, rootOf (leavesOf rs)⟩ := by
  have e : segHead index first prev rs ++ rest = beI 2 index ++ (beI 8 first ++ (beI 2 rs.length ++ (beI 2 (leavesOf rs).flatten.length ++ (prev ++ (rootOf (leavesOf rs) ++ rest))))) := by
    simp only [segHead, List.append_assoc]
  rw [e, headOf_cut _ _ _ _ _ _ _ (beI_length _ _) (beI_length _ _) (beI_length _ _) (beI_length _ _) h.prev (rootOf_length _)]
  rw [beNat_beI 2 index h.i0 (by have := h.i1; omega), beNat_beI 8 first h.f0 (by have := h.f1; omega), beNat_beI 2 rs.length (by omega) (by have := h.many; omega), beNat_beI 2 _ (by omega) (by have := h.room; omega)]
theorem SegFine.read (h : SegFine index first prev rs) : segRead (segBytes index first prev rs) = (⟨index, first, rs.length, (leavesOf rs).flatten.length, prev, rootOf (leavesOf rs)⟩, rs, 0) := by
  have hl := segBytes_length index first prev rs h.prev h.room
  have hs := seg_split (index := index) (first := first) (rs := rs) h.prev
  have hd := seg_sum (hd := segHead index first prev rs) (sum := be4 (crcSum (segHead index first prev rs))) (rest := (leavesOf rs).flatten ++ List.replicate (942 - (leavesOf rs).flatten.length) 0) (segHead_length _ _ _ _ h.prev) rfl
  have hh := h.head (be4 (crcSum (segHead index first prev rs)) ++ ((leavesOf rs).flatten ++ List.replicate (942 - (leavesOf rs).flatten.length) 0))
  rw [← List.append_assoc, ← hs.1] at hh
  rw [← hs.1] at hd
  have hgo := recsGo_enc first [] rs 0 h.right h.seqsW
  rw [List.append_nil] at hgo
  have h942 := h.room
  have hsome := h.any
  unfold segRead
  rw [if_neg (by rw [hl]; decide), if_neg (by rw [hd.1, hd.2.1]; simp), hh]
  dsimp only
  rw [if_neg (by omega), hd.2.2, Int.toNat_natCast, Int.toNat_natCast, List.take_left' rfl, hgo]
  dsimp only
  rw [if_neg, if_neg (by simp)]
  rw [hs.1, ← List.drop_drop, List.drop_left' hs.2, List.drop_left' rfl]
  simp
/-- bytes that begin with a right segment's head are read as such only if records are read. -/
theorem SegFine.readBody (h : SegFine index first prev rs) (body : List UInt8) (hb : body.length = 942) :
    segRead (segHead index first prev rs ++ be4 (crcSum (segHead index first prev rs)) ++ body) =
      match recsGo first rs.length 0 (body.take (leavesOf rs).flatten.length) with
      | none => (noHead, [], 12)
      | some (l, rest) =>
        if rest.length ≠ 0 ∨ (body.drop (leavesOf rs).flatten.length).all (· == 0) = false then (noHead, [], 12)
        else if rootOf (leavesOf l) ≠ rootOf (leavesOf rs) then (noHead, [], 40)
        else (⟨index, first, rs.length, (leavesOf rs).flatten.length, prev, rootOf (leavesOf rs)⟩, l, 0) := by
  have hd := seg_sum (hd := segHead index first prev rs) (sum := be4 (crcSum (segHead index first prev rs))) (rest := body) (segHead_length _ _ _ _ h.prev) rfl
  have hh := h.head (be4 (crcSum (segHead index first prev rs)) ++ body)
  rw [← List.append_assoc] at hh
  have h942 := h.room
  have hsome := h.any
  have hl : (segHead index first prev rs ++ be4 (crcSum (segHead index first prev rs)) ++ body).length = 1024 := by
    simp only [List.length_append, segHead_length _ _ _ _ h.prev, be4_length, hb]
  have hdd : ∀ k, (segHead index first prev rs ++ be4 (crcSum (segHead index first prev rs)) ++ body).drop (82 + k) = body.drop k := by
    intro k; rw [← List.drop_drop, hd.2.2]
  unfold segRead
  rw [if_neg (by rw [hl]; decide), if_neg (by rw [hd.1, hd.2.1]; simp), hh]
  dsimp only
  rw [if_neg (by omega), hd.2.2, Int.toNat_natCast, Int.toNat_natCast, hdd]
  try rfl
theorem segRead_sum {hd sum rest : List UInt8} (h : hd.length = 78) (hs : sum.length = 4) (hne : be4 (crcSum hd) ≠ sum) : (segRead (hd ++ sum ++ rest)).2.2 ≠ 0 := by
  have hd := seg_sum (rest := rest) h hs
  unfold segRead
  split
  · decide
  rw [if_pos (by rw [hd.1, hd.2.1]; exact hne)]
  simp
/-- a byte turned, but for those of a Body's length. -/
theorem SegFine.turn (h : SegFine index first prev rs) {k : Nat} {y : UInt8} (hk : k < (segBytes index first prev rs).length) (hy : y ≠ (segBytes index first prev rs)[k])
    (hj : ∀ j, j < rs.length → k ≠ 82 + offOf rs j + 9 ∧ k ≠ 82 + offOf rs j + 10) : (segRead ((segBytes index first prev rs).set k y)).2.2 ≠ 0 := by
  have hl := segBytes_length index first prev rs h.prev h.room
  have hH := segHead_length index first prev rs h.prev
  have h4 := be4_length (crcSum (segHead index first prev rs))
  have hs := seg_split (index := index) (first := first) (rs := rs) h.prev
  have hroom := h.room
  rw [hl] at hk
  have hget := hy
  simp only [hs.1] at hget
  rw [hs.1]
  generalize hB : (leavesOf rs).flatten ++ List.replicate (942 - (leavesOf rs).flatten.length) 0 = body at *
  have hBl : body.length = 942 := by rw [← hB, List.length_append, List.length_replicate]; omega
  by_cases h78 : k < 78
  · rw [List.set_append_left _ _ (by omega), List.set_append_left _ _ (by omega)]
    refine segRead_sum (by rw [List.length_set]; omega) h4 ?_
    intro e
    have := crcSum_set (by omega) (be4_inj e)
    apply hget
    rw [this, List.getElem_append_left (by omega), List.getElem_append_left (by omega)]
  · by_cases h82 : k < 82
    · rw [List.set_append_left _ _ (by omega), List.set_append_right _ _ (by omega)]
      refine segRead_sum hH (by rw [List.length_set]; omega) ?_
      intro e
      have h2 := congrArg (fun l => l[k - (segHead index first prev rs).length]?) e
      have hlt : k - (segHead index first prev rs).length < (be4 (crcSum (segHead index first prev rs))).length := by omega
      simp only [List.getElem?_set_self hlt, List.getElem?_eq_getElem hlt] at h2
      injection h2 with h2
      apply hget
      rw [← h2, List.getElem_append_left (by omega), List.getElem_append_right (by omega)]
    · rw [List.set_append_right _ _ (by omega), hs.2]
      rw [h.readBody (body.set (k - 82) y) (by rw [List.length_set]; exact hBl)]
      by_cases hin : k - 82 < (leavesOf rs).flatten.length
      · have e1 : (body.set (k - 82) y).take (leavesOf rs).flatten.length = (leavesOf rs).flatten.set (k - 82) y := by
          rw [← hB, List.set_append_left _ _ hin, List.take_left' (by rw [List.length_set])]
        have e2 := recsGo_turn first [] y rs 0 (k - 82) h.right hin (fun j hj' => by have := hj j hj'; omega) (by
          intro e
          apply hget
          have : (segHead index first prev rs ++ be4 (crcSum (segHead index first prev rs)) ++ body)[k]'(by rw [List.length_append, hs.2]; omega) = (leavesOf rs).flatten[k - 82] := by
            rw [List.getElem_append_right (by omega)]
            simp only [hs.2, ← hB]
            rw [List.getElem_append_left hin]
          rw [e, this])
        rw [List.append_nil] at e2
        rw [e1, e2]
        simp
      · have e1 : (body.set (k - 82) y).take (leavesOf rs).flatten.length = (leavesOf rs).flatten := by
          rw [← hB, List.set_append_right _ _ (by omega), List.take_left' rfl]
        have e2 := recsGo_enc first [] rs 0 h.right h.seqsW
        rw [List.append_nil] at e2
        have e3 : ((body.set (k - 82) y).drop (leavesOf rs).flatten.length).all (· == 0) = false := by
          rw [← hB, List.set_append_right _ _ (by omega), List.drop_left' rfl, List.all_eq_false]
          refine ⟨y, List.mem_of_getElem (i := k - 82 - (leavesOf rs).flatten.length) (h := by rw [List.length_set, List.length_replicate]; omega) ?_, ?_⟩
          · rw [List.getElem_set_self]
          · intro e
            have e0 : y = 0 := by simpa using e
            apply hget
            rw [e0, List.getElem_append_right (by omega)]
            simp only [hs.2, ← hB]
            rw [List.getElem_append_right (by omega), List.getElem_replicate]
        rw [e1, e2]
        dsimp only
        rw [if_pos (.inr e3)]
        simp
end
section
variable {index first : Int} {prev : List UInt8} {rs : List RecP}
theorem all_zero {l : List UInt8} (h : ¬ (l.all (· == 0) = false)) : l = List.replicate l.length 0 := by
  have h1 : l.all (· == 0) = true := by simpa using h
  rw [List.all_eq_true] at h1
  exact List.eq_replicate_of_mem fun b hb => by simpa using h1 b hb
/-- a right segment's head ahead of any bytes: what is read has the head's Root; has it the same Leaves, the bytes are the same; what is refused has no records. -/
theorem SegFine.cuts (h : SegFine index first prev rs) (body : List UInt8) (hb : body.length = 942) (d : HeadP × List RecP × Int) (hd : segRead (segHead index first prev rs ++ be4 (crcSum (segHead index first prev rs)) ++ body) = d) :
    (d.2.2 = 0 → rootOf (leavesOf d.2.1) = rootOf (leavesOf rs) ∧ (leavesOf d.2.1 = leavesOf rs → body = (leavesOf rs).flatten ++ List.replicate (942 - (leavesOf rs).flatten.length) 0)) ∧
    (d.2.2 ≠ 0 → d.2.1 = [] ∧ body ≠ (leavesOf rs).flatten ++ List.replicate (942 - (leavesOf rs).flatten.length) 0) := by
  have hok : body = (leavesOf rs).flatten ++ List.replicate (942 - (leavesOf rs).flatten.length) 0 → d.2.2 = 0 := by
    intro e
    rw [← hd, e, ← (seg_split h.prev).1, h.read]
  rw [h.readBody body hb] at hd
  refine ⟨?_, fun hne => ⟨?_, fun e => hne (hok e)⟩⟩
  · intro h0
    cases hg : recsGo first rs.length 0 (body.take (leavesOf rs).flatten.length) with
    | none => rw [hg] at hd; subst hd; simp at h0
    | some p =>
      obtain ⟨l, rest⟩ := p
      rw [hg] at hd
      dsimp only at hd
      split at hd
      · subst hd; simp at h0
      rename_i hz
      split at hd
      · subst hd; simp at h0
      rename_i hr
      subst hd
      dsimp only
      refine ⟨Decidable.not_not.1 hr, fun he => ?_⟩
      have hrest : rest = [] := List.eq_nil_of_length_eq_zero (Decidable.not_not.1 fun e => hz (.inl e))
      have htail := all_zero fun e => hz (.inr e)
      obtain ⟨hb1, _⟩ := recsGo_ok _ _ _ _ _ _ hg
      rw [hrest, List.append_nil, he] at hb1
      have e := (List.take_append_drop (leavesOf rs).flatten.length body).symm
      rw [hb1, htail, List.length_drop, hb] at e
      exact e
  · cases hg : recsGo first rs.length 0 (body.take (leavesOf rs).flatten.length) with
    | none => rw [hg] at hd; subst hd; rfl
    | some p =>
      obtain ⟨l, rest⟩ := p
      rw [hg] at hd
      dsimp only at hd
      split at hd
      · subst hd; rfl
      split at hd
      · subst hd; rfl
      · subst hd; exact absurd rfl hne
end
/-! ### the bytes of the Bodies' lengths -/
theorem offOf_succ (rs : List RecP) (i : Nat) (h : i < rs.length) (hr : recRight rs[i] = true) : offOf rs (i + 1) = offOf rs i + (15 + rs[i].body.length) := by
  unfold offOf
  rw [List.take_succ_eq_append_getElem h]
  have e : leavesOf (rs.take i ++ [rs[i]]) = leavesOf (rs.take i) ++ [recEnc rs[i]] := by unfold leavesOf; rw [List.map_append, List.map_singleton, if_pos hr]
  rw [e, List.flatten_append, List.length_append, List.flatten_singleton, recEnc_len hr]
theorem offOf_all (rs : List RecP) : offOf rs rs.length = (leavesOf rs).flatten.length := by unfold offOf; rw [List.take_of_length_le (Nat.le_refl _)]
theorem offOf_le (rs : List RecP) (i : Nat) : offOf rs i ≤ (leavesOf rs).flatten.length := by
  unfold offOf leavesOf
  rw [List.map_take]
  have h := congrArg (fun l : List (List UInt8) => l.flatten.length) (List.take_append_drop i (rs.map fun r => if recRight r = true then recEnc r else []))
  simp only [List.flatten_append, List.length_append] at h
  omega
/-- is a byte one of the lengths of the first i Bodies? -/
def lenFlag (rs : List RecP) (i j : Nat) : Bool := decide (∃ q, q < i ∧ (j = 82 + offOf rs q + 9 ∨ j = 82 + offOf rs q + 10))
def lenFlags (rs : List RecP) (i : Nat) : List Bool := (List.range 1100).map (lenFlag rs i)
theorem lenFlags_zero (rs : List RecP) : lenFlags rs 0 = List.replicate 1100 false := by
  apply List.ext_getElem
  · unfold lenFlags; rw [List.length_map, List.length_range, List.length_replicate]
  · intro j h1 h2
    simp only [lenFlags, List.getElem_map, List.getElem_range, List.getElem_replicate]
    exact decide_eq_false (by rintro ⟨q, hq, _⟩; omega)
theorem lenFlags_succ (rs : List RecP) (i : Nat) : ((lenFlags rs i).set (82 + offOf rs i + 9) true).set (82 + offOf rs i + 10) true = lenFlags rs (i + 1) := by
  apply List.ext_getElem
  · simp [lenFlags]
  · intro j h1 h2
    simp only [List.getElem_set, lenFlags, List.getElem_map, List.getElem_range]
    by_cases e1 : 82 + offOf rs i + 10 = j
    · rw [if_pos e1]
      exact (decide_eq_true ⟨i, by omega, .inr e1.symm⟩).symm
    · rw [if_neg e1]
      by_cases e2 : 82 + offOf rs i + 9 = j
      · rw [if_pos e2]
        exact (decide_eq_true ⟨i, by omega, .inl e2.symm⟩).symm
      · rw [if_neg e2]
        unfold lenFlag
        rw [decide_eq_decide]
        constructor
        · rintro ⟨q, hq, h⟩; exact ⟨q, by omega, h⟩
        · rintro ⟨q, hq, h⟩
          refine ⟨q, ?_, h⟩
          rcases Nat.lt_or_ge q i with h3 | h3
          · exact h3
          · have : q = i := by omega
            subst this; omega
theorem lenFlags_get (rs : List RecP) (i k : Nat) (hk : k < (lenFlags rs i).length) (h : (lenFlags rs i)[k] = false) : ∀ j, j < i → k ≠ 82 + offOf rs j + 9 ∧ k ≠ 82 + offOf rs j + 10 := by
  simp only [lenFlags, List.getElem_map, List.getElem_range, lenFlag, decide_eq_false_iff_not] at h
  intro j hj
  exact ⟨fun e => h ⟨j, hj, .inl e⟩, fun e => h ⟨j, hj, .inr e⟩⟩
end Go.Proofs.YtpbbfbgmpidgnaaDoor
