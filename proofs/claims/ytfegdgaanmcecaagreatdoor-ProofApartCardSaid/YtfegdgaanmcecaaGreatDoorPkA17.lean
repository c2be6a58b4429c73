/-
  PROVED HERE: texts that belong together, one behind the other; what each proves, and under which conditions, its own opening remark says: Law17, BackLaw, CutsLaw, RefRot.
-/
import Derived.Deep.RegionHeld3
import Derived.Test.YtfegdgaanmcecaaGreatDoorPkA05
import Derived.Test.YtfegdgaanmcecaaGreatDoorPkA09
import Derived.Test.YtfegdgaanmcecaaGreatDoorPkA16
/-
  PROVED HERE: plain law on a segment's bytes: what is laid is read; a byte turned, but for those of a Body's length, is told; no program is in sight.
-/
namespace Go.Proofs.YtfegdgaanmcecaaGreatDoor
open Go.RowKit

/-! ### a segment -/
theorem headOf_cut (a b c d e f rest : List UInt8) (ha : a.length = 2) (hb : b.length = 8) (hc : c.length = 2) (hd : d.length = 2) (he : e.length = 32) (hf : f.length = 32) :
    headOf (a ++ (b ++ (c ++ (d ++ (e ++ (f ++ rest)))))) = ⟨(beNat a : Nat), (beNat b : Nat), (beNat c : Nat), (beNat d : Nat), e, f⟩ := by
  unfold headOf
  dsimp only
  rw [RdS.num_cut a _ 2 ha.symm]
  dsimp only
  rw [RdS.num_cut b _ 8 hb.symm]
  dsimp only
  rw [RdS.num_cut c _ 2 hc.symm]
  dsimp only
  rw [RdS.num_cut d _ 2 hd.symm]
  dsimp only
  rw [RdS.raw_zero e _ 32 (by omega)]
  dsimp only
  rw [RdS.raw_zero f _ 32 (by omega)]
/-- what lies in a segment, part by part. -/
def segOf (index first count bytes : Int) (prev root sum body tail : List UInt8) : List UInt8 :=
  beI 2 index ++ (beI 8 first ++ (beI 2 count ++ (beI 2 bytes ++ (prev ++ (root ++ (sum ++ (body ++ tail)))))))
theorem segBytes_of (index first : Int) (prev : List UInt8) (rs : List RecP) :
    segBytes index first prev rs = segOf index first rs.length (leavesOf rs).flatten.length prev (rootOf (leavesOf rs)) (be4 (crcSum (segHead index first prev rs))) (leavesOf rs).flatten (List.replicate (942 - (leavesOf rs).flatten.length) 0) := by
  simp only [segBytes, segHead, segOf, List.append_assoc]
theorem seg_take {index first : Int} {prev : List UInt8} {rs : List RecP} (h : prev.length = 32) : (segBytes index first prev rs).take 78 = segHead index first prev rs := by
  unfold segBytes
  rw [List.append_assoc, List.append_assoc, ← segHead_length index first prev rs h, List.take_left']; rfl
theorem seg_split {index first : Int} {prev : List UInt8} {rs : List RecP} (h : prev.length = 32) : segBytes index first prev rs = (segHead index first prev rs ++ be4 (crcSum (segHead index first prev rs))) ++ ((leavesOf rs).flatten ++ List.replicate (942 - (leavesOf rs).flatten.length) 0) ∧ (segHead index first prev rs ++ be4 (crcSum (segHead index first prev rs))).length = 82 := by
  refine ⟨by unfold segBytes; rw [List.append_assoc], ?_⟩
  rw [List.length_append, segHead_length _ _ _ _ h, be4_length]
theorem seg_sum {hd sum rest : List UInt8} (h : hd.length = 78) (hs : sum.length = 4) : ((hd ++ sum ++ rest).drop 78).take 4 = sum ∧ (hd ++ sum ++ rest).take 78 = hd ∧ (hd ++ sum ++ rest).drop 82 = rest := by
  refine ⟨?_, ?_, ?_⟩
  · rw [List.append_assoc, List.drop_left' h, List.take_left' hs]
  · rw [List.append_assoc, List.take_left' h]
  · rw [List.drop_left']; simp [h, hs]
/-- a segment's head is right: what is laid by Build. -/
structure SegFine (index first : Int) (prev : List UInt8) (rs : List RecP) : Prop where
  i0 : 0 ≤ index
  i1 : index ≤ 65535
  f0 : 0 ≤ first
  f1 : first ≤ 1099511627776
  prev : prev.length = 32
  any : rs.length ≠ 0
  right : ∀ r ∈ rs, recRight r = true ∧ 0 ≤ r.seq
  room : (leavesOf rs).flatten.length ≤ 942
  many : 15 * rs.length ≤ 942
  seqs : ∀ k (h : k < rs.length), rs[k].seq = first + k
section
variable {index first : Int} {prev : List UInt8} {rs : List RecP}
theorem SegFine.seqsW (h : SegFine index first prev rs) : ∀ k (hk : k < rs.length), rs[k].seq = IntKind.u64.wrap (first + (0 + k : Nat)) := by
  intro k hk
  have h1 := h.seqs k hk
  have h2 := h.right rs[k] (List.getElem_mem hk)
  have h3 : rs[k].seq ≤ 1099511627776 := by have := h2.1; unfold recRight at this; rw [decide_eq_true_eq] at this; exact this.1
  rw [IntKind.wrap_u64]
  omega
/-- the head that is read of any bytes that begin as a segment does. -/
theorem SegFine.head (h : SegFine index first prev rs) (rest : List UInt8) : headOf (segHead index first prev rs ++ rest) = ⟨index, first, rs.length, (leavesOf rs).flatten.length, prev, rootOf (leavesOf rs)⟩ := by
  have e : segHead index first prev rs ++ rest = beI 2 index ++ (beI 8 first ++ (beI 2 rs.length ++ (beI 2 (leavesOf rs).flatten.length ++ (prev ++ (rootOf (leavesOf rs) ++ rest))))) := by
    simp only [segHead, List.append_assoc]
  rw [e, headOf_cut _ _ _ _ _ _ _ (beI_length _ _) (beI_length _ _) (beI_length _ _) (beI_length _ _) h.prev (rootOf_length _)]
  rw [beNat_beI 2 index h.i0 (by have := h.i1; omega), beNat_beI 8 first h.f0 (by have := h.f1; omega), beNat_beI 2 rs.length (by omega) (by have := h.many; omega), beNat_beI 2 _ (by omega) (by have := h.room; omega)]
theorem SegFine.read (h : SegFine index first prev rs) : segRead (segBytes index first prev rs) = (⟨index, first, rs.length, (leavesOf rs).flatten.length, prev, rootOf (leavesOf rs)⟩, rs, 0) := by
  have hl := segBytes_length index first prev rs h.prev h.room
  have hs := seg_split (index := index) (first := first) (rs := rs) h.prev
  have hd := seg_sum (hd := segHead index first prev rs) (sum := be4 (crcSum (segHead index first prev rs))) (rest := (leavesOf rs).flatten ++ List.replicate (942 - (leavesOf rs).flatten.length) 0) (segHead_length _ _ _ _ h.prev) rfl
  have hh := h.head (be4 (crcSum (segHead index first prev rs)) ++ ((leavesOf rs).flatten ++ List.replicate (942 - (leavesOf rs).flatten.length) 0))
  rw [← List.append_assoc, ← hs.1] at hh
  rw [← hs.1] at hd
  have hgo := recsGo_enc first [] rs 0 h.right h.seqsW
  rw [List.append_nil] at hgo
  have h942 := h.room
  have hsome := h.any
  unfold segRead
  rw [if_neg (by rw [hl]; decide), if_neg (by rw [hd.1, hd.2.1]; simp), hh]
  dsimp only
  rw [if_neg (by omega), hd.2.2, Int.toNat_natCast, Int.toNat_natCast, List.take_left' rfl, hgo]
  dsimp only
  rw [if_neg, if_neg (by simp)]
  rw [hs.1, ← List.drop_drop, List.drop_left' hs.2, List.drop_left' rfl]
  simp
/-- bytes that begin with a right segment's head are read as such only if records are read. -/
theorem SegFine.readBody (h : SegFine index first prev rs) (body : List UInt8) (hb : body.length = 942) :
    segRead (segHead index first prev rs ++ be4 (crcSum (segHead index first prev rs)) ++ body) =
      match recsGo first rs.length 0 (body.take (leavesOf rs).flatten.length) with
      | none => (noHead, [], 12)
      | some (l, rest) =>
        if rest.length ≠ 0 ∨ (body.drop (leavesOf rs).flatten.length).all (· == 0) = false then (noHead, [], 12)
        else if rootOf (leavesOf l) ≠ rootOf (leavesOf rs) then (noHead, [], 40)
        else (⟨index, first, rs.length, (leavesOf rs).flatten.length, prev, rootOf (leavesOf rs)⟩, l, 0) := by
  have hd := seg_sum (hd := segHead index first prev rs) (sum := be4 (crcSum (segHead index first prev rs))) (rest := body) (segHead_length _ _ _ _ h.prev) rfl
  have hh := h.head (be4 (crcSum (segHead index first prev rs)) ++ body)
  rw [← List.append_assoc] at hh
  have h942 := h.room
  have hsome := h.any
  have hl : (segHead index first prev rs ++ be4 (crcSum (segHead index first prev rs)) ++ body).length = 1024 := by
    simp only [List.length_append, segHead_length _ _ _ _ h.prev, be4_length, hb]
  have hdd : ∀ k, (segHead index first prev rs ++ be4 (crcSum (segHead index first prev rs)) ++ body).drop (82 + k) = body.drop k := by
    intro k; rw [← List.drop_drop, hd.2.2]
  unfold segRead
  rw [if_neg (by rw [hl]; decide), if_neg (by rw [hd.1, hd.2.1]; simp), hh]
  dsimp only
  rw [if_neg (by omega), hd.2.2, Int.toNat_natCast, Int.toNat_natCast, hdd]
  try rfl
theorem segRead_sum {hd sum rest : List UInt8} (h : hd.length = 78) (hs : sum.length = 4) (hne : be4 (crcSum hd) ≠ sum) : (segRead (hd ++ sum ++ rest)).2.2 ≠ 0 := by
  have hd := seg_sum (rest := rest) h hs
  unfold segRead
  split
  · decide
  rw [if_pos (by rw [hd.1, hd.2.1]; exact hne)]
  simp
/-- a byte turned, but for those of a Body's length. -/
theorem SegFine.turn (h : SegFine index first prev rs) {k : Nat} {y : UInt8} (hk : k < (segBytes index first prev rs).length) (hy : y ≠ (segBytes index first prev rs)[k])
    (hj : ∀ j, j < rs.length → k ≠ 82 + offOf rs j + 9 ∧ k ≠ 82 + offOf rs j + 10) : (segRead ((segBytes index first prev rs).set k y)).2.2 ≠ 0 := by
  have hl := segBytes_length index first prev rs h.prev h.room
  have hH := segHead_length index first prev rs h.prev
  have h4 := be4_length (crcSum (segHead index first prev rs))
  have hs := seg_split (index := index) (first := first) (rs := rs) h.prev
  have hroom := h.room
  rw [hl] at hk
  have hget := hy
  simp only [hs.1] at hget
  rw [hs.1]
  generalize hB : (leavesOf rs).flatten ++ List.replicate (942 - (leavesOf rs).flatten.length) 0 = body at *
  have hBl : body.length = 942 := by rw [← hB, List.length_append, List.length_replicate]; omega
  by_cases h78 : k < 78
  · rw [List.set_append_left _ _ (by omega), List.set_append_left _ _ (by omega)]
    refine segRead_sum (by rw [List.length_set]; omega) h4 ?_
    intro e
    have := crcSum_set (by omega) (be4_inj e)
    apply hget
    rw [this, List.getElem_append_left (by omega), List.getElem_append_left (by omega)]
  · by_cases h82 : k < 82
    · rw [List.set_append_left _ _ (by omega), List.set_append_right _ _ (by omega)]
      refine segRead_sum hH (by rw [List.length_set]; omega) ?_
      intro e
      have h2 := congrArg (fun l => l[k - (segHead index first prev rs).length]?) e
      have hlt : k - (segHead index first prev rs).length < (be4 (crcSum (segHead index first prev rs))).length := by omega
      simp only [List.getElem?_set_self hlt, List.getElem?_eq_getElem hlt] at h2
      injection h2 with h2
      apply hget
      rw [← h2, List.getElem_append_left (by omega), List.getElem_append_right (by omega)]
    · rw [List.set_append_right _ _ (by omega), hs.2]
      rw [h.readBody (body.set (k - 82) y) (by rw [List.length_set]; exact hBl)]
      by_cases hin : k - 82 < (leavesOf rs).flatten.length
      · have e1 : (body.set (k - 82) y).take (leavesOf rs).flatten.length = (leavesOf rs).flatten.set (k - 82) y := by
          rw [← hB, List.set_append_left _ _ hin, List.take_left' (by rw [List.length_set])]
        have e2 := recsGo_turn first [] y rs 0 (k - 82) h.right hin (fun j hj' => by have := hj j hj'; omega) (by
          intro e
          apply hget
          have : (segHead index first prev rs ++ be4 (crcSum (segHead index first prev rs)) ++ body)[k]'(by rw [List.length_append, hs.2]; omega) = (leavesOf rs).flatten[k - 82] := by
            rw [List.getElem_append_right (by omega)]
            simp only [hs.2, ← hB]
            rw [List.getElem_append_left hin]
          rw [e, this])
        rw [List.append_nil] at e2
        rw [e1, e2]
        simp
      · have e1 : (body.set (k - 82) y).take (leavesOf rs).flatten.length = (leavesOf rs).flatten := by
          rw [← hB, List.set_append_right _ _ (by omega), List.take_left' rfl]
        have e2 := recsGo_enc first [] rs 0 h.right h.seqsW
        rw [List.append_nil] at e2
        have e3 : ((body.set (k - 82) y).drop (leavesOf rs).flatten.length).all (· == 0) = false := by
          rw [← hB, List.set_append_right _ _ (by omega), List.drop_left' rfl, List.all_eq_false]
          refine ⟨y, List.mem_of_getElem (i := k - 82 - (leavesOf rs).flatten.length) (h := by rw [List.length_set, List.length_replicate]; omega) ?_, ?_⟩
          · rw [List.getElem_set_self]
          · intro e
            have e0 : y = 0 := by simpa using e
            apply hget
            rw [e0, List.getElem_append_right (by omega)]
            simp only [hs.2, ← hB]
            rw [List.getElem_append_right (by omega), List.getElem_replicate]
        rw [e1, e2]
        dsimp only
        rw [if_pos (.inr e3)]
        simp
end
section
variable {index first : Int} {prev : List UInt8} {rs : List RecP}
theorem all_zero {l : List UInt8} (h : ¬ (l.all (· == 0) = false)) : l = List.replicate l.length 0 := by
  have h1 : l.all (· == 0) = true := by simpa using h
  rw [List.all_eq_true] at h1
  exact List.eq_replicate_of_mem fun b hb => by simpa using h1 b hb
/-- a right segment's head ahead of any bytes: what is read has the head's Root; has it the same Leaves, the bytes are the same; what is refused has no records. -/
theorem SegFine.cuts (h : SegFine index first prev rs) (body : List UInt8) (hb : body.length = 942) (d : HeadP × List RecP × Int) (hd : segRead (segHead index first prev rs ++ be4 (crcSum (segHead index first prev rs)) ++ body) = d) :
    (d.2.2 = 0 → rootOf (leavesOf d.2.1) = rootOf (leavesOf rs) ∧ (leavesOf d.2.1 = leavesOf rs → body = (leavesOf rs).flatten ++ List.replicate (942 - (leavesOf rs).flatten.length) 0)) ∧
    (d.2.2 ≠ 0 → d.2.1 = [] ∧ body ≠ (leavesOf rs).flatten ++ List.replicate (942 - (leavesOf rs).flatten.length) 0) := by
  have hok : body = (leavesOf rs).flatten ++ List.replicate (942 - (leavesOf rs).flatten.length) 0 → d.2.2 = 0 := by
    intro e
    rw [← hd, e, ← (seg_split h.prev).1, h.read]
  rw [h.readBody body hb] at hd
  refine ⟨?_, fun hne => ⟨?_, fun e => hne (hok e)⟩⟩
  · intro h0
    cases hg : recsGo first rs.length 0 (body.take (leavesOf rs).flatten.length) with
    | none => rw [hg] at hd; subst hd; simp at h0
    | some p =>
      obtain ⟨l, rest⟩ := p
      rw [hg] at hd
      dsimp only at hd
      split at hd
      · subst hd; simp at h0
      rename_i hz
      split at hd
      · subst hd; simp at h0
      rename_i hr
      subst hd
      dsimp only
      refine ⟨Decidable.not_not.1 hr, fun he => ?_⟩
      have hrest : rest = [] := List.eq_nil_of_length_eq_zero (Decidable.not_not.1 fun e => hz (.inl e))
      have htail := all_zero fun e => hz (.inr e)
      obtain ⟨hb1, _⟩ := recsGo_ok _ _ _ _ _ _ hg
      rw [hrest, List.append_nil, he] at hb1
      have e := (List.take_append_drop (leavesOf rs).flatten.length body).symm
      rw [hb1, htail, List.length_drop, hb] at e
      exact e
  · cases hg : recsGo first rs.length 0 (body.take (leavesOf rs).flatten.length) with
    | none => rw [hg] at hd; subst hd; rfl
    | some p =>
      obtain ⟨l, rest⟩ := p
      rw [hg] at hd
      dsimp only at hd
      split at hd
      · subst hd; rfl
      split at hd
      · subst hd; rfl
      · subst hd; exact absurd rfl hne
end
/-! ### the bytes of the Bodies' lengths -/
theorem offOf_succ (rs : List RecP) (i : Nat) (h : i < rs.length) (hr : recRight rs[i] = true) : offOf rs (i + 1) = offOf rs i + (15 + rs[i].body.length) := by
  unfold offOf
  rw [List.take_succ_eq_append_getElem h]
  have e : leavesOf (rs.take i ++ [rs[i]]) = leavesOf (rs.take i) ++ [recEnc rs[i]] := by unfold leavesOf; rw [List.map_append, List.map_singleton, if_pos hr]
  rw [e, List.flatten_append, List.length_append, List.flatten_singleton, recEnc_len hr]
theorem offOf_all (rs : List RecP) : offOf rs rs.length = (leavesOf rs).flatten.length := by unfold offOf; rw [List.take_of_length_le (Nat.le_refl _)]
theorem offOf_le (rs : List RecP) (i : Nat) : offOf rs i ≤ (leavesOf rs).flatten.length := by
  unfold offOf leavesOf
  rw [List.map_take]
  have h := congrArg (fun l : List (List UInt8) => l.flatten.length) (List.take_append_drop i (rs.map fun r => if recRight r = true then recEnc r else []))
  simp only [List.flatten_append, List.length_append] at h
  omega
/-- is a byte one of the lengths of the first i Bodies? -/
def lenFlag (rs : List RecP) (i j : Nat) : Bool := decide (∃ q, q < i ∧ (j = 82 + offOf rs q + 9 ∨ j = 82 + offOf rs q + 10))
def lenFlags (rs : List RecP) (i : Nat) : List Bool := (List.range 1100).map (lenFlag rs i)
theorem lenFlags_zero (rs : List RecP) : lenFlags rs 0 = List.replicate 1100 false := by
  apply List.ext_getElem
  · unfold lenFlags; rw [List.length_map, List.length_range, List.length_replicate]
  · intro j h1 h2
    simp only [lenFlags, List.getElem_map, List.getElem_range, List.getElem_replicate]
    exact decide_eq_false (by rintro ⟨q, hq, _⟩; omega)
theorem lenFlags_succ (rs : List RecP) (i : Nat) : ((lenFlags rs i).set (82 + offOf rs i + 9) true).set (82 + offOf rs i + 10) true = lenFlags rs (i + 1) := by
  apply List.ext_getElem
  · simp [lenFlags]
  · intro j h1 h2
    simp only [List.getElem_set, lenFlags, List.getElem_map, List.getElem_range]
    by_cases e1 : 82 + offOf rs i + 10 = j
    · rw [if_pos e1]
      exact (decide_eq_true ⟨i, by omega, .inr e1.symm⟩).symm
    · rw [if_neg e1]
      by_cases e2 : 82 + offOf rs i + 9 = j
      · rw [if_pos e2]
        exact (decide_eq_true ⟨i, by omega, .inl e2.symm⟩).symm
      · rw [if_neg e2]
        unfold lenFlag
        rw [decide_eq_decide]
        constructor
        · rintro ⟨q, hq, h⟩; exact ⟨q, by omega, h⟩
        · rintro ⟨q, hq, h⟩
          refine ⟨q, ?_, h⟩
          rcases Nat.lt_or_ge q i with h3 | h3
          · exact h3
          · have : q = i := by omega
            subst this; omega
theorem lenFlags_get (rs : List RecP) (i k : Nat) (hk : k < (lenFlags rs i).length) (h : (lenFlags rs i)[k] = false) : ∀ j, j < i → k ≠ 82 + offOf rs j + 9 ∧ k ≠ 82 + offOf rs j + 10 := by
  simp only [lenFlags, List.getElem_map, List.getElem_range, lenFlag, decide_eq_false_iff_not] at h
  intro j hj
  exact ⟨fun e => h ⟨j, hj, .inl e⟩, fun e => h ⟨j, hj, .inr e⟩⟩
end Go.Proofs.YtfegdgaanmcecaaGreatDoor
/-
  PROVED HERE: plain law: raw records that fit make a right segment; no program is in sight.
-/
namespace Go.Proofs.YtfegdgaanmcecaaGreatDoor
open Go.RowKit

theorem fitsIn_take : ∀ (left : Nat) (rs : List RecP), fitsIn left (rs.take (fitsIn left rs)) = fitsIn left rs
  | _, [] => by simp [fitsIn]
  | left, r :: rs => by
    by_cases h : recRight r = true ∧ recSize r ≤ left
    · have e : fitsIn left (r :: rs) = fitsIn (left - recSize r) rs + 1 := by rw [fitsIn, if_pos h]
      rw [e, List.take_succ_cons, fitsIn, if_pos h, fitsIn_take]
    · have e : fitsIn left (r :: rs) = 0 := by rw [fitsIn, if_neg h]
      rw [e, List.take_zero]; rfl
theorem rawRecs_get (first : Int) (most : Nat) (l : List RawP) (n k : Nat) (hk : k < (rawRecs first most l n).length) : (rawRecs first most l n)[k] = rawRec (l.getD k default) (IntKind.u64.wrap (first + k)) most := by
  simp only [rawRecs, List.getElem_map, List.getElem_range]
theorem rawRec_body (r : RawP) (s : Int) (most : Nat) : (rawRec r s most).body.length ≤ most := by
  unfold rawRec
  split
  · simp
  · simp only [List.length_take]; omega
theorem rawRec_seq (r : RawP) (s : Int) (most : Nat) : (rawRec r s most).seq = s := by unfold rawRec; split <;> rfl
theorem rawRecs_body {first : Int} {most : Nat} {l : List RawP} {n : Nat} {r : RecP} (h : r ∈ rawRecs first most l n) : r.body.length ≤ most := by
  obtain ⟨k, hk, rfl⟩ := List.mem_iff_getElem.1 h
  rw [rawRecs_get]; exact rawRec_body _ _ _
theorem raw_fine {index first : Int} {prev : List UInt8} {l : List RawP} {n most : Nat} (hi0 : 0 ≤ index) (hi1 : index ≤ 65535) (hf0 : 0 ≤ first) (hf1 : first ≤ 1099511627776) (hp : prev.length = 32)
    (hm : fitsIn 942 (rawRecs first most l n) ≠ 0) : SegFine index first prev ((rawRecs first most l n).take (fitsIn 942 (rawRecs first most l n))) := by
  generalize hrs : rawRecs first most l n = rs0 at *
  have hle := fitsIn_le 942 rs0
  have hlen : (rs0.take (fitsIn 942 rs0)).length = fitsIn 942 rs0 := by rw [List.length_take]; omega
  obtain ⟨h1, h2, h3⟩ := fits_all 942 (rs0.take (fitsIn 942 rs0)) (by rw [fitsIn_take, hlen]; exact Nat.le_refl _)
  have hseq : ∀ k (h : k < (rs0.take (fitsIn 942 rs0)).length), (rs0.take (fitsIn 942 rs0))[k].seq = first + k := by
    intro k hk
    rw [List.getElem_take]
    subst hrs
    rw [rawRecs_get, rawRec_seq, IntKind.wrap_u64]
    omega
  refine ⟨hi0, hi1, hf0, hf1, hp, by rw [hlen]; exact hm, fun r hr => ⟨h1 r hr, ?_⟩, h2, h3, hseq⟩
  obtain ⟨k, hk, rfl⟩ := List.mem_iff_getElem.1 hr
  rw [hseq k hk]; omega
theorem raw_build {index first : Int} {l : List RawP} {n most : Nat} (hi0 : 0 ≤ index) (hi1 : index ≤ 65535) (hf0 : 0 ≤ first) (hf1 : first ≤ 1099511627776)
    (hm : fitsIn 942 (rawRecs first most l n) ≠ 0) : buildArgs index first 32 ((rawRecs first most l n).take (fitsIn 942 (rawRecs first most l n))) = true ∧ seqsFrom first ((rawRecs first most l n).take (fitsIn 942 (rawRecs first most l n))) = true := by
  have hF := raw_fine (prev := List.replicate 32 0) hi0 hi1 hf0 hf1 (by simp) hm
  have hle := fitsIn_le 942 (rawRecs first most l n)
  have hlen : ((rawRecs first most l n).take (fitsIn 942 (rawRecs first most l n))).length = fitsIn 942 (rawRecs first most l n) := by rw [List.length_take]; omega
  refine ⟨?_, (seqsFrom_iff _ _).2 hF.seqs⟩
  unfold buildArgs
  rw [decide_eq_true_eq, fitsIn_take]
  exact ⟨hi0, hi1, hf1, rfl, hF.any, by omega⟩
theorem raw_none {index first : Int} {l : List RawP} {n most : Nat} (hm : fitsIn 942 (rawRecs first most l n) = 0) : buildArgs index first 32 ((rawRecs first most l n).take (fitsIn 942 (rawRecs first most l n))) = false := by
  unfold buildArgs
  rw [decide_eq_false_iff_not, hm]
  rintro ⟨_, _, _, _, h, _⟩
  exact h rfl
theorem Recs.take {w : World} {D : Nat → Prop} {A : Option Addr} {n : Nat} {rs : List RecP} (h : Recs w D A n rs) {m : Nat} (hm : m ≤ n) : Recs w D A m (rs.take m) := by
  obtain ⟨vs, h1, h2, h3⟩ := h
  refine ⟨vs.take (m * 3), h1.cutTo hm, by rw [List.length_take]; omega, fun k hk => ?_⟩
  have hk' : k < m := by rw [List.length_take] at hk; omega
  obtain ⟨A', c', e1, e2, e3, rest⟩ := h3 k (by omega)
  rw [List.getElem_take]
  exact ⟨A', c', by rw [List.getElem?_take, if_pos (by omega)]; exact e1, by rw [List.getElem?_take, if_pos (by omega)]; exact e2, by rw [List.getElem?_take, if_pos (by omega)]; exact e3, rest⟩
@[go_sem] theorem bv_xor (a b : UInt8) : bits .xor .u8 (bv a) (bv b) = bv (a ^^^ b) := by
  unfold bv
  rw [UInt8.toNat_xor]
  exact u8_xor_nat _ _ a.toNat_lt b.toNat_lt
end Go.Proofs.YtfegdgaanmcecaaGreatDoor
/-
  PROVED HERE: what segment.Read answers at bytes of another length; how much it reads; no condition.
-/
namespace Go.Proofs.YtfegdgaanmcecaaGreatDoor
open Go.RowKit

theorem right_len : ∀ (rs : List RecP), (∀ r ∈ rs, recRight r = true) → 15 * rs.length ≤ (leavesOf rs).flatten.length
  | [], _ => by simp
  | r :: rs, h => by
    have ih := right_len rs (fun x hx => h x (by simp [hx]))
    have h1 := h r (by simp)
    rw [leavesOf_cons h1, List.flatten_cons, List.length_append, recEnc_len h1, List.length_cons]
    omega
theorem segRead_small (bs : List UInt8) : (∀ r ∈ (segRead bs).2.1, recRight r = true) ∧ (leavesOf (segRead bs).2.1).flatten.length ≤ 942 ∧ (segRead bs).2.1.length ≤ 942 := by
  have nil : (∀ r ∈ ([] : List RecP), recRight r = true) ∧ (leavesOf ([] : List RecP)).flatten.length ≤ 942 ∧ ([] : List RecP).length ≤ 942 := by simp [leavesOf]
  unfold segRead
  split
  · exact nil
  split
  · exact nil
  split
  · exact nil
  rename_i h1 h2 h3
  split
  · exact nil
  · rename_i rs rest hg
    split
    · exact nil
    split
    · exact nil
    · obtain ⟨e, _, hr, _⟩ := recsGo_ok _ _ _ _ _ _ hg
      have hl := congrArg List.length e
      rw [List.length_append, List.length_take] at hl
      have hb : (headOf bs).bytes.toNat ≤ 942 := by omega
      have hr' : ∀ r ∈ rs, recRight r = true := fun r h => (hr r h).1
      have h15 := right_len rs hr'
      refine ⟨hr', ?_, ?_⟩
      · show (leavesOf rs).flatten.length ≤ 942
        omega
      · show rs.length ≤ 942
        omega
theorem read_no (D : Nat → Prop) (A : Option Addr) (n c : Nat) (bs : List UInt8) (w : World) (hB : Bs w D A n bs) (h : n ≠ 1024) :
    Calls Tryz.prog 31 #[.slice A n c] w fun e w' =>
      (∃ B1 e1 B2 e2 B3 e3, e = .returned (.tuple #[.agg #[.int .i64 0, .int .u64 0, .int .i64 0, .int .i64 0, .slice B1 0 e1, .slice B2 0 e2], .slice B3 0 e3, .int .i64 1])) ∧ New w w' := by
  have e : segRead bs = (noHead, [], 1) := by unfold segRead; rw [if_pos (by rw [hB.len]; exact h)]
  refine (read_short D A n c bs w hB h).mono ?_
  rintro en w' ⟨⟨B1, e1, B2, e2, B3, e3, he, -⟩, hK⟩
  rw [e] at he
  exact ⟨⟨B1, e1, B2, e2, B3, e3, he⟩, hK⟩
end Go.Proofs.YtfegdgaanmcecaaGreatDoor
/-
  PROVED HERE: what the reference's turn answers, laws for whole arrays, and the loops of its Sum as terms; no condition.
-/
namespace Go.Proofs.YtfegdgaanmcecaaGreatDoor
open Go.RowKit

theorem rrot2 (x : BitVec 32) (w : World) : Calls Tryz.prog 132 #[.int .u32 (wv x), .int .u64 2] w fun e w' => e = .returned (.int .u32 (wv (rotr x 2))) ∧ w = w' := by
  rw [show rotr x 2 = x >>> 2 ||| x <<< 30 from BitVec.or_comm _ _]
  go_enter Tryz.func132, Tryz.ntmps132
  go_wp2
  go_ret
  exact ⟨rfl, rfl⟩
theorem rrot6 (x : BitVec 32) (w : World) : Calls Tryz.prog 132 #[.int .u32 (wv x), .int .u64 6] w fun e w' => e = .returned (.int .u32 (wv (rotr x 6))) ∧ w = w' := by
  rw [show rotr x 6 = x >>> 6 ||| x <<< 26 from BitVec.or_comm _ _]
  go_enter Tryz.func132, Tryz.ntmps132
  go_wp2
  go_ret
  exact ⟨rfl, rfl⟩
theorem rrot7 (x : BitVec 32) (w : World) : Calls Tryz.prog 132 #[.int .u32 (wv x), .int .u64 7] w fun e w' => e = .returned (.int .u32 (wv (rotr x 7))) ∧ w = w' := by
  rw [show rotr x 7 = x >>> 7 ||| x <<< 25 from BitVec.or_comm _ _]
  go_enter Tryz.func132, Tryz.ntmps132
  go_wp2
  go_ret
  exact ⟨rfl, rfl⟩
theorem rrot11 (x : BitVec 32) (w : World) : Calls Tryz.prog 132 #[.int .u32 (wv x), .int .u64 11] w fun e w' => e = .returned (.int .u32 (wv (rotr x 11))) ∧ w = w' := by
  rw [show rotr x 11 = x >>> 11 ||| x <<< 21 from BitVec.or_comm _ _]
  go_enter Tryz.func132, Tryz.ntmps132
  go_wp2
  go_ret
  exact ⟨rfl, rfl⟩
theorem rrot13 (x : BitVec 32) (w : World) : Calls Tryz.prog 132 #[.int .u32 (wv x), .int .u64 13] w fun e w' => e = .returned (.int .u32 (wv (rotr x 13))) ∧ w = w' := by
  rw [show rotr x 13 = x >>> 13 ||| x <<< 19 from BitVec.or_comm _ _]
  go_enter Tryz.func132, Tryz.ntmps132
  go_wp2
  go_ret
  exact ⟨rfl, rfl⟩
theorem rrot17 (x : BitVec 32) (w : World) : Calls Tryz.prog 132 #[.int .u32 (wv x), .int .u64 17] w fun e w' => e = .returned (.int .u32 (wv (rotr x 17))) ∧ w = w' := by
  rw [show rotr x 17 = x >>> 17 ||| x <<< 15 from BitVec.or_comm _ _]
  go_enter Tryz.func132, Tryz.ntmps132
  go_wp2
  go_ret
  exact ⟨rfl, rfl⟩
theorem rrot18 (x : BitVec 32) (w : World) : Calls Tryz.prog 132 #[.int .u32 (wv x), .int .u64 18] w fun e w' => e = .returned (.int .u32 (wv (rotr x 18))) ∧ w = w' := by
  rw [show rotr x 18 = x >>> 18 ||| x <<< 14 from BitVec.or_comm _ _]
  go_enter Tryz.func132, Tryz.ntmps132
  go_wp2
  go_ret
  exact ⟨rfl, rfl⟩
theorem rrot19 (x : BitVec 32) (w : World) : Calls Tryz.prog 132 #[.int .u32 (wv x), .int .u64 19] w fun e w' => e = .returned (.int .u32 (wv (rotr x 19))) ∧ w = w' := by
  rw [show rotr x 19 = x >>> 19 ||| x <<< 13 from BitVec.or_comm _ _]
  go_enter Tryz.func132, Tryz.ntmps132
  go_wp2
  go_ret
  exact ⟨rfl, rfl⟩
theorem rrot22 (x : BitVec 32) (w : World) : Calls Tryz.prog 132 #[.int .u32 (wv x), .int .u64 22] w fun e w' => e = .returned (.int .u32 (wv (rotr x 22))) ∧ w = w' := by
  rw [show rotr x 22 = x >>> 22 ||| x <<< 10 from BitVec.or_comm _ _]
  go_enter Tryz.func132, Tryz.ntmps132
  go_wp2
  go_ret
  exact ⟨rfl, rfl⟩
theorem rrot25 (x : BitVec 32) (w : World) : Calls Tryz.prog 132 #[.int .u32 (wv x), .int .u64 25] w fun e w' => e = .returned (.int .u32 (wv (rotr x 25))) ∧ w = w' := by
  rw [show rotr x 25 = x >>> 25 ||| x <<< 7 from BitVec.or_comm _ _]
  go_enter Tryz.func132, Tryz.ntmps132
  go_wp2
  go_ret
  exact ⟨rfl, rfl⟩

theorem wpList_store_at {P : Program} {ops : Array Oper} {rest : List Oper} {o : Oper} {a : Act} {Q : Exit → Act → World → Prop} {w : World} (hgd : o.guard = none) (ty : TypeId) (x y : Operand) (ho : o.op = .store ty x y)
    (c c' : Array Value) (g : Nat) (hx : a.eval x = .pointer (some ⟨g, 0, none⟩)) (hy : a.eval y = .agg c') (hg : g = w.heap.size)
    (hi : (P.info? ty).map (·.size) = some c'.size) (hs : c.size = c'.size) (h1 : c'.all (·.oneCell') = true)
    (h : wpList P ops Q rest (a.put o.dst undef) (w.alloc (.cells c' ty))) : wpList P ops Q (o :: rest) a (w.alloc (.cells c ty)) :=
  wpList_store_new hgd ty x y ho ty c c' (by rw [hx, hg]) hy hi rfl hs h1 h
theorem W32s.vals (w : World) (t : TypeId) (l : List Nat) (arr : Array Value) (ha : arr.toList = l.map fun (n : Nat) => Value.int .u32 (n : Int)) (hl : ∀ n ∈ l, n < 4294967296) (m : Nat) (hm : m = l.length) :
    W32s (w.alloc (.cells arr t)) w.heap.size 0 m (fun j => BitVec.ofNat 32 (l.getD j 0)) := fun j hj => by
  refine ⟨?_, free_new w _ t _⟩
  rw [cell_of_row _ _ _ _ t (0, 0) (heap_alloc_new w _), Nat.zero_add, ← Array.getElem?_toList, ha]
  exact vals_at l hl j (by omega)
def S8.arr (S : S8) : Array Value := #[.int .u32 (wv S.a), .int .u32 (wv S.b), .int .u32 (wv S.c), .int .u32 (wv S.d), .int .u32 (wv S.e), .int .u32 (wv S.f), .int .u32 (wv S.g), .int .u32 (wv S.h)]
theorem S8.arr_at (S : S8) (j : Nat) (hj : j < 8) : S.arr[j]? = some (.int .u32 (wv (S.get j))) := by
  match j, hj with
  | 0, _ => rfl
  | 1, _ => rfl
  | 2, _ => rfl
  | 3, _ => rfl
  | 4, _ => rfl
  | 5, _ => rfl
  | 6, _ => rfl
  | 7, _ => rfl
theorem Keep.setRow {D : Nat → Prop} {a w : World} (h : Keep D a w) {g : Nat} (hg : D g → a.heap.size ≤ g) (cs : Array Value) : Keep D a (w.setRow g cs) :=
  ⟨h.os, h.tape, h.output, by simpa using h.size, fun k hk hd => (setRow_other w g k cs (by rintro rfl; have := hg hd; omega)).trans (h.block k hk hd)⟩
theorem W32s.ofArr {w : World} {g : Nat} {t : TypeId} {S : S8} (h : w.heap[g]? = some (.cells S.arr t (0, 0))) : W32s w g 0 8 S.get := fun j hj => by
  refine ⟨?_, ?_⟩
  · rw [Nat.zero_add]; exact (cell_of_row w g j S.arr t (0, 0) h).trans (S8.arr_at S j hj)
  · unfold World.frozen?; rw [h]; simp
theorem S8.arr_size (S : S8) : S.arr.size = 8 := rfl
theorem S8.arr_size2 (S T : S8) : S.arr.size = T.arr.size := rfl
theorem S8.arr_one (S : S8) : S.arr.all (·.oneCell') = true := by simp [S8.arr, Value.oneCell']
theorem info_8 : (Tryz.prog.info? 161).map (·.size) = some 8 := by kernel_rfl
theorem S8.arr_info (S : S8) : (Tryz.prog.info? 161).map (·.size) = some S.arr.size := info_8
theorem quiet_add_left {P : Program} {f : FuncId} {args : Array Value} {w : World} {a n : Nat} {v : Value}
    (h : Calls P f args (w.drewN (a + n)) fun e w' => e = .returned v ∧ w.drewN (a + n) = w') : Calls P f args (w.drewN (a + n)) fun e w'' => e = .returned v ∧ ∃ m, w'' = w.drewN (a + m) :=
  h.mono fun _ _ ⟨he, hm⟩ => ⟨he, n, hm.symm⟩
theorem wpList_build_lit {P : Program} {ops : Array Oper} {rest : List Oper} {a : Act} {w : World} {Q : Exit → Act → World → Prop} {dst : Option Tmp} {t ty : TypeId} {parts : Array (Nat × Operand)} {pos : String} {after : Array Edge}
    (cs : Array Value) (hf : P.built t (parts.map fun (i, x) => (i, a.eval x)).toList = some cs) (h : wpList P ops Q rest (a.put dst (.agg cs)) w) : wpList P ops Q ({ dst := dst, op := .build t parts, type := ty, pos := pos, after := after, guard := none } :: rest) a w :=
  wpList_build_as rfl t parts rfl cs hf h
theorem wpList_storerow_lit {P : Program} {ops : Array Oper} {rest : List Oper} {a : Act} {w : World} {Q : Exit → Act → World → Prop} {dst : Option Tmp} {t ty : TypeId} {x y : Operand} {pos : String} {after : Array Edge}
    (g : Nat) (cells : Array Value) (old : Array Value) (hg : w.heap[g]? = some (.cells old t (0, 0))) (hx : a.eval x = .pointer (some ⟨g, 0, none⟩)) (hy : a.eval y = .agg cells) (hi : (P.info? t).map (·.size) = some cells.size)
    (hold : old.size = cells.size) (h1 : cells.all (·.oneCell') = true) (h : wpList P ops Q rest (a.put dst undef) (w.setRow g cells)) : wpList P ops Q ({ dst := dst, op := .store t x y, type := ty, pos := pos, after := after, guard := none } :: rest) a w :=
  wpList_store_row rfl t x y rfl g cells hx hy t old hg hi hold h1 h
theorem wordAt_block (L : List UInt8) (t k : Nat) (hk : k < 16) (h : 64 * t + 4 * k + 3 < L.length) :
    wordAt ((L.drop (64 * t)).take 64) k = word4 (L[64 * t + 4 * k]'(by omega)) (L[64 * t + 4 * k + 1]'(by omega)) (L[64 * t + 4 * k + 2]'(by omega)) (L[64 * t + 4 * k + 3]'h) := by
  have e : ∀ i, i < 64 → (h' : 64 * t + i < L.length) → ((L.drop (64 * t)).take 64).getD i 0 = L[64 * t + i]'h' := fun i hi h' => by
    rw [List.getD_eq_getElem?_getD, List.getElem?_take, if_pos hi, List.getElem?_drop, List.getElem?_eq_getElem h']; rfl
  unfold wordAt
  rw [e (4 * k) (by omega) (by omega), e (4 * k + 1) (by omega) (by omega), e (4 * k + 2) (by omega) (by omega), e (4 * k + 3) (by omega) (by omega)]
  rfl
/-- the bodies of a function's loops, in the text's order. -/
def loopsOf : Code → List Code
  | .loop c => c :: loopsOf c
  | .seq a b => loopsOf a ++ loopsOf b
  | .block _ c => loopsOf c
  | .scope c => loopsOf c
  | .cond _ a b => loopsOf a ++ loopsOf b
  | _ => []
def nthLoop (f : Func) (n : Nat) : Code := (loopsOf (f.body.getD .skip)).getD n .skip
noncomputable def refLoop3 : Code := nthLoop Tryz.f102 2
noncomputable def refLoop4 : Code := nthLoop Tryz.f102 3
noncomputable def refLoop5 : Code := nthLoop Tryz.f102 4
noncomputable def refLoop6 : Code := nthLoop Tryz.f102 5
noncomputable def refLoop7 : Code := nthLoop Tryz.f102 6
end Go.Proofs.YtfegdgaanmcecaaGreatDoor
