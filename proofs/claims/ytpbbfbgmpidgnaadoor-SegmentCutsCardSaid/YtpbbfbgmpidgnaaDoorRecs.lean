/-
  PROVED HERE: what segment.Fits and segment.Leaves answer; conditions: lengths that a slice may have.
-/
import Derived.Test.YtpbbfbgmpidgnaaDoorRecord
namespace Go.Proofs.YtpbbfbgmpidgnaaDoor
open Go.RowKit

/-- a record that lies at a place. -/
def RecAt (w : World) (D : Nat → Prop) (vs : List Value) (i : Nat) (r : RecP) : Prop :=
  ∃ A c, vs[i]? = some (.int .i64 r.kind) ∧ vs[i + 1]? = some (.int .u64 r.seq) ∧ vs[i + 2]? = some (.slice A r.body.length c) ∧ r.body.length ≤ c ∧ Bs w D A r.body.length r.body ∧ 0 ≤ r.seq ∧ r.seq ≤ 18446744073709551615 ∧ r.body.length ≤ 9223372036854770000 ∧ c ≤ 9223372036854775807
theorem RecAt.keep {w w' : World} {D E : Nat → Prop} {vs : List Value} {i : Nat} {r : RecP} (h : RecAt w D vs i r) (hk : Keep E w w') (hE : ∀ b, b < w.heap.size → D b → E b) : RecAt w' D vs i r := by
  obtain ⟨A, c, h1, h2, h3, h4, h5, h6, h7, h8⟩ := h
  exact ⟨A, c, h1, h2, h3, h4, h5.keep hk hE, h6, h7, h8⟩
theorem RecAt.imp {w : World} {D E : Nat → Prop} {vs : List Value} {i : Nat} {r : RecP} (h : RecAt w D vs i r) (hE : ∀ b, b < w.heap.size → D b → E b) : RecAt w E vs i r := by
  obtain ⟨A, c, h1, h2, h3, h4, h5, h6, h7, h8⟩ := h
  exact ⟨A, c, h1, h2, h3, h4, h5.imp hE, h6, h7, h8⟩
/-- a slice of records. -/
def Recs (w : World) (D : Nat → Prop) (A : Option Addr) (n : Nat) (rs : List RecP) : Prop :=
  ∃ vs : List Value, Row w D A n 3 vs ∧ rs.length = n ∧ ∀ k (h : k < rs.length), RecAt w D vs (k * 3) rs[k]
section
variable {w w' : World} {D E : Nat → Prop} {A : Option Addr} {n : Nat} {rs : List RecP}
theorem Recs.len (h : Recs w D A n rs) : rs.length = n := by obtain ⟨_, _, h, _⟩ := h; exact h
theorem Recs.imp (h : Recs w D A n rs) (hE : ∀ b, b < w.heap.size → D b → E b) : Recs w E A n rs := by
  obtain ⟨vs, h1, h2, h3⟩ := h
  exact ⟨vs, h1.imp hE, h2, fun k hk => (h3 k hk).imp hE⟩
theorem Recs.keep (h : Recs w D A n rs) (hk : Keep E w w') (hE : ∀ b, b < w.heap.size → D b → E b) : Recs w' D A n rs := by
  obtain ⟨vs, h1, h2, h3⟩ := h
  exact ⟨vs, h1.keep hk hE, h2, fun k hk' => (h3 k hk').keep hk hE⟩
theorem Recs.new (h : Recs w D A n rs) (hk : New w w') : Recs w' D A n rs := h.keep hk fun _ _ _ => trivial
theorem Recs.nil (w : World) (D : Nat → Prop) (A : Option Addr) : Recs w D A 0 [] := ⟨[], Row.nil w D A 3, rfl, fun k hk => absurd hk (by simp)⟩
theorem Recs.at_ (h : Recs w D A n rs) {k : Nat} (hk : k < rs.length) :
    ∃ b off A' c', A = some ⟨b, off, none⟩ ∧ w.cell? ⟨b, off + k * 3, none⟩ = some (.int .i64 rs[k].kind) ∧ w.cell? ⟨b, off + k * 3 + 1, none⟩ = some (.int .u64 rs[k].seq) ∧
      w.cell? ⟨b, off + k * 3 + 2, none⟩ = some (.slice A' rs[k].body.length c') ∧ rs[k].body.length ≤ c' ∧ Bs w D A' rs[k].body.length rs[k].body ∧ 0 ≤ rs[k].seq ∧ rs[k].seq ≤ 18446744073709551615 ∧ rs[k].body.length ≤ 9223372036854770000 ∧ c' ≤ 9223372036854775807 := by
  obtain ⟨vs, h1, h2, h3⟩ := h
  obtain ⟨A', c', e1, e2, e3, hc, hb, h5, h6, h7⟩ := h3 k hk
  obtain ⟨b, off, hA, _, _, hcell⟩ := h1.2 (by omega)
  refine ⟨b, off, A', c', hA, hcell _ _ e1, ?_, ?_, hc, hb, h5, h6, h7⟩
  · rw [Nat.add_assoc]; exact hcell _ _ e2
  · rw [Nat.add_assoc]; exact hcell _ _ e3
end
/-- how many records have room. -/
def fitsIn : Nat → List RecP → Nat
  | _, [] => 0
  | left, r :: rs => if recRight r = true ∧ recSize r ≤ left then fitsIn (left - recSize r) rs + 1 else 0
theorem fitsIn_le : ∀ (left : Nat) (rs : List RecP), fitsIn left rs ≤ rs.length
  | _, [] => Nat.le_refl _
  | left, r :: rs => by
    unfold fitsIn
    split
    · have := fitsIn_le (left - recSize r) rs; simp; omega
    · simp
theorem fits_step (left k : Nat) (rs : List RecP) (hk : k < rs.length) (hr : recRight rs[k] = true) (hs : recSize rs[k] ≤ left) : fitsIn left (rs.drop k) = fitsIn (left - recSize rs[k]) (rs.drop (k + 1)) + 1 := by
  rw [List.drop_eq_getElem_cons hk, fitsIn, if_pos ⟨hr, hs⟩]
theorem fits_stop (left k : Nat) (rs : List RecP) (hk : k < rs.length) (h : ¬ (recRight rs[k] = true ∧ recSize rs[k] ≤ left)) : fitsIn left (rs.drop k) = 0 := by
  rw [List.drop_eq_getElem_cons hk, fitsIn, if_neg h]
set_option maxRecDepth 100000 in
set_option maxHeartbeats 2000000 in
theorem fits_any (D : Nat → Prop) (A : Option Addr) (n c : Nat) (rs : List RecP) (w : World) (hB : Recs w D A n rs) (hn : n ≤ 9223372036854775807) :
    Calls Tryd.prog 10 #[.slice A n c] w fun e w' => e = .returned (.int .i64 (fitsIn 942 rs)) ∧ New w w' := by
  have hl := hB.len
  have HB := Lib.hid hB
  clear hB
  go_enter Tryd.func10, Tryd.ntmps10
  go_wp2_with fail
  go_loopw [3, 8] (fun s3 i wx => ∃ k left : Nat, k ≤ n ∧ left ≤ 942 ∧ i = .int .i64 (k : Int) ∧ s3 = .int .i64 (left : Int) ∧ fitsIn 942 rs = k + fitsIn left (rs.drop k) ∧ New w wx) (fun _ i _ => n - (intOf i).toNat)
  case atStart => exact ⟨0, 942, Nat.zero_le _, Nat.le_refl _, rfl, rfl, by simp, New.refl _⟩
  case round =>
    obtain ⟨k, left, hk, hlf, rfl, rfl, hf, hK⟩ := hrel
    have HF := Lib.hid hf
    clear hf
    by_cases hlt : k < n
    · obtain ⟨b, off, A', c', rfl, h1, h2, h3, hc', hb, hs0, hs1, hc9⟩ := (HB.out.new hK).at_ (k := k) (by omega)
      have HST := Lib.hid (fits_step left k rs (by omega))
      have HSP := Lib.hid (fits_stop left k rs (by omega))
      generalize rs[k]'_ = r at *
      have HR := Lib.hid (fun w' => right_any r.kind r.seq A' r.body.length c' r w' rfl rfl rfl (by omega))
      have HS := Lib.hid (fun w' => size_any r.kind r.seq A' r.body.length c' r w' rfl rfl rfl (by omega))
      have HO := Lib.hid (heap_alloc_new wr (.cells #[.int .i64 r.kind, .int .u64 r.seq, .slice A' r.body.length c'] 43))
      have hK0 : New w (wr.alloc (.cells #[.int .i64 r.kind, .int .u64 r.seq, .slice A' r.body.length c'] 43)) := hK.alloc _
      clear hb hc' hs0 hs1 hK
      go_wp2_with fail
      generalize wr.alloc _ = w0 at *
      refine (HR.out _).mono ?_
      rintro e w1 ⟨rfl, hK1⟩
      have HO1 := Lib.hid (hK1.blockAt HO.out trivial)
      have hK01 := hK0.new hK1
      clear hK0 hK1 HO h1 h2 h3
      by_cases hr : recRight r = true
      · have d0 := cellOf HO1.out (k := 0) rfl
        have d1 := cellOf HO1.out (k := 1) rfl
        have d2 := cellOf HO1.out (k := 2) rfl
        have HRR := Lib.hid hr
        rw [hr]
        clear hr
        go_wp2_with fail
        clear d0 d1 d2
        refine (HS.out _).mono ?_
        rintro e w2 ⟨rfl, hK2⟩
        have HO2 := Lib.hid (hK2.blockAt HO1.out trivial)
        have hK02 := hK01.new hK2
        clear hK01 hK2 HO1
        by_cases hsz : recSize r ≤ left
        · have hsz' : ¬ ((left : Int) < recSize r) := by omega
          have d0 := cellOf HO2.out (k := 0) rfl
          have d1 := cellOf HO2.out (k := 1) rfl
          have d2 := cellOf HO2.out (k := 2) rfl
          go_wp2_with fail
          clear d0 d1 d2
          refine (HS.out _).mono ?_
          rintro e w3 ⟨rfl, hK3⟩
          have hK03 := hK02.new hK3
          clear hK02 hK3 HO2
          go_wp2_with fail
          go_roundw
          case rel => exact ⟨k + 1, left - recSize r, by omega, by omega, by go_num, by rw [Int.ofNat_sub hsz], by have h := HF.out; rw [HST.out HRR.out hsz] at h; omega, hK03⟩
          case measure => simp [intOf]; omega
        · have hsz' : (left : Int) < recSize r := by omega
          have HZ := Lib.hid (HSP.out (fun h => hsz h.2))
          clear hsz
          go_wp2_with fail
          go_ret
          exact ⟨by rw [HF.out, HZ.out]; rfl, hK02⟩
      · have HZ := Lib.hid (HSP.out (fun h => hr h.1))
        have hr' : recRight r = false := by simpa using hr
        rw [hr']
        clear hr hr'
        go_wp2_with fail
        go_ret
        exact ⟨by rw [HF.out, HZ.out]; rfl, hK01⟩
    · obtain rfl : k = n := by omega
      rw [List.drop_eq_nil_of_le (by omega)] at HF
      have hl' : fitsIn left [] = 0 := rfl
      have HL' := Lib.hid hl'
      clear hl' hl
      go_wp2_with fail
      go_ret
      exact ⟨by rw [HF.out, HL'.out]; rfl, hK⟩
end Go.Proofs.YtpbbfbgmpidgnaaDoor
