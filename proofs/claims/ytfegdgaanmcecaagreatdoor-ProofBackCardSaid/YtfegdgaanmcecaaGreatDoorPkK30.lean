/-
  PROVED HERE: texts that belong together, one behind the other; what each proves, and under which conditions, its own opening remark says: Args17, Build17, Imgs, OwnImgs, HeadsM, Law18.
-/
import Derived.Deep.SlicePairs
import Derived.Test.YtfegdgaanmcecaaGreatDoorPkK09
import Derived.Test.YtfegdgaanmcecaaGreatDoorPkK10
import Derived.Test.YtfegdgaanmcecaaGreatDoorPkK17
import Derived.Test.YtfegdgaanmcecaaGreatDoorPkK25
import Derived.Test.YtfegdgaanmcecaaGreatDoorPkK26
import Derived.Test.YtfegdgaanmcecaaGreatDoorPkK27
/-
  PROVED HERE: which arguments permafrostref17.Build refuses; conditions: lengths that a slice may have.
-/
namespace Go.Proofs.YtfegdgaanmcecaaGreatDoor
open Go.RowKit

set_option maxRecDepth 100000 in
theorem build17_args1 (_D D2 : Nat → Prop) (index first : Int) (A A2 : Option Addr) (n c m c2 : Nat) (rs : List RecP) (w : World) (_hR : Recs w D2 A2 m rs) (_hm : m ≤ 9223372036854775807) (h1 : index < 0) :
    Calls Tryz.prog 29 #[.int .i64 index, .int .u64 first, .slice A n c, .slice A2 m c2] w fun e w' => e = .returned (.tuple #[.slice none 0 0, .int .i64 1]) ∧ New w w' := by
  clear _hR
  go_enter Tryz.func29, Tryz.ntmps29
  go_wp2_with fail
  go_ret2
  exact ⟨rfl, New.refl _⟩
set_option maxRecDepth 100000 in
theorem build17_args2 (_D D2 : Nat → Prop) (index first : Int) (A A2 : Option Addr) (n c m c2 : Nat) (rs : List RecP) (w : World) (_hR : Recs w D2 A2 m rs) (_hm : m ≤ 9223372036854775807) (h1 : ¬ (index < 0)) (h2 : 65535 < index) :
    Calls Tryz.prog 29 #[.int .i64 index, .int .u64 first, .slice A n c, .slice A2 m c2] w fun e w' => e = .returned (.tuple #[.slice none 0 0, .int .i64 1]) ∧ New w w' := by
  clear _hR
  go_enter Tryz.func29, Tryz.ntmps29
  go_wp2_with fail
  go_ret2
  exact ⟨rfl, New.refl _⟩
set_option maxRecDepth 100000 in
theorem build17_args3 (_D D2 : Nat → Prop) (index first : Int) (A A2 : Option Addr) (n c m c2 : Nat) (rs : List RecP) (w : World) (_hR : Recs w D2 A2 m rs) (_hm : m ≤ 9223372036854775807) (h1 : ¬ (index < 0)) (h2 : ¬ (65535 < index)) (h3 : 1099511627776 < first) :
    Calls Tryz.prog 29 #[.int .i64 index, .int .u64 first, .slice A n c, .slice A2 m c2] w fun e w' => e = .returned (.tuple #[.slice none 0 0, .int .i64 1]) ∧ New w w' := by
  clear _hR
  go_enter Tryz.func29, Tryz.ntmps29
  go_wp2_with fail
  go_ret2
  exact ⟨rfl, New.refl _⟩
set_option maxRecDepth 100000 in
theorem build17_args4 (_D D2 : Nat → Prop) (index first : Int) (A A2 : Option Addr) (n c m c2 : Nat) (rs : List RecP) (w : World) (_hR : Recs w D2 A2 m rs) (_hm : m ≤ 9223372036854775807) (h1 : ¬ (index < 0)) (h2 : ¬ (65535 < index)) (h3 : ¬ (1099511627776 < first)) (h4 : n ≠ 32) :
    Calls Tryz.prog 29 #[.int .i64 index, .int .u64 first, .slice A n c, .slice A2 m c2] w fun e w' => e = .returned (.tuple #[.slice none 0 0, .int .i64 1]) ∧ New w w' := by
  have h4' : ((n : Int) != 32) = true := by simp; omega
  clear _hR
  clear h4
  go_enter Tryz.func29, Tryz.ntmps29
  go_wp2_with fail
  go_ret2
  exact ⟨rfl, New.refl _⟩
set_option maxRecDepth 100000 in
theorem build17_args5 (_D D2 : Nat → Prop) (index first : Int) (A A2 : Option Addr) (n c m c2 : Nat) (rs : List RecP) (w : World) (_hR : Recs w D2 A2 m rs) (_hm : m ≤ 9223372036854775807) (h1 : ¬ (index < 0)) (h2 : ¬ (65535 < index)) (h3 : ¬ (1099511627776 < first)) (h4 : ¬ (n ≠ 32)) (h5 : m = 0) :
    Calls Tryz.prog 29 #[.int .i64 index, .int .u64 first, .slice A n c, .slice A2 m c2] w fun e w' => e = .returned (.tuple #[.slice none 0 0, .int .i64 1]) ∧ New w w' := by
  have h4' : ((n : Int) != 32) = false := by simp; omega
  have h5' : ((m : Int) == 0) = true := by simp; omega
  clear _hR
  clear h4
  clear h5
  go_enter Tryz.func29, Tryz.ntmps29
  go_wp2_with fail
  go_ret2
  exact ⟨rfl, New.refl _⟩
set_option maxRecDepth 100000 in
theorem build17_args6 (_D D2 : Nat → Prop) (index first : Int) (A A2 : Option Addr) (n c m c2 : Nat) (rs : List RecP) (w : World) (hR : Recs w D2 A2 m rs) (hm : m ≤ 9223372036854775807) (h1 : ¬ (index < 0)) (h2 : ¬ (65535 < index)) (h3 : ¬ (1099511627776 < first)) (h4 : ¬ (n ≠ 32)) (h5 : ¬ (m = 0)) (h6 : fitsIn 942 rs < m) :
    Calls Tryz.prog 29 #[.int .i64 index, .int .u64 first, .slice A n c, .slice A2 m c2] w fun e w' => e = .returned (.tuple #[.slice none 0 0, .int .i64 1]) ∧ New w w' := by
  have h4' : ((n : Int) != 32) = false := by simp; omega
  have h5' : ((m : Int) == 0) = false := by simp; omega
  have h6' : ((fitsIn 942 rs : Nat) : Int) < m := by omega
  have HF := Lib.hid (fun w' hN => fits17_any D2 A2 m c2 rs w' (hR.new (w' := w') hN) hm)
  clear hR
  clear h4
  clear h5
  go_enter Tryz.func29, Tryz.ntmps29
  go_wp2_with fail
  refine (HF.out _ (New.refl _)).mono ?_
  rintro e w1 ⟨rfl, hK1⟩
  go_wp2_with fail
  go_ret2
  exact ⟨rfl, hK1⟩
set_option maxRecDepth 100000 in
theorem build17_arg (D D2 : Nat → Prop) (index first : Int) (A A2 : Option Addr) (n c m c2 : Nat) (rs : List RecP) (w : World) (hR : Recs w D2 A2 m rs) (hm : m ≤ 9223372036854775807) (h : buildArgs index first n rs = false) :
    Calls Tryz.prog 29 #[.int .i64 index, .int .u64 first, .slice A n c, .slice A2 m c2] w fun e w' => e = .returned (.tuple #[.slice none 0 0, .int .i64 1]) ∧ New w w' := by
  have hl := hR.len
  unfold buildArgs at h
  rw [decide_eq_false_iff_not, hl] at h
  by_cases h1 : index < 0
  · exact build17_args1 D D2 index first A A2 n c m c2 rs w hR hm h1
  by_cases h2 : 65535 < index
  · exact build17_args2 D D2 index first A A2 n c m c2 rs w hR hm h1 h2
  by_cases h3 : 1099511627776 < first
  · exact build17_args3 D D2 index first A A2 n c m c2 rs w hR hm h1 h2 h3
  by_cases h4 : n ≠ 32
  · exact build17_args4 D D2 index first A A2 n c m c2 rs w hR hm h1 h2 h3 h4
  by_cases h5 : m = 0
  · exact build17_args5 D D2 index first A A2 n c m c2 rs w hR hm h1 h2 h3 h4 h5
  exact build17_args6 D D2 index first A A2 n c m c2 rs w hR hm h1 h2 h3 h4 h5 (by omega)
end Go.Proofs.YtfegdgaanmcecaaGreatDoor
/-
  PROVED HERE: what permafrostref17.Build answers: what segment.Build does; conditions: lengths that a slice may have.
-/
namespace Go.Proofs.YtfegdgaanmcecaaGreatDoor
open Go.RowKit

theorem Recs.at3' {w : World} {D : Nat → Prop} {A : Option Addr} {n : Nat} {rs : List RecP} (h : Recs w D A n rs) {k : Nat} (hk : k < rs.length) :
    ∃ b off A' c', A = some ⟨b, off, none⟩ ∧ D b ∧ w.cell? ⟨b, off + k * 3, none⟩ = some (.int .i64 rs[k].kind) ∧ w.cell? ⟨b, off + k * 3 + 1, none⟩ = some (.int .u64 rs[k].seq) ∧
      w.cell? ⟨b, off + k * 3 + 2, none⟩ = some (.slice A' rs[k].body.length c') ∧ rs[k].body.length ≤ c' ∧ Bs w D A' rs[k].body.length rs[k].body ∧ 0 ≤ rs[k].seq ∧ rs[k].seq ≤ 18446744073709551615 := by
  obtain ⟨vs, h1, h2, h3⟩ := h
  obtain ⟨A', c', e1, e2, e3, hc, hb, h5, h6, h7⟩ := h3 k hk
  obtain ⟨b, off, hA, hD, _, hcell⟩ := h1.2 (by omega)
  refine ⟨b, off, A', c', hA, hD, hcell _ _ e1, ?_, ?_, hc, hb, h5, h6⟩
  · rw [Nat.add_assoc]; exact hcell _ _ e2
  · rw [Nat.add_assoc]; exact hcell _ _ e3
theorem leaves_more {rs : List RecP} (hr : ∀ r ∈ rs, recRight r = true) {k : Nat} (hk : k < rs.length) : (leavesOf (rs.take (k + 1))).flatten = (leavesOf (rs.take k)).flatten ++ recEnc rs[k] := by
  rw [leaves_take rs k hk, if_pos (hr _ (List.getElem_mem hk)), List.flatten_append, List.flatten_singleton]
theorem leaves_part (rs : List RecP) (k : Nat) : (leavesOf (rs.take k)).flatten.length ≤ (leavesOf rs).flatten.length := by
  have h : leavesOf rs = leavesOf (rs.take k) ++ leavesOf (rs.drop k) := by
    unfold leavesOf
    rw [← List.map_append, List.take_append_drop]
  rw [h, List.flatten_append, List.length_append]
  exact Nat.le_add_right _ _
theorem seqs_bad {first : Int} {rs : List RecP} {k : Nat} (hk : k < rs.length) (h : rs[k].seq ≠ first + k) : seqsFrom first rs = false := by
  rw [← Bool.not_eq_true, seqsFrom_iff]
  exact fun h' => h (h' k hk)
set_option maxRecDepth 100000 in
set_option maxHeartbeats 4000000 in
theorem build17_go (D D2 : Nat → Prop) (index first : Int) (A A2 : Option Addr) (c m c2 : Nat) (pr : List UInt8) (rs : List RecP) (w : World) (hB : Bs w D A 32 pr) (_hnc : 32 ≤ c) (hR : Recs w D2 A2 m rs) (hf0 : 0 ≤ first)
    (h1 : ¬ index < 0) (h2 : ¬ 65535 < index) (h3 : ¬ 1099511627776 < first) (hm0 : m ≠ 0) (hfit : ¬ fitsIn 942 rs < m) (hm62 : m ≤ 62) (hr : ∀ r ∈ rs, recRight r = true) (hroom : (leavesOf rs).flatten.length ≤ 942) :
    Calls Tryz.prog 29 #[.int .i64 index, .int .u64 first, .slice A 32 c, .slice A2 m c2] w (BuildRet (if seqsFrom first rs = false then ([], 12) else (segBytes index first pr rs, 0)) w) := by
  have HL := Lib.hid hR.len
  have h5' : ((m : Int) == 0) = false := by simpa using hm0
  have h6' : ¬ ((fitsIn 942 rs : Nat) : Int) < (m : Int) := by omega
  have HF := Lib.hid (fun w' hN => fits17_any D2 A2 m c2 rs w' (hR.new (w' := w') hN) (by omega))
  have HR := Lib.hid (hR.imp (E := fun b => b < w.heap.size) fun b hb _ => hb)
  have HB := Lib.hid (hB.imp (E := fun b => b < w.heap.size) fun b hb _ => hb)
  have HRI := Lib.hid hr
  have HRO := Lib.hid hroom
  have HM0 := Lib.hid hm0
  clear hR hB hr hroom hm0 hfit
  generalize fitsIn 942 rs = fi at *
  obtain ⟨d, hd⟩ : ∃ d, d = (if seqsFrom first rs = false then (([] : List UInt8), (12 : Int)) else (segBytes index first pr rs, 0)) := ⟨_, rfl⟩
  rw [← hd]
  have HD := Lib.hid hd
  clear hd
  go_enter Tryz.func29, Tryz.ntmps29
  go_wp2_with fail
  refine (HF.out _ (New.refl _)).mono ?_
  rintro e w1 ⟨rfl, n0⟩
  go_wp2_with fail
  have HK1 := Lib.hid n0
  have hdf : decide (fi < m) = false := by simp; omega
  simp only [hdf]
  clear HF n0 hdf h6'
  go_loopw [10, 11] (fun s10 i wx => ∃ (k L : Nat) (A' : Option Addr) (c' : Nat) (bs : List UInt8), k ≤ m ∧ i = .int .i64 (k : Int) ∧ s10 = .slice A' L c' ∧ L ≤ 942 ∧ bs = (leavesOf (rs.take k)).flatten ∧ OwnB wx w.heap.size 5 A' L c' bs ∧ (∀ j (h : j < rs.length), j < k → rs[j].seq = first + j) ∧ New w wx) (fun _ i _ => m - (intOf i).toNat)
  case atStart => exact ⟨0, 0, none, 0, [], Nat.zero_le _, rfl, rfl, Nat.zero_le _, by simp [leavesOf], Own.nil _ _ _ _, fun j h hj => absurd hj (by omega), HK1.out⟩
  case round =>
    obtain ⟨k, L, A', c', bs, hk, rfl, rfl, hL, hbs, hown, hsq, hK⟩ := hrel
    have HBS := Lib.hid hbs
    have HSQ := Lib.hid hsq
    have HK := Lib.hid hK
    have HO := Lib.hid hown
    clear hbs hsq hK hown
    by_cases hlt : k < m
    · have hkl : k < rs.length := by have := HL.out; omega
      obtain ⟨b, off, B, d, rfl, hbb, u0, u1, u2, hbd, hbb2, hs0, hs1⟩ := (HR.out.new HK.out).at3' hkl
      have hri := HRI.out rs[k] (List.getElem_mem hkl)
      have hel : (recEnc rs[k]).length = 15 + rs[k].body.length := by rw [recEnc_size _ hri]; unfold recSize; rw [if_pos hri]
      have HMO := Lib.hid (leaves_more HRI.out hkl)
      have hpart := leaves_part rs (k + 1)
      rw [HMO.out, ← HBS.out, List.length_append, hel, show bs.length = L from by simpa using HO.out.1] at hpart
      have hL2 : L + (15 + rs[k].body.length) ≤ 942 := Nat.le_trans hpart HRO.out
      have HSB := Lib.hid (seqs_bad (first := first) hkl)
      have HSK : Hid (rs[k].seq = first + k → ∀ j (h : j < rs.length), j < k + 1 → rs[j].seq = first + j) := Lib.hid (by
        intro e j h hj
        by_cases hjk : j = k
        · subst hjk; exact e
        · exact HSQ.out j h (by omega))
      have HEN := Lib.hid (fun W (hW : New wr W) => encode16_any _ B rs[k].body.length d rs[k] W (hbb2.new hW) hbd (by omega) hs0 hs1)
      clear hpart hbb2 hri
      generalize rs[k] = r at *
      have hk1 : IntKind.u64.wrap (k : Int) = (k : Int) := by rw [IntKind.wrap_u64]; omega
      have hk2 : IntKind.u64.wrap (first + (k : Int)) = first + (k : Int) := by rw [IntKind.wrap_u64]; omega
      have HEL := Lib.hid hel
      clear hel
      by_cases hse : r.seq = first + k
      · have hse' : (r.seq != first + (k : Int)) = false := by simpa using hse
        have HSE := Lib.hid (HSK.out hse)
        clear hse HSB HSK
        go_wp2_with fail
        refine (HEN.out _ (New.refl _)).mono ?_
        rintro e w2 ⟨⟨A3, c3, rfl, o3⟩, hK2⟩
        have ho2 := Own.keepNew HO.out hK2
        have hb2 : L + (recEnc r).length ≤ 140737488355328 := by rw [HEL.out]; omega
        have hsz2 : w.heap.size ≤ w2.heap.size := Nat.le_trans HK.out.size hK2.size
        go_wp2_with (at_builtin; refine app_bytes _ rfl _ _ rfl w.heap.size A' L c' bs rfl ho2 _ A3 _ c3 _ rfl (Row.of_own o3) hb2 hsz2 ?_; intro A4 c4 w4 hown4 hg4 hbk4)
        go_roundw
        case rel => exact ⟨k + 1, L + (recEnc r).length, A4, c4, _, by omega, by go_num, rfl, by rw [HEL.out]; exact hL2, by rw [HBS.out, HMO.out], hown4, HSE.out, (HK.out.new hK2).grown hg4 (fun j hj _ => (own_lt ho2 j hj).1)⟩
        case measure => simp [intOf]; omega
      · have hse' : (r.seq != first + (k : Int)) = true := by simpa using hse
        have HSE := Lib.hid (HSB.out hse)
        clear hse HSB HSK
        go_wp2_with fail
        have hd := HD.out
        rw [if_pos HSE.out] at hd
        refine bodyPost_ret (v := .tuple #[.slice none 0 0, .int .i64 12]) (by simp [results, Tryz.results29, go_sem]) rfl ?_
        rw [hd]
        exact ⟨⟨none, 0, rfl, Own.nil _ _ _ _⟩, HK.out⟩
    · obtain rfl : k = m := by omega
      have hbl : bs = (leavesOf rs).flatten := by rw [HBS.out, List.take_of_length_le (by rw [HL.out]; exact Nat.le_refl _)]
      have hll : (leavesOf rs).flatten.length = L := by rw [← hbl]; simpa using HO.out.1
      have hseq : seqsFrom first rs = true := by rw [seqsFrom_iff]; exact fun j h => HSQ.out j h (by rw [← HL.out]; exact h)
      have hd := HD.out
      rw [if_neg (by rw [hseq]; decide)] at hd
      have HSEG : Hid (segBytes index first pr rs = [] ++ beI 2 index ++ beI 8 first ++ beI 2 (k : Int) ++ beI 2 (L : Int) ++ pr ++ rootOf (leavesOf rs) ++ be4 (crcSum ([] ++ beI 2 index ++ beI 8 first ++ beI 2 (k : Int) ++ beI 2 (L : Int) ++ pr ++ rootOf (leavesOf rs))) ++ bs ++ List.replicate (942 - L) 0) := Lib.hid (by
        unfold segBytes segHead
        rw [hll, hbl, HL.out]
        simp only [List.nil_append])
      have hlen : (segBytes index first pr rs).length = 1024 := segBytes_length index first pr rs (Bs.len HB.out) HRO.out
      have HLEN := Lib.hid hlen
      generalize segBytes index first pr rs = S at *
      subst hd
      have HBL := Lib.hid hbl
      clear hbl hll hseq hlen HSQ HBS HD
      have hsz : w.heap.size ≤ wr.heap.size := HK.out.size
      go_wp2_with fail
      refine (short4_any (fun _ => True) none 0 0 [] index wr (Row.nil _ _ _ _) (by decide)).mono ?_
      rintro e w2 ⟨⟨A2', d2, rfl, o2⟩, k2⟩
      have l2 : ([] ++ beI 2 index).length = 2 := by simp [beI_length]
      rw [l2] at o2 ⊢
      generalize [] ++ beI 2 index = b2 at *
      go_wp2_with fail
      refine (long4_any _ A2' 2 d2 b2 first w2 (Row.of_own o2) (by decide) hf0 (by omega)).mono ?_
      rintro e w3 ⟨⟨A3, d3, rfl, o3⟩, k3⟩
      have l3 : (b2 ++ beI 8 first).length = 10 := by rw [List.length_append, l2, beI_length]
      rw [l3] at o3 ⊢
      generalize b2 ++ beI 8 first = b3 at *
      clear l2 o2
      go_wp2_with fail
      refine (short4_any _ A3 10 d3 b3 (k : Int) w3 (Row.of_own o3) (by decide)).mono ?_
      rintro e w4 ⟨⟨A4, d4, rfl, o4⟩, k4⟩
      have l4 : (b3 ++ beI 2 (k : Int)).length = 12 := by rw [List.length_append, l3, beI_length]
      rw [l4] at o4 ⊢
      generalize b3 ++ beI 2 (k : Int) = b4 at *
      clear l3 o3
      go_wp2_with fail
      refine (short4_any _ A4 12 d4 b4 (L : Int) w4 (Row.of_own o4) (by decide)).mono ?_
      rintro e w5 ⟨⟨A5, d5, rfl, o5⟩, k5⟩
      have l5 : (b4 ++ beI 2 (L : Int)).length = 14 := by rw [List.length_append, l4, beI_length]
      rw [l5] at o5 ⊢
      generalize b4 ++ beI 2 (L : Int) = b5 at *
      clear l4 o4
      have K5 : New wr w5 := ((k2.new k3).new k4).new k5
      have ob5 := own_base (base := wr.heap.size) o5 ((k2.new k3).new k4).size
      have hbp := HB.out.new (HK.out.new K5)
      have HKL := Lib.hid (Keep.of_new (D := fun b => b < wr.heap.size) K5)
      have hs5 : wr.heap.size ≤ w5.heap.size := K5.size
      clear o5 k2 k3 k4 k5 K5
      go_wp2_with (at_builtin; refine app_bytes _ rfl _ _ rfl wr.heap.size A5 14 d5 b5 rfl ob5 _ A 32 c pr rfl hbp (by decide) hs5 ?_; intro A6 d6 w6 o6 hg6 hbk6)
      have HK6 := Lib.hid (HKL.out.grown hg6 (fun j hj hd => absurd hd (by have := (own_lt ob5 j hj).1; show ¬ j < wr.heap.size; omega)))
      have hs6 : wr.heap.size ≤ w6.heap.size := HK6.out.size
      have hR6 := (HR.out.new HK.out).keep HK6.out (fun b _ hb => Nat.lt_of_lt_of_le hb hsz)
      clear ob5 hbp HKL hg6 hbk6
      refine (leaves17_any _ A2 k c2 rs w6 hR6 (by omega)).mono ?_
      rintro e w7 ⟨⟨A7, d7, rfl, o7⟩, k7⟩
      go_wp2_with fail
      refine (root6_any k _ A7 d7 (leavesOf rs) w7 o7.bss o7.cap (by have := HRO.out; omega) (by omega) o7.capMax).mono ?_
      rintro e w8 ⟨⟨A8, d8, rfl, o8⟩, k8⟩
      have ob8 := Own.keepNew (Own.keepNew o6 k7) k8
      have HK8 := Lib.hid ((HK6.out.new k7).new k8)
      have hs8 : wr.heap.size ≤ w8.heap.size := HK8.out.size
      have hb8 := Row.of_own o8
      clear hR6 o6 o7 k7 k8 o8 HK6
      generalize rootOf (leavesOf rs) = rt at *
      go_wp2_with (at_builtin; refine app_bytes _ rfl _ _ rfl wr.heap.size A6 (14 + 32) d6 _ rfl ob8 _ A8 32 d8 rt rfl hb8 (by decide) hs8 ?_; intro A9 d9 w9 o9 hg9 hbk9)
      have HK9 := Lib.hid (HK8.out.grown hg9 (fun j hj hd => absurd hd (by have := (own_lt ob8 j hj).1; show ¬ j < wr.heap.size; omega)))
      generalize b5 ++ pr ++ rt = b9 at *
      clear ob8 hb8 HK8 hg9 hbk9
      refine (sum3_any _ A9 (14 + 32 + 32) d9 b9 w9 (Row.of_own o9) (by decide)).mono ?_
      rintro e w' ⟨rfl, rfl⟩
      have l9 : b9.length = 78 := by simpa using o9.1
      generalize crcSum b9 = cs at *
      go_wp2_with fail
      refine (sum4_any _ A9 (14 + 32 + 32) d9 b9 cs w9 (Row.of_own o9) (by decide)).mono ?_
      rintro e w10 ⟨⟨A10, d10, rfl, o10⟩, k10⟩
      have l10 : (b9 ++ be4 cs).length = 82 := by rw [List.length_append, l9]; rfl
      rw [l10] at o10 ⊢
      generalize b9 ++ be4 cs = b10 at *
      have HK10 := Lib.hid (HK9.out.new k10)
      have hbody := (Row.of_own HO.out).imp (E := fun b => b < wr.heap.size) (fun b hb _ => hb)
      have hb10 := Row.keep hbody HK10.out (fun _ _ h => h)
      have ob10 := own_base (base := wr.heap.size) o10 HK9.out.size
      have hs10 : wr.heap.size ≤ w10.heap.size := HK10.out.size
      have hbd : 82 + L ≤ 140737488355328 := by omega
      clear o9 o10 k10 HK9 hbody
      have hx : Value.int .i64 (1024 - (82 + (L : Int))) = Value.int .i64 ((942 - L : Nat) : Int) := congrArg (Value.int .i64) (by omega)
      have hbz : 82 + L + (942 - L) ≤ 1099511627776 := by omega
      go_wp2_with (first
        | (at_builtin; refine app_bytes _ rfl _ _ rfl wr.heap.size A10 82 d10 _ rfl ob10 _ A' L c' bs rfl hb10 hbd hs10 ?_; intro A11 d11 w11 o11 hg11 hbk11; have hs11 : wr.heap.size ≤ w11.heap.size := Nat.le_trans hs10 hg11.size)
        | (at_builtin; refine app_zeros _ rfl _ _ rfl wr.heap.size A11 (82 + L) d11 (942 - L) _ rfl o11 hx hbz hs11 ?_; intro A12 d12 w12 o12 hg12 hbk12))
      have hfin := (HK10.out.grown hg11 (fun j hj hd => absurd hd (by have := (own_lt ob10 j hj).1; show ¬ j < wr.heap.size; omega))).grown hg12 (fun j hj hd => absurd hd (by have := (own_lt o11 j hj).1; show ¬ j < wr.heap.size; omega))
      have hK : New w w12 := (Keep.trans2 (D := fun b => b < w.heap.size) (Keep.of_new HK.out) hfin (fun i hi _ => Nat.lt_of_lt_of_le hi hsz)).toNew (fun i hi => hi)
      have hl : 82 + L + (942 - L) = S.length := by rw [HLEN.out]; omega
      have ho := own_base (base := w.heap.size) o12 hsz
      rw [← HSEG.out, hl] at ho
      refine bodyPost_ret (v := .tuple #[.slice A12 (82 + L + (942 - L)) d12, .int .i64 0]) (by simp [results, Tryz.results29, go_sem]) rfl ?_
      rw [hl]
      exact ⟨⟨A12, d12, rfl, ho⟩, hK⟩
theorem build17_any (D D2 : Nat → Prop) (index first : Int) (A A2 : Option Addr) (c m c2 : Nat) (pr : List UInt8) (rs : List RecP) (w : World) (hB : Bs w D A pr.length pr) (hnc : pr.length ≤ c) (hR : Recs w D2 A2 m rs) (hm : m ≤ 9223372036854775807) (hf0 : 0 ≤ first) :
    Calls Tryz.prog 29 #[.int .i64 index, .int .u64 first, .slice A pr.length c, .slice A2 m c2] w (BuildRet (buildOf index first pr rs) w) := by
  cases h : buildArgs index first pr.length rs
  · refine (build17_arg D D2 index first A A2 pr.length c m c2 rs w hR hm h).mono ?_
    rintro e w' ⟨rfl, hK⟩
    unfold buildOf
    rw [if_pos h]
    exact ⟨⟨none, 0, rfl, Own.nil _ _ _ _⟩, hK⟩
  · have hl := hR.len
    have h' := h
    unfold buildArgs at h'
    rw [decide_eq_true_eq] at h'
    obtain ⟨h1, h2, h3, h4, h5, h6⟩ := h'
    obtain ⟨g1, g2, g3⟩ := fits_all _ _ h6
    unfold buildOf
    rw [if_neg (by rw [h]; decide)]
    rw [h4] at hB hnc ⊢
    exact build17_go D D2 index first A A2 c m c2 pr rs w hB hnc hR hf0 (by omega) (by omega) (by omega) (by omega) (by omega) (by omega) g1 g2
end Go.Proofs.YtfegdgaanmcecaaGreatDoor
/-
  PROVED HERE: slices of images, and slices of structs of one such slice, that came in: how they read; no condition.
-/
namespace Go.Proofs.YtfegdgaanmcecaaGreatDoor
open Go.ChangeShapes Go.WideShapes Go.ChangeAt Go.RowKit Go.Joins Go.Deep

/-- an image that lies at a place. -/
def ImgAt (w : World) (D : Nat → Prop) (vs : List Value) (k : Nat) (b : List UInt8) : Prop := ∃ A' c', vs[k]? = some (.slice A' b.length c') ∧ b.length ≤ c' ∧ c' ≤ 9223372036854775807 ∧ Bs w D A' b.length b
theorem ImgAt.keep {w w' : World} {D E : Nat → Prop} {vs : List Value} {k : Nat} {b : List UInt8} (h : ImgAt w D vs k b) (hk : Keep E w w') (hE : ∀ b, b < w.heap.size → D b → E b) : ImgAt w' D vs k b := by
  obtain ⟨A', c', e, hc, hc9, hb⟩ := h
  exact ⟨A', c', e, hc, hc9, hb.keep hk hE⟩
theorem ImgAt.imp {w : World} {D E : Nat → Prop} {vs : List Value} {k : Nat} {b : List UInt8} (h : ImgAt w D vs k b) (hE : ∀ b, b < w.heap.size → D b → E b) : ImgAt w E vs k b := by
  obtain ⟨A', c', e, hc, hc9, hb⟩ := h
  exact ⟨A', c', e, hc, hc9, hb.imp hE⟩
/-- a slice of images. -/
def Imgs (w : World) (D : Nat → Prop) (A : Option Addr) (n : Nat) (ls : List (List UInt8)) : Prop :=
  ∃ vs : List Value, Row w D A n 1 vs ∧ ls.length = n ∧ ∀ k (h : k < ls.length), ImgAt w D vs k ls[k]
theorem Imgs.len {w : World} {D : Nat → Prop} {A : Option Addr} {n : Nat} {ls : List (List UInt8)} (h : Imgs w D A n ls) : ls.length = n := by obtain ⟨_, _, h, _⟩ := h; exact h
theorem Imgs.keep {w w' : World} {D E : Nat → Prop} {A : Option Addr} {n : Nat} {ls : List (List UInt8)} (h : Imgs w D A n ls) (hk : Keep E w w') (hE : ∀ b, b < w.heap.size → D b → E b) : Imgs w' D A n ls := by
  obtain ⟨vs, h1, h2, h3⟩ := h
  refine ⟨vs, h1.keep hk hE, h2, fun k hk' => ?_⟩
  obtain ⟨A', c', e, hc, hc9, hb⟩ := h3 k hk'
  exact ⟨A', c', e, hc, hc9, hb.keep hk hE⟩
theorem Imgs.new {w w' : World} {D : Nat → Prop} {A : Option Addr} {n : Nat} {ls : List (List UInt8)} (h : Imgs w D A n ls) (hk : New w w') : Imgs w' D A n ls := h.keep hk fun _ _ _ => trivial
theorem Imgs.at_ {w : World} {D : Nat → Prop} {A : Option Addr} {n : Nat} {ls : List (List UInt8)} (h : Imgs w D A n ls) {k : Nat} (hk : k < ls.length) :
    ∃ b off A' c', A = some ⟨b, off, none⟩ ∧ D b ∧ w.cell? ⟨b, off + k, none⟩ = some (.slice A' ls[k].length c') ∧ ls[k].length ≤ c' ∧ c' ≤ 9223372036854775807 ∧ Bs w D A' ls[k].length ls[k] := by
  obtain ⟨vs, h1, h2, h3⟩ := h
  obtain ⟨A', c', e, hc, hc9, hb⟩ := h3 k hk
  obtain ⟨b, off, hA, hD, _, hcell⟩ := h1.2 (by omega)
  exact ⟨b, off, A', c', hA, hD, hcell _ _ e, hc, hc9, hb⟩
theorem Imgs.imp {w : World} {D E : Nat → Prop} {A : Option Addr} {n : Nat} {ls : List (List UInt8)} (h : Imgs w D A n ls) (hE : ∀ b, b < w.heap.size → D b → E b) : Imgs w E A n ls := by
  obtain ⟨vs, h1, h2, h3⟩ := h
  refine ⟨vs, h1.imp hE, h2, fun k hk' => ?_⟩
  obtain ⟨A', c', e, hc, hc9, hb⟩ := h3 k hk'
  exact ⟨A', c', e, hc, hc9, hb.imp hE⟩
/-- cells one behind the other, as a row. -/
theorem row_of_cells {W : World} {a : Addr} {len : Nat} {V : Nat → Value} (h : ∀ i, i < len → W.cell? (a.add i) = some (V i)) : Row W (fun _ => True) (some a) len 1 ((List.range len).map V) := by
  refine ⟨by simp, fun hn => ?_⟩
  have h0 := h 0 hn
  have hsp : a.spot = none := spot_none (by simpa using h0)
  obtain ⟨b, off, sp'⟩ := a
  simp only at hsp
  subst hsp
  have hadd : ∀ k, (Addr.mk b off none).add k = ⟨b, off + k, none⟩ := by
    intro k; unfold Addr.add; split
    · rename_i e; subst e; rfl
    · rfl
  rw [hadd] at h0
  refine ⟨b, off, rfl, trivial, World.block_lt_of_cell? W _ h0, fun k u hu => ?_⟩
  have hk : k < len := by
    have := (List.getElem?_eq_some_iff.1 hu).1
    rwa [List.length_map, List.length_range] at this
  rw [List.getElem?_map, List.getElem?_range hk] at hu
  simp only [Option.map_some, Option.some.injEq] at hu
  have := h k hk
  rw [hadd] at this
  rw [this, hu]
set_option maxRecDepth 100000 in
/-- images that came in. -/
theorem read_images {H : Type} {enc : TypeId × Value → H} {W : World} {base : Nat} {sp : Nat → Bool} {held : Bool} {fuel : Nat} {v : Value} {x : DataW H × List MemPlace} (h : DataW.trod enc Tryz.prog W base sp held fuel 23 [v] = some x) :
    ∃ (A : Option Addr) (n c : Nat) (ls : List (List UInt8)), v = .slice A n c ∧ n ≤ c ∧ c ≤ maxLen ∧ Imgs W (fun _ => True) A n ls := by
  rcases open_slice1 Tryz.underlying23 (by kernel_rfl) h with ⟨hc, _⟩ | ⟨a, len, cap, m, n, V, D, Pl, hc, _, hl, hm, hmm, _, hx⟩
  · injection hc with hc
    exact ⟨none, 0, 0, [], hc, Nat.le_refl _, Nat.zero_le _, [], Row.nil _ _ _ _, rfl, fun k hk => absurd hk (by simp)⟩
  · injection hc with hc
    have hlm : len ≤ m := by rw [hmm]; split <;> omega
    obtain ⟨R, hR⟩ := choose_lt (α := List UInt8) (p := fun i r => ∃ A' c', V i = .slice A' r.length c' ∧ r.length ≤ c' ∧ c' ≤ maxLen ∧ Bs W (fun _ => True) A' r.length r) (fun i (hi : i < m) => by
      obtain ⟨A', n', c', bs, hv, h1, h2, h3⟩ := read_bytes (hx i hi).2
      have hn := h3.len
      subst hn
      exact ⟨bs, A', c', hv, h1, h2, h3⟩)
    refine ⟨some a, len, cap, (List.range len).map R, hc, hl, hm, (List.range len).map V, row_of_cells fun i hi => (hx i (by omega)).1, by simp, fun k hk => ?_⟩
    have hk' : k < len := by simpa using hk
    obtain ⟨A', c', e1, h1, h2, h3⟩ := hR k (by omega)
    have hg : ((List.range len).map R)[k] = R k := by simp
    rw [hg]
    unfold maxLen at h2
    exact ⟨A', c', by rw [List.getElem?_map, List.getElem?_range hk']; simp only [Option.map_some]; rw [e1], h1, by omega, h3⟩
/-- a slice of rows of bodies. -/
def Raws8 (w : World) (D : Nat → Prop) (A : Option Addr) (n : Nat) (ls : List (List (List UInt8))) : Prop :=
  ∃ vs : List Value, Row w D A n 1 vs ∧ ls.length = n ∧ ∀ k (h : k < ls.length), ∃ A' c', vs[k]? = some (.slice A' ls[k].length c') ∧ ls[k].length ≤ c' ∧ c' ≤ 9223372036854775807 ∧ Imgs w D A' ls[k].length ls[k]
section
variable {w w' : World} {D E : Nat → Prop} {A : Option Addr} {n : Nat} {ls : List (List (List UInt8))}
theorem Raws8.len (h : Raws8 w D A n ls) : ls.length = n := by obtain ⟨_, _, h, _⟩ := h; exact h
theorem Raws8.keep (h : Raws8 w D A n ls) (hk : Keep E w w') (hE : ∀ b, b < w.heap.size → D b → E b) : Raws8 w' D A n ls := by
  obtain ⟨vs, h1, h2, h3⟩ := h
  refine ⟨vs, h1.keep hk hE, h2, fun k hk' => ?_⟩
  obtain ⟨A', c', e, hc, hc9, hb⟩ := h3 k hk'
  exact ⟨A', c', e, hc, hc9, hb.keep hk hE⟩
theorem Raws8.new (h : Raws8 w D A n ls) (hk : New w w') : Raws8 w' D A n ls := h.keep hk fun _ _ _ => trivial
theorem Raws8.imp (h : Raws8 w D A n ls) (hE : ∀ b, b < w.heap.size → D b → E b) : Raws8 w E A n ls := by
  obtain ⟨vs, h1, h2, h3⟩ := h
  refine ⟨vs, h1.imp hE, h2, fun k hk' => ?_⟩
  obtain ⟨A', c', e, hc, hc9, hb⟩ := h3 k hk'
  exact ⟨A', c', e, hc, hc9, hb.imp hE⟩
theorem Raws8.at_ (h : Raws8 w D A n ls) {k : Nat} (hk : k < ls.length) :
    ∃ b off A' c', A = some ⟨b, off, none⟩ ∧ w.cell? ⟨b, off + k, none⟩ = some (.slice A' ls[k].length c') ∧ ls[k].length ≤ c' ∧ c' ≤ 9223372036854775807 ∧ Imgs w D A' ls[k].length ls[k] := by
  obtain ⟨vs, h1, h2, h3⟩ := h
  obtain ⟨A', c', e, hc, hc9, hb⟩ := h3 k hk
  obtain ⟨b, off, hA, hD, _, hcell⟩ := h1.2 (by omega)
  exact ⟨b, off, A', c', hA, hcell _ _ e, hc, hc9, hb⟩
end






















end Go.Proofs.YtfegdgaanmcecaaGreatDoor
/-
  PROVED HERE: rows of images that a call makes, and the law of append at them; condition: fewer than 2^40 images.
-/
namespace Go.Proofs.YtfegdgaanmcecaaGreatDoor
open Go.RowKit

/-- images, the row of the call's own; their bytes lie in blocks that meet D, none in the row's. -/
def OwnImgs (w : World) (base : Nat) (D : Nat → Prop) (A : Option Addr) (n c : Nat) (ls : List (List UInt8)) : Prop :=
  ∃ vs : List Value, Own w base 31 1 A n c vs ∧ ls.length = n ∧ ∀ k (h : k < ls.length), ImgAt w (fun b => D b ∧ some b ≠ blk A) vs k ls[k]
section
variable {w w' : World} {base base' : Nat} {D E : Nat → Prop} {A : Option Addr} {n c : Nat} {ls : List (List UInt8)}
theorem OwnImgs.imgs (h : OwnImgs w base D A n c ls) : Imgs w (fun b => base ≤ b ∨ D b) A n ls := by
  obtain ⟨vs, h1, h2, h3⟩ := h
  exact ⟨vs, (Row.of_own h1).imp (fun _ _ h => .inl h), h2, fun k hk => (h3 k hk).imp fun _ _ h => .inr h.1⟩
theorem OwnImgs.nil (w : World) (base : Nat) (D : Nat → Prop) : OwnImgs w base D none 0 0 [] := ⟨[], Own.nil _ _ _ _, rfl, fun k hk => absurd hk (by simp)⟩
theorem OwnImgs.new (h : OwnImgs w base D A n c ls) (hk : New w w') : OwnImgs w' base D A n c ls := by
  obtain ⟨vs, h1, h2, h3⟩ := h
  exact ⟨vs, own_keep h1 hk (fun _ _ => trivial), h2, fun k hk' => (h3 k hk').keep hk fun _ _ _ => trivial⟩
theorem OwnImgs.rebase (h : OwnImgs w base' D A n c ls) (hb : base ≤ base') : OwnImgs w base D A n c ls := by
  obtain ⟨vs, h1, h2, h3⟩ := h
  exact ⟨vs, own_base h1 hb, h2, h3⟩
theorem OwnImgs.imp (h : OwnImgs w base D A n c ls) (hE : ∀ b, b < w.heap.size → D b → E b) : OwnImgs w base E A n c ls := by
  obtain ⟨vs, h1, h2, h3⟩ := h
  exact ⟨vs, h1, h2, fun k hk' => (h3 k hk').imp fun b hb hd => ⟨hE b hb hd.1, hd.2⟩⟩
theorem OwnImgs.keepE (h : OwnImgs w base D A n c ls) (hk : Keep E w w') (hb : ∀ k, blk A = some k → E k) (hD : ∀ b, D b → E b) : OwnImgs w' base D A n c ls := by
  obtain ⟨vs, h1, h2, h3⟩ := h
  exact ⟨vs, own_keep h1 hk hb, h2, fun k hk' => (h3 k hk').keep hk fun b _ hd => hD b hd.1⟩
theorem OwnImgs.len (h : OwnImgs w base D A n c ls) : ls.length = n := by obtain ⟨_, _, h, _⟩ := h; exact h
theorem OwnImgs.cap (h : OwnImgs w base D A n c ls) : n ≤ c := by obtain ⟨_, h, _⟩ := h; exact own_cap h
theorem OwnImgs.capMax (h : OwnImgs w base D A n c ls) : c ≤ 9223372036854775807 := by obtain ⟨_, h, _⟩ := h; exact own_capMax h
theorem OwnImgs.lt (h : OwnImgs w base D A n c ls) : ∀ k, blk A = some k → base ≤ k ∧ k < w.heap.size := by obtain ⟨_, h, _⟩ := h; exact own_lt h
end
/-- images more: their cells in a row, their bytes apart. -/
theorem app_imgsM {ops : Array Oper} {rest : List Oper} {o : Oper} {a : Act} {Q : Exit → Act → World → Prop} (w : World) (hgd : o.guard = none) (s x : Operand)
    (ho : o.op = .call { callee := .builtin .append, args := #[s, x], argTypes := #[23, 23] })
    (base : Nat) (D : Nat → Prop) (A : Option Addr) (n c : Nat) (ls : List (List UInt8)) (hs : a.eval s = .slice A n c) (hown : OwnImgs w base D A n c ls)
    (D2 : Nat → Prop) (A2 : Option Addr) (m c2 : Nat) (us : List Value) (ms : List (List UInt8)) (hx : a.eval x = .slice A2 m c2) (hr : Row w D2 A2 m 1 us) (hm : ms.length = m) (hy : ∀ k (h : k < ms.length), ImgAt w (fun b => D b ∧ some b ≠ blk A) us k ms[k])
    (h63 : n + m ≤ 1099511627776) (hbase : base ≤ w.heap.size)
    (h : ∀ A3 c3 w3, OwnImgs w3 base D A3 (n + m) c3 (ls ++ ms) → w.grownBy w3 (blk A) → (blk A3 = blk A ∨ blk A3 = some w.heap.size) → wpList Tryz.prog ops Q rest (a.put o.dst (.slice A3 (n + m) c3)) w3) : wpList Tryz.prog ops Q (o :: rest) a w := by
  obtain ⟨vs, h1, h2, h3⟩ := hown
  have hul : us.length = m := by have := hr.1; omega
  have hone : ∀ u ∈ us, u.oneCell' = true := by
    intro u hu
    obtain ⟨j, hj, rfl⟩ := List.mem_iff_getElem.1 hu
    obtain ⟨A0, c0, e1, _⟩ := hy j (by omega)
    rw [List.getElem?_eq_getElem hj] at e1; injection e1 with e1; rw [e1]; rfl
  refine app_rows w hgd s x ho base A n c vs hs h1 D2 A2 m c2 us hx hr hone h63 hbase ?_
  intro A3 c3 w3 hown3 hg3 hbk3
  refine h A3 c3 w3 ⟨vs ++ us, hown3, by rw [List.length_append]; omega, fun k hk => ?_⟩ hg3 hbk3
  have hvl : vs.length = n := by have := h1.1; simpa using this
  have move : ∀ {A0 : Option Addr} {m0 : Nat} {z : List UInt8}, Bs w (fun b => D b ∧ some b ≠ blk A) A0 m0 z → Bs w3 (fun b => D b ∧ some b ≠ blk A3) A0 m0 z := fun {A0 m0 z} hb => by
    have hk3 : Keep (fun b => some b ≠ blk A) w w3 := (Keep.refl _ w).grown hg3 (fun k hk hd => absurd hk.symm hd)
    have hb3 : Bs w (fun b => (D b ∧ some b ≠ blk A) ∧ some b ≠ blk A3) A0 m0 z := hb.imp fun b hlt hd => ⟨hd, by
      rcases hbk3 with e | e
      · rw [e]; exact hd.2
      · rw [e]; intro e'; injection e'; omega⟩
    exact (Row.keep hb3 hk3 (fun b _ hd => hd.1.2)).imp fun b _ hd => ⟨hd.1.1, hd.2⟩
  by_cases hkn : k < ls.length
  · rw [List.getElem_append_left hkn]
    obtain ⟨A0, c0, e, hc, hc9, hb⟩ := h3 k hkn
    exact ⟨A0, c0, by rw [List.getElem?_append_left (by omega)]; exact e, hc, hc9, move hb⟩
  · rw [List.getElem_append_right (by omega)]
    have hkl : k - ls.length < ms.length := by rw [List.length_append] at hk; omega
    obtain ⟨A0, c0, e, hc, hc9, hb⟩ := hy (k - ls.length) hkl
    exact ⟨A0, c0, by rw [List.getElem?_append_right (by omega), show k - vs.length = k - ls.length from by omega]; exact e, hc, hc9, move hb⟩
/-- one image more. -/
theorem app_imgs {ops : Array Oper} {rest : List Oper} {o : Oper} {a : Act} {Q : Exit → Act → World → Prop} (w : World) (hgd : o.guard = none) (s x : Operand)
    (ho : o.op = .call { callee := .builtin .append, args := #[s, x], argTypes := #[23, 23] })
    (base : Nat) (D : Nat → Prop) (A : Option Addr) (n c : Nat) (ls : List (List UInt8)) (hs : a.eval s = .slice A n c) (hown : OwnImgs w base D A n c ls)
    (D2 : Nat → Prop) (A2 : Option Addr) (c2 : Nat) (A' : Option Addr) (m c' : Nat) (y : List UInt8) (hx : a.eval x = .slice A2 1 c2) (hr : Row w D2 A2 1 1 [.slice A' m c']) (hy : Bs w (fun b => D b ∧ some b ≠ blk A) A' m y) (hmc : m ≤ c') (hc9 : c' ≤ 9223372036854775807)
    (h63 : n + 1 ≤ 1099511627776) (hbase : base ≤ w.heap.size)
    (h : ∀ A3 c3 w3, OwnImgs w3 base D A3 (n + 1) c3 (ls ++ [y]) → w.grownBy w3 (blk A) → (blk A3 = blk A ∨ blk A3 = some w.heap.size) → wpList Tryz.prog ops Q rest (a.put o.dst (.slice A3 (n + 1) c3)) w3) : wpList Tryz.prog ops Q (o :: rest) a w := by
  have hyl := hy.len
  refine app_imgsM w hgd s x ho base D A n c ls hs hown D2 A2 1 c2 [.slice A' m c'] [y] hx hr rfl (fun k hk => ?_) h63 hbase h
  obtain rfl : k = 0 := by simpa using hk
  subst hyl
  exact ⟨A', c', rfl, hmc, hc9, hy⟩
end Go.Proofs.YtfegdgaanmcecaaGreatDoor
/-
  PROVED HERE: the law of append at rows of heads, many at once; condition: fewer than 2^40 heads.
-/
namespace Go.Proofs.YtfegdgaanmcecaaGreatDoor
open Go.RowKit

/-- heads more: their cells in a row, their bytes apart. -/
theorem app_headsM {ops : Array Oper} {rest : List Oper} {o : Oper} {a : Act} {Q : Exit → Act → World → Prop} (w : World) (hgd : o.guard = none) (s x : Operand)
    (ho : o.op = .call { callee := .builtin .append, args := #[s, x], argTypes := #[34, 34] })
    (base : Nat) (D : Nat → Prop) (A : Option Addr) (n c : Nat) (hs : List HeadP) (hv : a.eval s = .slice A n c) (hown : OwnHeads w base D A n c hs)
    (D2 : Nat → Prop) (A2 : Option Addr) (m c2 : Nat) (us : List Value) (ms : List HeadP) (hx : a.eval x = .slice A2 m c2) (hr : Row w D2 A2 m 6 us) (hm : ms.length = m) (hy : ∀ k (h : k < ms.length), HeadAt w (fun b => D b ∧ some b ≠ blk A) us (k * 6) ms[k])
    (h63 : n + m ≤ 1099511627776) (hbase : base ≤ w.heap.size)
    (h : ∀ A3 c3 w3, OwnHeads w3 base D A3 (n + m) c3 (hs ++ ms) → w.grownBy w3 (blk A) → (blk A3 = blk A ∨ blk A3 = some w.heap.size) → wpList Tryz.prog ops Q rest (a.put o.dst (.slice A3 (n + m) c3)) w3) : wpList Tryz.prog ops Q (o :: rest) a w := by
  obtain ⟨vs, h1, h2, h3⟩ := hown
  have hul : us.length = m * 6 := hr.1
  have hone : ∀ u ∈ us, u.oneCell' = true := by
    intro u hu
    obtain ⟨j, hj, rfl⟩ := List.mem_iff_getElem.1 hu
    obtain ⟨Q1, q1, Q2, q2, e0, e1, e2, e3, e4, e5, _⟩ := hy (j / 6) (by omega)
    have hr : j = j / 6 * 6 ∨ j = j / 6 * 6 + 1 ∨ j = j / 6 * 6 + 2 ∨ j = j / 6 * 6 + 3 ∨ j = j / 6 * 6 + 4 ∨ j = j / 6 * 6 + 5 := by omega
    rcases hr with hr | hr | hr | hr | hr | hr
    · rw [← hr, List.getElem?_eq_getElem hj] at e0; injection e0 with e0; rw [e0]; rfl
    · rw [← hr, List.getElem?_eq_getElem hj] at e1; injection e1 with e1; rw [e1]; rfl
    · rw [← hr, List.getElem?_eq_getElem hj] at e2; injection e2 with e2; rw [e2]; rfl
    · rw [← hr, List.getElem?_eq_getElem hj] at e3; injection e3 with e3; rw [e3]; rfl
    · rw [← hr, List.getElem?_eq_getElem hj] at e4; injection e4 with e4; rw [e4]; rfl
    · rw [← hr, List.getElem?_eq_getElem hj] at e5; injection e5 with e5; rw [e5]; rfl
  refine app_cells6 w hgd s x ho base A n c vs hv h1 D2 A2 m c2 us hx hr hone h63 hbase ?_
  intro A3 c3 w3 hown3 hg3 hbk3
  refine h A3 c3 w3 ⟨vs ++ us, hown3, by rw [List.length_append]; omega, fun k hk => ?_⟩ hg3 hbk3
  have hvl : vs.length = n * 6 := h1.1
  have move : ∀ {A0 : Option Addr} {m0 : Nat} {z : List UInt8}, Bs w (fun b => D b ∧ some b ≠ blk A) A0 m0 z → Bs w3 (fun b => D b ∧ some b ≠ blk A3) A0 m0 z := fun {A0 m0 z} hb => by
    have hk3 : Keep (fun b => some b ≠ blk A) w w3 := (Keep.refl _ w).grown hg3 (fun k hk hd => absurd hk.symm hd)
    have hb3 : Bs w (fun b => (D b ∧ some b ≠ blk A) ∧ some b ≠ blk A3) A0 m0 z := hb.imp fun b hlt hd => ⟨hd, by
      rcases hbk3 with e | e
      · rw [e]; exact hd.2
      · rw [e]; intro e'; injection e'; omega⟩
    exact (Row.keep hb3 hk3 (fun b _ hd => hd.1.2)).imp fun b _ hd => ⟨hd.1.1, hd.2⟩
  by_cases hkn : k < hs.length
  · rw [List.getElem_append_left hkn]
    obtain ⟨Q1, q1, Q2, q2, e0, e1, e2, e3, e4, e5, l1, l2, b1, b2, f⟩ := h3 k hkn
    refine ⟨Q1, q1, Q2, q2, ?_, ?_, ?_, ?_, ?_, ?_, l1, l2, move b1, move b2, f⟩
    all_goals
      rw [List.getElem?_append_left (by omega)]
      assumption
  · rw [List.getElem_append_right (by omega)]
    have hkl : k - hs.length < ms.length := by rw [List.length_append] at hk; omega
    obtain ⟨Q1, q1, Q2, q2, e0, e1, e2, e3, e4, e5, l1, l2, b1, b2, f⟩ := hy (k - hs.length) hkl
    refine ⟨Q1, q1, Q2, q2, ?_, ?_, ?_, ?_, ?_, ?_, l1, l2, move b1, move b2, f⟩
    · rw [List.getElem?_append_right (by omega), show k * 6 - vs.length = (k - hs.length) * 6 from by omega]; exact e0
    · rw [List.getElem?_append_right (by omega), show k * 6 + 1 - vs.length = (k - hs.length) * 6 + 1 from by omega]; exact e1
    · rw [List.getElem?_append_right (by omega), show k * 6 + 2 - vs.length = (k - hs.length) * 6 + 2 from by omega]; exact e2
    · rw [List.getElem?_append_right (by omega), show k * 6 + 3 - vs.length = (k - hs.length) * 6 + 3 from by omega]; exact e3
    · rw [List.getElem?_append_right (by omega), show k * 6 + 4 - vs.length = (k - hs.length) * 6 + 4 from by omega]; exact e4
    · rw [List.getElem?_append_right (by omega), show k * 6 + 5 - vs.length = (k - hs.length) * 6 + 5 from by omega]; exact e5
end Go.Proofs.YtfegdgaanmcecaaGreatDoor
/-
  PROVED HERE: plain law on chained segments: a chain is walked, its beginning too, another archive's is refused; no program is in sight.
-/
namespace Go.Proofs.YtfegdgaanmcecaaGreatDoor
open Go.RowKit

theorem genesisOf_length (id : List UInt8) : (genesisOf id).length = 32 := shaSum_length _
theorem sealOf_length (h : HeadP) : (sealOf h).length = 32 := shaSum_length _
theorem recRight_def (r : RecP) : recRight r = decide (r.seq ≤ 1099511627776 ∧ r.body.length ≤ 900 ∧ (r.kind = 1 ∨ r.kind = 2 ∧ r.body.length = 0)) := rfl
theorem leaves_small : ∀ (rs : List RecP), (∀ r ∈ rs, recRight r = true ∧ r.body.length ≤ 60) → (leavesOf rs).flatten.length ≤ 75 * rs.length
  | [], _ => by simp [leavesOf]
  | r :: rs, h => by
    have h1 := h r (by simp)
    have := leaves_small rs (fun x hx => h x (by simp [hx]))
    rw [leavesOf_cons h1.1, List.flatten_cons, List.length_append, recEnc_len h1.1, List.length_cons]
    omega
/-- the heads and the records of images; nothing where one is refused. -/
def walkIn : List (List UInt8) → Option (List HeadP × List RecP)
  | [] => some ([], [])
  | b :: bs => if (segRead b).2.2 ≠ 0 then none else (walkIn bs).map fun p => ((segRead b).1 :: p.1, (segRead b).2.1 ++ p.2)




theorem walkIn_snoc (b : List UInt8) : ∀ (l : List (List UInt8)), walkIn (l ++ [b]) = (walkIn l).bind fun p => if (segRead b).2.2 ≠ 0 then none else some (p.1 ++ [(segRead b).1], p.2 ++ (segRead b).2.1)
  | [] => by
    simp only [List.nil_append, walkIn, Option.bind_some]
    split <;> simp
  | a :: l => by
    rw [List.cons_append, walkIn, walkIn, walkIn_snoc b l]
    split
    · rfl
    · cases walkIn l with
      | none => rfl
      | some p =>
        simp only [Option.bind_some, Option.map_some]
        split <;> simp
/-! ### segments, chained -/
/-- bodies as records; a Mark where there are none. -/
def chainRecs (next : Int) (raw : List (List UInt8)) : List RecP :=
  if raw.length = 0 then [⟨2, next, []⟩] else (List.range (min raw.length 6)).map fun k => ⟨1, IntKind.u64.wrap (next + IntKind.u64.wrap (k : Nat)), (raw.getD k []).take 60⟩
structure ChainS where
  images : List (List UInt8)
  heads : List HeadP
  recs : List RecP
  prev : List UInt8
  next : Int
def chainHead (i : Nat) (next : Int) (prev : List UInt8) (rs : List RecP) : HeadP := ⟨i, next, rs.length, (leavesOf rs).flatten.length, prev, rootOf (leavesOf rs)⟩
def chainTo (id : List UInt8) (l : List (List (List UInt8))) : Nat → ChainS
  | 0 => ⟨[], [], [], genesisOf id, 1⟩
  | k + 1 =>
    let s := chainTo id l k
    let rs := chainRecs s.next (l.getD k [])
    ⟨s.images ++ [segBytes k s.next s.prev rs], s.heads ++ [chainHead k s.next s.prev rs], s.recs ++ rs, sealOf (chainHead k s.next s.prev rs), s.next + rs.length⟩
theorem chainRecs_length (next : Int) (raw : List (List UInt8)) : 1 ≤ (chainRecs next raw).length ∧ (chainRecs next raw).length ≤ 6 := by
  unfold chainRecs
  split
  · simp
  · simp; omega
theorem chainRecs_get {next : Int} {raw : List (List UInt8)} (h0 : 0 ≤ next) (h1 : next ≤ 1000000) (k : Nat) (hk : k < (chainRecs next raw).length) :
    (chainRecs next raw)[k].seq = next + k ∧ (chainRecs next raw)[k].body.length ≤ 60 ∧ recRight (chainRecs next raw)[k] = true := by
  have hl := chainRecs_length next raw
  by_cases h : raw.length = 0
  · have e : chainRecs next raw = [⟨2, next, []⟩] := by unfold chainRecs; rw [if_pos h]
    have hk0 : k = 0 := by rw [e] at hk; simpa using hk
    subst hk0
    simp only [e, List.getElem_cons_zero]
    refine ⟨by simp, by simp, ?_⟩
    rw [recRight_def]
    simp; omega
  · have e : chainRecs next raw = (List.range (min raw.length 6)).map fun k => (⟨1, IntKind.u64.wrap (next + IntKind.u64.wrap (k : Nat)), (raw.getD k []).take 60⟩ : RecP) := by unfold chainRecs; rw [if_neg h]
    have hk6 : k < 6 := by omega
    have hw : IntKind.u64.wrap (next + IntKind.u64.wrap (k : Nat)) = next + k := by rw [IntKind.wrap_u64, IntKind.wrap_u64]; omega
    have ht : ((raw.getD k []).take 60).length ≤ 60 := List.length_take_le _ _
    simp only [e, List.getElem_map, List.getElem_range]
    rw [hw]
    refine ⟨rfl, ht, ?_⟩
    rw [recRight_def, decide_eq_true_eq]
    exact ⟨by dsimp only; omega, by dsimp only; omega, .inl rfl⟩
theorem chain_fine {i : Nat} {next : Int} {prev : List UInt8} {raw : List (List UInt8)} (hi : i ≤ 1000) (h0 : 0 ≤ next) (h1 : next ≤ 1000000) (hp : prev.length = 32) : SegFine i next prev (chainRecs next raw) := by
  have hl := chainRecs_length next raw
  have hr : ∀ r ∈ chainRecs next raw, recRight r = true ∧ 0 ≤ r.seq ∧ r.body.length ≤ 60 := by
    intro r hr
    obtain ⟨k, hk, rfl⟩ := List.mem_iff_getElem.1 hr
    have := chainRecs_get h0 h1 k hk
    exact ⟨this.2.2, by omega, this.2.1⟩
  have hs := leaves_small _ (fun r h => ⟨(hr r h).1, (hr r h).2.2⟩)
  exact ⟨by omega, by omega, h0, by omega, hp, by omega, fun r h => ⟨(hr r h).1, (hr r h).2.1⟩, by omega, by omega, fun k hk => (chainRecs_get h0 h1 k hk).1⟩


def linksEnd : Nat → List UInt8 → Int → List HeadP → Nat × List UInt8 × Int
  | i, prev, first, [] => (i, prev, first)
  | i, _, first, h :: hs => linksEnd (i + 1) (sealOf h) (IntKind.u64.wrap (first + IntKind.u64.wrap h.count)) hs
theorem linksEnd_snoc (x : HeadP) : ∀ (hs : List HeadP) (i : Nat) (prev : List UInt8) (first : Int), linksEnd i prev first (hs ++ [x]) = ((linksEnd i prev first hs).1 + 1, sealOf x, IntKind.u64.wrap ((linksEnd i prev first hs).2.2 + IntKind.u64.wrap x.count))
  | [], i, prev, first => rfl
  | h :: hs, i, prev, first => by rw [List.cons_append, linksEnd, linksEnd, linksEnd_snoc x hs]
theorem linksGo_snoc (x : HeadP) : ∀ (hs : List HeadP) (i : Nat) (prev : List UInt8) (first : Int), linksGo i prev first hs = i + hs.length →
    x.index = (linksEnd i prev first hs).1 → x.prev = (linksEnd i prev first hs).2.1 → x.first = (linksEnd i prev first hs).2.2 → linksGo i prev first (hs ++ [x]) = i + hs.length + 1
  | [], i, prev, first, _, h1, h2, h3 => by
    rw [List.nil_append, linksGo, if_pos ⟨h1, h3, h2⟩, linksGo]; rfl
  | h :: hs, i, prev, first, hg, h1, h2, h3 => by
    rw [linksGo] at hg
    rw [List.cons_append, linksGo]
    split at hg
    · rename_i hc
      rw [if_pos hc]
      rw [linksGo_snoc x hs (i + 1) _ _ (by rw [hg, List.length_cons]; omega) h1 h2 h3, List.length_cons]; omega
    · rw [List.length_cons] at hg; omega
structure ChainOK (id : List UInt8) (k : Nat) (s : ChainS) : Prop where
  images : s.images.length = k
  sizes : ∀ b ∈ s.images, b.length = 1024
  heads : s.heads.length = k
  prev : s.prev.length = 32
  next0 : 1 ≤ s.next
  next1 : s.next ≤ 1 + 6 * k
  recs : (s.recs.length : Int) + 1 = s.next
  walk : walkIn s.images = some (s.heads, s.recs)
  ends : linksEnd 0 (genesisOf id) 1 s.heads = (k, s.prev, s.next)
  links : linksOf id s.heads = k
  last : s.prev = headSeal id s.heads
  counts : (s.heads.foldl (fun (n : Int) h => n + h.count) 0) = (s.recs.length : Int)
  seqs : ∀ j (h : j < s.recs.length), s.recs[j].seq = j + 1
theorem chain_ok (id : List UInt8) (l : List (List (List UInt8))) : ∀ k, k ≤ 1000 → ChainOK id k (chainTo id l k)
  | 0, _ => ⟨rfl, by simp [chainTo], rfl, genesisOf_length id, by simp [chainTo], by simp [chainTo], by simp [chainTo], rfl, rfl, rfl, rfl, rfl, by simp [chainTo]⟩
  | k + 1, hk => by
    have h := chain_ok id l k (by omega)
    have hl := chainRecs_length (chainTo id l k).next (l.getD k [])
    have hf := chain_fine (i := k) (next := (chainTo id l k).next) (raw := l.getD k []) (by omega) (by have := h.next0; omega) (by have := h.next1; omega) h.prev
    have q0 := h.next0
    have q1 := h.next1
    have hg := fun j hj => (chainRecs_get (next := (chainTo id l k).next) (raw := l.getD k []) (by omega) (by omega) j hj).1
    have n0 := h.next0
    have n1 := h.next1
    have hrc := h.recs
    rw [chainTo]
    generalize hrs : chainRecs (chainTo id l k).next (l.getD k []) = rs at *
    have hw : IntKind.u64.wrap ((chainTo id l k).next + IntKind.u64.wrap (rs.length : Int)) = (chainTo id l k).next + rs.length := by rw [IntKind.wrap_u64, IntKind.wrap_u64]; omega
    refine ⟨?_, ?_, ?_, sealOf_length _, ?_, ?_, ?_, ?_, ?_, ?_, ?_, ?_, ?_⟩
    · rw [List.length_append, h.images]; rfl
    · intro b hb
      rcases List.mem_append.1 hb with hb | hb
      · exact h.sizes b hb
      · rw [List.mem_singleton] at hb
        subst hb
        exact segBytes_length _ _ _ _ h.prev hf.room
    · rw [List.length_append, h.heads]; rfl
    · dsimp only; omega
    · dsimp only; omega
    · rw [List.length_append]; dsimp only; omega
    · rw [walkIn_snoc, h.walk, Option.bind_some, hf.read, if_neg (by simp)]; rfl
    · rw [linksEnd_snoc, h.ends]
      dsimp only [chainHead]
      rw [hw]
    · have := linksGo_snoc (chainHead k (chainTo id l k).next (chainTo id l k).prev rs) (chainTo id l k).heads 0 (genesisOf id) 1 (by rw [h.heads, Nat.zero_add]; exact h.links) (by rw [h.ends]; rfl) (by rw [h.ends]; rfl) (by rw [h.ends]; rfl)
      rw [h.heads, Nat.zero_add] at this
      exact this
    · simp [headSeal]
    · rw [List.foldl_append, h.counts]; dsimp only [List.foldl_cons, List.foldl_nil, chainHead]; rw [List.length_append]; omega
    · intro j hj
      by_cases hj' : j < (chainTo id l k).recs.length
      · rw [List.getElem_append_left hj']; exact h.seqs j hj'
      · rw [List.getElem_append_right (by omega), hg]
        omega
























































end Go.Proofs.YtfegdgaanmcecaaGreatDoor
