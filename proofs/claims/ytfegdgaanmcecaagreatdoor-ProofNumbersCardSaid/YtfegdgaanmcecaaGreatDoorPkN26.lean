/-
  PROVED HERE: what merkle.climb, merkle.Check, permafrostref6.climb and permafrostref6.Check answer; conditions: lengths that a slice may have.
-/
import Derived.Test.YtfegdgaanmcecaaGreatDoorPkN25
namespace Go.Proofs.YtfegdgaanmcecaaGreatDoor
open Go.RowKit
def climbIn (h0 : List UInt8) : Nat → Nat → Nat → List (List UInt8) → List UInt8 × Bool
 | 0, _, _, _ => ([], false)
 | f + 1, i, n, p => if n = 1 then (h0, decide (p.length = 0)) else if p.length = 0 then ([], false) else
   if i < partN n then (shaSum (1 :: ((climbIn h0 f i (partN n) (p.take (p.length - 1))).1 ++ p.getD (p.length - 1) [])), (climbIn h0 f i (partN n) (p.take (p.length - 1))).2)
   else (shaSum (1 :: (p.getD (p.length - 1) [] ++ (climbIn h0 f (i - partN n) (n - partN n) (p.take (p.length - 1))).1)), (climbIn h0 f (i - partN n) (n - partN n) (p.take (p.length - 1))).2)
def climbOf (h0 : List UInt8) (i n : Nat) (p : List (List UInt8)) : List UInt8 × Bool := climbIn h0 (p.length + 1) i n p
theorem climbOf_one (h0 : List UInt8) (i : Nat) (p : List (List UInt8)) : climbOf h0 i 1 p = (h0, decide (p.length = 0)) := by
 unfold climbOf
 rw [climbIn, if_pos rfl]
theorem climbOf_nil (h0 : List UInt8) (i n : Nat) (hn : n ≠ 1) : climbOf h0 i n [] = ([], false) := by
 unfold climbOf
 rw [climbIn, if_neg hn]
 rfl
theorem climbOf_left (h0 : List UInt8) (i n m : Nat) (p : List (List UInt8)) (hn : n ≠ 1) (hp : p.length = m + 1) (hi : i < partN n) : climbOf h0 i n p = (shaSum (1 :: ((climbOf h0 i (partN n) (p.take m)).1 ++ p.getD m [])), (climbOf h0 i (partN n) (p.take m)).2) := by
 have hl : (p.take m).length = m := by rw [List.length_take]; omega
 unfold climbOf
 rw [climbIn, if_neg hn, if_neg (by omega), if_pos hi, hl, hp, Nat.add_sub_cancel]
theorem climbOf_right (h0 : List UInt8) (i n m : Nat) (p : List (List UInt8)) (hn : n ≠ 1) (hp : p.length = m + 1) (hi : ¬ i < partN n) : climbOf h0 i n p = (shaSum (1 :: (p.getD m [] ++ (climbOf h0 (i - partN n) (n - partN n) (p.take m)).1)), (climbOf h0 (i - partN n) (n - partN n) (p.take m)).2) := by
 have hl : (p.take m).length = m := by rw [List.length_take]; omega
 unfold climbOf
 rw [climbIn, if_neg hn, if_neg (by omega), if_neg hi, hl, hp, Nat.add_sub_cancel]
theorem climbOf_le (h0 : List UInt8) (b : Nat) (hb : h0.length ≤ b) (hb32 : 32 ≤ b) (i n : Nat) (p : List (List UInt8)) : (climbOf h0 i n p).1.length ≤ b := by
 unfold climbOf
 generalize p.length + 1 = f
 cases f with
 | zero => exact Nat.zero_le _
 | succ f =>
  rw [climbIn]
  split
  ·exact hb
  ·split
   ·exact Nat.zero_le _
   ·split
    ·exact hb32
    ·exact hb32
set_option maxRecDepth 100000 in
set_option maxHeartbeats 2000000 in
theorem climb_any (m : Nat) : ∀ (D D2 : Nat → Prop) (A A2 : Option Addr) (q c c2 : Nat) (h0 : List UInt8) (i n : Nat) (p : List (List UInt8)) (w : World) (_hB : Bs w D A q h0) (_hqc : q ≤ c) (_hP : Bss w D2 A2 m p) (_hmc : m ≤ c2) (_hc29 : c2 ≤ 9223372036854775807) (_hi : i < n) (_hn : n ≤ 1099511627776) (_hq : q ≤ 549755810000) (_hpb : ∀ b ∈ p, b.length ≤ 549755810000),
  Calls Tryz.prog 95 #[.slice A q c, .int .i64 (i : Int), .int .i64 (n : Int), .slice A2 m c2] w fun e w' => (∃ A' c', e = .returned (.tuple #[.slice A' (climbOf h0 i n p).1.length c', .bool (climbOf h0 i n p).2]) ∧ (climbOf h0 i n p).1.length ≤ c' ∧ Bs w' (fun _ => True) A' (climbOf h0 i n p).1.length (climbOf h0 i n p).1) ∧ New w w' := by
 have one : ∀ (m : Nat) (D D2 : Nat → Prop) (A A2 : Option Addr) (q c c2 : Nat) (h0 : List UInt8) (i n : Nat) (p : List (List UInt8)) (w : World) (_hB : Bs w D A q h0) (_hqc : q ≤ c) (_hP : Bss w D2 A2 m p) (_hn : n = 1),
   Calls Tryz.prog 95 #[.slice A q c, .int .i64 (i : Int), .int .i64 (n : Int), .slice A2 m c2] w fun e w' => (∃ A' c', e = .returned (.tuple #[.slice A' (climbOf h0 i n p).1.length c', .bool (climbOf h0 i n p).2]) ∧ (climbOf h0 i n p).1.length ≤ c' ∧ Bs w' (fun _ => True) A' (climbOf h0 i n p).1.length (climbOf h0 i n p).1) ∧ New w w' := by
  intro m D D2 A A2 q c c2 h0 i n p w hB hqc hP hn
  subst hn
  have hl := hP.len
  have hb : (((m : Nat) : Int) == 0) = decide (p.length = 0) := by rw [hl]; by_cases h : m = 0 <;> simp [h]
  obtain rfl : h0.length = q := by simpa using hB.1
  rw [climbOf_one]
  dsimp only
  generalize decide (p.length = 0) = d at *
  have HB := Lib.hid (hB.imp (E := fun _ => True) fun _ _ _ => trivial)
  clear hB hP hl
  go_enter Tryz.func95, Tryz.ntmps95
  go_wp2_with fail
  refine bodyPost_ret (v := .tuple #[.slice A h0.length c, .bool d]) (by simp [results, Tryz.results95, go_sem]) rfl ?_
  exact ⟨⟨A, c, rfl, hqc, HB.out⟩, New.refl _⟩
 induction m with
 | zero =>
  intro D D2 A A2 q c c2 h0 i n p w hB hqc hP hmc hc29 hi hn hq hpb
  by_cases hn1 : n = 1
  ·exact one 0 D D2 A A2 q c c2 h0 i n p w hB hqc hP hn1
  ·obtain rfl : p = [] := List.eq_nil_of_length_eq_zero hP.len
   have e1 : ((n : Int) == 1) = false := by simp; omega
   rw [climbOf_nil h0 i n hn1]
   clear hB hP one hpb
   go_enter Tryz.func95, Tryz.ntmps95
   go_wp2_with fail
   refine bodyPost_ret (v := .tuple #[.slice none 0 0, .bool false]) (by simp [results, Tryz.results95, go_sem]) rfl ?_
   exact ⟨⟨none, 0, rfl, Nat.le_refl _, Row.nil _ _ _ _⟩, New.refl _⟩
 | succ m ih =>
  intro D D2 A A2 q c c2 h0 i n p w hB hqc hP hmc hc29 hi hn hq hpb
  have IH := Lib.hid ih
  clear ih
  by_cases hn1 : n = 1
  ·exact one (m + 1) D D2 A A2 q c c2 h0 i n p w hB hqc hP hn1
  ·have e1 : ((n : Int) == 1) = false := by simp; omega
   have e2 : (((m : Nat) : Int) + 1 == 0) = false := by simp; omega
   have hl := hP.len
   obtain rfl : h0.length = q := by simpa using hB.1
   obtain ⟨b, off, A', c', rfl, hcell, hcap, hbs⟩ := hP.at_ (k := m) (by omega)
   have hg : p.getD m [] = p[m]'(by omega) := by rw [List.getD_eq_getElem?_getD, List.getElem?_eq_getElem (by omega)]; rfl
   have hpl : (p.getD m []).length ≤ 549755810000 := by rw [hg]; exact hpb _ (List.getElem_mem _)
   rw [← hg] at hcell hcap hbs
   have HPA := Lib.hid (fun w' => part_any n w' (by omega) (by omega))
   clear one hg
   by_cases hik : i < partN n
   ·skip
    have HR := Lib.hid (climbOf_left h0 i n m p hn1 hl hik)
    have hp1 := partN_lt (n := n) (by omega)
    have hp2 := partN_pos n
    have hle := climbOf_le h0 549755810000 hq (by decide) i (partN n) (p.take m)
    generalize partN n = k at *
    have HC := Lib.hid (fun w' (hN : New w w') => IH.out D D2 A (some ⟨b, off, none⟩) h0.length c c2 h0 i k (p.take m) w' (hB.new hN) hqc ((hP.cutTo (k := m) (by omega)).new hN) (by omega) hc29 (by omega) (by omega) hq (fun b hb => hpb b (List.mem_of_mem_take hb)))
    generalize climbOf h0 i k (p.take m) = r at *
    obtain ⟨r1, r2⟩ := r
    dsimp only at HC HR hle
    have b1 : (0 : Int) ≤ (m : Int) := by omega
    have b2 : (m : Int) ≤ c2 := by omega
    have b3 : (m : Int) < (m : Int) + 1 := by omega
    have b6 : (i : Int) < k := by omega
    have q1 : IntKind.i64.wrap (m : Int) = m := IntWalk.i64_in _ (by omega)
    have y0 : ∀ W, New w.drew W → W.cell? ⟨b, off + m, none⟩ = some (.slice A' (p.getD m []).length c') := fun W h => h.cell_some (a := w.drew) hcell trivial
    clear IH hB hP hpb hl hik hcell
    go_enter Tryz.func95, Tryz.ntmps95
    go_wp2_with fail
    refine hold_begin (by kernel_rfl) ?_
    have n0 : New w.drew w.drew := New.refl _
    refine take0 0 n0 ?_
    refine take0 1 n0 ?_
    refine take0 2 n0 ?_
    refine take0 3 n0 ?_
    refine take0 4 n0 ?_
    refine take0 5 n0 ?_
    refine take0 6 n0 ?_
    refine take0 7 n0 ?_
    refine take0 8 n0 ?_
    refine take0 9 n0 ?_
    refine take0 10 n0 ?_
    refine take0 11 n0 ?_
    refine take0 12 n0 ?_
    refine wpAnyH_done (by kernel_rfl) ?_ _
    clear y0
    go_wp2_with fail
    refine (HPA.out _).mono ?_
    rintro e w1 ⟨rfl, rfl⟩
    go_wp2_with fail
    refine (HC.out _ ((New.refl w).drew)).mono ?_
    rintro e w3 ⟨⟨A3, c3, rfl, hc3, b3⟩, k3⟩
    replace k3 := Keep.new ((New.refl w).drew) k3
    go_wp2_with fail
    refine (pair_any _ _ A3 A' r1.length c3 (p.getD m []).length c' _ _ w3 b3 hc3 (hbs.new k3) hcap (by omega)).mono ?_
    rintro e w4 ⟨⟨A5, c5, rfl, o5⟩, k5⟩
    go_wp2_with fail
    rw [HR.out]
    refine bodyPost_ret (v := .tuple #[.slice A5 32 c5, .bool r2]) (by simp [results, Tryz.results95, go_sem]) rfl ?_
    exact ⟨⟨A5, c5, rfl, own_cap o5, (Row.of_own o5).imp fun _ _ _ => trivial⟩, k3.new k5⟩
   ·skip
    have HR := Lib.hid (climbOf_right h0 i n m p hn1 hl hik)
    have hp1 := partN_lt (n := n) (by omega)
    have hp2 := partN_pos n
    have hle := climbOf_le h0 549755810000 hq (by decide) (i - partN n) (n - partN n) (p.take m)
    generalize partN n = k at *
    have HC := Lib.hid (fun w' (hN : New w w') => IH.out D D2 A (some ⟨b, off, none⟩) h0.length c c2 h0 (i - k) (n - k) (p.take m) w' (hB.new hN) hqc ((hP.cutTo (k := m) (by omega)).new hN) (by omega) hc29 (by omega) (by omega) hq (fun b hb => hpb b (List.mem_of_mem_take hb)))
    generalize climbOf h0 (i - k) (n - k) (p.take m) = r at *
    obtain ⟨r1, r2⟩ := r
    dsimp only at HC HR hle
    have b1 : (0 : Int) ≤ (m : Int) := by omega
    have b2 : (m : Int) ≤ c2 := by omega
    have b3 : (m : Int) < (m : Int) + 1 := by omega
    have b6 : ¬ (i : Int) < k := by omega
    have q1 : IntKind.i64.wrap (m : Int) = m := IntWalk.i64_in _ (by omega)
    have q2 : IntKind.i64.wrap ((i : Int) - k) = ((i - k : Nat) : Int) := by rw [IntWalk.i64_in _ (by omega)]; omega
    have q3 : IntKind.i64.wrap ((n : Int) - k) = ((n - k : Nat) : Int) := by rw [IntWalk.i64_in _ (by omega)]; omega
    have y0 : ∀ W, New w.drew W → W.cell? ⟨b, off + m, none⟩ = some (.slice A' (p.getD m []).length c') := fun W h => h.cell_some (a := w.drew) hcell trivial
    clear IH hB hP hpb hl hik hcell
    go_enter Tryz.func95, Tryz.ntmps95
    go_wp2_with fail
    refine hold_begin (by kernel_rfl) ?_
    have n0 : New w.drew w.drew := New.refl _
    refine take0 0 n0 ?_
    refine take0 1 n0 ?_
    refine take0 2 n0 ?_
    refine take0 3 n0 ?_
    refine take0 4 n0 ?_
    refine take0 5 n0 ?_
    refine take0 6 n0 ?_
    refine take0 7 n0 ?_
    refine take0 8 n0 ?_
    refine take0 9 n0 ?_
    refine take0 10 n0 ?_
    refine take0 11 n0 ?_
    refine take0 12 n0 ?_
    refine wpAnyH_done (by kernel_rfl) ?_ _
    clear y0
    go_wp2_with fail
    refine (HPA.out _).mono ?_
    rintro e w1 ⟨rfl, rfl⟩
    go_wp2_with fail
    refine (HC.out _ ((New.refl w).drew)).mono ?_
    rintro e w3 ⟨⟨A3, c3, rfl, hc3, b3⟩, k3⟩
    replace k3 := Keep.new ((New.refl w).drew) k3
    go_wp2_with fail
    refine (pair_any _ _ A' A3 (p.getD m []).length c' r1.length c3 _ _ w3 (hbs.new k3) hcap b3 hc3 (by omega)).mono ?_
    rintro e w4 ⟨⟨A5, c5, rfl, o5⟩, k5⟩
    go_wp2_with fail
    rw [HR.out]
    refine bodyPost_ret (v := .tuple #[.slice A5 32 c5, .bool r2]) (by simp [results, Tryz.results95, go_sem]) rfl ?_
    exact ⟨⟨A5, c5, rfl, own_cap o5, (Row.of_own o5).imp fun _ _ _ => trivial⟩, k3.new k5⟩
def checkOf (root lf : List UInt8) (i n : Int) (p : List (List UInt8)) : Bool := decide (0 ≤ i ∧ i < n) && ((climbOf (shaSum (0 :: lf)) i.toNat n.toNat p).2 && (climbOf (shaSum (0 :: lf)) i.toNat n.toNat p).1 == root)
theorem checkOf_out (root lf : List UInt8) (i n : Int) (p : List (List UInt8)) (h : ¬ (0 ≤ i ∧ i < n)) : checkOf root lf i n p = false := by
 unfold checkOf
 rw [decide_eq_false h]
 rfl
theorem checkOf_in (root lf : List UInt8) (i n : Nat) (p : List (List UInt8)) (h : i < n) : checkOf root lf i n p = ((climbOf (shaSum (0 :: lf)) i n p).2 && (climbOf (shaSum (0 :: lf)) i n p).1 == root) := by
 unfold checkOf
 rw [decide_eq_true (by omega), Int.toNat_natCast, Int.toNat_natCast]
 rfl
set_option maxRecDepth 100000 in
set_option maxHeartbeats 2000000 in
theorem check_any (D D2 D3 : Nat → Prop) (A A2 A3 : Option Addr) (r cr q c m c3 : Nat) (root lf : List UInt8) (i n : Int) (p : List (List UInt8)) (w : World) (hR : Bs w D A r root) (hB : Bs w D2 A2 q lf) (hqc : q ≤ c) (hq : q ≤ 1099511620000) (hP : Bss w D3 A3 m p) (hmc : m ≤ c3) (hc39 : c3 ≤ 9223372036854775807) (hpb : ∀ b ∈ p, b.length ≤ 549755810000) (hn : n ≤ 1099511627776) :
  Calls Tryz.prog 38 #[.slice A r cr, .slice A2 q c, .int .i64 i, .int .i64 n, .slice A3 m c3] w fun e w' => e = .returned (.bool (checkOf root lf i n p)) ∧ New w w' := by
 by_cases hi0 : i < 0
 ·rw [checkOf_out root lf i n p (by omega)]
  clear hR hB hP hpb
  go_enter Tryz.func38, Tryz.ntmps38
  go_wp2_with fail
  go_ret
  exact ⟨rfl, New.refl _⟩
 ·by_cases hin : i < n
  ·obtain ⟨i, rfl⟩ : ∃ k : Nat, i = (k : Int) := ⟨i.toNat, by omega⟩
   obtain ⟨n, rfl⟩ : ∃ k : Nat, n = (k : Int) := ⟨n.toNat, by omega⟩
   have hlt : i < n := by omega
   rw [checkOf_in root lf i n p hlt]
   have HL := Lib.hid (leaf_any D2 A2 q c lf w hB hqc hq)
   have HR := Lib.hid hR
   have e2 : ¬ (n : Int) ≤ i := by omega
   have hl32 : (shaSum (0 :: lf)).length = 32 := rfl
   have HC := Lib.hid (fun W (h : New w W) A1 c1 (o : Bs W (fun _ => True) A1 32 (shaSum (0 :: lf))) (hc : 32 ≤ c1) => climb_any m (fun _ => True) D3 A1 A3 32 c1 c3 (shaSum (0 :: lf)) i n p W o hc (hP.new h) hmc hc39 hlt (by omega) (by decide) hpb)
   generalize climbOf (shaSum (0 :: lf)) i n p = d at *
   generalize shaSum (0 :: lf) = sm at *
   obtain ⟨z, ok⟩ := d
   dsimp only at HC ⊢
   clear hR hB hP hpb hl32 hin hi0
   go_enter Tryz.func38, Tryz.ntmps38
   go_wp2_with fail
   refine HL.out.mono ?_
   rintro e w1 ⟨⟨A4, c4, rfl, o1⟩, k1⟩
   go_wp2_with fail
   refine (HC.out w1 k1 A4 c4 ((Row.of_own o1).imp fun _ _ _ => trivial) (own_cap o1)).mono ?_
   rintro e w2 ⟨⟨A5, c5, rfl, hc5, b5⟩, k2⟩
   cases ok
   ·go_wp2_with fail
    go_ret
    exact ⟨rfl, k1.new k2⟩
   ·go_wp2_with fail
    refine (equal_any _ _ A5 A z.length c5 r cr z root w2 b5 (HR.out.new (k1.new k2))).mono ?_
    rintro e w3 ⟨rfl, rfl⟩
    go_wp2_with fail
    go_ret
    exact ⟨rfl, k1.new k2⟩
  ·rw [checkOf_out root lf i n p (by omega)]
   have e2 : n ≤ i := by omega
   clear hR hB hP hpb
   go_enter Tryz.func38, Tryz.ntmps38
   go_wp2_with fail
   go_ret
   exact ⟨rfl, New.refl _⟩
set_option maxRecDepth 100000 in
set_option maxHeartbeats 2000000 in
theorem climb6_any (m : Nat) : ∀ (D D2 : Nat → Prop) (A A2 : Option Addr) (q c c2 : Nat) (lf : List UInt8) (i n : Nat) (p : List (List UInt8)) (w : World) (_hB : Bs w D A q lf) (_hP : Bss w D2 A2 m p) (_hmc : m ≤ c2) (_hc29 : c2 ≤ 9223372036854775807) (_hi : i < n) (_hn : n ≤ 1099511627776) (_hq : q ≤ 1099511620000) (_hpb : ∀ b ∈ p, b.length ≤ 549755810000),
  Calls Tryz.prog 104 #[.slice A q c, .int .i64 (i : Int), .int .i64 (n : Int), .slice A2 m c2] w fun e w' => (∃ A' c', e = .returned (.tuple #[.slice A' (climbOf (shaSum (0 :: lf)) i n p).1.length c', .bool (climbOf (shaSum (0 :: lf)) i n p).2]) ∧ (climbOf (shaSum (0 :: lf)) i n p).1.length ≤ c' ∧ Bs w' (fun _ => True) A' (climbOf (shaSum (0 :: lf)) i n p).1.length (climbOf (shaSum (0 :: lf)) i n p).1) ∧ New w w' := by
 have one : ∀ (m : Nat) (D D2 : Nat → Prop) (A A2 : Option Addr) (q c c2 : Nat) (lf : List UInt8) (i n : Nat) (p : List (List UInt8)) (w : World) (_hB : Bs w D A q lf) (_hP : Bss w D2 A2 m p) (_hq : q ≤ 1099511620000) (_hn : n = 1),
   Calls Tryz.prog 104 #[.slice A q c, .int .i64 (i : Int), .int .i64 (n : Int), .slice A2 m c2] w fun e w' => (∃ A' c', e = .returned (.tuple #[.slice A' (climbOf (shaSum (0 :: lf)) i n p).1.length c', .bool (climbOf (shaSum (0 :: lf)) i n p).2]) ∧ (climbOf (shaSum (0 :: lf)) i n p).1.length ≤ c' ∧ Bs w' (fun _ => True) A' (climbOf (shaSum (0 :: lf)) i n p).1.length (climbOf (shaSum (0 :: lf)) i n p).1) ∧ New w w' := by
  intro m D D2 A A2 q c c2 lf i n p w hB hP hq hn
  subst hn
  have hl := hP.len
  have hb : (((m : Nat) : Int) == 0) = decide (p.length = 0) := by rw [hl]; by_cases h : m = 0 <;> simp [h]
  rw [climbOf_one]
  dsimp only
  have HL := Lib.hid (leaf2_any D A q c lf w hB hq)
  have hs : (shaSum (0 :: lf)).length = 32 := rfl
  rw [hs]
  generalize shaSum (0 :: lf) = sm at *
  generalize decide (p.length = 0) = d at *
  clear hB hP hl hs
  go_enter Tryz.func104, Tryz.ntmps104
  go_wp2_with fail
  refine HL.out.mono ?_
  rintro e w1 ⟨⟨A4, c4, rfl, o1⟩, k1⟩
  go_wp2_with fail
  refine bodyPost_ret (v := .tuple #[.slice A4 32 c4, .bool d]) (by simp [results, Tryz.results104, go_sem]) rfl ?_
  exact ⟨⟨A4, c4, rfl, own_cap o1, (Row.of_own o1).imp fun _ _ _ => trivial⟩, k1⟩
 induction m with
 | zero =>
  intro D D2 A A2 q c c2 lf i n p w hB hP hmc hc29 hi hn hq hpb
  by_cases hn1 : n = 1
  ·exact one 0 D D2 A A2 q c c2 lf i n p w hB hP hq hn1
  ·obtain rfl : p = [] := List.eq_nil_of_length_eq_zero hP.len
   have e1 : ((n : Int) == 1) = false := by simp; omega
   rw [climbOf_nil _ i n hn1]
   clear hB hP one hpb
   go_enter Tryz.func104, Tryz.ntmps104
   go_wp2_with fail
   refine bodyPost_ret (v := .tuple #[.slice none 0 0, .bool false]) (by simp [results, Tryz.results104, go_sem]) rfl ?_
   exact ⟨⟨none, 0, rfl, Nat.le_refl _, Row.nil _ _ _ _⟩, New.refl _⟩
 | succ m ih =>
  intro D D2 A A2 q c c2 lf i n p w hB hP hmc hc29 hi hn hq hpb
  have IH := Lib.hid ih
  clear ih
  by_cases hn1 : n = 1
  ·exact one (m + 1) D D2 A A2 q c c2 lf i n p w hB hP hq hn1
  ·have e1 : ((n : Int) == 1) = false := by simp; omega
   have e2 : (((m : Nat) : Int) + 1 == 0) = false := by simp; omega
   have hl := hP.len
   obtain ⟨b, off, A', c', rfl, hcell, hcap, hbs⟩ := hP.at_ (k := m) (by omega)
   have hg : p.getD m [] = p[m]'(by omega) := by rw [List.getD_eq_getElem?_getD, List.getElem?_eq_getElem (by omega)]; rfl
   have hpl : (p.getD m []).length ≤ 549755810000 := by rw [hg]; exact hpb _ (List.getElem_mem _)
   rw [← hg] at hcell hcap hbs
   have HPA := Lib.hid (fun w' => part6_any n w' (by omega) (by omega))
   clear one hg
   by_cases hik : i < partN n
   ·skip
    have HR := Lib.hid (climbOf_left (shaSum (0 :: lf)) i n m p hn1 hl hik)
    have hp1 := partN_lt (n := n) (by omega)
    have hp2 := partN_pos n
    have hle := climbOf_le (shaSum (0 :: lf)) 549755810000 (by show 32 ≤ _; decide) (by decide) i (partN n) (p.take m)
    generalize partN n = k at *
    have HC := Lib.hid (fun w' (hN : New w w') => IH.out D D2 A (some ⟨b, off, none⟩) q c c2 lf i k (p.take m) w' (hB.new hN) ((hP.cutTo (k := m) (by omega)).new hN) (by omega) hc29 (by omega) (by omega) hq (fun b hb => hpb b (List.mem_of_mem_take hb)))
    generalize climbOf (shaSum (0 :: lf)) i k (p.take m) = r at *
    obtain ⟨r1, r2⟩ := r
    dsimp only at HC HR hle
    have b1 : (0 : Int) ≤ (m : Int) := by omega
    have b2 : (m : Int) ≤ c2 := by omega
    have b3 : (m : Int) < (m : Int) + 1 := by omega
    have b6 : (i : Int) < k := by omega
    have q1 : IntKind.i64.wrap (m : Int) = m := IntWalk.i64_in _ (by omega)
    clear IH hB hP hpb hl hik
    go_enter Tryz.func104, Tryz.ntmps104
    go_wp2_with fail
    refine (HPA.out _).mono ?_
    rintro e w1 ⟨rfl, rfl⟩
    go_wp2_with fail
    refine (HC.out _ (New.refl w)).mono ?_
    rintro e w3 ⟨⟨A3, c3, rfl, hc3, b3'⟩, k3⟩
    go_wp2_with fail
    refine (pair2_any _ _ A3 A' r1.length c3 (p.getD m []).length c' _ _ w3 b3' (hbs.new k3) (by omega)).mono ?_
    rintro e w4 ⟨⟨A5, c5, rfl, o5⟩, k5⟩
    go_wp2_with fail
    rw [HR.out]
    refine bodyPost_ret (v := .tuple #[.slice A5 32 c5, .bool r2]) (by simp [results, Tryz.results104, go_sem]) rfl ?_
    exact ⟨⟨A5, c5, rfl, own_cap o5, (Row.of_own o5).imp fun _ _ _ => trivial⟩, k3.new k5⟩
   ·skip
    have HR := Lib.hid (climbOf_right (shaSum (0 :: lf)) i n m p hn1 hl hik)
    have hp1 := partN_lt (n := n) (by omega)
    have hp2 := partN_pos n
    have hle := climbOf_le (shaSum (0 :: lf)) 549755810000 (by show 32 ≤ _; decide) (by decide) (i - partN n) (n - partN n) (p.take m)
    generalize partN n = k at *
    have HC := Lib.hid (fun w' (hN : New w w') => IH.out D D2 A (some ⟨b, off, none⟩) q c c2 lf (i - k) (n - k) (p.take m) w' (hB.new hN) ((hP.cutTo (k := m) (by omega)).new hN) (by omega) hc29 (by omega) (by omega) hq (fun b hb => hpb b (List.mem_of_mem_take hb)))
    generalize climbOf (shaSum (0 :: lf)) (i - k) (n - k) (p.take m) = r at *
    obtain ⟨r1, r2⟩ := r
    dsimp only at HC HR hle
    have b1 : (0 : Int) ≤ (m : Int) := by omega
    have b2 : (m : Int) ≤ c2 := by omega
    have b3 : (m : Int) < (m : Int) + 1 := by omega
    have b6 : ¬ (i : Int) < k := by omega
    have q1 : IntKind.i64.wrap (m : Int) = m := IntWalk.i64_in _ (by omega)
    have q2 : IntKind.i64.wrap ((i : Int) - k) = ((i - k : Nat) : Int) := by rw [IntWalk.i64_in _ (by omega)]; omega
    have q3 : IntKind.i64.wrap ((n : Int) - k) = ((n - k : Nat) : Int) := by rw [IntWalk.i64_in _ (by omega)]; omega
    clear IH hB hP hpb hl hik
    go_enter Tryz.func104, Tryz.ntmps104
    go_wp2_with fail
    refine (HPA.out _).mono ?_
    rintro e w1 ⟨rfl, rfl⟩
    go_wp2_with fail
    refine (HC.out _ (New.refl w)).mono ?_
    rintro e w3 ⟨⟨A3, c3, rfl, hc3, b3'⟩, k3⟩
    go_wp2_with fail
    refine (pair2_any _ _ A' A3 (p.getD m []).length c' r1.length c3 _ _ w3 (hbs.new k3) b3' (by omega)).mono ?_
    rintro e w4 ⟨⟨A5, c5, rfl, o5⟩, k5⟩
    go_wp2_with fail
    rw [HR.out]
    refine bodyPost_ret (v := .tuple #[.slice A5 32 c5, .bool r2]) (by simp [results, Tryz.results104, go_sem]) rfl ?_
    exact ⟨⟨A5, c5, rfl, own_cap o5, (Row.of_own o5).imp fun _ _ _ => trivial⟩, k3.new k5⟩
theorem partN_half {n t : Nat} (h2 : 2 ≤ n) (h : n ≤ 2 ^ (t + 1)) : partN n ≤ 2 ^ t ∧ n - partN n ≤ 2 ^ t := by
 have h1 : (n - 1).log2 < t + 1 := (Nat.log2_lt (by omega)).2 (by omega)
 have h3 : 2 ^ (n - 1).log2 ≤ 2 ^ t := Nat.pow_le_pow_right (by decide) (by omega)
 have h4 : n - 1 < 2 ^ ((n - 1).log2 + 1) := Nat.lt_log2_self
 rw [Nat.pow_succ] at h4
 unfold partN
 generalize 2 ^ (n - 1).log2 = x at *
 generalize 2 ^ t = y at *
 omega
theorem climb_short (h0 : List UInt8) : ∀ (t i n : Nat) (p : List (List UInt8)), n ≤ 2 ^ t → i < n → (climbOf h0 i n p).2 = true → p.length ≤ t := by
 intro t
 induction t with
 | zero =>
  intro i n p hn hi h
  obtain rfl : n = 1 := by simp at hn; omega
  rw [climbOf_one] at h
  have := of_decide_eq_true h
  omega
 | succ t ih =>
  intro i n p hn hi h
  by_cases hn1 : n = 1
  ·subst hn1
   rw [climbOf_one] at h
   have := of_decide_eq_true h
   omega
  ·cases hp : p.length with
   | zero => omega
   | succ m =>
    have hh := partN_half (n := n) (by omega) hn
    have h1 := partN_lt (n := n) (by omega)
    have h2 := partN_pos n
    by_cases hik : i < partN n
    ·rw [climbOf_left h0 i n m p hn1 hp hik] at h
     have := ih i (partN n) (p.take m) hh.1 hik h
     rw [List.length_take] at this
     omega
    ·rw [climbOf_right h0 i n m p hn1 hp hik] at h
     have := ih (i - partN n) (n - partN n) (p.take m) hh.2 (by omega) h
     rw [List.length_take] at this
     omega
set_option maxRecDepth 100000 in
set_option maxHeartbeats 2000000 in
theorem check6_any (D D2 D3 : Nat → Prop) (A A2 A3 : Option Addr) (r cr q c m c3 : Nat) (root lf : List UInt8) (i n : Int) (p : List (List UInt8)) (w : World) (hR : Bs w D A r root) (hB : Bs w D2 A2 q lf) (hq : q ≤ 1099511620000) (hP : Bss w D3 A3 m p) (hmc : m ≤ c3) (hc39 : c3 ≤ 9223372036854775807) (hpb : ∀ b ∈ p, b.length ≤ 549755810000) (hn : n ≤ 1099511627776) :
  Calls Tryz.prog 47 #[.slice A r cr, .slice A2 q c, .int .i64 i, .int .i64 n, .slice A3 m c3] w fun e w' => e = .returned (.bool (checkOf root lf i n p)) ∧ New w w' := by
 by_cases hin : 0 ≤ i ∧ i < n
 ·obtain ⟨i, rfl⟩ : ∃ k : Nat, i = (k : Int) := ⟨i.toNat, by omega⟩
  obtain ⟨n, rfl⟩ : ∃ k : Nat, n = (k : Int) := ⟨n.toNat, by omega⟩
  have hlt : i < n := by omega
  rw [checkOf_in root lf i n p hlt]
  have e1 : ¬ (n : Int) < 1 := by omega
  have e2 : ¬ (n : Int) ≤ i := by omega
  have hl := hP.len
  have hsh := climb_short (shaSum (0 :: lf)) 40 i n p (by show n ≤ 1099511627776; omega) hlt
  rw [hl] at hsh
  have HR := Lib.hid hR
  have HC := Lib.hid (climb6_any m D2 D3 A2 A3 q c c3 lf i n p w hB hP hmc hc39 hlt (by omega) hq hpb)
  generalize climbOf (shaSum (0 :: lf)) i n p = d at *
  obtain ⟨z, ok⟩ := d
  dsimp only at HC hsh ⊢
  by_cases hm : 64 < m
  ·have e3 : (64 : Int) < (m : Int) := by omega
   have hok : ok = false := by
    cases ok
    ·rfl
    ·have := hsh rfl
     omega
   subst hok
   clear hR hB hP hpb hin hsh hl HC
   go_enter Tryz.func47, Tryz.ntmps47
   go_wp2_with fail
   go_ret
   exact ⟨rfl, New.refl _⟩
  ·have e3 : ¬ (64 : Int) < (m : Int) := by omega
   clear hR hB hP hpb hin hsh hl
   go_enter Tryz.func47, Tryz.ntmps47
   go_wp2_with fail
   refine HC.out.mono ?_
   rintro e w2 ⟨⟨A5, c5, rfl, hc5, b5⟩, k2⟩
   have v5 := run_str (c := c5) b5
   have v6 := run_str (c := cr) (HR.out.new k2)
   rw [show r = root.length from by simpa using HR.out.1.symm] at *
   cases ok
   ·go_wp2_with fail
    go_ret
    exact ⟨rfl, k2⟩
   ·go_wp2_with fail
    go_ret
    exact ⟨rfl, k2⟩
 ·rw [checkOf_out root lf i n p hin]
  clear hR hB hP hpb
  by_cases h1 : n < 1
  ·go_enter Tryz.func47, Tryz.ntmps47
   go_wp2_with fail
   go_ret
   exact ⟨rfl, New.refl _⟩
  ·by_cases h2 : i < 0
   ·go_enter Tryz.func47, Tryz.ntmps47
    go_wp2_with fail
    go_ret
    exact ⟨rfl, New.refl _⟩
   ·have h3 : n ≤ i := by omega
    clear hin
    go_enter Tryz.func47, Tryz.ntmps47
    go_wp2_with fail
    go_ret
    exact ⟨rfl, New.refl _⟩
end Go.Proofs.YtfegdgaanmcecaaGreatDoor
