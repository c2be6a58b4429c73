/-
  PROVED HERE: what merkle.part and merkle.Root answer; condition: fewer than 2^40 bytes in all.
-/
import Derived.Test.YtpbbfbgmpidgnaaDoorLeaves
import Derived.Deep.RegionHeld3
namespace Go.Proofs.YtpbbfbgmpidgnaaDoor
open Go.RowKit

/-- the greatest power of two below n. -/
def partN (n : Nat) : Nat := 2 ^ (n - 1).log2
theorem partN_eq {n j : Nat} (h2 : 2 ≤ n) (h : 2 ^ j < n) (h' : n ≤ 2 ^ j + 2 ^ j) : 2 ^ j = partN n := by
  unfold partN
  rw [(Nat.log2_eq_iff (by omega)).2 ⟨(by omega : 2 ^ j ≤ n - 1), by rw [Nat.pow_succ]; omega⟩]
theorem partN_lt {n : Nat} (h : 2 ≤ n) : partN n < n := by
  have := Nat.log2_self_le (n := n - 1) (by omega); unfold partN; omega
theorem partN_pos (n : Nat) : 0 < partN n := Nat.pow_pos (by decide)
set_option maxRecDepth 100000 in
theorem part_any (n : Nat) (w : World) (h2 : 2 ≤ n) (hn : n ≤ 4611686018427387904) :
    Calls Tryd.prog 70 #[.int .i64 n] w fun e w' => e = .returned (.int .i64 (partN n)) ∧ w = w' := by
  go_enter Tryd.func70, Tryd.ntmps70
  go_wp2_with fail
  go_loop [3] (fun s3 => ∃ k : Nat, (∃ j, k = 2 ^ j) ∧ k < n ∧ s3 = .int .i64 (k : Int)) (fun s3 => n - (intOf s3).toNat)
  case atStart => exact ⟨1, ⟨0, rfl⟩, by omega, rfl⟩
  case round =>
    obtain ⟨k, hj, hk, rfl⟩ := hrel
    have hpos : 0 < k := by obtain ⟨j, rfl⟩ := hj; exact Nat.pow_pos (by decide)
    have HJ := Lib.hid hj
    clear hj
    by_cases hlt : k < n - k
    · have hlt' : (k : Int) < (n : Int) - k := by omega
      go_wp2_with fail
      go_round
      case rel => exact ⟨k + k, by obtain ⟨j, h⟩ := HJ.out; exact ⟨j + 1, by rw [Nat.pow_succ, ← h]; omega⟩, by omega, by go_num⟩
      case measure => simp [intOf]; omega
    · have hlt' : ¬ (k : Int) < (n : Int) - k := by omega
      go_wp2_with fail
      go_ret
      exact ⟨by obtain ⟨j, h⟩ := HJ.out; rw [h, ← partN_eq h2 (j := j) (by omega) (by omega)]; rfl, rfl⟩
/-- a tree's hash. -/
def rootIn : Nat → List (List UInt8) → List UInt8
  | 0, _ => []
  | f + 1, ls => if ls.length = 0 then shaSum [] else if ls.length = 1 then shaSum (0 :: ls.getD 0 []) else shaSum (1 :: (rootIn f (ls.take (partN ls.length)) ++ rootIn f (ls.drop (partN ls.length))))
def rootOf (ls : List (List UInt8)) : List UInt8 := rootIn (ls.length + 1) ls
theorem rootIn_fuel : ∀ (f g : Nat) (ls : List (List UInt8)), ls.length < f → ls.length < g → rootIn f ls = rootIn g ls
  | 0, _, _, h, _ => absurd h (by omega)
  | _ + 1, 0, _, _, h => absurd h (by omega)
  | f + 1, g + 1, ls, hf, hg => by
    unfold rootIn
    by_cases h0 : ls.length = 0
    · rw [if_pos h0, if_pos h0]
    · by_cases h1 : ls.length = 1
      · rw [if_neg h0, if_neg h0, if_pos h1, if_pos h1]
      · rw [if_neg h0, if_neg h0, if_neg h1, if_neg h1]
        have hp := partN_lt (n := ls.length) (by omega)
        have hq := partN_pos ls.length
        rw [rootIn_fuel f g (ls.take (partN ls.length)) (by rw [List.length_take]; omega) (by rw [List.length_take]; omega),
          rootIn_fuel f g (ls.drop (partN ls.length)) (by rw [List.length_drop]; omega) (by rw [List.length_drop]; omega)]
theorem rootOf_nil : rootOf [] = shaSum [] := rfl
theorem rootOf_one (l : List UInt8) : rootOf [l] = shaSum (0 :: l) := rfl
theorem rootOf_more (ls : List (List UInt8)) (h : 2 ≤ ls.length) : rootOf ls = shaSum (1 :: (rootOf (ls.take (partN ls.length)) ++ rootOf (ls.drop (partN ls.length)))) := by
  have hp := partN_lt h
  have hq := partN_pos ls.length
  unfold rootOf
  rw [rootIn, if_neg (by omega), if_neg (by omega),
    rootIn_fuel ls.length ((ls.take (partN ls.length)).length + 1) (ls.take (partN ls.length)) (by rw [List.length_take]; omega) (by omega),
    rootIn_fuel ls.length ((ls.drop (partN ls.length)).length + 1) (ls.drop (partN ls.length)) (by rw [List.length_drop]; omega) (by omega)]
theorem rootOf_length (ls : List (List UInt8)) : (rootOf ls).length = 32 := by
  rcases Nat.lt_or_ge ls.length 2 with h | h
  · match ls, h with
    | [], _ => rfl
    | [l], _ => rfl
  · rw [rootOf_more ls h]; rfl
theorem Bss.cutTo {w : World} {D : Nat → Prop} {A : Option Addr} {n : Nat} {ls : List (List UInt8)} (h : Bss w D A n ls) {k : Nat} (hk : k ≤ n) : Bss w D A k (ls.take k) := by
  obtain ⟨vs, h1, h2, h3⟩ := h
  have := h1.cutTo (hi := k) hk
  rw [Nat.mul_one] at this
  refine ⟨vs.take k, this, by rw [List.length_take]; omega, fun i hi => ?_⟩
  have hi' : i < k := by rw [List.length_take] at hi; omega
  obtain ⟨A', c', e, hc, hb⟩ := h3 i (by omega)
  rw [List.getElem_take]
  exact ⟨A', c', by rw [List.getElem?_take, if_pos hi']; exact e, hc, hb⟩
theorem Bss.from_ {w : World} {D : Nat → Prop} {A : Option Addr} {n : Nat} {ls : List (List UInt8)} (h : Bss w D A n ls) {k : Nat} (hk : k ≤ n) : Bss w D (Option.map (fun x => x.add k) A) (n - k) (ls.drop k) := by
  obtain ⟨vs, h1, h2, h3⟩ := h
  have := h1.from_ (l := k) hk
  rw [Nat.mul_one] at this
  refine ⟨vs.drop k, this, by rw [List.length_drop]; omega, fun i hi => ?_⟩
  rw [List.length_drop] at hi
  obtain ⟨A', c', e, hc, hb⟩ := h3 (k + i) (by omega)
  rw [List.getElem_drop]
  exact ⟨A', c', by rw [List.getElem?_drop]; exact e, hc, hb⟩
set_option maxRecDepth 100000 in
set_option maxHeartbeats 2000000 in
theorem root_any (n : Nat) : ∀ (D : Nat → Prop) (A : Option Addr) (c : Nat) (ls : List (List UInt8)) (w : World) (hB : Bss w D A n ls) (hc : n ≤ c) (hb : ls.flatten.length ≤ 1099511620000) (hn : n ≤ 1099511627776) (hc9 : c ≤ 9223372036854775807),
    Calls Tryd.prog 36 #[.slice A n c] w fun e w' => (∃ A' c', e = .returned (.slice A' 32 c') ∧ OwnB w' w.heap.size 5 A' 32 c' (rootOf ls)) ∧ New w w' := by
  induction n using Nat.strongRecOn with
  | _ n ih =>
    intro D A c ls w hB hc hb hn hc9
    have hl := hB.len
    have IH := Lib.hid ih
    clear ih
    by_cases h0 : n = 0
    · subst h0
      obtain rfl : ls = [] := List.eq_nil_of_length_eq_zero hl
      rw [rootOf_nil]
      have hnil : Bs w (fun _ => True) none 0 [] := Row.nil _ _ _ _
      go_enter Tryd.func36, Tryd.ntmps36
      go_wp2_with fail
      refine (shaSum_any _ none 0 0 [] w hnil (Nat.le_refl _) (by omega)).mono ?_
      rintro e w1 ⟨⟨A1, c1, rfl, hown⟩, hK⟩
      go_wp2_with fail
      go_ret
      exact ⟨⟨_, _, rfl, hown⟩, hK⟩
    · by_cases h1 : n = 1
      · subst h1
        obtain ⟨b, off, A', c', rfl, hcell, hcap, hbs⟩ := hB.at_ (k := 0) (by omega)
        rw [Nat.add_zero] at hcell
        have hx : ls = [ls[0]'(by omega)] := by
          match ls, hl with
          | [x], _ => rfl
        have hlen : (ls[0]'(by omega)).length ≤ 1099511620000 := by
          have := flatten_take_le ls 0 (by omega); omega
        generalize ls[0]'_ = x at *
        subst hx
        rw [rootOf_one]
        clear hB
        go_enter Tryd.func36, Tryd.ntmps36
        go_wp2_with fail
        refine (leaf_any _ A' _ c' x w hbs hcap hlen).mono ?_
        rintro e w1 ⟨⟨A1, c1, rfl, hown⟩, hK⟩
        go_wp2_with fail
        go_ret
        exact ⟨⟨_, _, rfl, hown⟩, hK⟩
      · have h2 : 2 ≤ n := by omega
        have hp := partN_lt h2
        have hq := partN_pos n
        have e0 : ((n : Int) == 0) = false := by simp; omega
        have e1 : ((n : Int) == 1) = false := by simp; omega
        have HR := Lib.hid (rootOf_more ls (by omega))
        rw [hl] at HR
        have HPA := Lib.hid (fun w' => part_any n w' h2 (by omega))
        have hB1 := hB.cutTo (k := partN n) (by omega)
        have hB2 := hB.from_ (k := partN n) (by omega)
        have hf1 : (ls.take (partN n)).flatten.length ≤ 1099511620000 := by
          have h := congrArg (fun l : List (List UInt8) => l.flatten.length) (List.take_append_drop (partN n) ls)
          simp only [List.flatten_append, List.length_append] at h; omega
        have hf2 : (ls.drop (partN n)).flatten.length ≤ 1099511620000 := by
          have h := congrArg (fun l : List (List UInt8) => l.flatten.length) (List.take_append_drop (partN n) ls)
          simp only [List.flatten_append, List.length_append] at h; omega
        generalize partN n = k at *
        have HC1 : Hid (∀ w', New w w' → Calls Tryd.prog 36 #[.slice A k c] w' fun e w'' => (∃ A' c', e = .returned (.slice A' 32 c') ∧ OwnB w'' w'.heap.size 5 A' 32 c' (rootOf (ls.take k))) ∧ New w' w'') :=
          Lib.hid fun w' hN => IH.out k hp D A c _ w' (hB1.keep hN (fun _ _ _ => trivial)) (by omega) hf1 (by omega) hc9
        have HC2 : Hid (∀ w', New w w' → Calls Tryd.prog 36 #[.slice (Option.map (fun x => x.add k) A) (n - k) (c - k)] w' fun e w'' => (∃ A' c', e = .returned (.slice A' 32 c') ∧ OwnB w'' w'.heap.size 5 A' 32 c' (rootOf (ls.drop k))) ∧ New w' w'') :=
          Lib.hid fun w' hN => IH.out (n - k) (by omega) D _ (c - k) _ w' (hB2.keep hN (fun _ _ _ => trivial)) (by omega) hf2 (by omega) (by omega)
        have b1 : (0 : Int) ≤ (k : Int) := by omega
        have b2 : (k : Int) ≤ n := by omega
        have b3 : (k : Int) ≤ c := by omega
        have b4 : (n : Int) ≤ c := by omega
        have b5 : ¬ c = k := by omega
        clear hB hB1 hB2 IH hl hf1 hf2 hb
        go_enter Tryd.func36, Tryd.ntmps36
        go_wp2_with fail
        refine (HPA.out _).mono ?_
        rintro e w1 ⟨rfl, rfl⟩
        go_wp2_with fail
        go_region_held3 (fun w' => New w w') (first | exact New.refl w | exact (New.refl w).drew | exact Keep.new (by assumption) hK3 | exact Keep.new (by assumption) hK4 | exact Keep.new (by assumption) hK5)
          ((first
            | (go_at_call 36; (with_reducible refine (HC1.out _ (by assumption)).mono ?_); rintro e w3 ⟨⟨A3, c3, rfl, hown3⟩, hK3⟩)
            | (go_at_call 36; (with_reducible refine (HC2.out _ (by assumption)).mono ?_); rintro e w4 ⟨⟨A4, c4, rfl, hown4⟩, hK4⟩)
            | (go_at_call 71; refine (pair_any _ _ A3 A4 32 c3 32 c4 _ _ _ ((Row.of_own hown3).new hK4) (own_cap hown3) (Row.of_own hown4) (own_cap hown4) (by omega)).mono ?_; rintro e w5 ⟨⟨A5, c5, rfl, hown5⟩, hK5⟩)))
        have hN5 : New w w5 := by assumption
        have hsz : w.heap.size ≤ w4.heap.size := Nat.le_trans hK3.size hK4.size
        clear hK3 hK4 hown3 hown4 hK5
        go_wp2_with fail
        go_ret
        exact ⟨⟨_, _, rfl, by rw [HR.out]; exact own_base hown5 hsz⟩, hN5⟩
end Go.Proofs.YtpbbfbgmpidgnaaDoor
