/-
  PROVED HERE: what permafrostref2.Leaf and Pair, permafrostref6.part and Root answer; condition: fewer than 2^40 bytes in all.
-/
import Derived.Test.YtpbbfbgmpidgnaaDoorRefSum
import Derived.Test.YtpbbfbgmpidgnaaDoorMerkle
import Derived.Test.YtpbbfbgmpidgnaaDoorMore
namespace Go.Proofs.YtpbbfbgmpidgnaaDoor
open Go.RowKit

theorem ownB_one (w : World) (a : UInt8) : OwnB (w.alloc (.cells #[.int .u8 (bv a)] 5)) w.heap.size 5 (some ⟨w.heap.size, 0, none⟩) 1 1 [a] := own_new w _ 1 1 _ rfl (by decide)
set_option maxRecDepth 100000 in
theorem leaf2_any (D : Nat → Prop) (A : Option Addr) (n c : Nat) (bs : List UInt8) (w : World) (hB : Bs w D A n bs) (hn : n ≤ 1099511620000) :
    Calls Tryd.prog 48 #[.slice A n c] w fun e w' => (∃ A' c', e = .returned (.slice A' 32 c') ∧ OwnB w' w.heap.size 5 A' 32 c' (shaSum (0 :: bs))) ∧ New w w' := by
  have hown0 : OwnB (w.alloc (.cells #[.int .u8 0] 5)) w.heap.size 5 (some ⟨w.heap.size, 0, none⟩) 1 1 [0] := ownB_one w 0
  have hK0 : New w (w.alloc (.cells #[.int .u8 0] 5)) := (New.refl w).alloc _
  have hB0 := hB.alloc (.cells #[.int .u8 0] 5)
  have hbd : 1 + n ≤ 140737488355328 := by omega
  have hbd2 : 1 + n ≤ 1099511627776 := by omega
  clear hB
  go_enter Tryd.func48, Tryd.ntmps48
  go_wp2_with (at_builtin; refine app_bytes _ rfl _ _ rfl w.heap.size _ 1 1 [0] rfl hown0 D A n c bs rfl hB0 hbd hK0.size ?_; intro A1 c1 w1 hown1 hg1 hbk1)
  have hK1 := new_app0 hK0 hown0 hg1
  clear hg1 hbk1 hB0 hown0 hK0
  refine (refsum_any _ A1 (1 + n) c1 _ w1 (Row.of_own hown1) hbd2).mono ?_
  rintro e w2 ⟨⟨A2, c2, rfl, hown2⟩, hK2⟩
  go_wp2_with fail
  go_ret
  exact ⟨⟨_, _, rfl, own_base hown2 hK1.size⟩, hK1.new hK2⟩
set_option maxRecDepth 100000 in
theorem pair2_any (D D2 : Nat → Prop) (A A2 : Option Addr) (n c n2 c2 : Nat) (bs bs2 : List UInt8) (w : World) (hB : Bs w D A n bs) (hB2 : Bs w D2 A2 n2 bs2) (hn : n + n2 ≤ 1099511620000) :
    Calls Tryd.prog 50 #[.slice A n c, .slice A2 n2 c2] w fun e w' => (∃ A' c', e = .returned (.slice A' 32 c') ∧ OwnB w' w.heap.size 5 A' 32 c' (shaSum (1 :: (bs ++ bs2)))) ∧ New w w' := by
  have hown0 : OwnB (w.alloc (.cells #[.int .u8 1] 5)) w.heap.size 5 (some ⟨w.heap.size, 0, none⟩) 1 1 [1] := ownB_one w 1
  have hK0 : New w (w.alloc (.cells #[.int .u8 1] 5)) := (New.refl w).alloc _
  have hB0 := hB.alloc (.cells #[.int .u8 1] 5)
  have hbd : 1 + n ≤ 140737488355328 := by omega
  have hbd1 : 1 + n + n2 ≤ 140737488355328 := by omega
  have hbd2 : 1 + n + n2 ≤ 1099511627776 := by omega
  clear hB
  go_enter Tryd.func50, Tryd.ntmps50
  go_wp2_with (first
    | (at_builtin; refine app_bytes _ rfl _ _ rfl w.heap.size _ 1 1 [1] rfl hown0 D A n c bs rfl hB0 hbd hK0.size ?_; intro A1 c1 w1 hown1 hg1 hbk1; have hK1 := new_app0 hK0 hown0 hg1; have hB1 := hB2.new hK1)
    | (at_builtin; refine app_bytes _ rfl _ _ rfl w.heap.size A1 (1 + n) c1 _ rfl hown1 D2 A2 n2 c2 bs2 rfl hB1 hbd1 hK1.size ?_; intro A3 c3 w3 hown3 hg3 hbk3))
  have hK3 := new_app0 hK1 hown1 hg3
  clear hg3 hbk3 hown1 hK1 hB1 hg1 hbk1 hB0 hown0 hK0
  refine (refsum_any _ A3 (1 + n + n2) c3 _ w3 (Row.of_own hown3) hbd2).mono ?_
  rintro e w2 ⟨⟨A2, c2, rfl, hown2⟩, hK2⟩
  go_wp2_with fail
  go_ret
  exact ⟨⟨_, _, rfl, by rw [show (1 :: (bs ++ bs2) : List UInt8) = ([1] ++ bs) ++ bs2 from rfl]; exact own_base hown2 hK3.size⟩, hK3.new hK2⟩
set_option maxRecDepth 100000 in
theorem part6_any (n : Nat) (w : World) (h2 : 2 ≤ n) (hn : n ≤ 1099511627776) :
    Calls Tryd.prog 49 #[.int .i64 n] w fun e w' => e = .returned (.int .i64 (partN n)) ∧ w = w' := by
  go_enter Tryd.func49, Tryd.ntmps49
  go_wp2_with fail
  go_loop [3] (fun s3 => ∃ k : Nat, (∃ j, k = 2 ^ j) ∧ k < n ∧ s3 = .int .i64 (k : Int)) (fun s3 => n - (intOf s3).toNat)
  case atStart => exact ⟨1, ⟨0, rfl⟩, by omega, rfl⟩
  case round =>
    obtain ⟨k, hj, hk, rfl⟩ := hrel
    have hpos : 0 < k := by obtain ⟨j, rfl⟩ := hj; exact Nat.pow_pos (by decide)
    have HJ := Lib.hid hj
    clear hj
    by_cases hlt : 2 * k < n
    · have hlt' : (2 : Int) * (k : Int) < (n : Int) := by omega
      go_wp2_with fail
      go_round
      case rel => exact ⟨2 * k, by obtain ⟨j, h⟩ := HJ.out; exact ⟨j + 1, by rw [Nat.pow_succ, ← h]; omega⟩, by omega, by go_num⟩
      case measure => simp [intOf]; omega
    · have hlt' : ¬ (2 : Int) * (k : Int) < (n : Int) := by omega
      go_wp2_with fail
      go_ret
      exact ⟨by obtain ⟨j, h⟩ := HJ.out; rw [h, ← partN_eq h2 (j := j) (by omega) (by omega)]; rfl, rfl⟩
set_option maxRecDepth 100000 in
set_option maxHeartbeats 2000000 in
theorem root6_any (n : Nat) : ∀ (D : Nat → Prop) (A : Option Addr) (c : Nat) (ls : List (List UInt8)) (w : World) (hB : Bss w D A n ls) (hc : n ≤ c) (hb : ls.flatten.length ≤ 1099511620000) (hn : n ≤ 1099511627776) (hc9 : c ≤ 9223372036854775807),
    Calls Tryd.prog 16 #[.slice A n c] w fun e w' => (∃ A' c', e = .returned (.slice A' 32 c') ∧ OwnB w' w.heap.size 5 A' 32 c' (rootOf ls)) ∧ New w w' := by
  induction n using Nat.strongRecOn with
  | _ n ih =>
    intro D A c ls w hB hc hb hn hc9
    have hl := hB.len
    have IH := Lib.hid ih
    clear ih
    by_cases h0 : n = 0
    · subst h0
      obtain rfl : ls = [] := List.eq_nil_of_length_eq_zero hl
      rw [rootOf_nil]
      have hnil : Bs w (fun _ => True) none 0 [] := Row.nil _ _ _ _
      go_enter Tryd.func16, Tryd.ntmps16
      go_wp2_with fail
      refine (refsum_any _ none 0 0 [] w hnil (by omega)).mono ?_
      rintro e w1 ⟨⟨A1, c1, rfl, hown⟩, hK⟩
      go_wp2_with fail
      go_ret
      exact ⟨⟨_, _, rfl, hown⟩, hK⟩
    · by_cases h1 : n = 1
      · subst h1
        obtain ⟨b, off, A', c', rfl, hcell, hcap, hbs⟩ := hB.at_ (k := 0) (by omega)
        rw [Nat.add_zero] at hcell
        have hx : ls = [ls[0]'(by omega)] := by
          match ls, hl with
          | [x], _ => rfl
        have hlen : (ls[0]'(by omega)).length ≤ 1099511620000 := by
          have := flatten_take_le ls 0 (by omega); omega
        generalize ls[0]'_ = x at *
        subst hx
        rw [rootOf_one]
        clear hB
        go_enter Tryd.func16, Tryd.ntmps16
        go_wp2_with fail
        refine (leaf2_any _ A' _ c' x w hbs hlen).mono ?_
        rintro e w1 ⟨⟨A1, c1, rfl, hown⟩, hK⟩
        go_wp2_with fail
        go_ret
        exact ⟨⟨_, _, rfl, hown⟩, hK⟩
      · have h2 : 2 ≤ n := by omega
        have hp := partN_lt h2
        have hq := partN_pos n
        have e0 : ((n : Int) == 0) = false := by simp; omega
        have e1 : ((n : Int) == 1) = false := by simp; omega
        have HR := Lib.hid (rootOf_more ls (by omega))
        rw [hl] at HR
        have HPA := Lib.hid (fun w' => part6_any n w' h2 (by omega))
        have hB1 := hB.cutTo (k := partN n) (by omega)
        have hB2 := hB.from_ (k := partN n) (by omega)
        have hf1 : (ls.take (partN n)).flatten.length ≤ 1099511620000 := by
          have h := congrArg (fun l : List (List UInt8) => l.flatten.length) (List.take_append_drop (partN n) ls)
          simp only [List.flatten_append, List.length_append] at h; omega
        have hf2 : (ls.drop (partN n)).flatten.length ≤ 1099511620000 := by
          have h := congrArg (fun l : List (List UInt8) => l.flatten.length) (List.take_append_drop (partN n) ls)
          simp only [List.flatten_append, List.length_append] at h; omega
        generalize partN n = k at *
        have HC1 : Hid (∀ w', New w w' → Calls Tryd.prog 16 #[.slice A k c] w' fun e w'' => (∃ A' c', e = .returned (.slice A' 32 c') ∧ OwnB w'' w'.heap.size 5 A' 32 c' (rootOf (ls.take k))) ∧ New w' w'') :=
          Lib.hid fun w' hN => IH.out k hp D A c _ w' (hB1.keep hN (fun _ _ _ => trivial)) (by omega) hf1 (by omega) hc9
        have HC2 : Hid (∀ w', New w w' → Calls Tryd.prog 16 #[.slice (Option.map (fun x => x.add k) A) (n - k) (c - k)] w' fun e w'' => (∃ A' c', e = .returned (.slice A' 32 c') ∧ OwnB w'' w'.heap.size 5 A' 32 c' (rootOf (ls.drop k))) ∧ New w' w'') :=
          Lib.hid fun w' hN => IH.out (n - k) (by omega) D _ (c - k) _ w' (hB2.keep hN (fun _ _ _ => trivial)) (by omega) hf2 (by omega) (by omega)
        have b1 : (0 : Int) ≤ (k : Int) := by omega
        have b2 : (k : Int) ≤ n := by omega
        have b3 : (k : Int) ≤ c := by omega
        have b4 : (n : Int) ≤ c := by omega
        have b5 : ¬ c = k := by omega
        clear hB hB1 hB2 IH hl hf1 hf2 hb
        go_enter Tryd.func16, Tryd.ntmps16
        go_wp2_with fail
        refine (HPA.out _).mono ?_
        rintro e w1 ⟨rfl, rfl⟩
        go_wp2_with fail
        go_region_held3 (fun w' => New w w') (first | exact New.refl w | exact (New.refl w).drew | exact Keep.new (by assumption) hK3 | exact Keep.new (by assumption) hK4 | exact Keep.new (by assumption) hK5)
          ((first
            | (go_at_call 16; (with_reducible refine (HC1.out _ (by assumption)).mono ?_); rintro e w3 ⟨⟨A3, c3, rfl, hown3⟩, hK3⟩)
            | (go_at_call 16; (with_reducible refine (HC2.out _ (by assumption)).mono ?_); rintro e w4 ⟨⟨A4, c4, rfl, hown4⟩, hK4⟩)
            | (go_at_call 50; refine (pair2_any _ _ A3 A4 32 c3 32 c4 _ _ _ ((Row.of_own hown3).new hK4) (Row.of_own hown4) (by omega)).mono ?_; rintro e w5 ⟨⟨A5, c5, rfl, hown5⟩, hK5⟩)))
        have hN5 : New w w5 := by assumption
        have hsz : w.heap.size ≤ w4.heap.size := Nat.le_trans hK3.size hK4.size
        clear hK3 hK4 hown3 hown4 hK5
        go_wp2_with fail
        go_ret
        exact ⟨⟨_, _, rfl, by rw [HR.out]; exact own_base hown5 hsz⟩, hN5⟩
end Go.Proofs.YtpbbfbgmpidgnaaDoor
