/-
  PROVED HERE: what merkle.path and permafrostref6.Path answer; condition: fewer than 2^40 bytes in all.
-/
import Derived.Test.YtfegdgaanmcecaaGreatDoorPkN24
namespace Go.Proofs.YtfegdgaanmcecaaGreatDoor
open Go.RowKit
def pathIn : Nat → List (List UInt8) → Nat → List (List UInt8)
 | 0, _, _ => []
 | f + 1, ls, i => if ls.length < 2 then [] else if i < partN ls.length then pathIn f (ls.take (partN ls.length)) i ++ [rootOf (ls.drop (partN ls.length))] else pathIn f (ls.drop (partN ls.length)) (i - partN ls.length) ++ [rootOf (ls.take (partN ls.length))]
def pathOf (ls : List (List UInt8)) (i : Nat) : List (List UInt8) := pathIn (ls.length + 1) ls i
theorem pathIn_fuel : ∀ (f g : Nat) (ls : List (List UInt8)) (i : Nat), ls.length < f → ls.length < g → pathIn f ls i = pathIn g ls i
 | 0, _, _, _, h, _ => absurd h (by omega)
 | _ + 1, 0, _, _, _, h => absurd h (by omega)
 | f + 1, g + 1, ls, i, hf, hg => by
  unfold pathIn
  by_cases h0 : ls.length < 2
  ·rw [if_pos h0, if_pos h0]
  ·have hp := partN_lt (n := ls.length) (by omega)
   have hq := partN_pos ls.length
   rw [if_neg h0, if_neg h0]
   rw [pathIn_fuel f g (ls.take (partN ls.length)) i (by rw [List.length_take]; omega) (by rw [List.length_take]; omega),
    pathIn_fuel f g (ls.drop (partN ls.length)) (i - partN ls.length) (by rw [List.length_drop]; omega) (by rw [List.length_drop]; omega)]
theorem pathOf_few (ls : List (List UInt8)) (i : Nat) (h : ls.length < 2) : pathOf ls i = [] := by
 unfold pathOf
 rw [pathIn, if_pos h]
theorem pathOf_left (ls : List (List UInt8)) (i : Nat) (h : 2 ≤ ls.length) (hi : i < partN ls.length) : pathOf ls i = pathOf (ls.take (partN ls.length)) i ++ [rootOf (ls.drop (partN ls.length))] := by
 have hp := partN_lt h
 unfold pathOf
 rw [pathIn, if_neg (by omega), if_pos hi, pathIn_fuel ls.length ((ls.take (partN ls.length)).length + 1) (ls.take (partN ls.length)) i (by rw [List.length_take]; omega) (by omega)]
theorem pathOf_right (ls : List (List UInt8)) (i : Nat) (h : 2 ≤ ls.length) (hi : ¬ i < partN ls.length) : pathOf ls i = pathOf (ls.drop (partN ls.length)) (i - partN ls.length) ++ [rootOf (ls.take (partN ls.length))] := by
 have hp := partN_lt h
 have hq := partN_pos ls.length
 unfold pathOf
 rw [pathIn, if_neg (by omega), if_neg hi, pathIn_fuel ls.length ((ls.drop (partN ls.length)).length + 1) (ls.drop (partN ls.length)) (i - partN ls.length) (by rw [List.length_drop]; omega) (by omega)]
theorem pathOf_le (ls : List (List UInt8)) (i : Nat) : (pathOf ls i).length ≤ ls.length := by
 unfold pathOf
 generalize ls.length + 1 = f
 induction f generalizing ls i with
 | zero => simp [pathIn]
 | succ f ih =>
  rw [pathIn]
  split
  ·simp
  ·have hp := partN_lt (n := ls.length) (by omega)
   have hq := partN_pos ls.length
   split
   ·have := ih (ls.take (partN ls.length)) i
    rw [List.length_take] at this
    rw [List.length_append, List.length_singleton]
    omega
   ·have := ih (ls.drop (partN ls.length)) (i - partN ls.length)
    rw [List.length_drop] at this
    rw [List.length_append, List.length_singleton]
    omega
theorem img_root {w w' : World} {base : Nat} {A : Option Addr} {c : Nat} {r : List UInt8} {D : Nat → Prop} (h : OwnB w base 5 A 32 c r) (hr : r.length = 32) (hk : New w w') (hD : ∀ b, base ≤ b → b < w.heap.size → D b) :
  ∀ k (hk : k < [r].length), ImgAt w' D [.slice A 32 c] k [r][k] := by
 intro k hk'
 obtain rfl : k = 0 := by simpa using hk'
 refine ⟨A, c, by show some _ = some (Value.slice A r.length c); rw [hr], by show r.length ≤ c; rw [hr]; exact own_cap h, own_capMax h, ?_⟩
 show Bs w' D A r.length r
 rw [hr]
 exact Row.new ((Row.of_own h).imp fun b hb hd => hD b hd hb) hk
set_option maxRecDepth 100000 in
set_option maxHeartbeats 2000000 in
theorem path_any (n : Nat) : ∀ (D : Nat → Prop) (A : Option Addr) (c : Nat) (ls : List (List UInt8)) (i : Nat) (w : World) (_hB : Bss w D A n ls) (_hc : n ≤ c) (_hb : ls.flatten.length ≤ 1099511620000) (_hn : n ≤ 1099511620000) (_hc9 : c ≤ 9223372036854775807) (_hi : i ≤ 4611686018427387904),
  Calls Tryz.prog 94 #[.slice A n c, .int .i64 (i : Int)] w fun e w' => (∃ A' c', e = .returned (.slice A' (pathOf ls i).length c') ∧ OwnImgs w' w.heap.size (fun b => w.heap.size ≤ b) A' (pathOf ls i).length c' (pathOf ls i)) ∧ New w w' := by
 induction n using Nat.strongRecOn with
 | _ n ih =>
  intro D A c ls i w hB hc hb hn hc9 hi
  have hl := hB.len
  have IH := Lib.hid ih
  clear ih
  by_cases h2 : n < 2
  ·rw [pathOf_few ls i (by omega)]
   have e1 : (n : Int) < 2 := by omega
   clear hB IH hl hb
   go_enter Tryz.func94, Tryz.ntmps94
   go_wp2_with fail
   go_ret
   exact ⟨⟨none, 0, rfl, OwnImgs.nil _ _ _⟩, New.refl _⟩
  ·have h2 : 2 ≤ n := by omega
   have hp := partN_lt h2
   have hq := partN_pos n
   have e1 : ¬ (n : Int) < 2 := by omega
   have HPA := Lib.hid (fun w' => part_any n w' h2 (by omega))
   have hB1 := hB.cutTo (k := partN n) (by omega)
   have hB2 := hB.from_ (k := partN n) (by omega)
   have hf1 : (ls.take (partN n)).flatten.length ≤ 1099511620000 := by
    have h := congrArg (fun l : List (List UInt8) => l.flatten.length) (List.take_append_drop (partN n) ls)
    simp only [List.flatten_append, List.length_append] at h; omega
   have hf2 : (ls.drop (partN n)).flatten.length ≤ 1099511620000 := by
    have h := congrArg (fun l : List (List UInt8) => l.flatten.length) (List.take_append_drop (partN n) ls)
    simp only [List.flatten_append, List.length_append] at h; omega
   by_cases hik : i < partN n
   ·skip
    have HR := Lib.hid (pathOf_left ls i (by omega) (by rw [hl]; exact hik))
    rw [hl] at HR
    have hrl := rootOf_length (ls.drop (partN n))
    generalize partN n = k at *
    have HC1 : Hid (∀ w', New w w' → Calls Tryz.prog 94 #[.slice A k c, .int .i64 ((i : Nat) : Int)] w' fun e w'' => (∃ A' c', e = .returned (.slice A' (pathOf (ls.take k) i).length c') ∧ OwnImgs w'' w'.heap.size (fun b => w'.heap.size ≤ b) A' (pathOf (ls.take k) i).length c' (pathOf (ls.take k) i)) ∧ New w' w'') := Lib.hid fun w' hN => IH.out k hp D A c _ i w' (hB1.keep hN (fun _ _ _ => trivial)) (by omega) hf1 (by omega) hc9 hi
    have HC2 : Hid (∀ w', New w w' → Calls Tryz.prog 92 #[.slice (Option.map (fun x => x.add k) A) (n - k) (c - k)] w' fun e w'' => (∃ A' c', e = .returned (.slice A' 32 c') ∧ OwnB w'' w'.heap.size 5 A' 32 c' (rootOf (ls.drop k))) ∧ New w' w'') := Lib.hid fun w' hN => root_any (n - k) D _ (c - k) _ w' (hB2.keep hN (fun _ _ _ => trivial)) (by omega) hf2 (by omega) (by omega)
    have hpl : (pathOf (ls.take k) i).length ≤ n := Nat.le_trans (pathOf_le _ _) (by rw [List.length_take]; omega)
    generalize pathOf (ls.take k) i = ps at *
    generalize rootOf (ls.drop k) = rt at *
    have b1 : (0 : Int) ≤ (k : Int) := by omega
    have b2 : (k : Int) ≤ n := by omega
    have b3 : (k : Int) ≤ c := by omega
    have b4 : (n : Int) ≤ c := by omega
    have b5 : ¬ c = k := by omega
    have b6 : (i : Int) < k := by omega
    clear hB hB1 hB2 IH hl hf1 hf2 hb hik
    go_enter Tryz.func94, Tryz.ntmps94
    go_wp2_with fail
    refine (HPA.out _).mono ?_
    rintro e w1 ⟨rfl, rfl⟩
    go_wp2_with fail
    refine hold_beginS (Keep (Lo w.heap.size) w.drew) (by kernel_rfl) ?_
    have n0 : Keep (Lo w.heap.size) w.drew w.drew := Keep.refl _ _
    refine take0 0 n0 ?_
    refine take0 1 n0 ?_
    refine take0 2 n0 ?_
    refine take0 3 n0 ?_
    refine take0 5 n0 ?_
    refine take0 6 n0 ?_
    refine take0 7 n0 ?_
    refine hold_step0 (i := 4) (by kernel_rfl) rfl rfl (fun K hK => ?_)
    go_simp
    refine (HC1.out _ ((New.refl w).drew)).mono ?_
    rintro e w3 ⟨⟨A3, c3, rfl, o3⟩, k3⟩
    go_wp2_with fail
    have n1 := Keep.new n0 k3
    refine hK.out _ _ n1 ?_
    clear hK K
    try simp only [Act.put, ly1, ly2, ly3, ly4, ly5, ly6]
    replace n0 := n1
    clear n1
    refine hold_step0 (i := 8) (by kernel_rfl) rfl rfl (fun K hK => ?_)
    go_simp
    refine (HC2.out _ (((New.refl w).drew).new k3)).mono ?_
    rintro e w4 ⟨⟨A4, c4, rfl, o4⟩, k4⟩
    go_wp2_with fail
    have n1 := Keep.new n0 k4
    refine hK.out _ _ n1 ?_
    clear hK K
    try simp only [Act.put, ly1, ly2, ly3, ly4, ly5, ly6]
    replace n0 := n1
    clear n1
    refine hold_step0 (i := 9) (by kernel_rfl) rfl rfl (fun K hK => ?_)
    go_simp
    have k5 := (New.refl w4).alloc (.cells #[.slice A4 32 c4] 31); have h5 := Row.made1 w4 31 (.slice A4 32 c4)
    go_wp2_with fail
    have n1 := Keep.new n0 k5
    refine hK.out _ _ n1 ?_
    clear hK K
    try simp only [Act.put, ly1, ly2, ly3, ly4, ly5, ly6]
    replace n0 := n1
    clear n1
    have hs3 : w.heap.size ≤ w3.heap.size := k3.size
    have hy5 := img_root (D := fun b => w.heap.size ≤ b ∧ some b ≠ blk A3) o4 hrl k5 (fun b hb _ => ⟨Nat.le_trans hs3 hb, fun e => by have := (o3.lt b e.symm).2; omega⟩)
    have o5 := (o3.new k4).new k5
    have hbd : ps.length + 1 ≤ 1099511627776 := by omega
    refine hold_step0 (i := 10) (by kernel_rfl) rfl rfl (fun K hK => ?_)
    refine wp_imgsM _ _ _ rfl w.heap.size (fun b => w.heap.size ≤ b) A3 ps.length c3 ps rfl o5 _ _ 1 1 _ [rt] rfl h5 rfl hy5 hbd n0.size ?_
    intro A6 c6 w6 o6 hg6 hbk6
    have n1 := n0.grown hg6 (fun j hj hd => absurd hd (by have h : w.heap.size ≤ j := (o5.lt j hj).1; show ¬ j < w.heap.size; omega))
    refine hK.out _ _ n1 ?_
    clear hK K
    try simp only [Act.put, ly1, ly2, ly3, ly4, ly5, ly6]
    replace n0 := n1
    clear n1
    refine take0 11 n0 ?_
    refine wpAnyH_done (by kernel_rfl) ?_ _
    have hN : New w w6 := (Keep.trans2 (D := fun b => b < w.heap.size) (Keep.of_new ((New.refl w).drew)) n0 (fun i _ hi => hi)).toNew (fun i hi => hi)
    clear n0
    go_wp2_with fail
    go_ret
    exact ⟨⟨A6, c6, by rw [HR.out, List.length_append]; rfl, by rw [HR.out, List.length_append]; exact o6⟩, hN⟩
   ·skip
    have HR := Lib.hid (pathOf_right ls i (by omega) (by rw [hl]; exact hik))
    rw [hl] at HR
    have hrl := rootOf_length (ls.take (partN n))
    generalize partN n = k at *
    have HC1 : Hid (∀ w', New w w' → Calls Tryz.prog 94 #[.slice (Option.map (fun x => x.add k) A) (n - k) (c - k), .int .i64 (((i - k : Nat)) : Int)] w' fun e w'' => (∃ A' c', e = .returned (.slice A' (pathOf (ls.drop k) (i - k)).length c') ∧ OwnImgs w'' w'.heap.size (fun b => w'.heap.size ≤ b) A' (pathOf (ls.drop k) (i - k)).length c' (pathOf (ls.drop k) (i - k))) ∧ New w' w'') := Lib.hid fun w' hN => IH.out (n - k) (by omega) D _ (c - k) _ (i - k) w' (hB2.keep hN (fun _ _ _ => trivial)) (by omega) hf2 (by omega) (by omega) (by omega)
    have HC2 : Hid (∀ w', New w w' → Calls Tryz.prog 92 #[.slice A k c] w' fun e w'' => (∃ A' c', e = .returned (.slice A' 32 c') ∧ OwnB w'' w'.heap.size 5 A' 32 c' (rootOf (ls.take k))) ∧ New w' w'') := Lib.hid fun w' hN => root_any k D A c _ w' (hB1.keep hN (fun _ _ _ => trivial)) (by omega) hf1 (by omega) hc9
    have hpl : (pathOf (ls.drop k) (i - k)).length ≤ n := Nat.le_trans (pathOf_le _ _) (by rw [List.length_drop]; omega)
    generalize pathOf (ls.drop k) (i - k) = ps at *
    generalize rootOf (ls.take k) = rt at *
    have b1 : (0 : Int) ≤ (k : Int) := by omega
    have b2 : (k : Int) ≤ n := by omega
    have b3 : (k : Int) ≤ c := by omega
    have b4 : (n : Int) ≤ c := by omega
    have b5 : ¬ c = k := by omega
    have b6 : ¬ (i : Int) < k := by omega
    have b7 : IntKind.i64.wrap ((i : Int) - k) = ((i - k : Nat) : Int) := by rw [IntWalk.i64_in _ (by omega)]; omega
    clear hB hB1 hB2 IH hl hf1 hf2 hb hik
    go_enter Tryz.func94, Tryz.ntmps94
    go_wp2_with fail
    refine (HPA.out _).mono ?_
    rintro e w1 ⟨rfl, rfl⟩
    go_wp2_with fail
    refine hold_beginS (Keep (Lo w.heap.size) w.drew) (by kernel_rfl) ?_
    have n0 : Keep (Lo w.heap.size) w.drew w.drew := Keep.refl _ _
    refine take0 0 n0 ?_
    refine take0 1 n0 ?_
    refine take0 2 n0 ?_
    refine take0 3 n0 ?_
    refine take0 4 n0 ?_
    refine take0 5 n0 ?_
    refine take0 7 n0 ?_
    refine take0 8 n0 ?_
    refine take0 9 n0 ?_
    refine hold_step0 (i := 6) (by kernel_rfl) rfl rfl (fun K hK => ?_)
    go_simp
    refine (HC1.out _ ((New.refl w).drew)).mono ?_
    rintro e w3 ⟨⟨A3, c3, rfl, o3⟩, k3⟩
    go_wp2_with fail
    have n1 := Keep.new n0 k3
    refine hK.out _ _ n1 ?_
    clear hK K
    try simp only [Act.put, ly1, ly2, ly3, ly4, ly5, ly6]
    replace n0 := n1
    clear n1
    refine hold_step0 (i := 10) (by kernel_rfl) rfl rfl (fun K hK => ?_)
    go_simp
    refine (HC2.out _ (((New.refl w).drew).new k3)).mono ?_
    rintro e w4 ⟨⟨A4, c4, rfl, o4⟩, k4⟩
    go_wp2_with fail
    have n1 := Keep.new n0 k4
    refine hK.out _ _ n1 ?_
    clear hK K
    try simp only [Act.put, ly1, ly2, ly3, ly4, ly5, ly6]
    replace n0 := n1
    clear n1
    refine hold_step0 (i := 11) (by kernel_rfl) rfl rfl (fun K hK => ?_)
    go_simp
    have k5 := (New.refl w4).alloc (.cells #[.slice A4 32 c4] 31); have h5 := Row.made1 w4 31 (.slice A4 32 c4)
    go_wp2_with fail
    have n1 := Keep.new n0 k5
    refine hK.out _ _ n1 ?_
    clear hK K
    try simp only [Act.put, ly1, ly2, ly3, ly4, ly5, ly6]
    replace n0 := n1
    clear n1
    have hs3 : w.heap.size ≤ w3.heap.size := k3.size
    have hy5 := img_root (D := fun b => w.heap.size ≤ b ∧ some b ≠ blk A3) o4 hrl k5 (fun b hb _ => ⟨Nat.le_trans hs3 hb, fun e => by have := (o3.lt b e.symm).2; omega⟩)
    have o5 := (o3.new k4).new k5
    have hbd : ps.length + 1 ≤ 1099511627776 := by omega
    refine hold_step0 (i := 12) (by kernel_rfl) rfl rfl (fun K hK => ?_)
    refine wp_imgsM _ _ _ rfl w.heap.size (fun b => w.heap.size ≤ b) A3 ps.length c3 ps rfl o5 _ _ 1 1 _ [rt] rfl h5 rfl hy5 hbd n0.size ?_
    intro A6 c6 w6 o6 hg6 hbk6
    have n1 := n0.grown hg6 (fun j hj hd => absurd hd (by have h : w.heap.size ≤ j := (o5.lt j hj).1; show ¬ j < w.heap.size; omega))
    refine hK.out _ _ n1 ?_
    clear hK K
    try simp only [Act.put, ly1, ly2, ly3, ly4, ly5, ly6]
    replace n0 := n1
    clear n1
    refine take0 13 n0 ?_
    refine wpAnyH_done (by kernel_rfl) ?_ _
    have hN : New w w6 := (Keep.trans2 (D := fun b => b < w.heap.size) (Keep.of_new ((New.refl w).drew)) n0 (fun i _ hi => hi)).toNew (fun i hi => hi)
    clear n0
    go_wp2_with fail
    go_ret
    exact ⟨⟨A6, c6, by rw [HR.out, List.length_append]; rfl, by rw [HR.out, List.length_append]; exact o6⟩, hN⟩
set_option maxRecDepth 100000 in
set_option maxHeartbeats 2000000 in
theorem path6_any (n : Nat) : ∀ (D : Nat → Prop) (A : Option Addr) (c : Nat) (ls : List (List UInt8)) (i : Nat) (w : World) (_hB : Bss w D A n ls) (_hc : n ≤ c) (_hb : ls.flatten.length ≤ 1099511620000) (_hn : n ≤ 1099511620000) (_hc9 : c ≤ 9223372036854775807) (_hi : i ≤ 4611686018427387904),
  Calls Tryz.prog 51 #[.slice A n c, .int .i64 (i : Int)] w fun e w' => (∃ A' c', e = .returned (.slice A' (pathOf ls i).length c') ∧ OwnImgs w' w.heap.size (fun b => w.heap.size ≤ b) A' (pathOf ls i).length c' (pathOf ls i)) ∧ New w w' := by
 induction n using Nat.strongRecOn with
 | _ n ih =>
  intro D A c ls i w hB hc hb hn hc9 hi
  have hl := hB.len
  have IH := Lib.hid ih
  clear ih
  by_cases h2 : n < 2
  ·rw [pathOf_few ls i (by omega)]
   have e1 : (n : Int) < 2 := by omega
   clear hB IH hl hb
   go_enter Tryz.func51, Tryz.ntmps51
   go_wp2_with fail
   go_ret
   exact ⟨⟨none, 0, rfl, OwnImgs.nil _ _ _⟩, New.refl _⟩
  ·have h2 : 2 ≤ n := by omega
   have hp := partN_lt h2
   have hq := partN_pos n
   have e1 : ¬ (n : Int) < 2 := by omega
   have HPA := Lib.hid (fun w' => part6_any n w' h2 (by omega))
   have hB1 := hB.cutTo (k := partN n) (by omega)
   have hB2 := hB.from_ (k := partN n) (by omega)
   have hf1 : (ls.take (partN n)).flatten.length ≤ 1099511620000 := by
    have h := congrArg (fun l : List (List UInt8) => l.flatten.length) (List.take_append_drop (partN n) ls)
    simp only [List.flatten_append, List.length_append] at h; omega
   have hf2 : (ls.drop (partN n)).flatten.length ≤ 1099511620000 := by
    have h := congrArg (fun l : List (List UInt8) => l.flatten.length) (List.take_append_drop (partN n) ls)
    simp only [List.flatten_append, List.length_append] at h; omega
   by_cases hik : i < partN n
   ·skip
    have HR := Lib.hid (pathOf_left ls i (by omega) (by rw [hl]; exact hik))
    rw [hl] at HR
    have hrl := rootOf_length (ls.drop (partN n))
    generalize partN n = k at *
    have HC1 : Hid (∀ w', New w w' → Calls Tryz.prog 51 #[.slice A k c, .int .i64 ((i : Nat) : Int)] w' fun e w'' => (∃ A' c', e = .returned (.slice A' (pathOf (ls.take k) i).length c') ∧ OwnImgs w'' w'.heap.size (fun b => w'.heap.size ≤ b) A' (pathOf (ls.take k) i).length c' (pathOf (ls.take k) i)) ∧ New w' w'') := Lib.hid fun w' hN => IH.out k hp D A c _ i w' (hB1.keep hN (fun _ _ _ => trivial)) (by omega) hf1 (by omega) hc9 hi
    have HC2 : Hid (∀ w', New w w' → Calls Tryz.prog 83 #[.slice (Option.map (fun x => x.add k) A) (n - k) (c - k)] w' fun e w'' => (∃ A' c', e = .returned (.slice A' 32 c') ∧ OwnB w'' w'.heap.size 5 A' 32 c' (rootOf (ls.drop k))) ∧ New w' w'') := Lib.hid fun w' hN => root6_any (n - k) D _ (c - k) _ w' (hB2.keep hN (fun _ _ _ => trivial)) (by omega) hf2 (by omega) (by omega)
    have hpl : (pathOf (ls.take k) i).length ≤ n := Nat.le_trans (pathOf_le _ _) (by rw [List.length_take]; omega)
    generalize pathOf (ls.take k) i = ps at *
    generalize rootOf (ls.drop k) = rt at *
    have b1 : (0 : Int) ≤ (k : Int) := by omega
    have b2 : (k : Int) ≤ n := by omega
    have b3 : (k : Int) ≤ c := by omega
    have b4 : (n : Int) ≤ c := by omega
    have b5 : ¬ c = k := by omega
    have b6 : (i : Int) < k := by omega
    clear hB hB1 hB2 IH hl hf1 hf2 hb hik
    go_enter Tryz.func51, Tryz.ntmps51
    go_wp2_with fail
    refine (HPA.out _).mono ?_
    rintro e w1 ⟨rfl, rfl⟩
    go_wp2_with fail
    refine hold_beginS (Keep (Lo w.heap.size) w.drew) (by kernel_rfl) ?_
    have n0 : Keep (Lo w.heap.size) w.drew w.drew := Keep.refl _ _
    refine take0 0 n0 ?_
    refine take0 1 n0 ?_
    refine take0 2 n0 ?_
    refine take0 3 n0 ?_
    refine take0 5 n0 ?_
    refine take0 6 n0 ?_
    refine take0 7 n0 ?_
    refine hold_step0 (i := 4) (by kernel_rfl) rfl rfl (fun K hK => ?_)
    go_simp
    refine (HC1.out _ ((New.refl w).drew)).mono ?_
    rintro e w3 ⟨⟨A3, c3, rfl, o3⟩, k3⟩
    go_wp2_with fail
    have n1 := Keep.new n0 k3
    refine hK.out _ _ n1 ?_
    clear hK K
    try simp only [Act.put, ly1, ly2, ly3, ly4, ly5, ly6]
    replace n0 := n1
    clear n1
    refine hold_step0 (i := 8) (by kernel_rfl) rfl rfl (fun K hK => ?_)
    go_simp
    refine (HC2.out _ (((New.refl w).drew).new k3)).mono ?_
    rintro e w4 ⟨⟨A4, c4, rfl, o4⟩, k4⟩
    go_wp2_with fail
    have n1 := Keep.new n0 k4
    refine hK.out _ _ n1 ?_
    clear hK K
    try simp only [Act.put, ly1, ly2, ly3, ly4, ly5, ly6]
    replace n0 := n1
    clear n1
    refine hold_step0 (i := 9) (by kernel_rfl) rfl rfl (fun K hK => ?_)
    go_simp
    have k5 := (New.refl w4).alloc (.cells #[.slice A4 32 c4] 31); have h5 := Row.made1 w4 31 (.slice A4 32 c4)
    go_wp2_with fail
    have n1 := Keep.new n0 k5
    refine hK.out _ _ n1 ?_
    clear hK K
    try simp only [Act.put, ly1, ly2, ly3, ly4, ly5, ly6]
    replace n0 := n1
    clear n1
    have hs3 : w.heap.size ≤ w3.heap.size := k3.size
    have hy5 := img_root (D := fun b => w.heap.size ≤ b ∧ some b ≠ blk A3) o4 hrl k5 (fun b hb _ => ⟨Nat.le_trans hs3 hb, fun e => by have := (o3.lt b e.symm).2; omega⟩)
    have o5 := (o3.new k4).new k5
    have hbd : ps.length + 1 ≤ 1099511627776 := by omega
    refine hold_step0 (i := 10) (by kernel_rfl) rfl rfl (fun K hK => ?_)
    refine wp_imgsM _ _ _ rfl w.heap.size (fun b => w.heap.size ≤ b) A3 ps.length c3 ps rfl o5 _ _ 1 1 _ [rt] rfl h5 rfl hy5 hbd n0.size ?_
    intro A6 c6 w6 o6 hg6 hbk6
    have n1 := n0.grown hg6 (fun j hj hd => absurd hd (by have h : w.heap.size ≤ j := (o5.lt j hj).1; show ¬ j < w.heap.size; omega))
    refine hK.out _ _ n1 ?_
    clear hK K
    try simp only [Act.put, ly1, ly2, ly3, ly4, ly5, ly6]
    replace n0 := n1
    clear n1
    refine take0 11 n0 ?_
    refine wpAnyH_done (by kernel_rfl) ?_ _
    have hN : New w w6 := (Keep.trans2 (D := fun b => b < w.heap.size) (Keep.of_new ((New.refl w).drew)) n0 (fun i _ hi => hi)).toNew (fun i hi => hi)
    clear n0
    go_wp2_with fail
    go_ret
    exact ⟨⟨A6, c6, by rw [HR.out, List.length_append]; rfl, by rw [HR.out, List.length_append]; exact o6⟩, hN⟩
   ·skip
    have HR := Lib.hid (pathOf_right ls i (by omega) (by rw [hl]; exact hik))
    rw [hl] at HR
    have hrl := rootOf_length (ls.take (partN n))
    generalize partN n = k at *
    have HC1 : Hid (∀ w', New w w' → Calls Tryz.prog 51 #[.slice (Option.map (fun x => x.add k) A) (n - k) (c - k), .int .i64 (((i - k : Nat)) : Int)] w' fun e w'' => (∃ A' c', e = .returned (.slice A' (pathOf (ls.drop k) (i - k)).length c') ∧ OwnImgs w'' w'.heap.size (fun b => w'.heap.size ≤ b) A' (pathOf (ls.drop k) (i - k)).length c' (pathOf (ls.drop k) (i - k))) ∧ New w' w'') := Lib.hid fun w' hN => IH.out (n - k) (by omega) D _ (c - k) _ (i - k) w' (hB2.keep hN (fun _ _ _ => trivial)) (by omega) hf2 (by omega) (by omega) (by omega)
    have HC2 : Hid (∀ w', New w w' → Calls Tryz.prog 83 #[.slice A k c] w' fun e w'' => (∃ A' c', e = .returned (.slice A' 32 c') ∧ OwnB w'' w'.heap.size 5 A' 32 c' (rootOf (ls.take k))) ∧ New w' w'') := Lib.hid fun w' hN => root6_any k D A c _ w' (hB1.keep hN (fun _ _ _ => trivial)) (by omega) hf1 (by omega) hc9
    have hpl : (pathOf (ls.drop k) (i - k)).length ≤ n := Nat.le_trans (pathOf_le _ _) (by rw [List.length_drop]; omega)
    generalize pathOf (ls.drop k) (i - k) = ps at *
    generalize rootOf (ls.take k) = rt at *
    have b1 : (0 : Int) ≤ (k : Int) := by omega
    have b2 : (k : Int) ≤ n := by omega
    have b3 : (k : Int) ≤ c := by omega
    have b4 : (n : Int) ≤ c := by omega
    have b5 : ¬ c = k := by omega
    have b6 : ¬ (i : Int) < k := by omega
    have b7 : IntKind.i64.wrap ((i : Int) - k) = ((i - k : Nat) : Int) := by rw [IntWalk.i64_in _ (by omega)]; omega
    clear hB hB1 hB2 IH hl hf1 hf2 hb hik
    go_enter Tryz.func51, Tryz.ntmps51
    go_wp2_with fail
    refine (HPA.out _).mono ?_
    rintro e w1 ⟨rfl, rfl⟩
    go_wp2_with fail
    refine hold_beginS (Keep (Lo w.heap.size) w.drew) (by kernel_rfl) ?_
    have n0 : Keep (Lo w.heap.size) w.drew w.drew := Keep.refl _ _
    refine take0 0 n0 ?_
    refine take0 1 n0 ?_
    refine take0 2 n0 ?_
    refine take0 3 n0 ?_
    refine take0 4 n0 ?_
    refine take0 5 n0 ?_
    refine take0 7 n0 ?_
    refine take0 8 n0 ?_
    refine take0 9 n0 ?_
    refine hold_step0 (i := 6) (by kernel_rfl) rfl rfl (fun K hK => ?_)
    go_simp
    refine (HC1.out _ ((New.refl w).drew)).mono ?_
    rintro e w3 ⟨⟨A3, c3, rfl, o3⟩, k3⟩
    go_wp2_with fail
    have n1 := Keep.new n0 k3
    refine hK.out _ _ n1 ?_
    clear hK K
    try simp only [Act.put, ly1, ly2, ly3, ly4, ly5, ly6]
    replace n0 := n1
    clear n1
    refine hold_step0 (i := 10) (by kernel_rfl) rfl rfl (fun K hK => ?_)
    go_simp
    refine (HC2.out _ (((New.refl w).drew).new k3)).mono ?_
    rintro e w4 ⟨⟨A4, c4, rfl, o4⟩, k4⟩
    go_wp2_with fail
    have n1 := Keep.new n0 k4
    refine hK.out _ _ n1 ?_
    clear hK K
    try simp only [Act.put, ly1, ly2, ly3, ly4, ly5, ly6]
    replace n0 := n1
    clear n1
    refine hold_step0 (i := 11) (by kernel_rfl) rfl rfl (fun K hK => ?_)
    go_simp
    have k5 := (New.refl w4).alloc (.cells #[.slice A4 32 c4] 31); have h5 := Row.made1 w4 31 (.slice A4 32 c4)
    go_wp2_with fail
    have n1 := Keep.new n0 k5
    refine hK.out _ _ n1 ?_
    clear hK K
    try simp only [Act.put, ly1, ly2, ly3, ly4, ly5, ly6]
    replace n0 := n1
    clear n1
    have hs3 : w.heap.size ≤ w3.heap.size := k3.size
    have hy5 := img_root (D := fun b => w.heap.size ≤ b ∧ some b ≠ blk A3) o4 hrl k5 (fun b hb _ => ⟨Nat.le_trans hs3 hb, fun e => by have := (o3.lt b e.symm).2; omega⟩)
    have o5 := (o3.new k4).new k5
    have hbd : ps.length + 1 ≤ 1099511627776 := by omega
    refine hold_step0 (i := 12) (by kernel_rfl) rfl rfl (fun K hK => ?_)
    refine wp_imgsM _ _ _ rfl w.heap.size (fun b => w.heap.size ≤ b) A3 ps.length c3 ps rfl o5 _ _ 1 1 _ [rt] rfl h5 rfl hy5 hbd n0.size ?_
    intro A6 c6 w6 o6 hg6 hbk6
    have n1 := n0.grown hg6 (fun j hj hd => absurd hd (by have h : w.heap.size ≤ j := (o5.lt j hj).1; show ¬ j < w.heap.size; omega))
    refine hK.out _ _ n1 ?_
    clear hK K
    try simp only [Act.put, ly1, ly2, ly3, ly4, ly5, ly6]
    replace n0 := n1
    clear n1
    refine take0 13 n0 ?_
    refine wpAnyH_done (by kernel_rfl) ?_ _
    have hN : New w w6 := (Keep.trans2 (D := fun b => b < w.heap.size) (Keep.of_new ((New.refl w).drew)) n0 (fun i _ hi => hi)).toNew (fun i hi => hi)
    clear n0
    go_wp2_with fail
    go_ret
    exact ⟨⟨A6, c6, by rw [HR.out, List.length_append]; rfl, by rw [HR.out, List.length_append]; exact o6⟩, hN⟩
end Go.Proofs.YtfegdgaanmcecaaGreatDoor
