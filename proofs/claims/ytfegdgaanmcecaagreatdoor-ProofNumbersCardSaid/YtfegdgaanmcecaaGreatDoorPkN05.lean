/-
  PROVED HERE: texts that belong together, one behind the other; what each proves, and under which conditions, its own opening remark says: Concat, Merkle, Reader, Rd4.
-/
import Derived.Lib.SliceRun
import Derived.Test.YtfegdgaanmcecaaGreatDoorPkN04
/-
  PROVED HERE: what slices.Concat answers at rows of bytes; condition: fewer than 2^40 bytes in all.
-/
namespace Go.Proofs.YtfegdgaanmcecaaGreatDoor
open Go.RowKit
/-
  PROVED HERE: what merkle.part and merkle.Root answer; condition: fewer than 2^40 bytes in all.
-/
def partN (n : Nat) : Nat := 2 ^ (n - 1).log2
theorem partN_eq {n j : Nat} (h2 : 2 ≤ n) (h : 2 ^ j < n) (h' : n ≤ 2 ^ j + 2 ^ j) : 2 ^ j = partN n := by
 unfold partN
 rw [(Nat.log2_eq_iff (by omega)).2 ⟨(by omega : 2 ^ j ≤ n - 1), by rw [Nat.pow_succ]; omega⟩]
theorem partN_lt {n : Nat} (h : 2 ≤ n) : partN n < n := by
 have := Nat.log2_self_le (n := n - 1) (by omega); unfold partN; omega
theorem partN_pos (n : Nat) : 0 < partN n := Nat.pow_pos (by decide)
set_option maxRecDepth 100000 in
theorem part_any (n : Nat) (w : World) (h2 : 2 ≤ n) (hn : n ≤ 4611686018427387904) :
  Calls Tryz.prog 128 #[.int .i64 n] w fun e w' => e = .returned (.int .i64 (partN n)) ∧ w = w' := by
 go_enter Tryz.func128, Tryz.ntmps128
 go_wp2_with fail
 go_loop [3] (fun s3 => ∃ k : Nat, (∃ j, k = 2 ^ j) ∧ k < n ∧ s3 = .int .i64 (k : Int)) (fun s3 => n - (intOf s3).toNat)
 case atStart => exact ⟨1, ⟨0, rfl⟩, by omega, rfl⟩
 case round =>
  obtain ⟨k, hj, hk, rfl⟩ := hrel
  have hpos : 0 < k := by obtain ⟨j, rfl⟩ := hj; exact Nat.pow_pos (by decide)
  have HJ := Lib.hid hj
  clear hj
  by_cases hlt : k < n - k
  ·have hlt' : (k : Int) < (n : Int) - k := by omega
   go_wp2_with fail
   go_round
   case rel => exact ⟨k + k, by obtain ⟨j, h⟩ := HJ.out; exact ⟨j + 1, by rw [Nat.pow_succ, ← h]; omega⟩, by omega, by go_num⟩
   case measure => simp [intOf]; omega
  ·have hlt' : ¬ (k : Int) < (n : Int) - k := by omega
   go_wp2_with fail
   go_ret
   exact ⟨by obtain ⟨j, h⟩ := HJ.out; rw [h, ← partN_eq h2 (j := j) (by omega) (by omega)]; rfl, rfl⟩
def rootIn : Nat → List (List UInt8) → List UInt8
 | 0, _ => []
 | f + 1, ls => if ls.length = 0 then shaSum [] else if ls.length = 1 then shaSum (0 :: ls.getD 0 []) else shaSum (1 :: (rootIn f (ls.take (partN ls.length)) ++ rootIn f (ls.drop (partN ls.length))))
def rootOf (ls : List (List UInt8)) : List UInt8 := rootIn (ls.length + 1) ls
theorem rootIn_fuel : ∀ (f g : Nat) (ls : List (List UInt8)), ls.length < f → ls.length < g → rootIn f ls = rootIn g ls
 | 0, _, _, h, _ => absurd h (by omega)
 | _ + 1, 0, _, _, h => absurd h (by omega)
 | f + 1, g + 1, ls, hf, hg => by
  unfold rootIn
  by_cases h0 : ls.length = 0
  ·rw [if_pos h0, if_pos h0]
  ·by_cases h1 : ls.length = 1
   ·rw [if_neg h0, if_neg h0, if_pos h1, if_pos h1]
   ·rw [if_neg h0, if_neg h0, if_neg h1, if_neg h1]
    have hp := partN_lt (n := ls.length) (by omega)
    have hq := partN_pos ls.length
    rw [rootIn_fuel f g (ls.take (partN ls.length)) (by rw [List.length_take]; omega) (by rw [List.length_take]; omega),
     rootIn_fuel f g (ls.drop (partN ls.length)) (by rw [List.length_drop]; omega) (by rw [List.length_drop]; omega)]
theorem rootOf_nil : rootOf [] = shaSum [] := rfl
theorem rootOf_one (l : List UInt8) : rootOf [l] = shaSum (0 :: l) := rfl
theorem rootOf_more (ls : List (List UInt8)) (h : 2 ≤ ls.length) : rootOf ls = shaSum (1 :: (rootOf (ls.take (partN ls.length)) ++ rootOf (ls.drop (partN ls.length)))) := by
 have hp := partN_lt h
 have hq := partN_pos ls.length
 unfold rootOf
 rw [rootIn, if_neg (by omega), if_neg (by omega),
  rootIn_fuel ls.length ((ls.take (partN ls.length)).length + 1) (ls.take (partN ls.length)) (by rw [List.length_take]; omega) (by omega),
  rootIn_fuel ls.length ((ls.drop (partN ls.length)).length + 1) (ls.drop (partN ls.length)) (by rw [List.length_drop]; omega) (by omega)]
theorem rootOf_length (ls : List (List UInt8)) : (rootOf ls).length = 32 := by
 rcases Nat.lt_or_ge ls.length 2 with h | h
 ·match ls, h with
  | [], _ => rfl
  | [l], _ => rfl
 ·rw [rootOf_more ls h]; rfl
theorem Bss.cutTo {w : World} {D : Nat → Prop} {A : Option Addr} {n : Nat} {ls : List (List UInt8)} (h : Bss w D A n ls) {k : Nat} (hk : k ≤ n) : Bss w D A k (ls.take k) := by
 obtain ⟨vs, h1, h2, h3⟩ := h
 have := h1.cutTo (hi := k) hk
 rw [Nat.mul_one] at this
 refine ⟨vs.take k, this, by rw [List.length_take]; omega, fun i hi => ?_⟩
 have hi' : i < k := by rw [List.length_take] at hi; omega
 obtain ⟨A', c', e, hc, hb⟩ := h3 i (by omega)
 rw [List.getElem_take]
 exact ⟨A', c', by rw [List.getElem?_take, if_pos hi']; exact e, hc, hb⟩
theorem Bss.from_ {w : World} {D : Nat → Prop} {A : Option Addr} {n : Nat} {ls : List (List UInt8)} (h : Bss w D A n ls) {k : Nat} (hk : k ≤ n) : Bss w D (Option.map (fun x => x.add k) A) (n - k) (ls.drop k) := by
 obtain ⟨vs, h1, h2, h3⟩ := h
 have := h1.from_ (l := k) hk
 rw [Nat.mul_one] at this
 refine ⟨vs.drop k, this, by rw [List.length_drop]; omega, fun i hi => ?_⟩
 rw [List.length_drop] at hi
 obtain ⟨A', c', e, hc, hb⟩ := h3 (k + i) (by omega)
 rw [List.getElem_drop]
 exact ⟨A', c', by rw [List.getElem?_drop]; exact e, hc, hb⟩
set_option maxRecDepth 100000 in
set_option maxHeartbeats 2000000 in
theorem root_any (n : Nat) : ∀ (D : Nat → Prop) (A : Option Addr) (c : Nat) (ls : List (List UInt8)) (w : World) (_hB : Bss w D A n ls) (_hc : n ≤ c) (_hb : ls.flatten.length ≤ 1099511620000) (_hn : n ≤ 1099511627776) (_hc9 : c ≤ 9223372036854775807),
  Calls Tryz.prog 92 #[.slice A n c] w fun e w' => (∃ A' c', e = .returned (.slice A' 32 c') ∧ OwnB w' w.heap.size 5 A' 32 c' (rootOf ls)) ∧ New w w' := by
 induction n using Nat.strongRecOn with
 | _ n ih =>
  intro D A c ls w hB hc hb hn hc9
  have hl := hB.len
  have IH := Lib.hid ih
  clear ih
  by_cases h0 : n = 0
  ·subst h0
   obtain rfl : ls = [] := List.eq_nil_of_length_eq_zero hl
   rw [rootOf_nil]
   have hnil : Bs w (fun _ => True) none 0 [] := Row.nil _ _ _ _
   go_enter Tryz.func92, Tryz.ntmps92
   go_wp2_with fail
   refine (shaSum_any _ none 0 0 [] w hnil (Nat.le_refl _) (by omega)).mono ?_
   rintro e w1 ⟨⟨A1, c1, rfl, hown⟩, hK⟩
   go_wp2_with fail
   go_ret
   exact ⟨⟨_, _, rfl, hown⟩, hK⟩
  ·by_cases h1 : n = 1
   ·subst h1
    obtain ⟨b, off, A', c', rfl, hcell, hcap, hbs⟩ := hB.at_ (k := 0) (by omega)
    rw [Nat.add_zero] at hcell
    have hx : ls = [ls[0]'(by omega)] := by
     match ls, hl with
     | [x], _ => rfl
    have hlen : (ls[0]'(by omega)).length ≤ 1099511620000 := by
     have := flatten_take_le ls 0 (by omega); omega
    generalize ls[0]'_ = x at *
    subst hx
    rw [rootOf_one]
    clear hB
    go_enter Tryz.func92, Tryz.ntmps92
    go_wp2_with fail
    refine (leaf_any _ A' _ c' x w hbs hcap hlen).mono ?_
    rintro e w1 ⟨⟨A1, c1, rfl, hown⟩, hK⟩
    go_wp2_with fail
    go_ret
    exact ⟨⟨_, _, rfl, hown⟩, hK⟩
   ·have h2 : 2 ≤ n := by omega
    have hp := partN_lt h2
    have hq := partN_pos n
    have e0 : ((n : Int) == 0) = false := by simp; omega
    have e1 : ((n : Int) == 1) = false := by simp; omega
    have HR := Lib.hid (rootOf_more ls (by omega))
    rw [hl] at HR
    have HPA := Lib.hid (fun w' => part_any n w' h2 (by omega))
    have hB1 := hB.cutTo (k := partN n) (by omega)
    have hB2 := hB.from_ (k := partN n) (by omega)
    have hf1 : (ls.take (partN n)).flatten.length ≤ 1099511620000 := by
     have h := congrArg (fun l : List (List UInt8) => l.flatten.length) (List.take_append_drop (partN n) ls)
     simp only [List.flatten_append, List.length_append] at h; omega
    have hf2 : (ls.drop (partN n)).flatten.length ≤ 1099511620000 := by
     have h := congrArg (fun l : List (List UInt8) => l.flatten.length) (List.take_append_drop (partN n) ls)
     simp only [List.flatten_append, List.length_append] at h; omega
    generalize partN n = k at *
    have HC1 : Hid (∀ w', New w w' → Calls Tryz.prog 92 #[.slice A k c] w' fun e w'' => (∃ A' c', e = .returned (.slice A' 32 c') ∧ OwnB w'' w'.heap.size 5 A' 32 c' (rootOf (ls.take k))) ∧ New w' w'') :=
     Lib.hid fun w' hN => IH.out k hp D A c _ w' (hB1.keep hN (fun _ _ _ => trivial)) (by omega) hf1 (by omega) hc9
    have HC2 : Hid (∀ w', New w w' → Calls Tryz.prog 92 #[.slice (Option.map (fun x => x.add k) A) (n - k) (c - k)] w' fun e w'' => (∃ A' c', e = .returned (.slice A' 32 c') ∧ OwnB w'' w'.heap.size 5 A' 32 c' (rootOf (ls.drop k))) ∧ New w' w'') :=
     Lib.hid fun w' hN => IH.out (n - k) (by omega) D _ (c - k) _ w' (hB2.keep hN (fun _ _ _ => trivial)) (by omega) hf2 (by omega) (by omega)
    have b1 : (0 : Int) ≤ (k : Int) := by omega
    have b2 : (k : Int) ≤ n := by omega
    have b3 : (k : Int) ≤ c := by omega
    have b4 : (n : Int) ≤ c := by omega
    have b5 : ¬ c = k := by omega
    clear hB hB1 hB2 IH hl hf1 hf2 hb
    go_enter Tryz.func92, Tryz.ntmps92
    go_wp2_with fail
    refine (HPA.out _).mono ?_
    rintro e w1 ⟨rfl, rfl⟩
    go_wp2_with fail
    go_region_held3 (fun w' => New w w') (first | exact New.refl w | exact (New.refl w).drew | exact Keep.new (by assumption) hK3 | exact Keep.new (by assumption) hK4 | exact Keep.new (by assumption) hK5)
     ((first
      | (go_at_call 92; (with_reducible refine (HC1.out _ (by assumption)).mono ?_); rintro e w3 ⟨⟨A3, c3, rfl, hown3⟩, hK3⟩)
      | (go_at_call 92; (with_reducible refine (HC2.out _ (by assumption)).mono ?_); rintro e w4 ⟨⟨A4, c4, rfl, hown4⟩, hK4⟩)
      | (go_at_call 129; refine (pair_any _ _ A3 A4 32 c3 32 c4 _ _ _ ((Row.of_own hown3).new hK4) (own_cap hown3) (Row.of_own hown4) (own_cap hown4) (by omega)).mono ?_; rintro e w5 ⟨⟨A5, c5, rfl, hown5⟩, hK5⟩)))
    have hN5 : New w w5 := by assumption
    have hsz : w.heap.size ≤ w4.heap.size := Nat.le_trans hK3.size hK4.size
    clear hK3 hK4 hown3 hown4 hK5
    go_wp2_with fail
    go_ret
    exact ⟨⟨_, _, rfl, by rw [HR.out]; exact own_base hown5 hsz⟩, hN5⟩
/-
  PROVED HERE: what the program's codec.Reader does; conditions: fewer than 2^40 bytes.
-/
structure RdS where
 bs : List UInt8
 why : Int
def RdS.raw (s : RdS) (n : Int) : List UInt8 × RdS :=
 if s.why = 0 ∧ (s.bs.length : Int) < n then ([], ⟨s.bs, 10⟩)
 else if s.why ≠ 0 ∨ n < 1 then ([], s)
 else (s.bs.take n.toNat, ⟨s.bs.drop n.toNat, 0⟩)
theorem RdS.raw_end (s : RdS) (n : Int) (h : s.why = 0) (hn : (s.bs.length : Int) < n) : s.raw n = ([], ⟨s.bs, 10⟩) := by unfold RdS.raw; rw [if_pos ⟨h, hn⟩]
theorem RdS.raw_none (s : RdS) (n : Int) (h : s.why ≠ 0 ∨ n < 1) : s.raw n = ([], s) := by
 unfold RdS.raw
 rw [if_neg (by rintro ⟨h1, h2⟩; rcases h with h | h; exact h h1; omega), if_pos h]
theorem RdS.raw_some (s : RdS) (n : Int) (h : s.why = 0) (h1 : 1 ≤ n) (hn : n ≤ s.bs.length) : s.raw n = (s.bs.take n.toNat, ⟨s.bs.drop n.toNat, 0⟩) := by
 unfold RdS.raw
 rw [if_neg (by omega), if_neg (by omega)]
theorem RdS.raw_le (s : RdS) (n : Int) : (s.raw n).1.length ≤ s.bs.length ∧ (s.raw n).2.bs.length ≤ s.bs.length ∧ ((s.raw n).1.length : Int) ≤ max n 0 := by
 unfold RdS.raw
 split
 ·simp; omega
 ·split
  ·simp; omega
  ·simp only [List.length_take, List.length_drop]; omega
def beNat (bs : List UInt8) : Nat := bs.foldl (fun a b => a * 256 + b.toNat) 0
theorem beNat_snoc (bs : List UInt8) (b : UInt8) : beNat (bs ++ [b]) = beNat bs * 256 + b.toNat := by unfold beNat; rw [List.foldl_append]; rfl
theorem beNat_lt (bs : List UInt8) : beNat bs < 256 ^ bs.length := by
 have h : ∀ (l : List UInt8) (a : Nat), l.foldl (fun a b => a * 256 + b.toNat) a < (a + 1) * 256 ^ l.length := by
  intro l
  induction l with
  | nil => intro a; simp
  | cons b l ih =>
   intro a
   simp only [List.foldl_cons, List.length_cons]
   refine Nat.lt_of_lt_of_le (ih _) ?_
   rw [Nat.pow_succ, Nat.mul_comm (256 ^ l.length) 256, ← Nat.mul_assoc]
   exact Nat.mul_le_mul_right _ (by have := b.toNat_lt; omega)
 have := h bs 0
 simpa [beNat] using this
def RdS.num (s : RdS) (k : Nat) : Nat × RdS := (beNat (s.raw k).1, (s.raw k).2)
def RdS.lenRow (s : RdS) : List UInt8 × RdS := (s.num 2).2.raw (s.num 2).1
def RdS.left (s : RdS) : Nat := if s.why ≠ 0 then 0 else s.bs.length
structure Rd (w : World) (p : Nat) (s : RdS) : Prop where
 row : ∃ A m c, w.cell? ⟨p, 0, none⟩ = some (.slice A m c) ∧ m ≤ c ∧ c ≤ 9223372036854775807 ∧ Bs w (fun b => b ≠ p) A m s.bs
 why : w.cell? ⟨p, 1, none⟩ = some (.int .i64 s.why)
 free0 : w.frozen? ⟨p, 0, none⟩ = false
 free1 : w.frozen? ⟨p, 1, none⟩ = false
 bound : s.bs.length ≤ 1099511627776
theorem Rd.lt {w : World} {p : Nat} {s : RdS} (h : Rd w p s) : p < w.heap.size := World.block_lt_of_cell? w _ h.why
theorem Rd.keep {w w' : World} {p : Nat} {s : RdS} (h : Rd w p s) (hk : New w w') : Rd w' p s := by
 obtain ⟨A, m, c, h1, h2, h3, h4⟩ := h.row
 exact ⟨⟨A, m, c, hk.cell_some h1 trivial, h2, h3, h4.new hk⟩, hk.cell_some h.why trivial, (hk.frozen (p := ⟨p, 0, none⟩) h.lt trivial).trans h.free0, (hk.frozen (p := ⟨p, 1, none⟩) h.lt trivial).trans h.free1, h.bound⟩
set_option maxRecDepth 100000 in
theorem newReader_any (D : Nat → Prop) (A : Option Addr) (n c : Nat) (bs : List UInt8) (w : World) (hB : Bs w D A n bs) (hn : n ≤ 1099511627776) :
  Calls Tryz.prog 73 #[.slice A n c] w fun e w' => (∃ p, e = .returned (.pointer (some ⟨p, 0, none⟩)) ∧ w.heap.size ≤ p ∧ Rd w' p ⟨bs, 0⟩) ∧ New w w' := by
 have hl := hB.len
 have HC := Lib.hid (clone_bytes D A n c bs w hB (by omega))
 clear hB
 go_enter Tryz.func73, Tryz.ntmps73
 go_wp2_with fail
 refine HC.out.mono ?_
 rintro e w1 ⟨⟨A1, c1, rfl, hown⟩, hK1⟩
 go_wp2_with fail
 go_ret
 have hh := heap_alloc_new w1 (.cells #[.slice A1 n c1, .int .i64 0] 150)
 refine ⟨⟨w1.heap.size, rfl, hK1.size, ⟨⟨A1, n, c1, cellOf hh rfl, own_cap hown, own_capMax hown, ?_⟩, cellOf hh rfl, free_new w1 _ _ _, free_new w1 _ _ _, by show bs.length ≤ _; omega⟩⟩, hK1.alloc _⟩
 exact ((Row.of_own hown).imp (E := fun b => b ≠ w1.heap.size) (fun b hb _ => Nat.ne_of_lt hb)).alloc _
theorem setCell_free {w : World} {p q : Addr} {u : Value} (h : w.frozen? q = false) : (w.setCell p u).frozen? q = false := (World.frozen?_setCell _ _ _ _).trans h
theorem Rd.setWhy {w : World} {p : Nat} {s : RdS} (h : Rd w p s) (y : Int) : Rd (w.setCell ⟨p, 1, none⟩ (.int .i64 y)) p ⟨s.bs, y⟩ := by
 obtain ⟨A, m, c, h1, h2, h3, h4⟩ := h.row
 refine ⟨⟨A, m, c, ?_, h2, h3, h4.setCell (p := ⟨p, 1, none⟩) (fun h => h rfl) _⟩, World.cell?_setCell_same _ _ _ h.why, setCell_free h.free0, setCell_free h.free1, h.bound⟩
 rw [World.cell?_setCell_other _ _ _ _ (by intro hh; injection hh; omega)]; exact h1
theorem Rd.setRow {w : World} {p : Nat} {s : RdS} (h : Rd w p s) {A : Option Addr} {m c : Nat} {bs : List UInt8} (hB : Bs w (fun b => b ≠ p) A m bs) (hmc : m ≤ c) (hc : c ≤ 9223372036854775807) (hb : bs.length ≤ 1099511627776) :
  Rd (w.setCell ⟨p, 0, none⟩ (.slice A m c)) p ⟨bs, s.why⟩ := by
 obtain ⟨A1, m1, c1, h1, _⟩ := h.row
 refine ⟨⟨A, m, c, World.cell?_setCell_same _ _ _ h1, hmc, hc, hB.setCell (p := ⟨p, 0, none⟩) (fun h => h rfl) _⟩, ?_, setCell_free h.free0, setCell_free h.free1, hb⟩
 rw [World.cell?_setCell_other _ _ _ _ (by intro hh; injection hh; omega)]; exact h.why
set_option maxRecDepth 100000 in
theorem rraw_any (p : Nat) (s : RdS) (n : Int) (w : World) (hR : Rd w p s) :
  Calls Tryz.prog 78 #[.pointer (some ⟨p, 0, none⟩), .int .i64 n] w fun e w' =>
   (∃ A' c', e = .returned (.slice A' (s.raw n).1.length c') ∧ OwnB w' w.heap.size 5 A' (s.raw n).1.length c' (s.raw n).1) ∧ Rd w' p (s.raw n).2 ∧ Keep (fun b => b ≠ p) w w' := by
 obtain ⟨A, m, c, hc0, hmc, hc9, hB⟩ := hR.row
 have hc1 := hR.why
 have hf0 := hR.free0
 have hf1 := hR.free1
 have hlb := hR.bound
 have hl := hB.len
 have HR := Lib.hid hR
 clear hR
 by_cases hw : s.why = 0
 ·by_cases hn : (m : Int) < n
  ·rw [s.raw_end n hw (by omega)]
   have h1 := HR.out.setWhy 10
   have hK := (Keep.refl (fun b => b ≠ p) w).setCell (p := ⟨p, 1, none⟩) (fun h => absurd rfl h) (.int .i64 10)
   rw [hw] at hc1
   clear hw hl hB
   go_enter Tryz.func78, Tryz.ntmps78
   go_wp2_with fail
   go_ret
   exact ⟨⟨none, 0, rfl, Own.nil _ _ _ _⟩, h1, hK⟩
  ·by_cases hn1 : n < 1
   ·rw [s.raw_none n (.inr hn1)]
    rw [hw] at hc1
    clear hw hl hB
    go_enter Tryz.func78, Tryz.ntmps78
    go_wp2_with fail
    go_ret
    exact ⟨⟨none, 0, rfl, Own.nil _ _ _ _⟩, HR.out, Keep.refl _ _⟩
   ·obtain ⟨k, rfl⟩ := Int.eq_ofNat_of_zero_le (by omega : 0 ≤ n)
    rw [s.raw_some k hw (by omega) (by omega), Int.toNat_natCast]
    have hkm : k ≤ m := by omega
    have hmb : m ≤ 1099511627776 := by omega
    have hplt := HR.out.lt
    have hk1 : 1 ≤ k := by omega
    have hkc : (k : Int) ≤ c := by omega
    have HL : Hid ((s.bs.take k).length = k) := Lib.hid (by rw [List.length_take]; omega)
    have HLD : Hid ((s.bs.drop k).length = m - k) := Lib.hid (by rw [List.length_drop]; omega)
    rw [HL.out]
    have hcut := hB.cutTo hkm
    have HCL := Lib.hid (clone_bytes _ A k c _ w hcut (by omega))
    have hBD := Bs.from_ hB hkm
    have HBD := Lib.hid hBD
    have HW := Lib.hid hw
    rw [hw] at hc1
    clear hw hl hB hcut hBD
    by_cases hck : c = k
    ·have hmk : m = k := by omega
     subst hck
     subst hmk
     go_enter Tryz.func78, Tryz.ntmps78
     go_wp2_with fail
     refine HCL.out.mono ?_
     rintro e w1 ⟨⟨A1, c1, rfl, hown⟩, hK1⟩
     have d0 := hK1.cell_some hc0 trivial
     have g0 := (hK1.frozen (p := ⟨p, 0, none⟩) HR.out.lt trivial).trans hf0
     go_wp2_with fail
     go_ret
     have hnil : s.bs.drop m = [] := List.eq_nil_of_length_eq_zero (by rw [HLD.out]; omega)
     have hr := (HR.out.keep hK1).setRow (A := A) (m := 0) (c := 0) (bs := []) (Row.nil _ _ _ _) (Nat.le_refl _) (by omega) (by simp)
     rw [HW.out] at hr
     rw [hnil]
     exact ⟨⟨A1, c1, rfl, own_set (p := ⟨p, 0, none⟩) hown (fun e => by have := (own_lt hown p e).1; omega) _⟩, hr, (Keep.of_new hK1).setCell (p := ⟨p, 0, none⟩) (fun h => absurd rfl h) _⟩
    ·have hck' : ¬ c = k := hck
     go_enter Tryz.func78, Tryz.ntmps78
     go_wp2_with fail
     refine HCL.out.mono ?_
     rintro e w1 ⟨⟨A1, c1, rfl, hown⟩, hK1⟩
     have d0 := hK1.cell_some hc0 trivial
     have g0 := (hK1.frozen (p := ⟨p, 0, none⟩) HR.out.lt trivial).trans hf0
     go_wp2_with fail
     go_ret
     have hr := (HR.out.keep hK1).setRow (c := c - k) (HBD.out.new hK1) (by omega) (by omega) (by rw [HLD.out]; omega)
     rw [HW.out] at hr
     exact ⟨⟨A1, c1, rfl, own_set (p := ⟨p, 0, none⟩) hown (fun e => by have := (own_lt hown p e).1; omega) _⟩, hr, (Keep.of_new hK1).setCell (p := ⟨p, 0, none⟩) (fun h => absurd rfl h) _⟩
 ·rw [s.raw_none n (.inl hw)]
  have e0 : (s.why == 0) = false := by simpa using hw
  have e1 : (s.why != 0) = true := by simpa using hw
  clear hw hl hB
  go_enter Tryz.func78, Tryz.ntmps78
  go_wp2_with fail
  go_ret
  exact ⟨⟨none, 0, rfl, Own.nil _ _ _ _⟩, HR.out, Keep.refl _ _⟩
theorem bv_wrap64 (b : UInt8) : IntKind.u64.wrap (bv b) = bv b := by have := bv_bd b; rw [IntKind.wrap_u64]; omega
theorem beNat_shift (x : Nat) (b : UInt8) (h : x < 72057594037927936) : bits .or .u64 ((x : Int) * 256) (bv b) = ((x * 256 + b.toNat : Nat) : Int) := by
 have hb := b.toNat_lt
 unfold bv
 rw [show ((x : Int) * 256) = ((x * 256 : Nat) : Int) from by omega, u64_or_nat _ _ (by omega) (by omega)]
 congr 1
 rw [show x * 256 = x * 2 ^ 8 from rfl, ← Nat.shiftLeft_eq, Nat.shiftLeft_add_eq_or_of_lt (by omega : b.toNat < 2 ^ 8)]
set_option maxRecDepth 100000 in
theorem get_any (p k : Nat) (s : RdS) (w : World) (hR : Rd w p s) (hk : k ≤ 8) (ki : Int) (hki : ki = k) :
  Calls Tryz.prog 116 #[.pointer (some ⟨p, 0, none⟩), .int .i64 ki] w fun e w' => e = .returned (.int .u64 ((s.num k).1 : Nat)) ∧ Rd w' p (s.num k).2 ∧ Keep (fun b => b ≠ p) w w' := by
 subst hki
 have hle := (s.raw_le k).2.2
 unfold RdS.num
 dsimp only
 have HRW := Lib.hid (rraw_any p s k w hR)
 clear hR
 generalize (s.raw k).1 = x at *
 generalize (s.raw k).2 = s' at *
 have hx8 : x.length ≤ 8 := by omega
 go_enter Tryz.func116, Tryz.ntmps116
 go_wp2_with fail
 refine HRW.out.mono ?_
 rintro e w1 ⟨⟨A1, c1, rfl, hown⟩, hR1, hK1⟩
 have hB := Row.of_own hown
 clear hown
 go_wp2_with fail
 go_loop [5, 12] (fun s5 i => ∃ j : Nat, j ≤ x.length ∧ i = .int .i64 (j : Int) ∧ s5 = .int .u64 ((beNat (x.take j) : Nat) : Int)) (fun _ i => x.length - (intOf i).toNat)
 case atStart => exact ⟨0, Nat.zero_le _, rfl, rfl⟩
 case round =>
  obtain ⟨j, hj, rfl, rfl⟩ := hrel
  by_cases hlt : j < x.length
  ·obtain ⟨b, off, rfl, _, _, hc⟩ := Bs.cellAt (bs := x) hB (by omega)
   have ck := hc j hlt
   have HS := Lib.hid (show beNat (x.take (j + 1)) = beNat (x.take j) * 256 + (x[j]).toNat from by rw [List.take_succ_eq_append_getElem hlt, beNat_snoc])
   have hsm : beNat (x.take j) < 72057594037927936 := by
    refine Nat.lt_of_lt_of_le (beNat_lt _) ?_
    have h7 : (x.take j).length ≤ 7 := by rw [List.length_take]; omega
    exact Nat.le_trans (Nat.pow_le_pow_right (by decide) h7) (by decide)
   have HO := Lib.hid (beNat_shift (beNat (x.take j)) x[j] hsm)
   clear hc hB
   generalize x[j] = y at *
   generalize beNat (x.take j) = z at *
   go_wp2_with fail
   go_round
   case rel => exact ⟨j + 1, by omega, by go_num, by rw [bv_wrap64, HO.out, HS.out]⟩
   case measure => simp [intOf]; omega
  ·obtain rfl : j = x.length := by omega
   rw [List.take_of_length_le (Nat.le_refl _)]
   go_wp2_with fail
   go_ret
   exact ⟨rfl, hR1, hK1⟩
theorem i64_small (n : Nat) (h : n < 9223372036854775808) : IntKind.i64.wrap (n : Int) = n := IntWalk.i64_in _ (by omega)
theorem num_lt (s : RdS) (k : Nat) : (s.num k).1 < 256 ^ k := by
 have h := beNat_lt (s.raw k).1
 have hl := (s.raw_le k).2.2
 exact Nat.lt_of_lt_of_le h (Nat.pow_le_pow_right (by decide) (by omega))
set_option maxRecDepth 100000 in
theorem rbyte_any (p : Nat) (s : RdS) (w : World) (hR : Rd w p s) :
  Calls Tryz.prog 77 #[.pointer (some ⟨p, 0, none⟩)] w fun e w' => e = .returned (.int .i64 ((s.num 1).1 : Nat)) ∧ Rd w' p (s.num 1).2 ∧ Keep (fun b => b ≠ p) w w' := by
 have hlt := num_lt s 1
 have HG := Lib.hid (get_any p 1 s w hR (by decide) 1 rfl)
 clear hR
 generalize (s.num 1).1 = z at *
 generalize (s.num 1).2 = s' at *
 have hw := i64_small z (by omega)
 have HW := Lib.hid hw
 clear hw
 go_enter Tryz.func77, Tryz.ntmps77
 go_wp2_with fail
 refine HG.out.mono ?_
 rintro e w1 ⟨rfl, hR1, hK1⟩
 go_wp2_with fail
 go_ret
 exact ⟨by first | rfl | (rw [← HW.out]; rfl), hR1, hK1⟩
set_option maxRecDepth 100000 in
theorem rshort_any (p : Nat) (s : RdS) (w : World) (hR : Rd w p s) :
  Calls Tryz.prog 75 #[.pointer (some ⟨p, 0, none⟩)] w fun e w' => e = .returned (.int .i64 ((s.num 2).1 : Nat)) ∧ Rd w' p (s.num 2).2 ∧ Keep (fun b => b ≠ p) w w' := by
 have hlt := num_lt s 2
 have HG := Lib.hid (get_any p 2 s w hR (by decide) 2 rfl)
 clear hR
 generalize (s.num 2).1 = z at *
 generalize (s.num 2).2 = s' at *
 have hw := i64_small z (by omega)
 have HW := Lib.hid hw
 clear hw
 go_enter Tryz.func75, Tryz.ntmps75
 go_wp2_with fail
 refine HG.out.mono ?_
 rintro e w1 ⟨rfl, hR1, hK1⟩
 go_wp2_with fail
 go_ret
 exact ⟨by first | rfl | (rw [← HW.out]; rfl), hR1, hK1⟩
set_option maxRecDepth 100000 in
theorem rlong_any (p : Nat) (s : RdS) (w : World) (hR : Rd w p s) :
  Calls Tryz.prog 87 #[.pointer (some ⟨p, 0, none⟩)] w fun e w' => e = .returned (.int .u64 ((s.num 8).1 : Nat)) ∧ Rd w' p (s.num 8).2 ∧ Keep (fun b => b ≠ p) w w' := by
 have HG := Lib.hid (get_any p 8 s w hR (by decide) 8 rfl)
 clear hR
 generalize (s.num 8).1 = z at *
 generalize (s.num 8).2 = s' at *
 go_enter Tryz.func87, Tryz.ntmps87
 go_wp2_with fail
 refine HG.out.mono ?_
 rintro e w1 ⟨rfl, hR1, hK1⟩
 go_wp2_with fail
 go_ret
 exact ⟨rfl, hR1, hK1⟩
set_option maxRecDepth 100000 in
theorem rbytes_any (p : Nat) (s : RdS) (w : World) (hR : Rd w p s) :
  Calls Tryz.prog 76 #[.pointer (some ⟨p, 0, none⟩)] w fun e w' =>
   (∃ A' c', e = .returned (.slice A' s.lenRow.1.length c') ∧ OwnB w' w.heap.size 5 A' s.lenRow.1.length c' s.lenRow.1) ∧ Rd w' p s.lenRow.2 ∧ Keep (fun b => b ≠ p) w w' := by
 have HG := Lib.hid (rshort_any p s w hR)
 have HL : Hid (s.lenRow = (s.num 2).2.raw (s.num 2).1) := Lib.hid rfl
 rw [HL.out]
 clear hR HL
 generalize (s.num 2).1 = z at *
 generalize (s.num 2).2 = s' at *
 have HR := Lib.hid (rraw_any p s' z)
 generalize (s'.raw z).1 = x at *
 generalize (s'.raw z).2 = s2 at *
 go_enter Tryz.func76, Tryz.ntmps76
 go_wp2_with fail
 refine HG.out.mono ?_
 rintro e w1 ⟨rfl, hR1, hK1⟩
 go_wp2_with fail
 refine (HR.out w1 hR1).mono ?_
 rintro e w2 ⟨⟨A2, c2, rfl, hown2⟩, hR2, hK2⟩
 go_wp2_with fail
 go_ret
 exact ⟨⟨_, _, rfl, own_base hown2 hK1.size⟩, hR2, hK1.trans hK2⟩
set_option maxRecDepth 100000 in
theorem rleft_any (p : Nat) (s : RdS) (w : World) (hR : Rd w p s) :
  Calls Tryz.prog 97 #[.pointer (some ⟨p, 0, none⟩)] w fun e w' => e = .returned (.int .i64 (s.left : Nat)) ∧ w = w' := by
 obtain ⟨A, m, c, hc0, hmc, hc9, hB⟩ := hR.row
 have hc1 := hR.why
 have hl := hB.len
 clear hR hB
 by_cases hw : s.why = 0
 ·have hL : s.left = m := by unfold RdS.left; rw [if_neg (by simpa using hw), hl]
  rw [hL]
  rw [hw] at hc1
  clear hw hl hL
  go_enter Tryz.func97, Tryz.ntmps97
  go_wp2_with fail
  go_ret
  exact ⟨rfl, rfl⟩
 ·have hL : s.left = 0 := by unfold RdS.left; rw [if_pos hw]
  rw [hL]
  have e1 : (s.why != 0) = true := by simpa using hw
  clear hw hl hL
  go_enter Tryz.func97, Tryz.ntmps97
  go_wp2_with fail
  go_ret
  exact ⟨rfl, rfl⟩
/-
  PROVED HERE: what the reference's reader (permafrostref4.Reader) does: what the program's does; conditions: fewer than 2^40 bytes.
-/
structure Rd4 (w : World) (p : Nat) (b0 : List UInt8) (s : RdS) : Prop where
 row : ∃ A m c, w.cell? ⟨p, 0, none⟩ = some (.slice A m c) ∧ m ≤ c ∧ c ≤ 9223372036854775807 ∧ Bs w (fun b => b < p) A m b0
 at_ : w.cell? ⟨p, 1, none⟩ = some (.int .i64 ((b0.length - s.bs.length : Nat) : Int))
 why : w.cell? ⟨p, 2, none⟩ = some (.int .i64 s.why)
 cut : ∃ k, k ≤ b0.length ∧ s.bs = b0.drop k
 free1 : w.frozen? ⟨p, 1, none⟩ = false
 free2 : w.frozen? ⟨p, 2, none⟩ = false
 bound : b0.length ≤ 1099511627776
theorem Rd4.lt {w : World} {p : Nat} {b0 : List UInt8} {s : RdS} (h : Rd4 w p b0 s) : p < w.heap.size := World.block_lt_of_cell? w _ h.why
theorem Rd4.keep {w w' : World} {p : Nat} {b0 : List UInt8} {s : RdS} (h : Rd4 w p b0 s) (hk : New w w') : Rd4 w' p b0 s := by
 obtain ⟨A, m, c, h1, h2, h3, h4⟩ := h.row
 exact ⟨⟨A, m, c, hk.cell_some h1 trivial, h2, h3, h4.new hk⟩, hk.cell_some h.at_ trivial, hk.cell_some h.why trivial, h.cut, (hk.frozen (p := ⟨p, 1, none⟩) h.lt trivial).trans h.free1, (hk.frozen (p := ⟨p, 2, none⟩) h.lt trivial).trans h.free2, h.bound⟩
theorem Rd4.keepE {w w' : World} {p : Nat} {b0 : List UInt8} {s : RdS} {E : Nat → Prop} (h : Rd4 w p b0 s) (hk : Keep E w w') (hE : ∀ b, b ≤ p → E b) : Rd4 w' p b0 s := by
 obtain ⟨A, m, c, h1, h2, h3, h4⟩ := h.row
 have hp := hE p (Nat.le_refl _)
 exact ⟨⟨A, m, c, hk.cell_some h1 hp, h2, h3, h4.keep hk (fun b _ hb => hE b (Nat.le_of_lt hb))⟩, hk.cell_some h.at_ hp, hk.cell_some h.why hp, h.cut, (hk.frozen (p := ⟨p, 1, none⟩) h.lt hp).trans h.free1, (hk.frozen (p := ⟨p, 2, none⟩) h.lt hp).trans h.free2, h.bound⟩
theorem Rd4.setWhy {w : World} {p : Nat} {b0 : List UInt8} {s : RdS} (h : Rd4 w p b0 s) (y : Int) : Rd4 (w.setCell ⟨p, 2, none⟩ (.int .i64 y)) p b0 ⟨s.bs, y⟩ := by
 obtain ⟨A, m, c, h1, h2, h3, h4⟩ := h.row
 refine ⟨⟨A, m, c, ?_, h2, h3, h4.setCell (p := ⟨p, 2, none⟩) (Nat.lt_irrefl _) _⟩, ?_, World.cell?_setCell_same _ _ _ h.why, h.cut, setCell_free h.free1, setCell_free h.free2, h.bound⟩
 ·rw [World.cell?_setCell_other _ _ _ _ (by intro hh; injection hh; omega)]; exact h1
 ·rw [World.cell?_setCell_other _ _ _ _ (by intro hh; injection hh; omega)]; exact h.at_
theorem Rd4.setAt {w : World} {p : Nat} {b0 : List UInt8} {s : RdS} (h : Rd4 w p b0 s) {k : Nat} (hk : k ≤ b0.length) : Rd4 (w.setCell ⟨p, 1, none⟩ (.int .i64 (k : Int))) p b0 ⟨b0.drop k, s.why⟩ := by
 obtain ⟨A, m, c, h1, h2, h3, h4⟩ := h.row
 refine ⟨⟨A, m, c, ?_, h2, h3, h4.setCell (p := ⟨p, 1, none⟩) (Nat.lt_irrefl _) _⟩, ?_, ?_, ⟨k, hk, rfl⟩, setCell_free h.free1, setCell_free h.free2, h.bound⟩
 ·rw [World.cell?_setCell_other _ _ _ _ (by intro hh; injection hh; omega)]; exact h1
 ·have e : b0.length - (RdS.mk (b0.drop k) s.why).bs.length = k := by show b0.length - (b0.drop k).length = k; rw [List.length_drop]; omega
  rw [e]; exact World.cell?_setCell_same _ _ _ h.at_
 ·rw [World.cell?_setCell_other _ _ _ _ (by intro hh; injection hh; omega)]; exact h.why
theorem Rd4.made {D : Nat → Prop} {w : World} {A : Option Addr} {n c : Nat} {bs : List UInt8} (hB : Bs w D A n bs) (hnc : n ≤ c) (hc : c ≤ 9223372036854775807) (hn : n ≤ 1099511627776) :
  Rd4 (w.alloc (.cells #[.slice A n c, .int .i64 0, .int .i64 0] 109)) w.heap.size bs ⟨bs, 0⟩ := by
 have hh := heap_alloc_new w (.cells #[.slice A n c, .int .i64 0, .int .i64 0] 109)
 have hl := hB.len
 refine ⟨⟨A, n, c, cellOf hh rfl, hnc, hc, (hB.imp (E := fun b => b < w.heap.size) (fun b hb _ => hb)).alloc _⟩, ?_, cellOf hh rfl, ⟨0, Nat.zero_le _, rfl⟩, free_new w _ _ _, free_new w _ _ _, by omega⟩
 rw [show bs.length - (RdS.mk bs 0).bs.length = 0 from Nat.sub_self _]
 exact cellOf hh rfl
set_option maxRecDepth 100000 in
set_option maxHeartbeats 1000000 in
theorem r4raw_any (p : Nat) (b0 : List UInt8) (s : RdS) (n : Int) (w : World) (hR : Rd4 w p b0 s) (hn0 : -9223372036854775808 ≤ n) (hn1 : n ≤ 1099511627776) :
  Calls Tryz.prog 63 #[.pointer (some ⟨p, 0, none⟩), .int .i64 n] w fun e w' =>
   (∃ A' c', e = .returned (.slice A' (s.raw n).1.length c') ∧ OwnB w' w.heap.size 5 A' (s.raw n).1.length c' (s.raw n).1) ∧ Rd4 w' p b0 (s.raw n).2 ∧ Keep (fun b => b ≠ p) w w' := by
 obtain ⟨A, m, c, hc0, hmc, hc9, hB⟩ := hR.row
 have hc1 := hR.at_
 have hc2 := hR.why
 have hf1 := hR.free1
 have hf2 := hR.free2
 have hlb := hR.bound
 have hl := hB.len
 obtain ⟨k, hk, hbs⟩ := hR.cut
 have hsl : s.bs.length = m - k := by rw [hbs, List.length_drop, hl]
 have hat : b0.length - s.bs.length = k := by omega
 rw [hat] at hc1
 have HR := Lib.hid hR
 clear hR hat
 by_cases hw : s.why = 0
 ·by_cases hn1' : n < 1
  ·rw [s.raw_none n (.inr hn1')]
   rw [hw] at hc2
   clear hw hl hB hbs hsl
   go_enter Tryz.func63, Tryz.ntmps63
   go_wp2_with fail
   go_ret
   exact ⟨⟨none, 0, rfl, Own.nil _ _ _ _⟩, HR.out, Keep.refl _ _⟩
  ·by_cases hn : ((m - k : Nat) : Int) < n
   ·rw [s.raw_end n hw (by omega)]
    have h1 := HR.out.setWhy 10
    have hK := (Keep.refl (fun b => b ≠ p) w).setCell (p := ⟨p, 2, none⟩) (fun h => absurd rfl h) (.int .i64 10)
    rw [hw] at hc2
    have q1 : IntKind.i64.wrap ((m : Int) - (k : Int)) = ((m - k : Nat) : Int) := by rw [IntWalk.i64_in _ (by omega)]; omega
    clear hw hl hB hbs hsl
    go_enter Tryz.func63, Tryz.ntmps63
    go_wp2_with fail
    go_quiet (fail)
    have hNq : New w (w.drewN nq) := (New.refl w).drewN nq
    have d2 := hNq.cell_some hc2 trivial
    have g2 := (hNq.frozen (p := ⟨p, 2, none⟩) HR.out.lt trivial).trans hf2
    have HRq := Lib.hid (HR.out.keep hNq)
    have HKq := Lib.hid (show Keep (fun b => b ≠ p) w (w.drewN nq) from Keep.of_new hNq)
    generalize w.drewN nq = wq at *
    clear hNq h1 hK
    go_wp2_with fail
    go_ret
    exact ⟨⟨none, 0, rfl, Own.nil _ _ _ _⟩, HRq.out.setWhy 10, HKq.out.setCell (p := ⟨p, 2, none⟩) (fun h => absurd rfl h) _⟩
   ·obtain ⟨nn, rfl⟩ := Int.eq_ofNat_of_zero_le (by omega : 0 ≤ n)
    rw [s.raw_some nn hw (by omega) (by omega), Int.toNat_natCast]
    have HL : Hid ((s.bs.take nn).length = nn) := Lib.hid (by rw [List.length_take]; omega)
    rw [HL.out, hbs]
    rw [hw] at hc2
    have hnk : nn ≤ m - k := by omega
    have q1 : IntKind.i64.wrap ((m : Int) - (k : Int)) = ((m - k : Nat) : Int) := by rw [IntWalk.i64_in _ (by omega)]; omega
    have q2 : IntKind.i64.wrap ((k : Int) + (nn : Int)) = (k : Int) + (nn : Int) := IntWalk.i64_in _ (by omega)
    have q3 : ¬ c = k := by omega
    have q4 : (0 : Int) ≤ (k : Int) + (nn : Int) := by omega
    have q5 : (k : Int) + (nn : Int) ≤ c := by omega
    have q6 : ((k : Int) + (nn : Int)).toNat - k = nn := by omega
    have q7 : k ≤ ((k : Int) + (nn : Int)).toNat := by omega
    have HCT : Hid (Bs w (fun b => b < p) (Option.map (fun x => x.add k) A) nn ((b0.drop k).take nn)) := Lib.hid (Bs.cutTo (Bs.from_ hB (l := k) (by omega)) (by omega))
    have hbd : 0 + nn ≤ 140737488355328 := by omega
    have hkn : k + nn ≤ b0.length := by omega
    have HDD : Hid ((b0.drop k).drop nn = b0.drop (k + nn)) := Lib.hid (by rw [List.drop_drop])
    have HW := Lib.hid hw
    clear hw hl hB hbs hsl HL
    go_enter Tryz.func63, Tryz.ntmps63
    go_wp2_with fail
    go_quiet (fail)
    have hNq : New w (w.drewN nq) := (New.refl w).drewN nq
    have d0 := hNq.cell_some hc0 trivial
    have d1 := hNq.cell_some hc1 trivial
    have g1 := (hNq.frozen (p := ⟨p, 1, none⟩) HR.out.lt trivial).trans hf1
    have HRq := Lib.hid (HR.out.keep hNq)
    have HCq := Lib.hid (HCT.out.new hNq)
    have HKq := Lib.hid hNq
    have hsz : w.heap.size = (w.drewN nq).heap.size := rfl
    have HSZ := Lib.hid hsz
    generalize w.drewN nq = wq at *
    have hplt := HRq.out.lt
    clear hNq hc0 hc1 hc2 hf1 hf2 HCT hsz
    go_wp2_with fail
    have y0 : ∀ W, New wq W → W.cell? ⟨p, 0, none⟩ = some (.slice A m c) := fun W h => h.cell_some d0 trivial
    have y1 : ∀ W, New wq W → W.cell? ⟨p, 1, none⟩ = some (.int .i64 (k : Int)) := fun W h => h.cell_some d1 trivial
    have hown0 : OwnB (wq.drew.alloc (.cells #[] 5)) wq.drew.heap.size 5 (some ⟨wq.drew.heap.size, 0, none⟩) 0 0 [] := World.ownsRow_made wq.drew #[] 0 (Nat.le_refl _) (by decide) rfl
    have hk0 : New wq.drew (wq.drew.alloc (.cells #[] 5)) := (New.refl _).alloc _
    have hct := HCq.out.new ((New.refl wq).drew.new hk0)
    refine hold_begin (by kernel_rfl) ?_
    have n0 : New wq.drew wq.drew := New.refl _
    replace y0 := fun W (hW : New wq.drew W) => y0 W (Keep.new (Keep.drew (New.refl wq)) hW)
    replace y1 := fun W (hW : New wq.drew W) => y1 W (Keep.new (Keep.drew (New.refl wq)) hW)
    refine take0 1 n0 ?_
    refine take0 2 n0 ?_
    refine take0 3 n0 ?_
    refine take0 4 n0 ?_
    refine take0 5 n0 ?_
    refine take0 6 n0 ?_
    refine take0 7 n0 ?_
    refine take0 8 n0 ?_
    refine take0 9 n0 ?_
    refine take0 10 n0 ?_
    refine take0 11 n0 ?_
    refine take0 12 n0 ?_
    refine take0 13 n0 ?_
    refine take0 14 n0 ?_
    refine take0 15 n0 ?_
    refine hold_step0 (i := 0) (by kernel_rfl) rfl rfl (fun K hK => ?_)
    go_simp
    go_wp2_with fail
    have n1 := Keep.new n0 hk0
    refine hK.out _ _ n1 ?_
    clear hK K
    try simp only [Act.put, ly1, ly2, ly3, ly4, ly5, ly6]
    replace n0 := n1
    clear n1
    refine hold_step0 (i := 16) (by kernel_rfl) rfl rfl (fun K hK => ?_)
    refine wp_bytes _ _ _ rfl wq.drew.heap.size _ 0 0 [] rfl hown0 _ _ nn (c - k) _ rfl hct hbd hk0.size ?_
    intro A1 c1 w1 hown1 hg1 hbk1
    have n1 := new_app0 hk0 hown0 hg1
    refine hK.out _ _ n1 ?_
    clear hK K
    try simp only [Act.put, ly1, ly2, ly3, ly4, ly5, ly6]
    replace n0 := n1
    clear n1
    refine take0 17 n0 ?_
    refine wpAnyH_done (by kernel_rfl) ?_ _
    have hK1 := Keep.new (Keep.drew (New.refl wq)) n0
    have e1 := hK1.cell_some d1 trivial
    have z1 := (hK1.frozen (p := ⟨p, 1, none⟩) hplt trivial).trans g1
    have HR1 := HRq.out.keep hK1
    clear y0 y1 d0 d1 g1 hct hk0 hown0
    go_wp2_with fail
    go_ret
    have hr := HR1.setAt hkn
    have hA1 : blk A1 ≠ some p := fun e => by have := (own_lt hown1 p e).1; have h2 : p < wq.drew.heap.size := hplt; omega
    refine ⟨⟨A1, c1, rfl, ?_⟩, ?_, ?_⟩
    ·rw [Nat.zero_add] at hown1
     exact own_base (own_set (p := ⟨p, 1, none⟩) hown1 (fun e => hA1 e) _) (by rw [HSZ.out]; exact Nat.le_refl _)
    ·rw [HDD.out, ← HW.out]
     have e : ((k + nn : Nat) : Int) = (k : Int) + (nn : Int) := by omega
     rw [← e]
     exact hr
    ·exact (Keep.of_new (HKq.out.new hK1)).setCell (p := ⟨p, 1, none⟩) (fun h => absurd rfl h) _
 ·rw [s.raw_none n (.inl hw)]
  have e1 : (s.why != 0) = true := by simpa using hw
  clear hw hl hB hbs hsl
  go_enter Tryz.func63, Tryz.ntmps63
  go_wp2_with fail
  go_ret
  exact ⟨⟨none, 0, rfl, Own.nil _ _ _ _⟩, HR.out, Keep.refl _ _⟩
set_option maxRecDepth 100000 in
theorem r4num_any (p k : Nat) (b0 : List UInt8) (s : RdS) (w : World) (hR : Rd4 w p b0 s) (hk : k ≤ 8) (ki : Int) (hki : ki = k) :
  Calls Tryz.prog 107 #[.pointer (some ⟨p, 0, none⟩), .int .i64 ki] w fun e w' => e = .returned (.int .u64 ((s.num k).1 : Nat)) ∧ Rd4 w' p b0 (s.num k).2 ∧ Keep (fun b => b ≠ p) w w' := by
 subst hki
 have hle := (s.raw_le k).2.2
 unfold RdS.num
 dsimp only
 have HRW := Lib.hid (r4raw_any p b0 s k w hR (by omega) (by omega))
 clear hR
 generalize (s.raw k).1 = x at *
 generalize (s.raw k).2 = s' at *
 have hx8 : x.length ≤ 8 := by omega
 go_enter Tryz.func107, Tryz.ntmps107
 go_wp2_with fail
 refine HRW.out.mono ?_
 rintro e w1 ⟨⟨A1, c1, rfl, hown⟩, hR1, hK1⟩
 have hB := Row.of_own hown
 clear hown
 go_wp2_with fail
 go_loop [6, 7] (fun s5 i => ∃ j : Nat, j ≤ x.length ∧ i = .int .i64 (j : Int) ∧ s5 = .int .u64 ((beNat (x.take j) : Nat) : Int)) (fun _ i => x.length - (intOf i).toNat)
 case atStart => exact ⟨0, Nat.zero_le _, rfl, rfl⟩
 case round =>
  obtain ⟨j, hj, rfl, rfl⟩ := hrel
  by_cases hlt : j < x.length
  ·obtain ⟨b, off, rfl, _, _, hc⟩ := Bs.cellAt (bs := x) hB (by omega)
   have ck := hc j hlt
   have HS := Lib.hid (show beNat (x.take (j + 1)) = beNat (x.take j) * 256 + (x[j]).toNat from by rw [List.take_succ_eq_append_getElem hlt, beNat_snoc])
   have hsm : beNat (x.take j) < 72057594037927936 := by
    refine Nat.lt_of_lt_of_le (beNat_lt _) ?_
    have h7 : (x.take j).length ≤ 7 := by rw [List.length_take]; omega
    exact Nat.le_trans (Nat.pow_le_pow_right (by decide) h7) (by decide)
   have HO := Lib.hid (beNat_shift (beNat (x.take j)) x[j] hsm)
   clear hc hB
   generalize x[j] = y at *
   generalize beNat (x.take j) = z at *
   go_wp2_with fail
   go_round
   case rel => exact ⟨j + 1, by omega, by go_num, by rw [bv_wrap64, HO.out, HS.out]⟩
   case measure => simp [intOf]; omega
  ·obtain rfl : j = x.length := by omega
   rw [List.take_of_length_le (Nat.le_refl _)]
   go_wp2_with fail
   go_ret
   exact ⟨rfl, hR1, hK1⟩
set_option maxRecDepth 100000 in
theorem r4byte_any (p : Nat) (b0 : List UInt8) (s : RdS) (w : World) (hR : Rd4 w p b0 s) :
  Calls Tryz.prog 62 #[.pointer (some ⟨p, 0, none⟩)] w fun e w' => e = .returned (.int .i64 ((s.num 1).1 : Nat)) ∧ Rd4 w' p b0 (s.num 1).2 ∧ Keep (fun b => b ≠ p) w w' := by
 have hlt := num_lt s 1
 have HG := Lib.hid (r4num_any p 1 b0 s w hR (by decide) 1 rfl)
 clear hR
 generalize (s.num 1).1 = z at *
 generalize (s.num 1).2 = s' at *
 have hw := i64_small z (by omega)
 have HW := Lib.hid hw
 clear hw
 go_enter Tryz.func62, Tryz.ntmps62
 go_wp2_with fail
 refine HG.out.mono ?_
 rintro e w1 ⟨rfl, hR1, hK1⟩
 go_wp2_with fail
 go_ret
 exact ⟨by first | rfl | (rw [← HW.out]; rfl), hR1, hK1⟩
set_option maxRecDepth 100000 in
theorem r4short_any (p : Nat) (b0 : List UInt8) (s : RdS) (w : World) (hR : Rd4 w p b0 s) :
  Calls Tryz.prog 60 #[.pointer (some ⟨p, 0, none⟩)] w fun e w' => e = .returned (.int .i64 ((s.num 2).1 : Nat)) ∧ Rd4 w' p b0 (s.num 2).2 ∧ Keep (fun b => b ≠ p) w w' := by
 have hlt := num_lt s 2
 have HG := Lib.hid (r4num_any p 2 b0 s w hR (by decide) 2 rfl)
 clear hR
 generalize (s.num 2).1 = z at *
 generalize (s.num 2).2 = s' at *
 have hw := i64_small z (by omega)
 have HW := Lib.hid hw
 clear hw
 go_enter Tryz.func60, Tryz.ntmps60
 go_wp2_with fail
 refine HG.out.mono ?_
 rintro e w1 ⟨rfl, hR1, hK1⟩
 go_wp2_with fail
 go_ret
 exact ⟨by first | rfl | (rw [← HW.out]; rfl), hR1, hK1⟩
set_option maxRecDepth 100000 in
theorem r4long_any (p : Nat) (b0 : List UInt8) (s : RdS) (w : World) (hR : Rd4 w p b0 s) :
  Calls Tryz.prog 86 #[.pointer (some ⟨p, 0, none⟩)] w fun e w' => e = .returned (.int .u64 ((s.num 8).1 : Nat)) ∧ Rd4 w' p b0 (s.num 8).2 ∧ Keep (fun b => b ≠ p) w w' := by
 have HG := Lib.hid (r4num_any p 8 b0 s w hR (by decide) 8 rfl)
 clear hR
 generalize (s.num 8).1 = z at *
 generalize (s.num 8).2 = s' at *
 go_enter Tryz.func86, Tryz.ntmps86
 go_wp2_with fail
 refine HG.out.mono ?_
 rintro e w1 ⟨rfl, hR1, hK1⟩
 go_wp2_with fail
 go_ret
 exact ⟨rfl, hR1, hK1⟩
set_option maxRecDepth 100000 in
theorem r4bytes_any (p : Nat) (b0 : List UInt8) (s : RdS) (w : World) (hR : Rd4 w p b0 s) :
  Calls Tryz.prog 61 #[.pointer (some ⟨p, 0, none⟩)] w fun e w' =>
   (∃ A' c', e = .returned (.slice A' s.lenRow.1.length c') ∧ OwnB w' w.heap.size 5 A' s.lenRow.1.length c' s.lenRow.1) ∧ Rd4 w' p b0 s.lenRow.2 ∧ Keep (fun b => b ≠ p) w w' := by
 have HG := Lib.hid (r4short_any p b0 s w hR)
 have HL : Hid (s.lenRow = (s.num 2).2.raw (s.num 2).1) := Lib.hid rfl
 have hlt := num_lt s 2
 rw [HL.out]
 clear hR HL
 generalize (s.num 2).1 = z at *
 generalize (s.num 2).2 = s' at *
 have HR := Lib.hid (fun W h => r4raw_any p b0 s' z W h (by omega) (by omega))
 generalize (s'.raw z).1 = x at *
 generalize (s'.raw z).2 = s2 at *
 clear hlt
 go_enter Tryz.func61, Tryz.ntmps61
 go_wp2_with fail
 refine HG.out.mono ?_
 rintro e w1 ⟨rfl, hR1, hK1⟩
 go_wp2_with fail
 refine (HR.out w1 hR1).mono ?_
 rintro e w2 ⟨⟨A2, c2, rfl, hown2⟩, hR2, hK2⟩
 go_wp2_with fail
 go_ret
 exact ⟨⟨_, _, rfl, own_base hown2 hK1.size⟩, hR2, hK1.trans hK2⟩
end Go.Proofs.YtfegdgaanmcecaaGreatDoor
