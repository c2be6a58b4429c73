/-
  PROVED HERE: texts that belong together, one behind the other; what each proves, and under which conditions, its own opening remark says: Reader, Known17, OwnRecs, OwnRefs, RefsM, RecsM.
-/
import Derived.Laws.BytesArg
import Derived.Lib.SlBytesRow
import Derived.Test.YtfegdgaanmcecaaGreatDoorPkK09
import Derived.Test.YtfegdgaanmcecaaGreatDoorPkK10
/-
  PROVED HERE: what the program's codec.Reader does; conditions: fewer than 2^40 bytes.
-/
namespace Go.Proofs.YtfegdgaanmcecaaGreatDoor
open Go.RowKit

/-- a reader, as data: the bytes that are left; the first refusal. -/
structure RdS where
  bs : List UInt8
  why : Int
def RdS.raw (s : RdS) (n : Int) : List UInt8 × RdS :=
  if s.why = 0 ∧ (s.bs.length : Int) < n then ([], ⟨s.bs, 10⟩)
  else if s.why ≠ 0 ∨ n < 1 then ([], s)
  else (s.bs.take n.toNat, ⟨s.bs.drop n.toNat, 0⟩)
theorem RdS.raw_end (s : RdS) (n : Int) (h : s.why = 0) (hn : (s.bs.length : Int) < n) : s.raw n = ([], ⟨s.bs, 10⟩) := by unfold RdS.raw; rw [if_pos ⟨h, hn⟩]
theorem RdS.raw_none (s : RdS) (n : Int) (h : s.why ≠ 0 ∨ n < 1) : s.raw n = ([], s) := by
  unfold RdS.raw
  rw [if_neg (by rintro ⟨h1, h2⟩; rcases h with h | h; exact h h1; omega), if_pos h]
theorem RdS.raw_some (s : RdS) (n : Int) (h : s.why = 0) (h1 : 1 ≤ n) (hn : n ≤ s.bs.length) : s.raw n = (s.bs.take n.toNat, ⟨s.bs.drop n.toNat, 0⟩) := by
  unfold RdS.raw
  rw [if_neg (by omega), if_neg (by omega)]
theorem RdS.raw_le (s : RdS) (n : Int) : (s.raw n).1.length ≤ s.bs.length ∧ (s.raw n).2.bs.length ≤ s.bs.length ∧ ((s.raw n).1.length : Int) ≤ max n 0 := by
  unfold RdS.raw
  split
  · simp; omega
  · split
    · simp; omega
    · simp only [List.length_take, List.length_drop]; omega
def beNat (bs : List UInt8) : Nat := bs.foldl (fun a b => a * 256 + b.toNat) 0
theorem beNat_snoc (bs : List UInt8) (b : UInt8) : beNat (bs ++ [b]) = beNat bs * 256 + b.toNat := by unfold beNat; rw [List.foldl_append]; rfl
theorem beNat_lt (bs : List UInt8) : beNat bs < 256 ^ bs.length := by
  have h : ∀ (l : List UInt8) (a : Nat), l.foldl (fun a b => a * 256 + b.toNat) a < (a + 1) * 256 ^ l.length := by
    intro l
    induction l with
    | nil => intro a; simp
    | cons b l ih =>
      intro a
      simp only [List.foldl_cons, List.length_cons]
      refine Nat.lt_of_lt_of_le (ih _) ?_
      rw [Nat.pow_succ, Nat.mul_comm (256 ^ l.length) 256, ← Nat.mul_assoc]
      exact Nat.mul_le_mul_right _ (by have := b.toNat_lt; omega)
  have := h bs 0
  simpa [beNat] using this
def RdS.num (s : RdS) (k : Nat) : Nat × RdS := (beNat (s.raw k).1, (s.raw k).2)
def RdS.lenRow (s : RdS) : List UInt8 × RdS := (s.num 2).2.raw (s.num 2).1
def RdS.left (s : RdS) : Nat := if s.why ≠ 0 then 0 else s.bs.length

/-- a reader behind a pointer. -/
structure Rd (w : World) (p : Nat) (s : RdS) : Prop where
  row : ∃ A m c, w.cell? ⟨p, 0, none⟩ = some (.slice A m c) ∧ m ≤ c ∧ c ≤ 9223372036854775807 ∧ Bs w (fun b => b ≠ p) A m s.bs
  why : w.cell? ⟨p, 1, none⟩ = some (.int .i64 s.why)
  free0 : w.frozen? ⟨p, 0, none⟩ = false
  free1 : w.frozen? ⟨p, 1, none⟩ = false
  bound : s.bs.length ≤ 1099511627776
theorem Rd.lt {w : World} {p : Nat} {s : RdS} (h : Rd w p s) : p < w.heap.size := World.block_lt_of_cell? w _ h.why
theorem Rd.keep {w w' : World} {p : Nat} {s : RdS} (h : Rd w p s) (hk : New w w') : Rd w' p s := by
  obtain ⟨A, m, c, h1, h2, h3, h4⟩ := h.row
  exact ⟨⟨A, m, c, hk.cell_some h1 trivial, h2, h3, h4.new hk⟩, hk.cell_some h.why trivial, (hk.frozen (p := ⟨p, 0, none⟩) h.lt trivial).trans h.free0, (hk.frozen (p := ⟨p, 1, none⟩) h.lt trivial).trans h.free1, h.bound⟩
set_option maxRecDepth 100000 in
theorem newReader_any (D : Nat → Prop) (A : Option Addr) (n c : Nat) (bs : List UInt8) (w : World) (hB : Bs w D A n bs) (hn : n ≤ 1099511627776) :
    Calls Tryz.prog 73 #[.slice A n c] w fun e w' => (∃ p, e = .returned (.pointer (some ⟨p, 0, none⟩)) ∧ w.heap.size ≤ p ∧ Rd w' p ⟨bs, 0⟩) ∧ New w w' := by
  have hl := hB.len
  have HC := Lib.hid (clone_bytes D A n c bs w hB (by omega))
  clear hB
  go_enter Tryz.func73, Tryz.ntmps73
  go_wp2_with fail
  refine HC.out.mono ?_
  rintro e w1 ⟨⟨A1, c1, rfl, hown⟩, hK1⟩
  go_wp2_with fail
  go_ret
  have hh := heap_alloc_new w1 (.cells #[.slice A1 n c1, .int .i64 0] 150)
  refine ⟨⟨w1.heap.size, rfl, hK1.size, ⟨⟨A1, n, c1, cellOf hh rfl, own_cap hown, own_capMax hown, ?_⟩, cellOf hh rfl, free_new w1 _ _ _, free_new w1 _ _ _, by show bs.length ≤ _; omega⟩⟩, hK1.alloc _⟩
  exact ((Row.of_own hown).imp (E := fun b => b ≠ w1.heap.size) (fun b hb _ => Nat.ne_of_lt hb)).alloc _
theorem setCell_free {w : World} {p q : Addr} {u : Value} (h : w.frozen? q = false) : (w.setCell p u).frozen? q = false := (World.frozen?_setCell _ _ _ _).trans h
theorem Rd.setWhy {w : World} {p : Nat} {s : RdS} (h : Rd w p s) (y : Int) : Rd (w.setCell ⟨p, 1, none⟩ (.int .i64 y)) p ⟨s.bs, y⟩ := by
  obtain ⟨A, m, c, h1, h2, h3, h4⟩ := h.row
  refine ⟨⟨A, m, c, ?_, h2, h3, h4.setCell (p := ⟨p, 1, none⟩) (fun h => h rfl) _⟩, World.cell?_setCell_same _ _ _ h.why, setCell_free h.free0, setCell_free h.free1, h.bound⟩
  rw [World.cell?_setCell_other _ _ _ _ (by intro hh; injection hh; omega)]; exact h1
theorem Rd.setRow {w : World} {p : Nat} {s : RdS} (h : Rd w p s) {A : Option Addr} {m c : Nat} {bs : List UInt8} (hB : Bs w (fun b => b ≠ p) A m bs) (hmc : m ≤ c) (hc : c ≤ 9223372036854775807) (hb : bs.length ≤ 1099511627776) :
    Rd (w.setCell ⟨p, 0, none⟩ (.slice A m c)) p ⟨bs, s.why⟩ := by
  obtain ⟨A1, m1, c1, h1, _⟩ := h.row
  refine ⟨⟨A, m, c, World.cell?_setCell_same _ _ _ h1, hmc, hc, hB.setCell (p := ⟨p, 0, none⟩) (fun h => h rfl) _⟩, ?_, setCell_free h.free0, setCell_free h.free1, hb⟩
  rw [World.cell?_setCell_other _ _ _ _ (by intro hh; injection hh; omega)]; exact h.why
set_option maxRecDepth 100000 in
theorem rraw_any (p : Nat) (s : RdS) (n : Int) (w : World) (hR : Rd w p s) :
    Calls Tryz.prog 78 #[.pointer (some ⟨p, 0, none⟩), .int .i64 n] w fun e w' =>
      (∃ A' c', e = .returned (.slice A' (s.raw n).1.length c') ∧ OwnB w' w.heap.size 5 A' (s.raw n).1.length c' (s.raw n).1) ∧ Rd w' p (s.raw n).2 ∧ Keep (fun b => b ≠ p) w w' := by
  obtain ⟨A, m, c, hc0, hmc, hc9, hB⟩ := hR.row
  have hc1 := hR.why
  have hf0 := hR.free0
  have hf1 := hR.free1
  have hlb := hR.bound
  have hl := hB.len
  have HR := Lib.hid hR
  clear hR
  by_cases hw : s.why = 0
  · by_cases hn : (m : Int) < n
    · rw [s.raw_end n hw (by omega)]
      have h1 := HR.out.setWhy 10
      have hK := (Keep.refl (fun b => b ≠ p) w).setCell (p := ⟨p, 1, none⟩) (fun h => absurd rfl h) (.int .i64 10)
      rw [hw] at hc1
      clear hw hl hB
      go_enter Tryz.func78, Tryz.ntmps78
      go_wp2_with fail
      go_ret
      exact ⟨⟨none, 0, rfl, Own.nil _ _ _ _⟩, h1, hK⟩
    · by_cases hn1 : n < 1
      · rw [s.raw_none n (.inr hn1)]
        rw [hw] at hc1
        clear hw hl hB
        go_enter Tryz.func78, Tryz.ntmps78
        go_wp2_with fail
        go_ret
        exact ⟨⟨none, 0, rfl, Own.nil _ _ _ _⟩, HR.out, Keep.refl _ _⟩
      · obtain ⟨k, rfl⟩ := Int.eq_ofNat_of_zero_le (by omega : 0 ≤ n)
        rw [s.raw_some k hw (by omega) (by omega), Int.toNat_natCast]
        have hkm : k ≤ m := by omega
        have hmb : m ≤ 1099511627776 := by omega
        have hplt := HR.out.lt
        have hk1 : 1 ≤ k := by omega
        have hkc : (k : Int) ≤ c := by omega
        have HL : Hid ((s.bs.take k).length = k) := Lib.hid (by rw [List.length_take]; omega)
        have HLD : Hid ((s.bs.drop k).length = m - k) := Lib.hid (by rw [List.length_drop]; omega)
        rw [HL.out]
        have hcut := hB.cutTo hkm
        have HCL := Lib.hid (clone_bytes _ A k c _ w hcut (by omega))
        have hBD := Bs.from_ hB hkm
        have HBD := Lib.hid hBD
        have HW := Lib.hid hw
        rw [hw] at hc1
        clear hw hl hB hcut hBD
        by_cases hck : c = k
        · have hmk : m = k := by omega
          subst hck
          subst hmk
          go_enter Tryz.func78, Tryz.ntmps78
          go_wp2_with fail
          refine HCL.out.mono ?_
          rintro e w1 ⟨⟨A1, c1, rfl, hown⟩, hK1⟩
          have d0 := hK1.cell_some hc0 trivial
          have g0 := (hK1.frozen (p := ⟨p, 0, none⟩) HR.out.lt trivial).trans hf0
          go_wp2_with fail
          go_ret
          have hnil : s.bs.drop m = [] := List.eq_nil_of_length_eq_zero (by rw [HLD.out]; omega)
          have hr := (HR.out.keep hK1).setRow (A := A) (m := 0) (c := 0) (bs := []) (Row.nil _ _ _ _) (Nat.le_refl _) (by omega) (by simp)
          rw [HW.out] at hr
          rw [hnil]
          exact ⟨⟨A1, c1, rfl, own_set (p := ⟨p, 0, none⟩) hown (fun e => by have := (own_lt hown p e).1; omega) _⟩, hr, (Keep.of_new hK1).setCell (p := ⟨p, 0, none⟩) (fun h => absurd rfl h) _⟩
        · have hck' : ¬ c = k := hck
          go_enter Tryz.func78, Tryz.ntmps78
          go_wp2_with fail
          refine HCL.out.mono ?_
          rintro e w1 ⟨⟨A1, c1, rfl, hown⟩, hK1⟩
          have d0 := hK1.cell_some hc0 trivial
          have g0 := (hK1.frozen (p := ⟨p, 0, none⟩) HR.out.lt trivial).trans hf0
          go_wp2_with fail
          go_ret
          have hr := (HR.out.keep hK1).setRow (c := c - k) (HBD.out.new hK1) (by omega) (by omega) (by rw [HLD.out]; omega)
          rw [HW.out] at hr
          exact ⟨⟨A1, c1, rfl, own_set (p := ⟨p, 0, none⟩) hown (fun e => by have := (own_lt hown p e).1; omega) _⟩, hr, (Keep.of_new hK1).setCell (p := ⟨p, 0, none⟩) (fun h => absurd rfl h) _⟩
  · rw [s.raw_none n (.inl hw)]
    have e0 : (s.why == 0) = false := by simpa using hw
    have e1 : (s.why != 0) = true := by simpa using hw
    clear hw hl hB
    go_enter Tryz.func78, Tryz.ntmps78
    go_wp2_with fail
    go_ret
    exact ⟨⟨none, 0, rfl, Own.nil _ _ _ _⟩, HR.out, Keep.refl _ _⟩
theorem bv_wrap64 (b : UInt8) : IntKind.u64.wrap (bv b) = bv b := by have := bv_bd b; rw [IntKind.wrap_u64]; omega
theorem beNat_shift (x : Nat) (b : UInt8) (h : x < 72057594037927936) : bits .or .u64 ((x : Int) * 256) (bv b) = ((x * 256 + b.toNat : Nat) : Int) := by
  have hb := b.toNat_lt
  unfold bv
  rw [show ((x : Int) * 256) = ((x * 256 : Nat) : Int) from by omega, u64_or_nat _ _ (by omega) (by omega)]
  congr 1
  rw [show x * 256 = x * 2 ^ 8 from rfl, ← Nat.shiftLeft_eq, Nat.shiftLeft_add_eq_or_of_lt (by omega : b.toNat < 2 ^ 8)]
set_option maxRecDepth 100000 in
theorem get_any (p k : Nat) (s : RdS) (w : World) (hR : Rd w p s) (hk : k ≤ 8) (ki : Int) (hki : ki = k) :
    Calls Tryz.prog 116 #[.pointer (some ⟨p, 0, none⟩), .int .i64 ki] w fun e w' => e = .returned (.int .u64 ((s.num k).1 : Nat)) ∧ Rd w' p (s.num k).2 ∧ Keep (fun b => b ≠ p) w w' := by
  subst hki
  have hle := (s.raw_le k).2.2
  unfold RdS.num
  dsimp only
  have HRW := Lib.hid (rraw_any p s k w hR)
  clear hR
  generalize (s.raw k).1 = x at *
  generalize (s.raw k).2 = s' at *
  have hx8 : x.length ≤ 8 := by omega
  go_enter Tryz.func116, Tryz.ntmps116
  go_wp2_with fail
  refine HRW.out.mono ?_
  rintro e w1 ⟨⟨A1, c1, rfl, hown⟩, hR1, hK1⟩
  have hB := Row.of_own hown
  clear hown
  go_wp2_with fail
  go_loop [5, 12] (fun s5 i => ∃ j : Nat, j ≤ x.length ∧ i = .int .i64 (j : Int) ∧ s5 = .int .u64 ((beNat (x.take j) : Nat) : Int)) (fun _ i => x.length - (intOf i).toNat)
  case atStart => exact ⟨0, Nat.zero_le _, rfl, rfl⟩
  case round =>
    obtain ⟨j, hj, rfl, rfl⟩ := hrel
    by_cases hlt : j < x.length
    · obtain ⟨b, off, rfl, _, _, hc⟩ := Bs.cellAt (bs := x) hB (by omega)
      have ck := hc j hlt
      have HS := Lib.hid (show beNat (x.take (j + 1)) = beNat (x.take j) * 256 + (x[j]).toNat from by rw [List.take_succ_eq_append_getElem hlt, beNat_snoc])
      have hsm : beNat (x.take j) < 72057594037927936 := by
        refine Nat.lt_of_lt_of_le (beNat_lt _) ?_
        have h7 : (x.take j).length ≤ 7 := by rw [List.length_take]; omega
        exact Nat.le_trans (Nat.pow_le_pow_right (by decide) h7) (by decide)
      have HO := Lib.hid (beNat_shift (beNat (x.take j)) x[j] hsm)
      clear hc hB
      generalize x[j] = y at *
      generalize beNat (x.take j) = z at *
      go_wp2_with fail
      go_round
      case rel => exact ⟨j + 1, by omega, by go_num, by rw [bv_wrap64, HO.out, HS.out]⟩
      case measure => simp [intOf]; omega
    · obtain rfl : j = x.length := by omega
      rw [List.take_of_length_le (Nat.le_refl _)]
      go_wp2_with fail
      go_ret
      exact ⟨rfl, hR1, hK1⟩
theorem i64_small (n : Nat) (h : n < 9223372036854775808) : IntKind.i64.wrap (n : Int) = n := IntWalk.i64_in _ (by omega)
theorem num_lt (s : RdS) (k : Nat) : (s.num k).1 < 256 ^ k := by
  have h := beNat_lt (s.raw k).1
  have hl := (s.raw_le k).2.2
  exact Nat.lt_of_lt_of_le h (Nat.pow_le_pow_right (by decide) (by omega))
set_option maxRecDepth 100000 in
theorem rbyte_any (p : Nat) (s : RdS) (w : World) (hR : Rd w p s) :
    Calls Tryz.prog 77 #[.pointer (some ⟨p, 0, none⟩)] w fun e w' => e = .returned (.int .i64 ((s.num 1).1 : Nat)) ∧ Rd w' p (s.num 1).2 ∧ Keep (fun b => b ≠ p) w w' := by
  have hlt := num_lt s 1
  have HG := Lib.hid (get_any p 1 s w hR (by decide) 1 rfl)
  clear hR
  generalize (s.num 1).1 = z at *
  generalize (s.num 1).2 = s' at *
  have hw := i64_small z (by omega)
  have HW := Lib.hid hw
  clear hw
  go_enter Tryz.func77, Tryz.ntmps77
  go_wp2_with fail
  refine HG.out.mono ?_
  rintro e w1 ⟨rfl, hR1, hK1⟩
  go_wp2_with fail
  go_ret
  exact ⟨by first | rfl | (rw [← HW.out]; rfl), hR1, hK1⟩
set_option maxRecDepth 100000 in
theorem rshort_any (p : Nat) (s : RdS) (w : World) (hR : Rd w p s) :
    Calls Tryz.prog 75 #[.pointer (some ⟨p, 0, none⟩)] w fun e w' => e = .returned (.int .i64 ((s.num 2).1 : Nat)) ∧ Rd w' p (s.num 2).2 ∧ Keep (fun b => b ≠ p) w w' := by
  have hlt := num_lt s 2
  have HG := Lib.hid (get_any p 2 s w hR (by decide) 2 rfl)
  clear hR
  generalize (s.num 2).1 = z at *
  generalize (s.num 2).2 = s' at *
  have hw := i64_small z (by omega)
  have HW := Lib.hid hw
  clear hw
  go_enter Tryz.func75, Tryz.ntmps75
  go_wp2_with fail
  refine HG.out.mono ?_
  rintro e w1 ⟨rfl, hR1, hK1⟩
  go_wp2_with fail
  go_ret
  exact ⟨by first | rfl | (rw [← HW.out]; rfl), hR1, hK1⟩
set_option maxRecDepth 100000 in
theorem rlong_any (p : Nat) (s : RdS) (w : World) (hR : Rd w p s) :
    Calls Tryz.prog 87 #[.pointer (some ⟨p, 0, none⟩)] w fun e w' => e = .returned (.int .u64 ((s.num 8).1 : Nat)) ∧ Rd w' p (s.num 8).2 ∧ Keep (fun b => b ≠ p) w w' := by
  have HG := Lib.hid (get_any p 8 s w hR (by decide) 8 rfl)
  clear hR
  generalize (s.num 8).1 = z at *
  generalize (s.num 8).2 = s' at *
  go_enter Tryz.func87, Tryz.ntmps87
  go_wp2_with fail
  refine HG.out.mono ?_
  rintro e w1 ⟨rfl, hR1, hK1⟩
  go_wp2_with fail
  go_ret
  exact ⟨rfl, hR1, hK1⟩
set_option maxRecDepth 100000 in
theorem rbytes_any (p : Nat) (s : RdS) (w : World) (hR : Rd w p s) :
    Calls Tryz.prog 76 #[.pointer (some ⟨p, 0, none⟩)] w fun e w' =>
      (∃ A' c', e = .returned (.slice A' s.lenRow.1.length c') ∧ OwnB w' w.heap.size 5 A' s.lenRow.1.length c' s.lenRow.1) ∧ Rd w' p s.lenRow.2 ∧ Keep (fun b => b ≠ p) w w' := by
  have HG := Lib.hid (rshort_any p s w hR)
  have HL : Hid (s.lenRow = (s.num 2).2.raw (s.num 2).1) := Lib.hid rfl
  rw [HL.out]
  clear hR HL
  generalize (s.num 2).1 = z at *
  generalize (s.num 2).2 = s' at *
  have HR := Lib.hid (rraw_any p s' z)
  generalize (s'.raw z).1 = x at *
  generalize (s'.raw z).2 = s2 at *
  go_enter Tryz.func76, Tryz.ntmps76
  go_wp2_with fail
  refine HG.out.mono ?_
  rintro e w1 ⟨rfl, hR1, hK1⟩
  go_wp2_with fail
  refine (HR.out w1 hR1).mono ?_
  rintro e w2 ⟨⟨A2, c2, rfl, hown2⟩, hR2, hK2⟩
  go_wp2_with fail
  go_ret
  exact ⟨⟨_, _, rfl, own_base hown2 hK1.size⟩, hR2, hK1.trans hK2⟩
set_option maxRecDepth 100000 in
theorem rleft_any (p : Nat) (s : RdS) (w : World) (hR : Rd w p s) :
    Calls Tryz.prog 97 #[.pointer (some ⟨p, 0, none⟩)] w fun e w' => e = .returned (.int .i64 (s.left : Nat)) ∧ w = w' := by
  obtain ⟨A, m, c, hc0, hmc, hc9, hB⟩ := hR.row
  have hc1 := hR.why
  have hl := hB.len
  clear hR hB
  by_cases hw : s.why = 0
  · have hL : s.left = m := by unfold RdS.left; rw [if_neg (by simpa using hw), hl]
    rw [hL]
    rw [hw] at hc1
    clear hw hl hL
    go_enter Tryz.func97, Tryz.ntmps97
    go_wp2_with fail
    go_ret
    exact ⟨rfl, rfl⟩
  · have hL : s.left = 0 := by unfold RdS.left; rw [if_pos hw]
    rw [hL]
    have e1 : (s.why != 0) = true := by simpa using hw
    clear hw hl hL
    go_enter Tryz.func97, Tryz.ntmps97
    go_wp2_with fail
    go_ret
    exact ⟨rfl, rfl⟩
end Go.Proofs.YtfegdgaanmcecaaGreatDoor
/-
  PROVED HERE: chapter 17's known runs; a row of bytes as a string; no condition.
-/
namespace Go.Proofs.YtfegdgaanmcecaaGreatDoor
open Go.RowKit

def strOf (bs : List UInt8) : ByteArray := ⟨bs.toArray⟩



@[go_sem] theorem strOf_toList (bs : List UInt8) : (strOf bs).toList = bs := by rw [ByteArray.toList_eq]; rfl








theorem run_str {D : Nat → Prop} {A : Option Addr} {n c : Nat} {bs : List UInt8} {w : World} (h : Bs w D A n bs) :
    (convert 31 9 (.slice A n c)).run Tryz.prog w = .ok (.string (strOf bs)) w := by
  have hl := h.len
  rcases Nat.eq_zero_or_pos n with h0 | h0
  · subst h0
    obtain rfl : bs = [] := List.eq_nil_of_length_eq_zero hl
    rw [run_convert_bytes_string w _ _ 5 A 0 c Tryz.underlying31 Tryz.underlying5 Tryz.underlying9]
    rcases A with _ | a
    · simp [Conv.bytesToString, Sem.run_pure]; rfl
    · rw [run_bytesToString w a 0 c [] (by rw [loadCells, loadCellsFrom]; rfl)]; rfl
  · obtain ⟨b, off, rfl, _, _, hc⟩ := h.cellAt h0
    subst hl
    exact Lib.run_convert_whole w 31 5 9 Tryz.underlying31 Tryz.underlying5 Tryz.underlying9 b off (strOf bs) (fun i hi => hc i hi) c





























end Go.Proofs.YtfegdgaanmcecaaGreatDoor
/-
  PROVED HERE: rows of records that a call makes, and the law of append at them; condition: fewer than 2^40 records.
-/
namespace Go.Proofs.YtfegdgaanmcecaaGreatDoor
open Go.RowKit

theorem info_record : (Tryz.prog.info? 42).map (fun i => (i.zero, i.size, i.bytes)) = some (some (.agg #[.int .i64 0, .int .u64 0, .slice none 0 0]), 3, 40) := by kernel_rfl
theorem app_cells3 {ops : Array Oper} {rest : List Oper} {o : Oper} {a : Act} {Q : Exit → Act → World → Prop} (w : World) (hgd : o.guard = none) (s x : Operand)
    (ho : o.op = .call { callee := .builtin .append, args := #[s, x], argTypes := #[77, 77] })
    (base : Nat) (A : Option Addr) (n c : Nat) (xs : List Value) (hs : a.eval s = .slice A n c) (hown : Own w base 42 3 A n c xs)
    (D : Nat → Prop) (A2 : Option Addr) (m c2 : Nat) (news : List Value) (hx : a.eval x = .slice A2 m c2) (hr : Row w D A2 m 3 news) (h1 : ∀ u ∈ news, u.oneCell' = true)
    (h63 : n + m ≤ 1099511627776) (hbase : base ≤ w.heap.size)
    (h : ∀ A' c' w', Own w' base 42 3 A' (n + m) c' (xs ++ news) → w.grownBy w' (blk A) → (blk A' = blk A ∨ blk A' = some w.heap.size) → wpList Tryz.prog ops Q rest (a.put o.dst (.slice A' (n + m) c')) w') : wpList Tryz.prog ops Q (o :: rest) a w := by
  obtain ⟨i, hi, hz0, hz1, hz2⟩ := info_parts info_record
  exact wpList_append_row w hgd s x 77 ho base 42 i (.agg #[.int .i64 0, .int .u64 0, .slice none 0 0]) 3 40 Tryz.underlying77 hi hz0 hz1 hz2 rfl (by decide) A n c xs hs hown D A2 m c2 news hx hr h1 (by unfold maxLen; omega) (by omega) hbase h
/-- a record at a place, its bytes in blocks that meet D. -/
def RecAt9 (w : World) (D : Nat → Prop) (vs : List Value) (i : Nat) (r : RecP) : Prop :=
  ∃ A c, vs[i]? = some (.int .i64 r.kind) ∧ vs[i + 1]? = some (.int .u64 r.seq) ∧ vs[i + 2]? = some (.slice A r.body.length c) ∧ r.body.length ≤ c ∧ Bs w D A r.body.length r.body ∧ 0 ≤ r.seq ∧ r.seq ≤ 18446744073709551615 ∧ c ≤ 9223372036854775807
/-- records, the row of the call's own; their bytes lie in blocks that meet D, none in the row's. -/
def OwnRecs (w : World) (base : Nat) (D : Nat → Prop) (A : Option Addr) (n c : Nat) (rs : List RecP) : Prop :=
  ∃ vs : List Value, Own w base 42 3 A n c vs ∧ rs.length = n ∧ ∀ k (h : k < rs.length), RecAt9 w (fun b => D b ∧ some b ≠ blk A) vs (k * 3) rs[k]
section
variable {w w' : World} {base base' : Nat} {D E : Nat → Prop} {A : Option Addr} {n c : Nat} {rs : List RecP}
theorem RecAt9.keep {vs : List Value} {i : Nat} {r : RecP} (h : RecAt9 w D vs i r) (hk : Keep E w w') (hE : ∀ b, b < w.heap.size → D b → E b) : RecAt9 w' D vs i r := by
  obtain ⟨A, c, h1, h2, h3, h4, h5, h6, h7, h8⟩ := h
  exact ⟨A, c, h1, h2, h3, h4, h5.keep hk hE, h6, h7, h8⟩
theorem RecAt9.imp {vs : List Value} {i : Nat} {r : RecP} (h : RecAt9 w D vs i r) (hE : ∀ b, b < w.heap.size → D b → E b) : RecAt9 w E vs i r := by
  obtain ⟨A, c, h1, h2, h3, h4, h5, h6, h7, h8⟩ := h
  exact ⟨A, c, h1, h2, h3, h4, h5.imp hE, h6, h7, h8⟩
theorem OwnRecs.nil (w : World) (base : Nat) (D : Nat → Prop) : OwnRecs w base D none 0 0 [] := ⟨[], Own.nil _ _ _ _, rfl, fun k hk => absurd hk (by simp)⟩
theorem OwnRecs.new (h : OwnRecs w base D A n c rs) (hk : New w w') : OwnRecs w' base D A n c rs := by
  obtain ⟨vs, h1, h2, h3⟩ := h
  exact ⟨vs, own_keep h1 hk (fun _ _ => trivial), h2, fun k hk' => (h3 k hk').keep hk fun _ _ _ => trivial⟩
theorem OwnRecs.len (h : OwnRecs w base D A n c rs) : rs.length = n := by obtain ⟨_, _, h, _⟩ := h; exact h
theorem OwnRecs.cap (h : OwnRecs w base D A n c rs) : n ≤ c := by obtain ⟨_, h, _⟩ := h; exact own_cap h
theorem OwnRecs.capMax (h : OwnRecs w base D A n c rs) : c ≤ 9223372036854775807 := by obtain ⟨_, h, _⟩ := h; exact own_capMax h
theorem OwnRecs.recs (h : OwnRecs w base D A n c rs) (hb : ∀ r ∈ rs, r.body.length ≤ 9223372036854770000) : Recs w (fun b => base ≤ b ∨ D b) A n rs := by
  obtain ⟨vs, h1, h2, h3⟩ := h
  refine ⟨vs, (Row.of_own h1).imp (fun _ _ h => .inl h), h2, fun k hk => ?_⟩
  obtain ⟨A', c', e1, e2, e3, hc, hB, h5, h6, h7⟩ := h3 k hk
  exact ⟨A', c', e1, e2, e3, hc, hB.imp (fun _ _ h => .inr h.1), h5, h6, hb _ (List.getElem_mem hk), h7⟩
theorem OwnRecs.lt (h : OwnRecs w base D A n c rs) : ∀ k, blk A = some k → base ≤ k ∧ k < w.heap.size := by obtain ⟨_, h, _⟩ := h; exact own_lt h
end
/-- rows of different element types never share a block. -/
theorem own_ne {w : World} {base base' : Nat} {A A' : Option Addr} {n c n' c' : Nat} {xs : List Value} {bs : List UInt8} (h : Own w base 42 3 A n c xs) (hb : OwnB w base' 5 A' n' c' bs) : Bs w (fun b => base' ≤ b ∧ some b ≠ blk A) A' n' bs := by
  have hr := Row.of_own hb
  refine ⟨hr.1, fun hn => ?_⟩
  obtain ⟨b, off, rfl, hd, hlt, hc⟩ := hr.2 hn
  refine ⟨b, off, rfl, ⟨hd, fun e => ?_⟩, hlt, hc⟩
  rcases hb.2 with ⟨hv, _⟩ | ⟨g, cap, cur, hv, _, hg, _⟩
  · cases hv
  · injection hv with hA; injection hA with hA; injection hA with hA; subst hA
    rcases h.2 with ⟨hv2, _⟩ | ⟨g2, cap2, cur2, hv2, _, hg2, _⟩
    · injection hv2 with hA; subst hA; cases e
    · injection hv2 with hA; subst hA
      have : b = g2 := by injection e
      subst this
      rw [hg] at hg2
      injection hg2 with hg2
      injection hg2 with _ ht
      exact absurd ht (by decide)
theorem OwnRecs.apart {w : World} {base base' : Nat} {D : Nat → Prop} {A A' : Option Addr} {n c n' c' : Nat} {rs : List RecP} {bs : List UInt8} (h : OwnRecs w base D A n c rs) (hb : OwnB w base' 5 A' n' c' bs) : Bs w (fun b => base' ≤ b ∧ some b ≠ blk A) A' n' bs := by
  obtain ⟨_, h, _⟩ := h; exact own_ne h hb
/-- one record more. -/
theorem app_recs {ops : Array Oper} {rest : List Oper} {o : Oper} {a : Act} {Q : Exit → Act → World → Prop} (w : World) (hgd : o.guard = none) (s x : Operand)
    (ho : o.op = .call { callee := .builtin .append, args := #[s, x], argTypes := #[77, 77] })
    (base : Nat) (D : Nat → Prop) (A : Option Addr) (n c : Nat) (rs : List RecP) (hs : a.eval s = .slice A n c) (hown : OwnRecs w base D A n c rs)
    (D2 : Nat → Prop) (A2 : Option Addr) (c2 : Nat) (A' : Option Addr) (c' : Nat) (y : RecP) (hx : a.eval x = .slice A2 1 c2) (hr : Row w D2 A2 1 3 [.int .i64 y.kind, .int .u64 y.seq, .slice A' y.body.length c'])
    (hy : Bs w (fun b => D b ∧ some b ≠ blk A) A' y.body.length y.body) (hmc : y.body.length ≤ c') (hc9 : c' ≤ 9223372036854775807) (hs0 : 0 ≤ y.seq) (hs1 : y.seq ≤ 18446744073709551615)
    (h63 : n + 1 ≤ 1099511627776) (hbase : base ≤ w.heap.size)
    (h : ∀ A3 c3 w3, OwnRecs w3 base D A3 (n + 1) c3 (rs ++ [y]) → w.grownBy w3 (blk A) → (blk A3 = blk A ∨ blk A3 = some w.heap.size) → wpList Tryz.prog ops Q rest (a.put o.dst (.slice A3 (n + 1) c3)) w3) : wpList Tryz.prog ops Q (o :: rest) a w := by
  obtain ⟨vs, h1, h2, h3⟩ := hown
  refine app_cells3 w hgd s x ho base A n c vs hs h1 D2 A2 1 c2 [.int .i64 y.kind, .int .u64 y.seq, .slice A' y.body.length c'] hx hr (by intro u hu; simp at hu; rcases hu with rfl | rfl | rfl <;> rfl) h63 hbase ?_
  intro A3 c3 w3 hown3 hg3 hbk3
  refine h A3 c3 w3 ⟨vs ++ [.int .i64 y.kind, .int .u64 y.seq, .slice A' y.body.length c'], hown3, by simp [h2], fun k hk => ?_⟩ hg3 hbk3
  have hvl : vs.length = n * 3 := h1.1
  have move : ∀ {A0 : Option Addr} {m0 : Nat} {z : List UInt8}, Bs w (fun b => D b ∧ some b ≠ blk A) A0 m0 z → Bs w3 (fun b => D b ∧ some b ≠ blk A3) A0 m0 z := fun {A0 m0 z} hb => by
    have hk3 : Keep (fun b => some b ≠ blk A) w w3 := (Keep.refl _ w).grown hg3 (fun k hk hd => absurd hk.symm hd)
    have hb3 : Bs w (fun b => (D b ∧ some b ≠ blk A) ∧ some b ≠ blk A3) A0 m0 z := hb.imp fun b hlt hd => ⟨hd, by
      rcases hbk3 with e | e
      · rw [e]; exact hd.2
      · rw [e]; intro e'; injection e'; omega⟩
    exact (Row.keep hb3 hk3 (fun b _ hd => hd.1.2)).imp fun b _ hd => ⟨hd.1.1, hd.2⟩
  by_cases hkn : k < rs.length
  · rw [List.getElem_append_left hkn]
    obtain ⟨A0, c0, e1, e2, e3, hc, hb, hq⟩ := h3 k hkn
    exact ⟨A0, c0, by rw [List.getElem?_append_left (by omega)]; exact e1, by rw [List.getElem?_append_left (by omega)]; exact e2, by rw [List.getElem?_append_left (by omega)]; exact e3, hc, move hb, hq⟩
  · have hk' : k = rs.length := by simp at hk; omega
    subst hk'
    rw [List.getElem_append_right (Nat.le_refl _)]
    simp only [Nat.sub_self, List.getElem_singleton]
    refine ⟨A', c', ?_, ?_, ?_, hmc, move hy, hs0, hs1, hc9⟩
    · rw [List.getElem?_append_right (by omega), show rs.length * 3 - vs.length = 0 from by omega]; rfl
    · rw [List.getElem?_append_right (by omega), show rs.length * 3 + 1 - vs.length = 1 from by omega]; rfl
    · rw [List.getElem?_append_right (by omega), show rs.length * 3 + 2 - vs.length = 2 from by omega]; rfl
end Go.Proofs.YtfegdgaanmcecaaGreatDoor
/-
  PROVED HERE: rows of the reference's records that a call makes, and the law of append at them; condition: fewer than 2^40 records.
-/
namespace Go.Proofs.YtfegdgaanmcecaaGreatDoor
open Go.RowKit

theorem info_refrec : (Tryz.prog.info? 53).map (fun i => (i.zero, i.size, i.bytes)) = some (some (.agg #[.int .i64 0, .int .u64 0, .slice none 0 0]), 3, 40) := by kernel_rfl
theorem app_cells3r {ops : Array Oper} {rest : List Oper} {o : Oper} {a : Act} {Q : Exit → Act → World → Prop} (w : World) (hgd : o.guard = none) (s x : Operand)
    (ho : o.op = .call { callee := .builtin .append, args := #[s, x], argTypes := #[25, 25] })
    (base : Nat) (A : Option Addr) (n c : Nat) (xs : List Value) (hs : a.eval s = .slice A n c) (hown : Own w base 53 3 A n c xs)
    (D : Nat → Prop) (A2 : Option Addr) (m c2 : Nat) (news : List Value) (hx : a.eval x = .slice A2 m c2) (hr : Row w D A2 m 3 news) (h1 : ∀ u ∈ news, u.oneCell' = true)
    (h63 : n + m ≤ 1099511627776) (hbase : base ≤ w.heap.size)
    (h : ∀ A' c' w', Own w' base 53 3 A' (n + m) c' (xs ++ news) → w.grownBy w' (blk A) → (blk A' = blk A ∨ blk A' = some w.heap.size) → wpList Tryz.prog ops Q rest (a.put o.dst (.slice A' (n + m) c')) w') : wpList Tryz.prog ops Q (o :: rest) a w := by
  obtain ⟨i, hi, hz0, hz1, hz2⟩ := info_parts info_refrec
  exact wpList_append_row w hgd s x 25 ho base 53 i (.agg #[.int .i64 0, .int .u64 0, .slice none 0 0]) 3 40 Tryz.underlying25 hi hz0 hz1 hz2 rfl (by decide) A n c xs hs hown D A2 m c2 news hx hr h1 (by unfold maxLen; omega) (by omega) hbase h
/-- records, the row of the call's own; their bytes lie in blocks that meet D, none in the row's. -/
def OwnRefs (w : World) (base : Nat) (D : Nat → Prop) (A : Option Addr) (n c : Nat) (rs : List RecP) : Prop :=
  ∃ vs : List Value, Own w base 53 3 A n c vs ∧ rs.length = n ∧ ∀ k (h : k < rs.length), RecAt9 w (fun b => D b ∧ some b ≠ blk A) vs (k * 3) rs[k]
section
variable {w w' : World} {base base' : Nat} {D E : Nat → Prop} {A : Option Addr} {n c : Nat} {rs : List RecP}
theorem OwnRefs.nil (w : World) (base : Nat) (D : Nat → Prop) : OwnRefs w base D none 0 0 [] := ⟨[], Own.nil _ _ _ _, rfl, fun k hk => absurd hk (by simp)⟩
theorem OwnRefs.new (h : OwnRefs w base D A n c rs) (hk : New w w') : OwnRefs w' base D A n c rs := by
  obtain ⟨vs, h1, h2, h3⟩ := h
  exact ⟨vs, own_keep h1 hk (fun _ _ => trivial), h2, fun k hk' => (h3 k hk').keep hk fun _ _ _ => trivial⟩
theorem OwnRefs.len (h : OwnRefs w base D A n c rs) : rs.length = n := by obtain ⟨_, _, h, _⟩ := h; exact h
theorem OwnRefs.cap (h : OwnRefs w base D A n c rs) : n ≤ c := by obtain ⟨_, h, _⟩ := h; exact own_cap h
theorem OwnRefs.capMax (h : OwnRefs w base D A n c rs) : c ≤ 9223372036854775807 := by obtain ⟨_, h, _⟩ := h; exact own_capMax h
theorem OwnRefs.recs (h : OwnRefs w base D A n c rs) (hb : ∀ r ∈ rs, r.body.length ≤ 9223372036854770000) : Recs w (fun b => base ≤ b ∨ D b) A n rs := by
  obtain ⟨vs, h1, h2, h3⟩ := h
  refine ⟨vs, (Row.of_own h1).imp (fun _ _ h => .inl h), h2, fun k hk => ?_⟩
  obtain ⟨A', c', e1, e2, e3, hc, hB, h5, h6, h7⟩ := h3 k hk
  exact ⟨A', c', e1, e2, e3, hc, hB.imp (fun _ _ h => .inr h.1), h5, h6, hb _ (List.getElem_mem hk), h7⟩
theorem OwnRefs.lt (h : OwnRefs w base D A n c rs) : ∀ k, blk A = some k → base ≤ k ∧ k < w.heap.size := by obtain ⟨_, h, _⟩ := h; exact own_lt h
end
/-- rows of different element types never share a block. -/
theorem own_neR {w : World} {base base' : Nat} {A A' : Option Addr} {n c n' c' : Nat} {xs : List Value} {bs : List UInt8} (h : Own w base 53 3 A n c xs) (hb : OwnB w base' 5 A' n' c' bs) : Bs w (fun b => base' ≤ b ∧ some b ≠ blk A) A' n' bs := by
  have hr := Row.of_own hb
  refine ⟨hr.1, fun hn => ?_⟩
  obtain ⟨b, off, rfl, hd, hlt, hc⟩ := hr.2 hn
  refine ⟨b, off, rfl, ⟨hd, fun e => ?_⟩, hlt, hc⟩
  rcases hb.2 with ⟨hv, _⟩ | ⟨g, cap, cur, hv, _, hg, _⟩
  · cases hv
  · injection hv with hA; injection hA with hA; injection hA with hA; subst hA
    rcases h.2 with ⟨hv2, _⟩ | ⟨g2, cap2, cur2, hv2, _, hg2, _⟩
    · injection hv2 with hA; subst hA; cases e
    · injection hv2 with hA; subst hA
      have : b = g2 := by injection e
      subst this
      rw [hg] at hg2
      injection hg2 with hg2
      injection hg2 with _ ht
      exact absurd ht (by decide)
theorem OwnRefs.apart {w : World} {base base' : Nat} {D : Nat → Prop} {A A' : Option Addr} {n c n' c' : Nat} {rs : List RecP} {bs : List UInt8} (h : OwnRefs w base D A n c rs) (hb : OwnB w base' 5 A' n' c' bs) : Bs w (fun b => base' ≤ b ∧ some b ≠ blk A) A' n' bs := by
  obtain ⟨_, h, _⟩ := h; exact own_neR h hb
/-- one record more. -/
theorem app_refs {ops : Array Oper} {rest : List Oper} {o : Oper} {a : Act} {Q : Exit → Act → World → Prop} (w : World) (hgd : o.guard = none) (s x : Operand)
    (ho : o.op = .call { callee := .builtin .append, args := #[s, x], argTypes := #[25, 25] })
    (base : Nat) (D : Nat → Prop) (A : Option Addr) (n c : Nat) (rs : List RecP) (hs : a.eval s = .slice A n c) (hown : OwnRefs w base D A n c rs)
    (D2 : Nat → Prop) (A2 : Option Addr) (c2 : Nat) (A' : Option Addr) (c' : Nat) (y : RecP) (hx : a.eval x = .slice A2 1 c2) (hr : Row w D2 A2 1 3 [.int .i64 y.kind, .int .u64 y.seq, .slice A' y.body.length c'])
    (hy : Bs w (fun b => D b ∧ some b ≠ blk A) A' y.body.length y.body) (hmc : y.body.length ≤ c') (hc9 : c' ≤ 9223372036854775807) (hs0 : 0 ≤ y.seq) (hs1 : y.seq ≤ 18446744073709551615)
    (h63 : n + 1 ≤ 1099511627776) (hbase : base ≤ w.heap.size)
    (h : ∀ A3 c3 w3, OwnRefs w3 base D A3 (n + 1) c3 (rs ++ [y]) → w.grownBy w3 (blk A) → (blk A3 = blk A ∨ blk A3 = some w.heap.size) → wpList Tryz.prog ops Q rest (a.put o.dst (.slice A3 (n + 1) c3)) w3) : wpList Tryz.prog ops Q (o :: rest) a w := by
  obtain ⟨vs, h1, h2, h3⟩ := hown
  refine app_cells3r w hgd s x ho base A n c vs hs h1 D2 A2 1 c2 [.int .i64 y.kind, .int .u64 y.seq, .slice A' y.body.length c'] hx hr (by intro u hu; simp at hu; rcases hu with rfl | rfl | rfl <;> rfl) h63 hbase ?_
  intro A3 c3 w3 hown3 hg3 hbk3
  refine h A3 c3 w3 ⟨vs ++ [.int .i64 y.kind, .int .u64 y.seq, .slice A' y.body.length c'], hown3, by simp [h2], fun k hk => ?_⟩ hg3 hbk3
  have hvl : vs.length = n * 3 := h1.1
  have move : ∀ {A0 : Option Addr} {m0 : Nat} {z : List UInt8}, Bs w (fun b => D b ∧ some b ≠ blk A) A0 m0 z → Bs w3 (fun b => D b ∧ some b ≠ blk A3) A0 m0 z := fun {A0 m0 z} hb => by
    have hk3 : Keep (fun b => some b ≠ blk A) w w3 := (Keep.refl _ w).grown hg3 (fun k hk hd => absurd hk.symm hd)
    have hb3 : Bs w (fun b => (D b ∧ some b ≠ blk A) ∧ some b ≠ blk A3) A0 m0 z := hb.imp fun b hlt hd => ⟨hd, by
      rcases hbk3 with e | e
      · rw [e]; exact hd.2
      · rw [e]; intro e'; injection e'; omega⟩
    exact (Row.keep hb3 hk3 (fun b _ hd => hd.1.2)).imp fun b _ hd => ⟨hd.1.1, hd.2⟩
  by_cases hkn : k < rs.length
  · rw [List.getElem_append_left hkn]
    obtain ⟨A0, c0, e1, e2, e3, hc, hb, hq⟩ := h3 k hkn
    exact ⟨A0, c0, by rw [List.getElem?_append_left (by omega)]; exact e1, by rw [List.getElem?_append_left (by omega)]; exact e2, by rw [List.getElem?_append_left (by omega)]; exact e3, hc, move hb, hq⟩
  · have hk' : k = rs.length := by simp at hk; omega
    subst hk'
    rw [List.getElem_append_right (Nat.le_refl _)]
    simp only [Nat.sub_self, List.getElem_singleton]
    refine ⟨A', c', ?_, ?_, ?_, hmc, move hy, hs0, hs1, hc9⟩
    · rw [List.getElem?_append_right (by omega), show rs.length * 3 - vs.length = 0 from by omega]; rfl
    · rw [List.getElem?_append_right (by omega), show rs.length * 3 + 1 - vs.length = 1 from by omega]; rfl
    · rw [List.getElem?_append_right (by omega), show rs.length * 3 + 2 - vs.length = 2 from by omega]; rfl
end Go.Proofs.YtfegdgaanmcecaaGreatDoor
/-
  PROVED HERE: the law of append at rows of records, many at once; condition: fewer than 2^40 records.
-/
namespace Go.Proofs.YtfegdgaanmcecaaGreatDoor
open Go.RowKit

/-- records more. -/
theorem app_recsMR {ops : Array Oper} {rest : List Oper} {o : Oper} {a : Act} {Q : Exit → Act → World → Prop} (w : World) (hgd : o.guard = none) (s x : Operand)
    (ho : o.op = .call { callee := .builtin .append, args := #[s, x], argTypes := #[25, 25] })
    (base : Nat) (D : Nat → Prop) (A : Option Addr) (n c : Nat) (rs : List RecP) (hs : a.eval s = .slice A n c) (hown : OwnRefs w base D A n c rs)
    (base2 : Nat) (D2 : Nat → Prop) (A2 : Option Addr) (m c2 : Nat) (ls : List RecP) (hx : a.eval x = .slice A2 m c2) (hsrc : OwnRefs w base2 D2 A2 m c2 ls) (hD : ∀ b, D2 b → D b ∧ some b ≠ blk A)
    (h63 : n + m ≤ 1099511627776) (hbase : base ≤ w.heap.size)
    (h : ∀ A3 c3 w3, OwnRefs w3 base D A3 (n + m) c3 (rs ++ ls) → w.grownBy w3 (blk A) → (blk A3 = blk A ∨ blk A3 = some w.heap.size) → wpList Tryz.prog ops Q rest (a.put o.dst (.slice A3 (n + m) c3)) w3) : wpList Tryz.prog ops Q (o :: rest) a w := by
  obtain ⟨vs, h1, h2, h3⟩ := hown
  obtain ⟨us, g1, g2, g3⟩ := hsrc
  have hul : us.length = m * 3 := g1.1
  have hone : ∀ u ∈ us, u.oneCell' = true := by
    intro u hu
    obtain ⟨j, hj, rfl⟩ := List.mem_iff_getElem.1 hu
    have hjm : j / 3 < ls.length := by omega
    obtain ⟨A0, c0, e1, e2, e3, _⟩ := g3 (j / 3) hjm
    have hr : j = j / 3 * 3 ∨ j = j / 3 * 3 + 1 ∨ j = j / 3 * 3 + 2 := by omega
    rcases hr with hr | hr | hr
    · rw [← hr, List.getElem?_eq_getElem hj] at e1; injection e1 with e1; rw [e1]; rfl
    · rw [← hr, List.getElem?_eq_getElem hj] at e2; injection e2 with e2; rw [e2]; rfl
    · rw [← hr, List.getElem?_eq_getElem hj] at e3; injection e3 with e3; rw [e3]; rfl
  refine app_cells3r w hgd s x ho base A n c vs hs h1 _ A2 m c2 us hx (Row.of_own g1) hone h63 hbase ?_
  intro A3 c3 w3 hown3 hg3 hbk3
  refine h A3 c3 w3 ⟨vs ++ us, hown3, by rw [List.length_append]; omega, fun k hk => ?_⟩ hg3 hbk3
  have hvl : vs.length = n * 3 := h1.1
  have move : ∀ {A0 : Option Addr} {m0 : Nat} {z : List UInt8}, Bs w (fun b => D b ∧ some b ≠ blk A) A0 m0 z → Bs w3 (fun b => D b ∧ some b ≠ blk A3) A0 m0 z := fun {A0 m0 z} hb => by
    have hk3 : Keep (fun b => some b ≠ blk A) w w3 := (Keep.refl _ w).grown hg3 (fun k hk hd => absurd hk.symm hd)
    have hb3 : Bs w (fun b => (D b ∧ some b ≠ blk A) ∧ some b ≠ blk A3) A0 m0 z := hb.imp fun b hlt hd => ⟨hd, by
      rcases hbk3 with e | e
      · rw [e]; exact hd.2
      · rw [e]; intro e'; injection e'; omega⟩
    exact (Row.keep hb3 hk3 (fun b _ hd => hd.1.2)).imp fun b _ hd => ⟨hd.1.1, hd.2⟩
  by_cases hkn : k < rs.length
  · rw [List.getElem_append_left hkn]
    obtain ⟨A0, c0, e1, e2, e3, hc, hb, hq⟩ := h3 k hkn
    exact ⟨A0, c0, by rw [List.getElem?_append_left (by omega)]; exact e1, by rw [List.getElem?_append_left (by omega)]; exact e2, by rw [List.getElem?_append_left (by omega)]; exact e3, hc, move hb, hq⟩
  · rw [List.getElem_append_right (by omega)]
    have hkl : k - rs.length < ls.length := by rw [List.length_append] at hk; omega
    obtain ⟨A0, c0, e1, e2, e3, hc, hb, hq⟩ := g3 (k - rs.length) hkl
    refine ⟨A0, c0, ?_, ?_, ?_, hc, move (hb.imp fun b _ hd => hD b hd.1), hq⟩
    · rw [List.getElem?_append_right (by omega), show k * 3 - vs.length = (k - rs.length) * 3 from by omega]; exact e1
    · rw [List.getElem?_append_right (by omega), show k * 3 + 1 - vs.length = (k - rs.length) * 3 + 1 from by omega]; exact e2
    · rw [List.getElem?_append_right (by omega), show k * 3 + 2 - vs.length = (k - rs.length) * 3 + 2 from by omega]; exact e3
end Go.Proofs.YtfegdgaanmcecaaGreatDoor
/-
  PROVED HERE: the law of append at rows of records, many at once; condition: fewer than 2^40 records.
-/
namespace Go.Proofs.YtfegdgaanmcecaaGreatDoor
open Go.RowKit











































end Go.Proofs.YtfegdgaanmcecaaGreatDoor
