/-
  PROVED HERE: texts that belong together, one behind the other; what each proves, and under which conditions, its own opening remark says: HeadsM, HeadsW, HeadsLaw, SealLinks, ClaimSealLinks.
-/
import Derived.Test.YtpbbfbgmpidgnaaGreatDoorPkW00
import Derived.Test.YtpbbfbgmpidgnaaGreatDoorPkW25
import Derived.Test.YtpbbfbgmpidgnaaGreatDoorPkW27
import Derived.Test.YtpbbfbgmpidgnaaGreatDoorPkW28
import Derived.Test.YtpbbfbgmpidgnaaGreatDoorPkW31
import Derived.Test.YtpbbfbgmpidgnaaGreatDoorPkW32
import Derived.Test.YtpbbfbgmpidgnaaGreatDoorPkW33
import Derived.Test.YtpbbfbgmpidgnaaGreatDoorPkW34
/-
  PROVED HERE: the law of append at rows of heads, many at once; condition: fewer than 2^40 heads.
-/
namespace Go.Proofs.YtpbbfbgmpidgnaaGreatDoor
open Go.RowKit

/-- heads more: their cells in a row, their bytes apart. -/
theorem app_headsM {ops : Array Oper} {rest : List Oper} {o : Oper} {a : Act} {Q : Exit → Act → World → Prop} (w : World) (hgd : o.guard = none) (s x : Operand)
    (ho : o.op = .call { callee := .builtin .append, args := #[s, x], argTypes := #[40, 40] })
    (base : Nat) (D : Nat → Prop) (A : Option Addr) (n c : Nat) (hs : List HeadP) (hv : a.eval s = .slice A n c) (hown : OwnHeads w base D A n c hs)
    (D2 : Nat → Prop) (A2 : Option Addr) (m c2 : Nat) (us : List Value) (ms : List HeadP) (hx : a.eval x = .slice A2 m c2) (hr : Row w D2 A2 m 6 us) (hm : ms.length = m) (hy : ∀ k (h : k < ms.length), HeadAt w (fun b => D b ∧ some b ≠ blk A) us (k * 6) ms[k])
    (h63 : n + m ≤ 1099511627776) (hbase : base ≤ w.heap.size)
    (h : ∀ A3 c3 w3, OwnHeads w3 base D A3 (n + m) c3 (hs ++ ms) → w.grownBy w3 (blk A) → (blk A3 = blk A ∨ blk A3 = some w.heap.size) → wpList Tryz.prog ops Q rest (a.put o.dst (.slice A3 (n + m) c3)) w3) : wpList Tryz.prog ops Q (o :: rest) a w := by
  obtain ⟨vs, h1, h2, h3⟩ := hown
  have hul : us.length = m * 6 := hr.1
  have hone : ∀ u ∈ us, u.oneCell' = true := by
    intro u hu
    obtain ⟨j, hj, rfl⟩ := List.mem_iff_getElem.1 hu
    obtain ⟨Q1, q1, Q2, q2, e0, e1, e2, e3, e4, e5, _⟩ := hy (j / 6) (by omega)
    have hr : j = j / 6 * 6 ∨ j = j / 6 * 6 + 1 ∨ j = j / 6 * 6 + 2 ∨ j = j / 6 * 6 + 3 ∨ j = j / 6 * 6 + 4 ∨ j = j / 6 * 6 + 5 := by omega
    rcases hr with hr | hr | hr | hr | hr | hr
    · rw [← hr, List.getElem?_eq_getElem hj] at e0; injection e0 with e0; rw [e0]; rfl
    · rw [← hr, List.getElem?_eq_getElem hj] at e1; injection e1 with e1; rw [e1]; rfl
    · rw [← hr, List.getElem?_eq_getElem hj] at e2; injection e2 with e2; rw [e2]; rfl
    · rw [← hr, List.getElem?_eq_getElem hj] at e3; injection e3 with e3; rw [e3]; rfl
    · rw [← hr, List.getElem?_eq_getElem hj] at e4; injection e4 with e4; rw [e4]; rfl
    · rw [← hr, List.getElem?_eq_getElem hj] at e5; injection e5 with e5; rw [e5]; rfl
  refine app_cells6 w hgd s x ho base A n c vs hv h1 D2 A2 m c2 us hx hr hone h63 hbase ?_
  intro A3 c3 w3 hown3 hg3 hbk3
  refine h A3 c3 w3 ⟨vs ++ us, hown3, by rw [List.length_append]; omega, fun k hk => ?_⟩ hg3 hbk3
  have hvl : vs.length = n * 6 := h1.1
  have move : ∀ {A0 : Option Addr} {m0 : Nat} {z : List UInt8}, Bs w (fun b => D b ∧ some b ≠ blk A) A0 m0 z → Bs w3 (fun b => D b ∧ some b ≠ blk A3) A0 m0 z := fun {A0 m0 z} hb => by
    have hk3 : Keep (fun b => some b ≠ blk A) w w3 := (Keep.refl _ w).grown hg3 (fun k hk hd => absurd hk.symm hd)
    have hb3 : Bs w (fun b => (D b ∧ some b ≠ blk A) ∧ some b ≠ blk A3) A0 m0 z := hb.imp fun b hlt hd => ⟨hd, by
      rcases hbk3 with e | e
      · rw [e]; exact hd.2
      · rw [e]; intro e'; injection e'; omega⟩
    exact (Row.keep hb3 hk3 (fun b _ hd => hd.1.2)).imp fun b _ hd => ⟨hd.1.1, hd.2⟩
  by_cases hkn : k < hs.length
  · rw [List.getElem_append_left hkn]
    obtain ⟨Q1, q1, Q2, q2, e0, e1, e2, e3, e4, e5, l1, l2, b1, b2, f⟩ := h3 k hkn
    refine ⟨Q1, q1, Q2, q2, ?_, ?_, ?_, ?_, ?_, ?_, l1, l2, move b1, move b2, f⟩
    all_goals
      rw [List.getElem?_append_left (by omega)]
      assumption
  · rw [List.getElem_append_right (by omega)]
    have hkl : k - hs.length < ms.length := by rw [List.length_append] at hk; omega
    obtain ⟨Q1, q1, Q2, q2, e0, e1, e2, e3, e4, e5, l1, l2, b1, b2, f⟩ := hy (k - hs.length) hkl
    refine ⟨Q1, q1, Q2, q2, ?_, ?_, ?_, ?_, ?_, ?_, l1, l2, move b1, move b2, f⟩
    · rw [List.getElem?_append_right (by omega), show k * 6 - vs.length = (k - hs.length) * 6 from by omega]; exact e0
    · rw [List.getElem?_append_right (by omega), show k * 6 + 1 - vs.length = (k - hs.length) * 6 + 1 from by omega]; exact e1
    · rw [List.getElem?_append_right (by omega), show k * 6 + 2 - vs.length = (k - hs.length) * 6 + 2 from by omega]; exact e2
    · rw [List.getElem?_append_right (by omega), show k * 6 + 3 - vs.length = (k - hs.length) * 6 + 3 from by omega]; exact e3
    · rw [List.getElem?_append_right (by omega), show k * 6 + 4 - vs.length = (k - hs.length) * 6 + 4 from by omega]; exact e4
    · rw [List.getElem?_append_right (by omega), show k * 6 + 5 - vs.length = (k - hs.length) * 6 + 5 from by omega]; exact e5
end Go.Proofs.YtpbbfbgmpidgnaaGreatDoor
/-
  PROVED HERE: the laws of append at rows of heads, for one operation alone; condition: fewer than 2^40 heads.
-/
namespace Go.Proofs.YtpbbfbgmpidgnaaGreatDoor
open Go.RowKit

/-- heads more: their cells in a row, their bytes apart. -/
theorem wp_headsM {o : Oper} {a : Act} {K : Act → World → Prop} {Q : Exit → Act → World → Prop} (w : World) (s x : Operand)
    (ho : o.op = .call { callee := .builtin .append, args := #[s, x], argTypes := #[40, 40] })
    (base : Nat) (D : Nat → Prop) (A : Option Addr) (n c : Nat) (hs : List HeadP) (hv : a.eval s = .slice A n c) (hown : OwnHeads w base D A n c hs)
    (D2 : Nat → Prop) (A2 : Option Addr) (m c2 : Nat) (us : List Value) (ms : List HeadP) (hx : a.eval x = .slice A2 m c2) (hr : Row w D2 A2 m 6 us) (hm : ms.length = m) (hy : ∀ k (h : k < ms.length), HeadAt w (fun b => D b ∧ some b ≠ blk A) us (k * 6) ms[k])
    (h63 : n + m ≤ 1099511627776) (hbase : base ≤ w.heap.size)
    (h : ∀ A3 c3 w3, OwnHeads w3 base D A3 (n + m) c3 (hs ++ ms) → w.grownBy w3 (blk A) → (blk A3 = blk A ∨ blk A3 = some w.heap.size) → K (a.put o.dst (.slice A3 (n + m) c3)) w3) : o.wp Tryz.prog a w K Q := by
  obtain ⟨vs, h1, h2, h3⟩ := hown
  have hul : us.length = m * 6 := hr.1
  have hone : ∀ u ∈ us, u.oneCell' = true := by
    intro u hu
    obtain ⟨j, hj, rfl⟩ := List.mem_iff_getElem.1 hu
    obtain ⟨Q1, q1, Q2, q2, e0, e1, e2, e3, e4, e5, _⟩ := hy (j / 6) (by omega)
    have hr : j = j / 6 * 6 ∨ j = j / 6 * 6 + 1 ∨ j = j / 6 * 6 + 2 ∨ j = j / 6 * 6 + 3 ∨ j = j / 6 * 6 + 4 ∨ j = j / 6 * 6 + 5 := by omega
    rcases hr with hr | hr | hr | hr | hr | hr
    · rw [← hr, List.getElem?_eq_getElem hj] at e0; injection e0 with e0; rw [e0]; rfl
    · rw [← hr, List.getElem?_eq_getElem hj] at e1; injection e1 with e1; rw [e1]; rfl
    · rw [← hr, List.getElem?_eq_getElem hj] at e2; injection e2 with e2; rw [e2]; rfl
    · rw [← hr, List.getElem?_eq_getElem hj] at e3; injection e3 with e3; rw [e3]; rfl
    · rw [← hr, List.getElem?_eq_getElem hj] at e4; injection e4 with e4; rw [e4]; rfl
    · rw [← hr, List.getElem?_eq_getElem hj] at e5; injection e5 with e5; rw [e5]; rfl
  obtain ⟨i, hi, hz0, hz1, hz2⟩ := info_parts info_head
  refine wp_append_row w s x 40 ho base 36 i (.agg #[.int .i64 0, .int .u64 0, .int .i64 0, .int .i64 0, .slice none 0 0, .slice none 0 0]) 6 80 Tryz.underlying40 hi hz0 hz1 hz2 rfl (by decide) A n c vs hv h1 D2 A2 m c2 us hx hr hone (by unfold maxLen; omega) (by omega) hbase ?_
  intro A3 c3 w3 hown3 hg3 hbk3
  refine h A3 c3 w3 ⟨vs ++ us, hown3, by rw [List.length_append]; omega, fun k hk => ?_⟩ hg3 hbk3
  have hvl : vs.length = n * 6 := h1.1
  have move : ∀ {A0 : Option Addr} {m0 : Nat} {z : List UInt8}, Bs w (fun b => D b ∧ some b ≠ blk A) A0 m0 z → Bs w3 (fun b => D b ∧ some b ≠ blk A3) A0 m0 z := fun {A0 m0 z} hb => by
    have hk3 : Keep (fun b => some b ≠ blk A) w w3 := (Keep.refl _ w).grown hg3 (fun k hk hd => absurd hk.symm hd)
    have hb3 : Bs w (fun b => (D b ∧ some b ≠ blk A) ∧ some b ≠ blk A3) A0 m0 z := hb.imp fun b hlt hd => ⟨hd, by
      rcases hbk3 with e | e
      · rw [e]; exact hd.2
      · rw [e]; intro e'; injection e'; omega⟩
    exact (Row.keep hb3 hk3 (fun b _ hd => hd.1.2)).imp fun b _ hd => ⟨hd.1.1, hd.2⟩
  by_cases hkn : k < hs.length
  · rw [List.getElem_append_left hkn]
    obtain ⟨Q1, q1, Q2, q2, e0, e1, e2, e3, e4, e5, l1, l2, b1, b2, f⟩ := h3 k hkn
    refine ⟨Q1, q1, Q2, q2, ?_, ?_, ?_, ?_, ?_, ?_, l1, l2, move b1, move b2, f⟩
    all_goals
      rw [List.getElem?_append_left (by omega)]
      assumption
  · rw [List.getElem_append_right (by omega)]
    have hkl : k - hs.length < ms.length := by rw [List.length_append] at hk; omega
    obtain ⟨Q1, q1, Q2, q2, e0, e1, e2, e3, e4, e5, l1, l2, b1, b2, f⟩ := hy (k - hs.length) hkl
    refine ⟨Q1, q1, Q2, q2, ?_, ?_, ?_, ?_, ?_, ?_, l1, l2, move b1, move b2, f⟩
    · rw [List.getElem?_append_right (by omega), show k * 6 - vs.length = (k - hs.length) * 6 from by omega]; exact e0
    · rw [List.getElem?_append_right (by omega), show k * 6 + 1 - vs.length = (k - hs.length) * 6 + 1 from by omega]; exact e1
    · rw [List.getElem?_append_right (by omega), show k * 6 + 2 - vs.length = (k - hs.length) * 6 + 2 from by omega]; exact e2
    · rw [List.getElem?_append_right (by omega), show k * 6 + 3 - vs.length = (k - hs.length) * 6 + 3 from by omega]; exact e3
    · rw [List.getElem?_append_right (by omega), show k * 6 + 4 - vs.length = (k - hs.length) * 6 + 4 from by omega]; exact e4
    · rw [List.getElem?_append_right (by omega), show k * 6 + 5 - vs.length = (k - hs.length) * 6 + 5 from by omega]; exact e5
/-- the document's heads more: their cells in a row, their bytes apart. -/
theorem wp_headsMR {o : Oper} {a : Act} {K : Act → World → Prop} {Q : Exit → Act → World → Prop} (w : World) (s x : Operand)
    (ho : o.op = .call { callee := .builtin .append, args := #[s, x], argTypes := #[37, 37] })
    (base : Nat) (D : Nat → Prop) (A : Option Addr) (n c : Nat) (hs : List HeadP) (hv : a.eval s = .slice A n c) (hown : OwnHeadsR w base D A n c hs)
    (D2 : Nat → Prop) (A2 : Option Addr) (m c2 : Nat) (us : List Value) (ms : List HeadP) (hx : a.eval x = .slice A2 m c2) (hr : Row w D2 A2 m 6 us) (hm : ms.length = m) (hy : ∀ k (h : k < ms.length), HeadAt w (fun b => D b ∧ some b ≠ blk A) us (k * 6) ms[k])
    (h63 : n + m ≤ 1099511627776) (hbase : base ≤ w.heap.size)
    (h : ∀ A3 c3 w3, OwnHeadsR w3 base D A3 (n + m) c3 (hs ++ ms) → w.grownBy w3 (blk A) → (blk A3 = blk A ∨ blk A3 = some w.heap.size) → K (a.put o.dst (.slice A3 (n + m) c3)) w3) : o.wp Tryz.prog a w K Q := by
  obtain ⟨vs, h1, h2, h3⟩ := hown
  have hul : us.length = m * 6 := hr.1
  have hone : ∀ u ∈ us, u.oneCell' = true := by
    intro u hu
    obtain ⟨j, hj, rfl⟩ := List.mem_iff_getElem.1 hu
    obtain ⟨Q1, q1, Q2, q2, e0, e1, e2, e3, e4, e5, _⟩ := hy (j / 6) (by omega)
    have hr : j = j / 6 * 6 ∨ j = j / 6 * 6 + 1 ∨ j = j / 6 * 6 + 2 ∨ j = j / 6 * 6 + 3 ∨ j = j / 6 * 6 + 4 ∨ j = j / 6 * 6 + 5 := by omega
    rcases hr with hr | hr | hr | hr | hr | hr
    · rw [← hr, List.getElem?_eq_getElem hj] at e0; injection e0 with e0; rw [e0]; rfl
    · rw [← hr, List.getElem?_eq_getElem hj] at e1; injection e1 with e1; rw [e1]; rfl
    · rw [← hr, List.getElem?_eq_getElem hj] at e2; injection e2 with e2; rw [e2]; rfl
    · rw [← hr, List.getElem?_eq_getElem hj] at e3; injection e3 with e3; rw [e3]; rfl
    · rw [← hr, List.getElem?_eq_getElem hj] at e4; injection e4 with e4; rw [e4]; rfl
    · rw [← hr, List.getElem?_eq_getElem hj] at e5; injection e5 with e5; rw [e5]; rfl
  obtain ⟨i, hi, hz0, hz1, hz2⟩ := info_parts info_headR
  refine wp_append_row w s x 37 ho base 45 i (.agg #[.int .i64 0, .int .u64 0, .int .i64 0, .int .i64 0, .slice none 0 0, .slice none 0 0]) 6 80 Tryz.underlying37 hi hz0 hz1 hz2 rfl (by decide) A n c vs hv h1 D2 A2 m c2 us hx hr hone (by unfold maxLen; omega) (by omega) hbase ?_
  intro A3 c3 w3 hown3 hg3 hbk3
  refine h A3 c3 w3 ⟨vs ++ us, hown3, by rw [List.length_append]; omega, fun k hk => ?_⟩ hg3 hbk3
  have hvl : vs.length = n * 6 := h1.1
  have move : ∀ {A0 : Option Addr} {m0 : Nat} {z : List UInt8}, Bs w (fun b => D b ∧ some b ≠ blk A) A0 m0 z → Bs w3 (fun b => D b ∧ some b ≠ blk A3) A0 m0 z := fun {A0 m0 z} hb => by
    have hk3 : Keep (fun b => some b ≠ blk A) w w3 := (Keep.refl _ w).grown hg3 (fun k hk hd => absurd hk.symm hd)
    have hb3 : Bs w (fun b => (D b ∧ some b ≠ blk A) ∧ some b ≠ blk A3) A0 m0 z := hb.imp fun b hlt hd => ⟨hd, by
      rcases hbk3 with e | e
      · rw [e]; exact hd.2
      · rw [e]; intro e'; injection e'; omega⟩
    exact (Row.keep hb3 hk3 (fun b _ hd => hd.1.2)).imp fun b _ hd => ⟨hd.1.1, hd.2⟩
  by_cases hkn : k < hs.length
  · rw [List.getElem_append_left hkn]
    obtain ⟨Q1, q1, Q2, q2, e0, e1, e2, e3, e4, e5, l1, l2, b1, b2, f⟩ := h3 k hkn
    refine ⟨Q1, q1, Q2, q2, ?_, ?_, ?_, ?_, ?_, ?_, l1, l2, move b1, move b2, f⟩
    all_goals
      rw [List.getElem?_append_left (by omega)]
      assumption
  · rw [List.getElem_append_right (by omega)]
    have hkl : k - hs.length < ms.length := by rw [List.length_append] at hk; omega
    obtain ⟨Q1, q1, Q2, q2, e0, e1, e2, e3, e4, e5, l1, l2, b1, b2, f⟩ := hy (k - hs.length) hkl
    refine ⟨Q1, q1, Q2, q2, ?_, ?_, ?_, ?_, ?_, ?_, l1, l2, move b1, move b2, f⟩
    · rw [List.getElem?_append_right (by omega), show k * 6 - vs.length = (k - hs.length) * 6 from by omega]; exact e0
    · rw [List.getElem?_append_right (by omega), show k * 6 + 1 - vs.length = (k - hs.length) * 6 + 1 from by omega]; exact e1
    · rw [List.getElem?_append_right (by omega), show k * 6 + 2 - vs.length = (k - hs.length) * 6 + 2 from by omega]; exact e2
    · rw [List.getElem?_append_right (by omega), show k * 6 + 3 - vs.length = (k - hs.length) * 6 + 3 from by omega]; exact e3
    · rw [List.getElem?_append_right (by omega), show k * 6 + 4 - vs.length = (k - hs.length) * 6 + 4 from by omega]; exact e4
    · rw [List.getElem?_append_right (by omega), show k * 6 + 5 - vs.length = (k - hs.length) * 6 + 5 from by omega]; exact e5
theorem head_one (w : World) (t : TypeId) (h : HeadP) (P1 P2 : Option Addr) (p1 p2 : Nat) : Row (w.alloc (.cells #[.int .i64 h.index, .int .u64 h.first, .int .i64 h.count, .int .i64 h.bytes, .slice P1 h.prev.length p1, .slice P2 h.root.length p2] t)) (fun b => w.heap.size ≤ b) (some ⟨w.heap.size, 0, none⟩) 1 6 [.int .i64 h.index, .int .u64 h.first, .int .i64 h.count, .int .i64 h.bytes, .slice P1 h.prev.length p1, .slice P2 h.root.length p2] := Row.made w t _ 1 6 rfl
theorem headAt_one {w : World} {D : Nat → Prop} {h : HeadP} {P1 P2 : Option Addr} {p1 p2 : Nat} (l1 : h.prev.length ≤ p1) (l2 : h.root.length ≤ p2) (b1 : Bs w D P1 h.prev.length h.prev) (b2 : Bs w D P2 h.root.length h.root) (f0 : 0 ≤ h.first) (f1 : h.first ≤ 18446744073709551615) :
    ∀ k (hk : k < [h].length), HeadAt w D [.int .i64 h.index, .int .u64 h.first, .int .i64 h.count, .int .i64 h.bytes, .slice P1 h.prev.length p1, .slice P2 h.root.length p2] (k * 6) [h][k] := by
  intro k hk
  obtain rfl : k = 0 := by simpa using hk
  exact ⟨P1, p1, P2, p2, rfl, rfl, rfl, rfl, rfl, rfl, l1, l2, b1, b2, f0, f1⟩
end Go.Proofs.YtpbbfbgmpidgnaaGreatDoor
/-
  PROVED HERE: what permafrostlaw18.heads answers; condition: fewer than 2^40 heads.
-/
namespace Go.Proofs.YtpbbfbgmpidgnaaGreatDoor
open Go.RowKit

set_option maxRecDepth 100000 in
set_option maxHeartbeats 1000000 in
theorem headslaw_any (D : Nat → Prop) (A : Option Addr) (n c : Nat) (hs : List HeadP) (w : World) (hH : Heads w D A n hs) (hn : n ≤ 1000000) :
    Calls Tryz.prog 20 #[.slice A n c] w fun e w' => (∃ A' c', e = .returned (.slice A' n c') ∧ OwnHeads w' w.heap.size (fun b => b < w.heap.size) A' n c' hs) ∧ New w w' := by
  have HL := Lib.hid hH.len
  have HH := Lib.hid (hH.imp (E := fun b => b < w.heap.size) fun b hb _ => hb)
  clear hH
  go_enter Tryz.func20, Tryz.ntmps20
  go_wp2_with fail
  go_loopw [3, 4] (fun s3 i wx => ∃ (k : Nat) (A' : Option Addr) (c' : Nat), k ≤ n ∧ i = .int .i64 (k : Int) ∧ s3 = .slice A' k c' ∧ OwnHeads wx w.heap.size (fun b => b < w.heap.size) A' k c' (hs.take k) ∧ New w wx) (fun _ i _ => n - (intOf i).toNat)
  case atStart => exact ⟨0, none, 0, Nat.zero_le _, rfl, rfl, OwnHeads.nil _ _ _, New.refl _⟩
  case round =>
    obtain ⟨k, A', c', hk, rfl, rfl, ho, hK⟩ := hrel
    have HO := Lib.hid ho
    have HK := Lib.hid hK
    clear ho hK
    by_cases hlt : k < n
    · have hlk : k < hs.length := by have := HL.out; omega
      obtain ⟨b, off, P1, p1, P2, p2, rfl, hbD, u0, u1, u2, u3, u4, u5, l1, l2, b1, b2, f0, f1⟩ := (HH.out.new HK.out).at_ hlk
      have HT : Hid (hs.take (k + 1) = hs.take k ++ [hs[k]]) := Lib.hid (by rw [List.take_add_one, List.getElem?_eq_getElem hlk]; rfl)
      have hsz := HK.out.size
      have hlw : b < w.heap.size := hbD
      have y0 : ∀ W, Keep (Lo w.heap.size) wr.drew W → W.cell? ⟨b, off + k * 6, none⟩ = some (.int .i64 hs[k].index) := fun W h => h.cell_some (a := wr.drew) u0 hlw
      have y1 : ∀ W, Keep (Lo w.heap.size) wr.drew W → W.cell? ⟨b, off + k * 6 + 1, none⟩ = some (.int .u64 hs[k].first) := fun W h => h.cell_some (a := wr.drew) u1 hlw
      have y2 : ∀ W, Keep (Lo w.heap.size) wr.drew W → W.cell? ⟨b, off + k * 6 + 2, none⟩ = some (.int .i64 hs[k].count) := fun W h => h.cell_some (a := wr.drew) u2 hlw
      have y3 : ∀ W, Keep (Lo w.heap.size) wr.drew W → W.cell? ⟨b, off + k * 6 + 3, none⟩ = some (.int .i64 hs[k].bytes) := fun W h => h.cell_some (a := wr.drew) u3 hlw
      have y4 : ∀ W, Keep (Lo w.heap.size) wr.drew W → W.cell? ⟨b, off + k * 6 + 4, none⟩ = some (.slice P1 hs[k].prev.length p1) := fun W h => h.cell_some (a := wr.drew) u4 hlw
      have y5 : ∀ W, Keep (Lo w.heap.size) wr.drew W → W.cell? ⟨b, off + k * 6 + 5, none⟩ = some (.slice P2 hs[k].root.length p2) := fun W h => h.cell_some (a := wr.drew) u5 hlw
      clear u0 u1 u2 u3 u4 u5
      generalize hs[k] = h at *
      have kA : New wr.drew (wr.drew.alloc (.cells #[.int .i64 h.index, .int .u64 h.first, .int .i64 h.count, .int .i64 h.bytes, .slice P1 h.prev.length p1, .slice P2 h.root.length p2] 36)) := (New.refl _).alloc _
      have hrow := head_one wr.drew 36 h P1 P2 p1 p2
      have HOA := Lib.hid (OwnHeads.new (OwnHeads.new HO.out ((New.refl wr).drew)) kA)
      have hwb : ∀ {P : Option Addr} {m : Nat} {z : List UInt8}, Bs wr (fun b => b < w.heap.size) P m z → Bs (wr.drew.alloc (.cells #[.int .i64 h.index, .int .u64 h.first, .int .i64 h.count, .int .i64 h.bytes, .slice P1 h.prev.length p1, .slice P2 h.root.length p2] 36)) (fun b => b < w.heap.size ∧ some b ≠ blk A') P m z := fun hb => (Row.new (Row.drew hb) kA).imp fun b _ hd => ⟨hd, fun e => by have := (HO.out.lt b e.symm).1; omega⟩
      have HIT := Lib.hid (headAt_one l1 l2 (hwb b1) (hwb b2) f0 f1)
      have hbd : k + 1 ≤ 1099511627776 := by omega
      have hsA : w.heap.size ≤ (wr.drew.alloc (.cells #[.int .i64 h.index, .int .u64 h.first, .int .i64 h.count, .int .i64 h.bytes, .slice P1 h.prev.length p1, .slice P2 h.root.length p2] 36)).heap.size := Nat.le_trans hsz kA.size
      clear b1 b2 hwb
      go_wp2_with fail
      refine hold_beginS (Keep (Lo w.heap.size) wr.drew) (by kernel_rfl) ?_
      have n0 : Keep (Lo w.heap.size) wr.drew wr.drew := Keep.refl _ _
      refine hold_read0 (i := 0) (v := ?_) n0 rfl (by kernel_rfl) (by kernel_rfl) (by kernel_rfl) (fun _ _ _ h => h) rfl ?_ ?_
      rotate_left
      · intro w' hN
        go_simp
        try with_reducible rfl
      simp only [Act.put, List.getElem_toArray, List.getElem_cons_zero, List.setIfInBounds_toArray, List.set_cons_zero, List.set_cons_succ]
      refine hold_read0 (i := 1) (v := ?_) n0 rfl (by kernel_rfl) (by kernel_rfl) (by kernel_rfl) (fun _ _ _ h => h) rfl ?_ ?_
      rotate_left
      · intro w' hN
        go_simp
        try with_reducible rfl
      simp only [Act.put, List.getElem_toArray, List.getElem_cons_succ, List.getElem_cons_zero, List.setIfInBounds_toArray, List.set_cons_zero, List.set_cons_succ]
      refine hold_read0 (i := 2) (v := ?_) n0 rfl (by kernel_rfl) (by kernel_rfl) (by kernel_rfl) (fun _ _ _ h => h) rfl ?_ ?_
      rotate_left
      · intro w' hN
        go_simp
        try with_reducible rfl
      simp only [Act.put, List.getElem_toArray, List.getElem_cons_succ, List.getElem_cons_zero, List.setIfInBounds_toArray, List.set_cons_zero, List.set_cons_succ]
      refine hold_read0 (i := 3) (v := ?_) n0 rfl (by kernel_rfl) (by kernel_rfl) (by kernel_rfl) (fun _ _ _ h => h) rfl ?_ ?_
      rotate_left
      · intro w' hN
        go_simp
        try with_reducible rfl
      simp only [Act.put, List.getElem_toArray, List.getElem_cons_succ, List.getElem_cons_zero, List.setIfInBounds_toArray, List.set_cons_zero, List.set_cons_succ]
      refine hold_read0 (i := 4) (v := ?_) n0 rfl (by kernel_rfl) (by kernel_rfl) (by kernel_rfl) (fun _ _ _ h => h) rfl ?_ ?_
      rotate_left
      · intro w' hN
        go_simp
        try with_reducible rfl
      simp only [Act.put, List.getElem_toArray, List.getElem_cons_succ, List.getElem_cons_zero, List.setIfInBounds_toArray, List.set_cons_zero, List.set_cons_succ]
      refine hold_read0 (i := 5) (v := ?_) n0 rfl (by kernel_rfl) (by kernel_rfl) (by kernel_rfl) (fun _ _ _ h => h) rfl ?_ ?_
      rotate_left
      · intro w' hN
        go_simp
        try with_reducible rfl
      simp only [Act.put, List.getElem_toArray, List.getElem_cons_succ, List.getElem_cons_zero, List.setIfInBounds_toArray, List.set_cons_zero, List.set_cons_succ]
      refine hold_read0 (i := 6) (v := ?_) n0 rfl (by kernel_rfl) (by kernel_rfl) (by kernel_rfl) (fun _ _ _ h => h) rfl ?_ ?_
      rotate_left
      · intro w' hN
        go_simp
        try with_reducible rfl
      simp only [Act.put, List.getElem_toArray, List.getElem_cons_succ, List.getElem_cons_zero, List.setIfInBounds_toArray, List.set_cons_zero, List.set_cons_succ]
      refine hold_read0 (i := 7) (v := ?_) n0 rfl (by kernel_rfl) (by kernel_rfl) (by kernel_rfl) (fun _ _ _ h => h) rfl ?_ ?_
      rotate_left
      · intro w' hN
        go_simp
        try with_reducible rfl
      simp only [Act.put, List.getElem_toArray, List.getElem_cons_succ, List.getElem_cons_zero, List.setIfInBounds_toArray, List.set_cons_zero, List.set_cons_succ]
      refine hold_read0 (i := 8) (v := ?_) n0 rfl (by kernel_rfl) (by kernel_rfl) (by kernel_rfl) (fun _ _ _ h => h) rfl ?_ ?_
      rotate_left
      · intro w' hN
        go_simp
        try with_reducible rfl
      simp only [Act.put, List.getElem_toArray, List.getElem_cons_succ, List.getElem_cons_zero, List.setIfInBounds_toArray, List.set_cons_zero, List.set_cons_succ]
      refine hold_read0 (i := 9) (v := ?_) n0 rfl (by kernel_rfl) (by kernel_rfl) (by kernel_rfl) (fun _ _ _ h => h) rfl ?_ ?_
      rotate_left
      · intro w' hN
        go_simp
        try with_reducible rfl
      simp only [Act.put, List.getElem_toArray, List.getElem_cons_succ, List.getElem_cons_zero, List.setIfInBounds_toArray, List.set_cons_zero, List.set_cons_succ]
      refine hold_read0 (i := 10) (v := ?_) n0 rfl (by kernel_rfl) (by kernel_rfl) (by kernel_rfl) (fun _ _ _ h => h) rfl ?_ ?_
      rotate_left
      · intro w' hN
        go_simp
        try with_reducible rfl
      simp only [Act.put, List.getElem_toArray, List.getElem_cons_succ, List.getElem_cons_zero, List.setIfInBounds_toArray, List.set_cons_zero, List.set_cons_succ]
      refine hold_read0 (i := 11) (v := ?_) n0 rfl (by kernel_rfl) (by kernel_rfl) (by kernel_rfl) (fun _ _ _ h => h) rfl ?_ ?_
      rotate_left
      · intro w' hN
        go_simp
        try with_reducible rfl
      simp only [Act.put, List.getElem_toArray, List.getElem_cons_succ, List.getElem_cons_zero, List.setIfInBounds_toArray, List.set_cons_zero, List.set_cons_succ]
      refine hold_read0 (i := 12) (v := ?_) n0 rfl (by kernel_rfl) (by kernel_rfl) (by kernel_rfl) (fun _ _ _ h => h) rfl ?_ ?_
      rotate_left
      · intro w' hN
        go_simp
        try with_reducible rfl
      simp only [Act.put, List.getElem_toArray, List.getElem_cons_succ, List.getElem_cons_zero, List.setIfInBounds_toArray, List.set_cons_zero, List.set_cons_succ]
      refine hold_read0 (i := 13) (v := ?_) n0 rfl (by kernel_rfl) (by kernel_rfl) (by kernel_rfl) (fun _ _ _ h => h) rfl ?_ ?_
      rotate_left
      · intro w' hN
        go_simp
        try with_reducible rfl
      simp only [Act.put, List.getElem_toArray, List.getElem_cons_succ, List.getElem_cons_zero, List.setIfInBounds_toArray, List.set_cons_zero, List.set_cons_succ]
      refine hold_read0 (i := 14) (v := ?_) n0 rfl (by kernel_rfl) (by kernel_rfl) (by kernel_rfl) (fun _ _ _ h => h) rfl ?_ ?_
      rotate_left
      · intro w' hN
        go_simp
        try with_reducible rfl
      simp only [Act.put, List.getElem_toArray, List.getElem_cons_succ, List.getElem_cons_zero, List.setIfInBounds_toArray, List.set_cons_zero, List.set_cons_succ]
      refine hold_read0 (i := 15) (v := ?_) n0 rfl (by kernel_rfl) (by kernel_rfl) (by kernel_rfl) (fun _ _ _ h => h) rfl ?_ ?_
      rotate_left
      · intro w' hN
        go_simp
        try with_reducible rfl
      simp only [Act.put, List.getElem_toArray, List.getElem_cons_succ, List.getElem_cons_zero, List.setIfInBounds_toArray, List.set_cons_zero, List.set_cons_succ]
      refine hold_read0 (i := 16) (v := ?_) n0 rfl (by kernel_rfl) (by kernel_rfl) (by kernel_rfl) (fun _ _ _ h => h) rfl ?_ ?_
      rotate_left
      · intro w' hN
        go_simp
        try with_reducible rfl
      simp only [Act.put, List.getElem_toArray, List.getElem_cons_succ, List.getElem_cons_zero, List.setIfInBounds_toArray, List.set_cons_zero, List.set_cons_succ]
      refine hold_read0 (i := 17) (v := ?_) n0 rfl (by kernel_rfl) (by kernel_rfl) (by kernel_rfl) (fun _ _ _ h => h) rfl ?_ ?_
      rotate_left
      · intro w' hN
        go_simp
        try with_reducible rfl
      simp only [Act.put, List.getElem_toArray, List.getElem_cons_succ, List.getElem_cons_zero, List.setIfInBounds_toArray, List.set_cons_zero, List.set_cons_succ]
      refine hold_read0 (i := 18) (v := ?_) n0 rfl (by kernel_rfl) (by kernel_rfl) (by kernel_rfl) (fun _ _ _ h => h) rfl ?_ ?_
      rotate_left
      · intro w' hN
        go_simp
        try with_reducible rfl
      simp only [Act.put, List.getElem_toArray, List.getElem_cons_succ, List.getElem_cons_zero, List.setIfInBounds_toArray, List.set_cons_zero, List.set_cons_succ]
      refine hold_read0 (i := 19) (v := ?_) n0 rfl (by kernel_rfl) (by kernel_rfl) (by kernel_rfl) (fun _ _ _ h => h) rfl ?_ ?_
      rotate_left
      · intro w' hN
        go_simp
        try with_reducible rfl
      simp only [Act.put, List.getElem_toArray, List.getElem_cons_succ, List.getElem_cons_zero, List.setIfInBounds_toArray, List.set_cons_zero, List.set_cons_succ]
      refine hold_read0 (i := 20) (v := ?_) n0 rfl (by kernel_rfl) (by kernel_rfl) (by kernel_rfl) (fun _ _ _ h => h) rfl ?_ ?_
      rotate_left
      · intro w' hN
        go_simp
        try with_reducible rfl
      simp only [Act.put, List.getElem_toArray, List.getElem_cons_succ, List.getElem_cons_zero, List.setIfInBounds_toArray, List.set_cons_zero, List.set_cons_succ]
      refine hold_read0 (i := 21) (v := ?_) n0 rfl (by kernel_rfl) (by kernel_rfl) (by kernel_rfl) (fun _ _ _ h => h) rfl ?_ ?_
      rotate_left
      · intro w' hN
        go_simp
        try with_reducible rfl
      simp only [Act.put, List.getElem_toArray, List.getElem_cons_succ, List.getElem_cons_zero, List.setIfInBounds_toArray, List.set_cons_zero, List.set_cons_succ]
      refine hold_read0 (i := 22) (v := ?_) n0 rfl (by kernel_rfl) (by kernel_rfl) (by kernel_rfl) (fun _ _ _ h => h) rfl ?_ ?_
      rotate_left
      · intro w' hN
        go_simp
        try with_reducible rfl
      simp only [Act.put, List.getElem_toArray, List.getElem_cons_succ, List.getElem_cons_zero, List.setIfInBounds_toArray, List.set_cons_zero, List.set_cons_succ]
      refine hold_read0 (i := 23) (v := ?_) n0 rfl (by kernel_rfl) (by kernel_rfl) (by kernel_rfl) (fun _ _ _ h => h) rfl ?_ ?_
      rotate_left
      · intro w' hN
        go_simp
        try with_reducible rfl
      simp only [Act.put, List.getElem_toArray, List.getElem_cons_succ, List.getElem_cons_zero, List.setIfInBounds_toArray, List.set_cons_zero, List.set_cons_succ]
      refine hold_read0 (i := 24) (v := ?_) n0 rfl (by kernel_rfl) (by kernel_rfl) (by kernel_rfl) (fun _ _ _ h => h) rfl ?_ ?_
      rotate_left
      · intro w' hN
        go_simp
        try with_reducible rfl
      simp only [Act.put, List.getElem_toArray, List.getElem_cons_succ, List.getElem_cons_zero, List.setIfInBounds_toArray, List.set_cons_zero, List.set_cons_succ]
      refine hold_read0 (i := 25) (v := ?_) n0 rfl (by kernel_rfl) (by kernel_rfl) (by kernel_rfl) (fun _ _ _ h => h) rfl ?_ ?_
      rotate_left
      · intro w' hN
        go_simp
        try with_reducible rfl
      simp only [Act.put, List.getElem_toArray, List.getElem_cons_succ, List.getElem_cons_zero, List.setIfInBounds_toArray, List.set_cons_zero, List.set_cons_succ]
      refine hold_read0 (i := 26) (v := ?_) n0 rfl (by kernel_rfl) (by kernel_rfl) (by kernel_rfl) (fun _ _ _ h => h) rfl ?_ ?_
      rotate_left
      · intro w' hN
        go_simp
        try with_reducible rfl
      simp only [Act.put, List.getElem_toArray, List.getElem_cons_succ, List.getElem_cons_zero, List.setIfInBounds_toArray, List.set_cons_zero, List.set_cons_succ]
      refine hold_read0 (i := 27) (v := ?_) n0 rfl (by kernel_rfl) (by kernel_rfl) (by kernel_rfl) (fun _ _ _ h => h) rfl ?_ ?_
      rotate_left
      · intro w' hN
        go_simp
        try with_reducible rfl
      simp only [Act.put, List.getElem_toArray, List.getElem_cons_succ, List.getElem_cons_zero, List.setIfInBounds_toArray, List.set_cons_zero, List.set_cons_succ]
      refine hold_read0 (i := 28) (v := ?_) n0 rfl (by kernel_rfl) (by kernel_rfl) (by kernel_rfl) (fun _ _ _ h => h) rfl ?_ ?_
      rotate_left
      · intro w' hN
        go_simp
        try with_reducible rfl
      simp only [Act.put, List.getElem_toArray, List.getElem_cons_succ, List.getElem_cons_zero, List.setIfInBounds_toArray, List.set_cons_zero, List.set_cons_succ]
      refine hold_read0 (i := 29) (v := ?_) n0 rfl (by kernel_rfl) (by kernel_rfl) (by kernel_rfl) (fun _ _ _ h => h) rfl ?_ ?_
      rotate_left
      · intro w' hN
        go_simp
        try with_reducible rfl
      simp only [Act.put, List.getElem_toArray, List.getElem_cons_succ, List.getElem_cons_zero, List.setIfInBounds_toArray, List.set_cons_zero, List.set_cons_succ]
      refine hold_read0 (i := 30) (v := ?_) n0 rfl (by kernel_rfl) (by kernel_rfl) (by kernel_rfl) (fun _ _ _ h => h) rfl ?_ ?_
      rotate_left
      · intro w' hN
        go_simp
        try with_reducible rfl
      simp only [Act.put, List.getElem_toArray, List.getElem_cons_succ, List.getElem_cons_zero, List.setIfInBounds_toArray, List.set_cons_zero, List.set_cons_succ]
      refine hold_read0 (i := 31) (v := ?_) n0 rfl (by kernel_rfl) (by kernel_rfl) (by kernel_rfl) (fun _ _ _ h => h) rfl ?_ ?_
      rotate_left
      · intro w' hN
        go_simp
        try with_reducible rfl
      simp only [Act.put, List.getElem_toArray, List.getElem_cons_succ, List.getElem_cons_zero, List.setIfInBounds_toArray, List.set_cons_zero, List.set_cons_succ]
      refine hold_step0 (i := 32) (by kernel_rfl) rfl rfl (fun K hK => ?_)
      go_simp
      go_wp2_with fail
      have n1 := Keep.new n0 kA
      refine hK.out _ _ n1 ?_
      clear hK K
      try simp only [Act.put, List.getElem_toArray, List.getElem_cons_succ, List.getElem_cons_zero, List.setIfInBounds_toArray, List.set_cons_zero, List.set_cons_succ]
      replace n0 := n1
      clear n1
      refine hold_step0 (i := 33) (by kernel_rfl) rfl rfl (fun K hK => ?_)
      refine wp_headsM _ _ _ rfl w.heap.size (fun b => b < w.heap.size) A' k c' (hs.take k) rfl HOA.out _ _ 1 1 _ [h] rfl hrow rfl HIT.out hbd hsA ?_
      intro A3 c3 w3 hown3 hg3 hbk3
      have n1 := n0.grown hg3 (fun j hj hd => absurd hd (by have := (HOA.out.lt j hj).1; show ¬ j < w.heap.size; omega))
      refine hK.out _ _ n1 ?_
      clear hK K
      try simp only [Act.put, List.getElem_toArray, List.getElem_cons_succ, List.getElem_cons_zero, List.setIfInBounds_toArray, List.set_cons_zero, List.set_cons_succ]
      replace n0 := n1
      clear n1
      refine hold_read0 (i := 34) (v := ?_) n0 rfl (by kernel_rfl) (by kernel_rfl) (by kernel_rfl) (fun _ _ _ h => h) rfl ?_ ?_
      rotate_left
      · intro w' hN
        go_simp
        try with_reducible rfl
      simp only [Act.put, List.getElem_toArray, List.getElem_cons_succ, List.getElem_cons_zero, List.setIfInBounds_toArray, List.set_cons_zero, List.set_cons_succ]
      refine wpAnyH_done (by kernel_rfl) ?_ _
      have hK3 : New w w3 := (Keep.trans2 (D := fun b => b < w.heap.size) (Keep.of_new HK.out).drew n0 (fun i _ hi => hi)).toNew (fun i hi => hi)
      clear y0 y1 y2 y3 y4 y5 n0 hg3 hbk3 kA hrow
      go_wp2_with fail
      go_roundw
      case rel => exact ⟨k + 1, A3, c3, by omega, by go_num, rfl, by rw [HT.out]; exact hown3, hK3⟩
      case measure => simp [intOf]; omega
    · obtain rfl : k = n := by omega
      have ht : hs.take k = hs := List.take_of_length_le (by rw [HL.out]; exact Nat.le_refl _)
      rw [ht] at HO
      go_wp2_with fail
      go_ret
      exact ⟨⟨A', c', rfl, HO.out⟩, HK.out⟩
end Go.Proofs.YtpbbfbgmpidgnaaGreatDoor
/-
  PROVED HERE: the law SealLinks answers true; conditions: lengths that a slice may have.
-/
namespace Go.Proofs.YtpbbfbgmpidgnaaGreatDoor
open Go.RowKit

theorem chain_counts (id : List UInt8) (l : List (List (List UInt8))) : ∀ k, ∀ h ∈ (chainTo id l k).heads, 0 ≤ h.count ∧ h.count ≤ 6
  | 0 => by simp [chainTo]
  | k + 1 => by
    have hl := chainRecs_length (chainTo id l k).next (l.getD k [])
    intro h hh
    rw [chainTo] at hh
    dsimp only at hh
    rcases List.mem_append.1 hh with hh | hh
    · exact chain_counts id l k h hh
    · rw [List.mem_singleton] at hh
      subst hh
      dsimp only [chainHead]
      omega
def sumC (hs : List HeadP) (j : Nat) : Int := (hs.take j).foldl (fun (n : Int) h => n + h.count) 0
theorem sumC_succ {hs : List HeadP} {j : Nat} (hj : j < hs.length) : sumC hs (j + 1) = sumC hs j + hs[j].count := by
  unfold sumC
  rw [List.take_add_one, List.getElem?_eq_getElem hj, List.foldl_append]
  rfl
theorem sumC_bd {hs : List HeadP} (h : ∀ x ∈ hs, 0 ≤ x.count ∧ x.count ≤ 6) : ∀ j, j ≤ hs.length → 0 ≤ sumC hs j ∧ sumC hs j ≤ 6 * j
  | 0, _ => by simp [sumC]
  | j + 1, hj => by
    have h1 := sumC_bd h j (by omega)
    have h2 := h hs[j] (List.getElem_mem (by omega))
    rw [sumC_succ (by omega)]
    omega
theorem mod_natL (z M : Int) (hM : 0 < M) : ∃ kk : Nat, (kk : Int) < M ∧ (0 : Int) + z % M = (kk : Int) := by
  have h0 := Int.emod_nonneg z (show M ≠ 0 by omega)
  have h1 := Int.emod_lt_of_pos z hM
  exact ⟨(z % M).toNat, by omega, by omega⟩
theorem headAt_take {w : World} {D : Nat → Prop} {us : List Value} {i m : Nat} {h : HeadP} (hh : HeadAt w D us (i * 6) h) (hi : i < m) : HeadAt w D (us.take (m * 6)) (i * 6) h := by
  obtain ⟨A, c, A2, c2, e0, e1, e2, e3, e4, e5, r⟩ := hh
  refine ⟨A, c, A2, c2, ?_, ?_, ?_, ?_, ?_, ?_, r⟩
  all_goals
    rw [List.getElem?_take, if_pos (by omega)]
    assumption
theorem headAt_drop {w : World} {D : Nat → Prop} {us : List Value} {i l : Nat} {h : HeadP} (hh : HeadAt w D us ((l + i) * 6) h) : HeadAt w D (us.drop (l * 6)) (i * 6) h := by
  rw [Nat.add_mul] at hh
  obtain ⟨A, c, A2, c2, e0, e1, e2, e3, e4, e5, r⟩ := hh
  refine ⟨A, c, A2, c2, ?_, ?_, ?_, ?_, ?_, ?_, r⟩
  all_goals rw [List.getElem?_drop]
  · exact e0
  · rw [← Nat.add_assoc]; exact e1
  · rw [← Nat.add_assoc]; exact e2
  · rw [← Nat.add_assoc]; exact e3
  · rw [← Nat.add_assoc]; exact e4
  · rw [← Nat.add_assoc]; exact e5
set_option maxRecDepth 100000 in
set_option maxHeartbeats 4000000 in
theorem seallinks_any (D D1 D2 D3 : Nat → Prop) (A A1 P2 R2 : Option Addr) (n c n1 c1 pc rc : Nat) (id : List UInt8) (l : List (List (List UInt8))) (h : HeadP) (at' : Int) (w : World) (hB : Bs w D A n id) (hR1 : Raws8 w D1 A1 n1 l) (hP : Bs w D2 P2 h.prev.length h.prev) (hR : Bs w D3 R2 h.root.length h.root)
    (hnc : n ≤ c) (hc9 : c ≤ 9223372036854775807) (hnc1 : n1 ≤ c1) (hc19 : c1 ≤ 9223372036854775807) (hpc : h.prev.length ≤ pc) (_hpc9 : pc ≤ 9223372036854775807) (hrc : h.root.length ≤ rc) (_hrc9 : rc ≤ 9223372036854775807) (hf0 : 0 ≤ h.first) (hf1 : h.first ≤ 18446744073709551615)
    (ha0 : -9223372036854775808 ≤ at') (ha1 : at' ≤ 9223372036854775807) :
    Calls Tryz.prog 5 #[.slice A n c, .slice A1 n1 c1, .agg #[.int .i64 h.index, .int .u64 h.first, .int .i64 h.count, .int .i64 h.bytes, .slice P2 h.prev.length pc, .slice R2 h.root.length rc], .int .i64 at'] w fun e w' => e = .returned (.bool true) ∧ New w w' := by
  have hN0 : New w (w.alloc (.cells #[.int .i64 h.index, .int .u64 h.first, .int .i64 h.count, .int .i64 h.bytes, .slice P2 h.prev.length pc, .slice R2 h.root.length rc] 36)) := (New.refl w).alloc _
  have HX0 := Lib.hid (heap_alloc_new w (.cells #[.int .i64 h.index, .int .u64 h.first, .int .i64 h.count, .int .i64 h.bytes, .slice P2 h.prev.length pc, .slice R2 h.root.length rc] 36))
  have HC0 := Lib.hid (cut_any A n c 40 id D _ (hB.new hN0) (by omega) hnc (by decide))
  have HB := Lib.hid (Bs.cutMin (Row.new hB hN0) 40)
  have HR1 := Lib.hid (hR1.new hN0)
  have HP := Lib.hid ((hP.imp (E := fun b => b < w.heap.size) fun b hb _ => hb).new hN0)
  have HR := Lib.hid ((hR.imp (E := fun b => b < w.heap.size) fun b hb _ => hb).new hN0)
  have HN0 := Lib.hid hN0
  have hws : w.heap.size < (w.alloc (.cells #[.int .i64 h.index, .int .u64 h.first, .int .i64 h.count, .int .i64 h.bytes, .slice P2 h.prev.length pc, .slice R2 h.root.length rc] 36)).heap.size := by simp
  have hm0 : min n 40 ≤ c := by omega
  have hm2 : min n 40 ≤ 1099511620000 := by omega
  clear hB hR1 hP hR hN0
  generalize id.take 40 = i0 at *
  generalize min n 40 = p at *
  have hk8 : min n1 8 ≤ 8 := Nat.min_le_right _ _
  have HOK := Lib.hid (chain_ok i0 l (min n1 8) (by omega))
  have HWK := Lib.hid (chain_walk i0 l (min n1 8) (by omega))
  have HCT := Lib.hid (chain_counts i0 l (min n1 8))
  obtain ⟨kk, hkk', hkv⟩ := mod_natL at' (((min n1 8 : Nat) : Int) - 0 + 1) (by omega)
  have hkk : kk ≤ min n1 8 := by omega
  have HWI : Hid (∀ W, Calls Tryz.prog 18 #[.int .i64 at', .int .i64 0, .int .i64 ((min n1 8 : Nat) : Int)] W fun e w' => e = .returned (.int .i64 (kk : Int)) ∧ W = w') := Lib.hid fun W => by
    have h := within_any at' 0 ((min n1 8 : Nat) : Int) W ha0 ha1 (by decide) (by omega) (by omega)
    rwa [hkv] at h
  clear hkv hkk'
  go_enter Tryz.func5, Tryz.ntmps5
  go_wp2_with fail
  generalize w.alloc (.cells #[.int .i64 h.index, .int .u64 h.first, .int .i64 h.count, .int .i64 h.bytes, .slice P2 h.prev.length pc, .slice R2 h.root.length rc] 36) = w0 at *
  refine HC0.out.mono ?_
  rintro e w' ⟨rfl, rfl⟩
  go_wp2_with fail
  refine (chain_any D D1 A A1 p c n1 c1 i0 l w0 HB.out hm2 HR1.out (by omega)).mono ?_
  rintro e w1 ⟨⟨O, oc, R, rcc, rfl, hch⟩, hK1⟩
  generalize chainTo i0 l (min n1 8) = s at *
  generalize min n1 8 = k at *
  obtain ⟨im, hs, rs, pv, nx⟩ := s
  have hil := HOK.out.images
  have hhl := HOK.out.heads
  have hlk := HOK.out.links
  have hct := HOK.out.counts
  dsimp only at hch hil hhl hlk hct HWK HCT ⊢
  rw [hil] at hch ⊢
  have HW := walk18_any D _ A O p c k oc i0 im w1 (HB.out.new hK1) hm2 hch.imgs.imgs (by omega)
  rw [HWK.out] at HW
  have HW := Lib.hid HW
  have HK1 := Lib.hid (HN0.out.new hK1)
  have HX1 := Lib.hid (hK1.blockAt HX0.out trivial)
  have HP1 := Lib.hid (HP.out.new hK1)
  have HR11 := Lib.hid (HR.out.new hK1)
  have HB1 := Lib.hid (HB.out.new hK1)
  have HHL := Lib.hid hhl
  have HLK := Lib.hid hlk
  have HSM : Hid (sumC hs k = (rs.length : Int)) := Lib.hid (by unfold sumC; rw [List.take_of_length_le (by omega)]; exact hct)
  have hws1 : w.heap.size < w1.heap.size := Nat.lt_of_lt_of_le hws hK1.size
  clear hch hil hlk hct HOK HWK HB HP HR HX0 HN0 HC0 HR1 hK1
  go_wp2_with fail
  refine HW.out.mono ?_
  rintro e w2 ⟨⟨H, hc, M, mc, rfl, gh, -⟩, hK2⟩
  dsimp only at gh ⊢
  rw [hhl] at gh ⊢
  have HSL := Lib.hid (headslaw_any _ H k hc hs w2 gh.heads (by omega))
  have GH2 := Lib.hid gh
  clear gh hhl HW
  go_wp2_with fail
  refine HSL.out.mono ?_
  rintro e w3 ⟨⟨S, sc, rfl, sh⟩, hK3⟩
  have SH := Lib.hid sh
  have GH := Lib.hid (GH2.out.new hK3)
  have hK13 := hK2.new hK3
  have HK3 := Lib.hid (HK1.out.new hK13)
  have HX3 := Lib.hid (hK13.blockAt HX1.out trivial)
  have HP3 := Lib.hid (HP1.out.new hK13)
  have HR3 := Lib.hid (HR11.out.new hK13)
  have HB3 := Lib.hid (HB1.out.new hK13)
  have hws3 : w.heap.size < w3.heap.size := Nat.lt_of_lt_of_le hws1 hK13.size
  clear sh hK2 hK3 hK13 HSL GH2 HK1 HX1 HP1 HR11 HB1
  have hsc := SH.out.cap
  have hhc := GH.out.cap
  have HL1 := Lib.hid (fun W (q : New w3 W) => links_any D _ A S p c k sc i0 hs W (HB3.out.new q) hm0 hm2 (SH.out.heads.new q) (by omega))
  rw [HLK.out] at HL1
  have HH1 := Lib.hid (fun W (q : New w3 W) => head_any D _ A S p c k sc i0 hs W (HB3.out.new q) hm0 hm2 (SH.out.heads.new q) (by omega))
  have HH2 := Lib.hid (fun W (q : New w3 W) => head18_any D _ A H p c k hc i0 hs W (HB3.out.new q) hm2 (GH.out.heads.new q) (by omega))
  have HV : Hid (∀ W b A15 c15 bs, OwnB W b 5 A15 32 c15 bs → ∀ W', New W W' → (convert 22 9 (.slice A15 32 c15)).run Tryz.prog W' = .ok (.string (strOf bs)) W') :=
    Lib.hid fun W b A15 c15 bs ho W' q => run_str (Row.of_own (Own.keepNew ho q))
  generalize headSeal i0 hs = sl at *
  go_wp2_with fail
  refine hold_begin (by kernel_rfl) ?_
  have n0 : New w3 w3.drew := (New.refl w3).drew
  refine hold_read (i := 0) (v := ?_) rfl (by kernel_rfl) (by kernel_rfl) (by kernel_rfl) (fun _ _ _ h => h) rfl ?_ ?_
  rotate_left
  · intro w' hN
    go_simp
    try with_reducible rfl
  simp only [Act.put, List.getElem_toArray, List.getElem_cons_zero, List.setIfInBounds_toArray, List.set_cons_zero, List.set_cons_succ]
  refine hold_read (i := 1) (v := ?_) rfl (by kernel_rfl) (by kernel_rfl) (by kernel_rfl) (fun _ _ _ h => h) rfl ?_ ?_
  rotate_left
  · intro w' hN
    go_simp
    try with_reducible rfl
  simp only [Act.put, List.getElem_toArray, List.getElem_cons_succ, List.getElem_cons_zero, List.setIfInBounds_toArray, List.set_cons_zero, List.set_cons_succ]
  refine hold_read (i := 3) (v := ?_) rfl (by kernel_rfl) (by kernel_rfl) (by kernel_rfl) (fun _ _ _ h => h) rfl ?_ ?_
  rotate_left
  · intro w' hN
    go_simp
    try with_reducible rfl
  simp only [Act.put, List.getElem_toArray, List.getElem_cons_succ, List.getElem_cons_zero, List.setIfInBounds_toArray, List.set_cons_zero, List.set_cons_succ]
  refine hold_read (i := 4) (v := ?_) rfl (by kernel_rfl) (by kernel_rfl) (by kernel_rfl) (fun _ _ _ h => h) rfl ?_ ?_
  rotate_left
  · intro w' hN
    go_simp
    try with_reducible rfl
  simp only [Act.put, List.getElem_toArray, List.getElem_cons_succ, List.getElem_cons_zero, List.setIfInBounds_toArray, List.set_cons_zero, List.set_cons_succ]
  refine hold_step (i := 2) (by kernel_rfl) rfl rfl (fun K hK => ?_)
  go_simp
  refine (HL1.out _ n0).mono ?_
  rintro e w31 ⟨rfl, k31⟩
  go_wp2_with fail
  refine hK.out _ _ k31 ?_
  clear hK K
  try simp only [Act.put, List.getElem_toArray, List.getElem_cons_succ, List.getElem_cons_zero, List.setIfInBounds_toArray, List.set_cons_zero, List.set_cons_succ]
  replace n0 := Keep.new n0 k31
  refine hold_read (i := 5) (v := ?_) rfl (by kernel_rfl) (by kernel_rfl) (by kernel_rfl) (fun _ _ _ h => h) rfl ?_ ?_
  rotate_left
  · intro w' hN
    go_simp
    try with_reducible rfl
  simp only [Act.put, List.getElem_toArray, List.getElem_cons_succ, List.getElem_cons_zero, List.setIfInBounds_toArray, List.set_cons_zero, List.set_cons_succ]
  refine hold_read (i := 6) (v := ?_) rfl (by kernel_rfl) (by kernel_rfl) (by kernel_rfl) (fun _ _ _ h => h) rfl ?_ ?_
  rotate_left
  · intro w' hN
    go_simp
    try with_reducible rfl
  simp only [Act.put, List.getElem_toArray, List.getElem_cons_succ, List.getElem_cons_zero, List.setIfInBounds_toArray, List.set_cons_zero, List.set_cons_succ]
  refine hold_read (i := 7) (v := ?_) rfl (by kernel_rfl) (by kernel_rfl) (by kernel_rfl) (fun _ _ _ h => h) rfl ?_ ?_
  rotate_left
  · intro w' hN
    go_simp
    try with_reducible rfl
  simp only [Act.put, List.getElem_toArray, List.getElem_cons_succ, List.getElem_cons_zero, List.setIfInBounds_toArray, List.set_cons_zero, List.set_cons_succ]
  refine hold_read (i := 8) (v := ?_) rfl (by kernel_rfl) (by kernel_rfl) (by kernel_rfl) (fun _ _ _ h => h) rfl ?_ ?_
  rotate_left
  · intro w' hN
    go_simp
    try with_reducible rfl
  simp only [Act.put, List.getElem_toArray, List.getElem_cons_succ, List.getElem_cons_zero, List.setIfInBounds_toArray, List.set_cons_zero, List.set_cons_succ]
  refine hold_read (i := 11) (v := ?_) rfl (by kernel_rfl) (by kernel_rfl) (by kernel_rfl) (fun _ _ _ h => h) rfl ?_ ?_
  rotate_left
  · intro w' hN
    go_simp
    try with_reducible rfl
  simp only [Act.put, List.getElem_toArray, List.getElem_cons_succ, List.getElem_cons_zero, List.setIfInBounds_toArray, List.set_cons_zero, List.set_cons_succ]
  refine hold_read (i := 12) (v := ?_) rfl (by kernel_rfl) (by kernel_rfl) (by kernel_rfl) (fun _ _ _ h => h) rfl ?_ ?_
  rotate_left
  · intro w' hN
    go_simp
    try with_reducible rfl
  simp only [Act.put, List.getElem_toArray, List.getElem_cons_succ, List.getElem_cons_zero, List.setIfInBounds_toArray, List.set_cons_zero, List.set_cons_succ]
  refine hold_step (i := 9) (by kernel_rfl) rfl rfl (fun K hK => ?_)
  go_simp
  refine (HH1.out _ n0).mono ?_
  rintro e w32 ⟨⟨A32, c32, rfl, o32⟩, k32⟩; have v32 := HV.out w32 _ A32 c32 _ o32
  go_wp2_with fail
  refine hK.out _ _ k32 ?_
  clear hK K
  try simp only [Act.put, List.getElem_toArray, List.getElem_cons_succ, List.getElem_cons_zero, List.setIfInBounds_toArray, List.set_cons_zero, List.set_cons_succ]
  replace n0 := Keep.new n0 k32
  refine hold_read (i := 10) (v := ?_) rfl (by kernel_rfl) (by kernel_rfl) (by kernel_rfl) (fun _ _ _ h => h) rfl ?_ ?_
  rotate_left
  · intro w' hN
    go_simp
    try with_reducible rfl
  simp only [Act.put, List.getElem_toArray, List.getElem_cons_succ, List.getElem_cons_zero, List.setIfInBounds_toArray, List.set_cons_zero, List.set_cons_succ]
  refine hold_step (i := 13) (by kernel_rfl) rfl rfl (fun K hK => ?_)
  go_simp
  refine (HH2.out _ n0).mono ?_
  rintro e w4 ⟨⟨A33, c33, rfl, o33⟩, k33⟩; have v33 := HV.out w4 _ A33 c33 _ o33
  go_wp2_with fail
  refine hK.out _ _ k33 ?_
  clear hK K
  try simp only [Act.put, List.getElem_toArray, List.getElem_cons_succ, List.getElem_cons_zero, List.setIfInBounds_toArray, List.set_cons_zero, List.set_cons_succ]
  replace n0 := Keep.new n0 k33
  replace v32 := fun W (hW : New w4 W) => v32 W (Keep.new k33 hW)
  refine hold_read (i := 14) (v := ?_) rfl (by kernel_rfl) (by kernel_rfl) (by kernel_rfl) (fun _ _ _ h => h) rfl ?_ ?_
  rotate_left
  · intro w' hN
    go_simp
    try with_reducible rfl
  simp only [Act.put, List.getElem_toArray, List.getElem_cons_succ, List.getElem_cons_zero, List.setIfInBounds_toArray, List.set_cons_zero, List.set_cons_succ]
  refine hold_read (i := 15) (v := ?_) rfl (by kernel_rfl) (by kernel_rfl) (by kernel_rfl) (fun _ _ _ h => h) rfl ?_ ?_
  rotate_left
  · intro w' hN
    go_simp
    try with_reducible rfl
  simp only [Act.put, List.getElem_toArray, List.getElem_cons_succ, List.getElem_cons_zero, List.setIfInBounds_toArray, List.set_cons_zero, List.set_cons_succ]
  refine hold_read (i := 16) (v := ?_) rfl (by kernel_rfl) (by kernel_rfl) (by kernel_rfl) (fun _ _ _ h => h) rfl ?_ ?_
  rotate_left
  · intro w' hN
    go_simp
    try with_reducible rfl
  simp only [Act.put, List.getElem_toArray, List.getElem_cons_succ, List.getElem_cons_zero, List.setIfInBounds_toArray, List.set_cons_zero, List.set_cons_succ]
  refine wpAnyH_done (by kernel_rfl) ?_ _
  have HN34 := Lib.hid n0
  clear n0 v32 v33 o32 o33 k31 k32 k33 HL1 HH1 HH2
  go_wp2_with fail
  go_loopw [15, 16] (fun s15 i wx => ∃ j : Nat, j ≤ k ∧ i = .int .i64 (j : Int) ∧ s15 = .int .i64 (sumC hs j) ∧ New w3 wx) (fun _ i _ => k - (intOf i).toNat)
  case atStart => exact ⟨0, Nat.zero_le _, rfl, rfl, HN34.out⟩
  case round =>
    clear HN34
    obtain ⟨j, hj, rfl, rfl, hK⟩ := hrel
    by_cases hlt : j < k
    · have hlk : j < hs.length := by have := HHL.out; omega
      obtain ⟨b, off, P1, p1, P3, p3, rfl, _, u0, u1, u2, u3, u4, u5, _⟩ := (SH.out.heads.new hK).at_ hlk
      have hsu := sumC_succ hlk
      have hb1 := sumC_bd HCT.out j (by omega)
      have hb2 := sumC_bd HCT.out (j + 1) (by omega)
      rw [hsu] at hb2
      have q1 : IntKind.i64.wrap (sumC hs j + hs[j].count) = sumC hs j + hs[j].count := IntWalk.i64_in _ (by omega)
      rw [← hsu] at q1
      have q2 : IntKind.i64.wrap (sumC hs j + hs[j].count) = sumC hs (j + 1) := by rw [← hsu]; exact q1
      clear q1 hsu hb1 hb2 u0 u1 u3 u4 u5
      generalize hs[j].count = ct at *
      generalize hj1 : sumC hs (j + 1) = sj1 at *
      have HJ1 := Lib.hid hj1
      clear hj1
      go_wp2_with fail
      go_roundw
      case rel => exact ⟨j + 1, by omega, by go_num, by rw [HJ1.out], hK⟩
      case measure => simp [intOf]; omega
    · obtain rfl : j = k := by omega
      rw [HSM.out]
      have HK4 := Lib.hid hK
      have hne : (((rs.length : Nat) : Int) != (rs.length : Int)) = false := by simp
      clear hK
      go_wp2_with fail
      refine (HWI.out wr).mono ?_
      rintro e w' ⟨rfl, rfl⟩
      generalize wr = w5 at *
      have hkc : (kk : Int) ≤ sc := by omega
      have hkj : (kk : Int) ≤ j := by omega
      obtain ⟨us, so, sl', si⟩ := SH.out.new HK4.out
      have HSR := Lib.hid (Row.of_own so)
      have HSI : Hid (∀ i (h : i < hs.length), HeadAt w5 (fun b => b < w5.heap.size) us (i * 6) hs[i]) := Lib.hid fun i h => (si i h).imp fun b hb _ => hb
      have HX5 := Lib.hid (HK4.out.blockAt HX3.out trivial)
      have HP5 := Lib.hid (HP3.out.new HK4.out)
      have HR5 := Lib.hid (HR3.out.new HK4.out)
      have hws5 : w.heap.size < w5.heap.size := Nat.lt_of_lt_of_le hws3 HK4.out.size
      have hsg : ∃ g, S = some (Addr.mk g 0 none) ∨ j = 0 := by
        rcases Nat.eq_zero_or_pos j with h0 | h0
        · exact ⟨0, .inr h0⟩
        · obtain ⟨g, cp, hA, _⟩ := so.form h0
          injection hA with hA
          exact ⟨g, .inl hA⟩
      clear so sl' si hsg
      have y0 : ∀ W, Keep (Lo w5.heap.size) w5.drew W → W.cell? ⟨w.heap.size, 0, none⟩ = some (.int .i64 h.index) := fun W q => q.cell_some (a := w5.drew) (cellOf HX5.out rfl) hws5
      have y1 : ∀ W, Keep (Lo w5.heap.size) w5.drew W → W.cell? ⟨w.heap.size, 1, none⟩ = some (.int .u64 h.first) := fun W q => q.cell_some (a := w5.drew) (cellOf HX5.out rfl) hws5
      have y2 : ∀ W, Keep (Lo w5.heap.size) w5.drew W → W.cell? ⟨w.heap.size, 2, none⟩ = some (.int .i64 h.count) := fun W q => q.cell_some (a := w5.drew) (cellOf HX5.out rfl) hws5
      have y3 : ∀ W, Keep (Lo w5.heap.size) w5.drew W → W.cell? ⟨w.heap.size, 3, none⟩ = some (.int .i64 h.bytes) := fun W q => q.cell_some (a := w5.drew) (cellOf HX5.out rfl) hws5
      have y4 : ∀ W, Keep (Lo w5.heap.size) w5.drew W → W.cell? ⟨w.heap.size, 4, none⟩ = some (.slice P2 h.prev.length pc) := fun W q => q.cell_some (a := w5.drew) (cellOf HX5.out rfl) hws5
      have y5 : ∀ W, Keep (Lo w5.heap.size) w5.drew W → W.cell? ⟨w.heap.size, 5, none⟩ = some (.slice R2 h.root.length rc) := fun W q => q.cell_some (a := w5.drew) (cellOf HX5.out rfl) hws5
      have hul : us.length = j * 6 := HSR.out.1
      have hkj6 : kk * 6 ≤ j * 6 := by omega
      have HLW : Hid (∀ W, Keep (Lo w5.heap.size) w5.drew W → Row W (fun b => b < w5.heap.size) S kk 6 (us.take (kk * 6))) := Lib.hid fun W q =>
        Row.keep (w := w5.drew) (Row.drew ((Row.cutTo HSR.out hkk).imp fun b hb _ => hb)) q (fun _ _ h => h)
      have HHW : Hid (∀ W, Keep (Lo w5.heap.size) w5.drew W → Row W (fun b => b < w5.heap.size) (if sc = kk then S else Option.map (fun x => x.add (kk * 6)) S) (j - kk) 6 (us.drop (kk * 6))) := Lib.hid fun W q => by
        have h := Row.cut HSR.out (l := kk) (hi := j) (cap := sc) hkk (Nat.le_refl _) hsc
        rw [List.take_of_length_le (by rw [List.length_drop, hul]; omega)] at h
        exact Row.keep (w := w5.drew) (Row.drew (h.imp fun b hb _ => hb)) q (fun _ _ h => h)
      have HLI : Hid (∀ W, Keep (Lo w5.heap.size) w5.drew W → ∀ i (h : i < (hs.take kk).length), HeadAt W (fun b => b < w5.heap.size) (us.take (kk * 6)) (i * 6) (hs.take kk)[i]) := Lib.hid fun W q i h => by
        have hi : i < kk ∧ i < hs.length := by rw [List.length_take] at h; omega
        rw [List.getElem_take]
        exact headAt_take (HeadAt.keep (w := w5.drew) (HSI.out i hi.2) q (fun _ _ h => h)) hi.1
      have HHI : Hid (∀ W, Keep (Lo w5.heap.size) w5.drew W → ∀ i (h : i < (hs.drop kk).length), HeadAt W (fun b => b < w5.heap.size) (us.drop (kk * 6)) (i * 6) (hs.drop kk)[i]) := Lib.hid fun W q i h => by
        have hi : kk + i < hs.length := by rw [List.length_drop] at h; omega
        rw [List.getElem_drop]
        exact headAt_drop (HeadAt.keep (w := w5.drew) (HSI.out (kk + i) hi) q (fun _ _ h => h))
      have HPI : Hid (∀ W, Keep (Lo w5.heap.size) w5.drew W → ∀ k (hk : k < [h].length), HeadAt W (fun b => b < w5.heap.size) [.int .i64 h.index, .int .u64 h.first, .int .i64 h.count, .int .i64 h.bytes, .slice P2 h.prev.length pc, .slice R2 h.root.length rc] (k * 6) [h][k]) := Lib.hid fun W q => headAt_one hpc hrc (Row.keep (w := w5.drew) (Row.drew (HP5.out.imp fun b hb _ => hb)) q (fun _ _ h => h)) (Row.keep (w := w5.drew) (Row.drew (HR5.out.imp fun b hb _ => hb)) q (fun _ _ h => h)) hf0 hf1
      have hlt6 : (hs.take kk).length = kk := by have := HHL.out; rw [List.length_take]; omega
      have hld6 : (hs.drop kk).length = j - kk := by have := HHL.out; rw [List.length_drop]; omega
      have hb1 : 0 + kk ≤ 1099511627776 := by omega
      have hb2 : kk + 1 ≤ 1099511627776 := by omega
      have hb3 : kk + 1 + (j - kk) ≤ 1099511627776 := by omega
      clear hul hkj6
      go_wp2_with fail
      refine hold_beginS (Keep (Lo w5.heap.size) w5.drew) (by kernel_rfl) ?_
      have n0 : Keep (Lo w5.heap.size) w5.drew w5.drew := Keep.refl _ _
      refine hold_read0 (i := 1) (v := ?_) n0 rfl (by kernel_rfl) (by kernel_rfl) (by kernel_rfl) (fun _ _ _ h => h) rfl ?_ ?_
      rotate_left
      · intro w' hN
        go_simp
        try with_reducible rfl
      simp only [Act.put, List.getElem_toArray, List.getElem_cons_succ, List.getElem_cons_zero, List.setIfInBounds_toArray, List.set_cons_zero, List.set_cons_succ]
      refine hold_read0 (i := 2) (v := ?_) n0 rfl (by kernel_rfl) (by kernel_rfl) (by kernel_rfl) (fun _ _ _ h => h) rfl ?_ ?_
      rotate_left
      · intro w' hN
        go_simp
        try with_reducible rfl
      simp only [Act.put, List.getElem_toArray, List.getElem_cons_succ, List.getElem_cons_zero, List.setIfInBounds_toArray, List.set_cons_zero, List.set_cons_succ]
      refine hold_read0 (i := 3) (v := ?_) n0 rfl (by kernel_rfl) (by kernel_rfl) (by kernel_rfl) (fun _ _ _ h => h) rfl ?_ ?_
      rotate_left
      · intro w' hN
        go_simp
        try with_reducible rfl
      simp only [Act.put, List.getElem_toArray, List.getElem_cons_succ, List.getElem_cons_zero, List.setIfInBounds_toArray, List.set_cons_zero, List.set_cons_succ]
      refine hold_read0 (i := 5) (v := ?_) n0 rfl (by kernel_rfl) (by kernel_rfl) (by kernel_rfl) (fun _ _ _ h => h) rfl ?_ ?_
      rotate_left
      · intro w' hN
        go_simp
        try with_reducible rfl
      simp only [Act.put, List.getElem_toArray, List.getElem_cons_succ, List.getElem_cons_zero, List.setIfInBounds_toArray, List.set_cons_zero, List.set_cons_succ]
      refine hold_read0 (i := 8) (v := ?_) n0 rfl (by kernel_rfl) (by kernel_rfl) (by kernel_rfl) (fun _ _ _ h => h) rfl ?_ ?_
      rotate_left
      · intro w' hN
        go_simp
        try with_reducible rfl
      simp only [Act.put, List.getElem_toArray, List.getElem_cons_succ, List.getElem_cons_zero, List.setIfInBounds_toArray, List.set_cons_zero, List.set_cons_succ]
      refine hold_read0 (i := 9) (v := ?_) n0 rfl (by kernel_rfl) (by kernel_rfl) (by kernel_rfl) (fun _ _ _ h => h) rfl ?_ ?_
      rotate_left
      · intro w' hN
        go_simp
        try with_reducible rfl
      simp only [Act.put, List.getElem_toArray, List.getElem_cons_succ, List.getElem_cons_zero, List.setIfInBounds_toArray, List.set_cons_zero, List.set_cons_succ]
      refine hold_read0 (i := 10) (v := ?_) n0 rfl (by kernel_rfl) (by kernel_rfl) (by kernel_rfl) (fun _ _ _ h => h) rfl ?_ ?_
      rotate_left
      · intro w' hN
        go_simp
        try with_reducible rfl
      simp only [Act.put, List.getElem_toArray, List.getElem_cons_succ, List.getElem_cons_zero, List.setIfInBounds_toArray, List.set_cons_zero, List.set_cons_succ]
      generalize (if sc = kk then S else Option.map (fun x => x.add (kk * 6)) S) = S2 at *
      refine hold_meet (fuel2 := 3) (listed2 := #[true, true, true, true, true, true, true, false, true, true, true, false, false]) (C := fun a W T => ∃ (x75 : Value) (A4 : Option Addr) (c4 g6 : Nat), a = ({ tmps := #[Value.slice A p c, Value.slice A1 n1 c1, Value.agg #[Value.int IntKind.i64 h.index, Value.int IntKind.u64 h.first, Value.int IntKind.i64 h.count, Value.int IntKind.i64 h.bytes, Value.slice P2 h.prev.length pc, Value.slice R2 h.root.length rc], Value.int IntKind.i64 at', undef, undef, Value.pointer (some { block := w.heap.size, off := 0 }), undef, Value.bool false, Value.slice O j oc, Value.slice R rs.length rcc, Value.slice H j hc, Value.slice M rs.length mc, Value.int IntKind.i64 0, Value.slice S j sc, Value.int IntKind.i64 ↑rs.length, Value.int IntKind.i64 ↑j, Value.int IntKind.i64 ↑kk, undef, undef, Value.slice A n c, Value.slice A p c, Value.tuple #[Value.slice O j oc, Value.slice R rs.length rcc], Value.slice A p c, Value.slice A1 n1 c1, Value.tuple #[Value.slice O j oc, Value.slice R rs.length rcc], Value.slice O j oc, Value.slice R rs.length rcc, Value.tuple #[Value.slice H j hc, Value.slice M rs.length mc, Value.int IntKind.i64 0], Value.slice A p c, Value.slice O j oc, Value.tuple #[Value.slice H j hc, Value.slice M rs.length mc, Value.int IntKind.i64 0], Value.slice H j hc, Value.slice M rs.length mc, Value.int IntKind.i64 0, Value.slice H j hc, Value.slice S j sc, Value.slice A p c, Value.slice S j sc, Value.int IntKind.i64 ↑j, Value.slice O j oc, Value.int IntKind.i64 ↑j, Value.bool false, Value.bool false, Value.slice A p c, Value.slice S j sc, Value.slice A32 32 c32, Value.string (strOf sl), Value.slice A p c, Value.slice H j hc, Value.slice A33 32 c33, Value.string (strOf sl), Value.bool false, Value.bool false, Value.int IntKind.i64 ↑j, Value.slice S j sc, Value.int IntKind.i64 ↑j, Value.bool false, u58, u59, u60, u61, u62, u63, u64, u65, u66, Value.int IntKind.i64 ↑rs.length, Value.slice R rs.length rcc, Value.int IntKind.i64 ↑rs.length, Value.bool false, Value.int IntKind.i64 at', Value.slice S j sc, Value.int IntKind.i64 ↑j, Value.int IntKind.i64 ↑kk, x75, Value.slice S j sc, Value.int IntKind.i64 ↑kk, Value.slice S kk sc, (.slice A4 kk c4), Value.agg #[Value.int IntKind.i64 h.index, Value.int IntKind.u64 h.first, Value.int IntKind.i64 h.count, Value.int IntKind.i64 h.bytes, Value.slice P2 h.prev.length pc, Value.slice R2 h.root.length rc], (.slice (some ⟨g6, 0, none⟩) 1 1), undef, Value.slice S j sc, Value.int IntKind.i64 ↑kk, Value.slice S2 (j - kk) (sc - kk), undef, undef, undef, undef, undef, undef, undef, undef, undef, undef, undef, undef, undef, undef, undef, undef, undef, undef, undef, undef, undef, undef, undef, undef, undef, undef, undef, undef, undef, undef, undef, undef, undef, undef, undef, undef, undef, undef, undef, undef, undef, undef, undef, undef, undef, undef, undef, undef, undef, undef, undef], defers := [] } : Act) ∧ T = Keep (Lo w5.heap.size) w5.drew ∧ Keep (Lo w5.heap.size) w5.drew W ∧ OwnHeads W w5.heap.size (fun b => b < w5.heap.size) A4 kk c4 (hs.take kk) ∧ Row W (fun _ => True) (some ⟨g6, 0, none⟩) 1 6 [.int .i64 h.index, .int .u64 h.first, .int .i64 h.count, .int .i64 h.bytes, .slice P2 h.prev.length pc, .slice R2 h.root.length rc]) ?_ (fun HJ => ?_)
      · rintro a wj T ⟨x75, A4, c4, g6, rfl, rfl, nj, oj, rj⟩
        refine hold_step0 (i := 7) (by kernel_rfl) rfl rfl (fun K hK => ?_)
        refine wp_headsM _ _ _ rfl w5.heap.size (fun b => b < w5.heap.size) A4 kk c4 (hs.take kk) rfl oj _ _ 1 1 _ [h] rfl rj rfl (fun k hk => (HPI.out _ nj k hk).imp fun b hb hd => ⟨hd, fun e => by have := (oj.lt b e.symm).1; omega⟩) hb2 nj.size ?_
        intro A7 c7 w7 o7 hg7 hbk7
        have n7 := nj.grown hg7 (fun i hi hd => absurd hd (by have := (oj.lt i hi).1; show ¬ i < w5.heap.size; omega))
        refine hK.out _ _ n7 ?_
        clear hK K
        try simp only [Act.put, List.getElem_toArray, List.getElem_cons_succ, List.getElem_cons_zero, List.setIfInBounds_toArray, List.set_cons_zero, List.set_cons_succ]
        refine hold_step0 (i := 11) (by kernel_rfl) rfl rfl (fun K hK => ?_)
        refine wp_headsM _ _ _ rfl w5.heap.size (fun b => b < w5.heap.size) A7 (kk + 1) c7 (hs.take kk ++ [h]) rfl o7 _ _ (j - kk) _ _ (hs.drop kk) rfl (HHW.out _ n7) hld6 (fun k hk => (HHI.out _ n7 k hk).imp fun b hb hd => ⟨hd, fun e => by have := (o7.lt b e.symm).1; omega⟩) hb3 n7.size ?_
        intro A8 c8 w8 o8 hg8 hbk8
        have n8 := n7.grown hg8 (fun i hi hd => absurd hd (by have := (o7.lt i hi).1; show ¬ i < w5.heap.size; omega))
        refine hK.out _ _ n8 ?_
        clear hK K
        try simp only [Act.put, List.getElem_toArray, List.getElem_cons_succ, List.getElem_cons_zero, List.setIfInBounds_toArray, List.set_cons_zero, List.set_cons_succ]
        refine hold_read0 (i := 12) (v := ?_) n8 rfl (by kernel_rfl) (by kernel_rfl) (by kernel_rfl) (fun _ _ _ h => h) rfl ?_ ?_
        rotate_left
        · intro w' hN
          go_simp
          try with_reducible rfl
        simp only [Act.put, List.getElem_toArray, List.getElem_cons_succ, List.getElem_cons_zero, List.setIfInBounds_toArray, List.set_cons_zero, List.set_cons_succ]
        refine wpAnyH_done (by kernel_rfl) ?_ _
        have e8 : kk + 1 + (j - kk) = j + 1 := by omega
        rw [e8] at o8 ⊢
        have hll : (hs.take kk ++ [h] ++ hs.drop kk).length = j + 1 := o8.len
        have HK8 : Hid (New w w8) := Lib.hid (Keep.trans2 (D := fun b => b < w.heap.size) (Keep.of_new (HK3.out.new HK4.out)).drew n8 (fun i _ hi => by show i < w5.heap.size; omega)).toNew (fun i hi => hi)
        have HK38 : Hid (New w3 w8) := Lib.hid (Keep.trans2 (D := fun b => b < w3.heap.size) (Keep.of_new HK4.out).drew n8 (fun i _ hi => by show i < w5.heap.size; have := HK4.out.size; omega)).toNew (fun i hi => hi)
        have HB8 := Lib.hid (HB3.out.new HK38.out)
        have HH8 := Lib.hid o8.heads
        have HLL := Lib.hid hll
        have hj8 : j ≤ 8 := hk8
        clear e8 o8 hll hg8 hbk8 o7 hg7 hbk7 oj rj nj n7 n8 HHW HHI HLW HLI HPI y0 y1 y2 y3 y4 y5 HX5 HP5 HR5 HSR HSI HK4 HK3 HB3 HX3 HP3 HR3 hlt6 hld6 hb1 hb2 hb3 n0
        generalize hs.take kk ++ [h] ++ hs.drop kk = ls at *
        have hm9 : j + 1 ≤ 9 := by omega
        generalize j + 1 = m2 at *
        have HW8 := Lib.hid (HH8.out.imp (E := fun b => b < w8.heap.size) fun b hb _ => hb)
        go_wp2_with fail
        go_loopw [18, 19] (fun s18 i wx => ∃ (k2 : Nat) (A' : Option Addr) (c' : Nat), k2 ≤ m2 ∧ i = .int .i64 (k2 : Int) ∧ s18 = .slice A' k2 c' ∧ OwnHeadsR wx w8.heap.size (fun b => b < w8.heap.size) A' k2 c' (ls.take k2) ∧ New w8 wx) (fun _ i _ => m2 - (intOf i).toNat)
        case atStart => exact ⟨0, none, 0, Nat.zero_le _, rfl, rfl, OwnHeadsR.nil _ _ _, New.refl _⟩
        case round =>
          obtain ⟨k2, A', c', hk2, rfl, rfl, ho, hK⟩ := hrel
          have HO := Lib.hid ho
          have HK := Lib.hid hK
          clear ho hK
          by_cases hlt : k2 < m2
          · have hlk : k2 < ls.length := by have := HLL.out; omega
            obtain ⟨b, off, P1, p1, P3, p3, rfl, hbD, u0, u1, u2, u3, u4, u5, l1, l2, b1, b2, f0, f1⟩ := (HW8.out.new HK.out).at_ hlk
            have HT : Hid (ls.take (k2 + 1) = ls.take k2 ++ [ls[k2]]) := Lib.hid (by rw [List.take_add_one, List.getElem?_eq_getElem hlk]; rfl)
            have hsz := HK.out.size
            have hlw : b < w8.heap.size := hbD
            have y0 : ∀ W, Keep (Lo w8.heap.size) wr.drew W → W.cell? ⟨b, off + k2 * 6, none⟩ = some (.int .i64 ls[k2].index) := fun W h => h.cell_some (a := wr.drew) u0 hlw
            have y1 : ∀ W, Keep (Lo w8.heap.size) wr.drew W → W.cell? ⟨b, off + k2 * 6 + 1, none⟩ = some (.int .u64 ls[k2].first) := fun W h => h.cell_some (a := wr.drew) u1 hlw
            have y2 : ∀ W, Keep (Lo w8.heap.size) wr.drew W → W.cell? ⟨b, off + k2 * 6 + 2, none⟩ = some (.int .i64 ls[k2].count) := fun W h => h.cell_some (a := wr.drew) u2 hlw
            have y3 : ∀ W, Keep (Lo w8.heap.size) wr.drew W → W.cell? ⟨b, off + k2 * 6 + 3, none⟩ = some (.int .i64 ls[k2].bytes) := fun W h => h.cell_some (a := wr.drew) u3 hlw
            have y4 : ∀ W, Keep (Lo w8.heap.size) wr.drew W → W.cell? ⟨b, off + k2 * 6 + 4, none⟩ = some (.slice P1 ls[k2].prev.length p1) := fun W h => h.cell_some (a := wr.drew) u4 hlw
            have y5 : ∀ W, Keep (Lo w8.heap.size) wr.drew W → W.cell? ⟨b, off + k2 * 6 + 5, none⟩ = some (.slice P3 ls[k2].root.length p3) := fun W h => h.cell_some (a := wr.drew) u5 hlw
            clear u0 u1 u2 u3 u4 u5
            generalize ls[k2] = g at *
            have kA : New wr.drew (wr.drew.alloc (.cells #[.int .i64 g.index, .int .u64 g.first, .int .i64 g.count, .int .i64 g.bytes, .slice P1 g.prev.length p1, .slice P3 g.root.length p3] 45)) := (New.refl _).alloc _
            have hrow := head_one wr.drew 45 g P1 P3 p1 p3
            have HOA := Lib.hid (OwnHeadsR.new (OwnHeadsR.new HO.out ((New.refl wr).drew)) kA)
            have hwb : ∀ {P : Option Addr} {m : Nat} {z : List UInt8}, Bs wr (fun b => b < w8.heap.size) P m z → Bs (wr.drew.alloc (.cells #[.int .i64 g.index, .int .u64 g.first, .int .i64 g.count, .int .i64 g.bytes, .slice P1 g.prev.length p1, .slice P3 g.root.length p3] 45)) (fun b => b < w8.heap.size ∧ some b ≠ blk A') P m z := fun hb => (Row.new (Row.drew hb) kA).imp fun b _ hd => ⟨hd, fun e => by have := (HO.out.lt b e.symm).1; omega⟩
            have HIT := Lib.hid (headAt_one l1 l2 (hwb b1) (hwb b2) f0 f1)
            have hbd : k2 + 1 ≤ 1099511627776 := by omega
            have hsA : w8.heap.size ≤ (wr.drew.alloc (.cells #[.int .i64 g.index, .int .u64 g.first, .int .i64 g.count, .int .i64 g.bytes, .slice P1 g.prev.length p1, .slice P3 g.root.length p3] 45)).heap.size := Nat.le_trans hsz kA.size
            clear b1 b2 hwb
            go_wp2_with fail
            refine hold_beginS (Keep (Lo w8.heap.size) wr.drew) (by kernel_rfl) ?_
            have n0 : Keep (Lo w8.heap.size) wr.drew wr.drew := Keep.refl _ _
            refine hold_read0 (i := 0) (v := ?_) n0 rfl (by kernel_rfl) (by kernel_rfl) (by kernel_rfl) (fun _ _ _ h => h) rfl ?_ ?_
            rotate_left
            · intro w' hN
              go_simp
              try with_reducible rfl
            simp only [Act.put, List.getElem_toArray, List.getElem_cons_zero, List.setIfInBounds_toArray, List.set_cons_zero, List.set_cons_succ]
            refine hold_read0 (i := 1) (v := ?_) n0 rfl (by kernel_rfl) (by kernel_rfl) (by kernel_rfl) (fun _ _ _ h => h) rfl ?_ ?_
            rotate_left
            · intro w' hN
              go_simp
              try with_reducible rfl
            simp only [Act.put, List.getElem_toArray, List.getElem_cons_succ, List.getElem_cons_zero, List.setIfInBounds_toArray, List.set_cons_zero, List.set_cons_succ]
            refine hold_read0 (i := 2) (v := ?_) n0 rfl (by kernel_rfl) (by kernel_rfl) (by kernel_rfl) (fun _ _ _ h => h) rfl ?_ ?_
            rotate_left
            · intro w' hN
              go_simp
              try with_reducible rfl
            simp only [Act.put, List.getElem_toArray, List.getElem_cons_succ, List.getElem_cons_zero, List.setIfInBounds_toArray, List.set_cons_zero, List.set_cons_succ]
            refine hold_read0 (i := 3) (v := ?_) n0 rfl (by kernel_rfl) (by kernel_rfl) (by kernel_rfl) (fun _ _ _ h => h) rfl ?_ ?_
            rotate_left
            · intro w' hN
              go_simp
              try with_reducible rfl
            simp only [Act.put, List.getElem_toArray, List.getElem_cons_succ, List.getElem_cons_zero, List.setIfInBounds_toArray, List.set_cons_zero, List.set_cons_succ]
            refine hold_read0 (i := 4) (v := ?_) n0 rfl (by kernel_rfl) (by kernel_rfl) (by kernel_rfl) (fun _ _ _ h => h) rfl ?_ ?_
            rotate_left
            · intro w' hN
              go_simp
              try with_reducible rfl
            simp only [Act.put, List.getElem_toArray, List.getElem_cons_succ, List.getElem_cons_zero, List.setIfInBounds_toArray, List.set_cons_zero, List.set_cons_succ]
            refine hold_read0 (i := 5) (v := ?_) n0 rfl (by kernel_rfl) (by kernel_rfl) (by kernel_rfl) (fun _ _ _ h => h) rfl ?_ ?_
            rotate_left
            · intro w' hN
              go_simp
              try with_reducible rfl
            simp only [Act.put, List.getElem_toArray, List.getElem_cons_succ, List.getElem_cons_zero, List.setIfInBounds_toArray, List.set_cons_zero, List.set_cons_succ]
            refine hold_read0 (i := 6) (v := ?_) n0 rfl (by kernel_rfl) (by kernel_rfl) (by kernel_rfl) (fun _ _ _ h => h) rfl ?_ ?_
            rotate_left
            · intro w' hN
              go_simp
              try with_reducible rfl
            simp only [Act.put, List.getElem_toArray, List.getElem_cons_succ, List.getElem_cons_zero, List.setIfInBounds_toArray, List.set_cons_zero, List.set_cons_succ]
            refine hold_read0 (i := 7) (v := ?_) n0 rfl (by kernel_rfl) (by kernel_rfl) (by kernel_rfl) (fun _ _ _ h => h) rfl ?_ ?_
            rotate_left
            · intro w' hN
              go_simp
              try with_reducible rfl
            simp only [Act.put, List.getElem_toArray, List.getElem_cons_succ, List.getElem_cons_zero, List.setIfInBounds_toArray, List.set_cons_zero, List.set_cons_succ]
            refine hold_read0 (i := 8) (v := ?_) n0 rfl (by kernel_rfl) (by kernel_rfl) (by kernel_rfl) (fun _ _ _ h => h) rfl ?_ ?_
            rotate_left
            · intro w' hN
              go_simp
              try with_reducible rfl
            simp only [Act.put, List.getElem_toArray, List.getElem_cons_succ, List.getElem_cons_zero, List.setIfInBounds_toArray, List.set_cons_zero, List.set_cons_succ]
            refine hold_read0 (i := 9) (v := ?_) n0 rfl (by kernel_rfl) (by kernel_rfl) (by kernel_rfl) (fun _ _ _ h => h) rfl ?_ ?_
            rotate_left
            · intro w' hN
              go_simp
              try with_reducible rfl
            simp only [Act.put, List.getElem_toArray, List.getElem_cons_succ, List.getElem_cons_zero, List.setIfInBounds_toArray, List.set_cons_zero, List.set_cons_succ]
            refine hold_read0 (i := 10) (v := ?_) n0 rfl (by kernel_rfl) (by kernel_rfl) (by kernel_rfl) (fun _ _ _ h => h) rfl ?_ ?_
            rotate_left
            · intro w' hN
              go_simp
              try with_reducible rfl
            simp only [Act.put, List.getElem_toArray, List.getElem_cons_succ, List.getElem_cons_zero, List.setIfInBounds_toArray, List.set_cons_zero, List.set_cons_succ]
            refine hold_read0 (i := 11) (v := ?_) n0 rfl (by kernel_rfl) (by kernel_rfl) (by kernel_rfl) (fun _ _ _ h => h) rfl ?_ ?_
            rotate_left
            · intro w' hN
              go_simp
              try with_reducible rfl
            simp only [Act.put, List.getElem_toArray, List.getElem_cons_succ, List.getElem_cons_zero, List.setIfInBounds_toArray, List.set_cons_zero, List.set_cons_succ]
            refine hold_read0 (i := 12) (v := ?_) n0 rfl (by kernel_rfl) (by kernel_rfl) (by kernel_rfl) (fun _ _ _ h => h) rfl ?_ ?_
            rotate_left
            · intro w' hN
              go_simp
              try with_reducible rfl
            simp only [Act.put, List.getElem_toArray, List.getElem_cons_succ, List.getElem_cons_zero, List.setIfInBounds_toArray, List.set_cons_zero, List.set_cons_succ]
            refine hold_read0 (i := 13) (v := ?_) n0 rfl (by kernel_rfl) (by kernel_rfl) (by kernel_rfl) (fun _ _ _ h => h) rfl ?_ ?_
            rotate_left
            · intro w' hN
              go_simp
              try with_reducible rfl
            simp only [Act.put, List.getElem_toArray, List.getElem_cons_succ, List.getElem_cons_zero, List.setIfInBounds_toArray, List.set_cons_zero, List.set_cons_succ]
            refine hold_read0 (i := 14) (v := ?_) n0 rfl (by kernel_rfl) (by kernel_rfl) (by kernel_rfl) (fun _ _ _ h => h) rfl ?_ ?_
            rotate_left
            · intro w' hN
              go_simp
              try with_reducible rfl
            simp only [Act.put, List.getElem_toArray, List.getElem_cons_succ, List.getElem_cons_zero, List.setIfInBounds_toArray, List.set_cons_zero, List.set_cons_succ]
            refine hold_read0 (i := 15) (v := ?_) n0 rfl (by kernel_rfl) (by kernel_rfl) (by kernel_rfl) (fun _ _ _ h => h) rfl ?_ ?_
            rotate_left
            · intro w' hN
              go_simp
              try with_reducible rfl
            simp only [Act.put, List.getElem_toArray, List.getElem_cons_succ, List.getElem_cons_zero, List.setIfInBounds_toArray, List.set_cons_zero, List.set_cons_succ]
            refine hold_read0 (i := 16) (v := ?_) n0 rfl (by kernel_rfl) (by kernel_rfl) (by kernel_rfl) (fun _ _ _ h => h) rfl ?_ ?_
            rotate_left
            · intro w' hN
              go_simp
              try with_reducible rfl
            simp only [Act.put, List.getElem_toArray, List.getElem_cons_succ, List.getElem_cons_zero, List.setIfInBounds_toArray, List.set_cons_zero, List.set_cons_succ]
            refine hold_read0 (i := 17) (v := ?_) n0 rfl (by kernel_rfl) (by kernel_rfl) (by kernel_rfl) (fun _ _ _ h => h) rfl ?_ ?_
            rotate_left
            · intro w' hN
              go_simp
              try with_reducible rfl
            simp only [Act.put, List.getElem_toArray, List.getElem_cons_succ, List.getElem_cons_zero, List.setIfInBounds_toArray, List.set_cons_zero, List.set_cons_succ]
            refine hold_read0 (i := 18) (v := ?_) n0 rfl (by kernel_rfl) (by kernel_rfl) (by kernel_rfl) (fun _ _ _ h => h) rfl ?_ ?_
            rotate_left
            · intro w' hN
              go_simp
              try with_reducible rfl
            simp only [Act.put, List.getElem_toArray, List.getElem_cons_succ, List.getElem_cons_zero, List.setIfInBounds_toArray, List.set_cons_zero, List.set_cons_succ]
            refine hold_read0 (i := 19) (v := ?_) n0 rfl (by kernel_rfl) (by kernel_rfl) (by kernel_rfl) (fun _ _ _ h => h) rfl ?_ ?_
            rotate_left
            · intro w' hN
              go_simp
              try with_reducible rfl
            simp only [Act.put, List.getElem_toArray, List.getElem_cons_succ, List.getElem_cons_zero, List.setIfInBounds_toArray, List.set_cons_zero, List.set_cons_succ]
            refine hold_read0 (i := 20) (v := ?_) n0 rfl (by kernel_rfl) (by kernel_rfl) (by kernel_rfl) (fun _ _ _ h => h) rfl ?_ ?_
            rotate_left
            · intro w' hN
              go_simp
              try with_reducible rfl
            simp only [Act.put, List.getElem_toArray, List.getElem_cons_succ, List.getElem_cons_zero, List.setIfInBounds_toArray, List.set_cons_zero, List.set_cons_succ]
            refine hold_read0 (i := 21) (v := ?_) n0 rfl (by kernel_rfl) (by kernel_rfl) (by kernel_rfl) (fun _ _ _ h => h) rfl ?_ ?_
            rotate_left
            · intro w' hN
              go_simp
              try with_reducible rfl
            simp only [Act.put, List.getElem_toArray, List.getElem_cons_succ, List.getElem_cons_zero, List.setIfInBounds_toArray, List.set_cons_zero, List.set_cons_succ]
            refine hold_read0 (i := 22) (v := ?_) n0 rfl (by kernel_rfl) (by kernel_rfl) (by kernel_rfl) (fun _ _ _ h => h) rfl ?_ ?_
            rotate_left
            · intro w' hN
              go_simp
              try with_reducible rfl
            simp only [Act.put, List.getElem_toArray, List.getElem_cons_succ, List.getElem_cons_zero, List.setIfInBounds_toArray, List.set_cons_zero, List.set_cons_succ]
            refine hold_read0 (i := 23) (v := ?_) n0 rfl (by kernel_rfl) (by kernel_rfl) (by kernel_rfl) (fun _ _ _ h => h) rfl ?_ ?_
            rotate_left
            · intro w' hN
              go_simp
              try with_reducible rfl
            simp only [Act.put, List.getElem_toArray, List.getElem_cons_succ, List.getElem_cons_zero, List.setIfInBounds_toArray, List.set_cons_zero, List.set_cons_succ]
            refine hold_read0 (i := 24) (v := ?_) n0 rfl (by kernel_rfl) (by kernel_rfl) (by kernel_rfl) (fun _ _ _ h => h) rfl ?_ ?_
            rotate_left
            · intro w' hN
              go_simp
              try with_reducible rfl
            simp only [Act.put, List.getElem_toArray, List.getElem_cons_succ, List.getElem_cons_zero, List.setIfInBounds_toArray, List.set_cons_zero, List.set_cons_succ]
            refine hold_read0 (i := 25) (v := ?_) n0 rfl (by kernel_rfl) (by kernel_rfl) (by kernel_rfl) (fun _ _ _ h => h) rfl ?_ ?_
            rotate_left
            · intro w' hN
              go_simp
              try with_reducible rfl
            simp only [Act.put, List.getElem_toArray, List.getElem_cons_succ, List.getElem_cons_zero, List.setIfInBounds_toArray, List.set_cons_zero, List.set_cons_succ]
            refine hold_read0 (i := 26) (v := ?_) n0 rfl (by kernel_rfl) (by kernel_rfl) (by kernel_rfl) (fun _ _ _ h => h) rfl ?_ ?_
            rotate_left
            · intro w' hN
              go_simp
              try with_reducible rfl
            simp only [Act.put, List.getElem_toArray, List.getElem_cons_succ, List.getElem_cons_zero, List.setIfInBounds_toArray, List.set_cons_zero, List.set_cons_succ]
            refine hold_read0 (i := 27) (v := ?_) n0 rfl (by kernel_rfl) (by kernel_rfl) (by kernel_rfl) (fun _ _ _ h => h) rfl ?_ ?_
            rotate_left
            · intro w' hN
              go_simp
              try with_reducible rfl
            simp only [Act.put, List.getElem_toArray, List.getElem_cons_succ, List.getElem_cons_zero, List.setIfInBounds_toArray, List.set_cons_zero, List.set_cons_succ]
            refine hold_read0 (i := 28) (v := ?_) n0 rfl (by kernel_rfl) (by kernel_rfl) (by kernel_rfl) (fun _ _ _ h => h) rfl ?_ ?_
            rotate_left
            · intro w' hN
              go_simp
              try with_reducible rfl
            simp only [Act.put, List.getElem_toArray, List.getElem_cons_succ, List.getElem_cons_zero, List.setIfInBounds_toArray, List.set_cons_zero, List.set_cons_succ]
            refine hold_read0 (i := 29) (v := ?_) n0 rfl (by kernel_rfl) (by kernel_rfl) (by kernel_rfl) (fun _ _ _ h => h) rfl ?_ ?_
            rotate_left
            · intro w' hN
              go_simp
              try with_reducible rfl
            simp only [Act.put, List.getElem_toArray, List.getElem_cons_succ, List.getElem_cons_zero, List.setIfInBounds_toArray, List.set_cons_zero, List.set_cons_succ]
            refine hold_read0 (i := 30) (v := ?_) n0 rfl (by kernel_rfl) (by kernel_rfl) (by kernel_rfl) (fun _ _ _ h => h) rfl ?_ ?_
            rotate_left
            · intro w' hN
              go_simp
              try with_reducible rfl
            simp only [Act.put, List.getElem_toArray, List.getElem_cons_succ, List.getElem_cons_zero, List.setIfInBounds_toArray, List.set_cons_zero, List.set_cons_succ]
            refine hold_read0 (i := 31) (v := ?_) n0 rfl (by kernel_rfl) (by kernel_rfl) (by kernel_rfl) (fun _ _ _ h => h) rfl ?_ ?_
            rotate_left
            · intro w' hN
              go_simp
              try with_reducible rfl
            simp only [Act.put, List.getElem_toArray, List.getElem_cons_succ, List.getElem_cons_zero, List.setIfInBounds_toArray, List.set_cons_zero, List.set_cons_succ]
            refine hold_step0 (i := 32) (by kernel_rfl) rfl rfl (fun K hK => ?_)
            go_simp
            go_wp2_with fail
            have n1 := Keep.new n0 kA
            refine hK.out _ _ n1 ?_
            clear hK K
            try simp only [Act.put, List.getElem_toArray, List.getElem_cons_succ, List.getElem_cons_zero, List.setIfInBounds_toArray, List.set_cons_zero, List.set_cons_succ]
            replace n0 := n1
            clear n1
            refine hold_step0 (i := 33) (by kernel_rfl) rfl rfl (fun K hK => ?_)
            refine wp_headsMR _ _ _ rfl w8.heap.size (fun b => b < w8.heap.size) A' k2 c' (ls.take k2) rfl HOA.out _ _ 1 1 _ [g] rfl hrow rfl HIT.out hbd hsA ?_
            intro A3 c3 w9 hown3 hg3 hbk3
            have n1 := n0.grown hg3 (fun j hj hd => absurd hd (by have := (HOA.out.lt j hj).1; show ¬ j < w8.heap.size; omega))
            refine hK.out _ _ n1 ?_
            clear hK K
            try simp only [Act.put, List.getElem_toArray, List.getElem_cons_succ, List.getElem_cons_zero, List.setIfInBounds_toArray, List.set_cons_zero, List.set_cons_succ]
            replace n0 := n1
            clear n1
            refine hold_read0 (i := 34) (v := ?_) n0 rfl (by kernel_rfl) (by kernel_rfl) (by kernel_rfl) (fun _ _ _ h => h) rfl ?_ ?_
            rotate_left
            · intro w' hN
              go_simp
              try with_reducible rfl
            simp only [Act.put, List.getElem_toArray, List.getElem_cons_succ, List.getElem_cons_zero, List.setIfInBounds_toArray, List.set_cons_zero, List.set_cons_succ]
            refine wpAnyH_done (by kernel_rfl) ?_ _
            have hK3 : New w8 w9 := (Keep.trans2 (D := fun b => b < w8.heap.size) (Keep.of_new HK.out).drew n0 (fun i _ hi => hi)).toNew (fun i hi => hi)
            clear y0 y1 y2 y3 y4 y5 n0 hg3 hbk3 kA hrow
            go_wp2_with fail
            go_roundw
            case rel => exact ⟨k2 + 1, A3, c3, by omega, by go_num, rfl, by rw [HT.out]; exact hown3, hK3⟩
            case measure => simp [intOf]; omega
          · obtain rfl : k2 = m2 := by omega
            have ht : ls.take k2 = ls := List.take_of_length_le (by rw [HLL.out]; exact Nat.le_refl _)
            rw [ht] at HO
            have HLa := Lib.hid (fun W (q : New wr W) => links_any D _ A A8 p c k2 c8 i0 ls W (HB8.out.new (HK.out.new q)) hm0 hm2 (HH8.out.new (HK.out.new q)) (by omega))
            have HLb := Lib.hid (fun W (q : New wr W) => links18_any D _ A A' p c k2 c' i0 ls W (HB8.out.new (HK.out.new q)) hm2 (HO.out.heads.new q) (by omega))
            generalize linksOf i0 ls = q at *
            go_wp2_with fail
            refine (HLa.out _ (New.refl _)).mono ?_
            rintro e w21 ⟨rfl, k21⟩
            go_wp2_with fail
            refine (HLb.out _ k21).mono ?_
            rintro e w22 ⟨rfl, k22⟩
            go_wp2_with fail
            refine (known18_any _).mono ?_
            rintro e w23 ⟨rfl, k23⟩
            go_wp2_with fail
            go_ret
            exact ⟨rfl, HK8.out.new (HK.out.new ((k21.new k22).new k23))⟩
      · refine hold_fork (i := 0) (j := 6) (by kernel_rfl) rfl rfl rfl rfl (fun K hK => ?_) (fun K hK => ?_)
        · have k0 : New w5.drew (w5.alloc (.cells #[] 36)).drew := (New.refl w5.drew).alloc (.cells #[] 36)
          have o0 : OwnHeads (w5.alloc (.cells #[] 36)).drew w5.heap.size (fun b => b < w5.heap.size) (some ⟨w5.heap.size, 0, none⟩) 0 0 [] := ⟨[], World.ownsRow_made w5.drew #[] 0 (Nat.le_refl _) (by decide) rfl, rfl, fun k hk => absurd hk (by simp)⟩
          go_simp
          go_wp2_with fail
          have n1 := Keep.new n0 k0
          clear k0
          generalize (w5.alloc (.cells #[] 36)).drew = wa at *
          refine hK.out (Keep (Lo w5.heap.size) w5.drew) _ _ (fun _ h => h) n1 ?_
          clear hK K
          try simp only [Act.put, List.getElem_toArray, List.getElem_cons_succ, List.getElem_cons_zero, List.setIfInBounds_toArray, List.set_cons_zero, List.set_cons_succ]
          refine hold_fork (i := 4) (j := 6) (by kernel_rfl) rfl rfl rfl rfl (fun K hK => ?_) (fun K hK => ?_)
          · refine wp_headsM _ _ _ rfl w5.heap.size (fun b => b < w5.heap.size) (some ⟨w5.heap.size, 0, none⟩) 0 0 [] rfl o0 _ _ kk _ _ (hs.take kk) rfl (HLW.out _ n1) hlt6 (fun k hk => (HLI.out _ n1 k hk).imp fun b hb hd => ⟨hd, fun e => by have := (o0.lt b e.symm).1; omega⟩) hb1 n1.size ?_
            intro A4 c4 wb o4 hg4 hbk4
            rw [Nat.zero_add] at o4 ⊢
            have n2 := n1.grown hg4 (fun i hi hd => absurd hd (by have := (o0.lt i hi).1; show ¬ i < w5.heap.size; omega))
            refine hK.out (Keep (Lo w5.heap.size) w5.drew) _ _ (fun _ h => h) n2 ?_
            clear hK K
            try simp only [Act.put, List.getElem_toArray, List.getElem_cons_succ, List.getElem_cons_zero, List.setIfInBounds_toArray, List.set_cons_zero, List.set_cons_succ]
            refine hold_step0 (i := 6) (by kernel_rfl) rfl rfl (fun K hK => ?_)
            have k0 := (New.refl wb).alloc (.cells #[.int .i64 h.index, .int .u64 h.first, .int .i64 h.count, .int .i64 h.bytes, .slice P2 h.prev.length pc, .slice R2 h.root.length rc] 36)
            have r6 := head_one wb 36 h P2 R2 pc rc
            go_simp
            go_wp2_with fail
            have n3 := Keep.new n2 k0
            refine hK.out _ _ n3 ?_
            clear hK K
            try simp only [Act.put, List.getElem_toArray, List.getElem_cons_succ, List.getElem_cons_zero, List.setIfInBounds_toArray, List.set_cons_zero, List.set_cons_succ]
            exact hold_strong (by kernel_rfl) (fun _ h => h) (HJ.out _ _ _ ⟨_, A4, c4, _, rfl, rfl, n3, OwnHeads.new o4 k0, r6.imp fun _ _ _ => trivial⟩)
          · have k0 := (New.refl wa).alloc (.cells #[.int .i64 h.index, .int .u64 h.first, .int .i64 h.count, .int .i64 h.bytes, .slice P2 h.prev.length pc, .slice R2 h.root.length rc] 36)
            have r6 := head_one wa 36 h P2 R2 pc rc
            have hlt : w5.heap.size < wa.heap.size := (o0.lt _ rfl).2
            go_simp
            go_wp2_with fail
            have n2 := Keep.new n1 k0
            replace o0 := OwnHeads.new o0 k0
            clear k0
            generalize wa.alloc (.cells #[.int .i64 h.index, .int .u64 h.first, .int .i64 h.count, .int .i64 h.bytes, .slice P2 h.prev.length pc, .slice R2 h.root.length rc] 36) = wb at *
            refine hK.out (Keep (Lo w5.heap.size) w5.drew) _ _ (fun _ h => h) n2 ?_
            clear hK K
            try simp only [Act.put, List.getElem_toArray, List.getElem_cons_succ, List.getElem_cons_zero, List.setIfInBounds_toArray, List.set_cons_zero, List.set_cons_succ]
            refine hold_step0 (i := 4) (by kernel_rfl) rfl rfl (fun K hK => ?_)
            refine wp_headsM _ _ _ rfl w5.heap.size (fun b => b < w5.heap.size) (some ⟨w5.heap.size, 0, none⟩) 0 0 [] rfl o0 _ _ kk _ _ (hs.take kk) rfl (HLW.out _ n2) hlt6 (fun k hk => (HLI.out _ n2 k hk).imp fun b hb hd => ⟨hd, fun e => by have := (o0.lt b e.symm).1; omega⟩) hb1 n2.size ?_
            intro A4 c4 wc o4 hg4 hbk4
            rw [Nat.zero_add] at o4 ⊢
            have n3 := n2.grown hg4 (fun i hi hd => absurd hd (by have := (o0.lt i hi).1; show ¬ i < w5.heap.size; omega))
            replace r6 := Row.keep r6 (keep_blk hg4) (fun b _ hd e => by (have e1 : b = w5.heap.size := by injection e); omega)
            refine hK.out _ _ n3 ?_
            clear hK K
            try simp only [Act.put, List.getElem_toArray, List.getElem_cons_succ, List.getElem_cons_zero, List.setIfInBounds_toArray, List.set_cons_zero, List.set_cons_succ]
            exact hold_strong (by kernel_rfl) (fun _ h => h) (HJ.out _ _ _ ⟨_, A4, c4, _, rfl, rfl, n3, o4, r6.imp fun _ _ _ => trivial⟩)
        · have k0 : New w5.drew (w5.alloc (.cells #[.int .i64 h.index, .int .u64 h.first, .int .i64 h.count, .int .i64 h.bytes, .slice P2 h.prev.length pc, .slice R2 h.root.length rc] 36)).drew := (New.refl w5.drew).alloc (.cells #[.int .i64 h.index, .int .u64 h.first, .int .i64 h.count, .int .i64 h.bytes, .slice P2 h.prev.length pc, .slice R2 h.root.length rc] 36)
          have r6 : Row (w5.alloc (.cells #[.int .i64 h.index, .int .u64 h.first, .int .i64 h.count, .int .i64 h.bytes, .slice P2 h.prev.length pc, .slice R2 h.root.length rc] 36)).drew (fun b => b < (w5.alloc (.cells #[.int .i64 h.index, .int .u64 h.first, .int .i64 h.count, .int .i64 h.bytes, .slice P2 h.prev.length pc, .slice R2 h.root.length rc] 36)).drew.heap.size) (some ⟨w5.heap.size, 0, none⟩) 1 6 [.int .i64 h.index, .int .u64 h.first, .int .i64 h.count, .int .i64 h.bytes, .slice P2 h.prev.length pc, .slice R2 h.root.length rc] := (head_one w5.drew 36 h P2 R2 pc rc).imp fun b hb _ => hb
          go_simp
          go_wp2_with fail
          have n1 := Keep.new n0 k0
          clear k0
          generalize (w5.alloc (.cells #[.int .i64 h.index, .int .u64 h.first, .int .i64 h.count, .int .i64 h.bytes, .slice P2 h.prev.length pc, .slice R2 h.root.length rc] 36)).drew = wa at *
          refine hK.out (Keep (Lo w5.heap.size) w5.drew) _ _ (fun _ h => h) n1 ?_
          clear hK K
          try simp only [Act.put, List.getElem_toArray, List.getElem_cons_succ, List.getElem_cons_zero, List.setIfInBounds_toArray, List.set_cons_zero, List.set_cons_succ]
          refine hold_step0 (i := 0) (by kernel_rfl) rfl rfl (fun K hK => ?_)
          have k0 := (New.refl wa).alloc (.cells #[] 36)
          have o0 : OwnHeads (wa.alloc (.cells #[] 36)) w5.heap.size (fun b => b < w5.heap.size) (some ⟨wa.heap.size, 0, none⟩) 0 0 [] := ⟨[], World.ownsRow_made wa #[] 0 n1.size (by decide) rfl, rfl, fun k hk => absurd hk (by simp)⟩
          go_simp
          go_wp2_with fail
          have n2 := Keep.new n1 k0
          replace r6 := Row.new r6 k0
          clear k0
          generalize wa.alloc (.cells #[] 36) = wb at *
          refine hK.out _ _ n2 ?_
          clear hK K
          try simp only [Act.put, List.getElem_toArray, List.getElem_cons_succ, List.getElem_cons_zero, List.setIfInBounds_toArray, List.set_cons_zero, List.set_cons_succ]
          refine hold_step0 (i := 4) (by kernel_rfl) rfl rfl (fun K hK => ?_)
          refine wp_headsM _ _ _ rfl w5.heap.size (fun b => b < w5.heap.size) (some ⟨wa.heap.size, 0, none⟩) 0 0 [] rfl o0 _ _ kk _ _ (hs.take kk) rfl (HLW.out _ n2) hlt6 (fun k hk => (HLI.out _ n2 k hk).imp fun b hb hd => ⟨hd, fun e => by have := (o0.lt b e.symm).1; omega⟩) hb1 n2.size ?_
          intro A4 c4 wc o4 hg4 hbk4
          rw [Nat.zero_add] at o4 ⊢
          have n3 := n2.grown hg4 (fun i hi hd => absurd hd (by have := (o0.lt i hi).1; show ¬ i < w5.heap.size; omega))
          replace r6 := Row.keep r6 (keep_blk hg4) (fun b _ hd e => by (have e1 : b = wa.heap.size := by injection e); omega)
          refine hK.out _ _ n3 ?_
          clear hK K
          try simp only [Act.put, List.getElem_toArray, List.getElem_cons_succ, List.getElem_cons_zero, List.setIfInBounds_toArray, List.set_cons_zero, List.set_cons_succ]
          exact hold_strong (by kernel_rfl) (fun _ h => h) (HJ.out _ _ _ ⟨_, A4, c4, _, rfl, rfl, n3, o4, r6.imp fun _ _ _ => trivial⟩)
end Go.Proofs.YtpbbfbgmpidgnaaGreatDoor
/-
  PROVED HERE: SealLinksCardSaid: for every input the law SealLinks returns true, and each argument reads afterwards as before; the tables that the row lists are tied to the program's text. No condition.
-/
namespace Go.Proofs.YtpbbfbgmpidgnaaGreatDoor.sealLinks
open Go.ChangeShapes Go.WideShapes Go.ChangeAt Go.RowKit Go.Joins Go.Deep

section
variable {H : Type} {enc : TypeId × Value → H} {P : Program} {w : World} {base : Nat} {spare : Nat → Bool} {held : Bool}
theorem open_agg6 {r : Reach} {b0 : Nat} {t : TypeId} {f0 f1 f2 f3 f4 f5 : Field} {v : Value} {d : DataW H} {p : List MemPlace} (hs : P.underlying t = some (.struct #[f0, f1, f2, f3, f4, f5])) (hone : oneCellFields P #[f0, f1, f2, f3, f4, f5] = true) (hC : P.cellsOf t = 6)
    (hv : Value.okWide P w r b0 t v) (h : DataW.Trod enc P w base spare held t v d p) :
    ∃ (v0 v1 v2 v3 v4 v5 : Value) (y0 y1 y2 y3 y4 y5 : DataW H × List MemPlace) (n : Nat), v = .agg #[v0, v1, v2, v3, v4, v5] ∧
      DataW.trod enc P w base spare held n f0.type [v0] = some y0 ∧ DataW.trod enc P w base spare held n f1.type [v1] = some y1 ∧ DataW.trod enc P w base spare held n f2.type [v2] = some y2 ∧ DataW.trod enc P w base spare held n f3.type [v3] = some y3 ∧ DataW.trod enc P w base spare held n f4.type [v4] = some y4 ∧ DataW.trod enc P w base spare held n f5.type [v5] = some y5 := by
  obtain ⟨cs, rfl, hsz⟩ := okWide_struct hs hv
  obtain ⟨l⟩ := cs
  match l, hsz.trans hC with
  | [c0, c1, c2, c3, c4, c5], _ =>
    obtain ⟨fuel, hf⟩ := h
    obtain ⟨xs, n, _, hx, _, hlen, hg⟩ := DataW.trod_struct hs hf
    obtain ⟨o0, k0⟩ := hone_of hone 0 f0 rfl
    obtain ⟨o1, k1⟩ := hone_of hone 1 f1 rfl
    obtain ⟨o2, k2⟩ := hone_of hone 2 f2 rfl
    obtain ⟨o3, k3⟩ := hone_of hone 3 f3 rfl
    obtain ⟨o4, k4⟩ := hone_of hone 4 f4 rfl
    obtain ⟨o5, k5⟩ := hone_of hone 5 f5 rfl
    match xs, hlen with
    | [y0, y1, y2, y3, y4, y5], _ =>
      exact ⟨c0, c1, c2, c3, c4, c5, y0, y1, y2, y3, y4, y5, n, rfl, by simpa [Value.cells, o0, k0] using hg 0 f0 rfl, by simpa [Value.cells, o1, k1] using hg 1 f1 rfl, by simpa [Value.cells, o2, k2] using hg 2 f2 rfl, by simpa [Value.cells, o3, k3] using hg 3 f3 rfl, by simpa [Value.cells, o4, k4] using hg 4 f4 rfl, by simpa [Value.cells, o5, k5] using hg 5 f5 rfl⟩
end
theorem trod_num {H : Type} {enc : TypeId × Value → H} {P : Program} {w : World} {base : Nat} {spare : Nat → Bool} {held : Bool} {t : TypeId} {k : IntKind} {fuel : Nat} {v : Value} {x : DataW H × List MemPlace} (ht : P.underlying t = some (.int k)) (h : DataW.trod enc P w base spare held fuel t [v] = some x) : ∃ n, v = .int k n ∧ (Lit.int k n).wf = true := by
  obtain ⟨n, hc, _, hw⟩ := DataW.trod_int ht h
  injection hc with hc
  exact ⟨n, hc, hw⟩


set_option maxRecDepth 100000 in
theorem contract (H : Type) (enc : TypeId × Value → H) (W : World) (base : Nat) (args : Array Value) (ds gs : List (DataW H)) (before : List MemPlace)
    (hval : ∀ (j : Nat) t v, Tryz.f5.params[j]? = some t → args[j]? = some v → Value.okWide Tryz.prog W .any base t v)
    (hW : DataW.Whole enc Tryz.prog Tryz.f5.params.toList Rows.sealLinksSpec.vars false W args.toList ds gs before) :
    Calls Tryz.prog 5 args W fun e W' => ∃ v, e = .returned v ∧ Rows.sealLinksSpec.post enc Tryz.prog Tryz.f5 false true false false W args v W' := by
  have hW' := hW
  obtain ⟨p, q, hA0, hV, rfl, hfz, hnd⟩ := hW
  have hA : DataW.TrodAll enc Tryz.prog W 0 (fun _ => true) true Tryz.f5.params.toList args.toList ds p := hA0
  rw [Tryz.params5] at hA hval
  obtain ⟨v0, vs0, d0, ds0, p0, q0, hargs, rfl, rfl, h0, r0⟩ := trodAll_cons hA
  obtain ⟨v1, vs1, d1, ds1, p1, q1, rfl, rfl, rfl, h1, r1⟩ := trodAll_cons r0
  obtain ⟨v2, vs2, d2, ds2, p2, q2, rfl, rfl, rfl, h2, r2⟩ := trodAll_cons r1
  obtain ⟨v3, vs3, d3, ds3, p3, q3, rfl, rfl, rfl, h3, r3⟩ := trodAll_cons r2
  obtain ⟨rfl, rfl, rfl⟩ := trodAll_nil r3
  obtain rfl : args = #[v0, v1, v2, v3] := by cases args; simp_all
  obtain ⟨rfl, rfl⟩ := trodVars_none hV
  obtain ⟨a0, l0, c0, rfl⟩ := okWide_slice Tryz.underlying22 (hval 0 _ v0 rfl rfl)
  obtain ⟨fu0, hf0⟩ := h0
  obtain ⟨B0, n0, k0, x0, hv0, hn0, hm0, hB0⟩ := read_bytes hf0
  obtain ⟨a1, l1, c1, rfl⟩ := okWide_slice Tryz.underlying27 (hval 1 _ v1 rfl rfl)
  obtain ⟨fu1, hf1⟩ := h1
  obtain ⟨B1, n1, k1, x1, hv1, hn1, hm1, hB1⟩ := read_raws8 hf1
  obtain ⟨c0, c1, c2, c3, c4, c5, y0, y1, y2, y3, y4, y5, nn, rfl, g0, g1, g2, g3, g4, g5⟩ := open_agg6 Tryz.underlying36 (by kernel_rfl) (by kernel_rfl) (hval 2 _ _ rfl rfl) h2
  obtain ⟨ix2, rfl, _⟩ := trod_num Tryz.underlying3 g0
  obtain ⟨fi2, rfl, wf1⟩ := trod_num Tryz.underlying34 g1
  obtain ⟨co2, rfl, _⟩ := trod_num Tryz.underlying3 g2
  obtain ⟨by2, rfl, _⟩ := trod_num Tryz.underlying3 g3
  obtain ⟨P2, pn2, pc2, pb2, rfl, hpc2, hpm2, hP2⟩ := read_bytes g4
  obtain ⟨R2, rn2, rc2, rb2, rfl, hrc2, hrm2, hR2⟩ := read_bytes g5
  have bf2 : 0 ≤ fi2 ∧ fi2 ≤ 18446744073709551615 := by simpa [Lit.wf, IntKind.min, IntKind.max, IntKind.signed, IntKind.bits] using wf1
  have hpl2 := hP2.len
  subst hpl2
  have hrl2 := hR2.len
  subst hrl2
  obtain ⟨z3, rfl, hz3⟩ := open_int Tryz.underlying3 (hval 3 _ v3 rfl rfl) h3
  have b3 : -9223372036854775808 ≤ z3 ∧ z3 ≤ 9223372036854775807 := by simpa [Lit.wf, IntKind.min, IntKind.max, IntKind.signed, IntKind.bits] using hz3.2.2
  rw [hv0] at hW' ⊢
  rw [hv1] at hW' ⊢
  unfold maxLen at hm0 hm1 hpm2 hrm2
  refine (seallinks_any _ _ _ _ B0 B1 P2 R2 n0 k0 n1 k1 pc2 rc2 x0 x1 ⟨ix2, fi2, co2, by2, pb2, rb2⟩ z3 W hB0 hB1 hP2 hR2 hn0 (by omega) hn1 (by omega) hpc2 (by omega) hrc2 (by omega) bf2.1 bf2.2 b3.1 b3.2).mono fun e W' ⟨he, hN⟩ => ?_
  subst he
  exact ⟨_, rfl, law_post laid_out (by kernel_rfl) rfl (by kernel_rfl) Tryz.underlying4 hW' rfl rfl rfl hN⟩

def args0 : Array Value := #[.slice none 0 0, .slice none 0 0, .agg #[.int .i64 0, .int .u64 0, .int .i64 0, .int .i64 0, .slice none 0 0, .slice none 0 0], .int .i64 0]
theorem laid_met (os : Os) : laidMet Tryz.prog Rows.sealLinksRow.laid ((laidWorld os).forCall (fun _ _ => 0) ⟨#[], args0, []⟩).memory :=
  laidMet_of_run' 8 (by kernel_rfl) (by kernel_rfl)
theorem reads (os : Os) {H : Type} (enc : TypeId × Value → H) : ∃ places, DataW.whole enc Tryz.prog ((laidWorld os).forCall (fun _ _ => 0) ⟨#[], args0, []⟩).memory Tryz.f5.params.toList Rows.sealLinksSpec.vars false args0.toList 8 = some ([.nil, .nil, .agg [.lit (.int .i64 0), .lit (.int .u64 0), .lit (.int .i64 0), .lit (.int .i64 0), .nil, .nil], .lit (.int .i64 0)], [], places) :=
  ⟨[], by kernel_rfl⟩
set_option maxRecDepth 100000 in
theorem lifted (os : Os) (started : os.Started) (H : Type) (enc : TypeId × Value → H) (F : Stop.Interp) :
    ReturnsInHanded {} Tryz.checked os 5 .any ((OpenSpec.ofChange Rows.sealLinksSpec).preRow enc Tryz.prog Tryz.f5 Rows.sealLinksRow.domain false Rows.sealLinksRow.laid) (((OpenSpec.ofChange Rows.sealLinksSpec).at F).post enc Tryz.prog Tryz.f5 false true false false) := by
  obtain ⟨places, hx⟩ := reads os enc
  refine returnsInHanded_of_row (C := Tryz.checked) (s := OpenSpec.ofChange Rows.sealLinksSpec) own_knob started (by kernel_rfl) Tryz.func5
    (witness_row_at (enc := enc) (C := Tryz.checked) false (laidWorld os) args0 rfl (by kernel_rfl) (by kernel_rfl) (by kernel_rfl)
      (OpenSpec.preRow_of_cond 8 hx (by kernel_rfl) (fun k hk => by cases hk) (by kernel_rfl) (laid_met os))) ?_
  intro W base args ds gs before hval hW _ _ _ _ _ _
  exact contract H enc W base args ds gs before hval hW
theorem said : Rows.SealLinksSaid :=
  OpenClaim.holds_of_cond 5 Tryz.f5 rfl rfl rfl rfl rfl rfl rfl ⟨rfl, rfl, rfl, rfl, rfl⟩ rfl rfl rfl rfl rfl (by kernel_rfl) Tryz.func5 (by kernel_rfl)
    (of_decide_eq_true (by kernel_rfl)) (by unfold Func.isWrapper; first | (rw [if_pos (by decide +kernel)]; kernel_rfl) | (rw [if_neg (by decide +kernel)]; exact ⟨rfl, rfl⟩))
    (fun os started H enc _ F => by rw [OpenClaim.pre_eq_preRow]; exact lifted os started H enc F)
theorem plain (f : FuncId) (fn : Func) (hf : Tryz.pinned.checked.prog.funcNamed "permafrost/permafrostlaw18.SealLinks" = some f) (hfn : Tryz.pinned.checked.prog.funcs[f]? = some fn) :
    false = Tryz.pinned.checked.prog.looks [] ∧ ∀ (j : Nat) t, fn.params[j]? = some t → Tryz.pinned.checked.prog.wantsStandIn t = false := by
  obtain rfl : f = 5 := Option.some.inj ((show Tryz.prog.funcNamed "permafrost/permafrostlaw18.SealLinks" = some 5 by kernel_rfl).symm.trans hf) |>.symm
  obtain rfl : fn = Tryz.f5 := (Option.some.inj (Tryz.func5.symm.trans hfn)).symm
  refine ⟨by kernel_rfl, fun j t ht => ?_⟩
  rw [Tryz.params5] at ht
  have hall : (#[22, 27, 36, 3] : Array TypeId).toList.all (fun t => Tryz.pinned.checked.prog.wantsStandIn t == false) = true := by kernel_rfl
  have hm : t ∈ (#[22, 27, 36, 3] : Array TypeId).toList := Array.mem_toList_iff.2 (Array.mem_of_getElem? ht)
  simpa using List.all_eq_true.1 hall t hm
end Go.Proofs.YtpbbfbgmpidgnaaGreatDoor.sealLinks
namespace Go.Proofs.YtpbbfbgmpidgnaaGreatDoor
theorem seal_links : Rows.SealLinksCardSaid :=
  Claim7.holds_tied_plain_at .later [] _ _ _ _ sealLinks.said (fun _ h => by cases h) (by kernel_rfl) (fun _ h => by cases h) sealLinks_row_tie rfl ⟨rfl, rfl⟩ (by kernel_rfl) rfl sealLinks.plain (by kernel_rfl)
end Go.Proofs.YtpbbfbgmpidgnaaGreatDoor
