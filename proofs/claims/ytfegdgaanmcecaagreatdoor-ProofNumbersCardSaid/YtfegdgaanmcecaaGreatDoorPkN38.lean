/-
  PROVED HERE: what proof.fine and right answer; condition: lengths that a slice may have.
-/
import Derived.Test.YtfegdgaanmcecaaGreatDoorPkN32
namespace Go.Proofs.YtfegdgaanmcecaaGreatDoor
open Go.RowKit
def shortB (n : Int) : Bool := decide (0 ≤ n ∧ n ≤ 65535)
theorem shortB_lo {n : Int} (h : n < 0) : shortB n = false := by unfold shortB; rw [decide_eq_false_iff_not]; omega
theorem shortB_hi {n : Int} (h : 65535 < n) : shortB n = false := by unfold shortB; rw [decide_eq_false_iff_not]; omega
theorem shortB_in {n : Int} (h0 : ¬ n < 0) (h1 : ¬ 65535 < n) : shortB n = true := by unfold shortB; rw [decide_eq_true_eq]; omega
def fineHead (h : HeadP) : Bool := (shortB h.index && (shortB h.count && shortB h.bytes)) && (decide (h.first ≤ 1099511627776) && (decide (h.prev.length = 32) && decide (h.root.length = 32)))
def rightProof (p : ProofP) : Bool := fineHead p.head && (shortB p.place && (decide (p.leaf.length ≤ 65535) && (decide (p.path.length ≤ 255) && (decide (p.later.length ≤ 65535) && ((p.path.all fun b => b.length == 32) && (p.later.all fineHead))))))
set_option maxRecDepth 100000 in
set_option maxHeartbeats 2000000 in
theorem fine_any (P1 R1 : Option Addr) (p1 r1 : Nat) (h : HeadP) (w : World) : Calls Tryz.prog 108 #[.agg #[.int .i64 h.index, .int .u64 h.first, .int .i64 h.count, .int .i64 h.bytes, .slice P1 h.prev.length p1, .slice R1 h.root.length r1]] w fun e w' => e = .returned (.bool (fineHead h)) ∧ New w w' := by
 have hN : New w ((w.alloc (.cells #[.int .i64 h.index, .int .u64 h.first, .int .i64 h.count, .int .i64 h.bytes, .slice P1 h.prev.length p1, .slice R1 h.root.length r1] 33)).alloc (.cells #[.int .i64 h.index, .int .i64 h.count, .int .i64 h.bytes] 3)) := ((New.refl w).alloc _).alloc _
 have hY := heap_alloc_new (w.alloc (.cells #[.int .i64 h.index, .int .u64 h.first, .int .i64 h.count, .int .i64 h.bytes, .slice P1 h.prev.length p1, .slice R1 h.root.length r1] 33)) (.cells #[.int .i64 h.index, .int .i64 h.count, .int .i64 h.bytes] 3)
 rw [World.size_alloc] at hY
 have hX := ((New.refl (w.alloc (.cells #[.int .i64 h.index, .int .u64 h.first, .int .i64 h.count, .int .i64 h.bytes, .slice P1 h.prev.length p1, .slice R1 h.root.length r1] 33))).alloc (.cells #[.int .i64 h.index, .int .i64 h.count, .int .i64 h.bytes] 3)).blockAt (heap_alloc_new w (.cells #[.int .i64 h.index, .int .u64 h.first, .int .i64 h.count, .int .i64 h.bytes, .slice P1 h.prev.length p1, .slice R1 h.root.length r1] 33)) trivial
 have hX0 := heap_alloc_new w (.cells #[.int .i64 h.index, .int .u64 h.first, .int .i64 h.count, .int .i64 h.bytes, .slice P1 h.prev.length p1, .slice R1 h.root.length r1] 33)
 have b0 := cellOf hX0 (k := 0) rfl
 have b2 := cellOf hX0 (k := 2) rfl
 have b3 := cellOf hX0 (k := 3) rfl
 clear hX0
 have HX := Lib.hid hX
 have HY := Lib.hid hY
 have HN := Lib.hid hN
 clear hX hY hN
 go_enter Tryz.func108, Tryz.ntmps108
 go_wp2_with fail
 clear b0 b2 b3
 generalize (w.alloc (.cells #[.int .i64 h.index, .int .u64 h.first, .int .i64 h.count, .int .i64 h.bytes, .slice P1 h.prev.length p1, .slice R1 h.root.length r1] 33)).alloc (.cells #[.int .i64 h.index, .int .i64 h.count, .int .i64 h.bytes] 3) = w1 at *
 generalize w.heap.size = gb at *
 go_loopw [13] (fun i wx => ∃ k : Nat, k ≤ 3 ∧ i = .int .i64 (k : Int) ∧ (0 < k → shortB h.index = true) ∧ (1 < k → shortB h.count = true) ∧ (2 < k → shortB h.bytes = true) ∧ wx = w1) (fun i _ => 3 - (intOf i).toNat)
 case atStart => exact ⟨0, by decide, rfl, fun h => absurd h (by decide), fun h => absurd h (by decide), fun h => absurd h (by decide), rfl⟩
 case round =>
  obtain ⟨k, hk, rfl, c0, c1, c2, rfl⟩ := hrel
  have hk3 : k = 0 ∨ k = 1 ∨ k = 2 ∨ k = 3 := by omega
  have C0 := Lib.hid c0
  have C1 := Lib.hid c1
  have C2 := Lib.hid c2
  clear c0 c1 c2 hk
  rcases hk3 with rfl | rfl | rfl | rfl
  ·skip
   have x := cellOf HY.out (k := 0) rfl
   by_cases h1 : h.index < 0
   ·skip
    have HR : Hid (fineHead h = false) := Lib.hid (by unfold fineHead; rw [shortB_lo h1]; simp)
    go_wp2_with fail
    go_ret
    exact ⟨by rw [HR.out]; rfl, HN.out⟩
   ·by_cases h2 : 65535 < h.index
    ·skip
     have HR : Hid (fineHead h = false) := Lib.hid (by unfold fineHead; rw [shortB_hi h2]; simp)
     go_wp2_with fail
     go_ret
     exact ⟨by rw [HR.out]; rfl, HN.out⟩
    ·have HS := Lib.hid (shortB_in h1 h2)
     go_wp2_with fail
     go_roundw
     case rel => exact ⟨1, by decide, by go_num, fun _ => HS.out, fun h => absurd h (by decide), fun h => absurd h (by decide), trivial⟩
     case measure => simp [intOf]
  ·skip
   have x := cellOf HY.out (k := 1) rfl
   by_cases h1 : h.count < 0
   ·skip
    have HR : Hid (fineHead h = false) := Lib.hid (by unfold fineHead; rw [shortB_lo h1]; simp)
    go_wp2_with fail
    go_ret
    exact ⟨by rw [HR.out]; rfl, HN.out⟩
   ·by_cases h2 : 65535 < h.count
    ·skip
     have HR : Hid (fineHead h = false) := Lib.hid (by unfold fineHead; rw [shortB_hi h2]; simp)
     go_wp2_with fail
     go_ret
     exact ⟨by rw [HR.out]; rfl, HN.out⟩
    ·have HS := Lib.hid (shortB_in h1 h2)
     go_wp2_with fail
     go_roundw
     case rel => exact ⟨2, by decide, by go_num, fun h => C0.out (by omega), fun _ => HS.out, fun h => absurd h (by decide), trivial⟩
     case measure => simp [intOf]
  ·skip
   have x := cellOf HY.out (k := 2) rfl
   by_cases h1 : h.bytes < 0
   ·skip
    have HR : Hid (fineHead h = false) := Lib.hid (by unfold fineHead; rw [shortB_lo h1]; simp)
    go_wp2_with fail
    go_ret
    exact ⟨by rw [HR.out]; rfl, HN.out⟩
   ·by_cases h2 : 65535 < h.bytes
    ·skip
     have HR : Hid (fineHead h = false) := Lib.hid (by unfold fineHead; rw [shortB_hi h2]; simp)
     go_wp2_with fail
     go_ret
     exact ⟨by rw [HR.out]; rfl, HN.out⟩
    ·have HS := Lib.hid (shortB_in h1 h2)
     go_wp2_with fail
     go_roundw
     case rel => exact ⟨3, by decide, by go_num, fun h => C0.out (by omega), fun h => C1.out (by omega), fun _ => HS.out, trivial⟩
     case measure => simp [intOf]
  ·have x1 := cellOf HX.out (k := 1) rfl
   have x4 := cellOf HX.out (k := 4) rfl
   have x5 := cellOf HX.out (k := 5) rfl
   have HF : Hid (fineHead h = (decide (h.first ≤ 1099511627776) && (decide (h.prev.length = 32) && decide (h.root.length = 32)))) := Lib.hid (by unfold fineHead; rw [C0.out (by decide), C1.out (by decide), C2.out (by decide)]; rfl)
   clear C0 C1 C2
   by_cases h1 : h.first ≤ 1099511627776
   ·have e1 := Lib.hid (decide_eq_true h1)
    by_cases h2 : h.prev.length = 32
    ·have h2' : ((h.prev.length : Int) == 32) = true := by rw [beq_iff_eq]; omega
     have e2 := Lib.hid (decide_eq_true h2)
     clear h2
     by_cases h3 : h.root.length = 32
     ·have h3' : ((h.root.length : Int) == 32) = true := by rw [beq_iff_eq]; omega
      have e3 := Lib.hid (decide_eq_true h3)
      clear h3
      have HR : Hid (fineHead h = true) := Lib.hid (by rw [HF.out, e1.out, e2.out, e3.out]; rfl)
      go_wp2_with fail
      go_ret
      exact ⟨by rw [HR.out]; rfl, HN.out⟩
     ·have h3' : ((h.root.length : Int) == 32) = false := by rw [beq_eq_false_iff_ne]; omega
      have e3 := Lib.hid (decide_eq_false h3)
      clear h3
      have HR : Hid (fineHead h = false) := Lib.hid (by rw [HF.out, e1.out, e2.out, e3.out]; rfl)
      go_wp2_with fail
      go_ret
      exact ⟨by rw [HR.out]; rfl, HN.out⟩
    ·have h2' : ((h.prev.length : Int) == 32) = false := by rw [beq_eq_false_iff_ne]; omega
     have e2 := Lib.hid (decide_eq_false h2)
     clear h2
     have HR : Hid (fineHead h = false) := Lib.hid (by rw [HF.out, e1.out, e2.out]; rfl)
     go_wp2_with fail
     go_ret
     exact ⟨by rw [HR.out]; rfl, HN.out⟩
   ·have e1 := Lib.hid (decide_eq_false h1)
    have HR : Hid (fineHead h = false) := Lib.hid (by rw [HF.out, e1.out]; rfl)
    go_wp2_with fail
    go_ret
    exact ⟨by rw [HR.out]; rfl, HN.out⟩
set_option maxRecDepth 100000 in
theorem right1_any (A : Option Addr) (n c : Nat) (w : World) : Calls Tryz.prog 110 #[.slice A n c] w fun e w' => e = .returned (.bool ((n : Int) != 32)) ∧ New w w' := by
 go_enter Tryz.func110, Tryz.ntmps110
 go_wp2_with fail
 go_ret
 exact ⟨rfl, New.refl _⟩
set_option maxRecDepth 100000 in
theorem right2_any (P1 R1 : Option Addr) (p1 r1 : Nat) (h : HeadP) (w : World) : Calls Tryz.prog 112 #[.agg #[.int .i64 h.index, .int .u64 h.first, .int .i64 h.count, .int .i64 h.bytes, .slice P1 h.prev.length p1, .slice R1 h.root.length r1]] w fun e w' => e = .returned (.bool (!fineHead h)) ∧ New w w' := by
 have hX := heap_alloc_new w (.cells #[.int .i64 h.index, .int .u64 h.first, .int .i64 h.count, .int .i64 h.bytes, .slice P1 h.prev.length p1, .slice R1 h.root.length r1] 33)
 obtain ⟨x0, x1, x2, x3, x4, x5⟩ := cs6 hX
 have HF := Lib.hid (fine_any P1 R1 p1 r1 h (w.alloc (.cells #[.int .i64 h.index, .int .u64 h.first, .int .i64 h.count, .int .i64 h.bytes, .slice P1 h.prev.length p1, .slice R1 h.root.length r1] 33)))
 clear hX
 go_enter Tryz.func112, Tryz.ntmps112
 go_wp2_with fail
 refine HF.out.mono ?_
 rintro e w1 ⟨rfl, k1⟩
 go_wp2_with fail
 go_ret
 exact ⟨rfl, ((New.refl w).alloc _).new k1⟩
set_option maxRecDepth 100000 in
set_option maxHeartbeats 2000000 in
theorem indexB_any (D : Nat → Prop) (A : Option Addr) (n c : Nat) (ls : List (List UInt8)) (w : World) (hR : Imgs w D A n ls) (hn : n ≤ 9223372036854775806) :
  Calls Tryz.prog 133 #[.slice A n c, .func (Fn.func 110) #[] #[]] w fun e w' => (∃ i : Int, e = .returned (.int .i64 i) ∧ decide (0 ≤ i) = ls.any fun x => !(x.length == 32)) ∧ New w w' := by
 have HL := Lib.hid hR.len
 have HR := Lib.hid hR
 clear hR
 go_enter Tryz.func133, Tryz.ntmps133
 go_wp2_with fail
 go_loopw [8] (fun i wx => ∃ k : Nat, k ≤ n ∧ i = .int .i64 (k : Int) ∧ ((ls.take k).any fun x => !(x.length == 32)) = false ∧ New w wx) (fun i _ => n - (intOf i).toNat)
 case atStart => exact ⟨0, Nat.zero_le _, rfl, by rw [List.take_zero]; rfl, New.refl _⟩
 case round =>
  obtain ⟨k, hk, rfl, hno, hK⟩ := hrel
  have HNO := Lib.hid hno
  have HK := Lib.hid hK
  clear hno hK
  by_cases hlt : k < n
  ·have hlk : k < ls.length := by have := HL.out; omega
   have HNX : Hid (((ls.take (k + 1)).any fun x => !(x.length == 32)) = (fun x => !(x.length == 32)) ls[k]) := Lib.hid (by rw [List.take_add_one, List.getElem?_eq_getElem hlk, List.any_append, HNO.out]; simp)
   have HYES : Hid ((fun x => !(x.length == 32)) ls[k] = true → (ls.any fun x => !(x.length == 32)) = true) := Lib.hid (fun h => List.any_eq_true.2 ⟨ls[k], List.getElem_mem hlk, h⟩)
   obtain ⟨b, off, A', c', rfl, _, u0, _, _, _⟩ := (HR.out.new HK.out).at_ hlk
   generalize ls[k] = x at *
   have HC := Lib.hid (right1_any A' x.length c' wr)
   dsimp only at HNX HYES
   cases hb : ((x.length : Int) != 32)
   ·rw [hb] at HC
    have HNX : Hid (((ls.take (k + 1)).any fun x => !(x.length == 32)) = false) := Lib.hid (by rw [HNX.out]; (have e := hb; simp at e ⊢; omega))
    clear hb HYES
    go_wp2_with fail
    refine HC.out.mono ?_
    rintro e w' ⟨rfl, k1⟩
    go_wp2_with fail
    go_roundw
    case rel => exact ⟨k + 1, by omega, by go_num, HNX.out, HK.out.new k1⟩
    case measure => simp [intOf]; omega
   ·rw [hb] at HC
    have HYES := Lib.hid (HYES.out (by (have e := hb; simp at e ⊢; omega)))
    clear hb HNX
    go_wp2_with fail
    refine HC.out.mono ?_
    rintro e w' ⟨rfl, k1⟩
    go_wp2_with fail
    go_ret
    exact ⟨⟨(k : Int), rfl, by rw [HYES.out, decide_eq_true_eq]; omega⟩, HK.out.new k1⟩
  ·obtain rfl : k = n := by omega
   have HNO : Hid ((ls.any fun x => !(x.length == 32)) = false) := Lib.hid (by have h := HNO.out; rwa [List.take_of_length_le (by have := HL.out; omega)] at h)
   go_wp2_with fail
   go_ret
   exact ⟨⟨-1, rfl, by rw [HNO.out]; rfl⟩, HK.out⟩
set_option maxRecDepth 100000 in
theorem containsB_any (D : Nat → Prop) (A : Option Addr) (n c : Nat) (ls : List (List UInt8)) (w : World) (hR : Imgs w D A n ls) (hn : n ≤ 9223372036854775806) :
  Calls Tryz.prog 109 #[.slice A n c, .func (Fn.func 110) #[] #[]] w fun e w' => e = .returned (.bool (ls.any fun x => !(x.length == 32))) ∧ New w w' := by
 have HI := Lib.hid (indexB_any D A n c ls w hR hn)
 clear hR
 go_enter Tryz.func109, Tryz.ntmps109
 go_wp2_with fail
 refine HI.out.mono ?_
 rintro e w1 ⟨⟨i, rfl, hi⟩, k1⟩
 have HI2 := Lib.hid hi
 clear hi
 go_wp2_with fail
 go_ret
 exact ⟨by rw [← HI2.out]; rfl, k1⟩
set_option maxRecDepth 100000 in
set_option maxHeartbeats 2000000 in
theorem indexH_any (D : Nat → Prop) (A : Option Addr) (n c : Nat) (ls : List HeadP) (w : World) (hR : Heads w D A n ls) (hn : n ≤ 9223372036854775806) :
  Calls Tryz.prog 134 #[.slice A n c, .func (Fn.func 112) #[] #[]] w fun e w' => (∃ i : Int, e = .returned (.int .i64 i) ∧ decide (0 ≤ i) = ls.any fun x => !fineHead x) ∧ New w w' := by
 have HL := Lib.hid hR.len
 have HR := Lib.hid hR
 clear hR
 go_enter Tryz.func134, Tryz.ntmps134
 go_wp2_with fail
 go_loopw [8] (fun i wx => ∃ k : Nat, k ≤ n ∧ i = .int .i64 (k : Int) ∧ ((ls.take k).any fun x => !fineHead x) = false ∧ New w wx) (fun i _ => n - (intOf i).toNat)
 case atStart => exact ⟨0, Nat.zero_le _, rfl, by rw [List.take_zero]; rfl, New.refl _⟩
 case round =>
  obtain ⟨k, hk, rfl, hno, hK⟩ := hrel
  have HNO := Lib.hid hno
  have HK := Lib.hid hK
  clear hno hK
  by_cases hlt : k < n
  ·have hlk : k < ls.length := by have := HL.out; omega
   have HNX : Hid (((ls.take (k + 1)).any fun x => !fineHead x) = (fun x => !fineHead x) ls[k]) := Lib.hid (by rw [List.take_add_one, List.getElem?_eq_getElem hlk, List.any_append, HNO.out]; simp)
   have HYES : Hid ((fun x => !fineHead x) ls[k] = true → (ls.any fun x => !fineHead x) = true) := Lib.hid (fun h => List.any_eq_true.2 ⟨ls[k], List.getElem_mem hlk, h⟩)
   obtain ⟨b, off, A1, c1, A2, c2, rfl, _, u0, u1, u2, u3, u4, u5, _⟩ := (HR.out.new HK.out).at_ hlk
   generalize ls[k] = x at *
   have HC := Lib.hid (right2_any A1 A2 c1 c2 x wr)
   dsimp only at HNX HYES
   cases hb : (!fineHead x)
   ·rw [hb] at HC
    have HNX : Hid (((ls.take (k + 1)).any fun x => !fineHead x) = false) := Lib.hid (by rw [HNX.out]; exact hb)
    clear hb HYES
    go_wp2_with fail
    refine HC.out.mono ?_
    rintro e w' ⟨rfl, k1⟩
    go_wp2_with fail
    go_roundw
    case rel => exact ⟨k + 1, by omega, by go_num, HNX.out, HK.out.new k1⟩
    case measure => simp [intOf]; omega
   ·rw [hb] at HC
    have HYES := Lib.hid (HYES.out (by exact hb))
    clear hb HNX
    go_wp2_with fail
    refine HC.out.mono ?_
    rintro e w' ⟨rfl, k1⟩
    go_wp2_with fail
    go_ret
    exact ⟨⟨(k : Int), rfl, by rw [HYES.out, decide_eq_true_eq]; omega⟩, HK.out.new k1⟩
  ·obtain rfl : k = n := by omega
   have HNO : Hid ((ls.any fun x => !fineHead x) = false) := Lib.hid (by have h := HNO.out; rwa [List.take_of_length_le (by have := HL.out; omega)] at h)
   go_wp2_with fail
   go_ret
   exact ⟨⟨-1, rfl, by rw [HNO.out]; rfl⟩, HK.out⟩
set_option maxRecDepth 100000 in
theorem containsH_any (D : Nat → Prop) (A : Option Addr) (n c : Nat) (ls : List HeadP) (w : World) (hR : Heads w D A n ls) (hn : n ≤ 9223372036854775806) :
  Calls Tryz.prog 111 #[.slice A n c, .func (Fn.func 112) #[] #[]] w fun e w' => e = .returned (.bool (ls.any fun x => !fineHead x)) ∧ New w w' := by
 have HI := Lib.hid (indexH_any D A n c ls w hR hn)
 clear hR
 go_enter Tryz.func111, Tryz.ntmps111
 go_wp2_with fail
 refine HI.out.mono ?_
 rintro e w1 ⟨⟨i, rfl, hi⟩, k1⟩
 have HI2 := Lib.hid hi
 clear hi
 go_wp2_with fail
 go_ret
 exact ⟨by rw [← HI2.out]; rfl, k1⟩
end Go.Proofs.YtfegdgaanmcecaaGreatDoor
