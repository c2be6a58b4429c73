/-
  PROVED HERE: texts that belong together, one behind the other; what each proves, and under which conditions, its own opening remark says: Ref6, Laid17, Ref4.
-/
import Derived.Test.YtijjhfkgbmckkaaGreatDoorCards
import Derived.Test.YtijjhfkgbmckkaaGreatDoorTie
import Derived.Deep.DeepHandedRow
import Derived.Lib.LaidTab
import Derived.Test.YtijjhfkgbmckkaaGreatDoorPkF23
/-
  PROVED HERE: what permafrostref2.Leaf and Pair, permafrostref6.part and Root answer; condition: fewer than 2^40 bytes in all.
-/
namespace Go.Proofs.YtijjhfkgbmckkaaGreatDoor
open Go.RowKit
theorem ownB_one (w : World) (a : UInt8) : OwnB (w.alloc (.cells #[.int .u8 (bv a)] 5)) w.heap.size 5 (some ⟨w.heap.size, 0, none⟩) 1 1 [a] := own_new w _ 1 1 _ rfl (by decide)
end Go.Proofs.YtijjhfkgbmckkaaGreatDoor
/-
  PROVED HERE: a world in which the listed tables read as listed, for the witnesses of this seat's rows; no condition.
-/
namespace Go.Proofs.YtijjhfkgbmckkaaGreatDoor
open Go.ChangeShapes Go.WideShapes Go.ChangeAt Go.RowKit
def rangeCells : Array Value := (([128, 191, 160, 191, 128, 159, 144, 191, 128, 143, 0, 0, 0, 0, 0, 0, 0, 0, 0, 0, 0, 0, 0, 0, 0, 0, 0, 0, 0, 0, 0, 0] : List Int).map (Value.int .u8)).toArray
def firstCells : Array Value := (Go.Pinned.utf8FirstZ.map fun (n : Nat) => Value.int .u8 (n : Int)).toArray
def withCells (cs : Array Value) : Obj → Obj
 | .cells _ t frozen => .cells cs t frozen
 | o => o
noncomputable def laidWorld (os : Os) : World :=
 { World.holding Tryz.prog os ⟨#[], #[], []⟩ with heap := ((World.holding Tryz.prog os ⟨#[], #[], []⟩).heap.modify 0 (withCells firstCells)).modify 1 (withCells rangeCells) }
end Go.Proofs.YtijjhfkgbmckkaaGreatDoor
/-
  PROVED HERE: what permafrostref4.Byte, Short, Long, Bytes and Sum4 answer: the bytes that were there, and these behind; conditions: fewer than 2^40 bytes.
-/
namespace Go.Proofs.YtijjhfkgbmckkaaGreatDoor
open Go.RowKit
theorem bs_b1 (w : World) (x : Int) : Bs (w.alloc (.cells #[.int .u8 (IntKind.u8.wrap x)] 5)) (fun b => w.heap.size ≤ b) (some ⟨w.heap.size, 0, none⟩) 1 (beI 1 x) := by
 have h := Row.made w 5 #[.int .u8 (IntKind.u8.wrap x)] 1 1 rfl
 have e : (beI 1 x).map byteVal = [.int .u8 (IntKind.u8.wrap x)] := by
  have h1 := byteVal_mod x
  simp only [beI, List.range, List.range.loop, List.map_cons, List.map_nil, IntKind.wrap_u8]
  rw [show x / 2 ^ (8 * (1 - 1 - 0)) % 256 = x % 256 from by simp, h1]
 rw [Bs, e]; exact h
theorem bs_b2 (w : World) (x : Int) : Bs (w.alloc (.cells #[.int .u8 (IntKind.u8.wrap (x / 256)), .int .u8 (IntKind.u8.wrap x)] 5)) (fun b => w.heap.size ≤ b) (some ⟨w.heap.size, 0, none⟩) 2 (beI 2 x) := by
 have h := Row.made w 5 #[.int .u8 (IntKind.u8.wrap (x / 256)), .int .u8 (IntKind.u8.wrap x)] 2 1 rfl
 have e : (beI 2 x).map byteVal = [.int .u8 (IntKind.u8.wrap (x / 256)), .int .u8 (IntKind.u8.wrap x)] := by
  have h1 := byteVal_mod (x / 256)
  have h2 := byteVal_mod x
  simp only [beI, List.range, List.range.loop, List.map_cons, List.map_nil, IntKind.wrap_u8]
  rw [show x / 2 ^ (8 * (2 - 1 - 0)) % 256 = x / 256 % 256 from rfl, show x / 2 ^ (8 * (2 - 1 - 1)) % 256 = x % 256 from by simp, h1, h2]
 rw [Bs, e]; exact h
theorem bs_b4 (w : World) (a b c d : UInt8) : Bs (w.alloc (.cells #[.int .u8 (bv a), .int .u8 (bv b), .int .u8 (bv c), .int .u8 (bv d)] 5)) (fun g => w.heap.size ≤ g) (some ⟨w.heap.size, 0, none⟩) 4 [a, b, c, d] :=
 Row.made w _ _ 4 1 rfl
theorem beI8_cut (n : Int) {j : Nat} (hj : j < 8) : (beI 8 n).take (j + 1) = (beI 8 n).take j ++ [UInt8.ofNat (n / 2 ^ (56 - 8 * j) % 256).toNat] := by
 have h := beI_take 8 (7 - j) n (by omega)
 rw [show 8 - (7 - j) = j + 1 from by omega, show 8 - (7 - j + 1) = j from by omega, show 8 * (7 - j) = 56 - 8 * j from by omega] at h
 exact h
def BytesRet (bs : List UInt8) (w : World) (e : Ending) (w' : World) : Prop := (∃ A' c', e = .returned (.slice A' bs.length c') ∧ OwnB w' w.heap.size 5 A' bs.length c' bs) ∧ New w w'
theorem BytesRet.mk' {bs : List UInt8} {w w' : World} {e : Ending} {A' : Option Addr} {n c' : Nat} (he : e = .returned (.slice A' n c')) (ho : OwnB w' w.heap.size 5 A' n c' bs) (hk : New w w') : BytesRet bs w e w' := by
 have hl : bs.length = n := by have := ho.1; simpa using this
 subst hl
 exact ⟨⟨A', c', he, ho⟩, hk⟩
set_option maxRecDepth 100000 in
theorem byte4_any (D : Nat → Prop) (A : Option Addr) (n c : Nat) (bs : List UInt8) (x : Int) (w : World) (hB : Bs w D A n bs) (hn : n ≤ 1099511627776) :
  Calls Tryz.prog 133 #[.slice A n c, .int .i64 x] w (BytesRet (bs ++ beI 1 x) w) := by
 have hown0 : OwnB (w.alloc (.cells #[] 5)) w.heap.size 5 (some ⟨w.heap.size, 0, none⟩) 0 0 [] := World.ownsRow_made w #[] 0 (Nat.le_refl _) (by decide) rfl
 have hK0 : New w (w.alloc (.cells #[] 5)) := (New.refl w).alloc _
 have hB0 := hB.alloc (.cells #[] 5)
 have hb0 : 0 + n ≤ 140737488355328 := by omega
 have hb1 : n + 1 ≤ 140737488355328 := by omega
 clear hB
 go_enter Tryz.func133, Tryz.ntmps133
 go_wp2_with (first
  | (at_builtin; refine app_bytes _ rfl _ _ rfl w.heap.size _ 0 0 [] rfl hown0 D A n c bs rfl hB0 hb0 hK0.size ?_; intro A1 c1 w1 hown1 hg1 hbk1; rw [Nat.zero_add, List.nil_append] at hown1; have hK1 := new_app0 hK0 hown0 hg1)
  | (at_builtin; refine app_bytes _ rfl _ _ rfl w.heap.size A1 n c1 bs rfl (hown1.alloc _) (fun g => w1.heap.size ≤ g) _ 1 1 (beI 1 x) rfl (bs_b1 w1 x) hb1 ((hK1.alloc _).size) ?_; intro A2 c2 w2 hown2 hg2 hbk2; have hK2 := new_app hK1 hown1 hg2))
 go_ret
 exact BytesRet.mk' rfl hown2 hK2
set_option maxRecDepth 100000 in
theorem short4_any (D : Nat → Prop) (A : Option Addr) (n c : Nat) (bs : List UInt8) (x : Int) (w : World) (hB : Bs w D A n bs) (hn : n ≤ 1099511627776) :
  Calls Tryz.prog 52 #[.slice A n c, .int .i64 x] w (BytesRet (bs ++ beI 2 x) w) := by
 have hown0 : OwnB (w.alloc (.cells #[] 5)) w.heap.size 5 (some ⟨w.heap.size, 0, none⟩) 0 0 [] := World.ownsRow_made w #[] 0 (Nat.le_refl _) (by decide) rfl
 have hK0 : New w (w.alloc (.cells #[] 5)) := (New.refl w).alloc _
 have hB0 := hB.alloc (.cells #[] 5)
 have hb0 : 0 + n ≤ 140737488355328 := by omega
 have hb1 : n + 2 ≤ 140737488355328 := by omega
 clear hB
 go_enter Tryz.func52, Tryz.ntmps52
 go_wp2_with (first
  | (at_builtin; refine app_bytes _ rfl _ _ rfl w.heap.size _ 0 0 [] rfl hown0 D A n c bs rfl hB0 hb0 hK0.size ?_; intro A1 c1 w1 hown1 hg1 hbk1; rw [Nat.zero_add, List.nil_append] at hown1; have hK1 := new_app0 hK0 hown0 hg1)
  | (at_builtin; refine app_bytes _ rfl _ _ rfl w.heap.size A1 n c1 bs rfl (hown1.alloc _) (fun g => w1.heap.size ≤ g) _ 2 2 (beI 2 x) rfl (bs_b2 w1 x) hb1 ((hK1.alloc _).size) ?_; intro A2 c2 w2 hown2 hg2 hbk2; have hK2 := new_app hK1 hown1 hg2))
 go_ret
 exact BytesRet.mk' rfl hown2 hK2
set_option maxRecDepth 100000 in
theorem sum4_any (D : Nat → Prop) (A : Option Addr) (n c : Nat) (bs : List UInt8) (x : BitVec 32) (w : World) (hB : Bs w D A n bs) (hn : n ≤ 1099511627776) :
  Calls Tryz.prog 53 #[.slice A n c, .int .u32 (wv x)] w (BytesRet (bs ++ be4 x) w) := by
 have hown0 : OwnB (w.alloc (.cells #[] 5)) w.heap.size 5 (some ⟨w.heap.size, 0, none⟩) 0 0 [] := World.ownsRow_made w #[] 0 (Nat.le_refl _) (by decide) rfl
 have hK0 : New w (w.alloc (.cells #[] 5)) := (New.refl w).alloc _
 have hB0 := hB.alloc (.cells #[] 5)
 have hb0 : 0 + n ≤ 140737488355328 := by omega
 have hb1 : n + 4 ≤ 140737488355328 := by omega
 clear hB
 go_enter Tryz.func53, Tryz.ntmps53
 go_wp2_with (first
  | (at_builtin; refine app_bytes _ rfl _ _ rfl w.heap.size _ 0 0 [] rfl hown0 D A n c bs rfl hB0 hb0 hK0.size ?_; intro A1 c1 w1 hown1 hg1 hbk1; rw [Nat.zero_add, List.nil_append] at hown1; have hK1 := new_app0 hK0 hown0 hg1)
  | (at_builtin; refine app_bytes _ rfl _ _ rfl w.heap.size A1 n c1 bs rfl (hown1.alloc _) (fun g => w1.heap.size ≤ g) _ 4 4 _ rfl (bs_b4 w1 _ _ _ _) hb1 ((hK1.alloc _).size) ?_; intro A2 c2 w2 hown2 hg2 hbk2; have hK2 := new_app hK1 hown1 hg2))
 go_ret
 exact BytesRet.mk' rfl hown2 hK2
set_option maxRecDepth 100000 in
theorem long4_any (D : Nat → Prop) (A : Option Addr) (n c : Nat) (bs : List UInt8) (x : Int) (w : World) (hB : Bs w D A n bs) (hn : n ≤ 1099511627776) (_hx0 : 0 ≤ x) (_hx1 : x ≤ 18446744073709551615) :
  Calls Tryz.prog 58 #[.slice A n c, .int .u64 x] w (BytesRet (bs ++ beI 8 x) w) := by
 have hown0 : OwnB (w.alloc (.cells #[] 5)) w.heap.size 5 (some ⟨w.heap.size, 0, none⟩) 0 0 [] := World.ownsRow_made w #[] 0 (Nat.le_refl _) (by decide) rfl
 have hK0 : New w (w.alloc (.cells #[] 5)) := (New.refl w).alloc _
 have hB0 := hB.alloc (.cells #[] 5)
 have hb0 : 0 + n ≤ 140737488355328 := by omega
 clear hB
 go_enter Tryz.func58, Tryz.ntmps58
 go_wp2_with (at_builtin; refine app_bytes _ rfl _ _ rfl w.heap.size _ 0 0 [] rfl hown0 D A n c bs rfl hB0 hb0 hK0.size ?_; intro A1 c1 w1 hown1 hg1 hbk1)
 rw [Nat.zero_add, List.nil_append] at hown1
 have hK1 := new_app0 hK0 hown0 hg1
 clear hg1 hbk1 hB0 hown0 hK0
 go_loopw [5, 6] (fun s5 i wx => ∃ (A : Option Addr) (c j mm : Nat), s5 = .slice A mm c ∧ j ≤ 8 ∧ i = .int .i64 (56 - 8 * (j : Int)) ∧ mm = n + j ∧ OwnB wx w.heap.size 5 A mm c (bs ++ (beI 8 x).take j) ∧ New w wx) (fun _ i _ => (intOf i + 8).toNat)
 case atStart => exact ⟨_, _, 0, n, rfl, by omega, rfl, rfl, by simpa using hown1, hK1⟩
 case round =>
  clear hown1 hK1
  obtain ⟨Ax, cx, j, mm, rfl, hj, rfl, hmm, hown, hN⟩ := hrel
  by_cases hlt8 : j < 8
  ·have hb1 := bs_one wr 5 _ _ (byteVal_mod (x / 2 ^ (56 - 8 * j)))
   have hbd : mm + 1 ≤ 140737488355328 := by omega
   have HMM := Lib.hid hmm
   clear hmm
   go_wp2_with (at_builtin; refine app_bytes _ rfl _ _ rfl w.heap.size Ax mm cx _ rfl (hown.alloc _) (fun g => wr.heap.size ≤ g) _ 1 1 _ rfl hb1 hbd ((hN.alloc _).size) ?_; intro A3 c3 w3 hown3 hg3 hbk3)
   have hN3 := new_app hN hown hg3
   clear hg3 hbk3 hown hN hb1
   go_roundw
   case rel =>
    have e : (56 : Int) - 8 * ((j + 1 : Nat) : Int) = 56 - 8 * (j : Int) - 8 := by omega
    exact ⟨_, _, j + 1, _, rfl, by omega, by rw [e], by have := HMM.out; omega, by rw [beI8_cut x hlt8, ← List.append_assoc]; exact hown3, hN3⟩
   case measure => simp [intOf]; omega
  ·obtain rfl : j = 8 := by omega
   rw [show (56 - 8 * ((8 : Nat) : Int)) = -8 from rfl]
   rw [List.take_of_length_le (by rw [beI_length]; exact Nat.le_refl _)] at hown
   clear hmm
   go_wp2_with fail
   go_ret
   exact BytesRet.mk' rfl hown hN
set_option maxRecDepth 100000 in
theorem bytes4_any (D D2 : Nat → Prop) (A A2 : Option Addr) (n c n2 c2 : Nat) (bs bs2 : List UInt8) (w : World) (hB : Bs w D A n bs) (hB2 : Bs w D2 A2 n2 bs2) (hn : n ≤ 1099511627770) (hn2 : n2 ≤ 9223372036854775807) (hnc : n2 ≤ c2) :
  Calls Tryz.prog 131 #[.slice A n c, .slice A2 n2 c2] w (BytesRet (bs ++ lenBytes bs2) w) := by
 have hl := hB2.len
 by_cases hlt : 65535 < n2
 ·have hlb := Lib.hid (lenBytes_long bs2 (by omega))
  have hcut : Bs w D2 A2 65535 (bs2.take 65535) := hB2.cutTo (by omega)
  have HS := Lib.hid (fun w' => short4_any D A n c bs 65535 w' )
  have hlt' : (65535 : Int) < n2 := by omega
  have hlm : (bs ++ beI 2 65535).length + 65535 ≤ 140737488355328 := by rw [List.length_append, beI_length, hB.len]; omega
  have hn' : n ≤ 1099511627776 := by omega
  clear hl hB2
  go_enter Tryz.func131, Tryz.ntmps131
  go_wp2_with fail
  refine (HS.out w hB hn').mono ?_
  rintro e w1 ⟨⟨A1, c1, rfl, hown1⟩, hK1⟩
  have hB1 := hcut.new hK1
  generalize (bs ++ beI 2 65535).length = m at *
  go_wp2_with (at_builtin; refine app_bytes _ rfl _ _ rfl w.heap.size A1 m c1 _ rfl hown1 D2 A2 65535 c2 _ rfl hB1 hlm hK1.size ?_; intro A3 c3 w3 hown3 hg3 hbk3)
  go_ret
  exact BytesRet.mk' rfl (by rw [hlb.out, ← List.append_assoc]; exact hown3) (new_app0 hK1 hown1 hg3)
 ·have hlb : Hid (lenBytes bs2 = beI 2 (n2 : Int) ++ bs2) := Lib.hid (by unfold lenBytes; rw [hl, Nat.min_eq_left (by omega), List.take_of_length_le (by omega)])
  have HS := Lib.hid (fun w' => short4_any D A n c bs n2 w')
  have hlt' : ¬ (65535 : Int) < n2 := by omega
  have hlm : (bs ++ beI 2 (n2 : Int)).length + n2 ≤ 140737488355328 := by rw [List.length_append, beI_length, hB.len]; omega
  have hn' : n ≤ 1099511627776 := by omega
  clear hl
  go_enter Tryz.func131, Tryz.ntmps131
  go_wp2_with fail
  refine (HS.out w hB hn').mono ?_
  rintro e w1 ⟨⟨A1, c1, rfl, hown1⟩, hK1⟩
  have hB1 := hB2.new hK1
  generalize (bs ++ beI 2 (n2 : Int)).length = m at *
  go_wp2_with (at_builtin; refine app_bytes _ rfl _ _ rfl w.heap.size A1 m c1 _ rfl hown1 D2 A2 n2 c2 _ rfl hB1 hlm hK1.size ?_; intro A3 c3 w3 hown3 hg3 hbk3)
  go_ret
  exact BytesRet.mk' rfl (by rw [hlb.out, ← List.append_assoc]; exact hown3) (new_app0 hK1 hown1 hg3)
end Go.Proofs.YtijjhfkgbmckkaaGreatDoor
