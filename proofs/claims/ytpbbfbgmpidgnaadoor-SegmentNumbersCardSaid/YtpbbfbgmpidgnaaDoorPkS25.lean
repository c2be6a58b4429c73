/-
  PROVED HERE: texts that belong together, one behind the other; what each proves, and under which conditions, its own opening remark says: Ref6, Laid17, Ref4, Hold4, Hold6, RefsW.
-/
import Derived.Test.YtpbbfbgmpidgnaaDoorCards
import Derived.Test.YtpbbfbgmpidgnaaDoorTie
import Derived.WalkKit
import Derived.ProofKit
import Derived.OpenShut
import Derived.Deep.DeepHandedRow
import Derived.Lib.LaidTab
import Derived.Test.YtpbbfbgmpidgnaaDoorPkS00
import Derived.Test.YtpbbfbgmpidgnaaDoorPkS08
import Derived.Test.YtpbbfbgmpidgnaaDoorPkS09
import Derived.Test.YtpbbfbgmpidgnaaDoorPkS11
import Derived.Test.YtpbbfbgmpidgnaaDoorPkS24
/-
  PROVED HERE: what permafrostref2.Leaf and Pair, permafrostref6.part and Root answer; condition: fewer than 2^40 bytes in all.
-/
namespace Go.Proofs.YtpbbfbgmpidgnaaDoor
open Go.RowKit

theorem ownB_one (w : World) (a : UInt8) : OwnB (w.alloc (.cells #[.int .u8 (bv a)] 5)) w.heap.size 5 (some ⟨w.heap.size, 0, none⟩) 1 1 [a] := own_new w _ 1 1 _ rfl (by decide)
set_option maxRecDepth 100000 in
theorem leaf2_any (D : Nat → Prop) (A : Option Addr) (n c : Nat) (bs : List UInt8) (w : World) (hB : Bs w D A n bs) (hn : n ≤ 1099511620000) :
    Calls Tryd.prog 48 #[.slice A n c] w fun e w' => (∃ A' c', e = .returned (.slice A' 32 c') ∧ OwnB w' w.heap.size 5 A' 32 c' (shaSum (0 :: bs))) ∧ New w w' := by
  have hown0 : OwnB (w.alloc (.cells #[.int .u8 0] 5)) w.heap.size 5 (some ⟨w.heap.size, 0, none⟩) 1 1 [0] := ownB_one w 0
  have hK0 : New w (w.alloc (.cells #[.int .u8 0] 5)) := (New.refl w).alloc _
  have hB0 := hB.alloc (.cells #[.int .u8 0] 5)
  have hbd : 1 + n ≤ 140737488355328 := by omega
  have hbd2 : 1 + n ≤ 1099511627776 := by omega
  clear hB
  go_enter Tryd.func48, Tryd.ntmps48
  go_wp2_with (at_builtin; refine app_bytes _ rfl _ _ rfl w.heap.size _ 1 1 [0] rfl hown0 D A n c bs rfl hB0 hbd hK0.size ?_; intro A1 c1 w1 hown1 hg1 hbk1)
  have hK1 := new_app0 hK0 hown0 hg1
  clear hg1 hbk1 hB0 hown0 hK0
  refine (refsum_any _ A1 (1 + n) c1 _ w1 (Row.of_own hown1) hbd2).mono ?_
  rintro e w2 ⟨⟨A2, c2, rfl, hown2⟩, hK2⟩
  go_wp2_with fail
  go_ret
  exact ⟨⟨_, _, rfl, own_base hown2 hK1.size⟩, hK1.new hK2⟩
set_option maxRecDepth 100000 in
theorem pair2_any (D D2 : Nat → Prop) (A A2 : Option Addr) (n c n2 c2 : Nat) (bs bs2 : List UInt8) (w : World) (hB : Bs w D A n bs) (hB2 : Bs w D2 A2 n2 bs2) (hn : n + n2 ≤ 1099511620000) :
    Calls Tryd.prog 50 #[.slice A n c, .slice A2 n2 c2] w fun e w' => (∃ A' c', e = .returned (.slice A' 32 c') ∧ OwnB w' w.heap.size 5 A' 32 c' (shaSum (1 :: (bs ++ bs2)))) ∧ New w w' := by
  have hown0 : OwnB (w.alloc (.cells #[.int .u8 1] 5)) w.heap.size 5 (some ⟨w.heap.size, 0, none⟩) 1 1 [1] := ownB_one w 1
  have hK0 : New w (w.alloc (.cells #[.int .u8 1] 5)) := (New.refl w).alloc _
  have hB0 := hB.alloc (.cells #[.int .u8 1] 5)
  have hbd : 1 + n ≤ 140737488355328 := by omega
  have hbd1 : 1 + n + n2 ≤ 140737488355328 := by omega
  have hbd2 : 1 + n + n2 ≤ 1099511627776 := by omega
  clear hB
  go_enter Tryd.func50, Tryd.ntmps50
  go_wp2_with (first
    | (at_builtin; refine app_bytes _ rfl _ _ rfl w.heap.size _ 1 1 [1] rfl hown0 D A n c bs rfl hB0 hbd hK0.size ?_; intro A1 c1 w1 hown1 hg1 hbk1; have hK1 := new_app0 hK0 hown0 hg1; have hB1 := hB2.new hK1)
    | (at_builtin; refine app_bytes _ rfl _ _ rfl w.heap.size A1 (1 + n) c1 _ rfl hown1 D2 A2 n2 c2 bs2 rfl hB1 hbd1 hK1.size ?_; intro A3 c3 w3 hown3 hg3 hbk3))
  have hK3 := new_app0 hK1 hown1 hg3
  clear hg3 hbk3 hown1 hK1 hB1 hg1 hbk1 hB0 hown0 hK0
  refine (refsum_any _ A3 (1 + n + n2) c3 _ w3 (Row.of_own hown3) hbd2).mono ?_
  rintro e w2 ⟨⟨A2, c2, rfl, hown2⟩, hK2⟩
  go_wp2_with fail
  go_ret
  exact ⟨⟨_, _, rfl, by rw [show (1 :: (bs ++ bs2) : List UInt8) = ([1] ++ bs) ++ bs2 from rfl]; exact own_base hown2 hK3.size⟩, hK3.new hK2⟩
set_option maxRecDepth 100000 in
theorem part6_any (n : Nat) (w : World) (h2 : 2 ≤ n) (hn : n ≤ 1099511627776) :
    Calls Tryd.prog 49 #[.int .i64 n] w fun e w' => e = .returned (.int .i64 (partN n)) ∧ w = w' := by
  go_enter Tryd.func49, Tryd.ntmps49
  go_wp2_with fail
  go_loop [3] (fun s3 => ∃ k : Nat, (∃ j, k = 2 ^ j) ∧ k < n ∧ s3 = .int .i64 (k : Int)) (fun s3 => n - (intOf s3).toNat)
  case atStart => exact ⟨1, ⟨0, rfl⟩, by omega, rfl⟩
  case round =>
    obtain ⟨k, hj, hk, rfl⟩ := hrel
    have hpos : 0 < k := by obtain ⟨j, rfl⟩ := hj; exact Nat.pow_pos (by decide)
    have HJ := Lib.hid hj
    clear hj
    by_cases hlt : 2 * k < n
    · have hlt' : (2 : Int) * (k : Int) < (n : Int) := by omega
      go_wp2_with fail
      go_round
      case rel => exact ⟨2 * k, by obtain ⟨j, h⟩ := HJ.out; exact ⟨j + 1, by rw [Nat.pow_succ, ← h]; omega⟩, by omega, by go_num⟩
      case measure => simp [intOf]; omega
    · have hlt' : ¬ (2 : Int) * (k : Int) < (n : Int) := by omega
      go_wp2_with fail
      go_ret
      exact ⟨by obtain ⟨j, h⟩ := HJ.out; rw [h, ← partN_eq h2 (j := j) (by omega) (by omega)]; rfl, rfl⟩
set_option maxRecDepth 100000 in
set_option maxHeartbeats 2000000 in
theorem root6_any (n : Nat) : ∀ (D : Nat → Prop) (A : Option Addr) (c : Nat) (ls : List (List UInt8)) (w : World) (_hB : Bss w D A n ls) (_hc : n ≤ c) (_hb : ls.flatten.length ≤ 1099511620000) (_hn : n ≤ 1099511627776) (_hc9 : c ≤ 9223372036854775807),
    Calls Tryd.prog 16 #[.slice A n c] w fun e w' => (∃ A' c', e = .returned (.slice A' 32 c') ∧ OwnB w' w.heap.size 5 A' 32 c' (rootOf ls)) ∧ New w w' := by
  induction n using Nat.strongRecOn with
  | _ n ih =>
    intro D A c ls w hB hc hb hn hc9
    have hl := hB.len
    have IH := Lib.hid ih
    clear ih
    by_cases h0 : n = 0
    · subst h0
      obtain rfl : ls = [] := List.eq_nil_of_length_eq_zero hl
      rw [rootOf_nil]
      have hnil : Bs w (fun _ => True) none 0 [] := Row.nil _ _ _ _
      go_enter Tryd.func16, Tryd.ntmps16
      go_wp2_with fail
      refine (refsum_any _ none 0 0 [] w hnil (by omega)).mono ?_
      rintro e w1 ⟨⟨A1, c1, rfl, hown⟩, hK⟩
      go_wp2_with fail
      go_ret
      exact ⟨⟨_, _, rfl, hown⟩, hK⟩
    · by_cases h1 : n = 1
      · subst h1
        obtain ⟨b, off, A', c', rfl, hcell, hcap, hbs⟩ := hB.at_ (k := 0) (by omega)
        rw [Nat.add_zero] at hcell
        have hx : ls = [ls[0]'(by omega)] := by
          match ls, hl with
          | [x], _ => rfl
        have hlen : (ls[0]'(by omega)).length ≤ 1099511620000 := by
          have := flatten_take_le ls 0 (by omega); omega
        generalize ls[0]'_ = x at *
        subst hx
        rw [rootOf_one]
        clear hB
        go_enter Tryd.func16, Tryd.ntmps16
        go_wp2_with fail
        refine (leaf2_any _ A' _ c' x w hbs hlen).mono ?_
        rintro e w1 ⟨⟨A1, c1, rfl, hown⟩, hK⟩
        go_wp2_with fail
        go_ret
        exact ⟨⟨_, _, rfl, hown⟩, hK⟩
      · have h2 : 2 ≤ n := by omega
        have hp := partN_lt h2
        have hq := partN_pos n
        have e0 : ((n : Int) == 0) = false := by simp; omega
        have e1 : ((n : Int) == 1) = false := by simp; omega
        have HR := Lib.hid (rootOf_more ls (by omega))
        rw [hl] at HR
        have HPA := Lib.hid (fun w' => part6_any n w' h2 (by omega))
        have hB1 := hB.cutTo (k := partN n) (by omega)
        have hB2 := hB.from_ (k := partN n) (by omega)
        have hf1 : (ls.take (partN n)).flatten.length ≤ 1099511620000 := by
          have h := congrArg (fun l : List (List UInt8) => l.flatten.length) (List.take_append_drop (partN n) ls)
          simp only [List.flatten_append, List.length_append] at h; omega
        have hf2 : (ls.drop (partN n)).flatten.length ≤ 1099511620000 := by
          have h := congrArg (fun l : List (List UInt8) => l.flatten.length) (List.take_append_drop (partN n) ls)
          simp only [List.flatten_append, List.length_append] at h; omega
        generalize partN n = k at *
        have HC1 : Hid (∀ w', New w w' → Calls Tryd.prog 16 #[.slice A k c] w' fun e w'' => (∃ A' c', e = .returned (.slice A' 32 c') ∧ OwnB w'' w'.heap.size 5 A' 32 c' (rootOf (ls.take k))) ∧ New w' w'') :=
          Lib.hid fun w' hN => IH.out k hp D A c _ w' (hB1.keep hN (fun _ _ _ => trivial)) (by omega) hf1 (by omega) hc9
        have HC2 : Hid (∀ w', New w w' → Calls Tryd.prog 16 #[.slice (Option.map (fun x => x.add k) A) (n - k) (c - k)] w' fun e w'' => (∃ A' c', e = .returned (.slice A' 32 c') ∧ OwnB w'' w'.heap.size 5 A' 32 c' (rootOf (ls.drop k))) ∧ New w' w'') :=
          Lib.hid fun w' hN => IH.out (n - k) (by omega) D _ (c - k) _ w' (hB2.keep hN (fun _ _ _ => trivial)) (by omega) hf2 (by omega) (by omega)
        have b1 : (0 : Int) ≤ (k : Int) := by omega
        have b2 : (k : Int) ≤ n := by omega
        have b3 : (k : Int) ≤ c := by omega
        have b4 : (n : Int) ≤ c := by omega
        have b5 : ¬ c = k := by omega
        clear hB hB1 hB2 IH hl hf1 hf2 hb
        go_enter Tryd.func16, Tryd.ntmps16
        go_wp2_with fail
        refine (HPA.out _).mono ?_
        rintro e w1 ⟨rfl, rfl⟩
        go_wp2_with fail
        go_region_held3 (fun w' => New w w') (first | exact New.refl w | exact (New.refl w).drew | exact Keep.new (by assumption) hK3 | exact Keep.new (by assumption) hK4 | exact Keep.new (by assumption) hK5)
          ((first
            | (go_at_call 16; (with_reducible refine (HC1.out _ (by assumption)).mono ?_); rintro e w3 ⟨⟨A3, c3, rfl, hown3⟩, hK3⟩)
            | (go_at_call 16; (with_reducible refine (HC2.out _ (by assumption)).mono ?_); rintro e w4 ⟨⟨A4, c4, rfl, hown4⟩, hK4⟩)
            | (go_at_call 50; refine (pair2_any _ _ A3 A4 32 c3 32 c4 _ _ _ ((Row.of_own hown3).new hK4) (Row.of_own hown4) (by omega)).mono ?_; rintro e w5 ⟨⟨A5, c5, rfl, hown5⟩, hK5⟩)))
        have hN5 : New w w5 := by assumption
        have hsz : w.heap.size ≤ w4.heap.size := Nat.le_trans hK3.size hK4.size
        clear hK3 hK4 hown3 hown4 hK5
        go_wp2_with fail
        go_ret
        exact ⟨⟨_, _, rfl, by rw [HR.out]; exact own_base hown5 hsz⟩, hN5⟩
end Go.Proofs.YtpbbfbgmpidgnaaDoor
/-
  PROVED HERE: a world in which the listed tables read as listed, for the witnesses of this seat's rows; no condition.
-/
namespace Go.Proofs.YtpbbfbgmpidgnaaDoor
open Go.ChangeShapes Go.WideShapes Go.ChangeAt Go.RowKit

/-- unicode/utf8.acceptRanges, cell by cell. -/
def rangeCells : Array Value := (([128, 191, 160, 191, 128, 159, 144, 191, 128, 143, 0, 0, 0, 0, 0, 0, 0, 0, 0, 0, 0, 0, 0, 0, 0, 0, 0, 0, 0, 0, 0, 0] : List Int).map (Value.int .u8)).toArray
def firstCells : Array Value := (Go.Pinned.utf8FirstZ.map fun (n : Nat) => Value.int .u8 (n : Int)).toArray
def withCells (cs : Array Value) : Obj → Obj
  | .cells _ t frozen => .cells cs t frozen
  | o => o
noncomputable def laidWorld (os : Os) : World :=
  { World.holding Tryd.prog os ⟨#[], #[], []⟩ with heap := ((World.holding Tryd.prog os ⟨#[], #[], []⟩).heap.modify 0 (withCells firstCells)).modify 1 (withCells rangeCells) }
end Go.Proofs.YtpbbfbgmpidgnaaDoor
/-
  PROVED HERE: what permafrostref4.Byte, Short, Long, Bytes and Sum4 answer: the bytes that were there, and these behind; conditions: fewer than 2^40 bytes.
-/
namespace Go.Proofs.YtpbbfbgmpidgnaaDoor
open Go.RowKit

theorem bs_b1 (w : World) (x : Int) : Bs (w.alloc (.cells #[.int .u8 (IntKind.u8.wrap x)] 5)) (fun b => w.heap.size ≤ b) (some ⟨w.heap.size, 0, none⟩) 1 (beI 1 x) := by
  have h := Row.made w 5 #[.int .u8 (IntKind.u8.wrap x)] 1 1 rfl
  have e : (beI 1 x).map byteVal = [.int .u8 (IntKind.u8.wrap x)] := by
    have h1 := byteVal_mod x
    simp only [beI, List.range, List.range.loop, List.map_cons, List.map_nil, IntKind.wrap_u8]
    rw [show x / 2 ^ (8 * (1 - 1 - 0)) % 256 = x % 256 from by simp, h1]
  rw [Bs, e]; exact h
theorem bs_b2 (w : World) (x : Int) : Bs (w.alloc (.cells #[.int .u8 (IntKind.u8.wrap (x / 256)), .int .u8 (IntKind.u8.wrap x)] 5)) (fun b => w.heap.size ≤ b) (some ⟨w.heap.size, 0, none⟩) 2 (beI 2 x) := by
  have h := Row.made w 5 #[.int .u8 (IntKind.u8.wrap (x / 256)), .int .u8 (IntKind.u8.wrap x)] 2 1 rfl
  have e : (beI 2 x).map byteVal = [.int .u8 (IntKind.u8.wrap (x / 256)), .int .u8 (IntKind.u8.wrap x)] := by
    have h1 := byteVal_mod (x / 256)
    have h2 := byteVal_mod x
    simp only [beI, List.range, List.range.loop, List.map_cons, List.map_nil, IntKind.wrap_u8]
    rw [show x / 2 ^ (8 * (2 - 1 - 0)) % 256 = x / 256 % 256 from rfl, show x / 2 ^ (8 * (2 - 1 - 1)) % 256 = x % 256 from by simp, h1, h2]
  rw [Bs, e]; exact h
theorem bs_b4 (w : World) (a b c d : UInt8) : Bs (w.alloc (.cells #[.int .u8 (bv a), .int .u8 (bv b), .int .u8 (bv c), .int .u8 (bv d)] 5)) (fun g => w.heap.size ≤ g) (some ⟨w.heap.size, 0, none⟩) 4 [a, b, c, d] :=
  Row.made w _ _ 4 1 rfl
theorem beI8_cut (n : Int) {j : Nat} (hj : j < 8) : (beI 8 n).take (j + 1) = (beI 8 n).take j ++ [UInt8.ofNat (n / 2 ^ (56 - 8 * j) % 256).toNat] := by
  have h := beI_take 8 (7 - j) n (by omega)
  rw [show 8 - (7 - j) = j + 1 from by omega, show 8 - (7 - j + 1) = j from by omega, show 8 * (7 - j) = 56 - 8 * j from by omega] at h
  exact h
/-- what a writer of the reference answers: these bytes, in a row of the call's own. -/
def BytesRet (bs : List UInt8) (w : World) (e : Ending) (w' : World) : Prop := (∃ A' c', e = .returned (.slice A' bs.length c') ∧ OwnB w' w.heap.size 5 A' bs.length c' bs) ∧ New w w'
theorem BytesRet.mk' {bs : List UInt8} {w w' : World} {e : Ending} {A' : Option Addr} {n c' : Nat} (he : e = .returned (.slice A' n c')) (ho : OwnB w' w.heap.size 5 A' n c' bs) (hk : New w w') : BytesRet bs w e w' := by
  have hl : bs.length = n := by have := ho.1; simpa using this
  subst hl
  exact ⟨⟨A', c', he, ho⟩, hk⟩
set_option maxRecDepth 100000 in
theorem byte4_any (D : Nat → Prop) (A : Option Addr) (n c : Nat) (bs : List UInt8) (x : Int) (w : World) (hB : Bs w D A n bs) (hn : n ≤ 1099511627776) :
    Calls Tryd.prog 93 #[.slice A n c, .int .i64 x] w (BytesRet (bs ++ beI 1 x) w) := by
  have hown0 : OwnB (w.alloc (.cells #[] 5)) w.heap.size 5 (some ⟨w.heap.size, 0, none⟩) 0 0 [] := World.ownsRow_made w #[] 0 (Nat.le_refl _) (by decide) rfl
  have hK0 : New w (w.alloc (.cells #[] 5)) := (New.refl w).alloc _
  have hB0 := hB.alloc (.cells #[] 5)
  have hb0 : 0 + n ≤ 140737488355328 := by omega
  have hb1 : n + 1 ≤ 140737488355328 := by omega
  clear hB
  go_enter Tryd.func93, Tryd.ntmps93
  go_wp2_with (first
    | (at_builtin; refine app_bytes _ rfl _ _ rfl w.heap.size _ 0 0 [] rfl hown0 D A n c bs rfl hB0 hb0 hK0.size ?_; intro A1 c1 w1 hown1 hg1 hbk1; rw [Nat.zero_add, List.nil_append] at hown1; have hK1 := new_app0 hK0 hown0 hg1)
    | (at_builtin; refine app_bytes _ rfl _ _ rfl w.heap.size A1 n c1 bs rfl (hown1.alloc _) (fun g => w1.heap.size ≤ g) _ 1 1 (beI 1 x) rfl (bs_b1 w1 x) hb1 ((hK1.alloc _).size) ?_; intro A2 c2 w2 hown2 hg2 hbk2; have hK2 := new_app hK1 hown1 hg2))
  go_ret
  exact BytesRet.mk' rfl hown2 hK2
set_option maxRecDepth 100000 in
theorem short4_any (D : Nat → Prop) (A : Option Addr) (n c : Nat) (bs : List UInt8) (x : Int) (w : World) (hB : Bs w D A n bs) (hn : n ≤ 1099511627776) :
    Calls Tryd.prog 58 #[.slice A n c, .int .i64 x] w (BytesRet (bs ++ beI 2 x) w) := by
  have hown0 : OwnB (w.alloc (.cells #[] 5)) w.heap.size 5 (some ⟨w.heap.size, 0, none⟩) 0 0 [] := World.ownsRow_made w #[] 0 (Nat.le_refl _) (by decide) rfl
  have hK0 : New w (w.alloc (.cells #[] 5)) := (New.refl w).alloc _
  have hB0 := hB.alloc (.cells #[] 5)
  have hb0 : 0 + n ≤ 140737488355328 := by omega
  have hb1 : n + 2 ≤ 140737488355328 := by omega
  clear hB
  go_enter Tryd.func58, Tryd.ntmps58
  go_wp2_with (first
    | (at_builtin; refine app_bytes _ rfl _ _ rfl w.heap.size _ 0 0 [] rfl hown0 D A n c bs rfl hB0 hb0 hK0.size ?_; intro A1 c1 w1 hown1 hg1 hbk1; rw [Nat.zero_add, List.nil_append] at hown1; have hK1 := new_app0 hK0 hown0 hg1)
    | (at_builtin; refine app_bytes _ rfl _ _ rfl w.heap.size A1 n c1 bs rfl (hown1.alloc _) (fun g => w1.heap.size ≤ g) _ 2 2 (beI 2 x) rfl (bs_b2 w1 x) hb1 ((hK1.alloc _).size) ?_; intro A2 c2 w2 hown2 hg2 hbk2; have hK2 := new_app hK1 hown1 hg2))
  go_ret
  exact BytesRet.mk' rfl hown2 hK2
set_option maxRecDepth 100000 in
theorem sum4_any (D : Nat → Prop) (A : Option Addr) (n c : Nat) (bs : List UInt8) (x : BitVec 32) (w : World) (hB : Bs w D A n bs) (hn : n ≤ 1099511627776) :
    Calls Tryd.prog 60 #[.slice A n c, .int .u32 (wv x)] w (BytesRet (bs ++ be4 x) w) := by
  have hown0 : OwnB (w.alloc (.cells #[] 5)) w.heap.size 5 (some ⟨w.heap.size, 0, none⟩) 0 0 [] := World.ownsRow_made w #[] 0 (Nat.le_refl _) (by decide) rfl
  have hK0 : New w (w.alloc (.cells #[] 5)) := (New.refl w).alloc _
  have hB0 := hB.alloc (.cells #[] 5)
  have hb0 : 0 + n ≤ 140737488355328 := by omega
  have hb1 : n + 4 ≤ 140737488355328 := by omega
  clear hB
  go_enter Tryd.func60, Tryd.ntmps60
  go_wp2_with (first
    | (at_builtin; refine app_bytes _ rfl _ _ rfl w.heap.size _ 0 0 [] rfl hown0 D A n c bs rfl hB0 hb0 hK0.size ?_; intro A1 c1 w1 hown1 hg1 hbk1; rw [Nat.zero_add, List.nil_append] at hown1; have hK1 := new_app0 hK0 hown0 hg1)
    | (at_builtin; refine app_bytes _ rfl _ _ rfl w.heap.size A1 n c1 bs rfl (hown1.alloc _) (fun g => w1.heap.size ≤ g) _ 4 4 _ rfl (bs_b4 w1 _ _ _ _) hb1 ((hK1.alloc _).size) ?_; intro A2 c2 w2 hown2 hg2 hbk2; have hK2 := new_app hK1 hown1 hg2))
  go_ret
  exact BytesRet.mk' rfl hown2 hK2
set_option maxRecDepth 100000 in
theorem long4_any (D : Nat → Prop) (A : Option Addr) (n c : Nat) (bs : List UInt8) (x : Int) (w : World) (hB : Bs w D A n bs) (hn : n ≤ 1099511627776) (_hx0 : 0 ≤ x) (_hx1 : x ≤ 18446744073709551615) :
    Calls Tryd.prog 59 #[.slice A n c, .int .u64 x] w (BytesRet (bs ++ beI 8 x) w) := by
  have hown0 : OwnB (w.alloc (.cells #[] 5)) w.heap.size 5 (some ⟨w.heap.size, 0, none⟩) 0 0 [] := World.ownsRow_made w #[] 0 (Nat.le_refl _) (by decide) rfl
  have hK0 : New w (w.alloc (.cells #[] 5)) := (New.refl w).alloc _
  have hB0 := hB.alloc (.cells #[] 5)
  have hb0 : 0 + n ≤ 140737488355328 := by omega
  clear hB
  go_enter Tryd.func59, Tryd.ntmps59
  go_wp2_with (at_builtin; refine app_bytes _ rfl _ _ rfl w.heap.size _ 0 0 [] rfl hown0 D A n c bs rfl hB0 hb0 hK0.size ?_; intro A1 c1 w1 hown1 hg1 hbk1)
  rw [Nat.zero_add, List.nil_append] at hown1
  have hK1 := new_app0 hK0 hown0 hg1
  clear hg1 hbk1 hB0 hown0 hK0
  go_loopw [5, 6] (fun s5 i wx => ∃ (A : Option Addr) (c j mm : Nat), s5 = .slice A mm c ∧ j ≤ 8 ∧ i = .int .i64 (56 - 8 * (j : Int)) ∧ mm = n + j ∧ OwnB wx w.heap.size 5 A mm c (bs ++ (beI 8 x).take j) ∧ New w wx) (fun _ i _ => (intOf i + 8).toNat)
  case atStart => exact ⟨_, _, 0, n, rfl, by omega, rfl, rfl, by simpa using hown1, hK1⟩
  case round =>
    clear hown1 hK1
    obtain ⟨Ax, cx, j, mm, rfl, hj, rfl, hmm, hown, hN⟩ := hrel
    by_cases hlt8 : j < 8
    · have hb1 := bs_one wr 5 _ _ (byteVal_mod (x / 2 ^ (56 - 8 * j)))
      have hbd : mm + 1 ≤ 140737488355328 := by omega
      have HMM := Lib.hid hmm
      clear hmm
      go_wp2_with (at_builtin; refine app_bytes _ rfl _ _ rfl w.heap.size Ax mm cx _ rfl (hown.alloc _) (fun g => wr.heap.size ≤ g) _ 1 1 _ rfl hb1 hbd ((hN.alloc _).size) ?_; intro A3 c3 w3 hown3 hg3 hbk3)
      have hN3 := new_app hN hown hg3
      clear hg3 hbk3 hown hN hb1
      go_roundw
      case rel =>
        have e : (56 : Int) - 8 * ((j + 1 : Nat) : Int) = 56 - 8 * (j : Int) - 8 := by omega
        exact ⟨_, _, j + 1, _, rfl, by omega, by rw [e], by have := HMM.out; omega, by rw [beI8_cut x hlt8, ← List.append_assoc]; exact hown3, hN3⟩
      case measure => simp [intOf]; omega
    · obtain rfl : j = 8 := by omega
      rw [show (56 - 8 * ((8 : Nat) : Int)) = -8 from rfl]
      rw [List.take_of_length_le (by rw [beI_length]; exact Nat.le_refl _)] at hown
      clear hmm
      go_wp2_with fail
      go_ret
      exact BytesRet.mk' rfl hown hN
set_option maxRecDepth 100000 in
theorem bytes4_any (D D2 : Nat → Prop) (A A2 : Option Addr) (n c n2 c2 : Nat) (bs bs2 : List UInt8) (w : World) (hB : Bs w D A n bs) (hB2 : Bs w D2 A2 n2 bs2) (hn : n ≤ 1099511627770) (hn2 : n2 ≤ 9223372036854775807) (hnc : n2 ≤ c2) :
    Calls Tryd.prog 92 #[.slice A n c, .slice A2 n2 c2] w (BytesRet (bs ++ lenBytes bs2) w) := by
  have hl := hB2.len
  by_cases hlt : 65535 < n2
  · have hlb := Lib.hid (lenBytes_long bs2 (by omega))
    have hcut : Bs w D2 A2 65535 (bs2.take 65535) := hB2.cutTo (by omega)
    have HS := Lib.hid (fun w' => short4_any D A n c bs 65535 w' )
    have hlt' : (65535 : Int) < n2 := by omega
    have hlm : (bs ++ beI 2 65535).length + 65535 ≤ 140737488355328 := by rw [List.length_append, beI_length, hB.len]; omega
    have hn' : n ≤ 1099511627776 := by omega
    clear hl hB2
    go_enter Tryd.func92, Tryd.ntmps92
    go_wp2_with fail
    refine (HS.out w hB hn').mono ?_
    rintro e w1 ⟨⟨A1, c1, rfl, hown1⟩, hK1⟩
    have hB1 := hcut.new hK1
    generalize (bs ++ beI 2 65535).length = m at *
    go_wp2_with (at_builtin; refine app_bytes _ rfl _ _ rfl w.heap.size A1 m c1 _ rfl hown1 D2 A2 65535 c2 _ rfl hB1 hlm hK1.size ?_; intro A3 c3 w3 hown3 hg3 hbk3)
    go_ret
    exact BytesRet.mk' rfl (by rw [hlb.out, ← List.append_assoc]; exact hown3) (new_app0 hK1 hown1 hg3)
  · have hlb : Hid (lenBytes bs2 = beI 2 (n2 : Int) ++ bs2) := Lib.hid (by unfold lenBytes; rw [hl, Nat.min_eq_left (by omega), List.take_of_length_le (by omega)])
    have HS := Lib.hid (fun w' => short4_any D A n c bs n2 w')
    have hlt' : ¬ (65535 : Int) < n2 := by omega
    have hlm : (bs ++ beI 2 (n2 : Int)).length + n2 ≤ 140737488355328 := by rw [List.length_append, beI_length, hB.len]; omega
    have hn' : n ≤ 1099511627776 := by omega
    clear hl
    go_enter Tryd.func92, Tryd.ntmps92
    go_wp2_with fail
    refine (HS.out w hB hn').mono ?_
    rintro e w1 ⟨⟨A1, c1, rfl, hown1⟩, hK1⟩
    have hB1 := hB2.new hK1
    generalize (bs ++ beI 2 (n2 : Int)).length = m at *
    go_wp2_with (at_builtin; refine app_bytes _ rfl _ _ rfl w.heap.size A1 m c1 _ rfl hown1 D2 A2 n2 c2 _ rfl hB1 hlm hK1.size ?_; intro A3 c3 w3 hown3 hg3 hbk3)
    go_ret
    exact BytesRet.mk' rfl (by rw [hlb.out, ← List.append_assoc]; exact hown3) (new_app0 hK1 hown1 hg3)
end Go.Proofs.YtpbbfbgmpidgnaaDoor
/-
  PROVED HERE: laws for a region that draws its order where what was made is marked: conditions of one's own on the worlds; what is common to all orders is proved once; a row of bytes that is marked reads as before; no condition.
-/
namespace Go.Proofs.YtpbbfbgmpidgnaaDoor
open Go.RowKit

section
variable {P : Program} {ops : Array Oper} {Q : Exit → Act → World → Prop} {md : Region.Mode}
/-- the orders meet here. -/
theorem hold_join {S T : World → Prop} {C : Act → World → Prop} {fuel fuel2 : Nat} {listed listed2 : Array Bool} {a : Act} {w : World} (h1 : ∀ a' w', C a' w' → wpAnyH P md ops Q T fuel2 listed2 a' w')
    (h2 : Hid (∀ a' w', C a' w' → wpAnyH P md ops Q T fuel2 listed2 a' w') → wpAnyH P md ops Q S fuel listed a w) : wpAnyH P md ops Q S fuel listed a w := h2 (Lib.hid h1)
theorem hold_strong {S T : World → Prop} {fuel : Nat} {listed listed2 : Array Bool} {a : Act} {w : World} (hl : listed = listed2) (hTS : ∀ w, T w → S w) (h : wpAnyH P md ops Q T fuel listed2 a w) : wpAnyH P md ops Q S fuel listed a w := by
  subst hl
  exact held_strong hTS _ _ _ _ h
theorem hold_stepG {S : World → Prop} (T : World → Prop) {i : Nat} {o : Oper} {fuel : Nat} {listed : Array Bool} {a : Act} {w : World} (hTS : ∀ w, T w → S w) (hr : Region.ready md ops listed = [i]) (ho : ops[i]? = some o) (hw : Region.wanted o (yielded ops a.tmps) = true)
    (h : ∀ K : Act → World → Prop, Hid (∀ a' w', T w' → wpAnyH P md ops Q T fuel (listed.setIfInBounds i true) a' w' → K a' w') → Oper.wp P o a w K Q) : wpAnyH P md ops Q S (fuel + 1) listed a w := by
  refine wpAnyH_all hr (by simp) fun j hj => ?_
  have hj' : j = i := by simpa using hj
  subst hj'
  unfold wpOp
  simp only [ho, hw, if_true]
  exact .inl (h _ (Lib.hid fun a' w' hN hk => ⟨hTS _ hN, held_strong hTS _ _ _ _ hk⟩))
theorem hold_fork {S : World → Prop} {i j : Nat} {o o' : Oper} {fuel : Nat} {listed : Array Bool} {a : Act} {w : World} (hr : Region.ready md ops listed = [i, j]) (ho : ops[i]? = some o) (hw : Region.wanted o (yielded ops a.tmps) = true) (ho' : ops[j]? = some o') (hw' : Region.wanted o' (yielded ops a.tmps) = true)
    (h : ∀ K : Act → World → Prop, Hid (∀ (T : World → Prop) a' w', (∀ w, T w → S w) → T w' → wpAnyH P md ops Q T fuel (listed.setIfInBounds i true) a' w' → K a' w') → Oper.wp P o a w K Q)
    (h' : ∀ K : Act → World → Prop, Hid (∀ (T : World → Prop) a' w', (∀ w, T w → S w) → T w' → wpAnyH P md ops Q T fuel (listed.setIfInBounds j true) a' w' → K a' w') → Oper.wp P o' a w K Q) : wpAnyH P md ops Q S (fuel + 1) listed a w := by
  refine wpAnyH_all hr (by simp) fun k hk => ?_
  have hk' : k = i ∨ k = j := by simpa using hk
  unfold wpOp
  rcases hk' with rfl | rfl
  · simp only [ho, hw, if_true]
    exact .inl (h _ (Lib.hid fun T a' w' hTS hN hk => ⟨hTS _ hN, held_strong hTS _ _ _ _ hk⟩))
  · simp only [ho', hw', if_true]
    exact .inl (h' _ (Lib.hid fun T a' w' hTS hN hk => ⟨hTS _ hN, held_strong hTS _ _ _ _ hk⟩))
theorem hold_one {S : World → Prop} {i : Nat} {o : Oper} {fuel : Nat} {listed : Array Bool} {a : Act} {w : World} (hr : Region.ready md ops listed = [i]) (ho : ops[i]? = some o) (hw : Region.wanted o (yielded ops a.tmps) = true)
    (h : ∀ K : Act → World → Prop, Hid (∀ (T : World → Prop) a' w', (∀ w, T w → S w) → T w' → wpAnyH P md ops Q T fuel (listed.setIfInBounds i true) a' w' → K a' w') → Oper.wp P o a w K Q) : wpAnyH P md ops Q S (fuel + 1) listed a w := by
  refine wpAnyH_all hr (by simp) fun j hj => ?_
  have hj' : j = i := by simpa using hj
  subst hj'
  unfold wpOp
  simp only [ho, hw, if_true]
  exact .inl (h _ (Lib.hid fun T a' w' hTS hN hk => ⟨hTS _ hN, held_strong hTS _ _ _ _ hk⟩))
end
/-- the same cells, maybe other marks. -/
structure Like (w w' : World) : Prop where
  size : w.heap.size = w'.heap.size
  cell : ∀ p, w'.cell? p = w.cell? p
theorem Row.like {w w' : World} {D : Nat → Prop} {A : Option Addr} {n s : Nat} {vs : List Value} (h : Row w D A n s vs) (hl : Like w w') : Row w' D A n s vs :=
  ⟨h.1, fun hn => let ⟨b, off, e, hd, hlt, hc⟩ := h.2 hn; ⟨b, off, e, hd, hl.size ▸ hlt, fun k u hu => (hl.cell _).trans (hc k u hu)⟩⟩
theorem conv_mark {w : World} {g : Nat} {C : Array Value} {e : TypeId} (n c : Nat) (h : w.heap[g]? = some (.cells C e (0, 0))) :
    ∃ w', (convert 24 24 (.slice (some ⟨g, 0, none⟩) n c)).run Tryd.prog w = .ok (.slice (some ⟨g, 0, none⟩) n c) w' ∧ Keep (fun b => b ≠ g) w w' ∧ Like w w' := by
  have hsh : w.shape? g = some (e, C.size) := by
    unfold World.shape?
    rw [h]
  refine ⟨w.freeze ⟨g, C.size, none⟩ 1, ?_, ?_, ?_⟩
  · simp [convert, run_underlying Tryd.underlying24, run_underlying Tryd.underlying5, markStringish, hsh]
  · unfold World.freeze
    rw [if_neg (by decide)]
    refine ⟨rfl, rfl, rfl, by simp, fun k hk hne => ?_⟩
    show (w.heap.modify g _)[k]? = w.heap[k]?
    rw [Array.getElem?_modify]
    rw [if_neg (fun e => hne e.symm)]
  · unfold World.freeze
    rw [if_neg (by decide)]
    refine ⟨by simp, fun p => ?_⟩
    by_cases hp : p.block = g
    · simp [World.cell?, Array.getElem?_modify, hp, h]
    · have hp' : ¬ g = p.block := fun e => hp e.symm
      simp [World.cell?, Array.getElem?_modify, hp']
end Go.Proofs.YtpbbfbgmpidgnaaDoor
/-
  PROVED HERE: laws for a region that draws its order where several orders meet, each with its condition; no condition; no program is named.
-/
namespace Go.Proofs.YtpbbfbgmpidgnaaDoor
open Go.RowKit

/-- the orders meet here, each with its condition. -/
theorem hold_meets {P : Program} {ops : Array Oper} {Q : Exit → Act → World → Prop} {md : Region.Mode} {S : World → Prop} {C : Act → World → (World → Prop) → Prop} {fuel fuel2 : Nat} {listed listed2 : Array Bool} {a : Act} {w : World} (h1 : ∀ a' w' T, C a' w' T → wpAnyH P md ops Q T fuel2 listed2 a' w')
    (h2 : Hid (∀ a' w' T, C a' w' T → wpAnyH P md ops Q T fuel2 listed2 a' w') → wpAnyH P md ops Q S fuel listed a w) : wpAnyH P md ops Q S fuel listed a w := h2 (Lib.hid h1)
end Go.Proofs.YtpbbfbgmpidgnaaDoor
/-
  PROVED HERE: the law of append at rows of the document's records, for one operation alone; condition: fewer than 2^40 records.
-/
namespace Go.Proofs.YtpbbfbgmpidgnaaDoor
open Go.RowKit

/-- records more. -/
theorem wp_refsM {o : Oper} {a : Act} {K : Act → World → Prop} {Q : Exit → Act → World → Prop} (w : World) (s x : Operand)
    (ho : o.op = .call { callee := .builtin .append, args := #[s, x], argTypes := #[28, 28] })
    (base : Nat) (D : Nat → Prop) (A : Option Addr) (n c : Nat) (rs : List RecP) (hs : a.eval s = .slice A n c) (hown : OwnRefs w base D A n c rs)
    (D2 : Nat → Prop) (A2 : Option Addr) (m c2 : Nat) (us : List Value) (ls : List RecP) (hx : a.eval x = .slice A2 m c2) (hr : Row w D2 A2 m 3 us) (g2 : ls.length = m) (g3 : ∀ k (h : k < ls.length), RecAt9 w (fun b => D b ∧ some b ≠ blk A) us (k * 3) ls[k])
    (h63 : n + m ≤ 1099511627776) (hbase : base ≤ w.heap.size)
    (h : ∀ A3 c3 w3, OwnRefs w3 base D A3 (n + m) c3 (rs ++ ls) → w.grownBy w3 (blk A) → (blk A3 = blk A ∨ blk A3 = some w.heap.size) → K (a.put o.dst (.slice A3 (n + m) c3)) w3) : o.wp Tryd.prog a w K Q := by
  obtain ⟨vs, h1, h2, h3⟩ := hown
  have hul : us.length = m * 3 := hr.1
  have hone : ∀ u ∈ us, u.oneCell' = true := by
    intro u hu
    obtain ⟨j, hj, rfl⟩ := List.mem_iff_getElem.1 hu
    have hjm : j / 3 < ls.length := by omega
    obtain ⟨A0, c0, e1, e2, e3, _⟩ := g3 (j / 3) hjm
    have hq : j = j / 3 * 3 ∨ j = j / 3 * 3 + 1 ∨ j = j / 3 * 3 + 2 := by omega
    rcases hq with hq | hq | hq
    · rw [← hq, List.getElem?_eq_getElem hj] at e1; injection e1 with e1; rw [e1]; rfl
    · rw [← hq, List.getElem?_eq_getElem hj] at e2; injection e2 with e2; rw [e2]; rfl
    · rw [← hq, List.getElem?_eq_getElem hj] at e3; injection e3 with e3; rw [e3]; rfl
  obtain ⟨i, hi, hz0, hz1, hz2⟩ := info_parts info_refrec
  refine wp_append_row w s x 28 ho base 60 i (.agg #[.int .i64 0, .int .u64 0, .slice none 0 0]) 3 40 Tryd.underlying28 hi hz0 hz1 hz2 rfl (by decide) A n c vs hs h1 D2 A2 m c2 us hx hr hone (by unfold maxLen; omega) (by omega) hbase ?_
  intro A3 c3 w3 hown3 hg3 hbk3
  refine h A3 c3 w3 ⟨vs ++ us, hown3, by rw [List.length_append]; omega, fun k hk => ?_⟩ hg3 hbk3
  have hvl : vs.length = n * 3 := h1.1
  have move : ∀ {A0 : Option Addr} {m0 : Nat} {z : List UInt8}, Bs w (fun b => D b ∧ some b ≠ blk A) A0 m0 z → Bs w3 (fun b => D b ∧ some b ≠ blk A3) A0 m0 z := fun {A0 m0 z} hb => by
    have hk3 : Keep (fun b => some b ≠ blk A) w w3 := (Keep.refl _ w).grown hg3 (fun k hk hd => absurd hk.symm hd)
    have hb3 : Bs w (fun b => (D b ∧ some b ≠ blk A) ∧ some b ≠ blk A3) A0 m0 z := hb.imp fun b hlt hd => ⟨hd, by
      rcases hbk3 with e | e
      · rw [e]; exact hd.2
      · rw [e]; intro e'; injection e'; omega⟩
    exact (Row.keep hb3 hk3 (fun b _ hd => hd.1.2)).imp fun b _ hd => ⟨hd.1.1, hd.2⟩
  by_cases hkn : k < rs.length
  · rw [List.getElem_append_left hkn]
    obtain ⟨A0, c0, e1, e2, e3, hc, hb, hq⟩ := h3 k hkn
    exact ⟨A0, c0, by rw [List.getElem?_append_left (by omega)]; exact e1, by rw [List.getElem?_append_left (by omega)]; exact e2, by rw [List.getElem?_append_left (by omega)]; exact e3, hc, move hb, hq⟩
  · rw [List.getElem_append_right (by omega)]
    have hkl : k - rs.length < ls.length := by rw [List.length_append] at hk; omega
    obtain ⟨A0, c0, e1, e2, e3, hc, hb, hq⟩ := g3 (k - rs.length) hkl
    refine ⟨A0, c0, ?_, ?_, ?_, hc, move hb, hq⟩
    · rw [List.getElem?_append_right (by omega), show k * 3 - vs.length = (k - rs.length) * 3 from by omega]; exact e1
    · rw [List.getElem?_append_right (by omega), show k * 3 + 1 - vs.length = (k - rs.length) * 3 + 1 from by omega]; exact e2
    · rw [List.getElem?_append_right (by omega), show k * 3 + 2 - vs.length = (k - rs.length) * 3 + 2 from by omega]; exact e3
end Go.Proofs.YtpbbfbgmpidgnaaDoor
