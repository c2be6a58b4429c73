/-
  PROVED HERE: texts that belong together, one behind the other; what each proves, and under which conditions, its own opening remark says: Sha, Crc, Ref3, KeepF, Codec, Seal, Cells, Record, Recs, Row, Raws, Leaves.
-/
import Derived.Test.YtfegdgaanmcecaaGreatDoorRows
import Derived.ProofKit
import Derived.OpenShut
import Derived.Carry
import Derived.ChangeSlices
import Derived.Lib.SmallJoins
import Derived.Deep.SlicePairs
import Derived.Lib.AppendZerosOnto
import Derived.Test.YtfegdgaanmcecaaGreatDoorPkN03
/-
  PROVED HERE: what the program's SHA-256 answers for bytes, for a leaf, for a pair; conditions: fewer than 2^40 bytes.
-/
namespace Go.Proofs.YtfegdgaanmcecaaGreatDoor
open Go.RowKit
def Bss (w : World) (D : Nat → Prop) (A : Option Addr) (n : Nat) (ls : List (List UInt8)) : Prop :=
 ∃ vs : List Value, Row w D A n 1 vs ∧ ls.length = n ∧ ∀ k (h : k < ls.length), ∃ A' c', vs[k]? = some (.slice A' ls[k].length c') ∧ ls[k].length ≤ c' ∧ Bs w D A' ls[k].length ls[k]
theorem Bss.len {w : World} {D : Nat → Prop} {A : Option Addr} {n : Nat} {ls : List (List UInt8)} (h : Bss w D A n ls) : ls.length = n := by obtain ⟨_, _, h, _⟩ := h; exact h
theorem Bss.imp {w : World} {D E : Nat → Prop} {A : Option Addr} {n : Nat} {ls : List (List UInt8)} (h : Bss w D A n ls) (hE : ∀ b, b < w.heap.size → D b → E b) : Bss w E A n ls := by
 obtain ⟨vs, h1, h2, h3⟩ := h
 refine ⟨vs, h1.imp hE, h2, fun k hk => ?_⟩
 obtain ⟨A', c', e, hc, hb⟩ := h3 k hk
 exact ⟨A', c', e, hc, hb.imp hE⟩
theorem Bss.keep {w w' : World} {D E : Nat → Prop} {A : Option Addr} {n : Nat} {ls : List (List UInt8)} (h : Bss w D A n ls) (hk : Keep E w w') (hE : ∀ b, b < w.heap.size → D b → E b) : Bss w' D A n ls := by
 obtain ⟨vs, h1, h2, h3⟩ := h
 refine ⟨vs, h1.keep hk hE, h2, fun k hk' => ?_⟩
 obtain ⟨A', c', e, hc, hb⟩ := h3 k hk'
 exact ⟨A', c', e, hc, hb.keep hk hE⟩
theorem Bss.new {w w' : World} {D : Nat → Prop} {A : Option Addr} {n : Nat} {ls : List (List UInt8)} (h : Bss w D A n ls) (hk : New w w') : Bss w' D A n ls := h.keep hk fun _ _ _ => trivial
theorem Bss.at_ {w : World} {D : Nat → Prop} {A : Option Addr} {n : Nat} {ls : List (List UInt8)} (h : Bss w D A n ls) {k : Nat} (hk : k < ls.length) :
  ∃ b off A' c', A = some ⟨b, off, none⟩ ∧ w.cell? ⟨b, off + k, none⟩ = some (.slice A' ls[k].length c') ∧ ls[k].length ≤ c' ∧ Bs w D A' ls[k].length ls[k] := by
 obtain ⟨vs, h1, h2, h3⟩ := h
 obtain ⟨A', c', e, hc, hb⟩ := h3 k hk
 obtain ⟨b, off, hA, _, _, hcell⟩ := h1.2 (by omega)
 exact ⟨b, off, A', c', hA, hcell k _ e, hc, hb⟩
theorem own_base {w : World} {base base' : Nat} {e : TypeId} {size n c : Nat} {A : Option Addr} {xs : List Value} (h : Own w base' e size A n c xs) (hb : base ≤ base') : Own w base e size A n c xs := by
 refine ⟨h.1, ?_⟩
 rcases h.2 with hn | ⟨g, cap, cur, hv, hg, rest⟩
 ·exact .inl hn
 ·exact .inr ⟨g, cap, cur, hv, Nat.le_trans hb hg, rest⟩
theorem Bss.lit (w : World) (t : TypeId) (vs : List Value) (ls : List (List UInt8)) (hl : vs.length = ls.length)
  (h : ∀ k (hk : k < ls.length), ∃ A' c', vs[k]? = some (.slice A' ls[k].length c') ∧ ls[k].length ≤ c' ∧ ∃ D, Bs w D A' ls[k].length ls[k]) :
  Bss (w.alloc (.cells vs.toArray t)) (fun _ => True) (some ⟨w.heap.size, 0, none⟩) ls.length ls := by
 refine ⟨vs, ?_, rfl, fun k hk => ?_⟩
 ·have := Row.made w t vs.toArray ls.length 1 (by simpa using hl)
  exact this.imp fun _ _ _ => trivial
 ·obtain ⟨A', c', e, hc, D, hb⟩ := h k hk
  exact ⟨A', c', e, hc, (hb.imp fun _ _ _ => trivial).alloc _⟩
theorem flatten_take (ls : List (List UInt8)) (k : Nat) (hk : k < ls.length) : (ls.take (k + 1)).flatten = (ls.take k).flatten ++ ls[k] := by
 rw [List.take_succ_eq_append_getElem hk, List.flatten_append]; simp
theorem flatten_take_le (ls : List (List UInt8)) (k : Nat) (hk : k < ls.length) : (ls.take k).flatten.length + ls[k].length ≤ ls.flatten.length := by
 have h := congrArg List.length (flatten_take ls k hk)
 rw [List.length_append] at h
 rw [← h]
 conv => rhs; rw [← List.take_append_drop (k + 1) ls, List.flatten_append, List.length_append]
 omega
set_option maxRecDepth 100000 in
set_option maxHeartbeats 2000000 in
theorem of_any (D : Nat → Prop) (A : Option Addr) (n c : Nat) (ls : List (List UInt8)) (w : World) (hB : Bss w D A n ls) (hn : ls.flatten.length ≤ 1099511627776) (hm : n ≤ 9223372036854775807) :
  Calls Tryz.prog 130 #[.slice A n c] w fun e w' => (∃ A' c', e = .returned (.slice A' 32 c') ∧ OwnB w' w.heap.size 5 A' 32 c' (shaSum ls.flatten)) ∧ New w w' := by
 have hB' : Bss w (fun b => b < w.heap.size) A n ls := hB.imp fun b hb _ => hb
 have hln := hB.len
 clear hB
 have HB := Lib.hid hB'
 clear hB'
 go_enter Tryz.func130, Tryz.ntmps130
 go_wp2_with fail
 refine (new_any _).mono ?_
 rintro e w1 ⟨⟨p, rfl, hS⟩, hK1⟩
 go_wp2_with fail
 go_loopw [9] (fun i wx => ∃ k : Nat, k ≤ n ∧ i = .int .i64 k ∧ Str wx w.heap.size p (ls.take k).flatten ∧ New w wx) (fun i _ => n - (intOf i).toNat)
 case atStart => exact ⟨0, Nat.zero_le _, rfl, by simpa using hS, hK1⟩
 case round =>
  clear hS hK1
  obtain ⟨k, hk, rfl, hS, hK⟩ := hrel
  by_cases hlt : k < n
  ·obtain ⟨b, off, A', c', rfl, hc, hcap, hb⟩ := (HB.out.new hK).at_ (k := k) (by omega)
   have hfl := flatten_take_le ls k (by omega)
   have hft := Lib.hid (flatten_take ls k (by omega))
   generalize ls[k]'_ = x at *
   have HW := Lib.hid (write_any w.heap.size p (fun b => b < w.heap.size) A' x.length c' _ x wr hS hb (fun _ h => h) (by omega) hcap)
   clear hS hb hfl hln
   go_wp2_with fail
   refine HW.out.mono ?_
   rintro e w2 ⟨rfl, hS2, hK2⟩
   clear hc HW
   go_wp2_with fail
   go_roundw
   case rel => exact ⟨k + 1, by omega, by go_num, by rw [hft.out]; exact hS2, (Keep.trans (D := fun b => b < w.heap.size) (Keep.of_new hK) hK2).toNew (fun i hi => hi)⟩
   case measure => simp [intOf]; omega
  ·obtain rfl : k = n := by omega
   rw [List.take_of_length_le (by omega)] at hS
   go_wp2_with fail
   refine (sum_any _ _ _ _ hS hn).mono ?_
   rintro e w2 ⟨⟨A', c', rfl, hown⟩, hK2⟩
   go_wp2_with fail
   go_ret
   exact ⟨⟨A', c', rfl, own_base hown hK.size⟩, hK.new hK2⟩
set_option maxRecDepth 100000 in
theorem shaSum_any (D : Nat → Prop) (A : Option Addr) (n c : Nat) (bs : List UInt8) (w : World) (hB : Bs w D A n bs) (hc : n ≤ c) (hn : n ≤ 1099511627776) :
  Calls Tryz.prog 100 #[.slice A n c] w fun e w' => (∃ A' c', e = .returned (.slice A' 32 c') ∧ OwnB w' w.heap.size 5 A' 32 c' (shaSum bs)) ∧ New w w' := by
 have hl := hB.len
 have hlit := Lib.hid (Bss.lit w 31 [.slice A n c] [bs] rfl (fun k hk => match k, hk with | 0, _ => ⟨A, c, by simp [hl], by simp [hl]; exact hc, D, by simpa [hl] using hB⟩))
 have HF := Lib.hid (show ([bs] : List (List UInt8)).flatten = bs by simp)
 have HL := Lib.hid hl
 clear hl
 go_enter Tryz.func100, Tryz.ntmps100
 go_wp2_with fail
 refine (of_any _ _ _ _ [bs] _ hlit.out (by rw [HF.out, HL.out]; exact hn) (by simp)).mono ?_
 rintro e w2 ⟨⟨A', c', rfl, hown⟩, hK2⟩
 rw [HF.out] at hown
 go_wp2_with fail
 go_ret
 exact ⟨⟨A', c', rfl, own_base hown ((New.refl w).alloc _).size⟩, ((New.refl w).alloc _).new hK2⟩
set_option maxRecDepth 100000 in
theorem leaf_any (D : Nat → Prop) (A : Option Addr) (n c : Nat) (bs : List UInt8) (w : World) (hB : Bs w D A n bs) (hc : n ≤ c) (hn : n ≤ 1099511620000) :
  Calls Tryz.prog 96 #[.slice A n c] w fun e w' => (∃ A' c', e = .returned (.slice A' 32 c') ∧ OwnB w' w.heap.size 5 A' 32 c' (shaSum (0 :: bs))) ∧ New w w' := by
 have hl := hB.len
 have h0 := bs_one w 5 0 _ rfl
 have hlit := (Bss.lit (w.alloc (.cells #[.int .u8 0] 5)) 31 [.slice (some ⟨w.heap.size, 0, none⟩) 1 1, .slice A n c] [[0], bs] rfl
  (fun k hk => match k, hk with | 0, _ => ⟨_, 1, rfl, by simp, _, h0⟩ | 1, _ => ⟨A, c, by simp [hl], by simp [hl]; exact hc, D, by simpa [hl] using hB.alloc _⟩))
 rw [show (w.alloc (.cells #[.int .u8 0] 5)).heap.size = w.heap.size + 1 from by simp] at hlit
 replace hlit := Lib.hid hlit
 have HF := Lib.hid (show ([[0], bs] : List (List UInt8)).flatten = 0 :: bs by simp)
 have HL := Lib.hid hl
 clear hl h0
 go_enter Tryz.func96, Tryz.ntmps96
 go_wp2_with fail
 refine (of_any _ _ _ _ [[0], bs] _ hlit.out (by rw [HF.out, List.length_cons, HL.out]; omega) (by simp)).mono ?_
 rintro e w2 ⟨⟨A', c', rfl, hown⟩, hK2⟩
 rw [HF.out] at hown
 go_wp2_with fail
 go_ret
 exact ⟨⟨A', c', rfl, own_base hown (((New.refl w).alloc _).alloc _).size⟩, (((New.refl w).alloc _).alloc _).new hK2⟩
set_option maxRecDepth 100000 in
theorem pair_any (D D2 : Nat → Prop) (A A2 : Option Addr) (n c n2 c2 : Nat) (bs bs2 : List UInt8) (w : World) (hB : Bs w D A n bs) (hc : n ≤ c) (hB2 : Bs w D2 A2 n2 bs2) (hc2 : n2 ≤ c2) (hn : n + n2 ≤ 1099511620000) :
  Calls Tryz.prog 129 #[.slice A n c, .slice A2 n2 c2] w fun e w' => (∃ A' c', e = .returned (.slice A' 32 c') ∧ OwnB w' w.heap.size 5 A' 32 c' (shaSum (1 :: (bs ++ bs2)))) ∧ New w w' := by
 have hl := hB.len
 have hl2 := hB2.len
 have h0 := bs_one w 5 1 _ rfl
 have hlit := (Bss.lit (w.alloc (.cells #[.int .u8 1] 5)) 31 [.slice (some ⟨w.heap.size, 0, none⟩) 1 1, .slice A n c, .slice A2 n2 c2] [[1], bs, bs2] rfl
  (fun k hk => match k, hk with | 0, _ => ⟨_, 1, rfl, by simp, _, h0⟩ | 1, _ => ⟨A, c, by simp [hl], by simp [hl]; exact hc, D, by simpa [hl] using hB.alloc _⟩ | 2, _ => ⟨A2, c2, by simp [hl2], by simp [hl2]; exact hc2, D2, by simpa [hl2] using hB2.alloc _⟩))
 rw [show (w.alloc (.cells #[.int .u8 1] 5)).heap.size = w.heap.size + 1 from by simp] at hlit
 replace hlit := Lib.hid hlit
 have HF := Lib.hid (show ([[1], bs, bs2] : List (List UInt8)).flatten = 1 :: (bs ++ bs2) by simp)
 have HL := Lib.hid hl
 have HL2 := Lib.hid hl2
 clear hl hl2 h0
 go_enter Tryz.func129, Tryz.ntmps129
 go_wp2_with fail
 refine (of_any _ _ _ _ [[1], bs, bs2] _ hlit.out (by rw [HF.out, List.length_cons, List.length_append, HL.out, HL2.out]; omega) (by simp)).mono ?_
 rintro e w2 ⟨⟨A', c', rfl, hown⟩, hK2⟩
 rw [HF.out] at hown
 go_wp2_with fail
 go_ret
 exact ⟨⟨A', c', rfl, own_base hown (((New.refl w).alloc _).alloc _).size⟩, (((New.refl w).alloc _).alloc _).new hK2⟩
/-
  PROVED HERE: what the program's CRC-32 answers: the plain function 'crcMore'; condition: a length below 2^63.
-/
def crcBit (c : BitVec 32) : BitVec 32 := if c &&& 1#32 = 1#32 then (c >>> 1) ^^^ 3988292384#32 else c >>> 1
def crcBits : Nat → BitVec 32 → BitVec 32
 | 0, c => c
 | n + 1, c => crcBit (crcBits n c)
def crcByte (c : BitVec 32) (b : UInt8) : BitVec 32 := crcBits 8 (c ^^^ bw b)
def crcTo (c : BitVec 32) (bs : List UInt8) (k : Nat) : BitVec 32 := (bs.take k).foldl crcByte c
theorem crcTo_succ (c : BitVec 32) (bs : List UInt8) (k : Nat) (hk : k < bs.length) : crcTo c bs (k + 1) = crcByte (crcTo c bs k) bs[k] := by
 unfold crcTo; rw [List.take_succ_eq_append_getElem hk, List.foldl_append]; rfl
def crcMore (c : BitVec 32) (bs : List UInt8) : BitVec 32 := ~~~(bs.foldl crcByte (~~~c))
def crcSum (bs : List UInt8) : BitVec 32 := crcMore 0#32 bs
set_option maxRecDepth 100000 in
theorem crc_more (D : Nat → Prop) (c : BitVec 32) (A : Option Addr) (n cap : Nat) (bs : List UInt8) (w : World) (hB : Bs w D A n bs) (hn : n ≤ 9223372036854775807) :
  Calls Tryz.prog 120 #[.int .u32 (wv c), .slice A n cap] w fun e w' => e = .returned (.int .u32 (wv (crcMore c bs))) ∧ w = w' := by
 have hl := hB.len
 have HL := Lib.hid hl
 clear hl
 go_enter Tryz.func120, Tryz.ntmps120
 go_wp2
 go_loop [0, 12] (fun c' i => ∃ k : Nat, k ≤ n ∧ i = .int .i64 k ∧ c' = .int .u32 (wv (crcTo (~~~c) bs k))) (fun _ i => n - (intOf i).toNat)
 case atStart => exact ⟨0, Nat.zero_le _, rfl, rfl⟩
 case round =>
  obtain ⟨k, hk, rfl, rfl⟩ := hrel
  by_cases hlt : k < n
  ·have hb : k < bs.length := by rw [HL.out]; exact hlt
   obtain ⟨b, off, rfl, _, _, hc⟩ := hB.cellAt (by omega)
   have hck := hc k hb
   have hS := Lib.hid (crcTo_succ (~~~c) bs k hb)
   clear hc hB
   generalize bs[k]'_ = x at hck hS
   clear hb
   go_wp2
   go_loop [0, 20] (fun c' i => ∃ j : Nat, j ≤ 8 ∧ i = .int .i64 j ∧ c' = .int .u32 (wv (crcBits j (crcTo (~~~c) bs k ^^^ bw x)))) (fun _ i => 8 - (intOf i).toNat)
   case atStart => exact ⟨0, Nat.zero_le _, rfl, rfl⟩
   case round =>
    obtain ⟨j, hj, rfl, rfl⟩ := hrel
    by_cases hlt8 : j < 8
    ·by_cases hbit : crcBits j (crcTo (~~~c) bs k ^^^ bw x) &&& 1#32 = 1#32
     ·go_wp2
      go_round
      case rel => exact ⟨j + 1, by omega, by go_num, by show _ = Value.int .u32 (wv (crcBit _)); unfold crcBit; rw [if_pos hbit]⟩
      case measure => simp [intOf]; omega
     ·go_wp2
      go_round
      case rel => exact ⟨j + 1, by omega, by go_num, by show _ = Value.int .u32 (wv (crcBit _)); unfold crcBit; rw [if_neg hbit]⟩
      case measure => simp [intOf]; omega
    ·obtain rfl : j = 8 := by omega
     go_wp2
     go_round
     case rel => exact ⟨k + 1, by omega, by go_num, by rw [hS.out]; rfl⟩
     case measure => simp [intOf]; omega
  ·obtain rfl : k = n := by omega
   go_wp2
   go_ret
   refine ⟨?_, rfl⟩
   have e : crcTo (~~~c) bs k = bs.foldl crcByte (~~~c) := by unfold crcTo; rw [List.take_of_length_le (by rw [HL.out]; exact Nat.le_refl _)]
   show Ending.returned (Value.int .u32 (wv (~~~(crcTo (~~~c) bs k)))) = _
   rw [e]; rfl
set_option maxRecDepth 100000 in
theorem crc_sum (D : Nat → Prop) (A : Option Addr) (n cap : Nat) (bs : List UInt8) (w : World) (hB : Bs w D A n bs) (hn : n ≤ 9223372036854775807) :
  Calls Tryz.prog 89 #[.slice A n cap] w fun e w' => e = .returned (.int .u32 (wv (crcSum bs))) ∧ w = w' := by
 go_enter Tryz.func89, Tryz.ntmps89
 go_wp2_with fail
 refine (crc_more D 0#32 A n cap bs w hB hn).mono ?_
 rintro e w' ⟨rfl, rfl⟩
 go_wp2
 go_ret
 exact ⟨rfl, rfl⟩
/-
  PROVED HERE: what permafrostref3.Sum answers: the CRC-32 that the program's own answers; condition: a length below 2^63.
-/
set_option maxRecDepth 100000 in
theorem sum3_any (D : Nat → Prop) (A : Option Addr) (n cap : Nat) (bs : List UInt8) (w : World) (hB : Bs w D A n bs) (hn : n ≤ 9223372036854775807) :
  Calls Tryz.prog 85 #[.slice A n cap] w fun e w' => e = .returned (.int .u32 (wv (crcSum bs))) ∧ w = w' := by
 have hl := hB.len
 have HL := Lib.hid hl
 clear hl
 have h0 : (4294967295 : Int) = wv (crcTo (~~~0#32) bs 0) := by unfold crcTo; rw [List.take_zero]; decide
 have hz : crcSum bs = ~~~(bs.foldl crcByte (~~~0#32)) := rfl
 rw [hz]
 clear hz
 generalize ~~~0#32 = c0 at *
 have H0 := Lib.hid h0
 clear h0
 go_enter Tryz.func85, Tryz.ntmps85
 go_wp2
 go_loop [3, 4] (fun c' i => ∃ k : Nat, k ≤ n ∧ i = .int .i64 k ∧ c' = .int .u32 (wv (crcTo c0 bs k))) (fun _ i => n - (intOf i).toNat)
 case atStart => exact ⟨0, Nat.zero_le _, rfl, by rw [← H0.out]⟩
 case round =>
  obtain ⟨k, hk, rfl, rfl⟩ := hrel
  by_cases hlt : k < n
  ·have hb : k < bs.length := by rw [HL.out]; exact hlt
   obtain ⟨b, off, rfl, _, _, hc⟩ := hB.cellAt (by omega)
   have hck := hc k hb
   have hS := Lib.hid (crcTo_succ c0 bs k hb)
   clear hc hB
   generalize bs[k]'_ = x at hck hS
   clear hb
   go_wp2
   go_loop [3, 5] (fun c' i => ∃ j : Nat, j ≤ 8 ∧ i = .int .i64 j ∧ c' = .int .u32 (wv (crcBits j (crcTo c0 bs k ^^^ bw x)))) (fun _ i => 8 - (intOf i).toNat)
   case atStart => exact ⟨0, Nat.zero_le _, rfl, rfl⟩
   case round =>
    obtain ⟨j, hj, rfl, rfl⟩ := hrel
    by_cases hlt8 : j < 8
    ·by_cases hbit : crcBits j (crcTo c0 bs k ^^^ bw x) &&& 1#32 = 1#32
     ·go_wp2
      go_round
      case rel => exact ⟨j + 1, by omega, by go_num, by show _ = Value.int .u32 (wv (crcBit _)); unfold crcBit; rw [if_pos hbit]⟩
      case measure => simp [intOf]; omega
     ·go_wp2
      go_round
      case rel => exact ⟨j + 1, by omega, by go_num, by show _ = Value.int .u32 (wv (crcBit _)); unfold crcBit; rw [if_neg hbit]⟩
      case measure => simp [intOf]; omega
    ·obtain rfl : j = 8 := by omega
     go_wp2
     go_round
     case rel => exact ⟨k + 1, by omega, by go_num, by rw [hS.out]; rfl⟩
     case measure => simp [intOf]; omega
  ·obtain rfl : k = n := by omega
   go_wp2
   go_ret
   refine ⟨?_, rfl⟩
   have e : crcTo c0 bs k = bs.foldl crcByte c0 := by unfold crcTo; rw [List.take_of_length_le (by rw [HL.out]; exact Nat.le_refl _)]
   show Ending.returned (Value.int .u32 (wv (~~~(crcTo c0 bs k)))) = _
   rw [e]
/-
  PROVED HERE: what permafrostkeep.Cut and Sized answer; conditions: lengths that a slice may have.
-/
set_option maxRecDepth 100000 in
theorem cut_any (A : Option Addr) (n c m : Nat) (bs : List UInt8) (D : Nat → Prop) (w : World) (_hB : Bs w D A n bs) (_hn : n ≤ 9223372036854775807) (hnc : n ≤ c) (hm : m ≤ 9223372036854775807) :
  Calls Tryz.prog 25 #[.slice A n c, .int .i64 m] w fun e w' => e = .returned (.slice A (min n m) c) ∧ w = w' := by
 by_cases hlt : m < n
 ·have e : min n m = m := by omega
  rw [e]
  clear e
  go_enter Tryz.func25, Tryz.ntmps25
  go_wp2
  go_ret
  exact ⟨rfl, rfl⟩
 ·have e : min n m = n := by omega
  rw [e]
  clear e
  go_enter Tryz.func25, Tryz.ntmps25
  go_wp2
  go_ret
  exact ⟨rfl, rfl⟩
theorem Bs.cutMin {w : World} {D : Nat → Prop} {A : Option Addr} {n : Nat} {bs : List UInt8} (h : Bs w D A n bs) (m : Nat) : Bs w D A (min n m) (bs.take m) := by
 have := Bs.cutTo h (hi := min n m) (by omega)
 rwa [show bs.take (min n m) = bs.take m from by rw [← h.len, Nat.min_comm]; exact List.take_eq_take_min.symm] at this
/-
  PROVED HERE: what the program's codec.Writer does; conditions: fewer than 2^40 bytes.
-/
structure Wr (w : World) (base p : Nat) (bs : List UInt8) : Prop where
 hp : base ≤ p
 row : ∃ A c, w.cell? ⟨p, 0, none⟩ = some (.slice A bs.length c) ∧ OwnB w base 5 A bs.length c bs ∧ blk A ≠ some p
 free : w.frozen? ⟨p, 0, none⟩ = false
theorem Wr.lt {w : World} {base p : Nat} {bs : List UInt8} (h : Wr w base p bs) : p < w.heap.size := by obtain ⟨A, c, h, _⟩ := h.row; exact World.block_lt_of_cell? w _ h
theorem Wr.put {w w2 : World} {base p : Nat} {bs : List UInt8} (h : Wr w base p bs) {A1 A2 : Option Addr} {m c2 : Nat} {more : List UInt8}
  (hown2 : OwnB w2 base 5 A2 m c2 (bs ++ more)) (hg2 : w.grownBy w2 (blk A1)) (hbk2 : blk A2 = blk A1 ∨ blk A2 = some w.heap.size) (hne : blk A1 ≠ some p)
  (hcc : ∃ u, w2.cell? ⟨p, 0, none⟩ = some u) : Wr (w2.setCell ⟨p, 0, none⟩ (.slice A2 m c2)) base p (bs ++ more) := by
 have hp := h.lt
 have hk : Keep (fun b => b = p) w w2 := (Keep.refl _ w).grown hg2 (fun k hk hd => absurd (hd ▸ hk) hne)
 have hm : m = (bs ++ more).length := by have := hown2.1; simpa using this.symm
 have hA2 : blk A2 ≠ some p := by
  rcases hbk2 with e | e <;> rw [e]
  ·exact hne
  ·intro e'; injection e'; omega
 obtain ⟨u, hu⟩ := hcc
 refine ⟨h.hp, ⟨A2, c2, ?_, ?_, hA2⟩, ?_⟩
 ·rw [← hm]; exact World.cell?_setCell_same _ _ _ hu
 ·rw [← hm]; exact own_set hown2 hA2 _
 ·rw [World.frozen?_setCell]; exact (hk.frozen hp rfl).trans h.free
theorem Wr.keep {w w' : World} {D : Nat → Prop} {base p : Nat} {bs : List UInt8} (h : Wr w base p bs) (hk : Keep D w w') (hD : ∀ b, base ≤ b → D b) : Wr w' base p bs := by
 obtain ⟨A, c, hc, hown, hne⟩ := h.row
 exact ⟨h.hp, ⟨A, c, hk.cell_some hc (hD _ h.hp), own_keep hown hk (fun k hkk => hD k (own_lt hown k hkk).1), hne⟩, (hk.frozen (p := ⟨p, 0, none⟩) h.lt (hD _ h.hp)).trans h.free⟩
set_option maxRecDepth 100000 in
theorem newWriter_any (w : World) : Calls Tryz.prog 66 #[] w fun e w' => (∃ p, e = .returned (.pointer (some ⟨p, 0, none⟩)) ∧ Wr w' w.heap.size p []) ∧ New w w' := by
 go_enter Tryz.func66, Tryz.ntmps66
 go_wp2
 go_ret
 refine ⟨⟨_, rfl, Nat.le_refl _, ⟨none, 0, ?_, Own.nil _ _ _ _, by simp [blk]⟩, free_new w _ _ _⟩, (New.refl w).alloc _⟩
 exact cell_of_row _ _ _ _ _ (0, 0) (heap_alloc_new w _)
set_option maxRecDepth 100000 in
theorem raw_any (base p : Nat) (D : Nat → Prop) (A : Option Addr) (n c : Nat) (bs bs2 : List UInt8) (w : World) (hW : Wr w base p bs) (hB : Bs w D A n bs2) (hn : bs.length + n ≤ 1099511627776) :
  Calls Tryz.prog 71 #[.pointer (some ⟨p, 0, none⟩), .slice A n c] w fun e w' => e = .returned (.tuple #[]) ∧ Wr w' base p (bs ++ bs2) ∧ Keep (fun b => b < base) w w' := by
 obtain ⟨A1, c1, hc, hown, hne⟩ := hW.row
 have hf := hW.free
 have hpb := hW.hp
 have hplt := hW.lt
 have hne' := Ne.symm hne
 have hsz : base ≤ w.heap.size := Nat.le_trans hpb (Nat.le_of_lt hplt)
 have hbd : bs.length + n ≤ 140737488355328 := by omega
 have HW := Lib.hid hW
 clear hW
 go_enter Tryz.func71, Tryz.ntmps71
 go_wp2_with (at_builtin; refine app_bytes _ rfl (.tmp 8) (.tmp 9) rfl base A1 bs.length c1 bs rfl hown D A n c bs2 rfl hB hbd hsz ?_; intro A2 c2 w2 hown2 hg2 hbk2; have cc := hg2.cell (a := ⟨p, 0, none⟩) hc hne'; have ff := (hg2.frozen_far ⟨p, 0, none⟩ hplt hne').trans hf)
 go_end0
 exact ⟨rfl, HW.out.put hown2 hg2 hbk2 hne ⟨_, cc⟩, ((Keep.refl (fun b => b < base) w).grown (w' := w2) hg2 (fun k hk hd => absurd hd (by have := own_lt hown k hk; omega))).setCell (p := ⟨p, 0, none⟩) (fun hb => absurd hb (Nat.not_lt.2 hpb)) _⟩
set_option maxRecDepth 100000 in
theorem done_any (base p : Nat) (bs : List UInt8) (w : World) (hW : Wr w base p bs) (hn : bs.length ≤ 1099511627776) :
  Calls Tryz.prog 72 #[.pointer (some ⟨p, 0, none⟩)] w fun e w' => (∃ A' c', e = .returned (.slice A' bs.length c') ∧ OwnB w' w.heap.size 5 A' bs.length c' bs) ∧ New w w' := by
 obtain ⟨A1, c1, hc, hown, hne⟩ := hW.row
 go_enter Tryz.func72, Tryz.ntmps72
 go_wp2_with fail
 refine (clone_bytes (fun b => base ≤ b) A1 _ c1 bs w (Row.of_own hown) (by omega)).mono ?_
 rintro e w1 ⟨⟨A2, c2, rfl, hown2⟩, hK1⟩
 go_wp2_with fail
 go_ret
 exact ⟨⟨_, _, rfl, hown2⟩, hK1⟩
def beI (s : Nat) (n : Int) : List UInt8 := (List.range s).map fun i => UInt8.ofNat (n / 2 ^ (8 * (s - 1 - i)) % 256).toNat
theorem beI_length (s : Nat) (n : Int) : (beI s n).length = s := by simp [beI]
theorem beI_take (s k : Nat) (n : Int) (hk : k < s) : (beI s n).take (s - k) = (beI s n).take (s - (k + 1)) ++ [UInt8.ofNat (n / 2 ^ (8 * k) % 256).toNat] := by
 have e : s - k = (s - (k + 1)) + 1 := by omega
 rw [e, List.take_succ_eq_append_getElem (by rw [beI_length]; omega)]
 congr 2
 unfold beI
 rw [List.getElem_map, List.getElem_range, show s - 1 - (s - (k + 1)) = k from by omega]
theorem byteVal_mod (x : Int) : byteVal (UInt8.ofNat (x % 256).toNat) = .int .u8 (x % 256) := by
 unfold byteVal bv
 have h := Int.emod_nonneg x (by decide : (256 : Int) ≠ 0)
 have h2 := Int.emod_lt_of_pos x (by decide : (0 : Int) < 256)
 rw [UInt8.toNat_ofNat_of_lt' (by show (x % 256).toNat < 256; omega)]
 congr 1
 omega
theorem wrap_u64_bd (x : Int) : 0 ≤ IntKind.u64.wrap x ∧ IntKind.u64.wrap x ≤ 18446744073709551615 := by
 rw [IntKind.wrap_u64]
 exact ⟨Int.emod_nonneg _ (by decide), by have := Int.emod_lt_of_pos x (by decide : (0 : Int) < 18446744073709551616); omega⟩
theorem beI_wrap (s : Nat) (x : Int) (hs : s ≤ 8) : beI s (IntKind.u64.wrap x) = beI s x := by
 rw [IntKind.wrap_u64]
 unfold beI
 refine List.map_congr_left fun i hi => ?_
 have hi' : i < s := List.mem_range.1 hi
 congr 2
 have e : (18446744073709551616 : Int) = 2 ^ (8 * (s - 1 - i)) * (256 * 2 ^ (8 * (7 - (s - 1 - i)))) := by
  rw [show (256 : Int) = 2 ^ 8 from rfl, ← Int.pow_add, ← Int.pow_add, show 8 * (s - 1 - i) + (8 + 8 * (7 - (s - 1 - i))) = 64 from by omega]; rfl
 rw [e]
 have hA : (2 : Int) ^ (8 * (s - 1 - i)) ≠ 0 := Int.ne_of_gt (Int.pow_pos (by decide))
 generalize (2 : Int) ^ (8 * (s - 1 - i)) = A at *
 generalize (2 : Int) ^ (8 * (7 - (s - 1 - i))) = B
 conv => rhs; rw [← Int.emod_add_mul_ediv x (A * (256 * B)), Int.mul_assoc A, Int.mul_assoc 256, Int.add_mul_ediv_left _ _ hA, Int.add_mul_emod_self_left]
set_option maxRecDepth 100000 in
theorem put_any (base p s : Nat) (bs : List UInt8) (x si : Int) (w : World) (hW : Wr w base p bs) (_hx0 : 0 ≤ x) (_hx1 : x ≤ 18446744073709551615) (hsi : si = s) (hs : s ≤ 8) (hn : bs.length ≤ 1099511627776) :
  Calls Tryz.prog 114 #[.pointer (some ⟨p, 0, none⟩), .int .u64 x, .int .i64 si] w fun e w' => e = .returned (.tuple #[]) ∧ Wr w' base p (bs ++ beI s x) ∧ Keep (fun b => b < base) w w' := by
 subst hsi
 go_enter Tryz.func114, Tryz.ntmps114
 go_wp2_with fail
 go_loopw [6] (fun i wx => ∃ k : Nat, k ≤ s ∧ i = .int .i64 ((k : Int) - 1) ∧ Wr wx base p (bs ++ (beI s x).take (s - k)) ∧ Keep (fun b => b < base) w wx) (fun i _ => (intOf i + 1).toNat)
 case atStart => exact ⟨s, Nat.le_refl _, rfl, by simpa using hW, Keep.refl _ _⟩
 case round =>
  clear hW
  obtain ⟨k, hk, rfl, hW, hK⟩ := hrel
  rcases k with _ | k
  ·rw [show (((0 : Nat) : Int) - 1) = -1 from rfl]
   rw [Nat.sub_zero, List.take_of_length_le (by rw [beI_length]; exact Nat.le_refl _)] at hW
   go_wp2_with fail
   go_end0
   exact ⟨rfl, hW, hK⟩
  ·rw [show (((k + 1 : Nat) : Int) - 1) = (k : Int) from by omega]
   have HT := Lib.hid (beI_take s k x (by omega))
   have hk8 : k < 8 := by omega
   have hl0 : (List.take (s - (k + 1)) (beI s x)).length ≤ 8 := Nat.le_trans (List.length_take_le _ _) (by omega)
   generalize List.take (s - (k + 1)) (beI s x) = pre at hW HT hl0
   obtain ⟨A1, c1, hc, hown, hne⟩ := hW.row
   have hf := hW.free
   have hpb := hW.hp
   have hplt := hW.lt
   have hne' := Ne.symm hne
   have hsz : base ≤ wr.heap.size := Nat.le_trans hpb (Nat.le_of_lt hplt)
   have hbd : (bs ++ pre).length + 1 ≤ 140737488355328 := by rw [List.length_append]; omega
   have HW := Lib.hid hW
   clear hW
   generalize (bs ++ pre).length = m at *
   have q1 : IntKind.i64.wrap (8 * (k : Int)) = 8 * (k : Int) := IntWalk.i64_in _ (by omega)
   have hb1 := bs_one wr 5 _ (.int .u8 (IntKind.u8.wrap (x / 2 ^ (8 * k)))) ((byteVal_mod (x / 2 ^ (8 * k))).trans (by rw [IntKind.wrap_u8]))
   have cka := (World.cell?_alloc_lt wr (.cells #[.int .u8 (IntKind.u8.wrap (x / 2 ^ (8 * k)))] 5) ⟨p, 0, none⟩ hplt).trans hc
   have ffa := (((New.refl wr).alloc (.cells #[.int .u8 (IntKind.u8.wrap (x / 2 ^ (8 * k)))] 5)).frozen (p := ⟨p, 0, none⟩) hplt trivial).trans hf
   have hpl1 : p < (wr.alloc (.cells #[.int .u8 (IntKind.u8.wrap (x / 2 ^ (8 * k)))] 5)).heap.size := Nat.lt_of_lt_of_le hplt (by simp)
   have hown1 := hown.alloc (.cells #[.int .u8 (IntKind.u8.wrap (x / 2 ^ (8 * k)))] 5)
   have q2 : (8 * (k : Int)).toNat = 8 * k := by omega
   have q3 : 0 ≤ 8 * (k : Int) := by omega
   go_wp2_with fail
   go_region_law (refine step_bytes _ rfl (.tmp 17) (.tmp 23) rfl base A1 m c1 _ (by simp [Act.eval]) hown1 (fun g => wr.heap.size ≤ g) _ 1 1 _ (by simp [Act.eval]) hb1 hbd (Nat.le_trans hsz (by simp)) ?_; intro A3 c3 w3 hown3 hg3 hbk3; have cc := hg3.cell (a := ⟨p, 0, none⟩) cka hne'; have ff := (hg3.frozen_far ⟨p, 0, none⟩ hpl1 hne').trans ffa)
   all_goals
    replace hg3 := undrew hg3
    have hW3 := (HW.out.keep ((New.refl wr).alloc (.cells #[.int .u8 (IntKind.u8.wrap (x / 2 ^ (8 * k)))] 5)) (fun _ _ => trivial)).put hown3 hg3 hbk3 hne ⟨_, cc⟩
    have hK3 : Keep (fun b => b < base) w (w3.setCell ⟨p, 0, none⟩ (.slice A3 (m + 1) c3)) := ((hK.alloc (.cells #[.int .u8 (IntKind.u8.wrap (x / 2 ^ (8 * k)))] 5)).grown hg3 (fun k hk hd => absurd hd (by have := own_lt hown k hk; omega))).setCell (p := ⟨p, 0, none⟩) (fun hb => absurd hb (Nat.not_lt.2 hpb)) _
    clear hown3 hg3 hbk3 cc ff hK hown hown1 cka ffa hb1 hc HW
    go_wp2_with fail
    go_roundw
    case rel => exact ⟨k, by omega, rfl, by rw [HT.out, ← List.append_assoc]; exact hW3, hK3⟩
    case measure => simp [intOf]
set_option maxRecDepth 100000 in
theorem wbyte_any (base p : Nat) (bs : List UInt8) (x : Int) (w : World) (hW : Wr w base p bs) (hn : bs.length ≤ 1099511627776) :
  Calls Tryz.prog 70 #[.pointer (some ⟨p, 0, none⟩), .int .i64 x] w fun e w' => e = .returned (.tuple #[]) ∧ Wr w' base p (bs ++ beI 1 x) ∧ Keep (fun b => b < base) w w' := by
 have hr := wrap_u64_bd x
 have he := Lib.hid (beI_wrap 1 x (by decide))
 go_enter Tryz.func70, Tryz.ntmps70
 go_wp2_with fail
 refine (put_any base p 1 bs _ _ w hW hr.1 hr.2 rfl (by decide) hn).mono ?_
 rintro e w1 ⟨rfl, hW1, hK1⟩
 rw [he.out] at hW1
 go_wp2_with fail
 go_end0
 exact ⟨rfl, hW1, hK1⟩
set_option maxRecDepth 100000 in
theorem wshort_any (base p : Nat) (bs : List UInt8) (x : Int) (w : World) (hW : Wr w base p bs) (hn : bs.length ≤ 1099511627776) :
  Calls Tryz.prog 68 #[.pointer (some ⟨p, 0, none⟩), .int .i64 x] w fun e w' => e = .returned (.tuple #[]) ∧ Wr w' base p (bs ++ beI 2 x) ∧ Keep (fun b => b < base) w w' := by
 have hr := wrap_u64_bd x
 have he := Lib.hid (beI_wrap 2 x (by decide))
 go_enter Tryz.func68, Tryz.ntmps68
 go_wp2_with fail
 refine (put_any base p 2 bs _ _ w hW hr.1 hr.2 rfl (by decide) hn).mono ?_
 rintro e w1 ⟨rfl, hW1, hK1⟩
 rw [he.out] at hW1
 go_wp2_with fail
 go_end0
 exact ⟨rfl, hW1, hK1⟩
set_option maxRecDepth 100000 in
theorem wlong_any (base p : Nat) (bs : List UInt8) (x : Int) (w : World) (hW : Wr w base p bs) (hx0 : 0 ≤ x) (hx1 : x ≤ 18446744073709551615) (hn : bs.length ≤ 1099511627776) :
  Calls Tryz.prog 113 #[.pointer (some ⟨p, 0, none⟩), .int .u64 x] w fun e w' => e = .returned (.tuple #[]) ∧ Wr w' base p (bs ++ beI 8 x) ∧ Keep (fun b => b < base) w w' := by
 go_enter Tryz.func113, Tryz.ntmps113
 go_wp2_with fail
 refine (put_any base p 8 bs _ _ w hW hx0 hx1 rfl (by decide) hn).mono ?_
 rintro e w1 ⟨rfl, hW1, hK1⟩
 go_wp2_with fail
 go_end0
 exact ⟨rfl, hW1, hK1⟩
def lenBytes (bs : List UInt8) : List UInt8 := beI 2 (min bs.length 65535 : Nat) ++ bs.take 65535
theorem lenBytes_long (bs : List UInt8) (h : 65535 < bs.length) : lenBytes bs = beI 2 65535 ++ bs.take 65535 := by
 unfold lenBytes
 have e : ((min bs.length 65535 : Nat) : Int) = 65535 := by omega
 rw [e]
set_option maxRecDepth 200000 in
theorem wbytes_any (base p : Nat) (D : Nat → Prop) (A : Option Addr) (n c : Nat) (bs bs2 : List UInt8) (w : World) (hW : Wr w base p bs) (hB : Bs w D A n bs2) (hD : ∀ b, D b → b < base) (hnc : n ≤ c) (hc : n ≤ 9223372036854775807) (hn : bs.length + 65537 ≤ 1099511627776) :
  Calls Tryz.prog 69 #[.pointer (some ⟨p, 0, none⟩), .slice A n c] w fun e w' => e = .returned (.tuple #[]) ∧ Wr w' base p (bs ++ lenBytes bs2) ∧ Keep (fun b => b < base) w w' := by
 have hl := hB.len
 have hl0 : bs.length ≤ 1099511627776 := by omega
 by_cases hgt : 65535 < n
 ·have hgt' : (65535 : Int) < n := by omega
  have hm := Bs.cutTo hB (hi := 65535) (by omega)
  have HE : Hid (lenBytes bs2 = beI 2 65535 ++ bs2.take 65535) := Lib.hid (lenBytes_long bs2 (by omega))
  have hlm : (bs ++ beI 2 65535).length + 65535 ≤ 1099511627776 := by rw [List.length_append, beI_length]; omega
  clear hl hB
  go_enter Tryz.func69, Tryz.ntmps69
  go_wp2_with fail
  refine (wshort_any base p bs 65535 w hW hl0).mono ?_
  rintro e w1 ⟨rfl, hW1, hK1⟩
  go_wp2_with fail
  refine (raw_any base p D A 65535 c _ _ w1 hW1 (hm.keep hK1 (fun b _ h => hD b h)) hlm).mono ?_
  rintro e w2 ⟨rfl, hW2, hK2⟩
  go_wp2_with fail
  go_end0
  exact ⟨rfl, by rw [HE.out, ← List.append_assoc]; exact hW2, hK1.trans hK2⟩
 ·have hgt' : ¬ (65535 : Int) < n := by omega
  have HE : Hid (lenBytes bs2 = beI 2 (n : Int) ++ bs2) := Lib.hid (by unfold lenBytes; rw [hl, Nat.min_eq_left (by omega), List.take_of_length_le (by omega)])
  have hlm : (bs ++ beI 2 (n : Int)).length + n ≤ 1099511627776 := by rw [List.length_append, beI_length]; omega
  clear hl
  go_enter Tryz.func69, Tryz.ntmps69
  go_wp2_with fail
  refine (wshort_any base p bs n w hW hl0).mono ?_
  rintro e w1 ⟨rfl, hW1, hK1⟩
  go_wp2_with fail
  refine (raw_any base p D A n c _ _ w1 hW1 (hB.keep hK1 (fun b _ h => hD b h)) hlm).mono ?_
  rintro e w2 ⟨rfl, hW2, hK2⟩
  go_wp2_with fail
  go_end0
  exact ⟨rfl, by rw [HE.out, ← List.append_assoc]; exact hW2, hK1.trans hK2⟩
/-
  PROVED HERE: what segment.Seal answers; no condition.
-/
theorem cellOf {w : World} {g : Nat} {t : TypeId} {cs : Array Value} (h : w.heap[g]? = some (.cells cs t (0, 0))) {k : Nat} {v : Value} (hv : cs[k]? = some v) : w.cell? ⟨g, k, none⟩ = some v := (cell_of_row w g k cs t (0, 0) h).trans hv
theorem Keep.blockAt {D : Nat → Prop} {a b : World} (h : Keep D a b) {g : Nat} {o : Obj} (hg : a.heap[g]? = some o) (hd : D g) : b.heap[g]? = some o :=
 (h.block g (Array.getElem?_eq_some_iff.1 hg).1 hd).trans hg
structure HeadP where
 index : Int
 first : Int
 count : Int
 bytes : Int
 prev : List UInt8
 root : List UInt8
def whole32 (bs : List UInt8) : List UInt8 := if bs.length = 32 then bs else List.replicate 32 0
theorem whole32_length (bs : List UInt8) : (whole32 bs).length = 32 := by unfold whole32; split <;> simp_all
def sealRow (h : HeadP) : List UInt8 := beI 1 2 ++ beI 2 h.index ++ beI 8 h.first ++ beI 2 h.count ++ whole32 h.prev ++ whole32 h.root
def sealOf (h : HeadP) : List UInt8 := shaSum (sealRow h)
set_option maxRecDepth 100000 in
theorem whole_any (D : Nat → Prop) (A : Option Addr) (n c : Nat) (bs : List UInt8) (w : World) (hB : Bs w D A n bs) (hnc : n ≤ c) :
  Calls Tryz.prog 131 #[.slice A n c] w fun e w' => (∃ A' c', e = .returned (.slice A' 32 c') ∧ 32 ≤ c' ∧ Bs w' (fun b => D b ∨ w.heap.size ≤ b) A' 32 (whole32 bs)) ∧ New w w' := by
 have hl := hB.len
 by_cases h32 : n = 32
 ·subst h32
  have hw : whole32 bs = bs := by unfold whole32; rw [if_pos hl]
  rw [hw]
  clear hl hw
  go_enter Tryz.func131, Tryz.ntmps131
  go_wp2_with fail
  go_ret
  exact ⟨⟨_, _, rfl, hnc, hB.imp (fun _ _ h => .inl h)⟩, New.refl _⟩
 ·have hw : whole32 bs = List.replicate 32 0 := by unfold whole32; rw [if_neg (by omega)]
  have hne : ((n : Int) != 32) = true := by rw [bne_iff_ne]; omega
  have hmk : ∀ w, (Instr.makeSlice 31 (.int .i64 32) (.int .i64 32)).run Tryz.prog w = .ok (.slice (some ⟨w.heap.size, 0, none⟩) 32 32) (w.alloc (.cells (List.replicate 32 (Value.int .u8 0)).toArray 5)) := fun _ => by kernel_rfl
  rw [hw]
  clear hl hw
  go_enter Tryz.func131, Tryz.ntmps131
  go_wp2_with fail
  clear hmk
  go_ret
  exact ⟨⟨_, _, rfl, Nat.le_refl _, (Row.made w _ _ 32 1 rfl).imp (fun _ _ h => .inr h)⟩, (New.refl _).alloc _⟩
set_option maxRecDepth 100000 in
theorem row_any (D D2 : Nat → Prop) (A A2 : Option Addr) (n c n2 c2 : Nat) (h : HeadP) (w : World) (hB : Bs w D A n h.prev) (hnc : n ≤ c) (hB2 : Bs w D2 A2 n2 h.root) (hnc2 : n2 ≤ c2) (hf0 : 0 ≤ h.first) (hf1 : h.first ≤ 18446744073709551615) :
  Calls Tryz.prog 101 #[.agg #[.int .i64 h.index, .int .u64 h.first, .int .i64 h.count, .int .i64 h.bytes, .slice A n c, .slice A2 n2 c2]] w fun e w' =>
   (∃ A' c', e = .returned (.slice A' 77 c') ∧ OwnB w' w.heap.size 5 A' 77 c' (sealRow h)) ∧ New w w' := by
 rcases h with ⟨ix, fi, co, by', pr, ro⟩
 have hb0 : (w.alloc (.cells #[.int .i64 ix, .int .u64 fi, .int .i64 co, .int .i64 by', .slice A n c, .slice A2 n2 c2] 33)).heap[w.heap.size]? = some (.cells #[.int .i64 ix, .int .u64 fi, .int .i64 co, .int .i64 by', .slice A n c, .slice A2 n2 c2] 33 (0, 0)) := heap_alloc_new w _
 have hK0 : New w (w.alloc (.cells #[.int .i64 ix, .int .u64 fi, .int .i64 co, .int .i64 by', .slice A n c, .slice A2 n2 c2] 33)) := (New.refl w).alloc _
 dsimp only at hB hB2 hf0 hf1 ⊢
 have HB := Lib.hid hb0
 clear hb0
 go_enter Tryz.func101, Tryz.ntmps101
 go_wp2_with fail
 have hlt : w.heap.size < (w.alloc (.cells #[.int .i64 ix, .int .u64 fi, .int .i64 co, .int .i64 by', .slice A n c, .slice A2 n2 c2] 33)).heap.size := by simp
 generalize w.alloc _ = w0 at *
 refine (newWriter_any _).mono ?_
 rintro e w1 ⟨⟨p, rfl, hW1⟩, hK1⟩
 have HB1 := Lib.hid (hK1.blockAt HB.out trivial)
 generalize w0.heap.size = base at *
 go_wp2_with fail
 refine (wbyte_any base p _ 2 w1 hW1 (by simp)).mono ?_
 rintro e w2 ⟨rfl, hW2, hK2⟩
 have HB2 := Lib.hid (hK2.blockAt HB1.out hlt)
 clear hW1
 have ck := cellOf HB2.out (k := 0) rfl
 go_wp2_with fail
 clear ck
 refine (wshort_any base p _ ix w2 hW2 (by simp [beI_length])).mono ?_
 rintro e w3 ⟨rfl, hW3, hK3⟩
 have HB3 := Lib.hid (hK3.blockAt HB2.out hlt)
 clear hW2
 have ck := cellOf HB3.out (k := 1) rfl
 go_wp2_with fail
 clear ck
 refine (wlong_any base p _ fi w3 hW3 hf0 hf1 (by simp [beI_length])).mono ?_
 rintro e w4 ⟨rfl, hW4, hK4⟩
 have HB4 := Lib.hid (hK4.blockAt HB3.out hlt)
 clear hW3
 have ck := cellOf HB4.out (k := 2) rfl
 go_wp2_with fail
 clear ck
 refine (wshort_any base p _ co w4 hW4 (by simp [beI_length])).mono ?_
 rintro e w5 ⟨rfl, hW5, hK5⟩
 have HB5 := Lib.hid (hK5.blockAt HB4.out hlt)
 clear hW4
 have ck := cellOf HB5.out (k := 4) rfl
 have hK05 : Keep (fun b => b < base) w w5 := ((((Keep.of_new (hK0.new hK1)).trans hK2).trans hK3).trans hK4).trans hK5
 have hle : w.heap.size ≤ base := Nat.le_of_lt hlt
 have hB5 : Bs w5 (fun b => b < base) A n pr := (Row.imp hB (E := fun b => b < base) (fun b hb _ => Nat.lt_of_lt_of_le hb hle)).keep hK05 (fun b _ h => h)
 have hB52 : Bs w5 (fun b => b < base) A2 n2 ro := (Row.imp hB2 (E := fun b => b < base) (fun b hb _ => Nat.lt_of_lt_of_le hb hle)).keep hK05 (fun b _ h => h)
 clear hK1 hK2 hK3 hK4 hK5 hB hB2 hK0
 go_wp2_with fail
 clear ck
 refine (whole_any _ A n c pr w5 hB5 hnc).mono ?_
 rintro e w6 ⟨⟨A6, c6, rfl, hc6, hB6⟩, hK6⟩
 go_wp2_with fail
 have hW6 := hW5.keep hK6 (fun _ _ => trivial)
 refine (raw_any base p _ A6 32 c6 _ _ w6 hW6 hB6 (by simp [beI_length])).mono ?_
 rintro e w7 ⟨rfl, hW7, hK7⟩
 have HB7 := Lib.hid (hK7.blockAt (hK6.blockAt HB5.out trivial) hlt)
 clear hW5 hW6 hB5 hB6
 have ck := cellOf HB7.out (k := 5) rfl
 have hB7 := (hB52.new hK6).keep hK7 (fun b _ h => h)
 go_wp2_with fail
 clear ck
 refine (whole_any _ A2 n2 c2 ro w7 hB7 hnc2).mono ?_
 rintro e w8 ⟨⟨A8, c8, rfl, hc8, hB8⟩, hK8⟩
 go_wp2_with fail
 have hW8 := hW7.keep hK8 (fun _ _ => trivial)
 refine (raw_any base p _ A8 32 c8 _ _ w8 hW8 hB8 (by simp [beI_length, whole32_length])).mono ?_
 rintro e w9 ⟨rfl, hW9, hK9⟩
 clear hB52 hB7 hB8 hW7 hW8
 have hK09 : Keep (fun b => b < base) w w9 := (((hK05.new hK6).trans hK7).new hK8).trans hK9
 replace hW9 : Wr w9 base p (sealRow ⟨ix, fi, co, by', pr, ro⟩) := hW9
 have hlen : (sealRow ⟨ix, fi, co, by', pr, ro⟩).length = 77 := by simp [sealRow, beI_length, whole32_length]
 generalize hL : sealRow ⟨ix, fi, co, by', pr, ro⟩ = L at hW9 hlen
 have HL := Lib.hid hL
 clear hL
 go_wp2_with fail
 refine (done_any base p _ w9 hW9 (by omega)).mono ?_
 rintro e w10 ⟨⟨A10, c10, rfl, hown⟩, hK10⟩
 rw [hlen] at hown ⊢
 go_wp2_with fail
 go_ret
 exact ⟨⟨_, _, rfl, by rw [HL.out]; exact own_base hown hK09.size⟩, (hK09.toNew (fun i hi => Nat.lt_of_lt_of_le hi hle)).new hK10⟩
set_option maxRecDepth 100000 in
theorem seal_any (D D2 : Nat → Prop) (A A2 : Option Addr) (n c n2 c2 : Nat) (h : HeadP) (w : World) (hB : Bs w D A n h.prev) (hnc : n ≤ c) (hB2 : Bs w D2 A2 n2 h.root) (hnc2 : n2 ≤ c2) (hf0 : 0 ≤ h.first) (hf1 : h.first ≤ 18446744073709551615) :
  Calls Tryz.prog 41 #[.agg #[.int .i64 h.index, .int .u64 h.first, .int .i64 h.count, .int .i64 h.bytes, .slice A n c, .slice A2 n2 c2]] w fun e w' =>
   (∃ A' c', e = .returned (.slice A' 32 c') ∧ OwnB w' w.heap.size 5 A' 32 c' (sealOf h)) ∧ New w w' := by
 have hK0 : ∀ o, New w (w.alloc o) := fun o => (New.refl w).alloc o
 have HK0 := Lib.hid hK0
 clear hK0
 go_enter Tryz.func41, Tryz.ntmps41
 go_wp2_with fail
 refine (row_any D D2 A A2 n c n2 c2 h _ (hB.alloc _) hnc (hB2.alloc _) hnc2 hf0 hf1).mono ?_
 rintro e w1 ⟨⟨A1, c1, rfl, hown⟩, hK1⟩
 have hcap := own_cap hown
 go_wp2_with fail
 refine (shaSum_any _ A1 77 c1 _ w1 (Row.of_own hown) hcap (by omega)).mono ?_
 rintro e w2 ⟨⟨A2, c2, rfl, hown2⟩, hK2⟩
 go_wp2_with fail
 go_ret
 exact ⟨⟨_, _, rfl, own_base hown2 (Nat.le_trans (HK0.out _).size hK1.size)⟩, ((HK0.out _).new hK1).new hK2⟩
/-
  PROVED HERE: the cells of a block, read at once; none of them is frozen; no condition; no program is named.
-/

/-! ### the cells of a block, at once -/
theorem cs2 {w : World} {g : Nat} {c : Array Value} {t : TypeId} {v0 v1 : Value} (h : w.heap[g]? = some (.cells c t (0, 0))) (h0 : c[0]? = some v0 := by rfl) (h1 : c[1]? = some v1 := by rfl) : w.cell? ⟨g, 0, none⟩ = some v0 ∧ w.cell? ⟨g, 1, none⟩ = some v1 := ⟨cellOf h h0, cellOf h h1⟩
theorem fz2 {w : World} {g : Nat} {c : Array Value} {t : TypeId} (h : w.heap[g]? = some (.cells c t (0, 0))) : w.frozen? ⟨g, 0, none⟩ = false ∧ w.frozen? ⟨g, 1, none⟩ = false := ⟨frozenOf h 0, frozenOf h 1⟩
theorem cs3 {w : World} {g : Nat} {c : Array Value} {t : TypeId} {v0 v1 v2 : Value} (h : w.heap[g]? = some (.cells c t (0, 0))) (h0 : c[0]? = some v0 := by rfl) (h1 : c[1]? = some v1 := by rfl) (h2 : c[2]? = some v2 := by rfl) : w.cell? ⟨g, 0, none⟩ = some v0 ∧ w.cell? ⟨g, 1, none⟩ = some v1 ∧ w.cell? ⟨g, 2, none⟩ = some v2 := ⟨cellOf h h0, cellOf h h1, cellOf h h2⟩
theorem fz3 {w : World} {g : Nat} {c : Array Value} {t : TypeId} (h : w.heap[g]? = some (.cells c t (0, 0))) : w.frozen? ⟨g, 0, none⟩ = false ∧ w.frozen? ⟨g, 1, none⟩ = false ∧ w.frozen? ⟨g, 2, none⟩ = false := ⟨frozenOf h 0, frozenOf h 1, frozenOf h 2⟩
theorem cs4 {w : World} {g : Nat} {c : Array Value} {t : TypeId} {v0 v1 v2 v3 : Value} (h : w.heap[g]? = some (.cells c t (0, 0))) (h0 : c[0]? = some v0 := by rfl) (h1 : c[1]? = some v1 := by rfl) (h2 : c[2]? = some v2 := by rfl) (h3 : c[3]? = some v3 := by rfl) : w.cell? ⟨g, 0, none⟩ = some v0 ∧ w.cell? ⟨g, 1, none⟩ = some v1 ∧ w.cell? ⟨g, 2, none⟩ = some v2 ∧ w.cell? ⟨g, 3, none⟩ = some v3 := ⟨cellOf h h0, cellOf h h1, cellOf h h2, cellOf h h3⟩
theorem fz4 {w : World} {g : Nat} {c : Array Value} {t : TypeId} (h : w.heap[g]? = some (.cells c t (0, 0))) : w.frozen? ⟨g, 0, none⟩ = false ∧ w.frozen? ⟨g, 1, none⟩ = false ∧ w.frozen? ⟨g, 2, none⟩ = false ∧ w.frozen? ⟨g, 3, none⟩ = false := ⟨frozenOf h 0, frozenOf h 1, frozenOf h 2, frozenOf h 3⟩
theorem cs5 {w : World} {g : Nat} {c : Array Value} {t : TypeId} {v0 v1 v2 v3 v4 : Value} (h : w.heap[g]? = some (.cells c t (0, 0))) (h0 : c[0]? = some v0 := by rfl) (h1 : c[1]? = some v1 := by rfl) (h2 : c[2]? = some v2 := by rfl) (h3 : c[3]? = some v3 := by rfl) (h4 : c[4]? = some v4 := by rfl) : w.cell? ⟨g, 0, none⟩ = some v0 ∧ w.cell? ⟨g, 1, none⟩ = some v1 ∧ w.cell? ⟨g, 2, none⟩ = some v2 ∧ w.cell? ⟨g, 3, none⟩ = some v3 ∧ w.cell? ⟨g, 4, none⟩ = some v4 := ⟨cellOf h h0, cellOf h h1, cellOf h h2, cellOf h h3, cellOf h h4⟩
theorem fz5 {w : World} {g : Nat} {c : Array Value} {t : TypeId} (h : w.heap[g]? = some (.cells c t (0, 0))) : w.frozen? ⟨g, 0, none⟩ = false ∧ w.frozen? ⟨g, 1, none⟩ = false ∧ w.frozen? ⟨g, 2, none⟩ = false ∧ w.frozen? ⟨g, 3, none⟩ = false ∧ w.frozen? ⟨g, 4, none⟩ = false := ⟨frozenOf h 0, frozenOf h 1, frozenOf h 2, frozenOf h 3, frozenOf h 4⟩
theorem cs6 {w : World} {g : Nat} {c : Array Value} {t : TypeId} {v0 v1 v2 v3 v4 v5 : Value} (h : w.heap[g]? = some (.cells c t (0, 0))) (h0 : c[0]? = some v0 := by rfl) (h1 : c[1]? = some v1 := by rfl) (h2 : c[2]? = some v2 := by rfl) (h3 : c[3]? = some v3 := by rfl) (h4 : c[4]? = some v4 := by rfl) (h5 : c[5]? = some v5 := by rfl) : w.cell? ⟨g, 0, none⟩ = some v0 ∧ w.cell? ⟨g, 1, none⟩ = some v1 ∧ w.cell? ⟨g, 2, none⟩ = some v2 ∧ w.cell? ⟨g, 3, none⟩ = some v3 ∧ w.cell? ⟨g, 4, none⟩ = some v4 ∧ w.cell? ⟨g, 5, none⟩ = some v5 := ⟨cellOf h h0, cellOf h h1, cellOf h h2, cellOf h h3, cellOf h h4, cellOf h h5⟩
theorem fz6 {w : World} {g : Nat} {c : Array Value} {t : TypeId} (h : w.heap[g]? = some (.cells c t (0, 0))) : w.frozen? ⟨g, 0, none⟩ = false ∧ w.frozen? ⟨g, 1, none⟩ = false ∧ w.frozen? ⟨g, 2, none⟩ = false ∧ w.frozen? ⟨g, 3, none⟩ = false ∧ w.frozen? ⟨g, 4, none⟩ = false ∧ w.frozen? ⟨g, 5, none⟩ = false := ⟨frozenOf h 0, frozenOf h 1, frozenOf h 2, frozenOf h 3, frozenOf h 4, frozenOf h 5⟩
theorem cs7 {w : World} {g : Nat} {c : Array Value} {t : TypeId} {v0 v1 v2 v3 v4 v5 v6 : Value} (h : w.heap[g]? = some (.cells c t (0, 0))) (h0 : c[0]? = some v0 := by rfl) (h1 : c[1]? = some v1 := by rfl) (h2 : c[2]? = some v2 := by rfl) (h3 : c[3]? = some v3 := by rfl) (h4 : c[4]? = some v4 := by rfl) (h5 : c[5]? = some v5 := by rfl) (h6 : c[6]? = some v6 := by rfl) : w.cell? ⟨g, 0, none⟩ = some v0 ∧ w.cell? ⟨g, 1, none⟩ = some v1 ∧ w.cell? ⟨g, 2, none⟩ = some v2 ∧ w.cell? ⟨g, 3, none⟩ = some v3 ∧ w.cell? ⟨g, 4, none⟩ = some v4 ∧ w.cell? ⟨g, 5, none⟩ = some v5 ∧ w.cell? ⟨g, 6, none⟩ = some v6 := ⟨cellOf h h0, cellOf h h1, cellOf h h2, cellOf h h3, cellOf h h4, cellOf h h5, cellOf h h6⟩
theorem fz7 {w : World} {g : Nat} {c : Array Value} {t : TypeId} (h : w.heap[g]? = some (.cells c t (0, 0))) : w.frozen? ⟨g, 0, none⟩ = false ∧ w.frozen? ⟨g, 1, none⟩ = false ∧ w.frozen? ⟨g, 2, none⟩ = false ∧ w.frozen? ⟨g, 3, none⟩ = false ∧ w.frozen? ⟨g, 4, none⟩ = false ∧ w.frozen? ⟨g, 5, none⟩ = false ∧ w.frozen? ⟨g, 6, none⟩ = false := ⟨frozenOf h 0, frozenOf h 1, frozenOf h 2, frozenOf h 3, frozenOf h 4, frozenOf h 5, frozenOf h 6⟩
theorem cs8 {w : World} {g : Nat} {c : Array Value} {t : TypeId} {v0 v1 v2 v3 v4 v5 v6 v7 : Value} (h : w.heap[g]? = some (.cells c t (0, 0))) (h0 : c[0]? = some v0 := by rfl) (h1 : c[1]? = some v1 := by rfl) (h2 : c[2]? = some v2 := by rfl) (h3 : c[3]? = some v3 := by rfl) (h4 : c[4]? = some v4 := by rfl) (h5 : c[5]? = some v5 := by rfl) (h6 : c[6]? = some v6 := by rfl) (h7 : c[7]? = some v7 := by rfl) : w.cell? ⟨g, 0, none⟩ = some v0 ∧ w.cell? ⟨g, 1, none⟩ = some v1 ∧ w.cell? ⟨g, 2, none⟩ = some v2 ∧ w.cell? ⟨g, 3, none⟩ = some v3 ∧ w.cell? ⟨g, 4, none⟩ = some v4 ∧ w.cell? ⟨g, 5, none⟩ = some v5 ∧ w.cell? ⟨g, 6, none⟩ = some v6 ∧ w.cell? ⟨g, 7, none⟩ = some v7 := ⟨cellOf h h0, cellOf h h1, cellOf h h2, cellOf h h3, cellOf h h4, cellOf h h5, cellOf h h6, cellOf h h7⟩
theorem fz8 {w : World} {g : Nat} {c : Array Value} {t : TypeId} (h : w.heap[g]? = some (.cells c t (0, 0))) : w.frozen? ⟨g, 0, none⟩ = false ∧ w.frozen? ⟨g, 1, none⟩ = false ∧ w.frozen? ⟨g, 2, none⟩ = false ∧ w.frozen? ⟨g, 3, none⟩ = false ∧ w.frozen? ⟨g, 4, none⟩ = false ∧ w.frozen? ⟨g, 5, none⟩ = false ∧ w.frozen? ⟨g, 6, none⟩ = false ∧ w.frozen? ⟨g, 7, none⟩ = false := ⟨frozenOf h 0, frozenOf h 1, frozenOf h 2, frozenOf h 3, frozenOf h 4, frozenOf h 5, frozenOf h 6, frozenOf h 7⟩
theorem cs9 {w : World} {g : Nat} {c : Array Value} {t : TypeId} {v0 v1 v2 v3 v4 v5 v6 v7 v8 : Value} (h : w.heap[g]? = some (.cells c t (0, 0))) (h0 : c[0]? = some v0 := by rfl) (h1 : c[1]? = some v1 := by rfl) (h2 : c[2]? = some v2 := by rfl) (h3 : c[3]? = some v3 := by rfl) (h4 : c[4]? = some v4 := by rfl) (h5 : c[5]? = some v5 := by rfl) (h6 : c[6]? = some v6 := by rfl) (h7 : c[7]? = some v7 := by rfl) (h8 : c[8]? = some v8 := by rfl) : w.cell? ⟨g, 0, none⟩ = some v0 ∧ w.cell? ⟨g, 1, none⟩ = some v1 ∧ w.cell? ⟨g, 2, none⟩ = some v2 ∧ w.cell? ⟨g, 3, none⟩ = some v3 ∧ w.cell? ⟨g, 4, none⟩ = some v4 ∧ w.cell? ⟨g, 5, none⟩ = some v5 ∧ w.cell? ⟨g, 6, none⟩ = some v6 ∧ w.cell? ⟨g, 7, none⟩ = some v7 ∧ w.cell? ⟨g, 8, none⟩ = some v8 := ⟨cellOf h h0, cellOf h h1, cellOf h h2, cellOf h h3, cellOf h h4, cellOf h h5, cellOf h h6, cellOf h h7, cellOf h h8⟩
theorem fz9 {w : World} {g : Nat} {c : Array Value} {t : TypeId} (h : w.heap[g]? = some (.cells c t (0, 0))) : w.frozen? ⟨g, 0, none⟩ = false ∧ w.frozen? ⟨g, 1, none⟩ = false ∧ w.frozen? ⟨g, 2, none⟩ = false ∧ w.frozen? ⟨g, 3, none⟩ = false ∧ w.frozen? ⟨g, 4, none⟩ = false ∧ w.frozen? ⟨g, 5, none⟩ = false ∧ w.frozen? ⟨g, 6, none⟩ = false ∧ w.frozen? ⟨g, 7, none⟩ = false ∧ w.frozen? ⟨g, 8, none⟩ = false := ⟨frozenOf h 0, frozenOf h 1, frozenOf h 2, frozenOf h 3, frozenOf h 4, frozenOf h 5, frozenOf h 6, frozenOf h 7, frozenOf h 8⟩
theorem cs10 {w : World} {g : Nat} {c : Array Value} {t : TypeId} {v0 v1 v2 v3 v4 v5 v6 v7 v8 v9 : Value} (h : w.heap[g]? = some (.cells c t (0, 0))) (h0 : c[0]? = some v0 := by rfl) (h1 : c[1]? = some v1 := by rfl) (h2 : c[2]? = some v2 := by rfl) (h3 : c[3]? = some v3 := by rfl) (h4 : c[4]? = some v4 := by rfl) (h5 : c[5]? = some v5 := by rfl) (h6 : c[6]? = some v6 := by rfl) (h7 : c[7]? = some v7 := by rfl) (h8 : c[8]? = some v8 := by rfl) (h9 : c[9]? = some v9 := by rfl) : w.cell? ⟨g, 0, none⟩ = some v0 ∧ w.cell? ⟨g, 1, none⟩ = some v1 ∧ w.cell? ⟨g, 2, none⟩ = some v2 ∧ w.cell? ⟨g, 3, none⟩ = some v3 ∧ w.cell? ⟨g, 4, none⟩ = some v4 ∧ w.cell? ⟨g, 5, none⟩ = some v5 ∧ w.cell? ⟨g, 6, none⟩ = some v6 ∧ w.cell? ⟨g, 7, none⟩ = some v7 ∧ w.cell? ⟨g, 8, none⟩ = some v8 ∧ w.cell? ⟨g, 9, none⟩ = some v9 := ⟨cellOf h h0, cellOf h h1, cellOf h h2, cellOf h h3, cellOf h h4, cellOf h h5, cellOf h h6, cellOf h h7, cellOf h h8, cellOf h h9⟩
theorem fz10 {w : World} {g : Nat} {c : Array Value} {t : TypeId} (h : w.heap[g]? = some (.cells c t (0, 0))) : w.frozen? ⟨g, 0, none⟩ = false ∧ w.frozen? ⟨g, 1, none⟩ = false ∧ w.frozen? ⟨g, 2, none⟩ = false ∧ w.frozen? ⟨g, 3, none⟩ = false ∧ w.frozen? ⟨g, 4, none⟩ = false ∧ w.frozen? ⟨g, 5, none⟩ = false ∧ w.frozen? ⟨g, 6, none⟩ = false ∧ w.frozen? ⟨g, 7, none⟩ = false ∧ w.frozen? ⟨g, 8, none⟩ = false ∧ w.frozen? ⟨g, 9, none⟩ = false := ⟨frozenOf h 0, frozenOf h 1, frozenOf h 2, frozenOf h 3, frozenOf h 4, frozenOf h 5, frozenOf h 6, frozenOf h 7, frozenOf h 8, frozenOf h 9⟩
/-
  PROVED HERE: what record.Right, Size, Encode and segment.four answer; conditions: lengths that a slice may have.
-/
structure RecP where
 kind : Int
 seq : Int
 body : List UInt8
def recRight (r : RecP) : Bool := decide (r.seq ≤ 1099511627776 ∧ r.body.length ≤ 900 ∧ (r.kind = 1 ∨ r.kind = 2 ∧ r.body.length = 0))
def recHead (r : RecP) : List UInt8 := beI 1 r.kind ++ beI 8 r.seq ++ lenBytes r.body
def recEnc (r : RecP) : List UInt8 := recHead r ++ be4 (crcSum (recHead r))
def recSize (r : RecP) : Nat := if recRight r then 15 + r.body.length else 0
theorem lenBytes_length (bs : List UInt8) : (lenBytes bs).length = 2 + min bs.length 65535 := by unfold lenBytes; rw [List.length_append, beI_length, List.length_take, Nat.min_comm]
theorem recHead_length (r : RecP) : (recHead r).length = 11 + min r.body.length 65535 := by simp only [recHead, List.length_append, beI_length, lenBytes_length]; omega
theorem recEnc_length (r : RecP) : (recEnc r).length = 15 + min r.body.length 65535 := by simp only [recEnc, List.length_append, recHead_length, be4, List.length_cons, List.length_nil]; omega
set_option maxRecDepth 100000 in
theorem right_any (ki se : Int) (A : Option Addr) (n c : Nat) (r : RecP) (w : World) (hk : r.kind = ki) (hs : r.seq = se) (hl : r.body.length = n) (hn : n ≤ 9223372036854775807) :
  Calls Tryz.prog 99 #[.agg #[.int .i64 ki, .int .u64 se, .slice A n c]] w fun e w' => e = .returned (.bool (recRight r)) ∧ New w w' := by
 have hN : ∀ o, New w (w.alloc o) := fun o => (New.refl w).alloc o
 have HN := Lib.hid hN
 clear hN
 have hR : recRight r = decide (se ≤ 1099511627776 ∧ n ≤ 900 ∧ (ki = 1 ∨ ki = 2 ∧ n = 0)) := by unfold recRight; rw [hk, hs, hl]
 rw [hR]
 clear hR hk hs hl
 by_cases h1 : 1099511627776 < se
 ·have hR : decide (se ≤ 1099511627776 ∧ n ≤ 900 ∧ (ki = 1 ∨ ki = 2 ∧ n = 0)) = false := by simp; omega
  rw [hR]
  clear hR
  go_enter Tryz.func99, Tryz.ntmps99
  go_wp2_with fail
  go_ret
  exact ⟨rfl, HN.out _⟩
 ·by_cases h2 : 900 < n
  ·have hR : decide (se ≤ 1099511627776 ∧ n ≤ 900 ∧ (ki = 1 ∨ ki = 2 ∧ n = 0)) = false := by simp; omega
   have h2' : (900 : Int) < n := by omega
   rw [hR]
   clear hR
   go_enter Tryz.func99, Tryz.ntmps99
   go_wp2_with fail
   go_ret
   exact ⟨rfl, HN.out _⟩
  ·have h2' : ¬ (900 : Int) < n := by omega
   by_cases h3 : ki = 1
   ·have hR : decide (se ≤ 1099511627776 ∧ n ≤ 900 ∧ (ki = 1 ∨ ki = 2 ∧ n = 0)) = true := by simp; omega
    rw [hR]
    clear hR
    subst h3
    go_enter Tryz.func99, Tryz.ntmps99
    go_wp2_with fail
    go_ret
    exact ⟨rfl, HN.out _⟩
   ·have h3' : (ki == 1) = false := by simp; omega
    by_cases h4 : ki = 2
    ·subst h4
     by_cases h5 : n = 0
     ·subst h5
      have hR : decide (se ≤ 1099511627776 ∧ 0 ≤ 900 ∧ ((2 : Int) = 1 ∨ (2 : Int) = 2 ∧ 0 = 0)) = true := by simp; omega
      rw [hR]
      clear hR
      go_enter Tryz.func99, Tryz.ntmps99
      go_wp2_with fail
      go_ret
      exact ⟨rfl, HN.out _⟩
     ·have h5' : ((n : Int) == 0) = false := by simp; omega
      have hR : decide (se ≤ 1099511627776 ∧ n ≤ 900 ∧ ((2 : Int) = 1 ∨ (2 : Int) = 2 ∧ n = 0)) = false := by simp; omega
      rw [hR]
      clear hR
      go_enter Tryz.func99, Tryz.ntmps99
      go_wp2_with fail
      go_ret
      exact ⟨rfl, HN.out _⟩
    ·have h4' : (ki == 2) = false := by simp; omega
     have hR : decide (se ≤ 1099511627776 ∧ n ≤ 900 ∧ (ki = 1 ∨ ki = 2 ∧ n = 0)) = false := by simp; omega
     rw [hR]
     clear hR
     go_enter Tryz.func99, Tryz.ntmps99
     go_wp2_with fail
     go_ret
     exact ⟨rfl, HN.out _⟩
theorem own_new (w : World) (t : TypeId) (size n : Nat) (cs : Array Value) (h : cs.size = n * size) (hn : n ≤ maxLen) : Own (w.alloc (.cells cs t)) w.heap.size t size (some ⟨w.heap.size, 0, none⟩) n n cs.toList :=
 ⟨by simpa using h, .inr ⟨w.heap.size, n, cs, rfl, Nat.le_refl _, heap_alloc_new w _, Nat.le_refl _, hn, h, List.take_of_length_le (by simp [h])⟩⟩
theorem ownB_four (w : World) (a b c d : UInt8) : OwnB (w.alloc (.cells #[.int .u8 (bv a), .int .u8 (bv b), .int .u8 (bv c), .int .u8 (bv d)] 5)) w.heap.size 5 (some ⟨w.heap.size, 0, none⟩) 4 4 [a, b, c, d] :=
 own_new w _ 1 4 _ rfl (by decide)
set_option maxRecDepth 100000 in
theorem four_any (x : BitVec 32) (w : World) :
  Calls Tryz.prog 88 #[.int .u32 (wv x)] w fun e w' => (∃ A' c', e = .returned (.slice A' 4 c') ∧ OwnB w' w.heap.size 5 A' 4 c' (be4 x)) ∧ New w w' := by
 go_enter Tryz.func88, Tryz.ntmps88
 go_wp2_with fail
 go_ret
 exact ⟨⟨_, _, rfl, ownB_four w _ _ _ _⟩, (New.refl _).alloc _⟩
set_option maxRecDepth 100000 in
theorem recsum_any (D : Nat → Prop) (A : Option Addr) (n c : Nat) (bs : List UInt8) (w : World) (hB : Bs w D A n bs) (hn : n ≤ 9223372036854775807) :
  Calls Tryz.prog 98 #[.slice A n c] w fun e w' => (∃ A' c', e = .returned (.slice A' 4 c') ∧ OwnB w' w.heap.size 5 A' 4 c' (be4 (crcSum bs))) ∧ New w w' := by
 go_enter Tryz.func98, Tryz.ntmps98
 go_wp2_with fail
 refine (crc_sum D A n c bs w hB hn).mono ?_
 rintro e w1 ⟨rfl, rfl⟩
 go_wp2_with fail
 go_ret
 exact ⟨⟨_, _, rfl, ownB_four w _ _ _ _⟩, (New.refl _).alloc _⟩
set_option maxRecDepth 100000 in
theorem encode_yes (D : Nat → Prop) (A : Option Addr) (n c : Nat) (r : RecP) (w : World) (hB : Bs w D A n r.body) (hnc : n ≤ c) (hn : n ≤ 9223372036854775000) (hs0 : 0 ≤ r.seq) (hs1 : r.seq ≤ 18446744073709551615) (hr : recRight r = true) :
  Calls Tryz.prog 93 #[.agg #[.int .i64 r.kind, .int .u64 r.seq, .slice A n c]] w fun e w' =>
   (∃ A' c', e = .returned (.tuple #[.slice A' (recEnc r).length c', .int .i64 0]) ∧ OwnB w' w.heap.size 5 A' (recEnc r).length c' (recEnc r)) ∧ New w w' := by
 have hl := hB.len
 have HR := Lib.hid (fun w' => right_any r.kind r.seq A n c r w' rfl rfl hl (by omega))
 have hb0 : (w.alloc (.cells #[.int .i64 r.kind, .int .u64 r.seq, .slice A n c] 42)).heap[w.heap.size]? = some (.cells #[.int .i64 r.kind, .int .u64 r.seq, .slice A n c] 42 (0, 0)) := heap_alloc_new w _
 have hK0 : New w (w.alloc (.cells #[.int .i64 r.kind, .int .u64 r.seq, .slice A n c] 42)) := (New.refl w).alloc _
 have HB := Lib.hid hb0
 clear hb0
 have h900 : n ≤ 900 := by unfold recRight at hr; simp at hr; omega
 have HQ := Lib.hid hr
 have HL := Lib.hid hl
 clear hr hl
 go_enter Tryz.func93, Tryz.ntmps93
 go_wp2_with fail
 refine (HR.out _).mono ?_
 rintro e w1 ⟨rfl, hK1⟩
 have hlt : w.heap.size < w1.heap.size := Nat.lt_of_lt_of_le (by simp) hK1.size
 have HB1 := Lib.hid (hK1.blockAt HB.out trivial)
 have hK01 := hK0.new hK1
 clear hK0 hK1
 rw [HQ.out]
 go_wp2_with fail
 refine (newWriter_any _).mono ?_
 rintro e w2 ⟨⟨p, rfl, hW2⟩, hK2⟩
 have HB2 := Lib.hid (hK2.blockAt HB1.out trivial)
 have ck := cellOf HB2.out (k := 0) rfl
 generalize w1.heap.size = base at *
 go_wp2_with fail
 clear ck
 refine (wbyte_any base p _ r.kind w2 hW2 (by simp)).mono ?_
 rintro e w3 ⟨rfl, hW3, hK3⟩
 have HB3 := Lib.hid (hK3.blockAt HB2.out hlt)
 have ck := cellOf HB3.out (k := 1) rfl
 clear hW2
 go_wp2_with fail
 clear ck
 refine (wlong_any base p _ r.seq w3 hW3 hs0 hs1 (by simp [beI_length])).mono ?_
 rintro e w4 ⟨rfl, hW4, hK4⟩
 have HB4 := Lib.hid (hK4.blockAt HB3.out hlt)
 have ck := cellOf HB4.out (k := 2) rfl
 have hK04 : Keep (fun b => b < base) w w4 := ((Keep.of_new (hK01.new hK2)).trans hK3).trans hK4
 have hB4 : Bs w4 (fun b => b < base) A n r.body := (Row.imp hB (E := fun b => b < base) (fun b hb _ => by omega)).keep hK04 (fun b _ h => h)
 clear hW3 hB hK01 hK2 hK3 hK4
 go_wp2_with fail
 clear ck
 refine (wbytes_any base p _ A n c _ r.body w4 hW4 hB4 (fun _ h => h) hnc (by omega) (by simp [beI_length])).mono ?_
 rintro e w5 ⟨rfl, hW5, hK5⟩
 have hK05 := hK04.trans hK5
 replace hW5 : Wr w5 base p (recHead r) := hW5
 have hhl : (recHead r).length ≤ 911 := by rw [recHead_length]; have := HL.out; omega
 clear hW4 hB4 hK04 hK5
 generalize hH : recHead r = H at hW5 hhl
 have HH := Lib.hid hH
 clear hH
 go_wp2_with fail
 refine (done_any base p _ w5 hW5 (by omega)).mono ?_
 rintro e w6 ⟨⟨A6, c6, rfl, hown6⟩, hK6⟩
 go_wp2_with fail
 refine (recsum_any _ A6 _ c6 _ w6 (Row.of_own hown6) (by omega)).mono ?_
 rintro e w7 ⟨⟨A7, c7, rfl, hown7⟩, hK7⟩
 have hW7 := (hW5.keep hK6 (fun _ _ => trivial)).keep hK7 (fun _ _ => trivial)
 have hK07 := (hK05.new hK6).new hK7
 clear hW5 hown6 hK05
 go_wp2_with fail
 refine (raw_any base p _ A7 4 c7 _ _ w7 hW7 (Row.of_own hown7) (by omega)).mono ?_
 rintro e w8 ⟨rfl, hW8, hK8⟩
 have hK08 := hK07.trans hK8
 replace hW8 : Wr w8 base p (recEnc r) := by unfold recEnc; rw [HH.out]; exact hW8
 have hel : (recEnc r).length ≤ 1000 := by rw [recEnc_length]; have := HL.out; omega
 clear hW7 hown7 hK07 hK8
 generalize hE : recEnc r = E at hW8 hel
 have HE := Lib.hid hE
 clear hE
 go_wp2_with fail
 refine (done_any base p _ w8 hW8 (by omega)).mono ?_
 rintro e w9 ⟨⟨A9, c9, rfl, hown9⟩, hK9⟩
 go_wp2_with fail
 go_ret2
 exact ⟨⟨A9, c9, by rw [HE.out]; rfl, by rw [HE.out]; exact own_base hown9 hK08.size⟩, (hK08.toNew (fun i hi => Nat.lt_trans hi hlt)).new hK9⟩
set_option maxRecDepth 100000 in
theorem encode_no (D : Nat → Prop) (A : Option Addr) (n c : Nat) (r : RecP) (w : World) (hB : Bs w D A n r.body) (_hnc : n ≤ c) (hn : n ≤ 9223372036854775000) (_hs0 : 0 ≤ r.seq) (_hs1 : r.seq ≤ 18446744073709551615) (hr : recRight r = false) :
  Calls Tryz.prog 93 #[.agg #[.int .i64 r.kind, .int .u64 r.seq, .slice A n c]] w fun e w' =>
   e = .returned (.tuple #[.slice none 0 0, .int .i64 12]) ∧ New w w' := by
 have hl := hB.len
 have HR := Lib.hid (fun w' => right_any r.kind r.seq A n c r w' rfl rfl hl (by omega))
 have hb0 : (w.alloc (.cells #[.int .i64 r.kind, .int .u64 r.seq, .slice A n c] 42)).heap[w.heap.size]? = some (.cells #[.int .i64 r.kind, .int .u64 r.seq, .slice A n c] 42 (0, 0)) := heap_alloc_new w _
 have hK0 : New w (w.alloc (.cells #[.int .i64 r.kind, .int .u64 r.seq, .slice A n c] 42)) := (New.refl w).alloc _
 have HB := Lib.hid hb0
 clear hb0
 have HQ := Lib.hid hr
 have HL := Lib.hid hl
 clear hr hl
 go_enter Tryz.func93, Tryz.ntmps93
 go_wp2_with fail
 refine (HR.out _).mono ?_
 rintro e w1 ⟨rfl, hK1⟩
 rw [HQ.out]
 go_wp2_with fail
 go_ret2
 exact ⟨rfl, hK0.new hK1⟩
/-
  PROVED HERE: what segment.Fits and segment.Leaves answer; conditions: lengths that a slice may have.
-/
def RecAt (w : World) (D : Nat → Prop) (vs : List Value) (i : Nat) (r : RecP) : Prop :=
 ∃ A c, vs[i]? = some (.int .i64 r.kind) ∧ vs[i + 1]? = some (.int .u64 r.seq) ∧ vs[i + 2]? = some (.slice A r.body.length c) ∧ r.body.length ≤ c ∧ Bs w D A r.body.length r.body ∧ 0 ≤ r.seq ∧ r.seq ≤ 18446744073709551615 ∧ r.body.length ≤ 9223372036854770000 ∧ c ≤ 9223372036854775807
theorem RecAt.keep {w w' : World} {D E : Nat → Prop} {vs : List Value} {i : Nat} {r : RecP} (h : RecAt w D vs i r) (hk : Keep E w w') (hE : ∀ b, b < w.heap.size → D b → E b) : RecAt w' D vs i r := by
 obtain ⟨A, c, h1, h2, h3, h4, h5, h6, h7, h8⟩ := h
 exact ⟨A, c, h1, h2, h3, h4, h5.keep hk hE, h6, h7, h8⟩
theorem RecAt.imp {w : World} {D E : Nat → Prop} {vs : List Value} {i : Nat} {r : RecP} (h : RecAt w D vs i r) (hE : ∀ b, b < w.heap.size → D b → E b) : RecAt w E vs i r := by
 obtain ⟨A, c, h1, h2, h3, h4, h5, h6, h7, h8⟩ := h
 exact ⟨A, c, h1, h2, h3, h4, h5.imp hE, h6, h7, h8⟩
def Recs (w : World) (D : Nat → Prop) (A : Option Addr) (n : Nat) (rs : List RecP) : Prop :=
 ∃ vs : List Value, Row w D A n 3 vs ∧ rs.length = n ∧ ∀ k (h : k < rs.length), RecAt w D vs (k * 3) rs[k]
section
variable {w w' : World} {D E : Nat → Prop} {A : Option Addr} {n : Nat} {rs : List RecP}
theorem Recs.len (h : Recs w D A n rs) : rs.length = n := by obtain ⟨_, _, h, _⟩ := h; exact h
theorem Recs.imp (h : Recs w D A n rs) (hE : ∀ b, b < w.heap.size → D b → E b) : Recs w E A n rs := by
 obtain ⟨vs, h1, h2, h3⟩ := h
 exact ⟨vs, h1.imp hE, h2, fun k hk => (h3 k hk).imp hE⟩
theorem Recs.keep (h : Recs w D A n rs) (hk : Keep E w w') (hE : ∀ b, b < w.heap.size → D b → E b) : Recs w' D A n rs := by
 obtain ⟨vs, h1, h2, h3⟩ := h
 exact ⟨vs, h1.keep hk hE, h2, fun k hk' => (h3 k hk').keep hk hE⟩
theorem Recs.new (h : Recs w D A n rs) (hk : New w w') : Recs w' D A n rs := h.keep hk fun _ _ _ => trivial
theorem Recs.nil (w : World) (D : Nat → Prop) (A : Option Addr) : Recs w D A 0 [] := ⟨[], Row.nil w D A 3, rfl, fun k hk => absurd hk (by simp)⟩
theorem Recs.at_ (h : Recs w D A n rs) {k : Nat} (hk : k < rs.length) :
  ∃ b off A' c', A = some ⟨b, off, none⟩ ∧ w.cell? ⟨b, off + k * 3, none⟩ = some (.int .i64 rs[k].kind) ∧ w.cell? ⟨b, off + k * 3 + 1, none⟩ = some (.int .u64 rs[k].seq) ∧
   w.cell? ⟨b, off + k * 3 + 2, none⟩ = some (.slice A' rs[k].body.length c') ∧ rs[k].body.length ≤ c' ∧ Bs w D A' rs[k].body.length rs[k].body ∧ 0 ≤ rs[k].seq ∧ rs[k].seq ≤ 18446744073709551615 ∧ rs[k].body.length ≤ 9223372036854770000 ∧ c' ≤ 9223372036854775807 := by
 obtain ⟨vs, h1, h2, h3⟩ := h
 obtain ⟨A', c', e1, e2, e3, hc, hb, h5, h6, h7⟩ := h3 k hk
 obtain ⟨b, off, hA, _, _, hcell⟩ := h1.2 (by omega)
 refine ⟨b, off, A', c', hA, hcell _ _ e1, ?_, ?_, hc, hb, h5, h6, h7⟩
 ·rw [Nat.add_assoc]; exact hcell _ _ e2
 ·rw [Nat.add_assoc]; exact hcell _ _ e3
end
def fitsIn : Nat → List RecP → Nat
 | _, [] => 0
 | left, r :: rs => if recRight r = true ∧ recSize r ≤ left then fitsIn (left - recSize r) rs + 1 else 0
theorem fits_step (left k : Nat) (rs : List RecP) (hk : k < rs.length) (hr : recRight rs[k] = true) (hs : recSize rs[k] ≤ left) : fitsIn left (rs.drop k) = fitsIn (left - recSize rs[k]) (rs.drop (k + 1)) + 1 := by
 rw [List.drop_eq_getElem_cons hk, fitsIn, if_pos ⟨hr, hs⟩]
theorem fits_stop (left k : Nat) (rs : List RecP) (hk : k < rs.length) (h : ¬ (recRight rs[k] = true ∧ recSize rs[k] ≤ left)) : fitsIn left (rs.drop k) = 0 := by
 rw [List.drop_eq_getElem_cons hk, fitsIn, if_neg h]
end Go.Proofs.YtfegdgaanmcecaaGreatDoor
/-
  PROVED HERE: from a law's walk to its row: what was read reads as it did; a row of bytes that came in; no condition.
-/
namespace Go.Proofs.YtfegdgaanmcecaaGreatDoor
open Go.ChangeShapes Go.WideShapes Go.ChangeAt Go.RowKit Go.Joins Go.Deep
theorem laid_out : laidOutB Tryz.prog = true := by kernel_rfl
theorem own_knob : ownKnob Tryz.prog.godebug = none := by kernel_rfl
section
variable {H : Type} {enc : TypeId × Value → H} {P : Program} {W W' : World}
theorem trodAll_stays (hl : laidOutB P = true) {sp' : Nat → Bool} : ∀ {ts : List TypeId} {vs : List Value} {ds : List (DataW H)} {ps : List MemPlace}, (ts.all fun t => P.readableRec t && decide (t < P.types.size)) = true →
  DataW.TrodAll enc P W 0 (fun _ => true) true ts vs ds ps → (∀ p ∈ ps, W.sameAt W' p) → (∀ p ∈ ps, sp' p.block = true) → DataW.TrodAll enc P W' 0 sp' true ts vs ds ps
 | [], [], [], _, _, h, _, _ => h
 | t :: ts, v :: vs, d :: ds, ps, hr, h, hs, hp => by
  obtain ⟨p, q, h1, h2, rfl⟩ := h
  simp only [List.all_cons, Bool.and_eq_true, decide_eq_true_eq] at hr
  refine ⟨p, q, WideElems.Trod_stays hl hr.1.1 hr.1.2 h1 (fun x hx => hs x (by simp [hx])) (fun x hx => hp x (by simp [hx])), trodAll_stays hl (by simpa using hr.2) h2 (fun x hx => hs x (by simp [hx])) (fun x hx => hp x (by simp [hx])), rfl⟩
theorem post_of_below {f : Func} {s : ChangeSpec} {apart fresh handsOn again : Bool} {args : Array Value} {v : Value} {ds gs : List (DataW H)} {before pa pv : List MemPlace}
  (hW : DataW.Whole enc P f.params.toList s.vars apart W args.toList ds gs before)
  (hres : ∀ (b : Nat) (sp : Nat → Bool) (hd : Bool), DataW.TrodAll enc P W' b sp hd f.resultTypes.toList (v.resultList f.resultTypes.size) (s.fn H (ds ++ gs)).results [])
  (hargs : ∀ sp : Nat → Bool, (∀ p ∈ before, sp p.block = true) → DataW.TrodAll enc P W' 0 sp true f.params.toList args.toList (s.fn H (ds ++ gs)).args pa)
  (hvars : ∀ sp : Nat → Bool, (∀ p ∈ before, sp p.block = true) → DataW.TrodVars enc P W' sp s.vars (s.fn H (ds ++ gs)).vars pv)
  (hps : before = pa ++ pv) (hb : Below W.heap.size W W')
  (hok : ∀ (j : Nat) (t : TypeId) (r : Value), f.resultTypes[j]? = some t → (v.resultList f.resultTypes.size)[j]? = some r → Value.okWide P W' .any 0 t r) :
  s.post enc P f apart fresh handsOn again W args v W' := by
 have hlt : ∀ p ∈ before, p.block < W.heap.size := fun p hp => hW.lt p hp
 have hold : ∀ p ∈ before, (fun b => decide (b < W.heap.size)) p.block = true := fun p hp => by simpa using hlt p hp
 refine ⟨ds, gs, before, [], pa, pv, hW, hres _ _ _, hargs _ hold, hvars _ hold, World.keptBut_mono (fun p hp => ⟨hp, ?_⟩) (hb.frame (· ∈ before)), fun _ => ?_⟩
 ·rw [hps, List.mem_append] at hp
  exact Or.inr hp
 ·obtain ⟨_, _, _, _, _, hz, hn⟩ := hW
  refine ⟨hok, _, _, ([] ++ pa) ++ pv, ⟨[] ++ pa, pv, trodAll_append (hargs _ (fun _ _ => rfl)) (hres _ _ _), hvars _ (fun _ _ => rfl), rfl, ?_, ?_⟩, ?_⟩
  ·intro b off hp
   have hin : MemPlace.cell b off ∈ before := by rw [hps]; simpa using hp
   rw [hb.frozen (hlt _ hin)]
   exact hz b off hin
  ·intro ha
   have := hn ha
   rw [hps] at this
   simpa using this
  ·intro p hp _
   rw [hps]
   simpa using hp
theorem law_post {f : Func} {s : ChangeSpec} {apart fresh handsOn again : Bool} {args : Array Value} {tb : TypeId} {ds gs : List (DataW H)} {before : List MemPlace}
  (hl : laidOutB P = true) (hts : (f.params.toList.all fun t => P.readableRec t && decide (t < P.types.size)) = true) (hv : s.vars = []) (hrt : f.resultTypes = #[tb]) (htb : P.underlying tb = some .bool)
  (hW : DataW.Whole enc P f.params.toList s.vars apart W args.toList ds gs before)
  (hr : (s.fn H (ds ++ gs)).results = [.lit (.bool true)]) (ha : (s.fn H (ds ++ gs)).args = ds) (hva : (s.fn H (ds ++ gs)).vars = []) (hN : New W W') :
  s.post enc P f apart fresh handsOn again W args (.bool true) W' := by
 have hW' := hW
 obtain ⟨p, q, hA, hV, rfl, hfz, hnd⟩ := hW
 rw [hv] at hV
 have hq : gs = [] ∧ q = [] := by
  cases gs with
  | nil => exact ⟨rfl, hV⟩
  | cons _ _ => exact hV.elim
 obtain ⟨rfl, rfl⟩ := hq
 have hb : Below W.heap.size W W' := hN.below
 refine post_of_below (pa := p) (pv := []) hW' (fun _ _ _ => ?_) (fun sp hsp => ?_) (fun _ _ => ?_) rfl hb ?_
 ·rw [hr, hrt]; exact trodAll_cons_mk (shut_bool htb _) trodAll_mk0
 ·rw [ha]; exact trodAll_stays hl hts hA (fun x hx => hb.same (hW'.lt x (by simp [hx]))) (fun x hx => hsp x (by simp [hx]))
 ·rw [hva, hv]; rfl
 ·exact ok_one hrt rfl (okWide_bool_mk htb _)
end
end Go.Proofs.YtfegdgaanmcecaaGreatDoor
/-
  PROVED HERE: a slice of a law's raw records that came in: how it reads; no condition.
-/
namespace Go.Proofs.YtfegdgaanmcecaaGreatDoor
open Go.ChangeShapes Go.WideShapes Go.ChangeAt Go.RowKit Go.Joins Go.Deep
structure RawP where
 mark : Bool
 body : List UInt8
instance : Inhabited RawP := ⟨⟨false, []⟩⟩
def Raws (w : World) (D : Nat → Prop) (A : Option Addr) (n : Nat) (ls : List RawP) : Prop :=
 ∃ vs : List Value, Row w D A n 2 vs ∧ ls.length = n ∧ ∀ k (h : k < ls.length), ∃ A' c', vs[k * 2]? = some (.bool ls[k].mark) ∧ vs[k * 2 + 1]? = some (.slice A' ls[k].body.length c') ∧ ls[k].body.length ≤ c' ∧ c' ≤ 9223372036854775807 ∧ Bs w D A' ls[k].body.length ls[k].body
section
variable {w w' : World} {D E : Nat → Prop} {A : Option Addr} {n : Nat} {ls : List RawP}
theorem Raws.len (h : Raws w D A n ls) : ls.length = n := by obtain ⟨_, _, h, _⟩ := h; exact h
theorem Raws.keep (h : Raws w D A n ls) (hk : Keep E w w') (hE : ∀ b, b < w.heap.size → D b → E b) : Raws w' D A n ls := by
 obtain ⟨vs, h1, h2, h3⟩ := h
 refine ⟨vs, h1.keep hk hE, h2, fun k hk' => ?_⟩
 obtain ⟨A', c', e1, e2, e3, e4, hb⟩ := h3 k hk'
 exact ⟨A', c', e1, e2, e3, e4, hb.keep hk hE⟩
theorem Raws.new (h : Raws w D A n ls) (hk : New w w') : Raws w' D A n ls := h.keep hk fun _ _ _ => trivial
theorem Raws.imp (h : Raws w D A n ls) (hE : ∀ b, b < w.heap.size → D b → E b) : Raws w E A n ls := by
 obtain ⟨vs, h1, h2, h3⟩ := h
 refine ⟨vs, h1.imp hE, h2, fun k hk' => ?_⟩
 obtain ⟨A', c', e1, e2, e3, e4, hb⟩ := h3 k hk'
 exact ⟨A', c', e1, e2, e3, e4, hb.imp hE⟩
theorem Raws.at_ (h : Raws w D A n ls) {k : Nat} (hk : k < ls.length) :
  ∃ b off A' c', A = some ⟨b, off, none⟩ ∧ w.cell? ⟨b, off + k * 2, none⟩ = some (.bool ls[k].mark) ∧ w.cell? ⟨b, off + k * 2 + 1, none⟩ = some (.slice A' ls[k].body.length c') ∧ ls[k].body.length ≤ c' ∧ c' ≤ 9223372036854775807 ∧ Bs w D A' ls[k].body.length ls[k].body := by
 obtain ⟨vs, h1, h2, h3⟩ := h
 obtain ⟨A', c', e1, e2, hc, h4, hb⟩ := h3 k hk
 obtain ⟨b, off, hA, _, _, hcell⟩ := h1.2 (by omega)
 exact ⟨b, off, A', c', hA, hcell _ _ e1, by rw [Nat.add_assoc]; exact hcell _ _ e2, hc, h4, hb⟩
end
def rawRec (r : RawP) (seq : Int) (most : Nat) : RecP := if r.mark = true then ⟨2, seq, []⟩ else ⟨1, seq, r.body.take most⟩
def rawRecs (first : Int) (most : Nat) (l : List RawP) (k : Nat) : List RecP := (List.range k).map fun i => rawRec (l.getD i default) (IntKind.u64.wrap (first + i)) most
end Go.Proofs.YtfegdgaanmcecaaGreatDoor
/-
  PROVED HERE: what segment.Leaves and slices.Concat answer; conditions: lengths that a slice may have.
-/
namespace Go.Proofs.YtfegdgaanmcecaaGreatDoor
open Go.RowKit
/-! ### rows of rows of bytes that the call made -/
theorem info_bytes : (Tryz.prog.info? 31).map (fun i => (i.zero, i.size, i.bytes)) = some (some (.slice none 0 0), 1, 24) := by kernel_rfl
theorem app_rows {ops : Array Oper} {rest : List Oper} {o : Oper} {a : Act} {Q : Exit → Act → World → Prop} (w : World) (hgd : o.guard = none) (s x : Operand)
  (ho : o.op = .call { callee := .builtin .append, args := #[s, x], argTypes := #[23, 23] })
  (base : Nat) (A : Option Addr) (n c : Nat) (xs : List Value) (hs : a.eval s = .slice A n c) (hown : Own w base 31 1 A n c xs)
  (D : Nat → Prop) (A2 : Option Addr) (m c2 : Nat) (news : List Value) (hx : a.eval x = .slice A2 m c2) (hr : Row w D A2 m 1 news) (h1 : ∀ u ∈ news, u.oneCell' = true)
  (h63 : n + m ≤ 1099511627776) (hbase : base ≤ w.heap.size)
  (h : ∀ A' c' w', Own w' base 31 1 A' (n + m) c' (xs ++ news) → w.grownBy w' (blk A) → (blk A' = blk A ∨ blk A' = some w.heap.size) → wpList Tryz.prog ops Q rest (a.put o.dst (.slice A' (n + m) c')) w') : wpList Tryz.prog ops Q (o :: rest) a w := by
 obtain ⟨i, hi, hz0, hz1, hz2⟩ := info_parts info_bytes
 exact wpList_append_row w hgd s x 23 ho base 31 i (.slice none 0 0) 1 24 Tryz.underlying23 hi hz0 hz1 hz2 rfl (by decide) A n c xs hs hown D A2 m c2 news hx hr h1 (by unfold maxLen; omega) (by omega) hbase h
def OwnBss (w : World) (base : Nat) (D : Nat → Prop) (A : Option Addr) (n c : Nat) (ls : List (List UInt8)) : Prop :=
 ∃ vs : List Value, Own w base 31 1 A n c vs ∧ ls.length = n ∧ ∀ k (h : k < ls.length), ∃ A' c', vs[k]? = some (.slice A' ls[k].length c') ∧ ls[k].length ≤ c' ∧ Bs w (fun b => D b ∧ some b ≠ blk A) A' ls[k].length ls[k]
section
variable {w w' : World} {base base' : Nat} {D E : Nat → Prop} {A : Option Addr} {n c : Nat} {ls : List (List UInt8)}
theorem OwnBss.bss (h : OwnBss w base D A n c ls) : Bss w (fun b => base ≤ b ∨ D b) A n ls := by
 obtain ⟨vs, h1, h2, h3⟩ := h
 refine ⟨vs, (Row.of_own h1).imp (fun _ _ h => .inl h), h2, fun k hk => ?_⟩
 obtain ⟨A', c', e, hc, hb⟩ := h3 k hk
 exact ⟨A', c', e, hc, hb.imp fun _ _ h => .inr h.1⟩
theorem OwnBss.nil (w : World) (base : Nat) (D : Nat → Prop) : OwnBss w base D none 0 0 [] := ⟨[], Own.nil _ _ _ _, rfl, fun k hk => absurd hk (by simp)⟩
theorem OwnBss.new (h : OwnBss w base D A n c ls) (hk : New w w') : OwnBss w' base D A n c ls := by
 obtain ⟨vs, h1, h2, h3⟩ := h
 refine ⟨vs, own_keep h1 hk (fun _ _ => trivial), h2, fun k hk' => ?_⟩
 obtain ⟨A', c', e, hc, hb⟩ := h3 k hk'
 exact ⟨A', c', e, hc, hb.new hk⟩
theorem OwnBss.rebase (h : OwnBss w base' D A n c ls) (hb : base ≤ base') : OwnBss w base D A n c ls := by
 obtain ⟨vs, h1, h2, h3⟩ := h
 exact ⟨vs, own_base h1 hb, h2, h3⟩
theorem OwnBss.imp (h : OwnBss w base D A n c ls) (hE : ∀ b, b < w.heap.size → D b → E b) : OwnBss w base E A n c ls := by
 obtain ⟨vs, h1, h2, h3⟩ := h
 refine ⟨vs, h1, h2, fun k hk' => ?_⟩
 obtain ⟨A', c', e, hc, hb⟩ := h3 k hk'
 exact ⟨A', c', e, hc, hb.imp fun b hb h => ⟨hE b hb h.1, h.2⟩⟩
theorem OwnBss.len (h : OwnBss w base D A n c ls) : ls.length = n := by obtain ⟨_, _, h, _⟩ := h; exact h
theorem OwnBss.cap (h : OwnBss w base D A n c ls) : n ≤ c := by obtain ⟨_, h, _⟩ := h; exact own_cap h
theorem own_capMax {w : World} {base : Nat} {e : TypeId} {size n c : Nat} {A : Option Addr} {xs : List Value} (h : Own w base e size A n c xs) : c ≤ 9223372036854775807 := by
 rcases h.2 with ⟨hv, hn⟩ | ⟨g, cap, cur, hv, hb, hg, h1, h2, h3, h4⟩
 ·injection hv with h5 h6 h7; omega
 ·injection hv with h5 h6 h7; unfold maxLen at h2; omega
theorem OwnBss.capMax (h : OwnBss w base D A n c ls) : c ≤ 9223372036854775807 := by obtain ⟨_, h, _⟩ := h; exact own_capMax h
theorem OwnBss.lt (h : OwnBss w base D A n c ls) : ∀ k, blk A = some k → base ≤ k ∧ k < w.heap.size := by obtain ⟨_, h, _⟩ := h; exact own_lt h
end
theorem own_u8_ne {w : World} {base base' : Nat} {A A' : Option Addr} {n c n' c' : Nat} {xs : List Value} {bs : List UInt8} (h : Own w base 31 1 A n c xs) (hb : OwnB w base' 5 A' n' c' bs) : Bs w (fun b => base' ≤ b ∧ some b ≠ blk A) A' n' bs := by
 have hr := Row.of_own hb
 refine ⟨hr.1, fun hn => ?_⟩
 obtain ⟨b, off, rfl, hd, hlt, hc⟩ := hr.2 hn
 refine ⟨b, off, rfl, ⟨hd, fun e => ?_⟩, hlt, hc⟩
 rcases hb.2 with ⟨hv, _⟩ | ⟨g, cap, cur, hv, _, hg, _⟩
 ·cases hv
 ·injection hv with hA; injection hA with hA; injection hA with hA; subst hA
  rcases h.2 with ⟨hv2, _⟩ | ⟨g2, cap2, cur2, hv2, _, hg2, _⟩
  ·injection hv2 with hA; subst hA; cases e
  ·injection hv2 with hA; subst hA
   have : b = g2 := by injection e
   subst this
   rw [hg] at hg2
   injection hg2 with hg2
   injection hg2 with _ ht
   exact absurd ht (by decide)
theorem OwnBss.apart {w : World} {base base' : Nat} {D : Nat → Prop} {A A' : Option Addr} {n c n' c' : Nat} {ls : List (List UInt8)} {bs : List UInt8} (h : OwnBss w base D A n c ls) (hb : OwnB w base' 5 A' n' c' bs) : Bs w (fun b => base' ≤ b ∧ some b ≠ blk A) A' n' bs := by
 obtain ⟨_, h, _⟩ := h; exact own_u8_ne h hb
theorem row_one (w : World) (t : TypeId) (v : Value) : Row (w.alloc (.cells #[v] t)) (fun b => w.heap.size ≤ b) (some ⟨w.heap.size, 0, none⟩) 1 1 [v] := Row.made w t #[v] 1 1 rfl
theorem app_bss {ops : Array Oper} {rest : List Oper} {o : Oper} {a : Act} {Q : Exit → Act → World → Prop} (w : World) (hgd : o.guard = none) (s x : Operand)
  (ho : o.op = .call { callee := .builtin .append, args := #[s, x], argTypes := #[23, 23] })
  (base : Nat) (D : Nat → Prop) (A : Option Addr) (n c : Nat) (ls : List (List UInt8)) (hs : a.eval s = .slice A n c) (hown : OwnBss w base D A n c ls)
  (D2 : Nat → Prop) (A2 : Option Addr) (c2 : Nat) (A' : Option Addr) (m c' : Nat) (y : List UInt8) (hx : a.eval x = .slice A2 1 c2) (hr : Row w D2 A2 1 1 [.slice A' m c']) (hy : Bs w (fun b => D b ∧ some b ≠ blk A) A' m y) (hmc : m ≤ c')
  (h63 : n + 1 ≤ 1099511627776) (hbase : base ≤ w.heap.size)
  (h : ∀ A3 c3 w3, OwnBss w3 base D A3 (n + 1) c3 (ls ++ [y]) → w.grownBy w3 (blk A) → (blk A3 = blk A ∨ blk A3 = some w.heap.size) → wpList Tryz.prog ops Q rest (a.put o.dst (.slice A3 (n + 1) c3)) w3) : wpList Tryz.prog ops Q (o :: rest) a w := by
 obtain ⟨vs, h1, h2, h3⟩ := hown
 refine app_rows w hgd s x ho base A n c vs hs h1 D2 A2 1 c2 [.slice A' m c'] hx hr (by intro u hu; simp at hu; subst hu; rfl) h63 hbase ?_
 intro A3 c3 w3 hown3 hg3 hbk3
 refine h A3 c3 w3 ⟨vs ++ [.slice A' m c'], hown3, by simp [h2], fun k hk => ?_⟩ hg3 hbk3
 have hvl : vs.length = n := by have := h1.1; simpa using this
 have hyl := hy.len
 have move : ∀ {A0 : Option Addr} {m0 : Nat} {z : List UInt8}, Bs w (fun b => D b ∧ some b ≠ blk A) A0 m0 z → Bs w3 (fun b => D b ∧ some b ≠ blk A3) A0 m0 z := fun {A0 m0 z} hb => by
  have hk3 : Keep (fun b => some b ≠ blk A) w w3 := (Keep.refl _ w).grown hg3 (fun k hk hd => absurd hk.symm hd)
  have hb3 : Bs w (fun b => (D b ∧ some b ≠ blk A) ∧ some b ≠ blk A3) A0 m0 z := hb.imp fun b hlt hd => ⟨hd, by
   rcases hbk3 with e | e
   ·rw [e]; exact hd.2
   ·rw [e]; intro e'; injection e'; omega⟩
  exact (Row.keep hb3 hk3 (fun b _ hd => hd.1.2)).imp fun b _ hd => ⟨hd.1.1, hd.2⟩
 by_cases hkn : k < ls.length
 ·rw [List.getElem_append_left hkn]
  obtain ⟨A0, c0, e, hc, hb⟩ := h3 k hkn
  exact ⟨A0, c0, by rw [List.getElem?_append_left (by omega)]; exact e, hc, move hb⟩
 ·have hk' : k = ls.length := by simp at hk; omega
  subst hk'
  rw [List.getElem_append_right (Nat.le_refl _)]
  simp only [Nat.sub_self, List.getElem_singleton]
  refine ⟨A', c', by rw [List.getElem?_append_right (by omega), show ls.length - vs.length = 0 from by omega, hyl]; rfl, by omega, ?_⟩
  have := move hy
  rwa [← hyl] at this
def leavesOf (rs : List RecP) : List (List UInt8) := rs.map fun r => if recRight r = true then recEnc r else []
theorem leaves_take (rs : List RecP) (k : Nat) (hk : k < rs.length) : leavesOf (rs.take (k + 1)) = leavesOf (rs.take k) ++ [if recRight rs[k] = true then recEnc rs[k] else []] := by
 unfold leavesOf; rw [List.take_succ_eq_append_getElem hk, List.map_append]; rfl
set_option maxRecDepth 100000 in
set_option maxHeartbeats 2000000 in
theorem leaves_any (D : Nat → Prop) (A : Option Addr) (n c : Nat) (rs : List RecP) (w : World) (hB : Recs w D A n rs) (hn : n ≤ 1099511620000) :
  Calls Tryz.prog 35 #[.slice A n c] w fun e w' => (∃ A' c', e = .returned (.slice A' n c') ∧ OwnBss w' w.heap.size (fun b => w.heap.size ≤ b) A' n c' (leavesOf rs)) ∧ New w w' := by
 have hl := hB.len
 have HB := Lib.hid hB
 clear hB
 go_enter Tryz.func35, Tryz.ntmps35
 go_wp2_with fail
 go_loopw [3, 10] (fun s3 i wx => ∃ (k : Nat) (A' : Option Addr) (c' : Nat), k ≤ n ∧ i = .int .i64 (k : Int) ∧ s3 = .slice A' k c' ∧ OwnBss wx w.heap.size (fun b => w.heap.size ≤ b) A' k c' (leavesOf (rs.take k)) ∧ New w wx) (fun _ i _ => n - (intOf i).toNat)
 case atStart => exact ⟨0, none, 0, Nat.zero_le _, rfl, rfl, OwnBss.nil _ _ _, New.refl _⟩
 case round =>
  obtain ⟨k, A1, c1, hk, rfl, rfl, hown, hK⟩ := hrel
  by_cases hlt : k < n
  ·obtain ⟨b, off, A', c', rfl, h1, h2, h3, hc', hb, hs0, hs1, hc9⟩ := (HB.out.new hK).at_ (k := k) (by omega)
   have HLT := Lib.hid (leaves_take rs k (by omega))
   generalize rs[k]'_ = r at *
   have hK0 : New w (wr.alloc (.cells #[.int .i64 r.kind, .int .u64 r.seq, .slice A' r.body.length c'] 42)) := hK.alloc _
   have hN0 : New wr (wr.alloc (.cells #[.int .i64 r.kind, .int .u64 r.seq, .slice A' r.body.length c'] 42)) := (New.refl wr).alloc _
   by_cases hr : recRight r = true
   ·have HE := Lib.hid (encode_yes D A' r.body.length c' r _ (hb.new hN0) hc' (by omega) hs0 hs1 hr)
    rw [if_pos hr] at HLT
    clear hb hc' hs0 hs1 hr
    go_wp2_with fail
    refine HE.out.mono ?_
    rintro e w1 ⟨⟨A2, c2, rfl, hown2⟩, hK1⟩
    have hN1 := hN0.new hK1
    have hown1 := hown.new hN1
    have hK01 := hK.new hN1
    have hge : w.heap.size ≤ (wr.alloc (.cells #[.int .i64 r.kind, .int .u64 r.seq, .slice A' r.body.length c'] 42)).heap.size := hK0.size
    have hy := (Row.imp (hown1.apart hown2) (E := fun b => w.heap.size ≤ b ∧ some b ≠ blk A1) (fun b _ h => ⟨Nat.le_trans hge h.1, h.2⟩)).alloc (.cells #[.slice A2 (recEnc r).length c2] 31)
    have hmc := own_cap hown2
    have hown1' := hown1.new ((New.refl w1).alloc (.cells #[.slice A2 (recEnc r).length c2] 31))
    have hrow := row_one w1 31 (.slice A2 (recEnc r).length c2)
    have hbd : k + 1 ≤ 1099511627776 := by omega
    have hsz : w.heap.size ≤ (w1.alloc (.cells #[.slice A2 (recEnc r).length c2] 31)).heap.size := (hK01.alloc _).size
    clear hown hK hN1 hN0 hK0 hK1 h1 h2 h3 HE hown2 hge
    go_wp2_with (at_builtin; refine app_bss _ rfl (.tmp 19) (.tmp 21) rfl w.heap.size (fun b => w.heap.size ≤ b) A1 k c1 _ rfl hown1' (fun g => w1.heap.size ≤ g) _ 1 A2 _ c2 _ rfl hrow hy hmc hbd hsz ?_; intro A3 c3 w3 hown3 hg3 hbk3)
    have hK3 := (hK01.alloc (.cells #[.slice A2 (recEnc r).length c2] 31)).grown hg3 (fun k hk _ => (hown1.lt k hk).1)
    clear hown1 hown1' hrow hy hmc hg3 hbk3 hK01 hsz
    go_roundw
    case rel => exact ⟨k + 1, _, _, by omega, by go_num, rfl, by rw [HLT.out]; exact hown3, hK3⟩
    case measure => simp [intOf]; omega
   ·have hr' : recRight r = false := by simpa using hr
    have HE := Lib.hid (encode_no D A' r.body.length c' r _ (hb.new hN0) hc' (by omega) hs0 hs1 hr')
    rw [if_neg hr] at HLT
    clear hb hc' hs0 hs1 hr hr'
    go_wp2_with fail
    refine HE.out.mono ?_
    rintro e w1 ⟨rfl, hK1⟩
    have hN1 := hN0.new hK1
    have hown1 := hown.new hN1
    have hK01 := hK.new hN1
    have hy : Bs (w1.alloc (.cells #[.slice none 0 0] 31)) (fun b => w.heap.size ≤ b ∧ some b ≠ blk A1) none 0 [] := Row.nil _ _ _ _
    have hown1' := hown1.new ((New.refl w1).alloc (.cells #[.slice none 0 0] 31))
    have hrow := row_one w1 31 (.slice none 0 0)
    have hbd : k + 1 ≤ 1099511627776 := by omega
    have hsz : w.heap.size ≤ (w1.alloc (.cells #[.slice none 0 0] 31)).heap.size := (hK01.alloc _).size
    clear hown hK hN1 hN0 hK0 hK1 h1 h2 h3 HE
    go_wp2_with (at_builtin; refine app_bss _ rfl (.tmp 19) (.tmp 21) rfl w.heap.size (fun b => w.heap.size ≤ b) A1 k c1 _ rfl hown1' (fun g => w1.heap.size ≤ g) _ 1 none _ 0 _ rfl hrow hy (Nat.le_refl _) hbd hsz ?_; intro A3 c3 w3 hown3 hg3 hbk3)
    have hK3 := (hK01.alloc (.cells #[.slice none 0 0] 31)).grown hg3 (fun k hk _ => (hown1.lt k hk).1)
    clear hown1 hown1' hrow hy hg3 hbk3 hK01 hsz
    go_roundw
    case rel => exact ⟨k + 1, _, _, by omega, by go_num, rfl, by rw [HLT.out]; exact hown3, hK3⟩
    case measure => simp [intOf]; omega
  ·obtain rfl : k = n := by omega
   rw [List.take_of_length_le (by omega)] at hown
   go_wp2_with fail
   go_ret
   exact ⟨⟨_, _, rfl, hown⟩, hK⟩
end Go.Proofs.YtfegdgaanmcecaaGreatDoor
