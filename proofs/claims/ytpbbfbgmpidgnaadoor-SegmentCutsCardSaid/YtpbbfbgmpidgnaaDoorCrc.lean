/-
  PROVED HERE: what the program's CRC-32 answers: the plain function 'crcMore'; condition: a length below 2^63.
-/
import Derived.Test.YtpbbfbgmpidgnaaDoorBase
import Derived.Test.YtpbbfbgmpidgnaaDoorWord
import Derived.Lib.Hide
namespace Go.Proofs.YtpbbfbgmpidgnaaDoor
open Go.RowKit

def crcBit (c : BitVec 32) : BitVec 32 := if c &&& 1#32 = 1#32 then (c >>> 1) ^^^ 3988292384#32 else c >>> 1
def crcBits : Nat → BitVec 32 → BitVec 32
  | 0, c => c
  | n + 1, c => crcBit (crcBits n c)
def crcByte (c : BitVec 32) (b : UInt8) : BitVec 32 := crcBits 8 (c ^^^ bw b)
def crcTo (c : BitVec 32) (bs : List UInt8) (k : Nat) : BitVec 32 := (bs.take k).foldl crcByte c
theorem crcTo_succ (c : BitVec 32) (bs : List UInt8) (k : Nat) (hk : k < bs.length) : crcTo c bs (k + 1) = crcByte (crcTo c bs k) bs[k] := by
  unfold crcTo; rw [List.take_succ_eq_append_getElem hk, List.foldl_append]; rfl
def crcMore (c : BitVec 32) (bs : List UInt8) : BitVec 32 := ~~~(bs.foldl crcByte (~~~c))
def crcSum (bs : List UInt8) : BitVec 32 := crcMore 0#32 bs

set_option maxRecDepth 100000 in
theorem crc_more (D : Nat → Prop) (c : BitVec 32) (A : Option Addr) (n cap : Nat) (bs : List UInt8) (w : World) (hB : Bs w D A n bs) (hn : n ≤ 9223372036854775807) :
    Calls Tryd.prog 72 #[.int .u32 (wv c), .slice A n cap] w fun e w' => e = .returned (.int .u32 (wv (crcMore c bs))) ∧ w = w' := by
  have hl := hB.len
  have HL := Lib.hid hl
  clear hl
  go_enter Tryd.func72, Tryd.ntmps72
  go_wp2
  go_loop [0, 12] (fun c' i => ∃ k : Nat, k ≤ n ∧ i = .int .i64 k ∧ c' = .int .u32 (wv (crcTo (~~~c) bs k))) (fun _ i => n - (intOf i).toNat)
  case atStart => exact ⟨0, Nat.zero_le _, rfl, rfl⟩
  case round =>
    obtain ⟨k, hk, rfl, rfl⟩ := hrel
    by_cases hlt : k < n
    · have hb : k < bs.length := by rw [HL.out]; exact hlt
      obtain ⟨b, off, rfl, _, _, hc⟩ := hB.cellAt (by omega)
      have hck := hc k hb
      have hS := Lib.hid (crcTo_succ (~~~c) bs k hb)
      clear hc hB
      generalize bs[k]'_ = x at hck hS
      clear hb
      go_wp2
      go_loop [0, 20] (fun c' i => ∃ j : Nat, j ≤ 8 ∧ i = .int .i64 j ∧ c' = .int .u32 (wv (crcBits j (crcTo (~~~c) bs k ^^^ bw x)))) (fun _ i => 8 - (intOf i).toNat)
      case atStart => exact ⟨0, Nat.zero_le _, rfl, rfl⟩
      case round =>
        obtain ⟨j, hj, rfl, rfl⟩ := hrel
        by_cases hlt8 : j < 8
        · by_cases hbit : crcBits j (crcTo (~~~c) bs k ^^^ bw x) &&& 1#32 = 1#32
          · go_wp2
            go_round
            case rel => exact ⟨j + 1, by omega, by go_num, by show _ = Value.int .u32 (wv (crcBit _)); unfold crcBit; rw [if_pos hbit]⟩
            case measure => simp [intOf]; omega
          · go_wp2
            go_round
            case rel => exact ⟨j + 1, by omega, by go_num, by show _ = Value.int .u32 (wv (crcBit _)); unfold crcBit; rw [if_neg hbit]⟩
            case measure => simp [intOf]; omega
        · obtain rfl : j = 8 := by omega
          go_wp2
          go_round
          case rel => exact ⟨k + 1, by omega, by go_num, by rw [hS.out]; rfl⟩
          case measure => simp [intOf]; omega
    · obtain rfl : k = n := by omega
      go_wp2
      go_ret
      refine ⟨?_, rfl⟩
      have e : crcTo (~~~c) bs k = bs.foldl crcByte (~~~c) := by unfold crcTo; rw [List.take_of_length_le (by rw [HL.out]; exact Nat.le_refl _)]
      show Ending.returned (Value.int .u32 (wv (~~~(crcTo (~~~c) bs k)))) = _
      rw [e]; rfl
set_option maxRecDepth 100000 in
theorem crc_sum (D : Nat → Prop) (A : Option Addr) (n cap : Nat) (bs : List UInt8) (w : World) (hB : Bs w D A n bs) (hn : n ≤ 9223372036854775807) :
    Calls Tryd.prog 38 #[.slice A n cap] w fun e w' => e = .returned (.int .u32 (wv (crcSum bs))) ∧ w = w' := by
  go_enter Tryd.func38, Tryd.ntmps38
  go_wp2_with fail
  refine (crc_more D 0#32 A n cap bs w hB hn).mono ?_
  rintro e w' ⟨rfl, rfl⟩
  go_wp2
  go_ret
  exact ⟨rfl, rfl⟩
end Go.Proofs.YtpbbfbgmpidgnaaDoor
