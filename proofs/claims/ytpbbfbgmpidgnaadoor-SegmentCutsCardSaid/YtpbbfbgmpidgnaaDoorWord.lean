/-
  PROVED HERE: plain lemmas on 32-bit words in the walk's forms; no condition; no program is named.
-/
import Derived.Test.YtpbbfbgmpidgnaaDoorMem
namespace Go.Proofs.YtpbbfbgmpidgnaaDoor
open Go.RowKit

def wv (x : BitVec 32) : Int := x.toNat
theorem wv_bd (x : BitVec 32) : 0 ≤ wv x ∧ wv x ≤ 4294967295 := by have := x.isLt; unfold wv; omega
theorem wv_inj {x y : BitVec 32} (h : wv x = wv y) : x = y := by unfold wv at h; exact BitVec.eq_of_toNat_eq (by omega)
def bw (b : UInt8) : BitVec 32 := BitVec.ofNat 32 b.toNat
theorem bv_wv (b : UInt8) : bv b = wv (bw b) := by
  unfold bv wv bw; have := b.toNat_lt; rw [BitVec.toNat_ofNat, Nat.mod_eq_of_lt (by omega)]
@[go_sem] theorem wv_xor (x y : BitVec 32) : bits .xor .u32 (wv x) (wv y) = wv (x ^^^ y) := by
  unfold wv; rw [u32_xor_nat _ _ x.isLt y.isLt, BitVec.toNat_xor]
@[go_sem] theorem wv_and (x y : BitVec 32) : bits .and .u32 (wv x) (wv y) = wv (x &&& y) := by
  unfold wv; rw [u32_and_nat _ _ x.isLt y.isLt, BitVec.toNat_and]
@[go_sem] theorem wv_or (x y : BitVec 32) : bits .or .u32 (wv x) (wv y) = wv (x ||| y) := by
  unfold wv; rw [u32_or_nat _ _ x.isLt y.isLt, BitVec.toNat_or]
@[go_sem] theorem wv_and1 (x : BitVec 32) : bits .and .u32 (wv x) 1 = wv (x &&& 1#32) := wv_and x 1#32
@[go_sem] theorem wv_xorp (x : BitVec 32) : bits .xor .u32 (wv x) 3988292384 = wv (x ^^^ 3988292384#32) := wv_xor x 3988292384#32
@[go_sem] theorem wv_xorf (x : BitVec 32) : bits .xor .u32 (wv x) 4294967295 = wv (~~~x) := by
  have h : (4294967295 : Int) = wv (BitVec.allOnes 32) := by decide
  rw [h, wv_xor, BitVec.xor_allOnes]
@[go_sem] theorem wv_not (x : BitVec 32) : bits .xor .u32 IntKind.u32.max (wv x) = wv (~~~x) := by
  have h : IntKind.u32.max = wv (BitVec.allOnes 32) := by decide
  rw [h, wv_xor, BitVec.allOnes_xor]
@[go_sem] theorem wv_not' (x : BitVec 32) : bits .xor .u32 (if IntKind.u32.signed = true then -1 else IntKind.u32.max) (wv x) = wv (~~~x) := wv_not x
@[go_sem] theorem wv_xorb (x : BitVec 32) (b : UInt8) : bits .xor .u32 (wv x) (bv b) = wv (x ^^^ bw b) := by rw [bv_wv, wv_xor]
@[go_sem] theorem wv_orb (x : BitVec 32) (b : UInt8) : bits .or .u32 (wv x) (bv b) = wv (x ||| bw b) := by rw [bv_wv, wv_or]
theorem wv_div (x : BitVec 32) (n : Nat) : wv x / ((2 ^ n : Nat) : Int) = wv (x >>> n) := by
  unfold wv; rw [BitVec.toNat_ushiftRight, Nat.shiftRight_eq_div_pow]; exact (Int.natCast_ediv _ _).symm
theorem wv_shl_ (x : BitVec 32) (n : Nat) : IntKind.u32.wrap (wv x * ((2 ^ n : Nat) : Int)) = wv (x <<< n) := by
  unfold wv
  rw [IntKind.wrap_u32, BitVec.toNat_shiftLeft, Nat.shiftLeft_eq, ← Int.natCast_mul]
  exact (Int.natCast_emod _ _).symm
theorem shr_at (x : BitVec 32) (yk : IntKind) (n : Nat) (hn : n ≤ 32) : Op.shift .shr .u32 (wv x) yk (n : Int) = pure (.int .u32 (wv (x >>> n))) :=
  (shift_shr_u32 (x := wv x) (yk := yk) (y := (n : Int)) (by omega) (by omega)).trans (congrArg (fun z => pure (Value.int .u32 z)) (by rw [Int.toNat_natCast, ← wv_div]; simp))
theorem shl_at (x : BitVec 32) (yk : IntKind) (n : Nat) (hn : n ≤ 32) : Op.shift .shl .u32 (wv x) yk (n : Int) = pure (.int .u32 (wv (x <<< n))) :=
  (shift_shl_u32 (x := wv x) (yk := yk) (y := (n : Int)) (by omega) (by omega)).trans (congrArg (fun z => pure (Value.int .u32 z)) (by rw [Int.toNat_natCast, ← wv_shl_]; simp))
@[go_sem ↓] theorem wv_shr1 (x : BitVec 32) (yk : IntKind) : Op.shift .shr .u32 (wv x) yk 1 = pure (.int .u32 (wv (x >>> 1))) := shr_at x yk 1 (by decide)
@[go_sem ↓] theorem wv_shr2 (x : BitVec 32) (yk : IntKind) : Op.shift .shr .u32 (wv x) yk 2 = pure (.int .u32 (wv (x >>> 2))) := shr_at x yk 2 (by decide)
@[go_sem ↓] theorem wv_shr3 (x : BitVec 32) (yk : IntKind) : Op.shift .shr .u32 (wv x) yk 3 = pure (.int .u32 (wv (x >>> 3))) := shr_at x yk 3 (by decide)
@[go_sem ↓] theorem wv_shr6 (x : BitVec 32) (yk : IntKind) : Op.shift .shr .u32 (wv x) yk 6 = pure (.int .u32 (wv (x >>> 6))) := shr_at x yk 6 (by decide)
@[go_sem ↓] theorem wv_shr7 (x : BitVec 32) (yk : IntKind) : Op.shift .shr .u32 (wv x) yk 7 = pure (.int .u32 (wv (x >>> 7))) := shr_at x yk 7 (by decide)
@[go_sem ↓] theorem wv_shr8 (x : BitVec 32) (yk : IntKind) : Op.shift .shr .u32 (wv x) yk 8 = pure (.int .u32 (wv (x >>> 8))) := shr_at x yk 8 (by decide)
@[go_sem ↓] theorem wv_shr10 (x : BitVec 32) (yk : IntKind) : Op.shift .shr .u32 (wv x) yk 10 = pure (.int .u32 (wv (x >>> 10))) := shr_at x yk 10 (by decide)
@[go_sem ↓] theorem wv_shr11 (x : BitVec 32) (yk : IntKind) : Op.shift .shr .u32 (wv x) yk 11 = pure (.int .u32 (wv (x >>> 11))) := shr_at x yk 11 (by decide)
@[go_sem ↓] theorem wv_shr13 (x : BitVec 32) (yk : IntKind) : Op.shift .shr .u32 (wv x) yk 13 = pure (.int .u32 (wv (x >>> 13))) := shr_at x yk 13 (by decide)
@[go_sem ↓] theorem wv_shr16 (x : BitVec 32) (yk : IntKind) : Op.shift .shr .u32 (wv x) yk 16 = pure (.int .u32 (wv (x >>> 16))) := shr_at x yk 16 (by decide)
@[go_sem ↓] theorem wv_shr17 (x : BitVec 32) (yk : IntKind) : Op.shift .shr .u32 (wv x) yk 17 = pure (.int .u32 (wv (x >>> 17))) := shr_at x yk 17 (by decide)
@[go_sem ↓] theorem wv_shr18 (x : BitVec 32) (yk : IntKind) : Op.shift .shr .u32 (wv x) yk 18 = pure (.int .u32 (wv (x >>> 18))) := shr_at x yk 18 (by decide)
@[go_sem ↓] theorem wv_shr19 (x : BitVec 32) (yk : IntKind) : Op.shift .shr .u32 (wv x) yk 19 = pure (.int .u32 (wv (x >>> 19))) := shr_at x yk 19 (by decide)
@[go_sem ↓] theorem wv_shr22 (x : BitVec 32) (yk : IntKind) : Op.shift .shr .u32 (wv x) yk 22 = pure (.int .u32 (wv (x >>> 22))) := shr_at x yk 22 (by decide)
@[go_sem ↓] theorem wv_shr24 (x : BitVec 32) (yk : IntKind) : Op.shift .shr .u32 (wv x) yk 24 = pure (.int .u32 (wv (x >>> 24))) := shr_at x yk 24 (by decide)
@[go_sem ↓] theorem wv_shr25 (x : BitVec 32) (yk : IntKind) : Op.shift .shr .u32 (wv x) yk 25 = pure (.int .u32 (wv (x >>> 25))) := shr_at x yk 25 (by decide)
@[go_sem ↓] theorem wv_shl8 (x : BitVec 32) (yk : IntKind) : Op.shift .shl .u32 (wv x) yk 8 = pure (.int .u32 (wv (x <<< 8))) := shl_at x yk 8 (by decide)
@[go_sem ↓] theorem wv_shl16 (x : BitVec 32) (yk : IntKind) : Op.shift .shl .u32 (wv x) yk 16 = pure (.int .u32 (wv (x <<< 16))) := shl_at x yk 16 (by decide)
@[go_sem ↓] theorem wv_shl24 (x : BitVec 32) (yk : IntKind) : Op.shift .shl .u32 (wv x) yk 24 = pure (.int .u32 (wv (x <<< 24))) := shl_at x yk 24 (by decide)
@[go_sem ↓] theorem wv_shl30 (x : BitVec 32) (yk : IntKind) : Op.shift .shl .u32 (wv x) yk 30 = pure (.int .u32 (wv (x <<< 30))) := shl_at x yk 30 (by decide)
@[go_sem ↓] theorem wv_shl26 (x : BitVec 32) (yk : IntKind) : Op.shift .shl .u32 (wv x) yk 26 = pure (.int .u32 (wv (x <<< 26))) := shl_at x yk 26 (by decide)
@[go_sem ↓] theorem wv_shl25 (x : BitVec 32) (yk : IntKind) : Op.shift .shl .u32 (wv x) yk 25 = pure (.int .u32 (wv (x <<< 25))) := shl_at x yk 25 (by decide)
@[go_sem ↓] theorem wv_shl21 (x : BitVec 32) (yk : IntKind) : Op.shift .shl .u32 (wv x) yk 21 = pure (.int .u32 (wv (x <<< 21))) := shl_at x yk 21 (by decide)
@[go_sem ↓] theorem wv_shl19 (x : BitVec 32) (yk : IntKind) : Op.shift .shl .u32 (wv x) yk 19 = pure (.int .u32 (wv (x <<< 19))) := shl_at x yk 19 (by decide)
@[go_sem ↓] theorem wv_shl15 (x : BitVec 32) (yk : IntKind) : Op.shift .shl .u32 (wv x) yk 15 = pure (.int .u32 (wv (x <<< 15))) := shl_at x yk 15 (by decide)
@[go_sem ↓] theorem wv_shl14 (x : BitVec 32) (yk : IntKind) : Op.shift .shl .u32 (wv x) yk 14 = pure (.int .u32 (wv (x <<< 14))) := shl_at x yk 14 (by decide)
@[go_sem ↓] theorem wv_shl13 (x : BitVec 32) (yk : IntKind) : Op.shift .shl .u32 (wv x) yk 13 = pure (.int .u32 (wv (x <<< 13))) := shl_at x yk 13 (by decide)
@[go_sem ↓] theorem wv_shl10 (x : BitVec 32) (yk : IntKind) : Op.shift .shl .u32 (wv x) yk 10 = pure (.int .u32 (wv (x <<< 10))) := shl_at x yk 10 (by decide)
@[go_sem ↓] theorem wv_shl7 (x : BitVec 32) (yk : IntKind) : Op.shift .shl .u32 (wv x) yk 7 = pure (.int .u32 (wv (x <<< 7))) := shl_at x yk 7 (by decide)
@[go_sem ↓] theorem bv_shl8 (b : UInt8) (yk : IntKind) : Op.shift .shl .u32 (bv b) yk 8 = pure (.int .u32 (wv (bw b <<< 8))) := by rw [bv_wv]; exact shl_at _ yk 8 (by decide)
@[go_sem ↓] theorem bv_shl16 (b : UInt8) (yk : IntKind) : Op.shift .shl .u32 (bv b) yk 16 = pure (.int .u32 (wv (bw b <<< 16))) := by rw [bv_wv]; exact shl_at _ yk 16 (by decide)
@[go_sem ↓] theorem bv_shl24 (b : UInt8) (yk : IntKind) : Op.shift .shl .u32 (bv b) yk 24 = pure (.int .u32 (wv (bw b <<< 24))) := by rw [bv_wv]; exact shl_at _ yk 24 (by decide)
@[go_sem] theorem wv_add (x y : BitVec 32) : IntKind.u32.wrap (wv x + wv y) = wv (x + y) := by
  unfold wv; rw [IntKind.wrap_u32, BitVec.toNat_add]; omega
@[go_sem] theorem wv_add' (x y : BitVec 32) : (wv x + wv y) % 4294967296 = wv (x + y) := by rw [← wv_add, IntKind.wrap_u32]
@[go_sem] theorem bv_mod32 (b : UInt8) : bv b % 4294967296 = bv b := by have := bv_bd b; omega
@[go_sem] theorem bv_wrap32 (b : UInt8) : IntKind.u32.wrap (bv b) = bv b := by rw [IntKind.wrap_u32, bv_mod32]
@[go_sem] theorem wv_eq1 (x : BitVec 32) : (wv x == 1) = decide (x = 1#32) := by
  have h : (1 : Int) = wv 1#32 := rfl
  rw [h]
  by_cases e : x = 1#32
  · subst e; rfl
  · have : wv x ≠ wv 1#32 := fun e' => e (wv_inj e')
    simp only [e, decide_false, beq_eq_false_iff_ne, ne_eq, this, not_false_eq_true]
@[go_sem] theorem wv_or0b (b : UInt8) : bits .or .u32 0 (bv b) = wv (bw b) := by
  have h : (0 : Int) = wv 0#32 := rfl
  rw [h, wv_orb, BitVec.zero_or]
@[go_sem] theorem wv_bor (b : UInt8) (y : BitVec 32) : bits .or .u32 (bv b) (wv y) = wv (bw b ||| y) := by rw [bv_wv, wv_or]
/-- four bytes as a word, the highest first. -/
def word4 (a b c d : UInt8) : BitVec 32 := bw a <<< 24 ||| bw b <<< 16 ||| bw c <<< 8 ||| bw d
theorem word4_rev (a b c d : UInt8) : bw d ||| bw c <<< 8 ||| bw b <<< 16 ||| bw a <<< 24 = word4 a b c d := by
  unfold word4
  apply BitVec.eq_of_getLsbD_eq
  intro i _
  simp only [BitVec.getLsbD_or]
  cases (bw d).getLsbD i <;> cases (bw c <<< 8).getLsbD i <;> cases (bw b <<< 16).getLsbD i <;> cases (bw a <<< 24).getLsbD i <;> rfl
/-- a word's lowest byte. -/
def lowb (x : BitVec 32) : UInt8 := UInt8.ofNat (x.toNat % 256)
@[go_sem] theorem wv_low (x : BitVec 32) : wv x % 256 = bv (lowb x) := by
  unfold wv bv lowb
  rw [UInt8.toNat_ofNat_of_lt' (Nat.mod_lt _ (by decide))]
  simp
@[go_sem] theorem wv_low8 (x : BitVec 32) : IntKind.u8.wrap (wv x) = bv (lowb x) := by rw [← wv_low]; simp [IntKind.wrap, IntKind.bits, IntKind.signed]
/-- a word's four bytes, the highest first. -/
def be4 (x : BitVec 32) : List UInt8 := [lowb (x >>> 24), lowb (x >>> 16), lowb (x >>> 8), lowb x]
def rotr (x : BitVec 32) (n : Nat) : BitVec 32 := (x <<< (32 - n)) ||| (x >>> n)
end Go.Proofs.YtpbbfbgmpidgnaaDoor
