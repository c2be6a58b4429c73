/-
  PROVED HERE: texts that belong together, one behind the other; what each proves, and under which conditions, its own opening remark says: Rot, ShaSpec.
-/
import Derived.Test.YtfegdgaanmcecaaGreatDoorPkK00
/-
  PROVED HERE: what bits.RotateLeft32 answers at the counts that the program uses; no condition.
-/
namespace Go.Proofs.YtfegdgaanmcecaaGreatDoor
open Go.RowKit
theorem rot2 (x : BitVec 32) (w : World) : Calls Tryz.prog 148 #[.int .u32 (wv x), .int .i64 (-2)] w fun e w' => e = .returned (.int .u32 (wv (rotr x 2))) ∧ w = w' := by
  have hk : bits BinOp.and IntKind.u64 (IntKind.u64.wrap (-2)) 31 = 30 := by decide
  go_enter Tryz.func148, Tryz.ntmps148
  go_wp2
  go_ret
  exact ⟨rfl, rfl⟩
theorem rot6 (x : BitVec 32) (w : World) : Calls Tryz.prog 148 #[.int .u32 (wv x), .int .i64 (-6)] w fun e w' => e = .returned (.int .u32 (wv (rotr x 6))) ∧ w = w' := by
  have hk : bits BinOp.and IntKind.u64 (IntKind.u64.wrap (-6)) 31 = 26 := by decide
  go_enter Tryz.func148, Tryz.ntmps148
  go_wp2
  go_ret
  exact ⟨rfl, rfl⟩
theorem rot7 (x : BitVec 32) (w : World) : Calls Tryz.prog 148 #[.int .u32 (wv x), .int .i64 (-7)] w fun e w' => e = .returned (.int .u32 (wv (rotr x 7))) ∧ w = w' := by
  have hk : bits BinOp.and IntKind.u64 (IntKind.u64.wrap (-7)) 31 = 25 := by decide
  go_enter Tryz.func148, Tryz.ntmps148
  go_wp2
  go_ret
  exact ⟨rfl, rfl⟩
theorem rot11 (x : BitVec 32) (w : World) : Calls Tryz.prog 148 #[.int .u32 (wv x), .int .i64 (-11)] w fun e w' => e = .returned (.int .u32 (wv (rotr x 11))) ∧ w = w' := by
  have hk : bits BinOp.and IntKind.u64 (IntKind.u64.wrap (-11)) 31 = 21 := by decide
  go_enter Tryz.func148, Tryz.ntmps148
  go_wp2
  go_ret
  exact ⟨rfl, rfl⟩
theorem rot13 (x : BitVec 32) (w : World) : Calls Tryz.prog 148 #[.int .u32 (wv x), .int .i64 (-13)] w fun e w' => e = .returned (.int .u32 (wv (rotr x 13))) ∧ w = w' := by
  have hk : bits BinOp.and IntKind.u64 (IntKind.u64.wrap (-13)) 31 = 19 := by decide
  go_enter Tryz.func148, Tryz.ntmps148
  go_wp2
  go_ret
  exact ⟨rfl, rfl⟩
theorem rot17 (x : BitVec 32) (w : World) : Calls Tryz.prog 148 #[.int .u32 (wv x), .int .i64 (-17)] w fun e w' => e = .returned (.int .u32 (wv (rotr x 17))) ∧ w = w' := by
  have hk : bits BinOp.and IntKind.u64 (IntKind.u64.wrap (-17)) 31 = 15 := by decide
  go_enter Tryz.func148, Tryz.ntmps148
  go_wp2
  go_ret
  exact ⟨rfl, rfl⟩
theorem rot18 (x : BitVec 32) (w : World) : Calls Tryz.prog 148 #[.int .u32 (wv x), .int .i64 (-18)] w fun e w' => e = .returned (.int .u32 (wv (rotr x 18))) ∧ w = w' := by
  have hk : bits BinOp.and IntKind.u64 (IntKind.u64.wrap (-18)) 31 = 14 := by decide
  go_enter Tryz.func148, Tryz.ntmps148
  go_wp2
  go_ret
  exact ⟨rfl, rfl⟩
theorem rot19 (x : BitVec 32) (w : World) : Calls Tryz.prog 148 #[.int .u32 (wv x), .int .i64 (-19)] w fun e w' => e = .returned (.int .u32 (wv (rotr x 19))) ∧ w = w' := by
  have hk : bits BinOp.and IntKind.u64 (IntKind.u64.wrap (-19)) 31 = 13 := by decide
  go_enter Tryz.func148, Tryz.ntmps148
  go_wp2
  go_ret
  exact ⟨rfl, rfl⟩
theorem rot22 (x : BitVec 32) (w : World) : Calls Tryz.prog 148 #[.int .u32 (wv x), .int .i64 (-22)] w fun e w' => e = .returned (.int .u32 (wv (rotr x 22))) ∧ w = w' := by
  have hk : bits BinOp.and IntKind.u64 (IntKind.u64.wrap (-22)) 31 = 10 := by decide
  go_enter Tryz.func148, Tryz.ntmps148
  go_wp2
  go_ret
  exact ⟨rfl, rfl⟩
theorem rot25 (x : BitVec 32) (w : World) : Calls Tryz.prog 148 #[.int .u32 (wv x), .int .i64 (-25)] w fun e w' => e = .returned (.int .u32 (wv (rotr x 25))) ∧ w = w' := by
  have hk : bits BinOp.and IntKind.u64 (IntKind.u64.wrap (-25)) 31 = 7 := by decide
  go_enter Tryz.func148, Tryz.ntmps148
  go_wp2
  go_ret
  exact ⟨rfl, rfl⟩
end Go.Proofs.YtfegdgaanmcecaaGreatDoor
/-
  PROVED HERE: SHA-256 as plain functions on lists of bytes, and lemmas on them; no condition; no program is named.
-/
namespace Go.Proofs.YtfegdgaanmcecaaGreatDoor
open Go.RowKit

def kList : List Nat := [0x428a2f98, 0x71374491, 0xb5c0fbcf, 0xe9b5dba5, 0x3956c25b, 0x59f111f1, 0x923f82a4, 0xab1c5ed5, 0xd807aa98, 0x12835b01, 0x243185be, 0x550c7dc3, 0x72be5d74, 0x80deb1fe, 0x9bdc06a7, 0xc19bf174, 0xe49b69c1, 0xefbe4786, 0x0fc19dc6, 0x240ca1cc, 0x2de92c6f, 0x4a7484aa, 0x5cb0a9dc, 0x76f988da, 0x983e5152, 0xa831c66d, 0xb00327c8, 0xbf597fc7, 0xc6e00bf3, 0xd5a79147, 0x06ca6351, 0x14292967, 0x27b70a85, 0x2e1b2138, 0x4d2c6dfc, 0x53380d13, 0x650a7354, 0x766a0abb, 0x81c2c92e, 0x92722c85, 0xa2bfe8a1, 0xa81a664b, 0xc24b8b70, 0xc76c51a3, 0xd192e819, 0xd6990624, 0xf40e3585, 0x106aa070, 0x19a4c116, 0x1e376c08, 0x2748774c, 0x34b0bcb5, 0x391c0cb3, 0x4ed8aa4a, 0x5b9cca4f, 0x682e6ff3, 0x748f82ee, 0x78a5636f, 0x84c87814, 0x8cc70208, 0x90befffa, 0xa4506ceb, 0xbef9a3f7, 0xc67178f2]
def hList : List Nat := [0x6a09e667, 0xbb67ae85, 0x3c6ef372, 0xa54ff53a, 0x510e527f, 0x9b05688c, 0x1f83d9ab, 0x5be0cd19]
def kAt (j : Nat) : BitVec 32 := BitVec.ofNat 32 (kList.getD j 0)
def hAt (j : Nat) : BitVec 32 := BitVec.ofNat 32 (hList.getD j 0)

def sig0 (x : BitVec 32) : BitVec 32 := rotr x 7 ^^^ rotr x 18 ^^^ x >>> 3
def sig1 (x : BitVec 32) : BitVec 32 := rotr x 17 ^^^ rotr x 19 ^^^ x >>> 10
def Sig0 (x : BitVec 32) : BitVec 32 := rotr x 2 ^^^ rotr x 13 ^^^ rotr x 22
def Sig1 (x : BitVec 32) : BitVec 32 := rotr x 6 ^^^ rotr x 11 ^^^ rotr x 25
def chf (e f g : BitVec 32) : BitVec 32 := (e &&& f) ^^^ (~~~e &&& g)
def maj (a b c : BitVec 32) : BitVec 32 := (a &&& b) ^^^ (a &&& c) ^^^ (b &&& c)
/-- the j-th word of a block. -/
def wordAt (bs : List UInt8) (j : Nat) : BitVec 32 := word4 (bs.getD (4 * j) 0) (bs.getD (4 * j + 1) 0) (bs.getD (4 * j + 2) 0) (bs.getD (4 * j + 3) 0)
/-- the message schedule. -/
def sched (bs : List UInt8) (j : Nat) : BitVec 32 :=
  if j < 16 then wordAt bs j
  else sched bs (j - 16) + sig0 (sched bs (j - 15)) + sched bs (j - 7) + sig1 (sched bs (j - 2))
  termination_by j
theorem sched_lt (bs : List UInt8) {j : Nat} (h : j < 16) : sched bs j = wordAt bs j := by rw [sched, if_pos h]
theorem sched_ge (bs : List UInt8) {j : Nat} (h : 16 ≤ j) : sched bs j = sched bs (j - 16) + sig0 (sched bs (j - 15)) + sched bs (j - 7) + sig1 (sched bs (j - 2)) := by
  rw [sched, if_neg (by omega)]
structure S8 where
  a : BitVec 32
  b : BitVec 32
  c : BitVec 32
  d : BitVec 32
  e : BitVec 32
  f : BitVec 32
  g : BitVec 32
  h : BitVec 32
def S8.of (s : Nat → BitVec 32) : S8 := ⟨s 0, s 1, s 2, s 3, s 4, s 5, s 6, s 7⟩
def S8.get (s : S8) (j : Nat) : BitVec 32 :=
  if j = 0 then s.a else if j = 1 then s.b else if j = 2 then s.c else if j = 3 then s.d else if j = 4 then s.e else if j = 5 then s.f else if j = 6 then s.g else s.h
def S8.t1 (s : S8) (k w : BitVec 32) : BitVec 32 := s.h + Sig1 s.e + chf s.e s.f s.g + k + w
def S8.t2 (s : S8) : BitVec 32 := Sig0 s.a + maj s.a s.b s.c
def S8.round (s : S8) (k w : BitVec 32) : S8 := ⟨s.t1 k w + s.t2, s.a, s.b, s.c, s.d + s.t1 k w, s.e, s.f, s.g⟩
def S8.rounds (s : S8) (bs : List UInt8) : Nat → S8
  | 0 => s
  | n + 1 => (S8.rounds s bs n).round (kAt n) (sched bs n)
/-- a block is hashed, too. -/
def compress (s : Nat → BitVec 32) (bs : List UInt8) (j : Nat) : BitVec 32 := s j + ((S8.of s).rounds bs 64).get j
/-- so many blocks. -/
def blocks (s : Nat → BitVec 32) (bs : List UInt8) : Nat → Nat → BitVec 32
  | 0 => s
  | n + 1 => compress (blocks s bs n) ((bs.drop (64 * n)).take 64)
def be8 (n : Nat) : List UInt8 := (List.range 8).map fun i => UInt8.ofNat (n / 256 ^ (7 - i) % 256)
/-- how many noughts behind 0x80. -/
def padNoughts (n : Nat) : Nat := (119 - n % 64) % 64
def padded (bs : List UInt8) : List UInt8 := bs ++ [0x80] ++ List.replicate (padNoughts bs.length) 0 ++ be8 (bs.length * 8)
def stateBytes (s : Nat → BitVec 32) : List UInt8 := (List.range 8).flatMap fun j => be4 (s j)
def shaSum (bs : List UInt8) : List UInt8 := stateBytes (blocks hAt (padded bs) ((padded bs).length / 64))
theorem shaSum_length (bs : List UInt8) : (shaSum bs).length = 32 := rfl

theorem blocks_append (s : Nat → BitVec 32) (a b : List UInt8) : ∀ n, 64 * n ≤ a.length → blocks s (a ++ b) n = blocks s a n
  | 0, _ => rfl
  | n + 1, h => by
    show compress (blocks s (a ++ b) n) _ = compress (blocks s a n) _
    rw [blocks_append s a b n (by omega), List.drop_append_of_le_length (by omega), List.take_append_of_le_length (by rw [List.length_drop]; omega)]
theorem blocks_snoc (s : Nat → BitVec 32) (done blk : List UInt8) (m : Nat) (hd : done.length = 64 * m) (hb : blk.length = 64) : blocks s (done ++ blk) (m + 1) = compress (blocks s done m) blk := by
  show compress (blocks s (done ++ blk) m) _ = _
  rw [blocks_append s done blk m (by omega), ← hd, List.drop_left, List.take_of_length_le (by omega)]

/-! ### words in a row of memory -/
def W32s (w : World) (q o n : Nat) (f : Nat → BitVec 32) : Prop := ∀ j, j < n → w.cell? ⟨q, o + j, none⟩ = some (.int .u32 (wv (f j))) ∧ w.frozen? ⟨q, o + j, none⟩ = false
section
variable {w w' : World} {q o n : Nat} {f g : Nat → BitVec 32}
theorem W32s.cell (h : W32s w q o n f) {j : Nat} (hj : j < n) : w.cell? ⟨q, o + j, none⟩ = some (.int .u32 (wv (f j))) := (h j hj).1
theorem W32s.free (h : W32s w q o n f) {j : Nat} (hj : j < n) : w.frozen? ⟨q, o + j, none⟩ = false := (h j hj).2
theorem W32s.cell0 (h : W32s w q 0 n f) {j : Nat} (hj : j < n) : w.cell? ⟨q, j, none⟩ = some (.int .u32 (wv (f j))) := by have := h.cell hj; rwa [Nat.zero_add] at this
theorem W32s.free0 (h : W32s w q 0 n f) {j : Nat} (hj : j < n) : w.frozen? ⟨q, j, none⟩ = false := by have := h.free hj; rwa [Nat.zero_add] at this
theorem W32s.congr (h : W32s w q o n f) (hg : ∀ j, j < n → f j = g j) : W32s w q o n g := fun j hj => by rw [← hg j hj]; exact h j hj
theorem W32s.lt (h : W32s w q o n f) (hn : 0 < n) : q < w.heap.size := World.block_lt_of_cell? w _ (h.cell hn)
theorem W32s.keep {D : Nat → Prop} (h : W32s w q o n f) (hk : Keep D w w') (hd : D q) : W32s w' q o n f := fun j hj => by
  have hq : q < w.heap.size := World.block_lt_of_cell? w _ (h.cell hj)
  exact ⟨(hk.cell (p := ⟨q, o + j, none⟩) hq hd).trans (h.cell hj), (hk.frozen (p := ⟨q, o + j, none⟩) hq hd).trans (h.free hj)⟩
theorem W32s.drewN (h : W32s w q o n f) (k : Nat) : W32s (w.drewN k) q o n f := h
theorem W32s.set (h : W32s w q o n f) {k : Nat} (hk : k < n) (x : BitVec 32) : W32s (w.setCell ⟨q, o + k, none⟩ (.int .u32 (wv x))) q o n (fun j => if j = k then x else f j) := fun j hj => by
  refine ⟨?_, (World.frozen?_setCell _ _ _ _).trans (h.free hj)⟩
  by_cases e : j = k
  · subst e; dsimp only; rw [if_pos rfl]; exact World.cell?_setCell_same _ _ _ (h.cell hj)
  · dsimp only; rw [if_neg e, World.cell?_setCell_other _ _ _ _ (by intro hh; injection hh; omega)]; exact h.cell hj
theorem W32s.set0 (h : W32s w q 0 n f) {k : Nat} (hk : k < n) (x : BitVec 32) : W32s (w.setCell ⟨q, k, none⟩ (.int .u32 (wv x))) q 0 n (fun j => if j = k then x else f j) := by
  have := h.set hk x; rwa [Nat.zero_add] at this
theorem W32s.far (h : W32s w q o n f) {p : Addr} (hp : p.block ≠ q ∨ p.off < o ∨ o + n ≤ p.off) (u : Value) : W32s (w.setCell p u) q o n f := fun j hj => by
  refine ⟨?_, (World.frozen?_setCell _ _ _ _).trans (h.free hj)⟩
  rw [World.cell?_setCell_other _ _ _ _ (by rintro rfl; simp at hp; omega)]; exact h.cell hj
theorem free_new (w : World) (cs : Array Value) (t j : Nat) : (w.alloc (.cells cs t)).frozen? ⟨w.heap.size, j, none⟩ = false := by
  have hh := heap_alloc_new w (.cells cs t)
  unfold World.frozen?
  rw [hh]
  simp
theorem W32s.zero (w : World) (t n : Nat) : W32s (w.alloc (.cells (List.replicate n (Value.int .u32 0)).toArray t)) w.heap.size 0 n (fun _ => 0#32) := fun j hj => by
  refine ⟨?_, free_new w _ t _⟩
  rw [cell_of_row _ _ _ _ t (0, 0) (heap_alloc_new w _)]
  simp [hj]; rfl
theorem S8.made8 (w : World) (t : Nat) (S : S8) : W32s (w.alloc (.cells #[.int .u32 (wv S.a), .int .u32 (wv S.b), .int .u32 (wv S.c), .int .u32 (wv S.d), .int .u32 (wv S.e), .int .u32 (wv S.f), .int .u32 (wv S.g), .int .u32 (wv S.h)] t)) w.heap.size 0 8 S.get := fun j hj => by
  refine ⟨?_, free_new w _ t _⟩
  rw [cell_of_row _ _ _ _ t (0, 0) (heap_alloc_new w _)]
  match j, hj with
  | 0, _ => rfl
  | 1, _ => rfl
  | 2, _ => rfl
  | 3, _ => rfl
  | 4, _ => rfl
  | 5, _ => rfl
  | 6, _ => rfl
  | 7, _ => rfl
end
end Go.Proofs.YtfegdgaanmcecaaGreatDoor
