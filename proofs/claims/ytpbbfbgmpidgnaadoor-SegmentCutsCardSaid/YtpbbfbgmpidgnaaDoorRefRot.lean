/-
  PROVED HERE: what the reference's turn answers, laws for whole arrays, and the loops of its Sum as terms; no condition.
-/
import Derived.Test.YtpbbfbgmpidgnaaDoorSha
import Derived.Deep.RegionHeld3
namespace Go.Proofs.YtpbbfbgmpidgnaaDoor
open Go.RowKit

theorem rrot2 (x : BitVec 32) (w : World) : Calls Tryd.prog 83 #[.int .u32 (wv x), .int .u64 2] w fun e w' => e = .returned (.int .u32 (wv (rotr x 2))) ∧ w = w' := by
  rw [show rotr x 2 = x >>> 2 ||| x <<< 30 from BitVec.or_comm _ _]
  go_enter Tryd.func83, Tryd.ntmps83
  go_wp2
  go_ret
  exact ⟨rfl, rfl⟩
theorem rrot6 (x : BitVec 32) (w : World) : Calls Tryd.prog 83 #[.int .u32 (wv x), .int .u64 6] w fun e w' => e = .returned (.int .u32 (wv (rotr x 6))) ∧ w = w' := by
  rw [show rotr x 6 = x >>> 6 ||| x <<< 26 from BitVec.or_comm _ _]
  go_enter Tryd.func83, Tryd.ntmps83
  go_wp2
  go_ret
  exact ⟨rfl, rfl⟩
theorem rrot7 (x : BitVec 32) (w : World) : Calls Tryd.prog 83 #[.int .u32 (wv x), .int .u64 7] w fun e w' => e = .returned (.int .u32 (wv (rotr x 7))) ∧ w = w' := by
  rw [show rotr x 7 = x >>> 7 ||| x <<< 25 from BitVec.or_comm _ _]
  go_enter Tryd.func83, Tryd.ntmps83
  go_wp2
  go_ret
  exact ⟨rfl, rfl⟩
theorem rrot11 (x : BitVec 32) (w : World) : Calls Tryd.prog 83 #[.int .u32 (wv x), .int .u64 11] w fun e w' => e = .returned (.int .u32 (wv (rotr x 11))) ∧ w = w' := by
  rw [show rotr x 11 = x >>> 11 ||| x <<< 21 from BitVec.or_comm _ _]
  go_enter Tryd.func83, Tryd.ntmps83
  go_wp2
  go_ret
  exact ⟨rfl, rfl⟩
theorem rrot13 (x : BitVec 32) (w : World) : Calls Tryd.prog 83 #[.int .u32 (wv x), .int .u64 13] w fun e w' => e = .returned (.int .u32 (wv (rotr x 13))) ∧ w = w' := by
  rw [show rotr x 13 = x >>> 13 ||| x <<< 19 from BitVec.or_comm _ _]
  go_enter Tryd.func83, Tryd.ntmps83
  go_wp2
  go_ret
  exact ⟨rfl, rfl⟩
theorem rrot17 (x : BitVec 32) (w : World) : Calls Tryd.prog 83 #[.int .u32 (wv x), .int .u64 17] w fun e w' => e = .returned (.int .u32 (wv (rotr x 17))) ∧ w = w' := by
  rw [show rotr x 17 = x >>> 17 ||| x <<< 15 from BitVec.or_comm _ _]
  go_enter Tryd.func83, Tryd.ntmps83
  go_wp2
  go_ret
  exact ⟨rfl, rfl⟩
theorem rrot18 (x : BitVec 32) (w : World) : Calls Tryd.prog 83 #[.int .u32 (wv x), .int .u64 18] w fun e w' => e = .returned (.int .u32 (wv (rotr x 18))) ∧ w = w' := by
  rw [show rotr x 18 = x >>> 18 ||| x <<< 14 from BitVec.or_comm _ _]
  go_enter Tryd.func83, Tryd.ntmps83
  go_wp2
  go_ret
  exact ⟨rfl, rfl⟩
theorem rrot19 (x : BitVec 32) (w : World) : Calls Tryd.prog 83 #[.int .u32 (wv x), .int .u64 19] w fun e w' => e = .returned (.int .u32 (wv (rotr x 19))) ∧ w = w' := by
  rw [show rotr x 19 = x >>> 19 ||| x <<< 13 from BitVec.or_comm _ _]
  go_enter Tryd.func83, Tryd.ntmps83
  go_wp2
  go_ret
  exact ⟨rfl, rfl⟩
theorem rrot22 (x : BitVec 32) (w : World) : Calls Tryd.prog 83 #[.int .u32 (wv x), .int .u64 22] w fun e w' => e = .returned (.int .u32 (wv (rotr x 22))) ∧ w = w' := by
  rw [show rotr x 22 = x >>> 22 ||| x <<< 10 from BitVec.or_comm _ _]
  go_enter Tryd.func83, Tryd.ntmps83
  go_wp2
  go_ret
  exact ⟨rfl, rfl⟩
theorem rrot25 (x : BitVec 32) (w : World) : Calls Tryd.prog 83 #[.int .u32 (wv x), .int .u64 25] w fun e w' => e = .returned (.int .u32 (wv (rotr x 25))) ∧ w = w' := by
  rw [show rotr x 25 = x >>> 25 ||| x <<< 7 from BitVec.or_comm _ _]
  go_enter Tryd.func83, Tryd.ntmps83
  go_wp2
  go_ret
  exact ⟨rfl, rfl⟩

theorem wpList_store_at {P : Program} {ops : Array Oper} {rest : List Oper} {o : Oper} {a : Act} {Q : Exit → Act → World → Prop} {w : World} (hgd : o.guard = none) (ty : TypeId) (x y : Operand) (ho : o.op = .store ty x y)
    (c c' : Array Value) (g : Nat) (hx : a.eval x = .pointer (some ⟨g, 0, none⟩)) (hy : a.eval y = .agg c') (hg : g = w.heap.size)
    (hi : (P.info? ty).map (·.size) = some c'.size) (hs : c.size = c'.size) (h1 : c'.all (·.oneCell') = true)
    (h : wpList P ops Q rest (a.put o.dst undef) (w.alloc (.cells c' ty))) : wpList P ops Q (o :: rest) a (w.alloc (.cells c ty)) :=
  wpList_store_new hgd ty x y ho ty c c' (by rw [hx, hg]) hy hi rfl hs h1 h
theorem W32s.vals (w : World) (t : TypeId) (l : List Nat) (arr : Array Value) (ha : arr.toList = l.map fun (n : Nat) => Value.int .u32 (n : Int)) (hl : ∀ n ∈ l, n < 4294967296) (m : Nat) (hm : m = l.length) :
    W32s (w.alloc (.cells arr t)) w.heap.size 0 m (fun j => BitVec.ofNat 32 (l.getD j 0)) := fun j hj => by
  refine ⟨?_, free_new w _ t _⟩
  rw [cell_of_row _ _ _ _ t (0, 0) (heap_alloc_new w _), Nat.zero_add, ← Array.getElem?_toList, ha]
  exact vals_at l hl j (by omega)
def S8.arr (S : S8) : Array Value := #[.int .u32 (wv S.a), .int .u32 (wv S.b), .int .u32 (wv S.c), .int .u32 (wv S.d), .int .u32 (wv S.e), .int .u32 (wv S.f), .int .u32 (wv S.g), .int .u32 (wv S.h)]
theorem S8.arr_at (S : S8) (j : Nat) (hj : j < 8) : S.arr[j]? = some (.int .u32 (wv (S.get j))) := by
  match j, hj with
  | 0, _ => rfl
  | 1, _ => rfl
  | 2, _ => rfl
  | 3, _ => rfl
  | 4, _ => rfl
  | 5, _ => rfl
  | 6, _ => rfl
  | 7, _ => rfl
theorem Keep.setRow {D : Nat → Prop} {a w : World} (h : Keep D a w) {g : Nat} (hg : D g → a.heap.size ≤ g) (cs : Array Value) : Keep D a (w.setRow g cs) :=
  ⟨h.os, h.tape, h.output, by simpa using h.size, fun k hk hd => (setRow_other w g k cs (by rintro rfl; have := hg hd; omega)).trans (h.block k hk hd)⟩
theorem W32s.ofArr {w : World} {g : Nat} {t : TypeId} {S : S8} (h : w.heap[g]? = some (.cells S.arr t (0, 0))) : W32s w g 0 8 S.get := fun j hj => by
  refine ⟨?_, ?_⟩
  · rw [Nat.zero_add]; exact (cell_of_row w g j S.arr t (0, 0) h).trans (S8.arr_at S j hj)
  · unfold World.frozen?; rw [h]; simp
theorem S8.arr_size (S : S8) : S.arr.size = 8 := rfl
theorem S8.arr_size2 (S T : S8) : S.arr.size = T.arr.size := rfl
theorem S8.arr_one (S : S8) : S.arr.all (·.oneCell') = true := by simp [S8.arr, Value.oneCell']
theorem info_8 : (Tryd.prog.info? 123).map (·.size) = some 8 := by kernel_rfl
theorem S8.arr_info (S : S8) : (Tryd.prog.info? 123).map (·.size) = some S.arr.size := info_8
theorem quiet_add_left {P : Program} {f : FuncId} {args : Array Value} {w : World} {a n : Nat} {v : Value}
    (h : Calls P f args (w.drewN (a + n)) fun e w' => e = .returned v ∧ w.drewN (a + n) = w') : Calls P f args (w.drewN (a + n)) fun e w'' => e = .returned v ∧ ∃ m, w'' = w.drewN (a + m) :=
  h.mono fun _ _ ⟨he, hm⟩ => ⟨he, n, hm.symm⟩
theorem wpList_build_lit {P : Program} {ops : Array Oper} {rest : List Oper} {a : Act} {w : World} {Q : Exit → Act → World → Prop} {dst : Option Tmp} {t ty : TypeId} {parts : Array (Nat × Operand)} {pos : String} {after : Array Edge}
    (cs : Array Value) (hf : P.built t (parts.map fun (i, x) => (i, a.eval x)).toList = some cs) (h : wpList P ops Q rest (a.put dst (.agg cs)) w) : wpList P ops Q ({ dst := dst, op := .build t parts, type := ty, pos := pos, after := after, guard := none } :: rest) a w :=
  wpList_build_as rfl t parts rfl cs hf h
theorem wpList_storerow_lit {P : Program} {ops : Array Oper} {rest : List Oper} {a : Act} {w : World} {Q : Exit → Act → World → Prop} {dst : Option Tmp} {t ty : TypeId} {x y : Operand} {pos : String} {after : Array Edge}
    (g : Nat) (cells : Array Value) (old : Array Value) (hg : w.heap[g]? = some (.cells old t (0, 0))) (hx : a.eval x = .pointer (some ⟨g, 0, none⟩)) (hy : a.eval y = .agg cells) (hi : (P.info? t).map (·.size) = some cells.size)
    (hold : old.size = cells.size) (h1 : cells.all (·.oneCell') = true) (h : wpList P ops Q rest (a.put dst undef) (w.setRow g cells)) : wpList P ops Q ({ dst := dst, op := .store t x y, type := ty, pos := pos, after := after, guard := none } :: rest) a w :=
  wpList_store_row rfl t x y rfl g cells hx hy t old hg hi hold h1 h
theorem wordAt_block (L : List UInt8) (t k : Nat) (hk : k < 16) (h : 64 * t + 4 * k + 3 < L.length) :
    wordAt ((L.drop (64 * t)).take 64) k = word4 (L[64 * t + 4 * k]'(by omega)) (L[64 * t + 4 * k + 1]'(by omega)) (L[64 * t + 4 * k + 2]'(by omega)) (L[64 * t + 4 * k + 3]'h) := by
  have e : ∀ i, i < 64 → (h' : 64 * t + i < L.length) → ((L.drop (64 * t)).take 64).getD i 0 = L[64 * t + i]'h' := fun i hi h' => by
    rw [List.getD_eq_getElem?_getD, List.getElem?_take, if_pos hi, List.getElem?_drop, List.getElem?_eq_getElem h']; rfl
  unfold wordAt
  rw [e (4 * k) (by omega) (by omega), e (4 * k + 1) (by omega) (by omega), e (4 * k + 2) (by omega) (by omega), e (4 * k + 3) (by omega) (by omega)]
  rfl
/-- the bodies of a function's loops, in the text's order. -/
def loopsOf : Code → List Code
  | .loop c => c :: loopsOf c
  | .seq a b => loopsOf a ++ loopsOf b
  | .block _ c => loopsOf c
  | .scope c => loopsOf c
  | .cond _ a b => loopsOf a ++ loopsOf b
  | _ => []
def nthLoop (f : Func) (n : Nat) : Code := (loopsOf (f.body.getD .skip)).getD n .skip
noncomputable def refLoop3 : Code := nthLoop Tryd.f47 2
noncomputable def refLoop4 : Code := nthLoop Tryd.f47 3
noncomputable def refLoop5 : Code := nthLoop Tryd.f47 4
noncomputable def refLoop6 : Code := nthLoop Tryd.f47 5
noncomputable def refLoop7 : Code := nthLoop Tryd.f47 6
end Go.Proofs.YtpbbfbgmpidgnaaDoor
