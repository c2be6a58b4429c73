/-
  PROVED HERE: plain lemmas on the model's memory (frames, rows of cells, rows of bytes, appends onto rows of the call's own); no condition; no program is named.
-/
import Derived.WalkKit
import Derived.WalkLawsBesides
import Derived.Below
import Derived.OwnWalk
import Derived.Maps.AppendAt
import Derived.Deep.AppendLies
import Derived.Deep.Draws
import Derived.Deep.WholeRow
import Derived.Deep.QuietTactic
import Derived.RegionTactic
import Derived.Laws.OwnMore
import Derived.Laws.Rows
import Derived.KernelRfl
namespace Go.Proofs.YtpbbfbgmpidgnaaDoor
open Go.RowKit

/-! ### calls that turn nothing, in a region that draws its order -/
theorem quiet_left {P : Program} {f : FuncId} {args : Array Value} {w : World} {n : Nat} {v : Value}
    (h : Calls P f args (w.drewN n) fun e w' => e = .returned v ∧ w.drewN n = w') : Calls P f args (w.drewN n) fun e w'' => e = .returned v ∧ ∃ m, w'' = w.drewN m :=
  h.mono fun _ _ ⟨he, hm⟩ => ⟨he, n, hm.symm⟩

/-! ### frames -/
structure Keep (D : Nat → Prop) (w w' : World) : Prop where
  os : w'.os = w.os
  tape : w'.tape = w.tape
  output : w'.output = w.output
  size : w.heap.size ≤ w'.heap.size
  block : ∀ k, k < w.heap.size → D k → w'.heap[k]? = w.heap[k]?

abbrev New (w w' : World) : Prop := Keep (fun _ => True) w w'

section
variable {D E : Nat → Prop} {a b c w w' : World}
theorem Keep.refl (D : Nat → Prop) (w : World) : Keep D w w := ⟨rfl, rfl, rfl, Nat.le_refl _, fun _ _ _ => rfl⟩
theorem New.refl (w : World) : New w w := Keep.refl _ w
theorem Keep.trans2 (h : Keep D a b) (k : Keep E b c) (hDE : ∀ i, i < a.heap.size → D i → E i) : Keep D a c :=
  ⟨k.os.trans h.os, k.tape.trans h.tape, k.output.trans h.output, Nat.le_trans h.size k.size, fun i hi hd => (k.block i (Nat.lt_of_lt_of_le hi h.size) (hDE i hi hd)).trans (h.block i hi hd)⟩
theorem Keep.trans (h : Keep D a b) (k : Keep D b c) : Keep D a c := h.trans2 k fun _ _ h => h
theorem Keep.new (h : Keep D a b) (k : New b c) : Keep D a c := h.trans2 k fun _ _ _ => trivial
theorem Keep.imp (h : Keep D a b) (hE : ∀ i, i < a.heap.size → E i → D i) : Keep E a b := ⟨h.os, h.tape, h.output, h.size, fun i hi he => h.block i hi (hE i hi he)⟩
theorem Keep.of_new (h : New a b) : Keep D a b := h.imp fun _ _ _ => trivial
theorem Keep.drew (h : Keep D a w) : Keep D a w.drew := ⟨h.os, h.tape, h.output, h.size, h.block⟩
theorem Keep.drewN (h : Keep D a w) (n : Nat) : Keep D a (w.drewN n) := ⟨h.os, h.tape, h.output, h.size, h.block⟩
theorem Keep.alloc (h : Keep D a w) (o : Obj) : Keep D a (w.alloc o) :=
  h.trans ⟨rfl, rfl, rfl, by simp, fun k hk _ => Below.heap_alloc _ _ _ hk⟩
theorem Keep.setCell (h : Keep D a w) {p : Addr} (hp : D p.block → a.heap.size ≤ p.block) (u : Value) : Keep D a (w.setCell p u) :=
  ⟨h.os, h.tape, h.output, by simpa [World.setCell] using h.size, fun k hk hd => (Below.heap_setCell _ _ _ _ (by rintro rfl; have := hp hd; omega)).trans (h.block k hk hd)⟩
theorem Keep.grown (h : Keep D a w) {row : Option Nat} (hg : w.grownBy w' row) (hr : ∀ k, row = some k → D k → a.heap.size ≤ k) : Keep D a w' :=
  ⟨hg.os.trans h.os, hg.tape.trans h.tape, hg.output.trans h.output, Nat.le_trans h.size hg.size, fun k hk hd =>
    (hg.block k (Nat.lt_of_lt_of_le hk h.size) (fun e => by have := hr k e.symm hd; omega)).trans (h.block k hk hd)⟩
theorem Keep.below {B : Nat} (h : Below B a w) : Keep (· < B) a w := ⟨h.os, h.tape, h.output, h.size, fun k _ hd => h.block k hd⟩
theorem New.below (h : New a w) : Below a.heap.size a w := ⟨h.os, h.tape, h.output, h.size, fun k hk => h.block k hk trivial⟩
theorem New.of_below (h : Below a.heap.size a w) : New a w := ⟨h.os, h.tape, h.output, h.size, fun k hk _ => h.block k hk⟩
theorem Keep.toNew (h : Keep D a w) (hD : ∀ i, i < a.heap.size → D i) : New a w := h.imp fun i hi _ => hD i hi
theorem Keep.cell (h : Keep D a w) {p : Addr} (hp : p.block < a.heap.size) (hd : D p.block) : w.cell? p = a.cell? p := World.cell?_of_block (w := a) (h.block p.block hp hd)
theorem Keep.frozen (h : Keep D a w) {p : Addr} (hp : p.block < a.heap.size) (hd : D p.block) : w.frozen? p = a.frozen? p := World.frozen?_of_block (w := a) (h.block p.block hp hd)
theorem Keep.cell_some (h : Keep D a w) {p : Addr} {u : Value} (hc : a.cell? p = some u) (hd : D p.block) : w.cell? p = some u := (h.cell (World.block_lt_of_cell? a p hc) hd).trans hc
end

def blk (A : Option Addr) : Option Nat := A.map (·.block)
theorem grownBy_set (w : World) (p : Addr) (u : Value) : w.grownBy (w.setCell p u) (some p.block) :=
  ⟨rfl, rfl, rfl, by simp [World.setCell], fun k _ hne => Below.heap_setCell w p u k (fun e => hne (by rw [e]))⟩
theorem own_set {w : World} {base : Nat} {e : TypeId} {size n c : Nat} {A : Option Addr} {xs : List Value} (h : w.ownsRow base e size (.slice A n c) n xs) {p : Addr} (hp : blk A ≠ some p.block) (u : Value) : (w.setCell p u).ownsRow base e size (.slice A n c) n xs :=
  h.kept (grownBy_set w p u) (.inr (by rw [show (Value.slice A n c).ownBlock = blk A from by cases A <;> rfl]; exact hp))

/-! ### rows of cells -/
/-- The slice address A, n elements of 'size' cells, holds the cells vs; where there is an element it lies in a block that meets D. -/
def Row (w : World) (D : Nat → Prop) (A : Option Addr) (n size : Nat) (vs : List Value) : Prop :=
  vs.length = n * size ∧ (0 < n → ∃ b off, A = some ⟨b, off, none⟩ ∧ D b ∧ b < w.heap.size ∧ ∀ k u, vs[k]? = some u → w.cell? ⟨b, off + k, none⟩ = some u)

section
variable {D E : Nat → Prop} {w w' : World} {A : Option Addr} {n size : Nat} {vs : List Value}
theorem Row.nil (w : World) (D : Nat → Prop) (A : Option Addr) (size : Nat) : Row w D A 0 size [] := ⟨by simp, fun h => absurd h (by omega)⟩
theorem Row.imp (h : Row w D A n size vs) (hE : ∀ b, b < w.heap.size → D b → E b) : Row w E A n size vs :=
  ⟨h.1, fun hn => let ⟨b, off, e, hd, hl, hc⟩ := h.2 hn; ⟨b, off, e, hE b hl hd, hl, hc⟩⟩
theorem Row.keep (h : Row w D A n size vs) (hk : Keep E w w') (hDE : ∀ b, b < w.heap.size → D b → E b) : Row w' D A n size vs :=
  ⟨h.1, fun hn => let ⟨b, off, e, hd, hl, hc⟩ := h.2 hn; ⟨b, off, e, hd, Nat.lt_of_lt_of_le hl hk.size, fun k u hu => (hk.cell (p := ⟨b, off + k, none⟩) hl (hDE b hl hd)).trans (hc k u hu)⟩⟩
theorem Row.new (h : Row w D A n size vs) (hk : New w w') : Row w' D A n size vs := h.keep hk fun _ _ _ => trivial
theorem Row.alloc (h : Row w D A n size vs) (o : Obj) : Row (w.alloc o) D A n size vs := h.new ((New.refl w).alloc o)
theorem Row.drew (h : Row w D A n size vs) : Row w.drew D A n size vs := h
theorem Row.drewN (h : Row w D A n size vs) (k : Nat) : Row (w.drewN k) D A n size vs := h
theorem Row.setCell (h : Row w D A n size vs) {p : Addr} (hp : ¬ D p.block) (u : Value) : Row (w.setCell p u) D A n size vs :=
  h.keep ((Keep.refl D w).setCell (fun hd => absurd hd hp) u) fun _ _ h => h
theorem Row.at_ (h : Row w D A n size vs) (hn : 0 < n) : ∃ b off, A = some ⟨b, off, none⟩ ∧ D b ∧ b < w.heap.size ∧ ∀ k u, vs[k]? = some u → w.cell? ⟨b, off + k, none⟩ = some u := h.2 hn
theorem Row.made (w : World) (t : TypeId) (cs : Array Value) (n size : Nat) (h : cs.size = n * size) : Row (w.alloc (.cells cs t)) (fun b => w.heap.size ≤ b) (some ⟨w.heap.size, 0, none⟩) n size cs.toList := by
  refine ⟨by simpa using h, fun _ => ⟨w.heap.size, 0, rfl, Nat.le_refl _, by simp, fun k u hu => ?_⟩⟩
  rw [cell_of_row _ _ _ cs t (0, 0) (heap_alloc_new w _)]
  simpa using hu
theorem Row.made1 (w : World) (t : TypeId) (x : Value) : Row (w.alloc (.cells #[x] t)) (fun b => w.heap.size ≤ b) (some ⟨w.heap.size, 0, none⟩) 1 1 [x] := Row.made w t #[x] 1 1 rfl
/-- A cut 's[l:h]': the model keeps the address where no room is left. -/
theorem Row.cut (h : Row w D A n size vs) {l hi cap : Nat} (hl : l ≤ hi) (hh : hi ≤ n) (hc : n ≤ cap) :
    Row w D (if cap = l then A else A.map (·.add (l * size))) (hi - l) size ((vs.drop (l * size)).take ((hi - l) * size)) := by
  have hlen := h.1
  refine ⟨?_, fun hn => ?_⟩
  · rw [List.length_take, List.length_drop, hlen, ← Nat.sub_mul]
    exact Nat.min_eq_left (Nat.mul_le_mul_right _ (by omega))
  · obtain ⟨b, off, rfl, hd, hb, hcell⟩ := h.2 (by omega)
    rw [if_neg (by omega)]
    by_cases hz : l * size = 0
    · refine ⟨b, off, by simp [Addr.add, hz], hd, hb, fun k u hu => hcell k u ?_⟩
      rw [List.getElem?_take] at hu
      split at hu
      · simpa [hz] using hu
      · cases hu
    · refine ⟨b, off + l * size, by simp [Addr.add, hz], hd, hb, fun k u hu => ?_⟩
      rw [List.getElem?_take] at hu
      split at hu
      · rw [Nat.add_assoc]; exact hcell _ u (by rw [← hu, List.getElem?_drop])
      · cases hu
theorem Row.cutTo (h : Row w D A n size vs) {hi : Nat} (hh : hi ≤ n) : Row w D A hi size (vs.take (hi * size)) := by
  refine ⟨by rw [List.length_take, h.1]; exact Nat.min_eq_left (Nat.mul_le_mul_right _ hh), fun hn => ?_⟩
  obtain ⟨b, off, rfl, hd, hb, hcell⟩ := h.2 (by omega)
  refine ⟨b, off, rfl, hd, hb, fun k u hu => hcell k u ?_⟩
  rw [List.getElem?_take] at hu
  split at hu
  · exact hu
  · cases hu
theorem Row.from_ (h : Row w D A n size vs) {l : Nat} (hl : l ≤ n) : Row w D (Option.map (fun x => x.add (l * size)) A) (n - l) size (vs.drop (l * size)) := by
  refine ⟨by rw [List.length_drop, h.1, Nat.sub_mul], fun hn => ?_⟩
  obtain ⟨b, off, rfl, hd, hb, hcell⟩ := h.2 (by omega)
  by_cases hz : l * size = 0
  · refine ⟨b, off, by simp [Addr.add, hz], hd, hb, fun k u hu => hcell k u (by simpa [hz] using hu)⟩
  · refine ⟨b, off + l * size, by simp [Addr.add, hz], hd, hb, fun k u hu => ?_⟩
    rw [Nat.add_assoc]; exact hcell _ u (by rw [← hu, List.getElem?_drop])
theorem Row.of_own {base : Nat} {e : TypeId} {c : Nat} (h : w.ownsRow base e size (.slice A n c) n vs) : Row w (fun b => base ≤ b) A n size vs := by
  refine ⟨h.1, fun hn => ?_⟩
  obtain ⟨g, cap, hv, hb, hlt⟩ := h.form hn
  have hA : A = some ⟨g, 0, none⟩ := by injection hv
  subst hA
  refine ⟨g, 0, rfl, hb, hlt, fun k u hu => ?_⟩
  have := h.cells (g := g) rfl k u hu
  simpa [Addr.add_lit] using this
end

/-! ### append onto a row of the call's own, whatever the source -/
/-- 'own' in the form of the slots. -/
abbrev Own (w : World) (base : Nat) (e : TypeId) (size : Nat) (A : Option Addr) (n c : Nat) (xs : List Value) : Prop := w.ownsRow base e size (.slice A n c) n xs
theorem own_lt {w : World} {base : Nat} {e : TypeId} {size n c : Nat} {A : Option Addr} {xs : List Value} (h : Own w base e size A n c xs) : ∀ k, blk A = some k → base ≤ k ∧ k < w.heap.size := fun k hk =>
  h.lt k (by rw [show (Value.slice A n c).ownBlock = blk A from by cases A <;> rfl]; exact hk)
theorem undrew {w w' : World} {row : Option Nat} (h : w.drew.grownBy w' row) : w.grownBy w' row := ⟨h.os, h.tape, h.output, h.size, h.block⟩
theorem undrewN {w w' : World} {row : Option Nat} {n : Nat} (h : (w.drewN n).grownBy w' row) : w.grownBy w' row := ⟨h.os, h.tape, h.output, h.size, h.block⟩
theorem own_keep {w w' : World} {D : Nat → Prop} {base : Nat} {e : TypeId} {size n c : Nat} {A : Option Addr} {xs : List Value} (h : Own w base e size A n c xs) (hk : Keep D w w') (hd : ∀ k, blk A = some k → D k) : Own w' base e size A n c xs := by
  refine ⟨h.1, ?_⟩
  rcases h.2 with hn | ⟨g, cap, cur, hv, hb, hgg, rest⟩
  · exact .inl hn
  · refine .inr ⟨g, cap, cur, hv, hb, ?_, rest⟩
    have hA : A = some ⟨g, 0, none⟩ := by injection hv
    rw [hk.block g (Array.getElem?_eq_some_iff.1 hgg).1 (hd g (by rw [hA]; rfl))]
    exact hgg
theorem Own.nil (w : World) (base : Nat) (e : TypeId) (size : Nat) : Own w base e size none 0 0 [] := World.ownsRow_nil _ _ _ _

section
variable {P : Program} (w : World)
theorem run_append_nil (base : Nat) (t ty e : TypeId) (i : TypeInfo) (size : Nat) (ht : P.underlying t = some (.slice e)) (hi : P.info? e = some i)
    (v : Value) (n : Nat) (xs : List Value) (hown : w.ownsRow base e size v n xs) (c : Nat) : (Builtin.append_ #[t, t] ty #[v, .slice none 0 c]).run P w = .ok v w := by
  rcases hown.2 with ⟨rfl, rfl⟩ | ⟨g, cap, cur, rfl, _, _, hnc, _⟩
  · simp [Builtin.append_, run_underlying ht, sizeOf, typeInfo, hi, Builtin.lenOf, Builtin.firstCells]
  · simp [Builtin.append_, run_underlying ht, sizeOf, typeInfo, hi, Builtin.lenOf, Builtin.firstCells, hnc, storeCells]

theorem own_slice {base : Nat} {e : TypeId} {size : Nat} {v : Value} {n : Nat} {xs : List Value} (h : w.ownsRow base e size v n xs) : ∃ A c, v = .slice A n c ∧ Own w base e size A n c xs ∧ v.ownBlock = blk A := by
  rcases h.2 with ⟨rfl, rfl⟩ | ⟨g, cap, cur, rfl, _⟩
  · exact ⟨none, 0, rfl, h, rfl⟩
  · exact ⟨_, _, rfl, h, rfl⟩

theorem run_append_row (base : Nat) (t ty e : TypeId) (i : TypeInfo) (z : Value) (size bytes : Nat) (ht : P.underlying t = some (.slice e)) (hi : P.info? e = some i) (hz : i.zero = some z)
    (hsize : i.size = size) (hby : i.bytes = bytes) (hzs : z.cells.size = size) (hsz : 0 < size)
    (A : Option Addr) (n c : Nat) (xs : List Value) (hown : Own w base e size A n c xs)
    (D : Nat → Prop) (A2 : Option Addr) (m c2 : Nat) (news : List Value) (hr : Row w D A2 m size news) (h1 : ∀ u ∈ news, u.oneCell' = true)
    (h63 : n + m ≤ maxLen) (hbytes : (n + m) * bytes ≤ 140737488355328) (hbase : base ≤ w.heap.size) :
    ∃ A' c' w', (Builtin.append_ #[t, t] ty #[.slice A n c, .slice A2 m c2]).run P w = .ok (.slice A' (n + m) c') w' ∧ Own w' base e size A' (n + m) c' (xs ++ news) ∧ w.grownBy w' (blk A) ∧
      (blk A' = blk A ∨ blk A' = some w.heap.size) := by
  rcases A2 with _ | ad
  · have hm : m = 0 := by
      rcases Nat.eq_zero_or_pos m with h0 | h0
      · exact h0
      · obtain ⟨_, _, h, _⟩ := hr.2 h0
        cases h
    subst hm
    have hn : news = [] := List.eq_nil_of_length_eq_zero (by simpa using hr.1)
    subst hn
    refine ⟨A, c, w, run_append_nil w base t ty e i size ht hi _ n xs hown c2, by simpa using hown, World.grownBy.refl w _, .inl rfl⟩
  · have hcells : ∀ j u, news[j]? = some u → w.cell? (ad.add j) = some u := by
      intro j u hu
      rcases Nat.eq_zero_or_pos m with h0 | h0
      · subst h0
        have hn : news = [] := List.eq_nil_of_length_eq_zero (by simpa using hr.1)
        subst hn
        simp at hu
      · obtain ⟨b, off, he, _, _, hc⟩ := hr.2 h0
        injection he with he
        subst he
        have := hc j u hu
        by_cases hj : j = 0
        · subst hj; simpa [Addr.add] using this
        · simpa [Addr.add, hj] using this
    obtain ⟨v', w', hrun, h2, h3, _, h5⟩ := run_append_own_at (P := P) w base t ty e i z size bytes ht hi hz hsize hby hzs hsz _ n xs hown ad m c2 news hr.1 hcells h1 h63 hbytes hbase
    obtain ⟨A', c', rfl, ho, hb⟩ := own_slice w' h2
    have hA : (Value.slice A n c).ownBlock = blk A := by cases A <;> rfl
    rw [hA] at h3
    refine ⟨A', c', w', hrun, ho, h3, ?_⟩
    rcases h5 with h5 | h5
    · left; rw [← hb, h5, hA]
    · right; rw [← hb, h5]

theorem wp_append_row {o : Oper} {a : Act} {K : Act → World → Prop} {Q : Exit → Act → World → Prop} (s x : Operand) (t : TypeId)
    (ho : o.op = .call { callee := .builtin .append, args := #[s, x], argTypes := #[t, t] })
    (base : Nat) (e : TypeId) (i : TypeInfo) (z : Value) (size bytes : Nat) (ht : P.underlying t = some (.slice e)) (hi : P.info? e = some i) (hz : i.zero = some z)
    (hsize : i.size = size) (hby : i.bytes = bytes) (hzs : z.cells.size = size) (hsz : 0 < size)
    (A : Option Addr) (n c : Nat) (xs : List Value) (hs : a.eval s = .slice A n c) (hown : Own w base e size A n c xs)
    (D : Nat → Prop) (A2 : Option Addr) (m c2 : Nat) (news : List Value) (hx : a.eval x = .slice A2 m c2) (hr : Row w D A2 m size news) (h1 : ∀ u ∈ news, u.oneCell' = true)
    (h63 : n + m ≤ maxLen) (hbytes : (n + m) * bytes ≤ 140737488355328) (hbase : base ≤ w.heap.size)
    (h : ∀ A' c' w', Own w' base e size A' (n + m) c' (xs ++ news) → w.grownBy w' (blk A) → (blk A' = blk A ∨ blk A' = some w.heap.size) → K (a.put o.dst (.slice A' (n + m) c')) w') : o.wp P a w K Q := by
  obtain ⟨A', c', w', hrun, h2, h3, h4⟩ := run_append_row (P := P) w base t o.type e i z size bytes ht hi hz hsize hby hzs hsz A n c xs hown D A2 m c2 news hr h1 h63 hbytes hbase
  unfold Oper.wp execOp
  simp only [ho, resolve, invoke, builtin, Sem.run_bind, Sem.run_pure, Result.andThen_ok, List.map_toArray, List.map_cons, List.map_nil, hs, hx, hrun]
  exact h A' c' w' h2 h3 h4

theorem wpList_append_row {ops : Array Oper} {rest : List Oper} {o : Oper} {a : Act} {Q : Exit → Act → World → Prop} (hgd : o.guard = none) (s x : Operand) (t : TypeId)
    (ho : o.op = .call { callee := .builtin .append, args := #[s, x], argTypes := #[t, t] })
    (base : Nat) (e : TypeId) (i : TypeInfo) (z : Value) (size bytes : Nat) (ht : P.underlying t = some (.slice e)) (hi : P.info? e = some i) (hz : i.zero = some z)
    (hsize : i.size = size) (hby : i.bytes = bytes) (hzs : z.cells.size = size) (hsz : 0 < size)
    (A : Option Addr) (n c : Nat) (xs : List Value) (hs : a.eval s = .slice A n c) (hown : Own w base e size A n c xs)
    (D : Nat → Prop) (A2 : Option Addr) (m c2 : Nat) (news : List Value) (hx : a.eval x = .slice A2 m c2) (hr : Row w D A2 m size news) (h1 : ∀ u ∈ news, u.oneCell' = true)
    (h63 : n + m ≤ maxLen) (hbytes : (n + m) * bytes ≤ 140737488355328) (hbase : base ≤ w.heap.size)
    (h : ∀ A' c' w', Own w' base e size A' (n + m) c' (xs ++ news) → w.grownBy w' (blk A) → (blk A' = blk A ∨ blk A' = some w.heap.size) → wpList P ops Q rest (a.put o.dst (.slice A' (n + m) c')) w') : wpList P ops Q (o :: rest) a w :=
  wpList_plain hgd fun _ hK => wp_append_row w s x t ho base e i z size bytes ht hi hz hsize hby hzs hsz A n c xs hs hown D A2 m c2 news hx hr h1 h63 hbytes hbase fun A' c' w' h2 h3 h4 => hK _ _ (h A' c' w' h2 h3 h4)
end

/-! ### a whole row stored -/
theorem wpList_store_new {P : Program} {ops : Array Oper} {rest : List Oper} {o : Oper} {a : Act} {Q : Exit → Act → World → Prop} {w : World} (hgd : o.guard = none) (ty : TypeId) (x y : Operand) (ho : o.op = .store ty x y)
    (t : TypeId) (c c' : Array Value) (hx : a.eval x = .pointer (some ⟨w.heap.size, 0, none⟩)) (hy : a.eval y = .agg c')
    (hi : (P.info? t).map (·.size) = some c'.size) (hty : ty = t) (hs : c.size = c'.size) (h1 : c'.all (·.oneCell') = true)
    (h : wpList P ops Q rest (a.put o.dst undef) (w.alloc (.cells c' t))) : wpList P ops Q (o :: rest) a (w.alloc (.cells c t)) := by
  subst hty
  refine wpList_plain hgd fun K hK => ?_
  unfold Oper.wp execOp
  simp only [ho, hx, hy, Sem.run_bind, run_storeAt_new w ty c c' hi hs h1, Result.andThen, Sem.run_pure]
  exact hK _ _ h

theorem wpList_build_as {P : Program} {ops : Array Oper} {rest : List Oper} {o : Oper} {a : Act} {w : World} {Q : Exit → Act → World → Prop} (hg : o.guard = none) (t : TypeId) (parts : Array (Nat × Operand)) (ho : o.op = .build t parts)
    (cs : Array Value) (hf : P.built t (parts.map fun (i, x) => (i, a.eval x)).toList = some cs) (h : wpList P ops Q rest (a.put o.dst (.agg cs)) w) : wpList P ops Q (o :: rest) a w :=
  wpList_build hg t parts ho (by rw [hf]; rfl) (by rw [hf]; exact h)

/-! ### the same in a region that draws its order -/
section
variable {P : Program} (w : World)
theorem step_append_row {ops : Array Oper} {o : Oper} {a : Act} {K : Act → World → Prop} {Q : Exit → Act → World → Prop} {E : Prop} (hgd : o.guard = none) (s x : Operand) (t : TypeId)
    (ho : o.op = .call { callee := .builtin .append, args := #[s, x], argTypes := #[t, t] })
    (base : Nat) (e : TypeId) (i : TypeInfo) (z : Value) (size bytes : Nat) (ht : P.underlying t = some (.slice e)) (hi : P.info? e = some i) (hz : i.zero = some z)
    (hsize : i.size = size) (hby : i.bytes = bytes) (hzs : z.cells.size = size) (hsz : 0 < size)
    (A : Option Addr) (n c : Nat) (xs : List Value) (hs : a.eval s = .slice A n c) (hown : Own w base e size A n c xs)
    (D : Nat → Prop) (A2 : Option Addr) (m c2 : Nat) (news : List Value) (hx : a.eval x = .slice A2 m c2) (hr : Row w D A2 m size news) (h1 : ∀ u ∈ news, u.oneCell' = true)
    (h63 : n + m ≤ maxLen) (hbytes : (n + m) * bytes ≤ 140737488355328) (hbase : base ≤ w.heap.size)
    (h : ∀ A' c' w', Own w' base e size A' (n + m) c' (xs ++ news) → w.grownBy w' (blk A) → (blk A' = blk A ∨ blk A' = some w.heap.size) → K (a.put o.dst (.slice A' (n + m) c')) w') :
    if Region.wanted o (yielded ops a.tmps) = true then Oper.wp P o a w K Q else E := by
  have hw : Region.wanted o (yielded ops a.tmps) = true := by simp [Region.wanted, hgd]
  rw [if_pos hw]
  exact wp_append_row w s x t ho base e i z size bytes ht hi hz hsize hby hzs hsz A n c xs hs hown D A2 m c2 news hx hr h1 h63 hbytes hbase h
end

/-! ### bytes -/
def bv (b : UInt8) : Int := b.toNat
theorem bv_bd (b : UInt8) : 0 ≤ bv b ∧ bv b ≤ 255 := by have := b.toNat_lt; unfold bv; omega
theorem bv_inj {a b : UInt8} (h : bv a = bv b) : a = b := by unfold bv at h; exact UInt8.toNat_inj.1 (by omega)
def byteVal (b : UInt8) : Value := .int .u8 (bv b)
theorem byteVal_one (bs : List UInt8) : ∀ u ∈ bs.map byteVal, u.oneCell' = true := by
  intro u hu; obtain ⟨b, _, rfl⟩ := List.mem_map.1 hu; rfl
abbrev Bs (w : World) (D : Nat → Prop) (A : Option Addr) (n : Nat) (bs : List UInt8) : Prop := Row w D A n 1 (bs.map byteVal)
section
variable {D E : Nat → Prop} {w w' : World} {A : Option Addr} {n : Nat} {bs : List UInt8}
theorem Bs.len (h : Bs w D A n bs) : bs.length = n := by simpa using h.1
theorem Bs.cellAt (h : Bs w D A n bs) (hn : 0 < n) : ∃ b off, A = some ⟨b, off, none⟩ ∧ D b ∧ b < w.heap.size ∧ ∀ k (hk : k < bs.length), w.cell? ⟨b, off + k, none⟩ = some (.int .u8 (bv bs[k])) := by
  obtain ⟨b, off, e, hd, hl, hc⟩ := h.2 hn
  exact ⟨b, off, e, hd, hl, fun k hk => hc k _ (by rw [List.getElem?_map, List.getElem?_eq_getElem hk]; rfl)⟩
theorem Bs.cut (h : Bs w D A n bs) {l hi cap : Nat} (hl : l ≤ hi) (hh : hi ≤ n) (hc : n ≤ cap) : Bs w D (if cap = l then A else A.map (·.add (l * 1))) (hi - l) ((bs.drop l).take (hi - l)) := by
  have := Row.cut h hl hh hc
  rw [Nat.mul_one (hi - l), Nat.mul_one l, ← List.map_drop, ← List.map_take] at this
  rw [Nat.mul_one l]
  exact this
theorem Bs.from_ (h : Bs w D A n bs) {l : Nat} (hl : l ≤ n) : Bs w D (Option.map (fun x => x.add l) A) (n - l) (bs.drop l) := by
  have := Row.from_ h hl
  rw [Nat.mul_one, ← List.map_drop] at this
  exact this
theorem Bs.cutTo (h : Bs w D A n bs) {hi : Nat} (hh : hi ≤ n) : Bs w D A hi (bs.take hi) := by
  have := Row.cutTo h hh
  rw [Nat.mul_one, ← List.map_take] at this
  exact this
end
abbrev OwnB (w : World) (base : Nat) (e : TypeId) (A : Option Addr) (n c : Nat) (bs : List UInt8) : Prop := Own w base e 1 A n c (bs.map byteVal)
end Go.Proofs.YtpbbfbgmpidgnaaDoor
