/-
  PROVED HERE: texts that belong together, one behind the other; what each proves, and under which conditions, its own opening remark says: AgainMem, Asks21.
-/
import Derived.Test.YtajnkbfcnmajoaaGreatDoorPkB08
import Derived.Test.YtajnkbfcnmajoaaGreatDoorPkB29
import Derived.Test.YtajnkbfcnmajoaaGreatDoorPkH02
/-
  PROVED HERE: plain lemmas on chapter 21's world that is opened again: its numbers, and that it is one; no program is in sight but for numbers of types.
-/
namespace Go.Proofs.YtajnkbfcnmajoaaGreatDoor
open Go.RowKit
section
variable {id : List UInt8} {l : List (List RecP)}
theorem recs_take_le (l : List (List RecP)) (i : Nat) : (l.take i).flatten.length ≤ l.flatten.length := by
 conv => rhs; rw [← List.take_append_drop i l, List.flatten_append, List.length_append]
 omega
theorem next_take (hf : LogFine id l) (i : Nat) : 1 ≤ (logOf id (l.take i)).next ∧ (logOf id (l.take i)).next ≤ (logOf id l).next ∧ (logOf id (l.take i)).next = 1 + ((logOf id (l.take i)).recs.length : Int) := by
 have h1 := hf.ok
 have h2 := (hf.take i).ok
 have h3 := recs_take_le l i
 have h4 := h1.next
 have h5 := h2.next
 rw [← h1.recs, ← h2.recs] at h3
 omega
theorem head_first (hf : LogFine id l) {i : Nat} (hil : i < l.length) : ((logOf id l).heads.getD i noHead).first = (logOf id (l.take i)).next ∧ ((logOf id l).heads.getD i noHead).count = (l[i].length : Int) := by
 rw [head_at hf hil]; exact ⟨rfl, rfl⟩
theorem heads_get (_hf : LogFine id l) {i : Nat} (h : i < (logOf id l).heads.length) : (logOf id l).heads[i] = (logOf id l).heads.getD i noHead := by
 rw [List.getD_eq_getElem?_getD, List.getElem?_eq_getElem h]; rfl
end
section
variable {w w5 w6 : World} {D DL : Nat → Prop} {base bw : Nat} {q : DiskB} {v : W21V} {s : LogS} {lv lv' : LogV} {A : Option Addr} {c : Nat} {S : List UInt8}
def W21V.reopen (v : W21V) (bl : Nat) (m : RefL) : W21V := { v with bl := bl, m := m, Aw := none, nw := 0, cw := 0 }
theorem Mid.again {bl n0 : Nat} {m : RefL} (h : Mid w D DL base bw q v s lv A c S) (k5 : New w w5) (hn0 : w.heap.size ≤ n0) (hbl : n0 ≤ bl) (ho : LogOn w5 (fun b => n0 ≤ b ∧ b ≠ bl) n0 bl q lv' none 0 S) (k6 : Keep (fun j => j ≠ bw) w5 w6) (hc : W21At w6 bw (v.reopen bl m)) :
  Mid w6 (fun b => D b ∧ b < w.heap.size) (fun b => n0 ≤ b ∧ b ≠ bl) base bw q (v.reopen bl m) ⟨s.segs, []⟩ lv' none 0 S := by
 have a := h.apart
 have n := h.doc.no
 have hlt := h.doc.cells.lt
 have d2 : DocAt w5 (fun b => D b ∧ b < w.heap.size) base bw v s := (h.doc.imp (F := fun b => D b ∧ b < w.heap.size) (fun b hb hd => ⟨hd, hb⟩) (fun b hb => h.doc.out b hb.1)).new k5
 have l2 := h.doc.heads.lt
 have l3 := h.doc.all.lt
 have l4 := h.doc.image.lt
 have hr : LogOn w5 (fun b => n0 ≤ b ∧ b ≠ bl) base bl q lv' none 0 S := LogOn.rebase ho (by have := h.size; omega)
 have hk := hr.keep k6 (by omega) (fun k hk => by cases hk) (fun b hb => by omega) (fun b hb e => diskOf_not hb (by rw [e]; exact a.wd))
 refine ⟨⟨hc, rfl, h.doc.nh, h.doc.na, h.doc.ni, OwnSl.nil _ _ _ _ _, ?_, ?_, ?_, fun b hb => (show b ≠ bw ∧ some b ≠ blk (none : Option Addr) ∧ some b ≠ blk v.Ah ∧ some b ≠ blk v.Aa ∧ some b ≠ blk v.Ai from ?_), fun k hk => by cases hk⟩, hk, h.bd, fun b hb => (show b ≠ bw ∧ some b ≠ blk (none : Option Addr) ∧ some b ≠ blk v.Ah ∧ some b ≠ blk v.Aa ∧ some b ≠ blk v.Ai from ?_), fun b hb => ?_, ?_, ?_⟩
 ·exact d2.heads.keepE k6 (fun k hk e => n.2.1 (by rw [hk, e])) (fun b hb => (h.doc.out b hb.1).1)
 ·exact d2.all.keepE k6 (fun k hk e => n.2.2.1 (by rw [hk, e])) (fun b hb => (h.doc.out b hb.1).1)
 ·exact d2.image.keepE k6 (fun k hk e => n.2.2.2 (by rw [hk, e])) (fun b hb => (h.doc.out b hb.1).1)
 ·obtain ⟨e1, e2, e3, e4, e5⟩ := h.doc.out b hb.1
  exact ⟨e1, ⟨fun e => (by cases e), e3, e4, e5⟩⟩
 ·exact ⟨by omega, fun e => (by cases e), fun e => by have := (l2 b e.symm).2; omega, fun e => by have := (l3 b e.symm).2; omega, fun e => by have := (l4 b e.symm).2; omega⟩
 ·exact ⟨by show b ≠ bl; omega, (h.cross2 b hb.1).2.1, fun e => (by cases e)⟩
 ·obtain ⟨l1, _, l5, l6, l7⟩ := h.low
  exact ⟨l1, by show base ≤ bl; have := h.size; omega, l5, l6, l7⟩
 ·have := k5.size; have := k6.size; have := h.size; omega
end
end Go.Proofs.YtajnkbfcnmajoaaGreatDoor
/-
  PROVED HERE: slices of chapter 21's asks, and of truths, that came in: how they read; no condition.
-/
namespace Go.Proofs.YtajnkbfcnmajoaaGreatDoor
open Go.ChangeShapes Go.WideShapes Go.ChangeAt Go.RowKit Go.Joins Go.Deep
structure AskP where
 kind : Int
 turn : Int
 mark : Bool
 body : List UInt8
instance : Inhabited AskP := ⟨⟨0, 0, false, []⟩⟩
def AskP.Fine (x : AskP) : Prop := (-9223372036854775808 ≤ x.kind ∧ x.kind ≤ 9223372036854775807) ∧ (-9223372036854775808 ≤ x.turn ∧ x.turn ≤ 9223372036854775807)
def askElt : Elt AskP where
 size := 4
 At w D vs i x := ∃ A c, vs[i + 0]? = some (.int .i64 x.kind) ∧ vs[i + 1]? = some (.int .i64 x.turn) ∧ vs[i + 2]? = some (.bool x.mark) ∧ vs[i + 3]? = some (.slice A x.body.length c) ∧ x.body.length ≤ c ∧ c ≤ 9223372036854775807 ∧ Bs w D A x.body.length x.body ∧ x.Fine
 pos := by decide
 keep := by
  rintro w w' D E vs i a ⟨A, c, e0, e1, e2, e3, h1, h2, hb, hf⟩ hk hE
  exact ⟨A, c, e0, e1, e2, e3, h1, h2, hb.keep hk hE, hf⟩
 imp := by
  rintro w D E vs i a ⟨A, c, e0, e1, e2, e3, h1, h2, hb, hf⟩ hE
  exact ⟨A, c, e0, e1, e2, e3, h1, h2, hb.imp hE, hf⟩
 shift := by
  rintro w D vs us i j a ⟨A, c, e0, e1, e2, e3, rest⟩ h
  exact ⟨A, c, h 0 (by decide) _ e0, h 1 (by decide) _ e1, h 2 (by decide) _ e2, h 3 (by decide) _ e3, rest⟩
 one := by
  rintro w D vs i a ⟨A, c, e0, e1, e2, e3, rest⟩ k hk
  match k, hk with
  | 0, _ => exact ⟨_, e0, rfl⟩
  | 1, _ => exact ⟨_, e1, rfl⟩
  | 2, _ => exact ⟨_, e2, rfl⟩
  | 3, _ => exact ⟨_, e3, rfl⟩
def boolElt : Elt Bool where
 size := 1
 At _ _ vs i x := vs[i + 0]? = some (.bool x)
 pos := by decide
 keep := fun h _ _ => h
 imp := fun h _ => h
 shift := fun h hs => hs 0 (by decide) _ h
 one := by
  intro w D vs i a h k hk
  match k, hk with
  | 0, _ => exact ⟨_, h, rfl⟩
set_option maxRecDepth 100000 in
theorem read_asks {H : Type} {enc : TypeId × Value → H} {W : World} {base : Nat} {sp : Nat → Bool} {held : Bool} {fuel : Nat} {v : Value} {x : DataW H × List MemPlace} (h : DataW.trod enc Tryz.prog W base sp held fuel 54 [v] = some x) :
  ∃ (A : Option Addr) (n c : Nat) (ls : List AskP), v = .slice A n c ∧ n ≤ c ∧ c ≤ maxLen ∧ Sl askElt W (fun _ => True) A n ls := by
 rcases open_slice Tryz.underlying54 h with ⟨hc, _⟩ | ⟨a, len, cap, m, n, D, Pl, hc, _, hl, hm, hmm, _, hx⟩
 ·injection hc with hc
  exact ⟨none, 0, 0, [], hc, Nat.le_refl _, Nat.zero_le _, Sl.nil _ _ _ _⟩
 ·injection hc with hc
  have hlm : len ≤ m := by rw [hmm]; split <;> omega
  have ce : Tryz.prog.cellsOf 27 = 4 := by kernel_rfl
  have c0 : Tryz.prog.cellsOf 3 = 1 := by kernel_rfl
  have c2 : Tryz.prog.cellsOf 4 = 1 := by kernel_rfl
  have c3 : Tryz.prog.cellsOf 25 = 1 := by kernel_rfl
  obtain ⟨R, hR⟩ := choose_lt (α := AskP) (p := fun i r => ∃ A' c', W.cell? (a.add (i * 4)) = some (.int .i64 r.kind) ∧ W.cell? (a.add (i * 4 + 1)) = some (.int .i64 r.turn) ∧ W.cell? (a.add (i * 4 + 2)) = some (.bool r.mark) ∧ W.cell? (a.add (i * 4 + 3)) = some (.slice A' r.body.length c') ∧ r.body.length ≤ c' ∧ c' ≤ maxLen ∧ Bs W (fun _ => True) A' r.body.length r.body ∧ r.Fine) (fun i (hi : i < m) => by
   obtain ⟨cs', h1, h2⟩ := hx i hi
   rw [ce] at h1
   obtain ⟨_, hlen, hcell⟩ := World.cells?_some h1
   obtain ⟨xs, k, hk, hxy, _, hxl, hf⟩ := DataW.trod_struct Tryz.underlying27 h2
   match xs, hxl, cs', hlen with
   | [y0, y1, y2, y3], _, [v0, v1, v2, v3], _ =>
    have g0 := hf 0 _ rfl
    have g1 := hf 1 _ rfl
    have g2 := hf 2 _ rfl
    have g3 := hf 3 _ rfl
    simp [c0] at g0
    simp [c0] at g1
    simp [c2] at g2
    simp [c3] at g3
    have e0 := hcell 0 (by omega)
    have e1 := hcell 1 (by omega)
    have e2 := hcell 2 (by omega)
    have e3 := hcell 3 (by omega)
    rw [add_add] at e0 e1 e2 e3
    obtain ⟨z0, hz0, _, b0⟩ := DataW.trod_int Tryz.underlying3 g0
    injection hz0 with hz0
    obtain ⟨z1, hz1, _, b1⟩ := DataW.trod_int Tryz.underlying3 g1
    injection hz1 with hz1
    obtain ⟨z2, hz2, _⟩ := DataW.trod_bool Tryz.underlying4 g2
    injection hz2 with hz2
    obtain ⟨A', n', c', bs, hv, h5, h6, h7⟩ := read_bytes g3
    have hn := h7.len
    subst hn
    have hz0 : v0 = .int .i64 z0 := hz0
    have hz1 : v1 = .int .i64 z1 := hz1
    have hv : v3 = .slice A' bs.length c' := hv
    have hz2 : v2 = .bool z2 := hz2
    subst hz0 hz1 hz2 hv
    have f0 : -9223372036854775808 ≤ z0 ∧ z0 ≤ 9223372036854775807 := by simpa [Lit.wf, IntKind.min, IntKind.max, IntKind.signed, IntKind.bits] using b0
    have f1 : -9223372036854775808 ≤ z1 ∧ z1 ≤ 9223372036854775807 := by simpa [Lit.wf, IntKind.min, IntKind.max, IntKind.signed, IntKind.bits] using b1
    exact ⟨⟨z0, z1, z2, bs⟩, A', c', by simpa using e0, by simpa using e1, by simpa using e2, by simpa using e3, h5, h6, h7, f0, f1⟩)
  have hlen0 : 0 < len → a.spot = none := fun hp => by
   obtain ⟨_, _, e0, _⟩ := hR 0 (by omega)
   exact spot_none (by rw [Nat.zero_mul] at e0; exact e0)
  by_cases h0 : len = 0
  ·subst h0
   exact ⟨some a, 0, cap, [], hc, hl, hm, Sl.nil _ _ _ _⟩
  have hsp := hlen0 (by omega)
  obtain ⟨b, off, sp'⟩ := a
  simp only at hsp
  subst hsp
  have hadd : ∀ k, (Addr.mk b off none).add k = ⟨b, off + k, none⟩ := by
   intro k; unfold Addr.add; split
   ·rename_i e; subst e; rfl
   ·rfl
  simp only [hadd] at hR
  have hlt : b < W.heap.size := by
   obtain ⟨_, _, e0, _⟩ := hR 0 (by omega)
   exact World.block_lt_of_cell? W _ e0
  refine ⟨_, len, cap, (List.range len).map R, hc, hl, hm, (List.range (len * 4)).map fun j => (W.cell? ⟨b, off + j, none⟩).getD (.bool false), ⟨?_, fun hn => ⟨b, off, rfl, trivial, hlt, fun k u hu => ?_⟩⟩, ?_, fun k hk => ?_⟩
  ·rw [List.length_map, List.length_range]; rfl
  ·have hk : k < len * 4 := by
    have := (List.getElem?_eq_some_iff.1 hu).1
    rwa [List.length_map, List.length_range] at this
   rw [List.getElem?_map, List.getElem?_range hk] at hu
   simp only [Option.map_some, Option.some.injEq] at hu
   obtain ⟨A', c', e0, e1, e2, e3, _⟩ := hR (k / 4) (by omega)
   have hsome : ∃ u, W.cell? ⟨b, off + k, none⟩ = some u := by
    have hc4 : k % 4 = 0 ∨ k % 4 = 1 ∨ k % 4 = 2 ∨ k % 4 = 3 := by omega
    rcases hc4 with h4 | h4 | h4 | h4
    ·rw [show off + k / 4 * 4 = off + k from by omega] at e0; exact ⟨_, e0⟩
    ·rw [show off + (k / 4 * 4 + 1) = off + k from by omega] at e1; exact ⟨_, e1⟩
    ·rw [show off + (k / 4 * 4 + 2) = off + k from by omega] at e2; exact ⟨_, e2⟩
    ·rw [show off + (k / 4 * 4 + 3) = off + k from by omega] at e3; exact ⟨_, e3⟩
   obtain ⟨u', hu'⟩ := hsome
   rw [hu'] at hu ⊢
   rw [← hu]; rfl
  ·simp
  ·have hk' : k < len := by simpa using hk
   obtain ⟨A', c', e0, e1, e2, e3, h1, h2, h3, h4⟩ := hR k (by omega)
   have hg : ((List.range len).map R)[k] = R k := by simp
   rw [hg]
   unfold maxLen at h2
   have hget : ∀ j u, j < 4 → W.cell? ⟨b, off + (k * 4 + j), none⟩ = some u → ((List.range (len * 4)).map fun j => (W.cell? ⟨b, off + j, none⟩).getD (.bool false))[k * 4 + j]? = some u := fun j u hj hu => by
    rw [List.getElem?_map, List.getElem?_range (by omega)]
    simp only [Option.map_some]
    rw [hu]; rfl
   exact ⟨A', c', hget 0 _ (by decide) e0, hget 1 _ (by decide) e1, hget 2 _ (by decide) e2, hget 3 _ (by decide) e3, h1, by omega, h3, h4⟩
set_option maxRecDepth 100000 in
theorem read_bools {H : Type} {enc : TypeId × Value → H} {W : World} {base : Nat} {sp : Nat → Bool} {held : Bool} {fuel : Nat} {v : Value} {x : DataW H × List MemPlace} (h : DataW.trod enc Tryz.prog W base sp held fuel 61 [v] = some x) :
  ∃ (A : Option Addr) (n c : Nat) (ls : List Bool), v = .slice A n c ∧ n ≤ c ∧ c ≤ maxLen ∧ Sl boolElt W (fun _ => True) A n ls := by
 rcases open_slice1 Tryz.underlying61 (by kernel_rfl) h with ⟨hc, _⟩ | ⟨a, len, cap, m, n, V, D, Pl, hc, _, hl, hm, hmm, _, hx⟩
 ·injection hc with hc
  exact ⟨none, 0, 0, [], hc, Nat.le_refl _, Nat.zero_le _, Sl.nil _ _ _ _⟩
 ·injection hc with hc
  have hlm : len ≤ m := by rw [hmm]; split <;> omega
  obtain ⟨R, hR⟩ := choose_lt (α := Bool) (p := fun i r => W.cell? (a.add i) = some (.bool r)) (fun i (hi : i < m) => by
   obtain ⟨h1, h2⟩ := hx i hi
   obtain ⟨z, hz, _⟩ := DataW.trod_bool Tryz.underlying4 h2
   injection hz with hz
   exact ⟨z, by rw [h1, hz]⟩)
  by_cases h0 : len = 0
  ·subst h0
   exact ⟨some a, 0, cap, [], hc, hl, hm, Sl.nil _ _ _ _⟩
  have hsp : a.spot = none := by
   have e0 := hR 0 (by omega)
   exact spot_none e0
  obtain ⟨b, off, sp'⟩ := a
  simp only at hsp
  subst hsp
  have hadd : ∀ k, (Addr.mk b off none).add k = ⟨b, off + k, none⟩ := by
   intro k; unfold Addr.add; split
   ·rename_i e; subst e; rfl
   ·rfl
  simp only [hadd] at hR
  have hlt : b < W.heap.size := World.block_lt_of_cell? W _ (hR 0 (by omega))
  refine ⟨_, len, cap, (List.range len).map R, hc, hl, hm, (List.range len).map fun j => .bool (R j), ⟨?_, fun hn => ⟨b, off, rfl, trivial, hlt, fun k u hu => ?_⟩⟩, ?_, fun k hk => ?_⟩
  ·rw [List.length_map, List.length_range]; exact (Nat.mul_one len).symm
  ·have hk : k < len := by
    have := (List.getElem?_eq_some_iff.1 hu).1
    rwa [List.length_map, List.length_range] at this
   rw [List.getElem?_map, List.getElem?_range hk] at hu
   simp only [Option.map_some, Option.some.injEq] at hu
   rw [hR k (by omega), hu]
  ·simp
  ·have hk' : k < len := by simpa using hk
   have hg : ((List.range len).map R)[k] = R k := by simp
   rw [hg]
   show ((List.range len).map fun j => Value.bool (R j))[k * 1 + 0]? = _
   rw [show k * 1 + 0 = k from by omega, List.getElem?_map, List.getElem?_range hk']; rfl
end Go.Proofs.YtajnkbfcnmajoaaGreatDoor
