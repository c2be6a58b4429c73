/-
  PROVED HERE: a slice of a law's raw records that came in: how it reads; no condition.
-/
import Derived.Test.YtpbbfbgmpidgnaaDoorRow
import Derived.Test.YtpbbfbgmpidgnaaDoorRecs
import Derived.Deep.SlicePairs
namespace Go.Proofs.YtpbbfbgmpidgnaaDoor
open Go.ChangeShapes Go.WideShapes Go.ChangeAt Go.RowKit Go.Joins Go.Deep

/-- a raw record, as data. -/
structure RawP where
  mark : Bool
  body : List UInt8
instance : Inhabited RawP := ⟨⟨false, []⟩⟩
/-- a slice of raw records. -/
def Raws (w : World) (D : Nat → Prop) (A : Option Addr) (n : Nat) (ls : List RawP) : Prop :=
  ∃ vs : List Value, Row w D A n 2 vs ∧ ls.length = n ∧ ∀ k (h : k < ls.length), ∃ A' c', vs[k * 2]? = some (.bool ls[k].mark) ∧ vs[k * 2 + 1]? = some (.slice A' ls[k].body.length c') ∧ ls[k].body.length ≤ c' ∧ c' ≤ 9223372036854775807 ∧ Bs w D A' ls[k].body.length ls[k].body
section
variable {w w' : World} {D E : Nat → Prop} {A : Option Addr} {n : Nat} {ls : List RawP}
theorem Raws.len (h : Raws w D A n ls) : ls.length = n := by obtain ⟨_, _, h, _⟩ := h; exact h
theorem Raws.keep (h : Raws w D A n ls) (hk : Keep E w w') (hE : ∀ b, b < w.heap.size → D b → E b) : Raws w' D A n ls := by
  obtain ⟨vs, h1, h2, h3⟩ := h
  refine ⟨vs, h1.keep hk hE, h2, fun k hk' => ?_⟩
  obtain ⟨A', c', e1, e2, e3, e4, hb⟩ := h3 k hk'
  exact ⟨A', c', e1, e2, e3, e4, hb.keep hk hE⟩
theorem Raws.new (h : Raws w D A n ls) (hk : New w w') : Raws w' D A n ls := h.keep hk fun _ _ _ => trivial
theorem Raws.imp (h : Raws w D A n ls) (hE : ∀ b, b < w.heap.size → D b → E b) : Raws w E A n ls := by
  obtain ⟨vs, h1, h2, h3⟩ := h
  refine ⟨vs, h1.imp hE, h2, fun k hk' => ?_⟩
  obtain ⟨A', c', e1, e2, e3, e4, hb⟩ := h3 k hk'
  exact ⟨A', c', e1, e2, e3, e4, hb.imp hE⟩
theorem Raws.at_ (h : Raws w D A n ls) {k : Nat} (hk : k < ls.length) :
    ∃ b off A' c', A = some ⟨b, off, none⟩ ∧ w.cell? ⟨b, off + k * 2, none⟩ = some (.bool ls[k].mark) ∧ w.cell? ⟨b, off + k * 2 + 1, none⟩ = some (.slice A' ls[k].body.length c') ∧ ls[k].body.length ≤ c' ∧ c' ≤ 9223372036854775807 ∧ Bs w D A' ls[k].body.length ls[k].body := by
  obtain ⟨vs, h1, h2, h3⟩ := h
  obtain ⟨A', c', e1, e2, hc, h4, hb⟩ := h3 k hk
  obtain ⟨b, off, hA, _, _, hcell⟩ := h1.2 (by omega)
  exact ⟨b, off, A', c', hA, hcell _ _ e1, by rw [Nat.add_assoc]; exact hcell _ _ e2, hc, h4, hb⟩
end
/-- raw records that came in. -/
theorem read_raws {H : Type} {enc : TypeId × Value → H} {W : World} {base : Nat} {sp : Nat → Bool} {held : Bool} {fuel : Nat} {v : Value} {x : DataW H × List MemPlace} (h : DataW.trod enc Tryd.prog W base sp held fuel 22 [v] = some x) :
    ∃ (A : Option Addr) (n c : Nat) (ls : List RawP), v = .slice A n c ∧ n ≤ c ∧ c ≤ maxLen ∧ Raws W (fun _ => True) A n ls := by
  rcases open_slice_pairs Tryd.underlying22 Tryd.underlying70 (by kernel_rfl) rfl rfl (by kernel_rfl) (by kernel_rfl) h with ⟨hc, _⟩ | ⟨a, len, cap, m, n, V0, V1, D0, D1, P0, P1, hc, _, hl, hm, hmm, _, hx⟩
  · injection hc with hc
    exact ⟨none, 0, 0, [], hc, Nat.le_refl _, Nat.zero_le _, [], Row.nil _ _ _ _, rfl, fun k hk => absurd hk (by simp)⟩
  · injection hc with hc
    have hlm : len ≤ m := by rw [hmm]; split <;> omega
    obtain ⟨R, hR⟩ := choose_lt (α := RawP) (p := fun i r => V0 i = .bool r.mark ∧ ∃ A' c', V1 i = .slice A' r.body.length c' ∧ r.body.length ≤ c' ∧ c' ≤ maxLen ∧ Bs W (fun _ => True) A' r.body.length r.body) (fun i (hi : i < m) => by
      obtain ⟨_, _, g0, g1⟩ := hx i hi
      obtain ⟨b, hb, _⟩ := DataW.trod_bool Tryd.underlying4 g0
      injection hb with hb
      obtain ⟨A', n', c', bs, hv, h1, h2, h3⟩ := read_bytes g1
      have hn := h3.len
      subst hn
      exact ⟨⟨b, bs⟩, hb, A', c', hv, h1, h2, h3⟩)
    refine ⟨some a, len, cap, (List.range len).map R, hc, hl, hm, (List.range (len * 2)).map fun j => if j % 2 = 0 then V0 (j / 2) else V1 (j / 2), ⟨by simp, fun hn => ?_⟩, by simp, fun k hk => ?_⟩
    · have h0 := (hx 0 (by omega)).1
      have hsp : a.spot = none := spot_none h0
      obtain ⟨b, off, sp'⟩ := a
      simp only at hsp
      subst hsp
      have hadd : ∀ k, (Addr.mk b off none).add k = ⟨b, off + k, none⟩ := by
        intro k; unfold Addr.add; split
        · rename_i e; subst e; rfl
        · rfl
      rw [hadd] at h0
      have hlt := World.block_lt_of_cell? W _ h0
      refine ⟨b, off, rfl, trivial, hlt, fun k u hu => ?_⟩
      have hk : k < len * 2 := by
        have := (List.getElem?_eq_some_iff.1 hu).1
        rwa [List.length_map, List.length_range] at this
      rw [List.getElem?_map, List.getElem?_range hk] at hu
      simp only [Option.map_some, Option.some.injEq] at hu
      obtain ⟨c0, c1, _, _⟩ := hx (k / 2) (by omega)
      rw [hadd] at c0 c1
      by_cases he : k % 2 = 0
      · rw [if_pos he] at hu
        rw [show off + k / 2 * 2 = off + k from by omega] at c0
        rw [c0, hu]
      · rw [if_neg he] at hu
        rw [show off + (k / 2 * 2 + 1) = off + k from by omega] at c1
        rw [c1, hu]
    · have hk' : k < len := by simpa using hk
      obtain ⟨e0, A', c', e1, h1, h2, h3⟩ := hR k (by omega)
      have hg : ((List.range len).map R)[k] = R k := by simp
      rw [hg]
      unfold maxLen at h2
      refine ⟨A', c', ?_, ?_, h1, by omega, h3⟩
      · rw [List.getElem?_map, List.getElem?_range (by omega)]
        simp only [Option.map_some]
        rw [if_pos (by omega), show k * 2 / 2 = k from by omega, e0]
      · rw [List.getElem?_map, List.getElem?_range (by omega)]
        simp only [Option.map_some]
        rw [if_neg (by omega), show (k * 2 + 1) / 2 = k from by omega, e1]
/-- what a law makes of a raw record. -/
def rawRec (r : RawP) (seq : Int) (most : Nat) : RecP := if r.mark = true then ⟨2, seq, []⟩ else ⟨1, seq, r.body.take most⟩
def rawRecs (first : Int) (most : Nat) (l : List RawP) (k : Nat) : List RecP := (List.range k).map fun i => rawRec (l.getD i default) (IntKind.u64.wrap (first + i)) most
theorem rawRecs_succ (first : Int) (most : Nat) (l : List RawP) (k : Nat) (hk : k < l.length) : rawRecs first most l (k + 1) = rawRecs first most l k ++ [rawRec l[k] (IntKind.u64.wrap (first + k)) most] := by
  unfold rawRecs
  rw [List.range_succ, List.map_append, List.map_singleton, List.getD_eq_getElem?_getD, List.getElem?_eq_getElem hk]
  rfl
theorem rawRecs_length (first : Int) (most : Nat) (l : List RawP) (k : Nat) : (rawRecs first most l k).length = k := by simp [rawRecs]
end Go.Proofs.YtpbbfbgmpidgnaaDoor
