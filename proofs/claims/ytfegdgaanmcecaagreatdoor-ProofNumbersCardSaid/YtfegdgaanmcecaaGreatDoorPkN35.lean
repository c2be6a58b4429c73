/-
  PROVED HERE: checks of proofs that lie in memory; what is made of a chain is small; bytes lie apart from a record's cells; conditions: lengths that a slice may have.
-/
import Derived.Test.YtfegdgaanmcecaaGreatDoorPkN29
import Derived.Test.YtfegdgaanmcecaaGreatDoorPkN32
namespace Go.Proofs.YtfegdgaanmcecaaGreatDoor
open Go.RowKit
structure SmallP (p : ProofP) : Prop where
 leaf : p.leaf.length ≤ 1099511620000
 path : ∀ b ∈ p.path, b.length ≤ 549755810000
 count : p.head.count ≤ 1099511627776
 later : p.later.length ≤ 1000000
section
variable {w : World} {D E F : Nat → Prop} {p : ProofP} {A P1 R1 L Pa La : Option Addr} {n c p1 r1 lc pc lac q : Nat} {hd : List UInt8}
theorem check_pr (hA : Bs w D A n hd) (h : PrAt w E p P1 R1 L Pa p1 r1 lc pc) (hLa : Heads w F La q p.later) (hs : SmallP p) :
  Calls Tryz.prog 13 #[.slice A n c, .agg #[.int .i64 p.head.index, .int .u64 p.head.first, .int .i64 p.head.count, .int .i64 p.head.bytes, .slice P1 p.head.prev.length p1, .slice R1 p.head.root.length r1, .int .i64 p.place, .slice L p.leaf.length lc, .slice Pa p.path.length pc, .slice La q lac]] w (CheckRet (checkProof hd p) w) :=
 pcheck_any D E E E E F A P1 R1 L Pa La n c p1 r1 lc p.path.length pc q lac hd p w hA h.prev h.hp h.root h.hr h.leaf h.hl hs.leaf h.path.bss h.hpa h.hpm hs.path hLa (by have := hLa.len; have := hs.later; omega) hs.count h.f0 h.f1
theorem check24_pr (hA : Bs w D A n hd) (h : PrAt w E p P1 R1 L Pa p1 r1 lc pc) (hLa : Heads w F La q p.later) (hs : SmallP p) :
  Calls Tryz.prog 19 #[.slice A n c, .agg #[.int .i64 p.head.index, .int .u64 p.head.first, .int .i64 p.head.count, .int .i64 p.head.bytes, .slice P1 p.head.prev.length p1, .slice R1 p.head.root.length r1, .int .i64 p.place, .slice L p.leaf.length lc, .slice Pa p.path.length pc, .slice La q lac]] w (CheckRet (checkProof hd p) w) :=
 pcheck24_any D E E E E F A P1 R1 L Pa La n c p1 r1 lc p.path.length pc q lac hd p w hA h.prev h.hp h.root h.hr h.leaf h.hl h.hlm hs.leaf h.path.bss h.hpa h.hpm hs.path hLa (by have := hLa.len; have := hs.later; omega) hs.count h.f0 h.f1
end
theorem pathOf_lens (n : Nat) : ∀ (ls : List (List UInt8)) (i : Nat), ls.length = n → ∀ b ∈ pathOf ls i, b.length = 32 := by
 induction n using Nat.strongRecOn with
 | _ n ih =>
  intro ls i hl b hb
  by_cases h2 : 2 ≤ ls.length
  ·have hp := partN_lt h2
   have hq := partN_pos ls.length
   by_cases hi : i < partN ls.length
   ·rw [pathOf_left ls i h2 hi] at hb
    rcases List.mem_append.1 hb with h | h
    ·exact ih (ls.take (partN ls.length)).length (by rw [List.length_take]; omega) _ i rfl b h
    ·rw [List.mem_singleton] at h
     rw [h]; exact rootOf_length _
   ·rw [pathOf_right ls i h2 hi] at hb
    rcases List.mem_append.1 hb with h | h
    ·exact ih (ls.drop (partN ls.length)).length (by rw [List.length_drop]; omega) _ _ rfl b h
    ·rw [List.mem_singleton] at h
     rw [h]; exact rootOf_length _
  ·rw [pathOf_few ls i (by omega)] at hb
   cases hb
theorem leaf_small (rs : List RecP) (i : Nat) : ((leavesOf rs).getD i []).length ≤ 915 := by
 rw [List.getD_eq_getElem?_getD]
 cases h : (leavesOf rs)[i]? with
 | none => simp
 | some b =>
  unfold leavesOf at h
  rw [List.getElem?_map] at h
  cases h2 : rs[i]? with
  | none => rw [h2] at h; cases h
  | some r =>
   rw [h2] at h
   injection h with h
   subst h
   simp only [Option.getD_some]
   split
   ·rename_i hr
    rw [recEnc_len hr]
    rw [recRight_def, decide_eq_true_eq] at hr
    omega
   ·simp
theorem chain_small (id : List UInt8) (l : List (List (List UInt8))) {n i : Nat} (hn : n ≤ 1000) (s : Int) : SmallP (chainProof id l n i s) := by
 have h6 : (segRecs id l i).length ≤ 6 := (chainRecs_length _ _).2
 refine ⟨Nat.le_trans (leaf_small _ _) (by decide), fun b hb => ?_, ?_, ?_⟩
 ·have := pathOf_lens _ (leavesOf (segRecs id l i)) _ rfl b hb
  omega
 ·show (((segRecs id l i).length : Nat) : Int) ≤ _
  omega
 ·show ((chainTo id l n).heads.drop (i + 1)).length ≤ _
  rw [List.length_drop, chain_heads_len]
  omega
theorem bs_apart3 {w : World} {D : Nat → Prop} {A : Option Addr} {n : Nat} {bs : List UInt8} {g : Nat} {x y : Int} {Q : Option Addr} {m c : Nat} {t : TypeId} (h : Bs w D A n bs) (hg : w.heap[g]? = some (.cells #[.int .i64 x, .int .u64 y, .slice Q m c] t (0, 0))) : Bs w (fun b => D b ∧ b ≠ g) A n bs := by
 refine ⟨h.1, fun hn => ?_⟩
 obtain ⟨b, off, hA, hD, hb, hc⟩ := h.2 hn
 refine ⟨b, off, hA, ⟨hD, fun e => ?_⟩, hb, hc⟩
 subst e
 have hl := h.len
 have h0 := hc 0 (byteVal (bs[0]'(by omega))) (by rw [List.getElem?_map, List.getElem?_eq_getElem (by omega)]; rfl)
 rw [cell_of_row w b (off + 0) _ t (0, 0) hg] at h0
 match off, h0 with
 | 0, h0 => simp [byteVal] at h0
 | 1, h0 => simp [byteVal] at h0
 | 2, h0 => simp [byteVal] at h0
 | k + 3, h0 => simp at h0
end Go.Proofs.YtfegdgaanmcecaaGreatDoor
