/-
  PROVED HERE: texts that belong together, one behind the other; what each proves, and under which conditions, its own opening remark says: Pr, Raws24, Codec2, Reader2.
-/
import Derived.Test.YtfegdgaanmcecaaGreatDoorPkK06
import Derived.Test.YtfegdgaanmcecaaGreatDoorPkK11
import Derived.Test.YtfegdgaanmcecaaGreatDoorPkK30
import Derived.Test.YtfegdgaanmcecaaGreatDoorPkK37
import Derived.Test.YtfegdgaanmcecaaGreatDoorPkK41
/-
  PROVED HERE: checks of proofs that lie in memory; what is made of a chain is small; bytes lie apart from a record's cells; conditions: lengths that a slice may have.
-/
namespace Go.Proofs.YtfegdgaanmcecaaGreatDoor
open Go.RowKit

/-- lengths that a check asks for. -/
structure SmallP (p : ProofP) : Prop where
  leaf : p.leaf.length ≤ 1099511620000
  path : ∀ b ∈ p.path, b.length ≤ 549755810000
  count : p.head.count ≤ 1099511627776
  later : p.later.length ≤ 1000000
section
variable {w : World} {D E F : Nat → Prop} {p : ProofP} {A P1 R1 L Pa La : Option Addr} {n c p1 r1 lc pc lac q : Nat} {hd : List UInt8}
theorem check_pr (hA : Bs w D A n hd) (h : PrAt w E p P1 R1 L Pa p1 r1 lc pc) (hLa : Heads w F La q p.later) (hs : SmallP p) :
    Calls Tryz.prog 13 #[.slice A n c, .agg #[.int .i64 p.head.index, .int .u64 p.head.first, .int .i64 p.head.count, .int .i64 p.head.bytes, .slice P1 p.head.prev.length p1, .slice R1 p.head.root.length r1, .int .i64 p.place, .slice L p.leaf.length lc, .slice Pa p.path.length pc, .slice La q lac]] w (CheckRet (checkProof hd p) w) :=
  pcheck_any D E E E E F A P1 R1 L Pa La n c p1 r1 lc p.path.length pc q lac hd p w hA h.prev h.hp h.root h.hr h.leaf h.hl hs.leaf h.path.bss h.hpa h.hpm hs.path hLa (by have := hLa.len; have := hs.later; omega) hs.count h.f0 h.f1



end
/-- a path's rows are hashes. -/
theorem pathOf_lens (n : Nat) : ∀ (ls : List (List UInt8)) (i : Nat), ls.length = n → ∀ b ∈ pathOf ls i, b.length = 32 := by
  induction n using Nat.strongRecOn with
  | _ n ih =>
    intro ls i hl b hb
    by_cases h2 : 2 ≤ ls.length
    · have hp := partN_lt h2
      have hq := partN_pos ls.length
      by_cases hi : i < partN ls.length
      · rw [pathOf_left ls i h2 hi] at hb
        rcases List.mem_append.1 hb with h | h
        · exact ih (ls.take (partN ls.length)).length (by rw [List.length_take]; omega) _ i rfl b h
        · rw [List.mem_singleton] at h
          rw [h]; exact rootOf_length _
      · rw [pathOf_right ls i h2 hi] at hb
        rcases List.mem_append.1 hb with h | h
        · exact ih (ls.drop (partN ls.length)).length (by rw [List.length_drop]; omega) _ _ rfl b h
        · rw [List.mem_singleton] at h
          rw [h]; exact rootOf_length _
    · rw [pathOf_few ls i (by omega)] at hb
      cases hb
theorem leaf_small (rs : List RecP) (i : Nat) : ((leavesOf rs).getD i []).length ≤ 915 := by
  rw [List.getD_eq_getElem?_getD]
  cases h : (leavesOf rs)[i]? with
  | none => simp
  | some b =>
    unfold leavesOf at h
    rw [List.getElem?_map] at h
    cases h2 : rs[i]? with
    | none => rw [h2] at h; cases h
    | some r =>
      rw [h2] at h
      injection h with h
      subst h
      simp only [Option.getD_some]
      split
      · rename_i hr
        rw [recEnc_len hr]
        rw [recRight_def, decide_eq_true_eq] at hr
        omega
      · simp
theorem chain_small (id : List UInt8) (l : List (List (List UInt8))) {n i : Nat} (hn : n ≤ 1000) (s : Int) : SmallP (chainProof id l n i s) := by
  have h6 : (segRecs id l i).length ≤ 6 := (chainRecs_length _ _).2
  refine ⟨Nat.le_trans (leaf_small _ _) (by decide), fun b hb => ?_, ?_, ?_⟩
  · have := pathOf_lens _ (leavesOf (segRecs id l i)) _ rfl b hb
    omega
  · show (((segRecs id l i).length : Nat) : Int) ≤ _
    omega
  · show ((chainTo id l n).heads.drop (i + 1)).length ≤ _
    rw [List.length_drop, chain_heads_len]
    omega
/-- bytes lie apart from a record's cells. -/
theorem bs_apart3 {w : World} {D : Nat → Prop} {A : Option Addr} {n : Nat} {bs : List UInt8} {g : Nat} {x y : Int} {Q : Option Addr} {m c : Nat} {t : TypeId} (h : Bs w D A n bs) (hg : w.heap[g]? = some (.cells #[.int .i64 x, .int .u64 y, .slice Q m c] t (0, 0))) : Bs w (fun b => D b ∧ b ≠ g) A n bs := by
  refine ⟨h.1, fun hn => ?_⟩
  obtain ⟨b, off, hA, hD, hb, hc⟩ := h.2 hn
  refine ⟨b, off, hA, ⟨hD, fun e => ?_⟩, hb, hc⟩
  subst e
  have hl := h.len
  have h0 := hc 0 (byteVal (bs[0]'(by omega))) (by rw [List.getElem?_map, List.getElem?_eq_getElem (by omega)]; rfl)
  rw [cell_of_row w b (off + 0) _ t (0, 0) hg] at h0
  match off, h0 with
  | 0, h0 => simp [byteVal] at h0
  | 1, h0 => simp [byteVal] at h0
  | 2, h0 => simp [byteVal] at h0
  | k + 3, h0 => simp at h0
end Go.Proofs.YtfegdgaanmcecaaGreatDoor
/-
  PROVED HERE: rows of bodies that came in, chapter 24's: how they read; no condition.
-/
namespace Go.Proofs.YtfegdgaanmcecaaGreatDoor
open Go.ChangeShapes Go.WideShapes Go.ChangeAt Go.RowKit Go.Joins Go.Deep

set_option maxRecDepth 100000 in
/-- rows of bodies that came in. -/
theorem read_raws24 {H : Type} {enc : TypeId × Value → H} {W : World} {base : Nat} {sp : Nat → Bool} {held : Bool} {fuel : Nat} {v : Value} {x : DataW H × List MemPlace} (h : DataW.trod enc Tryz.prog W base sp held fuel 22 [v] = some x) :
    ∃ (A : Option Addr) (n c : Nat) (ls : List (List (List UInt8))), v = .slice A n c ∧ n ≤ c ∧ c ≤ maxLen ∧ Raws8 W (fun _ => True) A n ls := by
  rcases open_slice1 Tryz.underlying22 (by kernel_rfl) h with ⟨hc, _⟩ | ⟨a, len, cap, m, n, V, D, Pl, hc, _, hl, hm, hmm, _, hx⟩
  · injection hc with hc
    exact ⟨none, 0, 0, [], hc, Nat.le_refl _, Nat.zero_le _, [], Row.nil _ _ _ _, rfl, fun k hk => absurd hk (by simp)⟩
  · injection hc with hc
    have hlm : len ≤ m := by rw [hmm]; split <;> omega
    obtain ⟨R, hR⟩ := choose_lt (α := List (List UInt8)) (p := fun i r => ∃ A' c', V i = .slice A' r.length c' ∧ r.length ≤ c' ∧ c' ≤ maxLen ∧ Imgs W (fun _ => True) A' r.length r) (fun i (hi : i < m) => by
      obtain ⟨y0, k, _, _, hf⟩ := trod_struct1 Tryz.underlying57 (hx i hi).2
      obtain ⟨A', n', c', bs, hv, h1, h2, h3⟩ := read_images (show DataW.trod enc Tryz.prog W base sp held k 23 [V i] = some y0 from hf)
      have hn := h3.len
      subst hn
      exact ⟨bs, A', c', hv, h1, h2, h3⟩)
    refine ⟨some a, len, cap, (List.range len).map R, hc, hl, hm, (List.range len).map V, row_of_cells fun i hi => (hx i (by omega)).1, by simp, fun k hk => ?_⟩
    have hk' : k < len := by simpa using hk
    obtain ⟨A', c', e1, h1, h2, h3⟩ := hR k (by omega)
    have hg : ((List.range len).map R)[k] = R k := by simp
    rw [hg]
    unfold maxLen at h2
    exact ⟨A', c', by rw [List.getElem?_map, List.getElem?_range hk']; simp only [Option.map_some]; rw [e1], h1, by omega, h3⟩
end Go.Proofs.YtfegdgaanmcecaaGreatDoor
/-
  PROVED HERE: what codec.Writer's methods answer, with a closer frame: all but the writer's cell and its row of bytes stays; condition: fewer than 2^40 bytes.
-/
namespace Go.Proofs.YtfegdgaanmcecaaGreatDoor
open Go.RowKit

/-- the block of a writer's row. -/
def rowBlk (w : World) (p : Nat) : Option Nat := match w.cell? ⟨p, 0, none⟩ with
  | some (.slice A _ _) => blk A
  | _ => none
theorem rowBlk_of {w : World} {p : Nat} {A : Option Addr} {n c : Nat} (h : w.cell? ⟨p, 0, none⟩ = some (.slice A n c)) : rowBlk w p = blk A := by unfold rowBlk; rw [h]
/-- what writing does: all but the writer and its row stays; the row is the same, or lies in new memory. -/
structure Writ (w w' : World) (p : Nat) : Prop where
  keep : Keep (fun b => b ≠ p ∧ some b ≠ rowBlk w p) w w'
  row : ∀ b, b < w.heap.size → some b ≠ rowBlk w p → some b ≠ rowBlk w' p
theorem Writ.refl (w : World) (p : Nat) : Writ w w p := ⟨Keep.refl _ _, fun _ _ h => h⟩
theorem Writ.trans {a b c : World} {p : Nat} (h : Writ a b p) (k : Writ b c p) : Writ a c p :=
  ⟨h.keep.trans2 k.keep fun i hi hd => ⟨hd.1, h.row i hi hd.2⟩, fun i hi hd => k.row i (Nat.lt_of_lt_of_le hi h.keep.size) (h.row i hi hd)⟩
theorem Writ.of_new {w w' : World} {p : Nat} (h : New w w') (hp : p < w.heap.size) : Writ w w' p :=
  ⟨Keep.of_new h, fun b _ hd => by unfold rowBlk at *; rw [h.cell (p := ⟨p, 0, none⟩) hp trivial]; exact hd⟩
theorem writ_put {w w2 : World} {p : Nat} {A1 A2 : Option Addr} {n1 c1 m c2 : Nat} {u : Value} (hc : w.cell? ⟨p, 0, none⟩ = some (.slice A1 n1 c1)) (_hne : blk A1 ≠ some p) (hg : w.grownBy w2 (blk A1)) (hbk : blk A2 = blk A1 ∨ blk A2 = some w.heap.size) (cc : w2.cell? ⟨p, 0, none⟩ = some u) : Writ w (w2.setCell ⟨p, 0, none⟩ (.slice A2 m c2)) p := by
  have hr := rowBlk_of hc
  refine ⟨((Keep.refl (fun b => b ≠ p ∧ some b ≠ rowBlk w p) w).grown hg (fun k hk hd => absurd hk.symm (by rw [hr] at hd; exact hd.2))).setCell (p := ⟨p, 0, none⟩) (fun hd => absurd rfl hd.1) _, fun b hb hd => ?_⟩
  rw [rowBlk_of (World.cell?_setCell_same w2 ⟨p, 0, none⟩ _ cc)]
  rw [hr] at hd
  rcases hbk with e | e
  · rw [e]; exact hd
  · rw [e]; intro e'; injection e' with e'; omega
/-- a writer whose own memory begins at a place: what lies below stays. -/
theorem Wr.low {w w' : World} {base p : Nat} {bs : List UInt8} (h : Wr w base p bs) (k : Writ w w' p) : Keep (fun b => b < base) w w' := by
  obtain ⟨A, c, hc, hown, _⟩ := h.row
  refine k.keep.imp fun b _ hb => ⟨fun e => by have := h.hp; omega, fun e => ?_⟩
  rw [rowBlk_of hc] at e
  have := (own_lt hown b e.symm).1
  omega





set_option maxRecDepth 100000 in
theorem rawW_any (base p : Nat) (D : Nat → Prop) (A : Option Addr) (n c : Nat) (bs bs2 : List UInt8) (w : World) (hW : Wr w base p bs) (hB : Bs w D A n bs2) (hn : bs.length + n ≤ 1099511627776) :
    Calls Tryz.prog 71 #[.pointer (some ⟨p, 0, none⟩), .slice A n c] w fun e w' => e = .returned (.tuple #[]) ∧ Wr w' base p (bs ++ bs2) ∧ Writ w w' p := by
  obtain ⟨A1, c1, hc, hown, hne⟩ := hW.row
  have hf := hW.free
  have hpb := hW.hp
  have hplt := hW.lt
  have hne' := Ne.symm hne
  have hsz : base ≤ w.heap.size := Nat.le_trans hpb (Nat.le_of_lt hplt)
  have hbd : bs.length + n ≤ 140737488355328 := by omega
  have HW := Lib.hid hW
  have HC := Lib.hid hc
  clear hW
  go_enter Tryz.func71, Tryz.ntmps71
  go_wp2_with (at_builtin; refine app_bytes _ rfl (.tmp 8) (.tmp 9) rfl base A1 bs.length c1 bs rfl hown D A n c bs2 rfl hB hbd hsz ?_; intro A2 c2 w2 hown2 hg2 hbk2; have cc := hg2.cell (a := ⟨p, 0, none⟩) hc hne'; have ff := (hg2.frozen_far ⟨p, 0, none⟩ hplt hne').trans hf)
  go_end0
  exact ⟨rfl, HW.out.put hown2 hg2 hbk2 hne ⟨_, cc⟩, writ_put HC.out hne hg2 hbk2 cc⟩
set_option maxRecDepth 100000 in
theorem putW_any (base p s : Nat) (bs : List UInt8) (x si : Int) (w : World) (hW : Wr w base p bs) (_hx0 : 0 ≤ x) (_hx1 : x ≤ 18446744073709551615) (hsi : si = s) (hs : s ≤ 8) (hn : bs.length ≤ 1099511627776) :
    Calls Tryz.prog 114 #[.pointer (some ⟨p, 0, none⟩), .int .u64 x, .int .i64 si] w fun e w' => e = .returned (.tuple #[]) ∧ Wr w' base p (bs ++ beI s x) ∧ Writ w w' p := by
  subst hsi
  go_enter Tryz.func114, Tryz.ntmps114
  go_wp2_with fail
  go_loopw [6] (fun i wx => ∃ k : Nat, k ≤ s ∧ i = .int .i64 ((k : Int) - 1) ∧ Wr wx base p (bs ++ (beI s x).take (s - k)) ∧ Writ w wx p) (fun i _ => (intOf i + 1).toNat)
  case atStart => exact ⟨s, Nat.le_refl _, rfl, by simpa using hW, Writ.refl _ _⟩
  case round =>
    clear hW
    obtain ⟨k, hk, rfl, hW, hK⟩ := hrel
    rcases k with _ | k
    · rw [show (((0 : Nat) : Int) - 1) = -1 from rfl]
      rw [Nat.sub_zero, List.take_of_length_le (by rw [beI_length]; exact Nat.le_refl _)] at hW
      go_wp2_with fail
      go_end0
      exact ⟨rfl, hW, hK⟩
    · rw [show (((k + 1 : Nat) : Int) - 1) = (k : Int) from by omega]
      have HT := Lib.hid (beI_take s k x (by omega))
      have hk8 : k < 8 := by omega
      have hl0 : (List.take (s - (k + 1)) (beI s x)).length ≤ 8 := Nat.le_trans (List.length_take_le _ _) (by omega)
      generalize List.take (s - (k + 1)) (beI s x) = pre at hW HT hl0
      obtain ⟨A1, c1, hc, hown, hne⟩ := hW.row
      have hf := hW.free
      have hpb := hW.hp
      have hplt := hW.lt
      have hne' := Ne.symm hne
      have hsz : base ≤ wr.heap.size := Nat.le_trans hpb (Nat.le_of_lt hplt)
      have hbd : (bs ++ pre).length + 1 ≤ 140737488355328 := by rw [List.length_append]; omega
      have HW := Lib.hid hW
      clear hW
      generalize (bs ++ pre).length = m at *
      have q1 : IntKind.i64.wrap (8 * (k : Int)) = 8 * (k : Int) := IntWalk.i64_in _ (by omega)
      have hb1 := bs_one wr 5 _ (.int .u8 (IntKind.u8.wrap (x / 2 ^ (8 * k)))) ((byteVal_mod (x / 2 ^ (8 * k))).trans (by rw [IntKind.wrap_u8]))
      have cka := (World.cell?_alloc_lt wr (.cells #[.int .u8 (IntKind.u8.wrap (x / 2 ^ (8 * k)))] 5) ⟨p, 0, none⟩ hplt).trans hc
      have ffa := (((New.refl wr).alloc (.cells #[.int .u8 (IntKind.u8.wrap (x / 2 ^ (8 * k)))] 5)).frozen (p := ⟨p, 0, none⟩) hplt trivial).trans hf
      have hpl1 : p < (wr.alloc (.cells #[.int .u8 (IntKind.u8.wrap (x / 2 ^ (8 * k)))] 5)).heap.size := Nat.lt_of_lt_of_le hplt (by simp)
      have hown1 := hown.alloc (.cells #[.int .u8 (IntKind.u8.wrap (x / 2 ^ (8 * k)))] 5)
      have q2 : (8 * (k : Int)).toNat = 8 * k := by omega
      have q3 : 0 ≤ 8 * (k : Int) := by omega
      go_wp2_with fail
      go_region_law (refine step_bytes _ rfl (.tmp 17) (.tmp 23) rfl base A1 m c1 _ (by simp [Act.eval]) hown1 (fun g => wr.heap.size ≤ g) _ 1 1 _ (by simp [Act.eval]) hb1 hbd (Nat.le_trans hsz (by simp)) ?_; intro A3 c3 w3 hown3 hg3 hbk3; have cc := hg3.cell (a := ⟨p, 0, none⟩) cka hne'; have ff := (hg3.frozen_far ⟨p, 0, none⟩ hpl1 hne').trans ffa)
      all_goals
        replace hg3 := undrew hg3
        have hW3 := (HW.out.keep ((New.refl wr).alloc (.cells #[.int .u8 (IntKind.u8.wrap (x / 2 ^ (8 * k)))] 5)) (fun _ _ => trivial)).put hown3 hg3 hbk3 hne ⟨_, cc⟩
        have hK3 : Writ w (w3.setCell ⟨p, 0, none⟩ (.slice A3 (m + 1) c3)) p := hK.trans ((Writ.of_new ((New.refl wr).alloc (.cells #[.int .u8 (IntKind.u8.wrap (x / 2 ^ (8 * k)))] 5)) hplt).trans (writ_put cka hne hg3 hbk3 cc))
        clear hown3 hg3 hbk3 cc ff hK hown hown1 cka ffa hb1 hc HW
        go_wp2_with fail
        go_roundw
        case rel => exact ⟨k, by omega, rfl, by rw [HT.out, ← List.append_assoc]; exact hW3, hK3⟩
        case measure => simp [intOf]













set_option maxRecDepth 100000 in
theorem wshortW_any (base p : Nat) (bs : List UInt8) (x : Int) (w : World) (hW : Wr w base p bs) (hn : bs.length ≤ 1099511627776) :
    Calls Tryz.prog 68 #[.pointer (some ⟨p, 0, none⟩), .int .i64 x] w fun e w' => e = .returned (.tuple #[]) ∧ Wr w' base p (bs ++ beI 2 x) ∧ Writ w w' p := by
  have hr := wrap_u64_bd x
  have he := Lib.hid (beI_wrap 2 x (by decide))
  go_enter Tryz.func68, Tryz.ntmps68
  go_wp2_with fail
  refine (putW_any base p 2 bs _ _ w hW hr.1 hr.2 rfl (by decide) hn).mono ?_
  rintro e w1 ⟨rfl, hW1, hK1⟩
  rw [he.out] at hW1
  go_wp2_with fail
  go_end0
  exact ⟨rfl, hW1, hK1⟩
set_option maxRecDepth 100000 in
theorem wlongW_any (base p : Nat) (bs : List UInt8) (x : Int) (w : World) (hW : Wr w base p bs) (hx0 : 0 ≤ x) (hx1 : x ≤ 18446744073709551615) (hn : bs.length ≤ 1099511627776) :
    Calls Tryz.prog 113 #[.pointer (some ⟨p, 0, none⟩), .int .u64 x] w fun e w' => e = .returned (.tuple #[]) ∧ Wr w' base p (bs ++ beI 8 x) ∧ Writ w w' p := by
  go_enter Tryz.func113, Tryz.ntmps113
  go_wp2_with fail
  refine (putW_any base p 8 bs _ _ w hW hx0 hx1 rfl (by decide) hn).mono ?_
  rintro e w1 ⟨rfl, hW1, hK1⟩
  go_wp2_with fail
  go_end0
  exact ⟨rfl, hW1, hK1⟩



































end Go.Proofs.YtfegdgaanmcecaaGreatDoor
/-
  PROVED HERE: what codec.Reader's methods answer, and in which blocks the bytes that are left lie; what End answers; condition: fewer than 2^40 bytes.
-/
namespace Go.Proofs.YtfegdgaanmcecaaGreatDoor
open Go.RowKit

/-- a reader behind a pointer. -/
structure RdD (D : Nat → Prop) (w : World) (p : Nat) (s : RdS) : Prop where
  row : ∃ A m c, w.cell? ⟨p, 0, none⟩ = some (.slice A m c) ∧ m ≤ c ∧ c ≤ 9223372036854775807 ∧ Bs w (fun b => D b ∧ b ≠ p) A m s.bs
  why : w.cell? ⟨p, 1, none⟩ = some (.int .i64 s.why)
  free0 : w.frozen? ⟨p, 0, none⟩ = false
  free1 : w.frozen? ⟨p, 1, none⟩ = false
  bound : s.bs.length ≤ 1099511627776
theorem RdD.lt {D : Nat → Prop} {w : World} {p : Nat} {s : RdS} (h : RdD D w p s) : p < w.heap.size := World.block_lt_of_cell? w _ h.why
theorem RdD.keep {D : Nat → Prop} {w w' : World} {p : Nat} {s : RdS} (h : RdD D w p s) (hk : New w w') : RdD D w' p s := by
  obtain ⟨A, m, c, h1, h2, h3, h4⟩ := h.row
  exact ⟨⟨A, m, c, hk.cell_some h1 trivial, h2, h3, h4.new hk⟩, hk.cell_some h.why trivial, (hk.frozen (p := ⟨p, 0, none⟩) h.lt trivial).trans h.free0, (hk.frozen (p := ⟨p, 1, none⟩) h.lt trivial).trans h.free1, h.bound⟩
set_option maxRecDepth 100000 in
theorem newReaderD_any (D : Nat → Prop) (A : Option Addr) (n c : Nat) (bs : List UInt8) (w : World) (hB : Bs w D A n bs) (hn : n ≤ 1099511627776) :
    Calls Tryz.prog 73 #[.slice A n c] w fun e w' => (∃ p, e = .returned (.pointer (some ⟨p, 0, none⟩)) ∧ w.heap.size ≤ p ∧ RdD (fun b => b < p) w' p ⟨bs, 0⟩) ∧ New w w' := by
  have hl := hB.len
  have HC := Lib.hid (clone_bytes D A n c bs w hB (by omega))
  clear hB
  go_enter Tryz.func73, Tryz.ntmps73
  go_wp2_with fail
  refine HC.out.mono ?_
  rintro e w1 ⟨⟨A1, c1, rfl, hown⟩, hK1⟩
  go_wp2_with fail
  go_ret
  have hh := heap_alloc_new w1 (.cells #[.slice A1 n c1, .int .i64 0] 150)
  refine ⟨⟨w1.heap.size, rfl, hK1.size, ⟨⟨A1, n, c1, cellOf hh rfl, own_cap hown, own_capMax hown, ?_⟩, cellOf hh rfl, free_new w1 _ _ _, free_new w1 _ _ _, by show bs.length ≤ _; omega⟩⟩, hK1.alloc _⟩
  exact ((Row.of_own hown).imp (E := fun b => b < w1.heap.size ∧ b ≠ w1.heap.size) (fun b hb _ => ⟨hb, Nat.ne_of_lt hb⟩)).alloc _
theorem RdD.setWhy {D : Nat → Prop} {w : World} {p : Nat} {s : RdS} (h : RdD D w p s) (y : Int) : RdD D (w.setCell ⟨p, 1, none⟩ (.int .i64 y)) p ⟨s.bs, y⟩ := by
  obtain ⟨A, m, c, h1, h2, h3, h4⟩ := h.row
  refine ⟨⟨A, m, c, ?_, h2, h3, h4.setCell (p := ⟨p, 1, none⟩) (fun h => h.2 rfl) _⟩, World.cell?_setCell_same _ _ _ h.why, setCell_free h.free0, setCell_free h.free1, h.bound⟩
  rw [World.cell?_setCell_other _ _ _ _ (by intro hh; injection hh; omega)]; exact h1
theorem RdD.setRow {D : Nat → Prop} {w : World} {p : Nat} {s : RdS} (h : RdD D w p s) {A : Option Addr} {m c : Nat} {bs : List UInt8} (hB : Bs w (fun b => D b ∧ b ≠ p) A m bs) (hmc : m ≤ c) (hc : c ≤ 9223372036854775807) (hb : bs.length ≤ 1099511627776) :
    RdD D (w.setCell ⟨p, 0, none⟩ (.slice A m c)) p ⟨bs, s.why⟩ := by
  obtain ⟨A1, m1, c1, h1, _⟩ := h.row
  refine ⟨⟨A, m, c, World.cell?_setCell_same _ _ _ h1, hmc, hc, hB.setCell (p := ⟨p, 0, none⟩) (fun h => h.2 rfl) _⟩, ?_, setCell_free h.free0, setCell_free h.free1, hb⟩
  rw [World.cell?_setCell_other _ _ _ _ (by intro hh; injection hh; omega)]; exact h.why
set_option maxRecDepth 100000 in
theorem rrawD_any (D : Nat → Prop) (p : Nat) (s : RdS) (n : Int) (w : World) (hR : RdD D w p s) :
    Calls Tryz.prog 78 #[.pointer (some ⟨p, 0, none⟩), .int .i64 n] w fun e w' =>
      (∃ A' c', e = .returned (.slice A' (s.raw n).1.length c') ∧ OwnB w' w.heap.size 5 A' (s.raw n).1.length c' (s.raw n).1) ∧ RdD D w' p (s.raw n).2 ∧ Keep (fun b => b ≠ p) w w' := by
  obtain ⟨A, m, c, hc0, hmc, hc9, hB⟩ := hR.row
  have hc1 := hR.why
  have hf0 := hR.free0
  have hf1 := hR.free1
  have hlb := hR.bound
  have hl := hB.len
  have HR := Lib.hid hR
  clear hR
  by_cases hw : s.why = 0
  · by_cases hn : (m : Int) < n
    · rw [s.raw_end n hw (by omega)]
      have h1 := HR.out.setWhy 10
      have hK := (Keep.refl (fun b => b ≠ p) w).setCell (p := ⟨p, 1, none⟩) (fun h => absurd rfl h) (.int .i64 10)
      rw [hw] at hc1
      clear hw hl hB
      go_enter Tryz.func78, Tryz.ntmps78
      go_wp2_with fail
      go_ret
      exact ⟨⟨none, 0, rfl, Own.nil _ _ _ _⟩, h1, hK⟩
    · by_cases hn1 : n < 1
      · rw [s.raw_none n (.inr hn1)]
        rw [hw] at hc1
        clear hw hl hB
        go_enter Tryz.func78, Tryz.ntmps78
        go_wp2_with fail
        go_ret
        exact ⟨⟨none, 0, rfl, Own.nil _ _ _ _⟩, HR.out, Keep.refl _ _⟩
      · obtain ⟨k, rfl⟩ := Int.eq_ofNat_of_zero_le (by omega : 0 ≤ n)
        rw [s.raw_some k hw (by omega) (by omega), Int.toNat_natCast]
        have hkm : k ≤ m := by omega
        have hmb : m ≤ 1099511627776 := by omega
        have hplt := HR.out.lt
        have hk1 : 1 ≤ k := by omega
        have hkc : (k : Int) ≤ c := by omega
        have HL : Hid ((s.bs.take k).length = k) := Lib.hid (by rw [List.length_take]; omega)
        have HLD : Hid ((s.bs.drop k).length = m - k) := Lib.hid (by rw [List.length_drop]; omega)
        rw [HL.out]
        have hcut := hB.cutTo hkm
        have HCL := Lib.hid (clone_bytes _ A k c _ w hcut (by omega))
        have hBD := Bs.from_ hB hkm
        have HBD := Lib.hid hBD
        have HW := Lib.hid hw
        rw [hw] at hc1
        clear hw hl hB hcut hBD
        by_cases hck : c = k
        · have hmk : m = k := by omega
          subst hck
          subst hmk
          go_enter Tryz.func78, Tryz.ntmps78
          go_wp2_with fail
          refine HCL.out.mono ?_
          rintro e w1 ⟨⟨A1, c1, rfl, hown⟩, hK1⟩
          have d0 := hK1.cell_some hc0 trivial
          have g0 := (hK1.frozen (p := ⟨p, 0, none⟩) HR.out.lt trivial).trans hf0
          go_wp2_with fail
          go_ret
          have hnil : s.bs.drop m = [] := List.eq_nil_of_length_eq_zero (by rw [HLD.out]; omega)
          have hr := (HR.out.keep hK1).setRow (A := A) (m := 0) (c := 0) (bs := []) (Row.nil _ _ _ _) (Nat.le_refl _) (by omega) (by simp)
          rw [HW.out] at hr
          rw [hnil]
          exact ⟨⟨A1, c1, rfl, own_set (p := ⟨p, 0, none⟩) hown (fun e => by have := (own_lt hown p e).1; omega) _⟩, hr, (Keep.of_new hK1).setCell (p := ⟨p, 0, none⟩) (fun h => absurd rfl h) _⟩
        · have hck' : ¬ c = k := hck
          go_enter Tryz.func78, Tryz.ntmps78
          go_wp2_with fail
          refine HCL.out.mono ?_
          rintro e w1 ⟨⟨A1, c1, rfl, hown⟩, hK1⟩
          have d0 := hK1.cell_some hc0 trivial
          have g0 := (hK1.frozen (p := ⟨p, 0, none⟩) HR.out.lt trivial).trans hf0
          go_wp2_with fail
          go_ret
          have hr := (HR.out.keep hK1).setRow (c := c - k) (HBD.out.new hK1) (by omega) (by omega) (by rw [HLD.out]; omega)
          rw [HW.out] at hr
          exact ⟨⟨A1, c1, rfl, own_set (p := ⟨p, 0, none⟩) hown (fun e => by have := (own_lt hown p e).1; omega) _⟩, hr, (Keep.of_new hK1).setCell (p := ⟨p, 0, none⟩) (fun h => absurd rfl h) _⟩
  · rw [s.raw_none n (.inl hw)]
    have e0 : (s.why == 0) = false := by simpa using hw
    have e1 : (s.why != 0) = true := by simpa using hw
    clear hw hl hB
    go_enter Tryz.func78, Tryz.ntmps78
    go_wp2_with fail
    go_ret
    exact ⟨⟨none, 0, rfl, Own.nil _ _ _ _⟩, HR.out, Keep.refl _ _⟩
set_option maxRecDepth 100000 in
theorem getD_any (D : Nat → Prop) (p k : Nat) (s : RdS) (w : World) (hR : RdD D w p s) (hk : k ≤ 8) (ki : Int) (hki : ki = k) :
    Calls Tryz.prog 116 #[.pointer (some ⟨p, 0, none⟩), .int .i64 ki] w fun e w' => e = .returned (.int .u64 ((s.num k).1 : Nat)) ∧ RdD D w' p (s.num k).2 ∧ Keep (fun b => b ≠ p) w w' := by
  subst hki
  have hle := (s.raw_le k).2.2
  unfold RdS.num
  dsimp only
  have HRW := Lib.hid (rrawD_any D p s k w hR)
  clear hR
  generalize (s.raw k).1 = x at *
  generalize (s.raw k).2 = s' at *
  have hx8 : x.length ≤ 8 := by omega
  go_enter Tryz.func116, Tryz.ntmps116
  go_wp2_with fail
  refine HRW.out.mono ?_
  rintro e w1 ⟨⟨A1, c1, rfl, hown⟩, hR1, hK1⟩
  have hB := Row.of_own hown
  clear hown
  go_wp2_with fail
  go_loop [5, 12] (fun s5 i => ∃ j : Nat, j ≤ x.length ∧ i = .int .i64 (j : Int) ∧ s5 = .int .u64 ((beNat (x.take j) : Nat) : Int)) (fun _ i => x.length - (intOf i).toNat)
  case atStart => exact ⟨0, Nat.zero_le _, rfl, rfl⟩
  case round =>
    obtain ⟨j, hj, rfl, rfl⟩ := hrel
    by_cases hlt : j < x.length
    · obtain ⟨b, off, rfl, _, _, hc⟩ := Bs.cellAt (bs := x) hB (by omega)
      have ck := hc j hlt
      have HS := Lib.hid (show beNat (x.take (j + 1)) = beNat (x.take j) * 256 + (x[j]).toNat from by rw [List.take_succ_eq_append_getElem hlt, beNat_snoc])
      have hsm : beNat (x.take j) < 72057594037927936 := by
        refine Nat.lt_of_lt_of_le (beNat_lt _) ?_
        have h7 : (x.take j).length ≤ 7 := by rw [List.length_take]; omega
        exact Nat.le_trans (Nat.pow_le_pow_right (by decide) h7) (by decide)
      have HO := Lib.hid (beNat_shift (beNat (x.take j)) x[j] hsm)
      clear hc hB
      generalize x[j] = y at *
      generalize beNat (x.take j) = z at *
      go_wp2_with fail
      go_round
      case rel => exact ⟨j + 1, by omega, by go_num, by rw [bv_wrap64, HO.out, HS.out]⟩
      case measure => simp [intOf]; omega
    · obtain rfl : j = x.length := by omega
      rw [List.take_of_length_le (Nat.le_refl _)]
      go_wp2_with fail
      go_ret
      exact ⟨rfl, hR1, hK1⟩
set_option maxRecDepth 100000 in
theorem rbyteD_any (D : Nat → Prop) (p : Nat) (s : RdS) (w : World) (hR : RdD D w p s) :
    Calls Tryz.prog 77 #[.pointer (some ⟨p, 0, none⟩)] w fun e w' => e = .returned (.int .i64 ((s.num 1).1 : Nat)) ∧ RdD D w' p (s.num 1).2 ∧ Keep (fun b => b ≠ p) w w' := by
  have hlt := num_lt s 1
  have HG := Lib.hid (getD_any D p 1 s w hR (by decide) 1 rfl)
  clear hR
  generalize (s.num 1).1 = z at *
  generalize (s.num 1).2 = s' at *
  have hw := i64_small z (by omega)
  have HW := Lib.hid hw
  clear hw
  go_enter Tryz.func77, Tryz.ntmps77
  go_wp2_with fail
  refine HG.out.mono ?_
  rintro e w1 ⟨rfl, hR1, hK1⟩
  go_wp2_with fail
  go_ret
  exact ⟨by first | rfl | (rw [← HW.out]; rfl), hR1, hK1⟩
set_option maxRecDepth 100000 in
theorem rshortD_any (D : Nat → Prop) (p : Nat) (s : RdS) (w : World) (hR : RdD D w p s) :
    Calls Tryz.prog 75 #[.pointer (some ⟨p, 0, none⟩)] w fun e w' => e = .returned (.int .i64 ((s.num 2).1 : Nat)) ∧ RdD D w' p (s.num 2).2 ∧ Keep (fun b => b ≠ p) w w' := by
  have hlt := num_lt s 2
  have HG := Lib.hid (getD_any D p 2 s w hR (by decide) 2 rfl)
  clear hR
  generalize (s.num 2).1 = z at *
  generalize (s.num 2).2 = s' at *
  have hw := i64_small z (by omega)
  have HW := Lib.hid hw
  clear hw
  go_enter Tryz.func75, Tryz.ntmps75
  go_wp2_with fail
  refine HG.out.mono ?_
  rintro e w1 ⟨rfl, hR1, hK1⟩
  go_wp2_with fail
  go_ret
  exact ⟨by first | rfl | (rw [← HW.out]; rfl), hR1, hK1⟩
set_option maxRecDepth 100000 in
theorem rlongD_any (D : Nat → Prop) (p : Nat) (s : RdS) (w : World) (hR : RdD D w p s) :
    Calls Tryz.prog 87 #[.pointer (some ⟨p, 0, none⟩)] w fun e w' => e = .returned (.int .u64 ((s.num 8).1 : Nat)) ∧ RdD D w' p (s.num 8).2 ∧ Keep (fun b => b ≠ p) w w' := by
  have HG := Lib.hid (getD_any D p 8 s w hR (by decide) 8 rfl)
  clear hR
  generalize (s.num 8).1 = z at *
  generalize (s.num 8).2 = s' at *
  go_enter Tryz.func87, Tryz.ntmps87
  go_wp2_with fail
  refine HG.out.mono ?_
  rintro e w1 ⟨rfl, hR1, hK1⟩
  go_wp2_with fail
  go_ret
  exact ⟨rfl, hR1, hK1⟩
set_option maxRecDepth 100000 in
theorem rbytesD_any (D : Nat → Prop) (p : Nat) (s : RdS) (w : World) (hR : RdD D w p s) :
    Calls Tryz.prog 76 #[.pointer (some ⟨p, 0, none⟩)] w fun e w' =>
      (∃ A' c', e = .returned (.slice A' s.lenRow.1.length c') ∧ OwnB w' w.heap.size 5 A' s.lenRow.1.length c' s.lenRow.1) ∧ RdD D w' p s.lenRow.2 ∧ Keep (fun b => b ≠ p) w w' := by
  have HG := Lib.hid (rshortD_any D p s w hR)
  have HL : Hid (s.lenRow = (s.num 2).2.raw (s.num 2).1) := Lib.hid rfl
  rw [HL.out]
  clear hR HL
  generalize (s.num 2).1 = z at *
  generalize (s.num 2).2 = s' at *
  have HR := Lib.hid (rrawD_any D p s' z)
  generalize (s'.raw z).1 = x at *
  generalize (s'.raw z).2 = s2 at *
  go_enter Tryz.func76, Tryz.ntmps76
  go_wp2_with fail
  refine HG.out.mono ?_
  rintro e w1 ⟨rfl, hR1, hK1⟩
  go_wp2_with fail
  refine (HR.out w1 hR1).mono ?_
  rintro e w2 ⟨⟨A2, c2, rfl, hown2⟩, hR2, hK2⟩
  go_wp2_with fail
  go_ret
  exact ⟨⟨_, _, rfl, own_base hown2 hK1.size⟩, hR2, hK1.trans hK2⟩
theorem RdD.keepE {D E : Nat → Prop} {w w' : World} {p : Nat} {s : RdS} (h : RdD D w p s) (hk : Keep E w w') (hp : E p) (hE : ∀ b, b < w.heap.size → D b → E b) : RdD D w' p s := by
  obtain ⟨A, m, c, h1, h2, h3, h4⟩ := h.row
  exact ⟨⟨A, m, c, hk.cell_some h1 hp, h2, h3, h4.keep hk fun b hb hd => hE b hb hd.1⟩, hk.cell_some h.why hp, (hk.frozen (p := ⟨p, 0, none⟩) h.lt hp).trans h.free0, (hk.frozen (p := ⟨p, 1, none⟩) h.lt hp).trans h.free1, h.bound⟩
/-- the first refusal; bytes must not be left. -/
def RdS.endOf (s : RdS) : Int := if s.why = 0 ∧ 0 < s.bs.length then 11 else s.why
set_option maxRecDepth 100000 in
theorem rend_any (D : Nat → Prop) (p : Nat) (s : RdS) (w : World) (hR : RdD D w p s) :
    Calls Tryz.prog 79 #[.pointer (some ⟨p, 0, none⟩)] w fun e w' => e = .returned (.int .i64 s.endOf) ∧ w = w' := by
  obtain ⟨A, m, c, h1, h2, h3, h4⟩ := hR.row
  have hy := hR.why
  have hl := h4.len
  have HE : Hid (s.endOf = if s.why = 0 ∧ 0 < m then 11 else s.why) := Lib.hid (by unfold RdS.endOf; rw [hl])
  clear hR h4 hl
  by_cases h0 : s.why = 0
  · rw [h0] at hy HE
    by_cases hm : (0 : Int) < (m : Int)
    · have HE2 : Hid (s.endOf = 11) := Lib.hid (by rw [HE.out, if_pos ⟨rfl, by omega⟩])
      have hm2 : 0 < m := by omega
      clear h0 HE
      go_enter Tryz.func79, Tryz.ntmps79
      go_wp2_with fail
      go_ret
      exact ⟨by rw [HE2.out]; rfl, rfl⟩
    · have HE2 : Hid (s.endOf = 0) := Lib.hid (by rw [HE.out, if_neg (fun h => hm (by omega))])
      have hm2 : ¬ 0 < m := by omega
      clear h0 HE
      go_enter Tryz.func79, Tryz.ntmps79
      go_wp2_with fail
      go_ret
      exact ⟨by rw [HE2.out]; rfl, rfl⟩
  · have HE2 : Hid (s.endOf = s.why) := Lib.hid (by rw [HE.out, if_neg (fun h => h0 h.1)])
    have h0' : (s.why == 0) = false := by simpa using h0
    clear HE
    generalize s.why = y at *
    generalize s.endOf = z at *
    clear h0
    go_enter Tryz.func79, Tryz.ntmps79
    go_wp2_with fail
    go_ret
    exact ⟨by rw [HE2.out]; rfl, rfl⟩
end Go.Proofs.YtfegdgaanmcecaaGreatDoor
