/-
  PROVED HERE: texts that belong together, one behind the other; what each proves, and under which conditions, its own opening remark says: Small24, ProofLaw, Index, Clone, Leaves2.
-/
import Derived.Test.YtfegdgaanmcecaaGreatDoorPkA09
import Derived.Test.YtfegdgaanmcecaaGreatDoorPkA11
import Derived.Test.YtfegdgaanmcecaaGreatDoorPkA27
import Derived.Test.YtfegdgaanmcecaaGreatDoorPkA30
import Derived.Test.YtfegdgaanmcecaaGreatDoorPkA31
import Derived.Test.YtfegdgaanmcecaaGreatDoorPkA33
/-
  PROVED HERE: what permafrostlaw24.id, headIn, headOut and head (of equal heads) answer; no condition.
-/
namespace Go.Proofs.YtfegdgaanmcecaaGreatDoor
open Go.RowKit

theorem bs_cells24 {w : World} {g : Nat} {t : TypeId} {C : Array Value} (bs : List UInt8) (hC : C.toList = bs.map byteVal) (h : w.heap[g]? = some (.cells C t (0, 0))) : Bs w (fun _ => True) (some ⟨g, 0, none⟩) bs.length bs := by
  refine ⟨by simp, fun _ => ⟨g, 0, rfl, trivial, (Array.getElem?_eq_some_iff.1 h).1, fun k u hu => ?_⟩⟩
  rw [cell_of_row _ _ _ _ _ (0, 0) h]
  rw [← hC] at hu
  simpa using hu
def id24 : List UInt8 := [48, 49, 50, 51, 52, 53, 54, 55, 56, 57, 97, 98, 99, 100, 101, 102]
theorem id24_any (w : World) : Calls Tryz.prog 15 #[] w fun e w' => (∃ A', e = .returned (.slice A' 16 16) ∧ Bs w' (fun b => w.heap.size ≤ b) A' 16 id24) ∧ New w w' := by
  obtain ⟨w0, e0, k0, l0⟩ := conv_mark 16 16 (heap_alloc_new w (.cells #[.int .u8 48, .int .u8 49, .int .u8 50, .int .u8 51, .int .u8 52, .int .u8 53, .int .u8 54, .int .u8 55, .int .u8 56, .int .u8 57, .int .u8 97, .int .u8 98, .int .u8 99, .int .u8 100, .int .u8 101, .int .u8 102] 5))
  have b0 : Bs (w.alloc (.cells #[.int .u8 48, .int .u8 49, .int .u8 50, .int .u8 51, .int .u8 52, .int .u8 53, .int .u8 54, .int .u8 55, .int .u8 56, .int .u8 57, .int .u8 97, .int .u8 98, .int .u8 99, .int .u8 100, .int .u8 101, .int .u8 102] 5)) (fun _ => True) (some ⟨w.heap.size, 0, none⟩) 16 id24 := bs_cells24 id24 (by simp [byteVal, bv, id24]) (heap_alloc_new w (.cells #[.int .u8 48, .int .u8 49, .int .u8 50, .int .u8 51, .int .u8 52, .int .u8 53, .int .u8 54, .int .u8 55, .int .u8 56, .int .u8 57, .int .u8 97, .int .u8 98, .int .u8 99, .int .u8 100, .int .u8 101, .int .u8 102] 5))
  have b1 : Bs w0 (fun b => w.heap.size ≤ b) (some ⟨w.heap.size, 0, none⟩) 16 id24 := by
    obtain ⟨h1, h2⟩ := Row.like b0 l0
    refine ⟨h1, fun hn => ?_⟩
    obtain ⟨b, off, e, _, hl, hc⟩ := h2 hn
    injection e with e
    injection e with e e'
    subst e e'
    exact ⟨_, _, rfl, Nat.le_refl _, hl, hc⟩
  have n00 : New w w0 := (Keep.trans2 (D := fun b => b < w.heap.size) (Keep.of_new ((New.refl w).alloc (.cells #[.int .u8 48, .int .u8 49, .int .u8 50, .int .u8 51, .int .u8 52, .int .u8 53, .int .u8 54, .int .u8 55, .int .u8 56, .int .u8 57, .int .u8 97, .int .u8 98, .int .u8 99, .int .u8 100, .int .u8 101, .int .u8 102] 5))) k0 (fun i _ hi e => by subst e; exact absurd hi (Nat.lt_irrefl _))).toNew (fun i hi => hi)
  clear b0 k0 l0
  go_enter Tryz.func15, Tryz.ntmps15
  go_wp2_with fail
  go_ret
  exact ⟨⟨_, rfl, b1⟩, n00⟩
set_option maxRecDepth 100000 in
set_option maxHeartbeats 1000000 in
theorem headOut_any (P1 P2 : Option Addr) (p1 p2 : Nat) (h : HeadP) (w : World) : Calls Tryz.prog 16 #[.agg #[.int .i64 h.index, .int .u64 h.first, .int .i64 h.count, .int .i64 h.bytes, .slice P1 h.prev.length p1, .slice P2 h.root.length p2]] w fun e w' => e = .returned (.agg #[.int .i64 h.index, .int .u64 h.first, .int .i64 h.count, .int .i64 h.bytes, .slice P1 h.prev.length p1, .slice P2 h.root.length p2]) ∧ New w w' := by
  have hY := heap_alloc_new (w.alloc (.cells #[.int .i64 h.index, .int .u64 h.first, .int .i64 h.count, .int .i64 h.bytes, .slice P1 h.prev.length p1, .slice P2 h.root.length p2] 40)) (.cells #[.int .i64 0, .int .u64 0, .int .i64 0, .int .i64 0, .slice none 0 0, .slice none 0 0] 33)
  have hX := ((New.refl (w.alloc (.cells #[.int .i64 h.index, .int .u64 h.first, .int .i64 h.count, .int .i64 h.bytes, .slice P1 h.prev.length p1, .slice P2 h.root.length p2] 40))).alloc (.cells #[.int .i64 0, .int .u64 0, .int .i64 0, .int .i64 0, .slice none 0 0, .slice none 0 0] 33)).blockAt (heap_alloc_new w (.cells #[.int .i64 h.index, .int .u64 h.first, .int .i64 h.count, .int .i64 h.bytes, .slice P1 h.prev.length p1, .slice P2 h.root.length p2] 40)) trivial
  have HN := Lib.hid (((New.refl w).alloc (.cells #[.int .i64 h.index, .int .u64 h.first, .int .i64 h.count, .int .i64 h.bytes, .slice P1 h.prev.length p1, .slice P2 h.root.length p2] 40)).alloc (.cells #[.int .i64 0, .int .u64 0, .int .i64 0, .int .i64 0, .slice none 0 0, .slice none 0 0] 33))
  rw [World.size_alloc] at hY
  have x0 := cellOf hX (k := 0) rfl
  have y0 := cellOf hY (k := 0) rfl
  have z0 := frozenOf hY 0
  have x1 := cellOf hX (k := 1) rfl
  have y1 := cellOf hY (k := 1) rfl
  have z1 := frozenOf hY 1
  have x2 := cellOf hX (k := 2) rfl
  have y2 := cellOf hY (k := 2) rfl
  have z2 := frozenOf hY 2
  have x3 := cellOf hX (k := 3) rfl
  have y3 := cellOf hY (k := 3) rfl
  have z3 := frozenOf hY 3
  have x4 := cellOf hX (k := 4) rfl
  have y4 := cellOf hY (k := 4) rfl
  have z4 := frozenOf hY 4
  have x5 := cellOf hX (k := 5) rfl
  have y5 := cellOf hY (k := 5) rfl
  have z5 := frozenOf hY 5
  clear hX hY
  go_enter Tryz.func16, Tryz.ntmps16
  go_wp2_with fail
  clear x0 y0 z0 x1 y1 z1 x2 y2 z2 x3 y3 z3 x4 y4 z4 x5 y5 z5
  have hE := heap_alloc_new (w.alloc (.cells #[.int .i64 h.index, .int .u64 h.first, .int .i64 h.count, .int .i64 h.bytes, .slice P1 h.prev.length p1, .slice P2 h.root.length p2] 40)) (.cells #[.int .i64 h.index, .int .u64 h.first, .int .i64 h.count, .int .i64 h.bytes, .slice P1 h.prev.length p1, .slice P2 h.root.length p2] 33)
  rw [World.size_alloc] at hE
  have f0 := cellOf hE (k := 0) rfl
  have f1 := cellOf hE (k := 1) rfl
  have f2 := cellOf hE (k := 2) rfl
  have f3 := cellOf hE (k := 3) rfl
  have f4 := cellOf hE (k := 4) rfl
  have f5 := cellOf hE (k := 5) rfl
  refine bodyPost_ret (v := .agg #[.int .i64 h.index, .int .u64 h.first, .int .i64 h.count, .int .i64 h.bytes, .slice P1 h.prev.length p1, .slice P2 h.root.length p2]) (by simp [results, Tryz.results16, go_sem, f0, f1, f2, f3, f4, f5]) rfl ?_
  exact ⟨rfl, ((New.refl w).alloc _).alloc _⟩
set_option maxRecDepth 100000 in
set_option maxHeartbeats 1000000 in
theorem headIn_any (P1 P2 : Option Addr) (p1 p2 : Nat) (h : HeadP) (w : World) : Calls Tryz.prog 46 #[.agg #[.int .i64 h.index, .int .u64 h.first, .int .i64 h.count, .int .i64 h.bytes, .slice P1 h.prev.length p1, .slice P2 h.root.length p2]] w fun e w' => e = .returned (.agg #[.int .i64 h.index, .int .u64 h.first, .int .i64 h.count, .int .i64 h.bytes, .slice P1 h.prev.length p1, .slice P2 h.root.length p2]) ∧ New w w' := by
  have hY := heap_alloc_new (w.alloc (.cells #[.int .i64 h.index, .int .u64 h.first, .int .i64 h.count, .int .i64 h.bytes, .slice P1 h.prev.length p1, .slice P2 h.root.length p2] 33)) (.cells #[.int .i64 0, .int .u64 0, .int .i64 0, .int .i64 0, .slice none 0 0, .slice none 0 0] 40)
  have hX := ((New.refl (w.alloc (.cells #[.int .i64 h.index, .int .u64 h.first, .int .i64 h.count, .int .i64 h.bytes, .slice P1 h.prev.length p1, .slice P2 h.root.length p2] 33))).alloc (.cells #[.int .i64 0, .int .u64 0, .int .i64 0, .int .i64 0, .slice none 0 0, .slice none 0 0] 40)).blockAt (heap_alloc_new w (.cells #[.int .i64 h.index, .int .u64 h.first, .int .i64 h.count, .int .i64 h.bytes, .slice P1 h.prev.length p1, .slice P2 h.root.length p2] 33)) trivial
  have HN := Lib.hid (((New.refl w).alloc (.cells #[.int .i64 h.index, .int .u64 h.first, .int .i64 h.count, .int .i64 h.bytes, .slice P1 h.prev.length p1, .slice P2 h.root.length p2] 33)).alloc (.cells #[.int .i64 0, .int .u64 0, .int .i64 0, .int .i64 0, .slice none 0 0, .slice none 0 0] 40))
  rw [World.size_alloc] at hY
  have x0 := cellOf hX (k := 0) rfl
  have y0 := cellOf hY (k := 0) rfl
  have z0 := frozenOf hY 0
  have x1 := cellOf hX (k := 1) rfl
  have y1 := cellOf hY (k := 1) rfl
  have z1 := frozenOf hY 1
  have x2 := cellOf hX (k := 2) rfl
  have y2 := cellOf hY (k := 2) rfl
  have z2 := frozenOf hY 2
  have x3 := cellOf hX (k := 3) rfl
  have y3 := cellOf hY (k := 3) rfl
  have z3 := frozenOf hY 3
  have x4 := cellOf hX (k := 4) rfl
  have y4 := cellOf hY (k := 4) rfl
  have z4 := frozenOf hY 4
  have x5 := cellOf hX (k := 5) rfl
  have y5 := cellOf hY (k := 5) rfl
  have z5 := frozenOf hY 5
  clear hX hY
  go_enter Tryz.func46, Tryz.ntmps46
  go_wp2_with fail
  clear x0 y0 z0 x1 y1 z1 x2 y2 z2 x3 y3 z3 x4 y4 z4 x5 y5 z5
  have hE := heap_alloc_new (w.alloc (.cells #[.int .i64 h.index, .int .u64 h.first, .int .i64 h.count, .int .i64 h.bytes, .slice P1 h.prev.length p1, .slice P2 h.root.length p2] 33)) (.cells #[.int .i64 h.index, .int .u64 h.first, .int .i64 h.count, .int .i64 h.bytes, .slice P1 h.prev.length p1, .slice P2 h.root.length p2] 40)
  rw [World.size_alloc] at hE
  have f0 := cellOf hE (k := 0) rfl
  have f1 := cellOf hE (k := 1) rfl
  have f2 := cellOf hE (k := 2) rfl
  have f3 := cellOf hE (k := 3) rfl
  have f4 := cellOf hE (k := 4) rfl
  have f5 := cellOf hE (k := 5) rfl
  refine bodyPost_ret (v := .agg #[.int .i64 h.index, .int .u64 h.first, .int .i64 h.count, .int .i64 h.bytes, .slice P1 h.prev.length p1, .slice P2 h.root.length p2]) (by simp [results, Tryz.results46, go_sem, f0, f1, f2, f3, f4, f5]) rfl ?_
  exact ⟨rfl, ((New.refl w).alloc _).alloc _⟩
set_option maxRecDepth 100000 in
set_option maxHeartbeats 1000000 in
theorem head24_any (D1 D2 D3 D4 : Nat → Prop) (A1 A2 A3 A4 : Option Addr) (c1 c2 c3 c4 : Nat) (h : HeadP) (w : World) (b1 : Bs w D1 A1 h.prev.length h.prev) (b2 : Bs w D2 A2 h.root.length h.root) (b3 : Bs w D3 A3 h.prev.length h.prev) (b4 : Bs w D4 A4 h.root.length h.root) :
    Calls Tryz.prog 44 #[.agg #[.int .i64 h.index, .int .u64 h.first, .int .i64 h.count, .int .i64 h.bytes, .slice A1 h.prev.length c1, .slice A2 h.root.length c2], .agg #[.int .i64 h.index, .int .u64 h.first, .int .i64 h.count, .int .i64 h.bytes, .slice A3 h.prev.length c3, .slice A4 h.root.length c4]] w fun e w' => e = .returned (.bool true) ∧ New w w' := by
  have hN : New w ((w.alloc (.cells #[.int .i64 h.index, .int .u64 h.first, .int .i64 h.count, .int .i64 h.bytes, .slice A1 h.prev.length c1, .slice A2 h.root.length c2] 40)).alloc (.cells #[.int .i64 h.index, .int .u64 h.first, .int .i64 h.count, .int .i64 h.bytes, .slice A3 h.prev.length c3, .slice A4 h.root.length c4] 40)) := ((New.refl w).alloc _).alloc _
  have HN := Lib.hid hN
  have hX := ((New.refl (w.alloc (.cells #[.int .i64 h.index, .int .u64 h.first, .int .i64 h.count, .int .i64 h.bytes, .slice A1 h.prev.length c1, .slice A2 h.root.length c2] 40))).alloc (.cells #[.int .i64 h.index, .int .u64 h.first, .int .i64 h.count, .int .i64 h.bytes, .slice A3 h.prev.length c3, .slice A4 h.root.length c4] 40)).blockAt (heap_alloc_new w _) trivial
  have hY := heap_alloc_new (w.alloc (.cells #[.int .i64 h.index, .int .u64 h.first, .int .i64 h.count, .int .i64 h.bytes, .slice A1 h.prev.length c1, .slice A2 h.root.length c2] 40)) (.cells #[.int .i64 h.index, .int .u64 h.first, .int .i64 h.count, .int .i64 h.bytes, .slice A3 h.prev.length c3, .slice A4 h.root.length c4] 40)
  rw [show (w.alloc (.cells #[.int .i64 h.index, .int .u64 h.first, .int .i64 h.count, .int .i64 h.bytes, .slice A1 h.prev.length c1, .slice A2 h.root.length c2] 40)).heap.size = w.heap.size + 1 from by simp] at hY
  have k1 := run_str (c := c1) (b1.new hN)
  have k2 := run_str (c := c2) (b2.new hN)
  have k3 := run_str (c := c3) (b3.new hN)
  have k4 := run_str (c := c4) (b4.new hN)
  have x0 := cellOf hX (k := 0) rfl
  have x1 := cellOf hX (k := 1) rfl
  have x2 := cellOf hX (k := 2) rfl
  have x3 := cellOf hX (k := 3) rfl
  have x4 := cellOf hX (k := 4) rfl
  have x5 := cellOf hX (k := 5) rfl
  have y0 := cellOf hY (k := 0) rfl
  have y1 := cellOf hY (k := 1) rfl
  have y2 := cellOf hY (k := 2) rfl
  have y3 := cellOf hY (k := 3) rfl
  have y4 := cellOf hY (k := 4) rfl
  have y5 := cellOf hY (k := 5) rfl
  clear hN hX hY b1 b2 b3 b4
  go_enter Tryz.func44, Tryz.ntmps44
  go_wp2_with fail
  go_ret
  exact ⟨rfl, HN.out⟩
end Go.Proofs.YtfegdgaanmcecaaGreatDoor
/-
  PROVED HERE: plain law: the path of a leaf climbs to the root; no condition.
-/
namespace Go.Proofs.YtfegdgaanmcecaaGreatDoor
open Go.RowKit

/-- a leaf's path comes to the root. -/
theorem climb_path (n : Nat) : ∀ (ls : List (List UInt8)) (i : Nat), ls.length = n → i < n → climbOf (shaSum (0 :: ls.getD i [])) i n (pathOf ls i) = (rootOf ls, true) := by
  induction n using Nat.strongRecOn with
  | _ n ih =>
    intro ls i hl hi
    by_cases h1 : n = 1
    · subst h1
      obtain rfl : i = 0 := by omega
      rw [pathOf_few ls 0 (by omega), climbOf_one]
      match ls, hl with
      | [x], _ => rfl
    · have h2 : 2 ≤ n := by omega
      have hp := partN_lt h2
      have hq := partN_pos n
      have hR := rootOf_more ls (by omega)
      by_cases hik : i < partN n
      · have hP := pathOf_left ls i (by omega) (by rw [hl]; exact hik)
        have IH := ih (partN n) hp (ls.take (partN n)) i (by rw [List.length_take]; omega) hik
        rw [hl] at hP hR
        have hg : (ls.take (partN n)).getD i [] = ls.getD i [] := by rw [List.getD_eq_getElem?_getD, List.getD_eq_getElem?_getD, List.getElem?_take, if_pos hik]
        rw [hg] at IH
        generalize hps : pathOf (ls.take (partN n)) i = ps at *
        rw [hP, climbOf_left _ i n ps.length _ h1 (by rw [List.length_append]; rfl) hik, List.take_left, IH]
        have hd : (ps ++ [rootOf (ls.drop (partN n))]).getD ps.length [] = rootOf (ls.drop (partN n)) := by rw [List.getD_eq_getElem?_getD, List.getElem?_append_right (Nat.le_refl _), Nat.sub_self]; rfl
        rw [hd, hR]
      · have hP := pathOf_right ls i (by omega) (by rw [hl]; exact hik)
        have IH := ih (n - partN n) (by omega) (ls.drop (partN n)) (i - partN n) (by rw [List.length_drop]; omega) (by omega)
        rw [hl] at hP hR
        have hg : (ls.drop (partN n)).getD (i - partN n) [] = ls.getD i [] := by rw [List.getD_eq_getElem?_getD, List.getD_eq_getElem?_getD, List.getElem?_drop, show partN n + (i - partN n) = i from by omega]
        rw [hg] at IH
        generalize hps : pathOf (ls.drop (partN n)) (i - partN n) = ps at *
        rw [hP, climbOf_right _ i n ps.length _ h1 (by rw [List.length_append]; rfl) hik, List.take_left, IH]
        have hd : (ps ++ [rootOf (ls.take (partN n))]).getD ps.length [] = rootOf (ls.take (partN n)) := by rw [List.getD_eq_getElem?_getD, List.getElem?_append_right (Nat.le_refl _), Nat.sub_self]; rfl
        rw [hd, hR]
/-- so it is checked. -/
theorem check_path (ls : List (List UInt8)) (i : Nat) (h : i < ls.length) : checkOf (rootOf ls) (ls.getD i []) i ls.length (pathOf ls i) = true := by
  rw [checkOf_in _ _ _ _ _ h, climb_path ls.length ls i rfl h]
  simp
end Go.Proofs.YtfegdgaanmcecaaGreatDoor
/-
  PROVED HERE: what proof.Make's function value and slices.IndexFunc answer; condition: lengths that a slice may have.
-/
namespace Go.Proofs.YtfegdgaanmcecaaGreatDoor
open Go.RowKit

theorem seqis_any (g : Nat) (s : Int) (r : RecP) (A : Option Addr) (c : Nat) (w : World) (hs : w.cell? ⟨g, 0, none⟩ = some (.int .u64 s)) :
    Calls Tryz.prog 34 #[.agg #[.int .i64 r.kind, .int .u64 r.seq, .slice A r.body.length c], .pointer (some ⟨g, 0, none⟩)] w fun e w' => e = .returned (.bool (r.seq == s)) ∧ New w w' := by
  have hN := (New.refl w).alloc (.cells #[.int .i64 r.kind, .int .u64 r.seq, .slice A r.body.length c] 42)
  have x1 := cellOf (heap_alloc_new w (.cells #[.int .i64 r.kind, .int .u64 r.seq, .slice A r.body.length c] 42)) (k := 1) rfl
  have x2 := hN.cell_some hs trivial
  have HN := Lib.hid hN
  clear hN
  go_enter Tryz.func34, Tryz.ntmps34
  go_wp2_with fail
  go_ret
  exact ⟨rfl, HN.out⟩
/-- the place of a record with that number; -1: there is none. -/
def seqPlace (rs : List RecP) (s : Int) : Int := match rs.findIdx? (fun r => r.seq == s) with
  | some i => (i : Int)
  | none => -1
set_option maxRecDepth 100000 in
set_option maxHeartbeats 2000000 in
theorem index_any (D : Nat → Prop) (A : Option Addr) (n c g : Nat) (s : Int) (rs : List RecP) (w : World) (hR : Recs w D A n rs) (hn : n ≤ 1000000) (hs : w.cell? ⟨g, 0, none⟩ = some (.int .u64 s)) :
    Calls Tryz.prog 33 #[.slice A n c, .func (Fn.func 34) #[] #[.pointer (some ⟨g, 0, none⟩)]] w fun e w' => e = .returned (.int .i64 (seqPlace rs s)) ∧ New w w' := by
  have HL := Lib.hid hR.len
  have HR := Lib.hid hR
  have HS := Lib.hid hs
  clear hR hs
  go_enter Tryz.func33, Tryz.ntmps33
  go_wp2_with fail
  go_loopw [8] (fun i wx => ∃ k : Nat, k ≤ n ∧ i = .int .i64 (k : Int) ∧ (∀ j (h : j < rs.length), j < k → (rs[j].seq == s) = false) ∧ New w wx) (fun i _ => n - (intOf i).toNat)
  case atStart => exact ⟨0, Nat.zero_le _, rfl, fun j h hj => absurd hj (by omega), New.refl _⟩
  case round =>
    obtain ⟨k, hk, rfl, hno, hK⟩ := hrel
    have HNO := Lib.hid hno
    have HK := Lib.hid hK
    clear hno hK
    by_cases hlt : k < n
    · have hlk : k < rs.length := by have := HL.out; omega
      have HEQ : Hid (rs[k] = rs[k]) := Lib.hid rfl
      have HSI := Lib.hid (fun A' c' => seqis_any g s rs[k] A' c' wr (HK.out.cell_some HS.out trivial))
      have hat := (HR.out.new HK.out).at_ hlk
      have HFI : Hid ((rs[k].seq == s) = true → seqPlace rs s = (k : Int)) := Lib.hid fun h => by
        unfold seqPlace
        rw [List.findIdx?_eq_some_iff_getElem.2 ⟨hlk, h, fun j hj => by simpa using HNO.out j (by omega) hj⟩]
      have HNX : Hid ((rs[k].seq == s) = false → ∀ j (h : j < rs.length), j < k + 1 → (rs[j].seq == s) = false) := Lib.hid fun h j hj hjk => by
        by_cases e : j = k
        · subst e; exact h
        · exact HNO.out j hj (by omega)
      generalize rs[k] = r at *
      obtain ⟨b, off, A', c', rfl, u0, u1, u2, _⟩ := hat
      have HSI := Lib.hid (HSI.out A' c')
      cases he : (r.seq == s)
      · rw [he] at HSI
        have HNX := Lib.hid (HNX.out he)
        clear he HFI
        go_wp2_with fail
        refine HSI.out.mono ?_
        rintro e w' ⟨rfl, k1⟩
        go_wp2_with fail
        go_roundw
        case rel => exact ⟨k + 1, by omega, by go_num, HNX.out, HK.out.new k1⟩
        case measure => simp [intOf]; omega
      · rw [he] at HSI
        have HFI := Lib.hid (HFI.out he)
        clear he HNX
        go_wp2_with fail
        refine HSI.out.mono ?_
        rintro e w' ⟨rfl, k1⟩
        go_wp2_with fail
        go_ret
        exact ⟨by rw [HFI.out]; rfl, HK.out.new k1⟩
    · obtain rfl : k = n := by omega
      have HFI : Hid (seqPlace rs s = -1) := Lib.hid (by
        unfold seqPlace
        rw [List.findIdx?_eq_none_iff.2 fun x hx => by
          obtain ⟨j, hj, rfl⟩ := List.mem_iff_getElem.1 hx
          exact HNO.out j hj (by have := HL.out; omega)])
      go_wp2_with fail
      go_ret
      exact ⟨by rw [HFI.out]; rfl, HK.out⟩
end Go.Proofs.YtfegdgaanmcecaaGreatDoor
/-
  PROVED HERE: what slices.Clone answers at heads that are not nil; condition: fewer than 2^40 heads.
-/
namespace Go.Proofs.YtfegdgaanmcecaaGreatDoor
open Go.RowKit

set_option maxRecDepth 100000 in
set_option maxHeartbeats 2000000 in
theorem clone_any (D : Nat → Prop) (A : Addr) (n c : Nat) (hs : List HeadP) (w : World) (hH : Heads w D (some A) n hs) (hn : n ≤ 1000000) :
    Calls Tryz.prog 37 #[.slice (some A) n c] w fun e w' => (∃ A' c', e = .returned (.slice A' n c') ∧ OwnHeads w' w.heap.size (fun b => b < w.heap.size) A' n c' hs) ∧ New w w' := by
  obtain ⟨us, h1, h2, h3⟩ := hH
  have kA : New w (w.alloc (.cells #[] 33)) := (New.refl w).alloc _
  have hr := h1.new kA
  have h0 : OwnHeads (w.alloc (.cells #[] 33)) w.heap.size (fun b => b < w.heap.size) (some ⟨w.heap.size, 0, none⟩) 0 0 [] := ⟨[], World.ownsRow_made w #[] 0 (Nat.le_refl _) (by decide) rfl, rfl, fun k hk => absurd hk (by simp)⟩
  have hy : ∀ k (h : k < hs.length), HeadAt (w.alloc (.cells #[] 33)) (fun b => b < w.heap.size ∧ some b ≠ blk (some (Addr.mk w.heap.size 0 none))) us (k * 6) hs[k] := fun k hk => ((h3 k hk).imp (E := fun b => b < w.heap.size ∧ some b ≠ blk (some (Addr.mk w.heap.size 0 none))) fun b hb _ => ⟨hb, fun e => by (have e1 : b = w.heap.size := by injection e); omega⟩).keep kA (fun _ _ _ => trivial)
  have hbd : 0 + n ≤ 1099511627776 := by omega
  have hsz : w.heap.size ≤ (w.alloc (.cells #[] 33)).heap.size := kA.size
  have hq : ∀ W, (binOp BinOp.eql 34 (.slice (some A) n c) (.slice none 0 0)).run Tryz.prog W = .ok (.bool false) W := fun W => by first | rfl | (simp [binOp, go_sem, run_underlying Tryz.underlying34])
  clear h1 h3
  go_enter Tryz.func37, Tryz.ntmps37
  go_wp2_with (at_builtin; refine app_headsM _ rfl _ _ rfl w.heap.size (fun b => b < w.heap.size) (some ⟨w.heap.size, 0, none⟩) 0 0 [] rfl h0 _ (some A) n c us hs rfl hr h2 hy hbd hsz ?_; intro A3 c3 w3 o3 hg3 hbk3)
  rw [Nat.zero_add, List.nil_append] at o3
  have hN : New w w3 := kA.grown hg3 (fun j hj _ => (h0.lt j hj).1)
  go_ret
  exact ⟨⟨A3, c3, rfl, o3⟩, hN⟩
end Go.Proofs.YtfegdgaanmcecaaGreatDoor
/-
  PROVED HERE: what segment.Leaves and permafrostref17.Leaves answer, with the rows' capacities bounded; condition: lengths that a slice may have.
-/
namespace Go.Proofs.YtfegdgaanmcecaaGreatDoor
open Go.RowKit

theorem OwnImgs.apart {w : World} {base base' : Nat} {D : Nat → Prop} {A A' : Option Addr} {n c n' c' : Nat} {ls : List (List UInt8)} {bs : List UInt8} (h : OwnImgs w base D A n c ls) (hb : OwnB w base' 5 A' n' c' bs) : Bs w (fun b => base' ≤ b ∧ some b ≠ blk A) A' n' bs := by
  obtain ⟨_, h1, _⟩ := h
  exact own_u8_ne h1 hb
set_option maxRecDepth 100000 in
set_option maxHeartbeats 2000000 in
theorem leavesM_any (D : Nat → Prop) (A : Option Addr) (n c : Nat) (rs : List RecP) (w : World) (hB : Recs w D A n rs) (hn : n ≤ 1099511620000) :
    Calls Tryz.prog 35 #[.slice A n c] w fun e w' => (∃ A' c', e = .returned (.slice A' n c') ∧ OwnImgs w' w.heap.size (fun b => w.heap.size ≤ b) A' n c' (leavesOf rs)) ∧ New w w' := by
  have hl := hB.len
  have HB := Lib.hid hB
  clear hB
  go_enter Tryz.func35, Tryz.ntmps35
  go_wp2_with fail
  go_loopw [3, 10] (fun s3 i wx => ∃ (k : Nat) (A' : Option Addr) (c' : Nat), k ≤ n ∧ i = .int .i64 (k : Int) ∧ s3 = .slice A' k c' ∧ OwnImgs wx w.heap.size (fun b => w.heap.size ≤ b) A' k c' (leavesOf (rs.take k)) ∧ New w wx) (fun _ i _ => n - (intOf i).toNat)
  case atStart => exact ⟨0, none, 0, Nat.zero_le _, rfl, rfl, OwnImgs.nil _ _ _, New.refl _⟩
  case round =>
    obtain ⟨k, A1, c1, hk, rfl, rfl, hown, hK⟩ := hrel
    by_cases hlt : k < n
    · obtain ⟨b, off, A', c', rfl, h1, h2, h3, hc', hb, hs0, hs1, hc9⟩ := (HB.out.new hK).at_ (k := k) (by omega)
      have HLT := Lib.hid (leaves_take rs k (by omega))
      generalize rs[k]'_ = r at *
      have hK0 : New w (wr.alloc (.cells #[.int .i64 r.kind, .int .u64 r.seq, .slice A' r.body.length c'] 42)) := hK.alloc _
      have hN0 : New wr (wr.alloc (.cells #[.int .i64 r.kind, .int .u64 r.seq, .slice A' r.body.length c'] 42)) := (New.refl wr).alloc _
      by_cases hr : recRight r = true
      · have HE := Lib.hid (encode_yes D A' r.body.length c' r _ (hb.new hN0) hc' (by omega) hs0 hs1 hr)
        rw [if_pos hr] at HLT
        clear hb hc' hs0 hs1 hr
        go_wp2_with fail
        refine HE.out.mono ?_
        rintro e w1 ⟨⟨A2, c2, rfl, hown2⟩, hK1⟩
        have hN1 := hN0.new hK1
        have hown1 := hown.new hN1
        have hK01 := hK.new hN1
        have hge : w.heap.size ≤ (wr.alloc (.cells #[.int .i64 r.kind, .int .u64 r.seq, .slice A' r.body.length c'] 42)).heap.size := hK0.size
        have hy := (Row.imp (hown1.apart hown2) (E := fun b => w.heap.size ≤ b ∧ some b ≠ blk A1) (fun b _ h => ⟨Nat.le_trans hge h.1, h.2⟩)).alloc (.cells #[.slice A2 (recEnc r).length c2] 31)
        have hmc := own_cap hown2
        have hmx := own_capMax hown2
        have hown1' := hown1.new ((New.refl w1).alloc (.cells #[.slice A2 (recEnc r).length c2] 31))
        have hrow := row_one w1 31 (.slice A2 (recEnc r).length c2)
        have hbd : k + 1 ≤ 1099511627776 := by omega
        have hsz : w.heap.size ≤ (w1.alloc (.cells #[.slice A2 (recEnc r).length c2] 31)).heap.size := (hK01.alloc _).size
        clear hown hK hN1 hN0 hK0 hK1 h1 h2 h3 HE hown2 hge
        go_wp2_with (at_builtin; refine app_imgs _ rfl (.tmp 19) (.tmp 21) rfl w.heap.size (fun b => w.heap.size ≤ b) A1 k c1 _ rfl hown1' (fun g => w1.heap.size ≤ g) _ 1 A2 _ c2 _ rfl hrow hy hmc hmx hbd hsz ?_; intro A3 c3 w3 hown3 hg3 hbk3)
        have hK3 := (hK01.alloc (.cells #[.slice A2 (recEnc r).length c2] 31)).grown hg3 (fun k hk _ => (hown1.lt k hk).1)
        clear hown1 hown1' hrow hy hmc hg3 hbk3 hK01 hsz
        go_roundw
        case rel => exact ⟨k + 1, _, _, by omega, by go_num, rfl, by rw [HLT.out]; exact hown3, hK3⟩
        case measure => simp [intOf]; omega
      · have hr' : recRight r = false := by simpa using hr
        have HE := Lib.hid (encode_no D A' r.body.length c' r _ (hb.new hN0) hc' (by omega) hs0 hs1 hr')
        rw [if_neg hr] at HLT
        clear hb hc' hs0 hs1 hr hr'
        go_wp2_with fail
        refine HE.out.mono ?_
        rintro e w1 ⟨rfl, hK1⟩
        have hN1 := hN0.new hK1
        have hown1 := hown.new hN1
        have hK01 := hK.new hN1
        have hy : Bs (w1.alloc (.cells #[.slice none 0 0] 31)) (fun b => w.heap.size ≤ b ∧ some b ≠ blk A1) none 0 [] := Row.nil _ _ _ _
        have hown1' := hown1.new ((New.refl w1).alloc (.cells #[.slice none 0 0] 31))
        have hrow := row_one w1 31 (.slice none 0 0)
        have hbd : k + 1 ≤ 1099511627776 := by omega
        have hsz : w.heap.size ≤ (w1.alloc (.cells #[.slice none 0 0] 31)).heap.size := (hK01.alloc _).size
        clear hown hK hN1 hN0 hK0 hK1 h1 h2 h3 HE
        go_wp2_with (at_builtin; refine app_imgs _ rfl (.tmp 19) (.tmp 21) rfl w.heap.size (fun b => w.heap.size ≤ b) A1 k c1 _ rfl hown1' (fun g => w1.heap.size ≤ g) _ 1 none _ 0 _ rfl hrow hy (Nat.le_refl _) (by decide) hbd hsz ?_; intro A3 c3 w3 hown3 hg3 hbk3)
        have hK3 := (hK01.alloc (.cells #[.slice none 0 0] 31)).grown hg3 (fun k hk _ => (hown1.lt k hk).1)
        clear hown1 hown1' hrow hy hg3 hbk3 hK01 hsz
        go_roundw
        case rel => exact ⟨k + 1, _, _, by omega, by go_num, rfl, by rw [HLT.out]; exact hown3, hK3⟩
        case measure => simp [intOf]; omega
    · obtain rfl : k = n := by omega
      rw [List.take_of_length_le (by omega)] at hown
      go_wp2_with fail
      go_ret
      exact ⟨⟨_, _, rfl, hown⟩, hK⟩
set_option maxRecDepth 100000 in
set_option maxHeartbeats 2000000 in
theorem leavesM17_any (D : Nat → Prop) (A : Option Addr) (n c : Nat) (rs : List RecP) (w : World) (hB : Recs w D A n rs) (hn : n ≤ 1099511620000) :
    Calls Tryz.prog 50 #[.slice A n c] w fun e w' => (∃ A' c', e = .returned (.slice A' n c') ∧ OwnImgs w' w.heap.size (fun b => w.heap.size ≤ b) A' n c' (leavesOf rs)) ∧ New w w' := by
  have hl := hB.len
  have HB := Lib.hid hB
  clear hB
  go_enter Tryz.func50, Tryz.ntmps50
  go_wp2_with fail
  go_loopw [3, 4] (fun s3 i wx => ∃ (k : Nat) (A' : Option Addr) (c' : Nat), k ≤ n ∧ i = .int .i64 (k : Int) ∧ s3 = .slice A' k c' ∧ OwnImgs wx w.heap.size (fun b => w.heap.size ≤ b) A' k c' (leavesOf (rs.take k)) ∧ New w wx) (fun _ i _ => n - (intOf i).toNat)
  case atStart => exact ⟨0, none, 0, Nat.zero_le _, rfl, rfl, OwnImgs.nil _ _ _, New.refl _⟩
  case round =>
    obtain ⟨k, A1, c1, hk, rfl, rfl, hown, hK⟩ := hrel
    by_cases hlt : k < n
    · obtain ⟨b, off, A', c', rfl, h1, h2, h3, hc', hb, hs0, hs1, hc9⟩ := (HB.out.new hK).at_ (k := k) (by omega)
      have HLT := Lib.hid (leaves_take rs k (by omega))
      generalize rs[k]'_ = r at *
      have HRI := Lib.hid (fun W => right16_any r.kind r.seq A' r.body.length c' r W rfl rfl rfl (by omega))
      have HE := Lib.hid (fun W hW => encode16_any D A' r.body.length c' r W (hb.new hW) hc' (by omega) hs0 hs1)
      have H1 := Lib.hid h1
      have H2 := Lib.hid h2
      have H3 := Lib.hid h3
      clear hb hc' hs0 hs1
      go_wp2_with fail
      refine (HRI.out wr).mono ?_
      rintro e w0 ⟨rfl, hK0⟩
      have g1 := hK0.cell_some H1.out trivial
      have g2 := hK0.cell_some H2.out trivial
      have g3 := hK0.cell_some H3.out trivial
      have hown0 := hown.new hK0
      have hK00 := hK.new hK0
      have HK0 := Lib.hid hK0
      clear h1 h2 h3 hown hK hK0 HRI
      by_cases hr : recRight r = true
      · rw [if_pos hr] at HLT
        rw [hr]
        clear hr
        go_wp2_with fail
        refine (HE.out w0 HK0.out).mono ?_
        rintro e w1 ⟨⟨A2, c2, rfl, hown2⟩, hK1⟩
        have hown1 := hown0.new hK1
        have hK01 := hK00.new hK1
        have hge : w.heap.size ≤ w0.heap.size := hK00.size
        have hy := (Row.imp (hown1.apart hown2) (E := fun b => w.heap.size ≤ b ∧ some b ≠ blk A1) (fun b _ h => ⟨Nat.le_trans hge h.1, h.2⟩)).alloc (.cells #[.slice A2 (recEnc r).length c2] 31)
        have hmc := own_cap hown2
        have hmx := own_capMax hown2
        have hown1' := hown1.new ((New.refl w1).alloc (.cells #[.slice A2 (recEnc r).length c2] 31))
        have hrow := row_one w1 31 (.slice A2 (recEnc r).length c2)
        have hbd : k + 1 ≤ 1099511627776 := by omega
        have hsz : w.heap.size ≤ (w1.alloc (.cells #[.slice A2 (recEnc r).length c2] 31)).heap.size := (hK01.alloc _).size
        clear hown0 hK00 hK1 g1 g2 g3 HE hown2 hge
        go_wp2_with (at_builtin; refine app_imgs _ rfl _ _ rfl w.heap.size (fun b => w.heap.size ≤ b) A1 k c1 _ rfl hown1' (fun g => w1.heap.size ≤ g) _ 1 A2 _ c2 _ rfl hrow hy hmc hmx hbd hsz ?_; intro A3 c3 w3 hown3 hg3 hbk3)
        have hK3 := (hK01.alloc (.cells #[.slice A2 (recEnc r).length c2] 31)).grown hg3 (fun k hk _ => (hown1.lt k hk).1)
        clear hown1 hown1' hrow hy hmc hg3 hbk3 hK01 hsz
        go_roundw
        case rel => exact ⟨k + 1, _, _, by omega, by go_num, rfl, by rw [HLT.out]; exact hown3, hK3⟩
        case measure => simp [intOf]; omega
      · have hr' : recRight r = false := by simpa using hr
        rw [if_neg hr] at HLT
        rw [hr']
        clear hr hr'
        have hy : Bs (w0.alloc (.cells #[.slice none 0 0] 31)) (fun b => w.heap.size ≤ b ∧ some b ≠ blk A1) none 0 [] := Row.nil _ _ _ _
        have hown1' := hown0.new ((New.refl w0).alloc (.cells #[.slice none 0 0] 31))
        have hrow := row_one w0 31 (.slice none 0 0)
        have hbd : k + 1 ≤ 1099511627776 := by omega
        have hsz : w.heap.size ≤ (w0.alloc (.cells #[.slice none 0 0] 31)).heap.size := (hK00.alloc _).size
        clear g1 g2 g3 HE
        go_wp2_with (at_builtin; refine app_imgs _ rfl _ _ rfl w.heap.size (fun b => w.heap.size ≤ b) A1 k c1 _ rfl hown1' (fun g => w0.heap.size ≤ g) _ 1 none _ 0 _ rfl hrow hy (Nat.le_refl _) (by decide) hbd hsz ?_; intro A3 c3 w3 hown3 hg3 hbk3)
        have hK3 := (hK00.alloc (.cells #[.slice none 0 0] 31)).grown hg3 (fun k hk _ => (hown0.lt k hk).1)
        clear hown0 hown1' hrow hy hg3 hbk3 hK00 hsz
        go_roundw
        case rel => exact ⟨k + 1, _, _, by omega, by go_num, rfl, by rw [HLT.out]; exact hown3, hK3⟩
        case measure => simp [intOf]; omega
    · obtain rfl : k = n := by omega
      rw [List.take_of_length_le (by omega)] at hown
      go_wp2_with fail
      go_ret
      exact ⟨⟨_, _, rfl, hown⟩, hK⟩
end Go.Proofs.YtfegdgaanmcecaaGreatDoor
