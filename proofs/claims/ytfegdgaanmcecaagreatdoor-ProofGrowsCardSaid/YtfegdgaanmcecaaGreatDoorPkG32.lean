/-
  PROVED HERE: texts that belong together, one behind the other; what each proves, and under which conditions, its own opening remark says: ImgsPart, Small24, Float, HoldW.
-/
import Derived.Test.YtfegdgaanmcecaaGreatDoorPkG00
import Derived.Test.YtfegdgaanmcecaaGreatDoorPkG11
import Derived.Test.YtfegdgaanmcecaaGreatDoorPkG27
import Derived.Test.YtfegdgaanmcecaaGreatDoorPkG31
/-
  PROVED HERE: parts of a slice of images, and slices of images whose images are not named; no condition.
-/
namespace Go.Proofs.YtfegdgaanmcecaaGreatDoor
open Go.RowKit




























end Go.Proofs.YtfegdgaanmcecaaGreatDoor
/-
  PROVED HERE: what permafrostlaw24.id, headIn, headOut and head (of equal heads) answer; no condition.
-/
namespace Go.Proofs.YtfegdgaanmcecaaGreatDoor
open Go.RowKit

theorem bs_cells24 {w : World} {g : Nat} {t : TypeId} {C : Array Value} (bs : List UInt8) (hC : C.toList = bs.map byteVal) (h : w.heap[g]? = some (.cells C t (0, 0))) : Bs w (fun _ => True) (some ⟨g, 0, none⟩) bs.length bs := by
  refine ⟨by simp, fun _ => ⟨g, 0, rfl, trivial, (Array.getElem?_eq_some_iff.1 h).1, fun k u hu => ?_⟩⟩
  rw [cell_of_row _ _ _ _ _ (0, 0) h]
  rw [← hC] at hu
  simpa using hu
def id24 : List UInt8 := [48, 49, 50, 51, 52, 53, 54, 55, 56, 57, 97, 98, 99, 100, 101, 102]
theorem id24_any (w : World) : Calls Tryz.prog 15 #[] w fun e w' => (∃ A', e = .returned (.slice A' 16 16) ∧ Bs w' (fun b => w.heap.size ≤ b) A' 16 id24) ∧ New w w' := by
  obtain ⟨w0, e0, k0, l0⟩ := conv_mark 16 16 (heap_alloc_new w (.cells #[.int .u8 48, .int .u8 49, .int .u8 50, .int .u8 51, .int .u8 52, .int .u8 53, .int .u8 54, .int .u8 55, .int .u8 56, .int .u8 57, .int .u8 97, .int .u8 98, .int .u8 99, .int .u8 100, .int .u8 101, .int .u8 102] 5))
  have b0 : Bs (w.alloc (.cells #[.int .u8 48, .int .u8 49, .int .u8 50, .int .u8 51, .int .u8 52, .int .u8 53, .int .u8 54, .int .u8 55, .int .u8 56, .int .u8 57, .int .u8 97, .int .u8 98, .int .u8 99, .int .u8 100, .int .u8 101, .int .u8 102] 5)) (fun _ => True) (some ⟨w.heap.size, 0, none⟩) 16 id24 := bs_cells24 id24 (by simp [byteVal, bv, id24]) (heap_alloc_new w (.cells #[.int .u8 48, .int .u8 49, .int .u8 50, .int .u8 51, .int .u8 52, .int .u8 53, .int .u8 54, .int .u8 55, .int .u8 56, .int .u8 57, .int .u8 97, .int .u8 98, .int .u8 99, .int .u8 100, .int .u8 101, .int .u8 102] 5))
  have b1 : Bs w0 (fun b => w.heap.size ≤ b) (some ⟨w.heap.size, 0, none⟩) 16 id24 := by
    obtain ⟨h1, h2⟩ := Row.like b0 l0
    refine ⟨h1, fun hn => ?_⟩
    obtain ⟨b, off, e, _, hl, hc⟩ := h2 hn
    injection e with e
    injection e with e e'
    subst e e'
    exact ⟨_, _, rfl, Nat.le_refl _, hl, hc⟩
  have n00 : New w w0 := (Keep.trans2 (D := fun b => b < w.heap.size) (Keep.of_new ((New.refl w).alloc (.cells #[.int .u8 48, .int .u8 49, .int .u8 50, .int .u8 51, .int .u8 52, .int .u8 53, .int .u8 54, .int .u8 55, .int .u8 56, .int .u8 57, .int .u8 97, .int .u8 98, .int .u8 99, .int .u8 100, .int .u8 101, .int .u8 102] 5))) k0 (fun i _ hi e => by subst e; exact absurd hi (Nat.lt_irrefl _))).toNew (fun i hi => hi)
  clear b0 k0 l0
  go_enter Tryz.func15, Tryz.ntmps15
  go_wp2_with fail
  go_ret
  exact ⟨⟨_, rfl, b1⟩, n00⟩
set_option maxRecDepth 100000 in
set_option maxHeartbeats 1000000 in
theorem headOut_any (P1 P2 : Option Addr) (p1 p2 : Nat) (h : HeadP) (w : World) : Calls Tryz.prog 16 #[.agg #[.int .i64 h.index, .int .u64 h.first, .int .i64 h.count, .int .i64 h.bytes, .slice P1 h.prev.length p1, .slice P2 h.root.length p2]] w fun e w' => e = .returned (.agg #[.int .i64 h.index, .int .u64 h.first, .int .i64 h.count, .int .i64 h.bytes, .slice P1 h.prev.length p1, .slice P2 h.root.length p2]) ∧ New w w' := by
  have hY := heap_alloc_new (w.alloc (.cells #[.int .i64 h.index, .int .u64 h.first, .int .i64 h.count, .int .i64 h.bytes, .slice P1 h.prev.length p1, .slice P2 h.root.length p2] 40)) (.cells #[.int .i64 0, .int .u64 0, .int .i64 0, .int .i64 0, .slice none 0 0, .slice none 0 0] 33)
  have hX := ((New.refl (w.alloc (.cells #[.int .i64 h.index, .int .u64 h.first, .int .i64 h.count, .int .i64 h.bytes, .slice P1 h.prev.length p1, .slice P2 h.root.length p2] 40))).alloc (.cells #[.int .i64 0, .int .u64 0, .int .i64 0, .int .i64 0, .slice none 0 0, .slice none 0 0] 33)).blockAt (heap_alloc_new w (.cells #[.int .i64 h.index, .int .u64 h.first, .int .i64 h.count, .int .i64 h.bytes, .slice P1 h.prev.length p1, .slice P2 h.root.length p2] 40)) trivial
  have HN := Lib.hid (((New.refl w).alloc (.cells #[.int .i64 h.index, .int .u64 h.first, .int .i64 h.count, .int .i64 h.bytes, .slice P1 h.prev.length p1, .slice P2 h.root.length p2] 40)).alloc (.cells #[.int .i64 0, .int .u64 0, .int .i64 0, .int .i64 0, .slice none 0 0, .slice none 0 0] 33))
  rw [World.size_alloc] at hY
  have x0 := cellOf hX (k := 0) rfl
  have y0 := cellOf hY (k := 0) rfl
  have z0 := frozenOf hY 0
  have x1 := cellOf hX (k := 1) rfl
  have y1 := cellOf hY (k := 1) rfl
  have z1 := frozenOf hY 1
  have x2 := cellOf hX (k := 2) rfl
  have y2 := cellOf hY (k := 2) rfl
  have z2 := frozenOf hY 2
  have x3 := cellOf hX (k := 3) rfl
  have y3 := cellOf hY (k := 3) rfl
  have z3 := frozenOf hY 3
  have x4 := cellOf hX (k := 4) rfl
  have y4 := cellOf hY (k := 4) rfl
  have z4 := frozenOf hY 4
  have x5 := cellOf hX (k := 5) rfl
  have y5 := cellOf hY (k := 5) rfl
  have z5 := frozenOf hY 5
  clear hX hY
  go_enter Tryz.func16, Tryz.ntmps16
  go_wp2_with fail
  clear x0 y0 z0 x1 y1 z1 x2 y2 z2 x3 y3 z3 x4 y4 z4 x5 y5 z5
  have hE := heap_alloc_new (w.alloc (.cells #[.int .i64 h.index, .int .u64 h.first, .int .i64 h.count, .int .i64 h.bytes, .slice P1 h.prev.length p1, .slice P2 h.root.length p2] 40)) (.cells #[.int .i64 h.index, .int .u64 h.first, .int .i64 h.count, .int .i64 h.bytes, .slice P1 h.prev.length p1, .slice P2 h.root.length p2] 33)
  rw [World.size_alloc] at hE
  have f0 := cellOf hE (k := 0) rfl
  have f1 := cellOf hE (k := 1) rfl
  have f2 := cellOf hE (k := 2) rfl
  have f3 := cellOf hE (k := 3) rfl
  have f4 := cellOf hE (k := 4) rfl
  have f5 := cellOf hE (k := 5) rfl
  refine bodyPost_ret (v := .agg #[.int .i64 h.index, .int .u64 h.first, .int .i64 h.count, .int .i64 h.bytes, .slice P1 h.prev.length p1, .slice P2 h.root.length p2]) (by simp [results, Tryz.results16, go_sem, f0, f1, f2, f3, f4, f5]) rfl ?_
  exact ⟨rfl, ((New.refl w).alloc _).alloc _⟩
set_option maxRecDepth 100000 in
set_option maxHeartbeats 1000000 in
theorem headIn_any (P1 P2 : Option Addr) (p1 p2 : Nat) (h : HeadP) (w : World) : Calls Tryz.prog 46 #[.agg #[.int .i64 h.index, .int .u64 h.first, .int .i64 h.count, .int .i64 h.bytes, .slice P1 h.prev.length p1, .slice P2 h.root.length p2]] w fun e w' => e = .returned (.agg #[.int .i64 h.index, .int .u64 h.first, .int .i64 h.count, .int .i64 h.bytes, .slice P1 h.prev.length p1, .slice P2 h.root.length p2]) ∧ New w w' := by
  have hY := heap_alloc_new (w.alloc (.cells #[.int .i64 h.index, .int .u64 h.first, .int .i64 h.count, .int .i64 h.bytes, .slice P1 h.prev.length p1, .slice P2 h.root.length p2] 33)) (.cells #[.int .i64 0, .int .u64 0, .int .i64 0, .int .i64 0, .slice none 0 0, .slice none 0 0] 40)
  have hX := ((New.refl (w.alloc (.cells #[.int .i64 h.index, .int .u64 h.first, .int .i64 h.count, .int .i64 h.bytes, .slice P1 h.prev.length p1, .slice P2 h.root.length p2] 33))).alloc (.cells #[.int .i64 0, .int .u64 0, .int .i64 0, .int .i64 0, .slice none 0 0, .slice none 0 0] 40)).blockAt (heap_alloc_new w (.cells #[.int .i64 h.index, .int .u64 h.first, .int .i64 h.count, .int .i64 h.bytes, .slice P1 h.prev.length p1, .slice P2 h.root.length p2] 33)) trivial
  have HN := Lib.hid (((New.refl w).alloc (.cells #[.int .i64 h.index, .int .u64 h.first, .int .i64 h.count, .int .i64 h.bytes, .slice P1 h.prev.length p1, .slice P2 h.root.length p2] 33)).alloc (.cells #[.int .i64 0, .int .u64 0, .int .i64 0, .int .i64 0, .slice none 0 0, .slice none 0 0] 40))
  rw [World.size_alloc] at hY
  have x0 := cellOf hX (k := 0) rfl
  have y0 := cellOf hY (k := 0) rfl
  have z0 := frozenOf hY 0
  have x1 := cellOf hX (k := 1) rfl
  have y1 := cellOf hY (k := 1) rfl
  have z1 := frozenOf hY 1
  have x2 := cellOf hX (k := 2) rfl
  have y2 := cellOf hY (k := 2) rfl
  have z2 := frozenOf hY 2
  have x3 := cellOf hX (k := 3) rfl
  have y3 := cellOf hY (k := 3) rfl
  have z3 := frozenOf hY 3
  have x4 := cellOf hX (k := 4) rfl
  have y4 := cellOf hY (k := 4) rfl
  have z4 := frozenOf hY 4
  have x5 := cellOf hX (k := 5) rfl
  have y5 := cellOf hY (k := 5) rfl
  have z5 := frozenOf hY 5
  clear hX hY
  go_enter Tryz.func46, Tryz.ntmps46
  go_wp2_with fail
  clear x0 y0 z0 x1 y1 z1 x2 y2 z2 x3 y3 z3 x4 y4 z4 x5 y5 z5
  have hE := heap_alloc_new (w.alloc (.cells #[.int .i64 h.index, .int .u64 h.first, .int .i64 h.count, .int .i64 h.bytes, .slice P1 h.prev.length p1, .slice P2 h.root.length p2] 33)) (.cells #[.int .i64 h.index, .int .u64 h.first, .int .i64 h.count, .int .i64 h.bytes, .slice P1 h.prev.length p1, .slice P2 h.root.length p2] 40)
  rw [World.size_alloc] at hE
  have f0 := cellOf hE (k := 0) rfl
  have f1 := cellOf hE (k := 1) rfl
  have f2 := cellOf hE (k := 2) rfl
  have f3 := cellOf hE (k := 3) rfl
  have f4 := cellOf hE (k := 4) rfl
  have f5 := cellOf hE (k := 5) rfl
  refine bodyPost_ret (v := .agg #[.int .i64 h.index, .int .u64 h.first, .int .i64 h.count, .int .i64 h.bytes, .slice P1 h.prev.length p1, .slice P2 h.root.length p2]) (by simp [results, Tryz.results46, go_sem, f0, f1, f2, f3, f4, f5]) rfl ?_
  exact ⟨rfl, ((New.refl w).alloc _).alloc _⟩
set_option maxRecDepth 100000 in
set_option maxHeartbeats 1000000 in
theorem head24_any (D1 D2 D3 D4 : Nat → Prop) (A1 A2 A3 A4 : Option Addr) (c1 c2 c3 c4 : Nat) (h : HeadP) (w : World) (b1 : Bs w D1 A1 h.prev.length h.prev) (b2 : Bs w D2 A2 h.root.length h.root) (b3 : Bs w D3 A3 h.prev.length h.prev) (b4 : Bs w D4 A4 h.root.length h.root) :
    Calls Tryz.prog 44 #[.agg #[.int .i64 h.index, .int .u64 h.first, .int .i64 h.count, .int .i64 h.bytes, .slice A1 h.prev.length c1, .slice A2 h.root.length c2], .agg #[.int .i64 h.index, .int .u64 h.first, .int .i64 h.count, .int .i64 h.bytes, .slice A3 h.prev.length c3, .slice A4 h.root.length c4]] w fun e w' => e = .returned (.bool true) ∧ New w w' := by
  have hN : New w ((w.alloc (.cells #[.int .i64 h.index, .int .u64 h.first, .int .i64 h.count, .int .i64 h.bytes, .slice A1 h.prev.length c1, .slice A2 h.root.length c2] 40)).alloc (.cells #[.int .i64 h.index, .int .u64 h.first, .int .i64 h.count, .int .i64 h.bytes, .slice A3 h.prev.length c3, .slice A4 h.root.length c4] 40)) := ((New.refl w).alloc _).alloc _
  have HN := Lib.hid hN
  have hX := ((New.refl (w.alloc (.cells #[.int .i64 h.index, .int .u64 h.first, .int .i64 h.count, .int .i64 h.bytes, .slice A1 h.prev.length c1, .slice A2 h.root.length c2] 40))).alloc (.cells #[.int .i64 h.index, .int .u64 h.first, .int .i64 h.count, .int .i64 h.bytes, .slice A3 h.prev.length c3, .slice A4 h.root.length c4] 40)).blockAt (heap_alloc_new w _) trivial
  have hY := heap_alloc_new (w.alloc (.cells #[.int .i64 h.index, .int .u64 h.first, .int .i64 h.count, .int .i64 h.bytes, .slice A1 h.prev.length c1, .slice A2 h.root.length c2] 40)) (.cells #[.int .i64 h.index, .int .u64 h.first, .int .i64 h.count, .int .i64 h.bytes, .slice A3 h.prev.length c3, .slice A4 h.root.length c4] 40)
  rw [show (w.alloc (.cells #[.int .i64 h.index, .int .u64 h.first, .int .i64 h.count, .int .i64 h.bytes, .slice A1 h.prev.length c1, .slice A2 h.root.length c2] 40)).heap.size = w.heap.size + 1 from by simp] at hY
  have k1 := run_str (c := c1) (b1.new hN)
  have k2 := run_str (c := c2) (b2.new hN)
  have k3 := run_str (c := c3) (b3.new hN)
  have k4 := run_str (c := c4) (b4.new hN)
  have x0 := cellOf hX (k := 0) rfl
  have x1 := cellOf hX (k := 1) rfl
  have x2 := cellOf hX (k := 2) rfl
  have x3 := cellOf hX (k := 3) rfl
  have x4 := cellOf hX (k := 4) rfl
  have x5 := cellOf hX (k := 5) rfl
  have y0 := cellOf hY (k := 0) rfl
  have y1 := cellOf hY (k := 1) rfl
  have y2 := cellOf hY (k := 2) rfl
  have y3 := cellOf hY (k := 3) rfl
  have y4 := cellOf hY (k := 4) rfl
  have y5 := cellOf hY (k := 5) rfl
  clear hN hX hY b1 b2 b3 b4
  go_enter Tryz.func44, Tryz.ntmps44
  go_wp2_with fail
  go_ret
  exact ⟨rfl, HN.out⟩
end Go.Proofs.YtfegdgaanmcecaaGreatDoor
/-
  PROVED HERE: laws for a region that draws its order where one operation may come at any time: a fork under one condition, and places where the orders meet whose frame is found by the first that comes there; no condition; no program is named.
-/
namespace Go.Proofs.YtfegdgaanmcecaaGreatDoor
open Go.RowKit

section
variable {P : Program} {ops : Array Oper} {Q : Exit → Act → World → Prop} {md : Region.Mode} {S : World → Prop}
/-- either of two may come next. -/
theorem hold_fork0 {i j : Nat} {o o' : Oper} {fuel : Nat} {listed : Array Bool} {a : Act} {w : World} (hr : Region.ready md ops listed = [i, j]) (ho : ops[i]? = some o) (hw : Region.wanted o (yielded ops a.tmps) = true) (ho' : ops[j]? = some o') (hw' : Region.wanted o' (yielded ops a.tmps) = true)
    (h : ∀ K : Act → World → Prop, Hid (∀ a' w', S w' → wpAnyH P md ops Q S fuel (listed.setIfInBounds i true) a' w' → K a' w') → Oper.wp P o a w K Q)
    (h' : ∀ K : Act → World → Prop, Hid (∀ a' w', S w' → wpAnyH P md ops Q S fuel (listed.setIfInBounds j true) a' w' → K a' w') → Oper.wp P o' a w K Q) : wpAnyH P md ops Q S (fuel + 1) listed a w := by
  refine wpAnyH_all hr (by simp) fun k hk => ?_
  have hk' : k = i ∨ k = j := by simpa using hk
  unfold wpOp
  rcases hk' with rfl | rfl
  · simp only [ho, hw, if_true]
    exact .inl (h _ (Lib.hid fun a' w' hN hk => ⟨hN, hk⟩))
  · simp only [ho', hw', if_true]
    exact .inl (h' _ (Lib.hid fun a' w' hN hk => ⟨hN, hk⟩))
/-- a place where orders meet; its frame is found by the first that comes there. -/
theorem hold_place1 {α : Type} (F : α → Act) (I : α → World → Prop) {fuel fuel2 : Nat} {listed listed2 : Array Bool} {a : Act} {w : World}
    (h2 : Hid (∀ x w', I x w' → wpAnyH P md ops Q S fuel2 listed2 (F x) w') → wpAnyH P md ops Q S fuel listed a w)
    (h1 : ∀ x w', I x w' → wpAnyH P md ops Q S fuel2 listed2 (F x) w') : wpAnyH P md ops Q S fuel listed a w := h2 (Lib.hid h1)
theorem hold_place2 {α β : Type} (F : α → β → Act) (I : α → β → World → Prop) {fuel fuel2 : Nat} {listed listed2 : Array Bool} {a : Act} {w : World}
    (h2 : Hid (∀ x y w', I x y w' → wpAnyH P md ops Q S fuel2 listed2 (F x y) w') → wpAnyH P md ops Q S fuel listed a w)
    (h1 : ∀ x y w', I x y w' → wpAnyH P md ops Q S fuel2 listed2 (F x y) w') : wpAnyH P md ops Q S fuel listed a w := h2 (Lib.hid h1)



theorem hold_place4 {α β γ δ : Type} (F : α → β → γ → δ → Act) (I : α → β → γ → δ → World → Prop) {fuel fuel2 : Nat} {listed listed2 : Array Bool} {a : Act} {w : World}
    (h2 : Hid (∀ x y z u w', I x y z u w' → wpAnyH P md ops Q S fuel2 listed2 (F x y z u) w') → wpAnyH P md ops Q S fuel listed a w)
    (h1 : ∀ x y z u w', I x y z u w' → wpAnyH P md ops Q S fuel2 listed2 (F x y z u) w') : wpAnyH P md ops Q S fuel listed a w := h2 (Lib.hid h1)



theorem hold_place6 {α β γ δ ε ζ : Type} (F : α → β → γ → δ → ε → ζ → Act) (I : α → β → γ → δ → ε → ζ → World → Prop) {fuel fuel2 : Nat} {listed listed2 : Array Bool} {a : Act} {w : World}
    (h2 : Hid (∀ x y z u v t w', I x y z u v t w' → wpAnyH P md ops Q S fuel2 listed2 (F x y z u v t) w') → wpAnyH P md ops Q S fuel listed a w)
    (h1 : ∀ x y z u v t w', I x y z u v t w' → wpAnyH P md ops Q S fuel2 listed2 (F x y z u v t) w') : wpAnyH P md ops Q S fuel listed a w := h2 (Lib.hid h1)
theorem hold_at {fuel : Nat} {listed listed' : Array Bool} {a a' : Act} {w : World} (h : wpAnyH P md ops Q S fuel listed' a' w) (e : a' = a) (hl : listed' = listed) : wpAnyH P md ops Q S fuel listed a w := by
  subst e
  subst hl
  exact h
end
end Go.Proofs.YtfegdgaanmcecaaGreatDoor
/-
  PROVED HERE: laws for a region that draws its order, reads, calls, and at its end writes what it read: a condition on the worlds that need hold only as long as none of the named operations has come up; no condition; no program is named.
-/
namespace Go.Proofs.YtfegdgaanmcecaaGreatDoor
open Go.RowKit

def clearB (Ws : List Nat) (l : Array Bool) : Bool := Ws.all fun k => l.getD k true == false
/-- each of the named operations waits for number i, or for one of the named. -/
def chkW (md : Region.Mode) (ops : Array Oper) (Ws : List Nat) (i : Nat) : Bool :=
  !Ws.contains i && Ws.all fun j => match ops[j]? with
    | some o => o.after.any fun e => Region.binds md e && (e.on == i || Ws.contains e.on)
    | none => false
section
variable {P : Program} {ops : Array Oper} {Q : Exit → Act → World → Prop} {md : Region.Mode} {Ws : List Nat} {S T : World → Prop}
def wpAnyW (P : Program) (md : Region.Mode) (ops : Array Oper) (Q : Exit → Act → World → Prop) (Ws : List Nat) (S T : World → Prop) : Nat → Array Bool → Act → World → Prop
  | 0, listed, a, w => Region.ready md ops listed = [] ∧ Q .normal a w
  | fuel + 1, listed, a, w =>
    (Region.ready md ops listed = [] → Q .normal a w) ∧
    ∀ i ∈ Region.ready md ops listed, wpOp P ops Q i (fun a' w' => (S w' ∧ (clearB Ws (listed.setIfInBounds i true) = true → T w')) ∧ wpAnyW P md ops Q Ws S T fuel (listed.setIfInBounds i true) a' w') a w
theorem wpAny_of_W : ∀ (fuel : Nat) (listed : Array Bool) (a : Act) (w : World), wpAnyW P md ops Q Ws S T fuel listed a w → wpAny P md ops Q fuel listed a w
  | 0, _, _, _, h => h
  | fuel + 1, _, _, _, h => ⟨h.1, fun i hi => wpOp_mono (fun a' w' h' => wpAny_of_W fuel _ a' w' h'.2) (h.2 i hi)⟩
theorem clear_get {l : Array Bool} (h : clearB Ws l = true) {k : Nat} (hk : k ∈ Ws) : l.getD k true = false := by
  have := List.all_eq_true.1 h k hk
  simpa using this
theorem clear_set {l : Array Bool} (h : clearB Ws l = true) {j : Nat} (hj : j ∉ Ws) : clearB Ws (l.setIfInBounds j true) = true := by
  refine List.all_eq_true.2 fun k hk => ?_
  have hne : j ≠ k := fun e => hj (e ▸ hk)
  have h1 := clear_get h hk
  rw [getD_set_ne true hne, h1]
  rfl

theorem chk_not {l : Array Bool} {i j : Nat} (hc : chkW md ops Ws i = true) (h : clearB Ws l = true) (hi : l.getD i true = false) (hj : j ∈ Region.ready md ops l) : j ∉ Ws := by
  intro hjw
  obtain ⟨_, oj, hoj, hall⟩ := mem_ready.1 hj
  have h1 := List.all_eq_true.1 (Bool.and_eq_true_iff.1 hc).2 j hjw
  rw [hoj] at h1
  obtain ⟨e, he, h2⟩ := Array.any_eq_true'.1 h1
  have h3 := Bool.and_eq_true_iff.1 h2
  have h4 := hall e he h3.1
  have hun : l.getD e.on true = false := by
    rcases Bool.or_eq_true_iff.1 h3.2 with h5 | h5
    · have : e.on = i := by simpa using h5
      rw [this]; exact hi
    · exact clear_get h (by simpa using h5)
  rcases Nat.lt_or_ge e.on l.size with h' | h'
  · simp [h'] at h4 hun; rw [h4] at hun; cases hun
  · simp [Array.getElem?_eq_none h'] at h4
theorem wpAnyW_first {i : Nat} {oi : Oper} {v : Value} (hi : ops[i]? = some oi) (hsel : ∀ (j : Nat) (o : Oper) cs b, ops[j]? = some o → o.op ≠ .select cs b)
    (hQ : ∀ c a w, Q (.panic c) (a.put oi.dst v) w → Q (.panic c) a w) (hc : chkW md ops Ws i = true) :
    ∀ (fuel : Nat) (listed : Array Bool) (a : Act) (w : World),
      (∀ j oj, ops[j]? = some oj → j ≠ i → listed.getD j true = false → (∀ e ∈ oj.after, Region.binds md e = true → e.on ≠ i) → oi.apart ops oj = true) →
      i ∈ Region.ready md ops listed → clearB Ws listed = true → YieldsIf P ops T oi v a → S w → T w →
      wpAnyW P md ops Q Ws S T fuel (listed.setIfInBounds i true) (a.put oi.dst v) w → wpAnyW P md ops Q Ws S T (fuel + 1) listed a w := by
  have hiW : i ∉ Ws := by
    have := (Bool.and_eq_true_iff.1 hc).1
    simpa using this
  intro fuel
  induction fuel with
  | zero =>
    intro listed a w _ hr _ hy hS hT H
    refine ⟨fun h => (by rw [h] at hr; cases hr), fun j hj => ?_⟩
    by_cases hji : j = i
    · subst hji; exact hy.wpOp hi hT ⟨⟨hS, fun _ => hT⟩, H⟩
    · have := ready_mono hj hji
      rw [H.1] at this
      cases this
  | succ fuel ih =>
    intro listed a w hfree hr hcl hy hS hT H
    refine ⟨fun h => (by rw [h] at hr; cases hr), fun j hj => ?_⟩
    by_cases hji : j = i
    · subst hji; exact hy.wpOp hi hT ⟨⟨hS, fun _ => hT⟩, H⟩
    · have h1 := H.2 j (ready_mono hj hji)
      obtain ⟨hjun, oj, hoj, hall⟩ := mem_ready.1 hj
      have hiun := (mem_ready.1 hr).1
      have hjW : j ∉ Ws := chk_not hc hcl hiun hj
      have hnot : ∀ e ∈ oj.after, Region.binds md e = true → e.on ≠ i := fun e he hb heq => by
        have h1 := hall e he hb
        have h0 := hiun
        rw [heq] at h1
        rcases Nat.lt_or_ge i listed.size with h' | h'
        · simp [h'] at h0 h1; rw [h0] at h1; cases h1
        · simp [Array.getElem?_eq_none h'] at h1
      have h2 := wpOp_putIf hoj (hfree j oj hoj hji hjun hnot) (fun cs b => hsel i oi cs b hi) (fun cs b => hsel j oj cs b hoj) hQ hy h1
      have hfree' : ∀ k ok, ops[k]? = some ok → k ≠ i → (listed.setIfInBounds j true).getD k true = false →
          (∀ e ∈ ok.after, Region.binds md e = true → e.on ≠ i) → oi.apart ops ok = true := fun k ok hk hki hun hno => by
        refine hfree k ok hk hki ?_ hno
        by_cases hjk : j = k
        · subst hjk; exact hjun
        · rw [getD_set_ne true hjk] at hun; exact hun
      have hcl2 : clearB Ws (listed.setIfInBounds j true) = true := clear_set hcl hjW
      have hcl3 : clearB Ws ((listed.setIfInBounds i true).setIfInBounds j true) = true := clear_set (clear_set hcl hiW) hjW
      refine wpOp_mono (fun a' w' h3 => ⟨⟨h3.2.1.1, fun _ => h3.2.1.2 hcl3⟩, ih (listed.setIfInBounds j true) a' w' hfree' (ready_mono hr (Ne.symm hji)) hcl2 h3.1 h3.2.1.1 (h3.2.1.2 hcl3) ?_⟩) h2
      rw [Array.setIfInBounds_comm _ _ hji]
      exact h3.2.2
theorem clear_same {l : Array Bool} {i : Nat} (hi : i ∉ Ws) : clearB Ws (l.setIfInBounds i true) = clearB Ws l := by
  rw [Bool.eq_iff_iff]
  refine ⟨fun h => List.all_eq_true.2 fun k hk => ?_, fun h => clear_set h hi⟩
  have h1 := clear_get h hk
  have hne : i ≠ k := fun e => hi (by rw [e]; exact hk)
  rw [getD_set_ne true hne] at h1
  rw [h1]
  rfl
theorem wpAnyW_firstS {i : Nat} {oi : Oper} {v : Value} (hi : ops[i]? = some oi) (hsel : ∀ (j : Nat) (o : Oper) cs b, ops[j]? = some o → o.op ≠ .select cs b)
    (hQ : ∀ c a w, Q (.panic c) (a.put oi.dst v) w → Q (.panic c) a w) (hiW : i ∉ Ws) :
    ∀ (fuel : Nat) (listed : Array Bool) (a : Act) (w : World),
      (∀ j oj, ops[j]? = some oj → j ≠ i → listed.getD j true = false → (∀ e ∈ oj.after, Region.binds md e = true → e.on ≠ i) → oi.apart ops oj = true) →
      i ∈ Region.ready md ops listed → YieldsIf P ops S oi v a → S w → (clearB Ws listed = true → T w) →
      wpAnyW P md ops Q Ws S T fuel (listed.setIfInBounds i true) (a.put oi.dst v) w → wpAnyW P md ops Q Ws S T (fuel + 1) listed a w := by
  intro fuel
  induction fuel with
  | zero =>
    intro listed a w _ hr hy hS hT H
    refine ⟨fun h => (by rw [h] at hr; cases hr), fun j hj => ?_⟩
    by_cases hji : j = i
    · subst hji; exact hy.wpOp hi hS ⟨⟨hS, fun h => hT (by rwa [clear_same hiW] at h)⟩, H⟩
    · have := ready_mono hj hji
      rw [H.1] at this
      cases this
  | succ fuel ih =>
    intro listed a w hfree hr hy hS hT H
    refine ⟨fun h => (by rw [h] at hr; cases hr), fun j hj => ?_⟩
    by_cases hji : j = i
    · subst hji; exact hy.wpOp hi hS ⟨⟨hS, fun h => hT (by rwa [clear_same hiW] at h)⟩, H⟩
    · have h1 := H.2 j (ready_mono hj hji)
      obtain ⟨hjun, oj, hoj, hall⟩ := mem_ready.1 hj
      have hiun := (mem_ready.1 hr).1
      have hnot : ∀ e ∈ oj.after, Region.binds md e = true → e.on ≠ i := fun e he hb heq => by
        have h1 := hall e he hb
        have h0 := hiun
        rw [heq] at h1
        rcases Nat.lt_or_ge i listed.size with h' | h'
        · simp [h'] at h0 h1; rw [h0] at h1; cases h1
        · simp [Array.getElem?_eq_none h'] at h1
      have h2 := wpOp_putIf hoj (hfree j oj hoj hji hjun hnot) (fun cs b => hsel i oi cs b hi) (fun cs b => hsel j oj cs b hoj) hQ hy h1
      have hfree' : ∀ k ok, ops[k]? = some ok → k ≠ i → (listed.setIfInBounds j true).getD k true = false →
          (∀ e ∈ ok.after, Region.binds md e = true → e.on ≠ i) → oi.apart ops ok = true := fun k ok hk hki hun hno => by
        refine hfree k ok hk hki ?_ hno
        by_cases hjk : j = k
        · subst hjk; exact hjun
        · rw [getD_set_ne true hjk] at hun; exact hun
      have hcc : clearB Ws ((listed.setIfInBounds i true).setIfInBounds j true) = clearB Ws (listed.setIfInBounds j true) := by
        rw [Array.setIfInBounds_comm _ _ (Ne.symm hji), clear_same hiW]
      refine wpOp_mono (fun a' w' h3 => ⟨⟨h3.2.1.1, fun h => h3.2.1.2 (by rw [hcc]; exact h)⟩, ih (listed.setIfInBounds j true) a' w' hfree' (ready_mono hr (Ne.symm hji)) h3.1 h3.2.1.1 (fun h => h3.2.1.2 (by rw [hcc]; exact h)) ?_⟩) h2
      rw [Array.setIfInBounds_comm _ _ hji]
      exact h3.2.2
/-- the beginning: the named operations write; S holds throughout, T as long as none of the named has come up. -/
theorem holdW_begin (Ws : List Nat) (S T : World → Prop) {id : Nat} {a : Act} {w : World} (hm : P.follows .mixedOrders = true) (h : wpAnyW P .any ops Q Ws S T ops.size (Array.replicate ops.size false) a w.drew) : (Code.region id ops true).wp P Q a w :=
  wp_region_any hm (wpAny_of_W _ _ _ _ h)
/-- what reads what stays throughout. -/
theorem holdW_read {i : Nat} {oi : Oper} {v : Value} {fuel : Nat} {listed : Array Bool} {a : Act} {w : World} (hST : S w ∧ (clearB Ws listed = true → T w)) (hi : ops[i]? = some oi)
    (hs : Region.noSelect ops = true) (hf : Region.free md ops listed i = true) (hr : (Region.ready md ops listed).contains i = true) (hc : Ws.contains i = false)
    (hQ : ∀ c a w, Q (.panic c) (a.put oi.dst v) w → Q (.panic c) a w) (hw : Region.wanted oi (yielded ops a.tmps) = true)
    (hy : ∀ w', S w' → (execOp a.eval oi).run P w' = .ok (.value v) w')
    (h : wpAnyW P md ops Q Ws S T fuel (listed.setIfInBounds i true) (a.put oi.dst v) w) : wpAnyW P md ops Q Ws S T (fuel + 1) listed a w :=
  wpAnyW_firstS hi (Region.noSelect_spec hs) hQ (by simpa using hc) fuel listed a w (Region.free_spec hi hf) (by simpa using hr) (.inl ⟨hw, hy⟩) hST.1 hST.2 h
/-- what reads what the named will write. -/
theorem holdW_readT {i : Nat} {oi : Oper} {v : Value} {fuel : Nat} {listed : Array Bool} {a : Act} {w : World} (hST : S w ∧ (clearB Ws listed = true → T w)) (hi : ops[i]? = some oi)
    (hs : Region.noSelect ops = true) (hf : Region.free md ops listed i = true) (hr : (Region.ready md ops listed).contains i = true) (hc : chkW md ops Ws i = true) (hcl : clearB Ws listed = true)
    (hQ : ∀ c a w, Q (.panic c) (a.put oi.dst v) w → Q (.panic c) a w) (hw : Region.wanted oi (yielded ops a.tmps) = true)
    (hy : ∀ w', T w' → (execOp a.eval oi).run P w' = .ok (.value v) w')
    (h : wpAnyW P md ops Q Ws S T fuel (listed.setIfInBounds i true) (a.put oi.dst v) w) : wpAnyW P md ops Q Ws S T (fuel + 1) listed a w :=
  wpAnyW_first hi (Region.noSelect_spec hs) hQ hc fuel listed a w (Region.free_spec hi hf) (by simpa using hr) hcl (.inl ⟨hw, hy⟩) hST.1 (hST.2 hcl) h
/-- what comes up alone. -/
theorem holdW_step {i : Nat} {o : Oper} {fuel : Nat} {listed : Array Bool} {a : Act} {w : World} (hr : Region.ready md ops listed = [i]) (ho : ops[i]? = some o) (hw : Region.wanted o (yielded ops a.tmps) = true)
    (h : ∀ K : Act → World → Prop, Hid (∀ a' w', (S w' ∧ (clearB Ws (listed.setIfInBounds i true) = true → T w')) → wpAnyW P md ops Q Ws S T fuel (listed.setIfInBounds i true) a' w' → K a' w') → Oper.wp P o a w K Q) : wpAnyW P md ops Q Ws S T (fuel + 1) listed a w := by
  refine ⟨fun h0 => absurd (hr ▸ h0) (by simp), fun j hj => ?_⟩
  rw [hr] at hj
  have hj' : j = i := by simpa using hj
  subst hj'
  unfold wpOp
  simp only [ho, hw, if_true]
  exact .inl (h _ (Lib.hid fun a' w' hN hk => ⟨hN, hk⟩))
theorem wpAnyW_done {listed : Array Bool} {a : Act} {w : World} (hr : Region.ready md ops listed = []) (h : Q .normal a w) : ∀ fuel, wpAnyW P md ops Q Ws S T fuel listed a w
  | 0 => ⟨hr, h⟩
  | _ + 1 => ⟨fun _ => h, by rw [hr]; simp⟩
end
end Go.Proofs.YtfegdgaanmcecaaGreatDoor
