/-
  PROVED HERE: laws for a region that draws its order where what was made is marked: conditions of one's own on the worlds; what is common to all orders is proved once; a row of bytes that is marked reads as before; no condition.
-/
import Derived.Test.YtpbbfbgmpidgnaaGreatDoorPkT00
namespace Go.Proofs.YtpbbfbgmpidgnaaGreatDoor
open Go.RowKit

section
variable {P : Program} {ops : Array Oper} {Q : Exit → Act → World → Prop} {md : Region.Mode}
/-- the orders meet here. -/
theorem hold_join {S T : World → Prop} {C : Act → World → Prop} {fuel fuel2 : Nat} {listed listed2 : Array Bool} {a : Act} {w : World} (h1 : ∀ a' w', C a' w' → wpAnyH P md ops Q T fuel2 listed2 a' w')
    (h2 : Hid (∀ a' w', C a' w' → wpAnyH P md ops Q T fuel2 listed2 a' w') → wpAnyH P md ops Q S fuel listed a w) : wpAnyH P md ops Q S fuel listed a w := h2 (Lib.hid h1)
theorem hold_strong {S T : World → Prop} {fuel : Nat} {listed listed2 : Array Bool} {a : Act} {w : World} (hl : listed = listed2) (hTS : ∀ w, T w → S w) (h : wpAnyH P md ops Q T fuel listed2 a w) : wpAnyH P md ops Q S fuel listed a w := by
  subst hl
  exact held_strong hTS _ _ _ _ h
theorem hold_stepG {S : World → Prop} (T : World → Prop) {i : Nat} {o : Oper} {fuel : Nat} {listed : Array Bool} {a : Act} {w : World} (hTS : ∀ w, T w → S w) (hr : Region.ready md ops listed = [i]) (ho : ops[i]? = some o) (hw : Region.wanted o (yielded ops a.tmps) = true)
    (h : ∀ K : Act → World → Prop, Hid (∀ a' w', T w' → wpAnyH P md ops Q T fuel (listed.setIfInBounds i true) a' w' → K a' w') → Oper.wp P o a w K Q) : wpAnyH P md ops Q S (fuel + 1) listed a w := by
  refine wpAnyH_all hr (by simp) fun j hj => ?_
  have hj' : j = i := by simpa using hj
  subst hj'
  unfold wpOp
  simp only [ho, hw, if_true]
  exact .inl (h _ (Lib.hid fun a' w' hN hk => ⟨hTS _ hN, held_strong hTS _ _ _ _ hk⟩))
theorem hold_fork {S : World → Prop} {i j : Nat} {o o' : Oper} {fuel : Nat} {listed : Array Bool} {a : Act} {w : World} (hr : Region.ready md ops listed = [i, j]) (ho : ops[i]? = some o) (hw : Region.wanted o (yielded ops a.tmps) = true) (ho' : ops[j]? = some o') (hw' : Region.wanted o' (yielded ops a.tmps) = true)
    (h : ∀ K : Act → World → Prop, Hid (∀ (T : World → Prop) a' w', (∀ w, T w → S w) → T w' → wpAnyH P md ops Q T fuel (listed.setIfInBounds i true) a' w' → K a' w') → Oper.wp P o a w K Q)
    (h' : ∀ K : Act → World → Prop, Hid (∀ (T : World → Prop) a' w', (∀ w, T w → S w) → T w' → wpAnyH P md ops Q T fuel (listed.setIfInBounds j true) a' w' → K a' w') → Oper.wp P o' a w K Q) : wpAnyH P md ops Q S (fuel + 1) listed a w := by
  refine wpAnyH_all hr (by simp) fun k hk => ?_
  have hk' : k = i ∨ k = j := by simpa using hk
  unfold wpOp
  rcases hk' with rfl | rfl
  · simp only [ho, hw, if_true]
    exact .inl (h _ (Lib.hid fun T a' w' hTS hN hk => ⟨hTS _ hN, held_strong hTS _ _ _ _ hk⟩))
  · simp only [ho', hw', if_true]
    exact .inl (h' _ (Lib.hid fun T a' w' hTS hN hk => ⟨hTS _ hN, held_strong hTS _ _ _ _ hk⟩))
theorem hold_one {S : World → Prop} {i : Nat} {o : Oper} {fuel : Nat} {listed : Array Bool} {a : Act} {w : World} (hr : Region.ready md ops listed = [i]) (ho : ops[i]? = some o) (hw : Region.wanted o (yielded ops a.tmps) = true)
    (h : ∀ K : Act → World → Prop, Hid (∀ (T : World → Prop) a' w', (∀ w, T w → S w) → T w' → wpAnyH P md ops Q T fuel (listed.setIfInBounds i true) a' w' → K a' w') → Oper.wp P o a w K Q) : wpAnyH P md ops Q S (fuel + 1) listed a w := by
  refine wpAnyH_all hr (by simp) fun j hj => ?_
  have hj' : j = i := by simpa using hj
  subst hj'
  unfold wpOp
  simp only [ho, hw, if_true]
  exact .inl (h _ (Lib.hid fun T a' w' hTS hN hk => ⟨hTS _ hN, held_strong hTS _ _ _ _ hk⟩))
end
/-- the same cells, maybe other marks. -/
structure Like (w w' : World) : Prop where
  size : w.heap.size = w'.heap.size
  cell : ∀ p, w'.cell? p = w.cell? p
theorem Row.like {w w' : World} {D : Nat → Prop} {A : Option Addr} {n s : Nat} {vs : List Value} (h : Row w D A n s vs) (hl : Like w w') : Row w' D A n s vs :=
  ⟨h.1, fun hn => let ⟨b, off, e, hd, hlt, hc⟩ := h.2 hn; ⟨b, off, e, hd, hl.size ▸ hlt, fun k u hu => (hl.cell _).trans (hc k u hu)⟩⟩
theorem conv_mark {w : World} {g : Nat} {C : Array Value} {e : TypeId} (n c : Nat) (h : w.heap[g]? = some (.cells C e (0, 0))) :
    ∃ w', (convert 22 22 (.slice (some ⟨g, 0, none⟩) n c)).run Tryz.prog w = .ok (.slice (some ⟨g, 0, none⟩) n c) w' ∧ Keep (fun b => b ≠ g) w w' ∧ Like w w' := by
  have hsh : w.shape? g = some (e, C.size) := by
    unfold World.shape?
    rw [h]
  refine ⟨w.freeze ⟨g, C.size, none⟩ 1, ?_, ?_, ?_⟩
  · simp [convert, run_underlying Tryz.underlying22, run_underlying Tryz.underlying5, markStringish, hsh]
  · unfold World.freeze
    rw [if_neg (by decide)]
    refine ⟨rfl, rfl, rfl, by simp, fun k hk hne => ?_⟩
    show (w.heap.modify g _)[k]? = w.heap[k]?
    rw [Array.getElem?_modify]
    rw [if_neg (fun e => hne e.symm)]
  · unfold World.freeze
    rw [if_neg (by decide)]
    refine ⟨by simp, fun p => ?_⟩
    by_cases hp : p.block = g
    · simp [World.cell?, Array.getElem?_modify, hp, h]
    · have hp' : ¬ g = p.block := fun e => hp e.symm
      simp [World.cell?, Array.getElem?_modify, hp']
end Go.Proofs.YtpbbfbgmpidgnaaGreatDoor
