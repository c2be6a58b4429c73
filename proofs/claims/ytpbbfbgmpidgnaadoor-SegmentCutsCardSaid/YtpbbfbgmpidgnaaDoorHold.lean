/-
  PROVED HERE: laws for a region that draws its order and holds calls that make memory: what was there stays, so whatever only reads may be taken first, each call comes alone; no condition; no program is named.
-/
import Derived.Test.YtpbbfbgmpidgnaaDoorMem
import Derived.Deep.RegionHeld3
import Derived.Lib.Hide
namespace Go.Proofs.YtpbbfbgmpidgnaaDoor
open Go.RowKit

section
variable {P : Program} {ops : Array Oper} {Q : Exit → Act → World → Prop} {md : Region.Mode}
theorem wpOp_imp {i : Nat} {K K' : Act → World → Prop} {a : Act} {w : World} (h : ∀ a w, K a w → K' a w) (hk : wpOp P ops Q i K a w) : wpOp P ops Q i K' a w := wpOp_mono h hk
/-- a stronger condition may be taken from here on. -/
theorem held_strong {S T : World → Prop} (hTS : ∀ w, T w → S w) : ∀ (fuel : Nat) (listed : Array Bool) (a : Act) (w : World), wpAnyH P md ops Q T fuel listed a w → wpAnyH P md ops Q S fuel listed a w
  | 0, _, _, _, h => h
  | fuel + 1, _, _, _, h => ⟨h.1, fun i hi => wpOp_mono (fun a' w' h' => ⟨hTS _ h'.1, held_strong hTS fuel _ a' w' h'.2⟩) (h.2 i hi)⟩
theorem hold_begin {id : Nat} {a : Act} {w : World} (hm : P.follows .mixedOrders = true) (h : wpAnyH P .any ops Q (New w.drew) ops.size (Array.replicate ops.size false) a w.drew) : (Code.region id ops true).wp P Q a w :=
  wp_region_held hm h
/-- what only reads is taken first. -/
theorem hold_read {i : Nat} {oi : Oper} {v : Value} {fuel : Nat} {listed : Array Bool} {a : Act} {w : World} (hi : ops[i]? = some oi)
    (hs : Region.noSelect ops = true) (hf : Region.free md ops listed i = true) (hr : (Region.ready md ops listed).contains i = true)
    (hQ : ∀ c a w, Q (.panic c) (a.put oi.dst v) w → Q (.panic c) a w) (hw : Region.wanted oi (yielded ops a.tmps) = true)
    (hy : ∀ w', New w w' → (execOp a.eval oi).run P w' = .ok (.value v) w')
    (h : wpAnyH P md ops Q (New w) fuel (listed.setIfInBounds i true) (a.put oi.dst v) w) : wpAnyH P md ops Q (New w) (fuel + 1) listed a w :=
  wpAnyH_take hi hs hf hr hQ (.inl ⟨hw, hy⟩) (New.refl w) h
/-- what is not wanted (its guard is false) yields nothing. -/
theorem hold_skip {i : Nat} {oi : Oper} {fuel : Nat} {listed : Array Bool} {a : Act} {w : World} (hi : ops[i]? = some oi)
    (hs : Region.noSelect ops = true) (hf : Region.free md ops listed i = true) (hr : (Region.ready md ops listed).contains i = true)
    (hQ : ∀ c a w, Q (.panic c) (a.put oi.dst undef) w → Q (.panic c) a w) (hw : Region.wanted oi (yielded ops a.tmps) = false)
    (h : wpAnyH P md ops Q (New w) fuel (listed.setIfInBounds i true) (a.put oi.dst undef) w) : wpAnyH P md ops Q (New w) (fuel + 1) listed a w :=
  wpAnyH_take hi hs hf hr hQ (.inr ⟨hw, rfl⟩) (New.refl w) h
/-- what makes memory, or is a call: it comes up alone. -/
theorem hold_step {i : Nat} {o : Oper} {fuel : Nat} {listed : Array Bool} {a : Act} {w : World} (hr : Region.ready md ops listed = [i]) (ho : ops[i]? = some o) (hw : Region.wanted o (yielded ops a.tmps) = true)
    (h : ∀ K : Act → World → Prop, Hid (∀ a' w', New w w' → wpAnyH P md ops Q (New w') fuel (listed.setIfInBounds i true) a' w' → K a' w') → Oper.wp P o a w K Q) : wpAnyH P md ops Q (New w) (fuel + 1) listed a w := by
  refine wpAnyH_all hr (by simp) fun j hj => ?_
  have hj' : j = i := by simpa using hj
  subst hj'
  unfold wpOp
  simp only [ho, hw, if_true]
  exact .inl (h _ (Lib.hid fun a' w' hN hk => ⟨hN, held_strong (fun w2 h2 => Keep.new hN h2) _ _ _ _ hk⟩))
end
end Go.Proofs.YtpbbfbgmpidgnaaDoor
