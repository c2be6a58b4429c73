/-
  PROVED HERE: more plain lemmas on blocks and rows; no condition; no program is named.
-/
import Derived.Test.YtpbbfbgmpidgnaaDoorMem
namespace Go.Proofs.YtpbbfbgmpidgnaaDoor
open Go.RowKit

theorem setCell_block {w : World} {g : Nat} {cs : Array Value} {t : TypeId} (h : w.heap[g]? = some (.cells cs t (0, 0))) (i : Nat) (u : Value) : (w.setCell ⟨g, i, none⟩ u).heap[g]? = some (.cells (cs.setIfInBounds i u) t (0, 0)) := by
  simp [World.setCell, Array.getElem?_modify, h]
theorem frozenOf {w : World} {g : Nat} {cs : Array Value} {t : TypeId} (h : w.heap[g]? = some (.cells cs t (0, 0))) (i : Nat) : w.frozen? ⟨g, i, none⟩ = false := by
  simp [World.frozen?, h]
theorem Own.keepNew {w w' : World} {base : Nat} {e : TypeId} {size n c : Nat} {A : Option Addr} {xs : List Value} (h : Own w base e size A n c xs) (hk : New w w') : Own w' base e size A n c xs := own_keep h hk (fun _ _ => trivial)
theorem own_of {w : World} {base : Nat} {e : TypeId} {size n c : Nat} {A : Option Addr} {xs ys : List Value} (h : Own w base e size A n c xs) (he : ys = xs) : Own w base e size A n c ys := by rw [he]; exact h
end Go.Proofs.YtpbbfbgmpidgnaaDoor
