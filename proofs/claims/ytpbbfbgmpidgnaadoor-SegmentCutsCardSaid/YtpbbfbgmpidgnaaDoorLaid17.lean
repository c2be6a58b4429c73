/-
  PROVED HERE: a world in which the listed tables read as listed, for the witnesses of this seat's rows; no condition.
-/
import Derived.Test.YtpbbfbgmpidgnaaDoorCards
import Derived.Test.YtpbbfbgmpidgnaaDoorTie
import Derived.Test.YtpbbfbgmpidgnaaDoorRow
import Derived.WalkKit
import Derived.ProofKit
import Derived.OpenShut
import Derived.Deep.DeepHandedRow
import Derived.Lib.LaidTab
namespace Go.Proofs.YtpbbfbgmpidgnaaDoor
open Go.ChangeShapes Go.WideShapes Go.ChangeAt Go.RowKit

/-- unicode/utf8.acceptRanges, cell by cell. -/
def rangeCells : Array Value := (([128, 191, 160, 191, 128, 159, 144, 191, 128, 143, 0, 0, 0, 0, 0, 0, 0, 0, 0, 0, 0, 0, 0, 0, 0, 0, 0, 0, 0, 0, 0, 0] : List Int).map (Value.int .u8)).toArray
def firstCells : Array Value := (Go.Pinned.utf8FirstZ.map fun (n : Nat) => Value.int .u8 (n : Int)).toArray
def withCells (cs : Array Value) : Obj → Obj
  | .cells _ t frozen => .cells cs t frozen
  | o => o
noncomputable def laidWorld (os : Os) : World :=
  { World.holding Tryd.prog os ⟨#[], #[], []⟩ with heap := ((World.holding Tryd.prog os ⟨#[], #[], []⟩).heap.modify 0 (withCells firstCells)).modify 1 (withCells rangeCells) }
end Go.Proofs.YtpbbfbgmpidgnaaDoor
