/- Plain laws of Go's numbers by their bits. No program stands here. -/
import Derived.Test.YtaolmfepdmgohaaGreatDoorOps3
namespace Go.Proofs.YtaolmfepdmgohaaGreatDoor
open Go
/-! numbers with signs, as numbers without -/
/-! numbers, seven bits a byte -/
end Go.Proofs.YtaolmfepdmgohaaGreatDoor
