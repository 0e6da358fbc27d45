/- Plain laws of paths. No program stands here. -/
import Derived.Test.YtlkfoebophjhfaaGreatDoorLines
import Derived.Test.YtlkfoebophjhfaaGreatDoorLibS
namespace Go.Proofs.YtlkfoebophjhfaaGreatDoor
open Go
end Go.Proofs.YtlkfoebophjhfaaGreatDoor
