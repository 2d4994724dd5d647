import Derived.Test.YtapinbbflfkglaaGreatDoorVFb22
import Derived.Test.YtapinbbflfkglaaGreatDoorVFb15
namespace Go.Proofs.YtapinbbflfkglaaGreatDoor
open Go.RowKit Go.Lib Go.Sort
set_option maxRecDepth 100000
end Go.Proofs.YtapinbbflfkglaaGreatDoor
