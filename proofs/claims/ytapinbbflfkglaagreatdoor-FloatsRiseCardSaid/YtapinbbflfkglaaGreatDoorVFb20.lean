import Derived.Test.YtapinbbflfkglaaGreatDoorVFb18
namespace Go.Proofs.YtapinbbflfkglaaGreatDoor
open Go.RowKit Go.Lib Go.Sort
set_option maxRecDepth 100000
end Go.Proofs.YtapinbbflfkglaaGreatDoor
