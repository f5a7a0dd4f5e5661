import Derived.Test.YtdnefddmghhgpaaGreatDoorTrS1
set_option maxRecDepth 1000000
set_option maxHeartbeats 4000000
namespace Go.Proofs.YtdnefddmghhgpaaGreatDoor
open AM Go
noncomputable section
end
end Go.Proofs.YtdnefddmghhgpaaGreatDoor
