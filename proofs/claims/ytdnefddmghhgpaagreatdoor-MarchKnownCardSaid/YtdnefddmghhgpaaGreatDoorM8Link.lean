import Derived.Test.YtdnefddmghhgpaaGreatDoorM8d
import Derived.Test.YtdnefddmghhgpaaGreatDoorProg
import Derived.KernelRfl
namespace Go.Proofs.YtdnefddmghhgpaaGreatDoor
open Go.Conc.Locks
abbrev muLink : Go.Conc.Locks.MuLink := { lock := 111, unlock := 112, ilock := 205, iunlock := 206, lockSlow := 269, unlockSlow := 272, disable := 265, enable := 267, acquire := 268, relMerge := 270, cas32 := 266, add32 := 271, tMutex := 141, tIMutex := 139, tPMutex := 295, tPIMutex := 347, tPI32 := 349, tUP := 351, tNoCopy := 137, tU32 := 65 }
theorem muLib : Go.Conc.Locks.MuLib Tryz.prog muLink := ⟨Tryz.func111, Tryz.func112, Tryz.func205, Tryz.func206, Tryz.func265, Tryz.func267, Tryz.func268, Tryz.func270, Tryz.func266, Tryz.func271, Tryz.underlying139, Tryz.runUnderlying139, Tryz.sizeOf139, Tryz.isAgg139, Tryz.zeroValue139, Tryz.underlying141, Tryz.runUnderlying141, Tryz.sizeOf141, Tryz.isAgg141, Tryz.zeroValue141, Tryz.underlying295, Tryz.runUnderlying295, Tryz.sizeOf295, Tryz.isAgg295, Tryz.zeroValue295, Tryz.underlying347, Tryz.runUnderlying347, Tryz.sizeOf347, Tryz.isAgg347, Tryz.zeroValue347, Tryz.underlying349, Tryz.runUnderlying349, Tryz.sizeOf349, Tryz.isAgg349, Tryz.zeroValue349, Tryz.underlying351, Tryz.runUnderlying351, Tryz.sizeOf351, Tryz.isAgg351, Tryz.zeroValue351, Tryz.underlying137, Tryz.runUnderlying137, Tryz.sizeOf137, Tryz.isAgg137, Tryz.zeroValue137, Tryz.underlying21, Tryz.runUnderlying21, Tryz.sizeOf21, Tryz.isAgg21, Tryz.zeroValue21, by kernel_rfl⟩
theorem mixed : Tryz.prog.follows .mixedOrders = true := by kernel_rfl
end Go.Proofs.YtdnefddmghhgpaaGreatDoor
