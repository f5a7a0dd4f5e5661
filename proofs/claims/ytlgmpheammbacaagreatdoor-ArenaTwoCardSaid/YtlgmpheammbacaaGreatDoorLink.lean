import Derived.Test.YtlgmpheammbacaaGreatDoorPyc
import Derived.Test.YtlgmpheammbacaaGreatDoorProg
import Derived.KernelRfl
namespace Go.Proofs.YtlgmpheammbacaaGreatDoor
open Go.Conc.Locks
abbrev PD : Go.Conc.Locks.MuLink := { lock := 68, unlock := 69, ilock := 125, iunlock := 126, lockSlow := 169, unlockSlow := 172, disable := 165, enable := 167, acquire := 168, relMerge := 170, cas32 := 166, add32 := 171, tMutex := 126, tIMutex := 124, tPMutex := 214, tPIMutex := 261, tPI32 := 263, tUP := 265, tNoCopy := 121, tU32 := 122 }
theorem LI : Go.Conc.Locks.MuLib Tryz.prog PD := ⟨Tryz.func68, Tryz.func69, Tryz.func125, Tryz.func126, Tryz.func165, Tryz.func167, Tryz.func168, Tryz.func170, Tryz.func166, Tryz.func171, Tryz.underlying124, Tryz.runUnderlying124, Tryz.sizeOf124, Tryz.isAgg124, Tryz.zeroValue124, Tryz.underlying126, Tryz.runUnderlying126, Tryz.sizeOf126, Tryz.isAgg126, Tryz.zeroValue126, Tryz.underlying214, Tryz.runUnderlying214, Tryz.sizeOf214, Tryz.isAgg214, Tryz.zeroValue214, Tryz.underlying261, Tryz.runUnderlying261, Tryz.sizeOf261, Tryz.isAgg261, Tryz.zeroValue261, Tryz.underlying263, Tryz.runUnderlying263, Tryz.sizeOf263, Tryz.isAgg263, Tryz.zeroValue263, Tryz.underlying265, Tryz.runUnderlying265, Tryz.sizeOf265, Tryz.isAgg265, Tryz.zeroValue265, Tryz.underlying121, Tryz.runUnderlying121, Tryz.sizeOf121, Tryz.isAgg121, Tryz.zeroValue121, Tryz.underlying21, Tryz.runUnderlying21, Tryz.sizeOf21, Tryz.isAgg21, Tryz.zeroValue21, by kernel_rfl⟩
end Go.Proofs.YtlgmpheammbacaaGreatDoor
