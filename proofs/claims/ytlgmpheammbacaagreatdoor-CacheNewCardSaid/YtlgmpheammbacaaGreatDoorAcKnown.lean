import Derived.Test.YtlgmpheammbacaaGreatDoorEnv
set_option maxRecDepth 1000000
set_option linter.unusedVariables false
/-! ## What runs of the kernel say, over the whole table -/
namespace Go.Proofs.YtlgmpheammbacaaGreatDoor
open AM Go
noncomputable section
theorem mixedA : Tryz.prog.follows .mixedOrders = true := by kernel_rfl
theorem known {M : List Memo} {L : List LMemo} (hM : MemosOk Tryz.prog Tryz.prog.globals.size M) (hL : LoopsOk Tryz.prog Tryz.prog.globals.size L) {m : Memo} {fn : AFunc} (hg : env.get m.g = some (.code fn)) (h : checkM env M L 10000 m = true) : MemoOk Tryz.prog Tryz.prog.globals.size m := memo_of_check mixedA envOk hM hL hg h
theorem knownL {M : List Memo} {L : List LMemo} (hM : MemosOk Tryz.prog Tryz.prog.globals.size M) (hL : LoopsOk Tryz.prog Tryz.prog.globals.size L) {m : LMemo} (h : checkL env M L 10000 m = true) : LoopOk Tryz.prog Tryz.prog.globals.size m := loop_of_check mixedA envOk hM hL h
end
end Go.Proofs.YtlgmpheammbacaaGreatDoor
