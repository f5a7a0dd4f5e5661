import Derived.Test.YtdnefddmghhgpaaGreatDoorMaS2
set_option maxRecDepth 1000000
set_option maxHeartbeats 4000000
namespace Go.Proofs.YtdnefddmghhgpaaGreatDoor
open AM Go
noncomputable section
theorem Mak92 : MemoOk Tryz.prog gsz Mam92 := ks168 rfl (by kernel_rfl)
theorem Mak93 : MemoOk Tryz.prog gsz Mam93 := ks168 rfl (by kernel_rfl)
theorem Mak94 : MemoOk Tryz.prog gsz Mam94 := ks168 rfl (by kernel_rfl)
theorem Mak95 : MemoOk Tryz.prog gsz Mam95 := ks168 rfl (by kernel_rfl)
theorem Mak96 : MemoOk Tryz.prog gsz Mam96 := ks168 rfl (by kernel_rfl)
theorem Mak97 : MemoOk Tryz.prog gsz Mam97 := ks168 rfl (by kernel_rfl)
theorem Mak98 : MemoOk Tryz.prog gsz Mam98 := ks168 rfl (by kernel_rfl)
theorem Mak99 : MemoOk Tryz.prog gsz Mam99 := ks168 rfl (by kernel_rfl)
theorem Mak100 : MemoOk Tryz.prog gsz Mam100 := ks168 rfl (by kernel_rfl)
theorem Mak101 : MemoOk Tryz.prog gsz Mam101 := ks168 rfl (by kernel_rfl)
theorem Mak102 : MemoOk Tryz.prog gsz Mam102 := ks168 rfl (by kernel_rfl)
theorem Mak103 : MemoOk Tryz.prog gsz Mam103 := ks168 rfl (by kernel_rfl)
theorem Mak104 : MemoOk Tryz.prog gsz Mam104 := ks168 rfl (by kernel_rfl)
theorem Mak105 : MemoOk Tryz.prog gsz Mam105 := ks168 rfl (by kernel_rfl)
theorem Mak106 : MemoOk Tryz.prog gsz Mam106 := ks168 rfl (by kernel_rfl)
theorem Mak107 : MemoOk Tryz.prog gsz Mam107 := ks168 rfl (by kernel_rfl)
theorem Mak108 : MemoOk Tryz.prog gsz Mam108 := ks168 rfl (by kernel_rfl)
theorem Mak109 : MemoOk Tryz.prog gsz Mam109 := ks168 rfl (by kernel_rfl)
theorem Mak110 : MemoOk Tryz.prog gsz Mam110 := ks168 rfl (by kernel_rfl)
theorem Mak111 : MemoOk Tryz.prog gsz Mam111 := ks168 rfl (by kernel_rfl)
theorem Mak112 : MemoOk Tryz.prog gsz Mam112 := ks168 rfl (by kernel_rfl)
theorem Mak113 : MemoOk Tryz.prog gsz Mam113 := ks168 rfl (by kernel_rfl)
theorem Mak114 : MemoOk Tryz.prog gsz Mam114 := ks168 rfl (by kernel_rfl)
theorem Mak115 : MemoOk Tryz.prog gsz Mam115 := ks168 rfl (by kernel_rfl)
theorem Mak116 : MemoOk Tryz.prog gsz Mam116 := ks168 rfl (by kernel_rfl)
theorem Mak117 : MemoOk Tryz.prog gsz Mam117 := ks168 rfl (by kernel_rfl)
theorem Mak118 : MemoOk Tryz.prog gsz Mam118 := ks168 rfl (by kernel_rfl)
theorem Mak119 : MemoOk Tryz.prog gsz Mam119 := ks168 rfl (by kernel_rfl)
theorem Mak120 : MemoOk Tryz.prog gsz Mam120 := ks168 rfl (by kernel_rfl)
theorem Mak121 : MemoOk Tryz.prog gsz Mam121 := ks168 rfl (by kernel_rfl)
theorem Mak122 : MemoOk Tryz.prog gsz Mam122 := ks168 rfl (by kernel_rfl)
theorem Mak123 : MemoOk Tryz.prog gsz Mam123 := ks168 rfl (by kernel_rfl)
theorem Mak124 : MemoOk Tryz.prog gsz Mam124 := ks168 rfl (by kernel_rfl)
end
end Go.Proofs.YtdnefddmghhgpaaGreatDoor
