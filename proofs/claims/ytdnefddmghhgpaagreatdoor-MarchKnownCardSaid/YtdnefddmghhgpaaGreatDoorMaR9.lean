import Derived.Test.YtdnefddmghhgpaaGreatDoorMaS2
set_option maxRecDepth 1000000
set_option maxHeartbeats 4000000
namespace Go.Proofs.YtdnefddmghhgpaaGreatDoor
open AM Go
noncomputable section
theorem Mak125 : MemoOk Tryz.prog gsz Mam125 := ks168 rfl (by kernel_rfl)
theorem Mak126 : MemoOk Tryz.prog gsz Mam126 := ks168 rfl (by kernel_rfl)
theorem Mak127 : MemoOk Tryz.prog gsz Mam127 := ks168 rfl (by kernel_rfl)
theorem Mak128 : MemoOk Tryz.prog gsz Mam128 := ks168 rfl (by kernel_rfl)
theorem Mak129 : MemoOk Tryz.prog gsz Mam129 := ks168 rfl (by kernel_rfl)
theorem Mak130 : MemoOk Tryz.prog gsz Mam130 := ks168 rfl (by kernel_rfl)
theorem Mak131 : MemoOk Tryz.prog gsz Mam131 := ks168 rfl (by kernel_rfl)
theorem Mak132 : MemoOk Tryz.prog gsz Mam132 := ks168 rfl (by kernel_rfl)
theorem Mak133 : MemoOk Tryz.prog gsz Mam133 := ks168 rfl (by kernel_rfl)
theorem Mak134 : MemoOk Tryz.prog gsz Mam134 := ks168 rfl (by kernel_rfl)
theorem Mak135 : MemoOk Tryz.prog gsz Mam135 := ks168 rfl (by kernel_rfl)
theorem Mak136 : MemoOk Tryz.prog gsz Mam136 := ks168 rfl (by kernel_rfl)
theorem Mak137 : MemoOk Tryz.prog gsz Mam137 := ks168 rfl (by kernel_rfl)
theorem Mak138 : MemoOk Tryz.prog gsz Mam138 := ks168 rfl (by kernel_rfl)
theorem Mak139 : MemoOk Tryz.prog gsz Mam139 := ks168 rfl (by kernel_rfl)
theorem Mak140 : MemoOk Tryz.prog gsz Mam140 := ks168 rfl (by kernel_rfl)
theorem Mak141 : MemoOk Tryz.prog gsz Mam141 := ks168 rfl (by kernel_rfl)
theorem Mak142 : MemoOk Tryz.prog gsz Mam142 := ks168 rfl (by kernel_rfl)
theorem Mak143 : MemoOk Tryz.prog gsz Mam143 := ks168 rfl (by kernel_rfl)
theorem Mak144 : MemoOk Tryz.prog gsz Mam144 := ks168 rfl (by kernel_rfl)
theorem Mak145 : MemoOk Tryz.prog gsz Mam145 := ks168 rfl (by kernel_rfl)
theorem Mak146 : MemoOk Tryz.prog gsz Mam146 := ks168 rfl (by kernel_rfl)
theorem Mak147 : MemoOk Tryz.prog gsz Mam147 := ks168 rfl (by kernel_rfl)
theorem Mak148 : MemoOk Tryz.prog gsz Mam148 := ks168 rfl (by kernel_rfl)
theorem Mak149 : MemoOk Tryz.prog gsz Mam149 := ks168 rfl (by kernel_rfl)
theorem Mak150 : MemoOk Tryz.prog gsz Mam150 := ks168 rfl (by kernel_rfl)
theorem Mak151 : MemoOk Tryz.prog gsz Mam151 := ks168 rfl (by kernel_rfl)
theorem Mak152 : MemoOk Tryz.prog gsz Mam152 := ks168 rfl (by kernel_rfl)
theorem Mak153 : MemoOk Tryz.prog gsz Mam153 := ks168 rfl (by kernel_rfl)
theorem Mak154 : MemoOk Tryz.prog gsz Mam154 := ks168 rfl (by kernel_rfl)
end
end Go.Proofs.YtdnefddmghhgpaaGreatDoor
