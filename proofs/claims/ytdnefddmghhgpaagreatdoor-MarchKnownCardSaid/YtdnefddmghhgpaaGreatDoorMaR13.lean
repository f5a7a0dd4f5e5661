import Derived.Test.YtdnefddmghhgpaaGreatDoorMaS2
set_option maxRecDepth 1000000
set_option maxHeartbeats 4000000
namespace Go.Proofs.YtdnefddmghhgpaaGreatDoor
open AM Go
noncomputable section
theorem Mak247 : MemoOk Tryz.prog gsz Mam247 := ks168 rfl (by kernel_rfl)
theorem Mak248 : MemoOk Tryz.prog gsz Mam248 := ks168 rfl (by kernel_rfl)
theorem Mak249 : MemoOk Tryz.prog gsz Mam249 := ks168 rfl (by kernel_rfl)
theorem Mak250 : MemoOk Tryz.prog gsz Mam250 := ks168 rfl (by kernel_rfl)
theorem Mak251 : MemoOk Tryz.prog gsz Mam251 := ks168 rfl (by kernel_rfl)
theorem Mak252 : MemoOk Tryz.prog gsz Mam252 := ks168 rfl (by kernel_rfl)
theorem Mak253 : MemoOk Tryz.prog gsz Mam253 := ks168 rfl (by kernel_rfl)
theorem Mak254 : MemoOk Tryz.prog gsz Mam254 := ks168 rfl (by kernel_rfl)
theorem Mak255 : MemoOk Tryz.prog gsz Mam255 := ks168 rfl (by kernel_rfl)
theorem Mak256 : MemoOk Tryz.prog gsz Mam256 := ks168 rfl (by kernel_rfl)
theorem Mak257 : MemoOk Tryz.prog gsz Mam257 := ks168 rfl (by kernel_rfl)
theorem Mak258 : MemoOk Tryz.prog gsz Mam258 := ks168 rfl (by kernel_rfl)
theorem Mak259 : MemoOk Tryz.prog gsz Mam259 := ks168 rfl (by kernel_rfl)
theorem Mak260 : MemoOk Tryz.prog gsz Mam260 := ks168 rfl (by kernel_rfl)
theorem Mak261 : MemoOk Tryz.prog gsz Mam261 := ks168 rfl (by kernel_rfl)
theorem Mak262 : MemoOk Tryz.prog gsz Mam262 := ks168 rfl (by kernel_rfl)
theorem Mak263 : MemoOk Tryz.prog gsz Mam263 := ks168 rfl (by kernel_rfl)
theorem Mak264 : MemoOk Tryz.prog gsz Mam264 := ks168 rfl (by kernel_rfl)
theorem Mak265 : MemoOk Tryz.prog gsz Mam265 := ks168 rfl (by kernel_rfl)
theorem Mak266 : MemoOk Tryz.prog gsz Mam266 := ks168 rfl (by kernel_rfl)
theorem Mak267 : MemoOk Tryz.prog gsz Mam267 := ks168 rfl (by kernel_rfl)
theorem Mak268 : MemoOk Tryz.prog gsz Mam268 := ks168 rfl (by kernel_rfl)
theorem Mak269 : MemoOk Tryz.prog gsz Mam269 := ks168 rfl (by kernel_rfl)
theorem Mak270 : MemoOk Tryz.prog gsz Mam270 := ks168 rfl (by kernel_rfl)
theorem Mak271 : MemoOk Tryz.prog gsz Mam271 := ks168 rfl (by kernel_rfl)
theorem Mak272 : MemoOk Tryz.prog gsz Mam272 := ks168 rfl (by kernel_rfl)
theorem Mak273 : MemoOk Tryz.prog gsz Mam273 := ks168 rfl (by kernel_rfl)
theorem Mak274 : MemoOk Tryz.prog gsz Mam274 := ks168 rfl (by kernel_rfl)
theorem Mak275 : MemoOk Tryz.prog gsz Mam275 := ks168 rfl (by kernel_rfl)
theorem Mak276 : MemoOk Tryz.prog gsz Mam276 := ks168 rfl (by kernel_rfl)
end
end Go.Proofs.YtdnefddmghhgpaaGreatDoor
