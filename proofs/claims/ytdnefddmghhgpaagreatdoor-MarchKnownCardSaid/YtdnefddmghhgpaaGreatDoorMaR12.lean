import Derived.Test.YtdnefddmghhgpaaGreatDoorMaS2
set_option maxRecDepth 1000000
set_option maxHeartbeats 4000000
namespace Go.Proofs.YtdnefddmghhgpaaGreatDoor
open AM Go
noncomputable section
theorem Mak214 : MemoOk Tryz.prog gsz Mam214 := ks168 rfl (by kernel_rfl)
theorem Mak215 : MemoOk Tryz.prog gsz Mam215 := ks168 rfl (by kernel_rfl)
theorem Mak216 : MemoOk Tryz.prog gsz Mam216 := ks168 rfl (by kernel_rfl)
theorem Mak217 : MemoOk Tryz.prog gsz Mam217 := ks168 rfl (by kernel_rfl)
theorem Mak218 : MemoOk Tryz.prog gsz Mam218 := ks168 rfl (by kernel_rfl)
theorem Mak219 : MemoOk Tryz.prog gsz Mam219 := ks168 rfl (by kernel_rfl)
theorem Mak220 : MemoOk Tryz.prog gsz Mam220 := ks168 rfl (by kernel_rfl)
theorem Mak221 : MemoOk Tryz.prog gsz Mam221 := ks168 rfl (by kernel_rfl)
theorem Mak222 : MemoOk Tryz.prog gsz Mam222 := ks168 rfl (by kernel_rfl)
theorem Mak223 : MemoOk Tryz.prog gsz Mam223 := ks168 rfl (by kernel_rfl)
theorem Mak224 : MemoOk Tryz.prog gsz Mam224 := ks168 rfl (by kernel_rfl)
theorem Mak225 : MemoOk Tryz.prog gsz Mam225 := ks168 rfl (by kernel_rfl)
theorem Mak226 : MemoOk Tryz.prog gsz Mam226 := ks168 rfl (by kernel_rfl)
theorem Mak227 : MemoOk Tryz.prog gsz Mam227 := ks168 rfl (by kernel_rfl)
theorem Mak228 : MemoOk Tryz.prog gsz Mam228 := ks168 rfl (by kernel_rfl)
theorem Mak229 : MemoOk Tryz.prog gsz Mam229 := ks168 rfl (by kernel_rfl)
theorem Mak230 : MemoOk Tryz.prog gsz Mam230 := ks168 rfl (by kernel_rfl)
theorem Mak231 : MemoOk Tryz.prog gsz Mam231 := ks168 rfl (by kernel_rfl)
theorem Mak232 : MemoOk Tryz.prog gsz Mam232 := ks168 rfl (by kernel_rfl)
theorem Mak233 : MemoOk Tryz.prog gsz Mam233 := ks168 rfl (by kernel_rfl)
theorem Mak234 : MemoOk Tryz.prog gsz Mam234 := ks168 rfl (by kernel_rfl)
theorem Mak235 : MemoOk Tryz.prog gsz Mam235 := ks168 rfl (by kernel_rfl)
theorem Mak236 : MemoOk Tryz.prog gsz Mam236 := ks168 rfl (by kernel_rfl)
theorem Mak237 : MemoOk Tryz.prog gsz Mam237 := ks168 rfl (by kernel_rfl)
theorem Mak238 : MemoOk Tryz.prog gsz Mam238 := ks168 rfl (by kernel_rfl)
theorem Mak239 : MemoOk Tryz.prog gsz Mam239 := ks168 rfl (by kernel_rfl)
theorem Mak240 : MemoOk Tryz.prog gsz Mam240 := ks168 rfl (by kernel_rfl)
theorem Mak241 : MemoOk Tryz.prog gsz Mam241 := ks168 rfl (by kernel_rfl)
theorem Mak242 : MemoOk Tryz.prog gsz Mam242 := ks168 rfl (by kernel_rfl)
theorem Mak243 : MemoOk Tryz.prog gsz Mam243 := ks168 rfl (by kernel_rfl)
theorem Mak244 : MemoOk Tryz.prog gsz Mam244 := ks168 rfl (by kernel_rfl)
theorem Mak245 : MemoOk Tryz.prog gsz Mam245 := ks168 rfl (by kernel_rfl)
theorem Mak246 : MemoOk Tryz.prog gsz Mam246 := ks168 rfl (by kernel_rfl)
end
end Go.Proofs.YtdnefddmghhgpaaGreatDoor
