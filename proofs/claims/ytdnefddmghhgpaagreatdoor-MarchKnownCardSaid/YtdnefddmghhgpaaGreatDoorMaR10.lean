import Derived.Test.YtdnefddmghhgpaaGreatDoorMaS2
set_option maxRecDepth 1000000
set_option maxHeartbeats 4000000
namespace Go.Proofs.YtdnefddmghhgpaaGreatDoor
open AM Go
noncomputable section
theorem Mak155 : MemoOk Tryz.prog gsz Mam155 := ks168 rfl (by kernel_rfl)
theorem Mak156 : MemoOk Tryz.prog gsz Mam156 := ks168 rfl (by kernel_rfl)
theorem Mak157 : MemoOk Tryz.prog gsz Mam157 := ks168 rfl (by kernel_rfl)
theorem Mak158 : MemoOk Tryz.prog gsz Mam158 := ks168 rfl (by kernel_rfl)
theorem Mak159 : MemoOk Tryz.prog gsz Mam159 := ks168 rfl (by kernel_rfl)
theorem Mak160 : MemoOk Tryz.prog gsz Mam160 := ks168 rfl (by kernel_rfl)
theorem Mak161 : MemoOk Tryz.prog gsz Mam161 := ks168 rfl (by kernel_rfl)
theorem Mak162 : MemoOk Tryz.prog gsz Mam162 := ks168 rfl (by kernel_rfl)
theorem Mak163 : MemoOk Tryz.prog gsz Mam163 := ks168 rfl (by kernel_rfl)
theorem Mak164 : MemoOk Tryz.prog gsz Mam164 := ks168 rfl (by kernel_rfl)
theorem Mak165 : MemoOk Tryz.prog gsz Mam165 := ks168 rfl (by kernel_rfl)
theorem Mak166 : MemoOk Tryz.prog gsz Mam166 := ks168 rfl (by kernel_rfl)
theorem Mak167 : MemoOk Tryz.prog gsz Mam167 := ks168 rfl (by kernel_rfl)
theorem Mak168 : MemoOk Tryz.prog gsz Mam168 := ks168 rfl (by kernel_rfl)
theorem Mak169 : MemoOk Tryz.prog gsz Mam169 := ks168 rfl (by kernel_rfl)
theorem Mak170 : MemoOk Tryz.prog gsz Mam170 := ks168 rfl (by kernel_rfl)
theorem Mar171 : checkK env [Mam51,Mam52,Mam53,Mam54,Mam55,Mam56,Mam57,Mam58,Mam59,Mam60,Mam61,Mam62,Mam63,Mam64,Mam65,Mam66,Mam67,Mam68,Mam69,Mam70,Mam71,Mam72,Mam73,Mam74,Mam75,Mam76,Mam77,Mam78,Mam79,Mam80,Mam81,Mam82,Mam83,Mam84,Mam85,Mam86,Mam87,Mam88,Mam89,Mam90,Mam91,Mam92,Mam93,Mam94,Mam95,Mam96,Mam97,Mam98,Mam99,Mam100,Mam101,Mam102,Mam103,Mam104,Mam105,Mam106,Mam107,Mam108,Mam109,Mam110,Mam111,Mam112,Mam113,Mam114,Mam115,Mam116,Mam117,Mam118,Mam119,Mam120,Mam121,Mam122,Mam123,Mam124,Mam125,Mam126,Mam127,Mam128,Mam129,Mam130,Mam131,Mam132,Mam133,Mam134,Mam135,Mam136,Mam137,Mam138,Mam139,Mam140,Mam141,Mam142,Mam143,Mam144,Mam145,Mam146,Mam147,Mam148,Mam149,Mam150,Mam151,Mam152,Mam153,Mam154,Mam155,Mam156,Mam157,Mam158,Mam159,Mam160,Mam161,Mam162,Mam163,Mam164,Mam165,Mam166,Mam167,Mam168,Mam169,Mam170] [] 10000 [1404,1405,1406,1407,1408,1409,1410,1411,1412,1413] Mam171 = true := by kernel_rfl
theorem Mar172 : checkK env [] [] 10000 [1418] Mam172 = true := by kernel_rfl
theorem Mak173 : MemoOk Tryz.prog gsz Mam173 := ks168 rfl (by kernel_rfl)
end
end Go.Proofs.YtdnefddmghhgpaaGreatDoor
