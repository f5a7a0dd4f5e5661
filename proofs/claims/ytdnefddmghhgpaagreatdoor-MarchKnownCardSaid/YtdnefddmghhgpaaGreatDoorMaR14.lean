import Derived.Test.YtdnefddmghhgpaaGreatDoorMaS2
set_option maxRecDepth 1000000
set_option maxHeartbeats 4000000
namespace Go.Proofs.YtdnefddmghhgpaaGreatDoor
open AM Go
noncomputable section
theorem Mak277 : MemoOk Tryz.prog gsz Mam277 := ks168 rfl (by kernel_rfl)
theorem Mak278 : MemoOk Tryz.prog gsz Mam278 := ks168 rfl (by kernel_rfl)
theorem Mak279 : MemoOk Tryz.prog gsz Mam279 := ks168 rfl (by kernel_rfl)
theorem Mak280 : MemoOk Tryz.prog gsz Mam280 := ks168 rfl (by kernel_rfl)
theorem Mak281 : MemoOk Tryz.prog gsz Mam281 := ks168 rfl (by kernel_rfl)
theorem Mak282 : MemoOk Tryz.prog gsz Mam282 := ks168 rfl (by kernel_rfl)
theorem Mak283 : MemoOk Tryz.prog gsz Mam283 := ks168 rfl (by kernel_rfl)
theorem Mak284 : MemoOk Tryz.prog gsz Mam284 := ks168 rfl (by kernel_rfl)
theorem Mak285 : MemoOk Tryz.prog gsz Mam285 := ks168 rfl (by kernel_rfl)
theorem Mak286 : MemoOk Tryz.prog gsz Mam286 := ks168 rfl (by kernel_rfl)
theorem Mak287 : MemoOk Tryz.prog gsz Mam287 := ks168 rfl (by kernel_rfl)
theorem Mak288 : MemoOk Tryz.prog gsz Mam288 := ks168 rfl (by kernel_rfl)
theorem Mak289 : MemoOk Tryz.prog gsz Mam289 := ks168 rfl (by kernel_rfl)
theorem Mak290 : MemoOk Tryz.prog gsz Mam290 := ks168 rfl (by kernel_rfl)
theorem Mak291 : MemoOk Tryz.prog gsz Mam291 := ks168 rfl (by kernel_rfl)
theorem Mak292 : MemoOk Tryz.prog gsz Mam292 := ks168 rfl (by kernel_rfl)
theorem Mar293 : checkK env [Mam173,Mam174,Mam175,Mam176,Mam177,Mam178,Mam179,Mam180,Mam181,Mam182,Mam183,Mam184,Mam185,Mam186,Mam187,Mam188,Mam189,Mam190,Mam191,Mam192,Mam193,Mam194,Mam195,Mam196,Mam197,Mam198,Mam199,Mam200,Mam201,Mam202,Mam203,Mam204,Mam205,Mam206,Mam207,Mam208,Mam209,Mam210,Mam211,Mam212,Mam213,Mam214,Mam215,Mam216,Mam217,Mam218,Mam219,Mam220,Mam221,Mam222,Mam223,Mam224,Mam225,Mam226,Mam227,Mam228,Mam229,Mam230,Mam231,Mam232,Mam233,Mam234,Mam235,Mam236,Mam237,Mam238,Mam239,Mam240,Mam241,Mam242,Mam243,Mam244,Mam245,Mam246,Mam247,Mam248,Mam249,Mam250,Mam251,Mam252,Mam253,Mam254,Mam255,Mam256,Mam257,Mam258,Mam259,Mam260,Mam261,Mam262,Mam263,Mam264,Mam265,Mam266,Mam267,Mam268,Mam269,Mam270,Mam271,Mam272,Mam273,Mam274,Mam275,Mam276,Mam277,Mam278,Mam279,Mam280,Mam281,Mam282,Mam283,Mam284,Mam285,Mam286,Mam287,Mam288,Mam289,Mam290,Mam291,Mam292] [] 10000 [1424,1425,1426,1427,1428,1429,1430,1431,1432,1433] Mam293 = true := by kernel_rfl
end
end Go.Proofs.YtdnefddmghhgpaaGreatDoor
