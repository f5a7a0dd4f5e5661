import Derived.Test.YtdnefddmghhgpaaGreatDoorGuR0
import Derived.Test.YtdnefddmghhgpaaGreatDoorGuR1
import Derived.Test.YtdnefddmghhgpaaGreatDoorGuR2
import Derived.Test.YtdnefddmghhgpaaGreatDoorGuR3
import Derived.Test.YtdnefddmghhgpaaGreatDoorGuR4
import Derived.Test.YtdnefddmghhgpaaGreatDoorGuR5
import Derived.Test.YtdnefddmghhgpaaGreatDoorGuR6
import Derived.Test.YtdnefddmghhgpaaGreatDoorGuR7
import Derived.Test.YtdnefddmghhgpaaGreatDoorGuR8
import Derived.Test.YtdnefddmghhgpaaGreatDoorGuR9
import Derived.Test.YtdnefddmghhgpaaGreatDoorGuR10
import Derived.Test.YtdnefddmghhgpaaGreatDoorGuR11
import Derived.Test.YtdnefddmghhgpaaGreatDoorGuR12
import Derived.Test.YtdnefddmghhgpaaGreatDoorGuR13
import Derived.Test.YtdnefddmghhgpaaGreatDoorGuR14
import Derived.Test.YtdnefddmghhgpaaGreatDoorGuR15
import Derived.Test.YtdnefddmghhgpaaGreatDoorGuR16
import Derived.Test.YtdnefddmghhgpaaGreatDoorGuR17
import Derived.Test.YtdnefddmghhgpaaGreatDoorGuR18
import Derived.Test.YtdnefddmghhgpaaGreatDoorGuR19
import Derived.Test.YtdnefddmghhgpaaGreatDoorGuR20
import Derived.Test.YtdnefddmghhgpaaGreatDoorGuR21
import Derived.Test.YtdnefddmghhgpaaGreatDoorGuR22
import Derived.Test.YtdnefddmghhgpaaGreatDoorGuR23
import Derived.Test.YtdnefddmghhgpaaGreatDoorGuR24
import Derived.Test.YtdnefddmghhgpaaGreatDoorGuR25
import Derived.Test.YtdnefddmghhgpaaGreatDoorGuR26
import Derived.Test.YtdnefddmghhgpaaGreatDoorGuR27
import Derived.Test.YtdnefddmghhgpaaGreatDoorGuR28
import Derived.Test.YtdnefddmghhgpaaGreatDoorGuR29
import Derived.Test.YtdnefddmghhgpaaGreatDoorGuR30
import Derived.Test.YtdnefddmghhgpaaGreatDoorGuR31
import Derived.Test.YtdnefddmghhgpaaGreatDoorGuR32
set_option maxRecDepth 1000000
set_option maxHeartbeats 4000000
namespace Go.Proofs.YtdnefddmghhgpaaGreatDoor
open AM Go
noncomputable section
theorem Guk0 : MemoOk Tryz.prog gsz Gum0 := known MemosOk.nil LoopsOk.nil (fn := c368) (by kernel_rfl) Gur0
theorem Guk1 : MemoOk Tryz.prog gsz Gum1 := known (MemosOk.cons Guk0 MemosOk.nil) LoopsOk.nil (fn := c309) (by kernel_rfl) Gur1
theorem Guk2 : LoopOk Tryz.prog gsz Gum2 := knownL MemosOk.nil LoopsOk.nil Gur2
theorem Guk3 : LoopOk Tryz.prog gsz Gum3 := knownL MemosOk.nil (LoopsOk.cons Guk2 LoopsOk.nil) Gur3
theorem Guk4 : LoopOk Tryz.prog gsz Gum4 := knownL MemosOk.nil (LoopsOk.cons Guk3 LoopsOk.nil) Gur4
theorem Guk5 : MemoOk Tryz.prog gsz Gum5 := known MemosOk.nil (LoopsOk.cons Guk4 LoopsOk.nil) (fn := c367) (by kernel_rfl) Gur5
theorem Guk6 : MemoOk Tryz.prog gsz Gum6 := known (MemosOk.cons Guk1 (MemosOk.cons Guk5 MemosOk.nil)) LoopsOk.nil (fn := c40) (by kernel_rfl) Gur6
theorem Guk7 : LoopOk Tryz.prog gsz Gum7 := knownL MemosOk.nil LoopsOk.nil Gur7
theorem Guk8 : MemoOk Tryz.prog gsz Gum8 := known MemosOk.nil (LoopsOk.cons Guk7 LoopsOk.nil) (fn := c48) (by kernel_rfl) Gur8
theorem Guk9 : MemoOk Tryz.prog gsz Gum9 := known (MemosOk.cons Guk6 (MemosOk.cons Guk8 MemosOk.nil)) LoopsOk.nil (fn := c38) (by kernel_rfl) Gur9
theorem Guk10 : MemoOk Tryz.prog gsz Gum10 := known MemosOk.nil LoopsOk.nil (fn := c368) (by kernel_rfl) Gur10
theorem Guk11 : MemoOk Tryz.prog gsz Gum11 := known (MemosOk.cons Guk10 MemosOk.nil) LoopsOk.nil (fn := c309) (by kernel_rfl) Gur11
theorem Guk12 : LoopOk Tryz.prog gsz Gum12 := knownL MemosOk.nil LoopsOk.nil Gur12
theorem Guk13 : LoopOk Tryz.prog gsz Gum13 := knownL MemosOk.nil (LoopsOk.cons Guk12 LoopsOk.nil) Gur13
theorem Guk14 : LoopOk Tryz.prog gsz Gum14 := knownL MemosOk.nil (LoopsOk.cons Guk13 LoopsOk.nil) Gur14
theorem Guk15 : MemoOk Tryz.prog gsz Gum15 := known MemosOk.nil (LoopsOk.cons Guk14 LoopsOk.nil) (fn := c367) (by kernel_rfl) Gur15
theorem Guk16 : MemoOk Tryz.prog gsz Gum16 := known (MemosOk.cons Guk11 (MemosOk.cons Guk15 MemosOk.nil)) LoopsOk.nil (fn := c40) (by kernel_rfl) Gur16
theorem Guk17 : LoopOk Tryz.prog gsz Gum17 := knownL MemosOk.nil LoopsOk.nil Gur17
theorem Guk18 : MemoOk Tryz.prog gsz Gum18 := known MemosOk.nil (LoopsOk.cons Guk17 LoopsOk.nil) (fn := c48) (by kernel_rfl) Gur18
theorem Guk19 : LoopOk Tryz.prog gsz Gum19 := knownL MemosOk.nil LoopsOk.nil Gur19
theorem Guk20 : MemoOk Tryz.prog gsz Gum20 := known MemosOk.nil (LoopsOk.cons Guk19 LoopsOk.nil) (fn := c48) (by kernel_rfl) Gur20
theorem Guk21 : LoopOk Tryz.prog gsz Gum21 := knownL MemosOk.nil LoopsOk.nil Gur21
theorem Guk22 : MemoOk Tryz.prog gsz Gum22 := known MemosOk.nil (LoopsOk.cons Guk21 LoopsOk.nil) (fn := c48) (by kernel_rfl) Gur22
theorem Guk23 : MemoOk Tryz.prog gsz Gum23 := known MemosOk.nil LoopsOk.nil (fn := c40) (by kernel_rfl) Gur23
theorem Guk24 : MemoOk Tryz.prog gsz Gum24 := known MemosOk.nil LoopsOk.nil (fn := c155) (by kernel_rfl) Gur24
theorem Guk25 : LoopOk Tryz.prog gsz Gum25 := knownL MemosOk.nil LoopsOk.nil Gur25
theorem Guk26 : MemoOk Tryz.prog gsz Gum26 := known MemosOk.nil (LoopsOk.cons Guk25 LoopsOk.nil) (fn := c233) (by kernel_rfl) Gur26
theorem Guk27 : MemoOk Tryz.prog gsz Gum27 := known MemosOk.nil LoopsOk.nil (fn := c21) (by kernel_rfl) Gur27
theorem Guk28 : LoopOk Tryz.prog gsz Gum28 := knownL MemosOk.nil LoopsOk.nil Gur28
theorem Guk29 : MemoOk Tryz.prog gsz Gum29 := known MemosOk.nil (LoopsOk.cons Guk28 LoopsOk.nil) (fn := c48) (by kernel_rfl) Gur29
theorem Guk30 : LoopOk Tryz.prog gsz Gum30 := knownL MemosOk.nil LoopsOk.nil Gur30
theorem Guk31 : MemoOk Tryz.prog gsz Gum31 := known MemosOk.nil LoopsOk.nil (fn := c329) (by kernel_rfl) Gur31
theorem Guk32 : MemoOk Tryz.prog gsz Gum32 := known (MemosOk.cons Guk31 MemosOk.nil) (LoopsOk.cons Guk30 LoopsOk.nil) (fn := c233) (by kernel_rfl) Gur32
theorem Guk33 : MemoOk Tryz.prog gsz Gum33 := known (MemosOk.cons Guk32 MemosOk.nil) LoopsOk.nil (fn := c40) (by kernel_rfl) Gur33
theorem Guk34 : LoopOk Tryz.prog gsz Gum34 := knownL MemosOk.nil LoopsOk.nil Gur34
theorem Guk35 : LoopOk Tryz.prog gsz Gum35 := knownL MemosOk.nil (LoopsOk.cons Guk34 LoopsOk.nil) Gur35
theorem Guk36 : LoopOk Tryz.prog gsz Gum36 := knownL MemosOk.nil (LoopsOk.cons Guk35 LoopsOk.nil) Gur36
theorem Guk37 : LoopOk Tryz.prog gsz Gum37 := knownL MemosOk.nil (LoopsOk.cons Guk36 LoopsOk.nil) Gur37
theorem Guk38 : LoopOk Tryz.prog gsz Gum38 := knownL MemosOk.nil (LoopsOk.cons Guk37 LoopsOk.nil) Gur38
theorem Guk39 : LoopOk Tryz.prog gsz Gum39 := knownL MemosOk.nil (LoopsOk.cons Guk38 LoopsOk.nil) Gur39
theorem Guk40 : LoopOk Tryz.prog gsz Gum40 := knownL MemosOk.nil (LoopsOk.cons Guk39 LoopsOk.nil) Gur40
theorem Guk41 : LoopOk Tryz.prog gsz Gum41 := knownL MemosOk.nil (LoopsOk.cons Guk40 LoopsOk.nil) Gur41
theorem Guk42 : LoopOk Tryz.prog gsz Gum42 := knownL MemosOk.nil (LoopsOk.cons Guk41 LoopsOk.nil) Gur42
theorem Guk43 : LoopOk Tryz.prog gsz Gum43 := knownL MemosOk.nil (LoopsOk.cons Guk42 LoopsOk.nil) Gur43
theorem Guk44 : LoopOk Tryz.prog gsz Gum44 := knownL MemosOk.nil (LoopsOk.cons Guk43 LoopsOk.nil) Gur44
theorem Guk45 : LoopOk Tryz.prog gsz Gum45 := knownL MemosOk.nil (LoopsOk.cons Guk44 LoopsOk.nil) Gur45
theorem Guk46 : LoopOk Tryz.prog gsz Gum46 := knownL MemosOk.nil (LoopsOk.cons Guk45 LoopsOk.nil) Gur46
theorem Guk47 : LoopOk Tryz.prog gsz Gum47 := knownL MemosOk.nil (LoopsOk.cons Guk46 LoopsOk.nil) Gur47
theorem Guk48 : LoopOk Tryz.prog gsz Gum48 := knownL MemosOk.nil (LoopsOk.cons Guk47 LoopsOk.nil) Gur48
theorem Guk49 : LoopOk Tryz.prog gsz Gum49 := knownL MemosOk.nil (LoopsOk.cons Guk48 LoopsOk.nil) Gur49
theorem Guk50 : LoopOk Tryz.prog gsz Gum50 := knownL MemosOk.nil (LoopsOk.cons Guk49 LoopsOk.nil) Gur50
theorem Guk51 : LoopOk Tryz.prog gsz Gum51 := knownL MemosOk.nil (LoopsOk.cons Guk50 LoopsOk.nil) Gur51
theorem Guk52 : LoopOk Tryz.prog gsz Gum52 := knownL MemosOk.nil (LoopsOk.cons Guk51 LoopsOk.nil) Gur52
theorem Guk53 : LoopOk Tryz.prog gsz Gum53 := knownL MemosOk.nil (LoopsOk.cons Guk52 LoopsOk.nil) Gur53
theorem Guk54 : LoopOk Tryz.prog gsz Gum54 := knownL MemosOk.nil (LoopsOk.cons Guk53 LoopsOk.nil) Gur54
theorem Guk55 : LoopOk Tryz.prog gsz Gum55 := knownL MemosOk.nil (LoopsOk.cons Guk54 LoopsOk.nil) Gur55
theorem Guk56 : LoopOk Tryz.prog gsz Gum56 := knownL MemosOk.nil (LoopsOk.cons Guk55 LoopsOk.nil) Gur56
theorem Guk57 : LoopOk Tryz.prog gsz Gum57 := knownL MemosOk.nil (LoopsOk.cons Guk56 LoopsOk.nil) Gur57
theorem Guk58 : LoopOk Tryz.prog gsz Gum58 := knownL MemosOk.nil (LoopsOk.cons Guk57 LoopsOk.nil) Gur58
theorem Guk59 : LoopOk Tryz.prog gsz Gum59 := knownL MemosOk.nil (LoopsOk.cons Guk58 LoopsOk.nil) Gur59
theorem Guk60 : LoopOk Tryz.prog gsz Gum60 := knownL MemosOk.nil (LoopsOk.cons Guk59 LoopsOk.nil) Gur60
theorem Guk61 : LoopOk Tryz.prog gsz Gum61 := knownL MemosOk.nil (LoopsOk.cons Guk60 LoopsOk.nil) Gur61
theorem Guk62 : LoopOk Tryz.prog gsz Gum62 := knownL MemosOk.nil (LoopsOk.cons Guk61 LoopsOk.nil) Gur62
theorem Guk63 : LoopOk Tryz.prog gsz Gum63 := knownL MemosOk.nil (LoopsOk.cons Guk62 LoopsOk.nil) Gur63
theorem Guk64 : LoopOk Tryz.prog gsz Gum64 := knownL MemosOk.nil (LoopsOk.cons Guk63 LoopsOk.nil) Gur64
theorem Guk65 : LoopOk Tryz.prog gsz Gum65 := knownL MemosOk.nil (LoopsOk.cons Guk64 LoopsOk.nil) Gur65
theorem Guk66 : LoopOk Tryz.prog gsz Gum66 := knownL MemosOk.nil (LoopsOk.cons Guk65 LoopsOk.nil) Gur66
theorem Guk67 : LoopOk Tryz.prog gsz Gum67 := knownL MemosOk.nil (LoopsOk.cons Guk66 LoopsOk.nil) Gur67
theorem Guk68 : LoopOk Tryz.prog gsz Gum68 := knownL MemosOk.nil (LoopsOk.cons Guk67 LoopsOk.nil) Gur68
theorem Guk69 : LoopOk Tryz.prog gsz Gum69 := knownL MemosOk.nil (LoopsOk.cons Guk68 LoopsOk.nil) Gur69
theorem Guk70 : LoopOk Tryz.prog gsz Gum70 := knownL MemosOk.nil (LoopsOk.cons Guk69 LoopsOk.nil) Gur70
theorem Guk71 : LoopOk Tryz.prog gsz Gum71 := knownL MemosOk.nil (LoopsOk.cons Guk70 LoopsOk.nil) Gur71
theorem Guk72 : LoopOk Tryz.prog gsz Gum72 := knownL MemosOk.nil (LoopsOk.cons Guk71 LoopsOk.nil) Gur72
theorem Guk73 : LoopOk Tryz.prog gsz Gum73 := knownL MemosOk.nil (LoopsOk.cons Guk72 LoopsOk.nil) Gur73
theorem Guk74 : LoopOk Tryz.prog gsz Gum74 := knownL MemosOk.nil (LoopsOk.cons Guk73 LoopsOk.nil) Gur74
theorem Guk75 : LoopOk Tryz.prog gsz Gum75 := knownL MemosOk.nil (LoopsOk.cons Guk74 LoopsOk.nil) Gur75
theorem Guk76 : LoopOk Tryz.prog gsz Gum76 := knownL MemosOk.nil (LoopsOk.cons Guk75 LoopsOk.nil) Gur76
theorem Guk77 : LoopOk Tryz.prog gsz Gum77 := knownL MemosOk.nil (LoopsOk.cons Guk76 LoopsOk.nil) Gur77
theorem Guk78 : LoopOk Tryz.prog gsz Gum78 := knownL MemosOk.nil (LoopsOk.cons Guk77 LoopsOk.nil) Gur78
theorem Guk79 : LoopOk Tryz.prog gsz Gum79 := knownL MemosOk.nil (LoopsOk.cons Guk78 LoopsOk.nil) Gur79
theorem Guk80 : LoopOk Tryz.prog gsz Gum80 := knownL MemosOk.nil (LoopsOk.cons Guk79 LoopsOk.nil) Gur80
theorem Guk81 : LoopOk Tryz.prog gsz Gum81 := knownL MemosOk.nil (LoopsOk.cons Guk80 LoopsOk.nil) Gur81
theorem Guk82 : LoopOk Tryz.prog gsz Gum82 := knownL MemosOk.nil (LoopsOk.cons Guk81 LoopsOk.nil) Gur82
theorem Guk83 : LoopOk Tryz.prog gsz Gum83 := knownL MemosOk.nil (LoopsOk.cons Guk82 LoopsOk.nil) Gur83
theorem Guk84 : LoopOk Tryz.prog gsz Gum84 := knownL MemosOk.nil (LoopsOk.cons Guk83 LoopsOk.nil) Gur84
theorem Guk85 : LoopOk Tryz.prog gsz Gum85 := knownL MemosOk.nil (LoopsOk.cons Guk84 LoopsOk.nil) Gur85
theorem Guk86 : LoopOk Tryz.prog gsz Gum86 := knownL MemosOk.nil (LoopsOk.cons Guk85 LoopsOk.nil) Gur86
theorem Guk87 : LoopOk Tryz.prog gsz Gum87 := knownL MemosOk.nil (LoopsOk.cons Guk86 LoopsOk.nil) Gur87
theorem Guk88 : LoopOk Tryz.prog gsz Gum88 := knownL MemosOk.nil (LoopsOk.cons Guk87 LoopsOk.nil) Gur88
theorem Guk89 : LoopOk Tryz.prog gsz Gum89 := knownL MemosOk.nil (LoopsOk.cons Guk88 LoopsOk.nil) Gur89
theorem Guk90 : LoopOk Tryz.prog gsz Gum90 := knownL MemosOk.nil (LoopsOk.cons Guk89 LoopsOk.nil) Gur90
theorem Guk91 : LoopOk Tryz.prog gsz Gum91 := knownL MemosOk.nil (LoopsOk.cons Guk90 LoopsOk.nil) Gur91
theorem Guk92 : LoopOk Tryz.prog gsz Gum92 := knownL MemosOk.nil (LoopsOk.cons Guk91 LoopsOk.nil) Gur92
theorem Guk93 : LoopOk Tryz.prog gsz Gum93 := knownL MemosOk.nil (LoopsOk.cons Guk92 LoopsOk.nil) Gur93
theorem Guk94 : LoopOk Tryz.prog gsz Gum94 := knownL MemosOk.nil (LoopsOk.cons Guk93 LoopsOk.nil) Gur94
theorem Guk95 : LoopOk Tryz.prog gsz Gum95 := knownL MemosOk.nil (LoopsOk.cons Guk94 LoopsOk.nil) Gur95
theorem Guk96 : LoopOk Tryz.prog gsz Gum96 := knownL MemosOk.nil (LoopsOk.cons Guk95 LoopsOk.nil) Gur96
theorem Guk97 : LoopOk Tryz.prog gsz Gum97 := knownL MemosOk.nil (LoopsOk.cons Guk96 LoopsOk.nil) Gur97
theorem Guk98 : LoopOk Tryz.prog gsz Gum98 := knownL MemosOk.nil (LoopsOk.cons Guk97 LoopsOk.nil) Gur98
theorem Guk99 : LoopOk Tryz.prog gsz Gum99 := knownL MemosOk.nil (LoopsOk.cons Guk98 LoopsOk.nil) Gur99
theorem Guk100 : LoopOk Tryz.prog gsz Gum100 := knownL MemosOk.nil (LoopsOk.cons Guk99 LoopsOk.nil) Gur100
theorem Guk101 : LoopOk Tryz.prog gsz Gum101 := knownL MemosOk.nil (LoopsOk.cons Guk100 LoopsOk.nil) Gur101
theorem Guk102 : LoopOk Tryz.prog gsz Gum102 := knownL MemosOk.nil (LoopsOk.cons Guk101 LoopsOk.nil) Gur102
theorem Guk103 : LoopOk Tryz.prog gsz Gum103 := knownL MemosOk.nil (LoopsOk.cons Guk102 LoopsOk.nil) Gur103
theorem Guk104 : LoopOk Tryz.prog gsz Gum104 := knownL MemosOk.nil (LoopsOk.cons Guk103 LoopsOk.nil) Gur104
theorem Guk105 : LoopOk Tryz.prog gsz Gum105 := knownL MemosOk.nil (LoopsOk.cons Guk104 LoopsOk.nil) Gur105
theorem Guk106 : LoopOk Tryz.prog gsz Gum106 := knownL MemosOk.nil (LoopsOk.cons Guk105 LoopsOk.nil) Gur106
theorem Guk107 : LoopOk Tryz.prog gsz Gum107 := knownL MemosOk.nil (LoopsOk.cons Guk106 LoopsOk.nil) Gur107
theorem Guk108 : LoopOk Tryz.prog gsz Gum108 := knownL MemosOk.nil (LoopsOk.cons Guk107 LoopsOk.nil) Gur108
theorem Guk109 : LoopOk Tryz.prog gsz Gum109 := knownL MemosOk.nil (LoopsOk.cons Guk108 LoopsOk.nil) Gur109
theorem Guk110 : LoopOk Tryz.prog gsz Gum110 := knownL MemosOk.nil (LoopsOk.cons Guk109 LoopsOk.nil) Gur110
theorem Guk111 : LoopOk Tryz.prog gsz Gum111 := knownL MemosOk.nil (LoopsOk.cons Guk110 LoopsOk.nil) Gur111
theorem Guk112 : LoopOk Tryz.prog gsz Gum112 := knownL MemosOk.nil (LoopsOk.cons Guk111 LoopsOk.nil) Gur112
theorem Guk113 : LoopOk Tryz.prog gsz Gum113 := knownL MemosOk.nil (LoopsOk.cons Guk112 LoopsOk.nil) Gur113
theorem Guk114 : LoopOk Tryz.prog gsz Gum114 := knownL MemosOk.nil (LoopsOk.cons Guk113 LoopsOk.nil) Gur114
theorem Guk115 : LoopOk Tryz.prog gsz Gum115 := knownL MemosOk.nil (LoopsOk.cons Guk114 LoopsOk.nil) Gur115
theorem Guk116 : LoopOk Tryz.prog gsz Gum116 := knownL MemosOk.nil (LoopsOk.cons Guk115 LoopsOk.nil) Gur116
theorem Guk117 : LoopOk Tryz.prog gsz Gum117 := knownL MemosOk.nil (LoopsOk.cons Guk116 LoopsOk.nil) Gur117
theorem Guk118 : LoopOk Tryz.prog gsz Gum118 := knownL MemosOk.nil (LoopsOk.cons Guk117 LoopsOk.nil) Gur118
theorem Guk119 : LoopOk Tryz.prog gsz Gum119 := knownL MemosOk.nil (LoopsOk.cons Guk118 LoopsOk.nil) Gur119
theorem Guk120 : LoopOk Tryz.prog gsz Gum120 := knownL MemosOk.nil (LoopsOk.cons Guk119 LoopsOk.nil) Gur120
theorem Guk121 : LoopOk Tryz.prog gsz Gum121 := knownL MemosOk.nil (LoopsOk.cons Guk120 LoopsOk.nil) Gur121
theorem Guk122 : LoopOk Tryz.prog gsz Gum122 := knownL MemosOk.nil (LoopsOk.cons Guk121 LoopsOk.nil) Gur122
theorem Guk123 : LoopOk Tryz.prog gsz Gum123 := knownL MemosOk.nil (LoopsOk.cons Guk122 LoopsOk.nil) Gur123
theorem Guk124 : LoopOk Tryz.prog gsz Gum124 := knownL MemosOk.nil (LoopsOk.cons Guk123 LoopsOk.nil) Gur124
theorem Guk125 : LoopOk Tryz.prog gsz Gum125 := knownL MemosOk.nil (LoopsOk.cons Guk124 LoopsOk.nil) Gur125
theorem Guk126 : LoopOk Tryz.prog gsz Gum126 := knownL MemosOk.nil (LoopsOk.cons Guk125 LoopsOk.nil) Gur126
theorem Guk127 : LoopOk Tryz.prog gsz Gum127 := knownL MemosOk.nil (LoopsOk.cons Guk126 LoopsOk.nil) Gur127
theorem Guk128 : LoopOk Tryz.prog gsz Gum128 := knownL MemosOk.nil (LoopsOk.cons Guk127 LoopsOk.nil) Gur128
theorem Guk129 : LoopOk Tryz.prog gsz Gum129 := knownL MemosOk.nil (LoopsOk.cons Guk128 LoopsOk.nil) Gur129
theorem Guk130 : LoopOk Tryz.prog gsz Gum130 := knownL MemosOk.nil (LoopsOk.cons Guk129 LoopsOk.nil) Gur130
theorem Guk131 : LoopOk Tryz.prog gsz Gum131 := knownL MemosOk.nil (LoopsOk.cons Guk130 LoopsOk.nil) Gur131
theorem Guk132 : LoopOk Tryz.prog gsz Gum132 := knownL MemosOk.nil (LoopsOk.cons Guk131 LoopsOk.nil) Gur132
theorem Guk133 : LoopOk Tryz.prog gsz Gum133 := knownL MemosOk.nil (LoopsOk.cons Guk132 LoopsOk.nil) Gur133
theorem Guk134 : LoopOk Tryz.prog gsz Gum134 := knownL MemosOk.nil (LoopsOk.cons Guk133 LoopsOk.nil) Gur134
theorem Guk135 : LoopOk Tryz.prog gsz Gum135 := knownL MemosOk.nil (LoopsOk.cons Guk134 LoopsOk.nil) Gur135
theorem Guk136 : LoopOk Tryz.prog gsz Gum136 := knownL MemosOk.nil (LoopsOk.cons Guk135 LoopsOk.nil) Gur136
theorem Guk137 : LoopOk Tryz.prog gsz Gum137 := knownL MemosOk.nil (LoopsOk.cons Guk136 LoopsOk.nil) Gur137
theorem Guk138 : LoopOk Tryz.prog gsz Gum138 := knownL MemosOk.nil (LoopsOk.cons Guk137 LoopsOk.nil) Gur138
theorem Guk139 : LoopOk Tryz.prog gsz Gum139 := knownL MemosOk.nil (LoopsOk.cons Guk138 LoopsOk.nil) Gur139
theorem Guk140 : LoopOk Tryz.prog gsz Gum140 := knownL MemosOk.nil (LoopsOk.cons Guk139 LoopsOk.nil) Gur140
theorem Guk141 : LoopOk Tryz.prog gsz Gum141 := knownL MemosOk.nil (LoopsOk.cons Guk140 LoopsOk.nil) Gur141
theorem Guk142 : LoopOk Tryz.prog gsz Gum142 := knownL MemosOk.nil (LoopsOk.cons Guk141 LoopsOk.nil) Gur142
theorem Guk143 : LoopOk Tryz.prog gsz Gum143 := knownL MemosOk.nil (LoopsOk.cons Guk142 LoopsOk.nil) Gur143
theorem Guk144 : LoopOk Tryz.prog gsz Gum144 := knownL MemosOk.nil (LoopsOk.cons Guk143 LoopsOk.nil) Gur144
theorem Guk145 : LoopOk Tryz.prog gsz Gum145 := knownL MemosOk.nil (LoopsOk.cons Guk144 LoopsOk.nil) Gur145
theorem Guk146 : LoopOk Tryz.prog gsz Gum146 := knownL MemosOk.nil (LoopsOk.cons Guk145 LoopsOk.nil) Gur146
theorem Guk147 : LoopOk Tryz.prog gsz Gum147 := knownL MemosOk.nil (LoopsOk.cons Guk146 LoopsOk.nil) Gur147
theorem Guk148 : LoopOk Tryz.prog gsz Gum148 := knownL MemosOk.nil (LoopsOk.cons Guk147 LoopsOk.nil) Gur148
theorem Guk149 : LoopOk Tryz.prog gsz Gum149 := knownL MemosOk.nil (LoopsOk.cons Guk148 LoopsOk.nil) Gur149
theorem Guk150 : LoopOk Tryz.prog gsz Gum150 := knownL MemosOk.nil (LoopsOk.cons Guk149 LoopsOk.nil) Gur150
theorem Guk151 : LoopOk Tryz.prog gsz Gum151 := knownL MemosOk.nil (LoopsOk.cons Guk150 LoopsOk.nil) Gur151
theorem Guk152 : LoopOk Tryz.prog gsz Gum152 := knownL MemosOk.nil (LoopsOk.cons Guk151 LoopsOk.nil) Gur152
theorem Guk153 : LoopOk Tryz.prog gsz Gum153 := knownL MemosOk.nil (LoopsOk.cons Guk152 LoopsOk.nil) Gur153
theorem Guk154 : LoopOk Tryz.prog gsz Gum154 := knownL MemosOk.nil (LoopsOk.cons Guk153 LoopsOk.nil) Gur154
theorem Guk155 : LoopOk Tryz.prog gsz Gum155 := knownL MemosOk.nil (LoopsOk.cons Guk154 LoopsOk.nil) Gur155
theorem Guk156 : LoopOk Tryz.prog gsz Gum156 := knownL MemosOk.nil (LoopsOk.cons Guk155 LoopsOk.nil) Gur156
theorem Guk157 : LoopOk Tryz.prog gsz Gum157 := knownL MemosOk.nil (LoopsOk.cons Guk156 LoopsOk.nil) Gur157
theorem Guk158 : LoopOk Tryz.prog gsz Gum158 := knownL MemosOk.nil (LoopsOk.cons Guk157 LoopsOk.nil) Gur158
theorem Guk159 : LoopOk Tryz.prog gsz Gum159 := knownL MemosOk.nil (LoopsOk.cons Guk158 LoopsOk.nil) Gur159
theorem Guk160 : LoopOk Tryz.prog gsz Gum160 := knownL MemosOk.nil (LoopsOk.cons Guk159 LoopsOk.nil) Gur160
theorem Guk161 : LoopOk Tryz.prog gsz Gum161 := knownL MemosOk.nil (LoopsOk.cons Guk160 LoopsOk.nil) Gur161
theorem Guk162 : LoopOk Tryz.prog gsz Gum162 := knownL MemosOk.nil (LoopsOk.cons Guk161 LoopsOk.nil) Gur162
theorem Guk163 : LoopOk Tryz.prog gsz Gum163 := knownL MemosOk.nil (LoopsOk.cons Guk162 LoopsOk.nil) Gur163
theorem Guk164 : LoopOk Tryz.prog gsz Gum164 := knownL MemosOk.nil (LoopsOk.cons Guk163 LoopsOk.nil) Gur164
theorem Guk165 : LoopOk Tryz.prog gsz Gum165 := knownL MemosOk.nil (LoopsOk.cons Guk164 LoopsOk.nil) Gur165
theorem Guk166 : LoopOk Tryz.prog gsz Gum166 := knownL MemosOk.nil (LoopsOk.cons Guk165 LoopsOk.nil) Gur166
theorem Guk167 : LoopOk Tryz.prog gsz Gum167 := knownL MemosOk.nil (LoopsOk.cons Guk166 LoopsOk.nil) Gur167
theorem Guk168 : LoopOk Tryz.prog gsz Gum168 := knownL MemosOk.nil (LoopsOk.cons Guk167 LoopsOk.nil) Gur168
theorem Guk169 : LoopOk Tryz.prog gsz Gum169 := knownL MemosOk.nil (LoopsOk.cons Guk168 LoopsOk.nil) Gur169
theorem Guk170 : LoopOk Tryz.prog gsz Gum170 := knownL MemosOk.nil (LoopsOk.cons Guk169 LoopsOk.nil) Gur170
theorem Guk171 : LoopOk Tryz.prog gsz Gum171 := knownL MemosOk.nil (LoopsOk.cons Guk170 LoopsOk.nil) Gur171
theorem Guk172 : LoopOk Tryz.prog gsz Gum172 := knownL MemosOk.nil (LoopsOk.cons Guk171 LoopsOk.nil) Gur172
theorem Guk173 : LoopOk Tryz.prog gsz Gum173 := knownL MemosOk.nil (LoopsOk.cons Guk172 LoopsOk.nil) Gur173
theorem Guk174 : LoopOk Tryz.prog gsz Gum174 := knownL MemosOk.nil (LoopsOk.cons Guk173 LoopsOk.nil) Gur174
theorem Guk175 : LoopOk Tryz.prog gsz Gum175 := knownL MemosOk.nil (LoopsOk.cons Guk174 LoopsOk.nil) Gur175
theorem Guk176 : LoopOk Tryz.prog gsz Gum176 := knownL MemosOk.nil (LoopsOk.cons Guk175 LoopsOk.nil) Gur176
theorem Guk177 : LoopOk Tryz.prog gsz Gum177 := knownL MemosOk.nil (LoopsOk.cons Guk176 LoopsOk.nil) Gur177
theorem Guk178 : LoopOk Tryz.prog gsz Gum178 := knownL MemosOk.nil (LoopsOk.cons Guk177 LoopsOk.nil) Gur178
theorem Guk179 : LoopOk Tryz.prog gsz Gum179 := knownL MemosOk.nil (LoopsOk.cons Guk178 LoopsOk.nil) Gur179
theorem Guk180 : LoopOk Tryz.prog gsz Gum180 := knownL MemosOk.nil (LoopsOk.cons Guk179 LoopsOk.nil) Gur180
theorem Guk181 : LoopOk Tryz.prog gsz Gum181 := knownL MemosOk.nil (LoopsOk.cons Guk180 LoopsOk.nil) Gur181
theorem Guk182 : LoopOk Tryz.prog gsz Gum182 := knownL MemosOk.nil (LoopsOk.cons Guk181 LoopsOk.nil) Gur182
theorem Guk183 : LoopOk Tryz.prog gsz Gum183 := knownL MemosOk.nil (LoopsOk.cons Guk182 LoopsOk.nil) Gur183
theorem Guk184 : LoopOk Tryz.prog gsz Gum184 := knownL MemosOk.nil (LoopsOk.cons Guk183 LoopsOk.nil) Gur184
theorem Guk185 : LoopOk Tryz.prog gsz Gum185 := knownL MemosOk.nil (LoopsOk.cons Guk184 LoopsOk.nil) Gur185
theorem Guk186 : LoopOk Tryz.prog gsz Gum186 := knownL MemosOk.nil (LoopsOk.cons Guk185 LoopsOk.nil) Gur186
theorem Guk187 : LoopOk Tryz.prog gsz Gum187 := knownL MemosOk.nil (LoopsOk.cons Guk186 LoopsOk.nil) Gur187
theorem Guk188 : LoopOk Tryz.prog gsz Gum188 := knownL MemosOk.nil (LoopsOk.cons Guk187 LoopsOk.nil) Gur188
theorem Guk189 : LoopOk Tryz.prog gsz Gum189 := knownL MemosOk.nil (LoopsOk.cons Guk188 LoopsOk.nil) Gur189
theorem Guk190 : LoopOk Tryz.prog gsz Gum190 := knownL MemosOk.nil (LoopsOk.cons Guk189 LoopsOk.nil) Gur190
theorem Guk191 : LoopOk Tryz.prog gsz Gum191 := knownL MemosOk.nil (LoopsOk.cons Guk190 LoopsOk.nil) Gur191
theorem Guk192 : LoopOk Tryz.prog gsz Gum192 := knownL MemosOk.nil (LoopsOk.cons Guk191 LoopsOk.nil) Gur192
theorem Guk193 : LoopOk Tryz.prog gsz Gum193 := knownL MemosOk.nil (LoopsOk.cons Guk192 LoopsOk.nil) Gur193
theorem Guk194 : LoopOk Tryz.prog gsz Gum194 := knownL MemosOk.nil (LoopsOk.cons Guk193 LoopsOk.nil) Gur194
theorem Guk195 : LoopOk Tryz.prog gsz Gum195 := knownL MemosOk.nil (LoopsOk.cons Guk194 LoopsOk.nil) Gur195
theorem Guk196 : LoopOk Tryz.prog gsz Gum196 := knownL MemosOk.nil (LoopsOk.cons Guk195 LoopsOk.nil) Gur196
theorem Guk197 : LoopOk Tryz.prog gsz Gum197 := knownL MemosOk.nil (LoopsOk.cons Guk196 LoopsOk.nil) Gur197
theorem Guk198 : LoopOk Tryz.prog gsz Gum198 := knownL MemosOk.nil (LoopsOk.cons Guk197 LoopsOk.nil) Gur198
theorem Guk199 : LoopOk Tryz.prog gsz Gum199 := knownL MemosOk.nil (LoopsOk.cons Guk198 LoopsOk.nil) Gur199
theorem Guk200 : LoopOk Tryz.prog gsz Gum200 := knownL MemosOk.nil (LoopsOk.cons Guk199 LoopsOk.nil) Gur200
theorem Guk201 : MemoOk Tryz.prog gsz Gum201 := known MemosOk.nil LoopsOk.nil (fn := c157) (by kernel_rfl) Gur201
theorem Guk202 : MemoOk Tryz.prog gsz Gum202 := known (MemosOk.cons Guk23 (MemosOk.cons Guk24 (MemosOk.cons Guk26 (MemosOk.cons Guk27 (MemosOk.cons Guk29 (MemosOk.cons Guk33 (MemosOk.cons Guk201 MemosOk.nil))))))) (LoopsOk.cons Guk200 LoopsOk.nil) (fn := c50) (by kernel_rfl) Gur202
theorem Guk203 : MemoOk Tryz.prog gsz Gum203 := known (MemosOk.cons Guk9 (MemosOk.cons Guk16 (MemosOk.cons Guk18 (MemosOk.cons Guk20 (MemosOk.cons Guk22 (MemosOk.cons Guk202 MemosOk.nil)))))) LoopsOk.nil (fn := c6) (by kernel_rfl) Gur203
end
end Go.Proofs.YtdnefddmghhgpaaGreatDoor
