import Derived.Test.YtdnefddmghhgpaaGreatDoorCaR0
import Derived.Test.YtdnefddmghhgpaaGreatDoorCaR1
import Derived.Test.YtdnefddmghhgpaaGreatDoorCaR2
import Derived.Test.YtdnefddmghhgpaaGreatDoorCaR3
import Derived.Test.YtdnefddmghhgpaaGreatDoorCaR4
set_option maxRecDepth 1000000
set_option maxHeartbeats 4000000
namespace Go.Proofs.YtdnefddmghhgpaaGreatDoor
open AM Go
noncomputable section
theorem Cak0 : MemoOk Tryz.prog Tryz.prog.globals.size Cam0 := Caknown MemosOk.nil LoopsOk.nil (fn := c309) (by kernel_rfl) Car0
theorem Cak1 : LoopOk Tryz.prog Tryz.prog.globals.size Cam1 := CaknownL MemosOk.nil LoopsOk.nil Car1
theorem Cak2 : LoopOk Tryz.prog Tryz.prog.globals.size Cam2 := CaknownL MemosOk.nil (LoopsOk.cons Cak1 LoopsOk.nil) Car2
theorem Cak3 : LoopOk Tryz.prog Tryz.prog.globals.size Cam3 := CaknownL MemosOk.nil (LoopsOk.cons Cak2 LoopsOk.nil) Car3
theorem Cak4 : LoopOk Tryz.prog Tryz.prog.globals.size Cam4 := CaknownL MemosOk.nil (LoopsOk.cons Cak3 LoopsOk.nil) Car4
theorem Cak5 : LoopOk Tryz.prog Tryz.prog.globals.size Cam5 := CaknownL MemosOk.nil (LoopsOk.cons Cak4 LoopsOk.nil) Car5
theorem Cak6 : LoopOk Tryz.prog Tryz.prog.globals.size Cam6 := CaknownL MemosOk.nil (LoopsOk.cons Cak5 LoopsOk.nil) Car6
theorem Cak7 : LoopOk Tryz.prog Tryz.prog.globals.size Cam7 := CaknownL MemosOk.nil (LoopsOk.cons Cak6 LoopsOk.nil) Car7
theorem Cak8 : LoopOk Tryz.prog Tryz.prog.globals.size Cam8 := CaknownL MemosOk.nil (LoopsOk.cons Cak7 LoopsOk.nil) Car8
theorem Cak9 : LoopOk Tryz.prog Tryz.prog.globals.size Cam9 := CaknownL MemosOk.nil (LoopsOk.cons Cak8 LoopsOk.nil) Car9
theorem Cak10 : LoopOk Tryz.prog Tryz.prog.globals.size Cam10 := CaknownL MemosOk.nil (LoopsOk.cons Cak9 LoopsOk.nil) Car10
theorem Cak11 : LoopOk Tryz.prog Tryz.prog.globals.size Cam11 := CaknownL MemosOk.nil (LoopsOk.cons Cak10 LoopsOk.nil) Car11
theorem Cak12 : LoopOk Tryz.prog Tryz.prog.globals.size Cam12 := CaknownL MemosOk.nil (LoopsOk.cons Cak11 LoopsOk.nil) Car12
theorem Cak13 : LoopOk Tryz.prog Tryz.prog.globals.size Cam13 := CaknownL MemosOk.nil (LoopsOk.cons Cak12 LoopsOk.nil) Car13
theorem Cak14 : LoopOk Tryz.prog Tryz.prog.globals.size Cam14 := CaknownL MemosOk.nil (LoopsOk.cons Cak13 LoopsOk.nil) Car14
theorem Cak15 : LoopOk Tryz.prog Tryz.prog.globals.size Cam15 := CaknownL MemosOk.nil (LoopsOk.cons Cak14 LoopsOk.nil) Car15
theorem Cak16 : LoopOk Tryz.prog Tryz.prog.globals.size Cam16 := CaknownL MemosOk.nil (LoopsOk.cons Cak15 LoopsOk.nil) Car16
theorem Cak17 : LoopOk Tryz.prog Tryz.prog.globals.size Cam17 := CaknownL MemosOk.nil (LoopsOk.cons Cak16 LoopsOk.nil) Car17
theorem Cak18 : MemoOk Tryz.prog Tryz.prog.globals.size Cam18 := Caknown (MemosOk.cons Cak0 MemosOk.nil) (LoopsOk.cons Cak17 LoopsOk.nil) (fn := c22) (by kernel_rfl) Car18
theorem Cak19 : MemoOk Tryz.prog Tryz.prog.globals.size Cam19 := Caknown MemosOk.nil LoopsOk.nil (fn := c309) (by kernel_rfl) Car19
theorem Cak20 : LoopOk Tryz.prog Tryz.prog.globals.size Cam20 := CaknownL MemosOk.nil LoopsOk.nil Car20
theorem Cak21 : LoopOk Tryz.prog Tryz.prog.globals.size Cam21 := CaknownL MemosOk.nil (LoopsOk.cons Cak20 LoopsOk.nil) Car21
theorem Cak22 : LoopOk Tryz.prog Tryz.prog.globals.size Cam22 := CaknownL MemosOk.nil (LoopsOk.cons Cak21 LoopsOk.nil) Car22
theorem Cak23 : LoopOk Tryz.prog Tryz.prog.globals.size Cam23 := CaknownL MemosOk.nil (LoopsOk.cons Cak22 LoopsOk.nil) Car23
theorem Cak24 : LoopOk Tryz.prog Tryz.prog.globals.size Cam24 := CaknownL MemosOk.nil (LoopsOk.cons Cak23 LoopsOk.nil) Car24
theorem Cak25 : LoopOk Tryz.prog Tryz.prog.globals.size Cam25 := CaknownL MemosOk.nil (LoopsOk.cons Cak24 LoopsOk.nil) Car25
theorem Cak26 : LoopOk Tryz.prog Tryz.prog.globals.size Cam26 := CaknownL MemosOk.nil (LoopsOk.cons Cak25 LoopsOk.nil) Car26
theorem Cak27 : LoopOk Tryz.prog Tryz.prog.globals.size Cam27 := CaknownL MemosOk.nil (LoopsOk.cons Cak26 LoopsOk.nil) Car27
theorem Cak28 : LoopOk Tryz.prog Tryz.prog.globals.size Cam28 := CaknownL MemosOk.nil (LoopsOk.cons Cak27 LoopsOk.nil) Car28
theorem Cak29 : LoopOk Tryz.prog Tryz.prog.globals.size Cam29 := CaknownL MemosOk.nil (LoopsOk.cons Cak28 LoopsOk.nil) Car29
theorem Cak30 : LoopOk Tryz.prog Tryz.prog.globals.size Cam30 := CaknownL MemosOk.nil (LoopsOk.cons Cak29 LoopsOk.nil) Car30
theorem Cak31 : LoopOk Tryz.prog Tryz.prog.globals.size Cam31 := CaknownL MemosOk.nil (LoopsOk.cons Cak30 LoopsOk.nil) Car31
theorem Cak32 : LoopOk Tryz.prog Tryz.prog.globals.size Cam32 := CaknownL MemosOk.nil (LoopsOk.cons Cak31 LoopsOk.nil) Car32
theorem Cak33 : LoopOk Tryz.prog Tryz.prog.globals.size Cam33 := CaknownL MemosOk.nil (LoopsOk.cons Cak32 LoopsOk.nil) Car33
theorem Cak34 : LoopOk Tryz.prog Tryz.prog.globals.size Cam34 := CaknownL MemosOk.nil (LoopsOk.cons Cak33 LoopsOk.nil) Car34
theorem Cak35 : LoopOk Tryz.prog Tryz.prog.globals.size Cam35 := CaknownL MemosOk.nil (LoopsOk.cons Cak34 LoopsOk.nil) Car35
theorem Cak36 : LoopOk Tryz.prog Tryz.prog.globals.size Cam36 := CaknownL MemosOk.nil (LoopsOk.cons Cak35 LoopsOk.nil) Car36
theorem Cak37 : LoopOk Tryz.prog Tryz.prog.globals.size Cam37 := CaknownL MemosOk.nil LoopsOk.nil Car37
theorem Cak38 : LoopOk Tryz.prog Tryz.prog.globals.size Cam38 := CaknownL MemosOk.nil LoopsOk.nil Car38
theorem Cak39 : LoopOk Tryz.prog Tryz.prog.globals.size Cam39 := CaknownL MemosOk.nil (LoopsOk.cons Cak38 LoopsOk.nil) Car39
theorem Cak40 : LoopOk Tryz.prog Tryz.prog.globals.size Cam40 := CaknownL MemosOk.nil (LoopsOk.cons Cak39 LoopsOk.nil) Car40
theorem Cak41 : LoopOk Tryz.prog Tryz.prog.globals.size Cam41 := CaknownL MemosOk.nil (LoopsOk.cons Cak40 LoopsOk.nil) Car41
theorem Cak42 : LoopOk Tryz.prog Tryz.prog.globals.size Cam42 := CaknownL MemosOk.nil (LoopsOk.cons Cak41 LoopsOk.nil) Car42
theorem Cak43 : LoopOk Tryz.prog Tryz.prog.globals.size Cam43 := CaknownL MemosOk.nil (LoopsOk.cons Cak42 LoopsOk.nil) Car43
theorem Cak44 : LoopOk Tryz.prog Tryz.prog.globals.size Cam44 := CaknownL MemosOk.nil (LoopsOk.cons Cak43 LoopsOk.nil) Car44
theorem Cak45 : LoopOk Tryz.prog Tryz.prog.globals.size Cam45 := CaknownL MemosOk.nil (LoopsOk.cons Cak44 LoopsOk.nil) Car45
theorem Cak46 : LoopOk Tryz.prog Tryz.prog.globals.size Cam46 := CaknownL MemosOk.nil (LoopsOk.cons Cak45 LoopsOk.nil) Car46
theorem Cak47 : LoopOk Tryz.prog Tryz.prog.globals.size Cam47 := CaknownL MemosOk.nil (LoopsOk.cons Cak46 LoopsOk.nil) Car47
theorem Cak48 : LoopOk Tryz.prog Tryz.prog.globals.size Cam48 := CaknownL MemosOk.nil (LoopsOk.cons Cak47 LoopsOk.nil) Car48
theorem Cak49 : LoopOk Tryz.prog Tryz.prog.globals.size Cam49 := CaknownL MemosOk.nil (LoopsOk.cons Cak48 LoopsOk.nil) Car49
theorem Cak50 : LoopOk Tryz.prog Tryz.prog.globals.size Cam50 := CaknownL MemosOk.nil (LoopsOk.cons Cak49 LoopsOk.nil) Car50
theorem Cak51 : LoopOk Tryz.prog Tryz.prog.globals.size Cam51 := CaknownL MemosOk.nil (LoopsOk.cons Cak50 LoopsOk.nil) Car51
theorem Cak52 : LoopOk Tryz.prog Tryz.prog.globals.size Cam52 := CaknownL MemosOk.nil (LoopsOk.cons Cak51 LoopsOk.nil) Car52
theorem Cak53 : LoopOk Tryz.prog Tryz.prog.globals.size Cam53 := CaknownL MemosOk.nil (LoopsOk.cons Cak52 LoopsOk.nil) Car53
theorem Cak54 : LoopOk Tryz.prog Tryz.prog.globals.size Cam54 := CaknownL MemosOk.nil (LoopsOk.cons Cak53 LoopsOk.nil) Car54
theorem Cak55 : MemoOk Tryz.prog Tryz.prog.globals.size Cam55 := Caknown MemosOk.nil (LoopsOk.cons Cak54 LoopsOk.nil) (fn := c202) (by kernel_rfl) Car55
theorem Cak56 : MemoOk Tryz.prog Tryz.prog.globals.size Cam56 := Caknown MemosOk.nil LoopsOk.nil (fn := c211) (by kernel_rfl) Car56
theorem Cak57 : MemoOk Tryz.prog Tryz.prog.globals.size Cam57 := Caknown (MemosOk.cons Cak18 (MemosOk.cons Cak19 (MemosOk.cons Cak55 (MemosOk.cons Cak56 MemosOk.nil)))) (LoopsOk.cons Cak36 (LoopsOk.cons Cak37 LoopsOk.nil)) (fn := c4) (by kernel_rfl) Car57
end
end Go.Proofs.YtdnefddmghhgpaaGreatDoor
