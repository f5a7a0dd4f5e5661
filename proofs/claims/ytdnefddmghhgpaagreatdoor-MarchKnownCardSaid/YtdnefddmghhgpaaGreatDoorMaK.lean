import Derived.Test.YtdnefddmghhgpaaGreatDoorMaR0
import Derived.Test.YtdnefddmghhgpaaGreatDoorMaR1
import Derived.Test.YtdnefddmghhgpaaGreatDoorMaR2
import Derived.Test.YtdnefddmghhgpaaGreatDoorMaR3
import Derived.Test.YtdnefddmghhgpaaGreatDoorMaR4
import Derived.Test.YtdnefddmghhgpaaGreatDoorMaR5
import Derived.Test.YtdnefddmghhgpaaGreatDoorMaR6
import Derived.Test.YtdnefddmghhgpaaGreatDoorMaR7
import Derived.Test.YtdnefddmghhgpaaGreatDoorMaR8
import Derived.Test.YtdnefddmghhgpaaGreatDoorMaR9
import Derived.Test.YtdnefddmghhgpaaGreatDoorMaR10
import Derived.Test.YtdnefddmghhgpaaGreatDoorMaR11
import Derived.Test.YtdnefddmghhgpaaGreatDoorMaR12
import Derived.Test.YtdnefddmghhgpaaGreatDoorMaR13
import Derived.Test.YtdnefddmghhgpaaGreatDoorMaR14
import Derived.Test.YtdnefddmghhgpaaGreatDoorMaR15
set_option maxRecDepth 1000000
set_option maxHeartbeats 4000000
namespace Go.Proofs.YtdnefddmghhgpaaGreatDoor
open AM Go
noncomputable section
theorem Mak0 : MemoOk Tryz.prog gsz Mam0 := known MemosOk.nil LoopsOk.nil (fn := c309) (by kernel_rfl) Mar0
theorem Mak1 : LoopOk Tryz.prog gsz Mam1 := knownL MemosOk.nil LoopsOk.nil Mar1
theorem Mak2 : LoopOk Tryz.prog gsz Mam2 := knownL MemosOk.nil (LoopsOk.cons Mak1 LoopsOk.nil) Mar2
theorem Mak3 : LoopOk Tryz.prog gsz Mam3 := knownL MemosOk.nil (LoopsOk.cons Mak2 LoopsOk.nil) Mar3
theorem Mak4 : LoopOk Tryz.prog gsz Mam4 := knownL MemosOk.nil (LoopsOk.cons Mak3 LoopsOk.nil) Mar4
theorem Mak5 : LoopOk Tryz.prog gsz Mam5 := knownL MemosOk.nil (LoopsOk.cons Mak4 LoopsOk.nil) Mar5
theorem Mak6 : LoopOk Tryz.prog gsz Mam6 := knownL MemosOk.nil (LoopsOk.cons Mak5 LoopsOk.nil) Mar6
theorem Mak7 : LoopOk Tryz.prog gsz Mam7 := knownL MemosOk.nil (LoopsOk.cons Mak6 LoopsOk.nil) Mar7
theorem Mak8 : LoopOk Tryz.prog gsz Mam8 := knownL MemosOk.nil (LoopsOk.cons Mak7 LoopsOk.nil) Mar8
theorem Mak9 : LoopOk Tryz.prog gsz Mam9 := knownL MemosOk.nil (LoopsOk.cons Mak8 LoopsOk.nil) Mar9
theorem Mak10 : LoopOk Tryz.prog gsz Mam10 := knownL MemosOk.nil (LoopsOk.cons Mak9 LoopsOk.nil) Mar10
theorem Mak11 : LoopOk Tryz.prog gsz Mam11 := knownL MemosOk.nil (LoopsOk.cons Mak10 LoopsOk.nil) Mar11
theorem Mak12 : LoopOk Tryz.prog gsz Mam12 := knownL MemosOk.nil (LoopsOk.cons Mak11 LoopsOk.nil) Mar12
theorem Mak13 : LoopOk Tryz.prog gsz Mam13 := knownL MemosOk.nil (LoopsOk.cons Mak12 LoopsOk.nil) Mar13
theorem Mak14 : LoopOk Tryz.prog gsz Mam14 := knownL MemosOk.nil (LoopsOk.cons Mak13 LoopsOk.nil) Mar14
theorem Mak15 : LoopOk Tryz.prog gsz Mam15 := knownL MemosOk.nil (LoopsOk.cons Mak14 LoopsOk.nil) Mar15
theorem Mak16 : MemoOk Tryz.prog gsz Mam16 := known (MemosOk.cons Mak0 MemosOk.nil) (LoopsOk.cons Mak15 LoopsOk.nil) (fn := c162) (by kernel_rfl) Mar16
theorem Mak17 : MemoOk Tryz.prog gsz Mam17 := known MemosOk.nil LoopsOk.nil (fn := c55) (by kernel_rfl) Mar17
theorem Mak18 : MemoOk Tryz.prog gsz Mam18 := known MemosOk.nil LoopsOk.nil (fn := c55) (by kernel_rfl) Mar18
theorem Mak19 : MemoOk Tryz.prog gsz Mam19 := known MemosOk.nil LoopsOk.nil (fn := c234) (by kernel_rfl) Mar19
theorem Mak20 : MemoOk Tryz.prog gsz Mam20 := known (MemosOk.cons Mak19 MemosOk.nil) LoopsOk.nil (fn := c53) (by kernel_rfl) Mar20
theorem Mak21 : MemoOk Tryz.prog gsz Mam21 := known MemosOk.nil LoopsOk.nil (fn := c161) (by kernel_rfl) Mar21
theorem Mak22 : MemoOk Tryz.prog gsz Mam22 := known MemosOk.nil LoopsOk.nil (fn := c234) (by kernel_rfl) Mar22
theorem Mak23 : MemoOk Tryz.prog gsz Mam23 := known (MemosOk.cons Mak21 (MemosOk.cons Mak22 MemosOk.nil)) LoopsOk.nil (fn := c53) (by kernel_rfl) Mar23
theorem Mak24 : MemoOk Tryz.prog gsz Mam24 := known MemosOk.nil LoopsOk.nil (fn := c62) (by kernel_rfl) Mar24
theorem Mak25 : MemoOk Tryz.prog gsz Mam25 := known (MemosOk.cons Mak16 (MemosOk.cons Mak17 (MemosOk.cons Mak18 (MemosOk.cons Mak20 (MemosOk.cons Mak23 (MemosOk.cons Mak24 MemosOk.nil)))))) LoopsOk.nil (fn := c52) (by kernel_rfl) Mar25
theorem Mak26 : MemoOk Tryz.prog gsz Mam26 := known MemosOk.nil LoopsOk.nil (fn := c309) (by kernel_rfl) Mar26
theorem Mak27 : LoopOk Tryz.prog gsz Mam27 := knownL MemosOk.nil LoopsOk.nil Mar27
theorem Mak28 : LoopOk Tryz.prog gsz Mam28 := knownL MemosOk.nil (LoopsOk.cons Mak27 LoopsOk.nil) Mar28
theorem Mak29 : LoopOk Tryz.prog gsz Mam29 := knownL MemosOk.nil (LoopsOk.cons Mak28 LoopsOk.nil) Mar29
theorem Mak30 : LoopOk Tryz.prog gsz Mam30 := knownL MemosOk.nil (LoopsOk.cons Mak29 LoopsOk.nil) Mar30
theorem Mak31 : LoopOk Tryz.prog gsz Mam31 := knownL MemosOk.nil (LoopsOk.cons Mak30 LoopsOk.nil) Mar31
theorem Mak32 : LoopOk Tryz.prog gsz Mam32 := knownL MemosOk.nil (LoopsOk.cons Mak31 LoopsOk.nil) Mar32
theorem Mak33 : LoopOk Tryz.prog gsz Mam33 := knownL MemosOk.nil (LoopsOk.cons Mak32 LoopsOk.nil) Mar33
theorem Mak34 : LoopOk Tryz.prog gsz Mam34 := knownL MemosOk.nil (LoopsOk.cons Mak33 LoopsOk.nil) Mar34
theorem Mak35 : LoopOk Tryz.prog gsz Mam35 := knownL MemosOk.nil (LoopsOk.cons Mak34 LoopsOk.nil) Mar35
theorem Mak36 : LoopOk Tryz.prog gsz Mam36 := knownL MemosOk.nil (LoopsOk.cons Mak35 LoopsOk.nil) Mar36
theorem Mak37 : LoopOk Tryz.prog gsz Mam37 := knownL MemosOk.nil (LoopsOk.cons Mak36 LoopsOk.nil) Mar37
theorem Mak38 : LoopOk Tryz.prog gsz Mam38 := knownL MemosOk.nil (LoopsOk.cons Mak37 LoopsOk.nil) Mar38
theorem Mak39 : LoopOk Tryz.prog gsz Mam39 := knownL MemosOk.nil (LoopsOk.cons Mak38 LoopsOk.nil) Mar39
theorem Mak40 : LoopOk Tryz.prog gsz Mam40 := knownL MemosOk.nil (LoopsOk.cons Mak39 LoopsOk.nil) Mar40
theorem Mak41 : LoopOk Tryz.prog gsz Mam41 := knownL MemosOk.nil (LoopsOk.cons Mak40 LoopsOk.nil) Mar41
theorem Mak42 : MemoOk Tryz.prog gsz Mam42 := known (MemosOk.cons Mak26 MemosOk.nil) (LoopsOk.cons Mak41 LoopsOk.nil) (fn := c162) (by kernel_rfl) Mar42
theorem Mak43 : MemoOk Tryz.prog gsz Mam43 := known MemosOk.nil LoopsOk.nil (fn := c55) (by kernel_rfl) Mar43
theorem Mak44 : MemoOk Tryz.prog gsz Mam44 := known MemosOk.nil LoopsOk.nil (fn := c55) (by kernel_rfl) Mar44
theorem Mak45 : MemoOk Tryz.prog gsz Mam45 := known MemosOk.nil LoopsOk.nil (fn := c55) (by kernel_rfl) Mar45
theorem Mak46 : MemoOk Tryz.prog gsz Mam46 := known MemosOk.nil LoopsOk.nil (fn := c234) (by kernel_rfl) Mar46
theorem Mak47 : MemoOk Tryz.prog gsz Mam47 := known (MemosOk.cons Mak46 MemosOk.nil) LoopsOk.nil (fn := c53) (by kernel_rfl) Mar47
theorem Mak48 : MemoOk Tryz.prog gsz Mam48 := known MemosOk.nil LoopsOk.nil (fn := c55) (by kernel_rfl) Mar48
theorem Mak49 : MemoOk Tryz.prog gsz Mam49 := known MemosOk.nil LoopsOk.nil (fn := c234) (by kernel_rfl) Mar49
theorem Mak50 : MemoOk Tryz.prog gsz Mam50 := known (MemosOk.cons Mak49 MemosOk.nil) LoopsOk.nil (fn := c161) (by kernel_rfl) Mar50
theorem Mak171 : MemoOk Tryz.prog gsz Mam171 := known (MemosOk.cons Mak51 (MemosOk.cons Mak52 (MemosOk.cons Mak53 (MemosOk.cons Mak54 (MemosOk.cons Mak55 (MemosOk.cons Mak56 (MemosOk.cons Mak57 (MemosOk.cons Mak58 (MemosOk.cons Mak59 (MemosOk.cons Mak60 (MemosOk.cons Mak61 (MemosOk.cons Mak62 (MemosOk.cons Mak63 (MemosOk.cons Mak64 (MemosOk.cons Mak65 (MemosOk.cons Mak66 (MemosOk.cons Mak67 (MemosOk.cons Mak68 (MemosOk.cons Mak69 (MemosOk.cons Mak70 (MemosOk.cons Mak71 (MemosOk.cons Mak72 (MemosOk.cons Mak73 (MemosOk.cons Mak74 (MemosOk.cons Mak75 (MemosOk.cons Mak76 (MemosOk.cons Mak77 (MemosOk.cons Mak78 (MemosOk.cons Mak79 (MemosOk.cons Mak80 (MemosOk.cons Mak81 (MemosOk.cons Mak82 (MemosOk.cons Mak83 (MemosOk.cons Mak84 (MemosOk.cons Mak85 (MemosOk.cons Mak86 (MemosOk.cons Mak87 (MemosOk.cons Mak88 (MemosOk.cons Mak89 (MemosOk.cons Mak90 (MemosOk.cons Mak91 (MemosOk.cons Mak92 (MemosOk.cons Mak93 (MemosOk.cons Mak94 (MemosOk.cons Mak95 (MemosOk.cons Mak96 (MemosOk.cons Mak97 (MemosOk.cons Mak98 (MemosOk.cons Mak99 (MemosOk.cons Mak100 (MemosOk.cons Mak101 (MemosOk.cons Mak102 (MemosOk.cons Mak103 (MemosOk.cons Mak104 (MemosOk.cons Mak105 (MemosOk.cons Mak106 (MemosOk.cons Mak107 (MemosOk.cons Mak108 (MemosOk.cons Mak109 (MemosOk.cons Mak110 (MemosOk.cons Mak111 (MemosOk.cons Mak112 (MemosOk.cons Mak113 (MemosOk.cons Mak114 (MemosOk.cons Mak115 (MemosOk.cons Mak116 (MemosOk.cons Mak117 (MemosOk.cons Mak118 (MemosOk.cons Mak119 (MemosOk.cons Mak120 (MemosOk.cons Mak121 (MemosOk.cons Mak122 (MemosOk.cons Mak123 (MemosOk.cons Mak124 (MemosOk.cons Mak125 (MemosOk.cons Mak126 (MemosOk.cons Mak127 (MemosOk.cons Mak128 (MemosOk.cons Mak129 (MemosOk.cons Mak130 (MemosOk.cons Mak131 (MemosOk.cons Mak132 (MemosOk.cons Mak133 (MemosOk.cons Mak134 (MemosOk.cons Mak135 (MemosOk.cons Mak136 (MemosOk.cons Mak137 (MemosOk.cons Mak138 (MemosOk.cons Mak139 (MemosOk.cons Mak140 (MemosOk.cons Mak141 (MemosOk.cons Mak142 (MemosOk.cons Mak143 (MemosOk.cons Mak144 (MemosOk.cons Mak145 (MemosOk.cons Mak146 (MemosOk.cons Mak147 (MemosOk.cons Mak148 (MemosOk.cons Mak149 (MemosOk.cons Mak150 (MemosOk.cons Mak151 (MemosOk.cons Mak152 (MemosOk.cons Mak153 (MemosOk.cons Mak154 (MemosOk.cons Mak155 (MemosOk.cons Mak156 (MemosOk.cons Mak157 (MemosOk.cons Mak158 (MemosOk.cons Mak159 (MemosOk.cons Mak160 (MemosOk.cons Mak161 (MemosOk.cons Mak162 (MemosOk.cons Mak163 (MemosOk.cons Mak164 (MemosOk.cons Mak165 (MemosOk.cons Mak166 (MemosOk.cons Mak167 (MemosOk.cons Mak168 (MemosOk.cons Mak169 (MemosOk.cons Mak170 MemosOk.nil)))))))))))))))))))))))))))))))))))))))))))))))))))))))))))))))))))))))))))))))))))))))))))))))))))))))))))))))))))))))) LoopsOk.nil (fn := c62) (by kernel_rfl) Mar171
theorem Mak172 : MemoOk Tryz.prog gsz Mam172 := known MemosOk.nil LoopsOk.nil (fn := c234) (by kernel_rfl) Mar172
theorem Mak293 : MemoOk Tryz.prog gsz Mam293 := known (MemosOk.cons Mak173 (MemosOk.cons Mak174 (MemosOk.cons Mak175 (MemosOk.cons Mak176 (MemosOk.cons Mak177 (MemosOk.cons Mak178 (MemosOk.cons Mak179 (MemosOk.cons Mak180 (MemosOk.cons Mak181 (MemosOk.cons Mak182 (MemosOk.cons Mak183 (MemosOk.cons Mak184 (MemosOk.cons Mak185 (MemosOk.cons Mak186 (MemosOk.cons Mak187 (MemosOk.cons Mak188 (MemosOk.cons Mak189 (MemosOk.cons Mak190 (MemosOk.cons Mak191 (MemosOk.cons Mak192 (MemosOk.cons Mak193 (MemosOk.cons Mak194 (MemosOk.cons Mak195 (MemosOk.cons Mak196 (MemosOk.cons Mak197 (MemosOk.cons Mak198 (MemosOk.cons Mak199 (MemosOk.cons Mak200 (MemosOk.cons Mak201 (MemosOk.cons Mak202 (MemosOk.cons Mak203 (MemosOk.cons Mak204 (MemosOk.cons Mak205 (MemosOk.cons Mak206 (MemosOk.cons Mak207 (MemosOk.cons Mak208 (MemosOk.cons Mak209 (MemosOk.cons Mak210 (MemosOk.cons Mak211 (MemosOk.cons Mak212 (MemosOk.cons Mak213 (MemosOk.cons Mak214 (MemosOk.cons Mak215 (MemosOk.cons Mak216 (MemosOk.cons Mak217 (MemosOk.cons Mak218 (MemosOk.cons Mak219 (MemosOk.cons Mak220 (MemosOk.cons Mak221 (MemosOk.cons Mak222 (MemosOk.cons Mak223 (MemosOk.cons Mak224 (MemosOk.cons Mak225 (MemosOk.cons Mak226 (MemosOk.cons Mak227 (MemosOk.cons Mak228 (MemosOk.cons Mak229 (MemosOk.cons Mak230 (MemosOk.cons Mak231 (MemosOk.cons Mak232 (MemosOk.cons Mak233 (MemosOk.cons Mak234 (MemosOk.cons Mak235 (MemosOk.cons Mak236 (MemosOk.cons Mak237 (MemosOk.cons Mak238 (MemosOk.cons Mak239 (MemosOk.cons Mak240 (MemosOk.cons Mak241 (MemosOk.cons Mak242 (MemosOk.cons Mak243 (MemosOk.cons Mak244 (MemosOk.cons Mak245 (MemosOk.cons Mak246 (MemosOk.cons Mak247 (MemosOk.cons Mak248 (MemosOk.cons Mak249 (MemosOk.cons Mak250 (MemosOk.cons Mak251 (MemosOk.cons Mak252 (MemosOk.cons Mak253 (MemosOk.cons Mak254 (MemosOk.cons Mak255 (MemosOk.cons Mak256 (MemosOk.cons Mak257 (MemosOk.cons Mak258 (MemosOk.cons Mak259 (MemosOk.cons Mak260 (MemosOk.cons Mak261 (MemosOk.cons Mak262 (MemosOk.cons Mak263 (MemosOk.cons Mak264 (MemosOk.cons Mak265 (MemosOk.cons Mak266 (MemosOk.cons Mak267 (MemosOk.cons Mak268 (MemosOk.cons Mak269 (MemosOk.cons Mak270 (MemosOk.cons Mak271 (MemosOk.cons Mak272 (MemosOk.cons Mak273 (MemosOk.cons Mak274 (MemosOk.cons Mak275 (MemosOk.cons Mak276 (MemosOk.cons Mak277 (MemosOk.cons Mak278 (MemosOk.cons Mak279 (MemosOk.cons Mak280 (MemosOk.cons Mak281 (MemosOk.cons Mak282 (MemosOk.cons Mak283 (MemosOk.cons Mak284 (MemosOk.cons Mak285 (MemosOk.cons Mak286 (MemosOk.cons Mak287 (MemosOk.cons Mak288 (MemosOk.cons Mak289 (MemosOk.cons Mak290 (MemosOk.cons Mak291 (MemosOk.cons Mak292 MemosOk.nil)))))))))))))))))))))))))))))))))))))))))))))))))))))))))))))))))))))))))))))))))))))))))))))))))))))))))))))))))))))))) LoopsOk.nil (fn := c161) (by kernel_rfl) Mar293
theorem Mak294 : MemoOk Tryz.prog gsz Mam294 := known (MemosOk.cons Mak172 (MemosOk.cons Mak293 MemosOk.nil)) LoopsOk.nil (fn := c53) (by kernel_rfl) Mar294
theorem Mak295 : MemoOk Tryz.prog gsz Mam295 := known MemosOk.nil LoopsOk.nil (fn := c55) (by kernel_rfl) Mar295
theorem Mak296 : MemoOk Tryz.prog gsz Mam296 := known MemosOk.nil LoopsOk.nil (fn := c53) (by kernel_rfl) Mar296
theorem Mak297 : MemoOk Tryz.prog gsz Mam297 := known (MemosOk.cons Mak25 (MemosOk.cons Mak42 (MemosOk.cons Mak43 (MemosOk.cons Mak44 (MemosOk.cons Mak45 (MemosOk.cons Mak47 (MemosOk.cons Mak48 (MemosOk.cons Mak50 (MemosOk.cons Mak171 (MemosOk.cons Mak294 (MemosOk.cons Mak295 (MemosOk.cons Mak296 MemosOk.nil)))))))))))) LoopsOk.nil (fn := c7) (by kernel_rfl) Mar297
end
end Go.Proofs.YtdnefddmghhgpaaGreatDoor
