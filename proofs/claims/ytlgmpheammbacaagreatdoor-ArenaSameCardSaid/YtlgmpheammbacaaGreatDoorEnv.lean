import Derived.Test.YtlgmpheammbacaaGreatDoorCode
import Derived.Test.YtlgmpheammbacaaGreatDoorSmd
import Derived.Test.YtlgmpheammbacaaGreatDoorCodeA
import Derived.Test.YtlgmpheammbacaaGreatDoorCodeB
import Derived.Test.YtlgmpheammbacaaGreatDoorCodeC
import Derived.Test.YtlgmpheammbacaaGreatDoorCodeD
import Derived.Test.YtlgmpheammbacaaGreatDoorCodeE
import Derived.Test.YtlgmpheammbacaaGreatDoorCodeF
import Derived.Test.YtlgmpheammbacaaGreatDoorCodeG
import Derived.Test.YtlgmpheammbacaaGreatDoorCodeH
set_option maxRecDepth 1000000
set_option maxHeartbeats 4000000
set_option linter.unusedVariables false
namespace Go.Proofs.YtlgmpheammbacaaGreatDoor
open AM Go
noncomputable section
abbrev Tb := {Γ : T AF // EnvOk Tryz.prog Tryz.prog.globals.size Γ}
def ec (e : Tb) (i : Nat) {f : Func} (c : AFunc) (h : Tryz.prog.funcs[i]? = some f) (k : compFn Tryz.prog f = some c := by kernel_rfl) : Tb := ⟨T.set e.1 i (.code c), EnvOk.code' e.2 h k⟩
def a0:Tb:=⟨.nil, EnvOk.nil⟩
def a1:=ec a0 5 c5 Tryz.func5
def a2:=ec a1 15 c15 Tryz.func15
def a3:=ec a2 16 c16 Tryz.func16
def a4:=ec a3 17 c17 Tryz.func17
def a5:=ec a4 18 c18 Tryz.func18
def a6:=ec a5 19 c19 Tryz.func19
def a7:=ec a6 26 c26 Tryz.func26
def a8:=ec a7 27 c27 Tryz.func27
def a9:=ec a8 28 c28 Tryz.func28
def a10:=ec a9 29 c29 Tryz.func29
def a11:=ec a10 30 c30 Tryz.func30
def a12:=ec a11 37 c37 Tryz.func37
def a13:=ec a12 40 c40 Tryz.func40
def a14:=ec a13 41 c41 Tryz.func41
def a15:=ec a14 42 c42 Tryz.func42
def a16:=ec a15 43 c43 Tryz.func43
def a17:=ec a16 44 c44 Tryz.func44
def a18:=ec a17 58 c58 Tryz.func58
def a19:=ec a18 59 c59 Tryz.func59
def a20:=ec a19 60 c60 Tryz.func60
def a21:=ec a20 61 c61 Tryz.func61
def a22:=ec a21 62 c62 Tryz.func62
def a23:=ec a22 63 c63 Tryz.func63
def a24:Tb:=⟨T.set a23.1 68 (.ext .lock), EnvOk.ext' a23.2 (fun xs σ v σ' h => ⟨lock_ok muLib h, fun e => by cases e⟩)⟩
def a25:Tb:=⟨T.set a24.1 69 (.ext .unlock), EnvOk.ext' a24.2 (fun xs σ v σ' h => ⟨(unlock_ok muLib h).1, fun _ => (unlock_ok muLib h).2⟩)⟩
def a26:=ec a25 71 c71 Tryz.func71
def a27:=ec a26 72 c72 Tryz.func72
def a28:=ec a27 73 c73 Tryz.func73
def a29:=ec a28 74 c74 Tryz.func74
def a30:=ec a29 75 c75 Tryz.func75
def a31:=ec a30 76 c76 Tryz.func76
def a32:=ec a31 77 c77 Tryz.func77
def a33:=ec a32 78 c78 Tryz.func78
def a34:=ec a33 79 c79 Tryz.func79
def a35:=ec a34 80 c80 Tryz.func80
def a36:=ec a35 100 c100 Tryz.func100
def a37:=ec a36 101 c101 Tryz.func101
def a38:=ec a37 102 c102 Tryz.func102
def a39:=ec a38 117 c117 Tryz.func117
def a40:=ec a39 118 c118 Tryz.func118
def a41:=ec a40 119 c119 Tryz.func119
def a42:=ec a41 120 c120 Tryz.func120
def a43:=ec a42 121 c121 Tryz.func121
def a44:=ec a43 122 c122 Tryz.func122
def a45:=ec a44 127 c127 Tryz.func127
def a46:=ec a45 128 c128 Tryz.func128
def a47:=ec a46 132 c132 Tryz.func132
def a48:=ec a47 134 c134 Tryz.func134
def a49:=ec a48 135 c135 Tryz.func135
def a50:=ec a49 136 c136 Tryz.func136
def a51:=ec a50 148 c148 Tryz.func148
def a52:=ec a51 149 c149 Tryz.func149
def a53:=ec a52 154 c154 Tryz.func154
def a54:=ec a53 157 c157 Tryz.func157
def a55:=ec a54 158 c158 Tryz.func158
def a56:=ec a55 161 c161 Tryz.func161
def a57:=ec a56 162 c162 Tryz.func162
def a58:=ec a57 163 c163 Tryz.func163
def a59:=ec a58 173 c173 Tryz.func173
def a60:=ec a59 174 c174 Tryz.func174
def a61:=ec a60 175 c175 Tryz.func175
def a62:=ec a61 176 c176 Tryz.func176
def a63:=ec a62 177 c177 Tryz.func177
def a64:=ec a63 180 c180 Tryz.func180
def a65:=ec a64 181 c181 Tryz.func181
def a66:Tb:=⟨T.set a65.1 191 (.ext .loadU32), EnvOk.ext' a65.2 (fun xs σ v σ' h => ⟨loadU32_ok Tryz.func191 (by kernel_rfl) (by kernel_rfl) (by kernel_rfl) (by kernel_rfl) h, fun e => by cases e⟩)⟩
def a67:=ec a66 192 c192 Tryz.func192
def a68:=ec a67 193 c193 Tryz.func193
def a69:=ec a68 198 c198 Tryz.func198
def a70:=ec a69 199 c199 Tryz.func199
def a71:=ec a70 200 c200 Tryz.func200
def a72:=ec a71 201 c201 Tryz.func201
def a73:=ec a72 202 c202 Tryz.func202
def a74:=ec a73 203 c203 Tryz.func203
def a75:=ec a74 204 c204 Tryz.func204
def a76:=ec a75 205 c205 Tryz.func205
def a77:=ec a76 210 c210 Tryz.func210
def a78:=ec a77 211 c211 Tryz.func211
def a79:=ec a78 220 c220 Tryz.func220
def a80:=ec a79 221 c221 Tryz.func221
def a81:=ec a80 222 c222 Tryz.func222
def a82:=ec a81 223 c223 Tryz.func223
def a83:=ec a82 224 c224 Tryz.func224
def a84:=ec a83 225 c225 Tryz.func225
def a85:=ec a84 226 c226 Tryz.func226
def a86:=ec a85 227 c227 Tryz.func227
def a87:=ec a86 228 c228 Tryz.func228
def a88:=ec a87 229 c229 Tryz.func229
def a89:=ec a88 230 c230 Tryz.func230
def a90:=ec a89 231 c231 Tryz.func231
def a91:=ec a90 232 c232 Tryz.func232
def a92:=ec a91 233 c233 Tryz.func233
def a93:Tb:=⟨T.set a92.1 240 (.ext .storeU32), EnvOk.ext' a92.2 (fun xs σ v σ' h => ⟨storeU32_ok Tryz.func240 (by kernel_rfl) (by kernel_rfl) (by kernel_rfl) (by kernel_rfl) h, fun e => by cases e⟩)⟩
def a94:=ec a93 241 c241 Tryz.func241
def a95:=ec a94 242 c242 Tryz.func242
def a96:=ec a95 243 c243 Tryz.func243
def a97:=ec a96 244 c244 Tryz.func244
def a98:=ec a97 245 c245 Tryz.func245
def a99:=ec a98 246 c246 Tryz.func246
def a100:=ec a99 247 c247 Tryz.func247
def a101:=ec a100 248 c248 Tryz.func248
def a102:=ec a101 249 c249 Tryz.func249
def a103:=ec a102 250 c250 Tryz.func250
def a104:=ec a103 251 c251 Tryz.func251
def a105:=ec a104 253 c253 Tryz.func253
def a106:=ec a105 254 c254 Tryz.func254
def a107:=ec a106 255 c255 Tryz.func255
def a108:=ec a107 256 c256 Tryz.func256
def a109:=ec a108 257 c257 Tryz.func257
def a110:=ec a109 258 c258 Tryz.func258
def a111:=ec a110 259 c259 Tryz.func259
def a112:=ec a111 260 c260 Tryz.func260
def a113:=ec a112 261 c261 Tryz.func261
def a114:=ec a113 262 c262 Tryz.func262
def a115:=ec a114 263 c263 Tryz.func263
def a116:=ec a115 264 c264 Tryz.func264
def a117:=ec a116 267 c267 Tryz.func267
def a118:=ec a117 268 c268 Tryz.func268
def a119:=ec a118 269 c269 Tryz.func269
def a120:=ec a119 270 c270 Tryz.func270
def a121:=ec a120 271 c271 Tryz.func271
def a122:=ec a121 272 c272 Tryz.func272
def a123:=ec a122 273 c273 Tryz.func273
def a124:=ec a123 274 c274 Tryz.func274
def a125:=ec a124 275 c275 Tryz.func275
abbrev envB : T AF := a125.1
theorem envOkB : EnvOk Tryz.prog Tryz.prog.globals.size envB := a125.2
end
end Go.Proofs.YtlgmpheammbacaaGreatDoor
