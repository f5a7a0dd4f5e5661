import Derived.Test.YtlgmpheammbacaaGreatDoorCode
import Derived.Test.YtlgmpheammbacaaGreatDoorPyd
import Derived.Test.YtlgmpheammbacaaGreatDoorCodeA
import Derived.Test.YtlgmpheammbacaaGreatDoorCodeB
import Derived.Test.YtlgmpheammbacaaGreatDoorCodeC
import Derived.Test.YtlgmpheammbacaaGreatDoorCodeD
import Derived.Test.YtlgmpheammbacaaGreatDoorCodeE
import Derived.Test.YtlgmpheammbacaaGreatDoorCodeF
import Derived.Test.YtlgmpheammbacaaGreatDoorCodeG
import Derived.Test.YtlgmpheammbacaaGreatDoorCodeH
set_option maxRecDepth 1000000
set_option maxHeartbeats 4000000
set_option linter.unusedVariables false
namespace Go.Proofs.YtlgmpheammbacaaGreatDoor
open AM Go
noncomputable section
abbrev Tb := {Γ : T AF // gh Tryz.prog Tryz.prog.globals.size Γ}
def ec (e : Tb) (i : Nat) {f : Func} (c : jj) (h : Tryz.prog.funcs[i]? = some f) (k : mW Tryz.prog f = some c := by kernel_rfl) : Tb := ⟨T.set e.1 i (.code c), gh.Rj e.2 h k⟩
def a0:Tb:=⟨.nil, gh.nil⟩
def a1:=ec a0 6 c6 Tryz.func6
def a2:=ec a1 7 c7 Tryz.func7
def a3:=ec a2 8 c8 Tryz.func8
def a4:=ec a3 9 c9 Tryz.func9
def a5:=ec a4 10 c10 Tryz.func10
def a6:=ec a5 15 c15 Tryz.func15
def a7:=ec a6 16 c16 Tryz.func16
def a8:=ec a7 17 c17 Tryz.func17
def a9:=ec a8 18 c18 Tryz.func18
def a10:=ec a9 19 c19 Tryz.func19
def a11:=ec a10 26 c26 Tryz.func26
def a12:=ec a11 28 c28 Tryz.func28
def a13:=ec a12 29 c29 Tryz.func29
def a14:=ec a13 30 c30 Tryz.func30
def a15:=ec a14 31 c31 Tryz.func31
def a16:=ec a15 32 c32 Tryz.func32
def a17:=ec a16 33 c33 Tryz.func33
def a18:=ec a17 34 c34 Tryz.func34
def a19:=ec a18 35 c35 Tryz.func35
def a20:=ec a19 36 c36 Tryz.func36
def a21:=ec a20 37 c37 Tryz.func37
def a22:=ec a21 38 c38 Tryz.func38
def a23:=ec a22 39 c39 Tryz.func39
def a24:=ec a23 40 c40 Tryz.func40
def a25:=ec a24 41 c41 Tryz.func41
def a26:=ec a25 42 c42 Tryz.func42
def a27:=ec a26 43 c43 Tryz.func43
def a28:=ec a27 44 c44 Tryz.func44
def a29:=ec a28 58 c58 Tryz.func58
def a30:=ec a29 59 c59 Tryz.func59
def a31:=ec a30 60 c60 Tryz.func60
def a32:=ec a31 61 c61 Tryz.func61
def a33:=ec a32 62 c62 Tryz.func62
def a34:=ec a33 63 c63 Tryz.func63
def a35:Tb:=⟨T.set a34.1 68 (.ext .lock), gh.ext' a34.2 (fun xs σ v σ' h => ⟨Ol LI h, fun e => by cases e⟩)⟩
def a36:Tb:=⟨T.set a35.1 69 (.ext .unlock), gh.ext' a35.2 (fun xs σ v σ' h => ⟨(zy LI h).1, fun _ => (zy LI h).2⟩)⟩
def a37:=ec a36 71 c71 Tryz.func71
def a38:=ec a37 72 c72 Tryz.func72
def a39:=ec a38 73 c73 Tryz.func73
def a40:=ec a39 74 c74 Tryz.func74
def a41:=ec a40 75 c75 Tryz.func75
def a42:=ec a41 76 c76 Tryz.func76
def a43:=ec a42 77 c77 Tryz.func77
def a44:=ec a43 78 c78 Tryz.func78
def a45:=ec a44 79 c79 Tryz.func79
def a46:=ec a45 80 c80 Tryz.func80
def a47:=ec a46 81 c81 Tryz.func81
def a48:=ec a47 82 c82 Tryz.func82
def a49:=ec a48 83 c83 Tryz.func83
def a50:=ec a49 84 c84 Tryz.func84
def a51:=ec a50 85 c85 Tryz.func85
def a52:=ec a51 86 c86 Tryz.func86
def a53:=ec a52 87 c87 Tryz.func87
def a54:=ec a53 88 c88 Tryz.func88
def a55:=ec a54 89 c89 Tryz.func89
def a56:=ec a55 90 c90 Tryz.func90
def a57:=ec a56 91 c91 Tryz.func91
def a58:=ec a57 92 c92 Tryz.func92
def a59:=ec a58 93 c93 Tryz.func93
def a60:=ec a59 94 c94 Tryz.func94
def a61:=ec a60 95 c95 Tryz.func95
def a62:=ec a61 96 c96 Tryz.func96
def a63:=ec a62 97 c97 Tryz.func97
def a64:=ec a63 98 c98 Tryz.func98
def a65:=ec a64 99 c99 Tryz.func99
def a66:=ec a65 100 c100 Tryz.func100
def a67:=ec a66 101 c101 Tryz.func101
def a68:=ec a67 102 c102 Tryz.func102
def a69:=ec a68 117 c117 Tryz.func117
def a70:=ec a69 118 c118 Tryz.func118
def a71:=ec a70 119 c119 Tryz.func119
def a72:=ec a71 120 c120 Tryz.func120
def a73:=ec a72 121 c121 Tryz.func121
def a74:=ec a73 122 c122 Tryz.func122
def a75:=ec a74 127 c127 Tryz.func127
def a76:=ec a75 128 c128 Tryz.func128
def a77:=ec a76 129 c129 Tryz.func129
def a78:=ec a77 130 c130 Tryz.func130
def a79:=ec a78 131 c131 Tryz.func131
def a80:=ec a79 132 c132 Tryz.func132
def a81:=ec a80 133 c133 Tryz.func133
def a82:=ec a81 134 c134 Tryz.func134
def a83:=ec a82 135 c135 Tryz.func135
def a84:=ec a83 136 c136 Tryz.func136
def a85:=ec a84 137 c137 Tryz.func137
def a86:=ec a85 138 c138 Tryz.func138
def a87:=ec a86 139 c139 Tryz.func139
def a88:=ec a87 141 c141 Tryz.func141
def a89:=ec a88 144 c144 Tryz.func144
def a90:=ec a89 147 c147 Tryz.func147
def a91:=ec a90 148 c148 Tryz.func148
def a92:=ec a91 149 c149 Tryz.func149
def a93:=ec a92 154 c154 Tryz.func154
def a94:=ec a93 157 c157 Tryz.func157
def a95:=ec a94 158 c158 Tryz.func158
def a96:=ec a95 161 c161 Tryz.func161
def a97:=ec a96 162 c162 Tryz.func162
def a98:=ec a97 163 c163 Tryz.func163
def a99:=ec a98 173 c173 Tryz.func173
def RB:=ec a99 174 c174 Tryz.func174
def S0:=ec RB 175 c175 Tryz.func175
def SV:=ec S0 176 c176 Tryz.func176
def Sv:=ec SV 177 c177 Tryz.func177
def Sn:=ec Sv 178 c178 Tryz.func178
def Rw:=ec Sn 179 c179 Tryz.func179
def RR:=ec Rw 180 c180 Tryz.func180
def RJ:=ec RR 181 c181 Tryz.func181
def Sz:=ec RJ 182 c182 Tryz.func182
def Rk:=ec Sz 184 c184 Tryz.func184
def S9:=ec Rk 185 c185 Tryz.func185
def Sp:Tb:=⟨T.set S9.1 191 (.ext .aal), gh.ext' S9.2 (fun xs σ v σ' h => ⟨DV Tryz.func191 (by kernel_rfl) (by kernel_rfl) (by kernel_rfl) (by kernel_rfl) h, fun e => by cases e⟩)⟩
def RS:=ec Sp 192 c192 Tryz.func192
def SK:=ec RS 193 c193 Tryz.func193
def SJ:=ec SK 198 c198 Tryz.func198
def SB:=ec SJ 199 c199 Tryz.func199
def SL:=ec SB 200 c200 Tryz.func200
def SO:=ec SL 201 c201 Tryz.func201
def Rv:=ec SO 202 c202 Tryz.func202
def Sd:=ec Rv 203 c203 Tryz.func203
def RY:=ec Sd 204 c204 Tryz.func204
def Sg:=ec RY 205 c205 Tryz.func205
def RW:=ec Sg 210 c210 Tryz.func210
def RT:=ec RW 211 c211 Tryz.func211
def SE:=ec RT 220 c220 Tryz.func220
def RP:=ec SE 221 c221 Tryz.func221
def RM:=ec RP 222 c222 Tryz.func222
def Sj:=ec RM 223 c223 Tryz.func223
def Sl:=ec Sj 224 c224 Tryz.func224
def SS:=ec Sl 225 c225 Tryz.func225
def Sf:=ec SS 226 c226 Tryz.func226
def Rz:=ec Sf 227 c227 Tryz.func227
def S7:=ec Rz 228 c228 Tryz.func228
def SI:=ec S7 229 c229 Tryz.func229
def Sq:=ec SI 230 c230 Tryz.func230
def RZ:=ec Sq 231 c231 Tryz.func231
def SF:=ec RZ 232 c232 Tryz.func232
def RF:=ec SF 233 c233 Tryz.func233
def So:=ec RF 234 c234 Tryz.func234
def Sa:=ec So 235 c235 Tryz.func235
def QL:=ec Sa 236 c236 Tryz.func236
def RX:=ec QL 239 c239 Tryz.func239
def SY:Tb:=⟨T.set RX.1 240 (.ext .aap), gh.ext' RX.2 (fun xs σ v σ' h => ⟨tL Tryz.func240 (by kernel_rfl) (by kernel_rfl) (by kernel_rfl) (by kernel_rfl) h, fun e => by cases e⟩)⟩
def SM:=ec SY 241 c241 Tryz.func241
def Su:=ec SM 242 c242 Tryz.func242
def SZ:=ec Su 243 c243 Tryz.func243
def SA:=ec SZ 244 c244 Tryz.func244
def Ta:=ec SA 245 c245 Tryz.func245
def Ry:=ec Ta 246 c246 Tryz.func246
def RO:=ec Ry 247 c247 Tryz.func247
def SP:=ec RO 248 c248 Tryz.func248
def SX:=ec SP 249 c249 Tryz.func249
def RQ:=ec SX 250 c250 Tryz.func250
def SH:=ec RQ 251 c251 Tryz.func251
def Rx:=ec SH 253 c253 Tryz.func253
def SQ:=ec Rx 254 c254 Tryz.func254
def Td:=ec SQ 255 c255 Tryz.func255
def Ss:=ec Td 256 c256 Tryz.func256
def SR:=ec Ss 257 c257 Tryz.func257
def RH:=ec SR 258 c258 Tryz.func258
def RG:=ec RH 259 c259 Tryz.func259
def RE:=ec RG 260 c260 Tryz.func260
def Sh:=ec RE 261 c261 Tryz.func261
def Si:=ec Sh 262 c262 Tryz.func262
def Sb:=ec Si 263 c263 Tryz.func263
def Tc:=ec Sb 264 c264 Tryz.func264
def RC:=ec Tc 265 c265 Tryz.func265
def RN:=ec RC 266 c266 Tryz.func266
def SD:=ec RN 267 c267 Tryz.func267
def SG:=ec SD 268 c268 Tryz.func268
def Se:=ec SG 269 c269 Tryz.func269
def SN:=ec Se 270 c270 Tryz.func270
def Sw:=ec SN 271 c271 Tryz.func271
def Sy:=ec Sw 272 c272 Tryz.func272
def RK:=ec Sy 273 c273 Tryz.func273
def Rr:=ec RK 274 c274 Tryz.func274
def adw:=ec Rr 275 c275 Tryz.func275
abbrev Q4 : T AF := adw.1
theorem BL : gh Tryz.prog Tryz.prog.globals.size Q4 := adw.2
end
end Go.Proofs.YtlgmpheammbacaaGreatDoor
