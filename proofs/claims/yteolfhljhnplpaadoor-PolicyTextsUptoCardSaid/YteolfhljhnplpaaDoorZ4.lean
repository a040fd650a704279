/- Texts of this proof, one after the other: SH, E1, M, L0, H1, U1, EB, E2, E3, E4, U2, A1, A2, L1. -/
import Derived.Ground.NamesProg
import Derived.Shelf.LaysM
import Derived.Shelf.LaysC
import Derived.Shelf.Strings.BuilderK
import Derived.Shelf.Strings.SlTrimAscii
import Derived.Shelf.Strings.Cut
import Derived.Shelf.Strconv.Itoa3
import Derived.Test.YteolfhljhnplpaaDoorProg
import Derived.Test.YteolfhljhnplpaaDoorZ3
import Derived.Lib.AtoiErrMem
import Derived.Lib.AppendIntMem
import Derived.Lib.ItoaLen
import Derived.Shelf.Strconv.AtoiAll
import Derived.Shelf.Strconv.ErrVarAll
import Derived.WalkKit
import Derived.BigCall
import Derived.Lib.ItoaMem
import Derived.Lib.Join
set_option linter.unusedVariables false
set_option linter.unusedSimpArgs false
namespace Go.Proofs
open Go.Shelf
def Tryd.laysM171_ren : Go.Shelf.Ren := ⟨fun | 171 => 19 | 243 => 37 | 246 => 46 | 283 => 50 | 284 => 51 | 285 => 52 | 286 => 53 | 129 => 68 | 317 => 67 | 318 => 69 | 319 => 70 | 320 => 71 | 337 => 83 | 338 => 84 | n => n, fun | 3 => 3 | 9 => 9 | 2 => 2 | 4 => 4 | 171 => 82 | 0 => 0 | 53 => 83 | 37 => 45 | 5 => 5 | 173 => 86 | 212 => 100 | 51 => 101 | 20 => 20 | 213 => 102 | 46 => 90 | 232 => 125 | 233 => 126 | n => n, fun | 17 => 1 | 18 => 4 | 19 => 5 | n => n⟩
theorem Tryd.laysM171 : Go.Proofs.LaysM.n171 Tryd.prog Tryd.laysM171_ren := {
 mixed := by kernel_rfl
 f129 := Tryd.func68.trans (congrArg some (by kernel_rfl))
 f171 := Tryd.func19.trans (congrArg some (by kernel_rfl))
 f243 := Tryd.func37.trans (congrArg some (by kernel_rfl))
 f246 := Tryd.func46.trans (congrArg some (by kernel_rfl))
 f283 := Tryd.func50.trans (congrArg some (by kernel_rfl))
 f284 := Tryd.func51.trans (congrArg some (by kernel_rfl))
 f285 := Tryd.func52.trans (congrArg some (by kernel_rfl))
 f286 := Tryd.func53.trans (congrArg some (by kernel_rfl))
 f317 := Tryd.func67.trans (congrArg some (by kernel_rfl))
 f318 := Tryd.func69.trans (congrArg some (by kernel_rfl))
 f319 := Tryd.func70.trans (congrArg some (by kernel_rfl))
 f320 := Tryd.func71.trans (congrArg some (by kernel_rfl))
 f337 := Tryd.func83.trans (congrArg some (by kernel_rfl))
 f338 := Tryd.func84.trans (congrArg some (by kernel_rfl))
 t0 := Tryd.underlying0
 a0 := Tryd.isAgg0
 z0 := Tryd.sizeOf0
 v0 := Tryd.zeroValue0
 t2 := Tryd.underlying2
 a2 := Tryd.isAgg2
 z2 := Tryd.sizeOf2
 v2 := Tryd.zeroValue2
 t3 := Tryd.underlying3
 a3 := Tryd.isAgg3
 z3 := Tryd.sizeOf3
 v3 := Tryd.zeroValue3
 t4 := Tryd.underlying4
 a4 := Tryd.isAgg4
 z4 := Tryd.sizeOf4
 v4 := Tryd.zeroValue4
 t5 := Tryd.underlying5
 a5 := Tryd.isAgg5
 z5 := Tryd.sizeOf5
 v5 := Tryd.zeroValue5
 t9 := Tryd.underlying9
 a9 := Tryd.isAgg9
 z9 := Tryd.sizeOf9
 v9 := Tryd.zeroValue9
 t20 := Tryd.underlying20
 a20 := Tryd.isAgg20
 z20 := Tryd.sizeOf20
 v20 := Tryd.zeroValue20
 t37 := Tryd.underlying45
 a37 := Tryd.isAgg45
 z37 := Tryd.sizeOf45
 v37 := Tryd.zeroValue45
 t46 := Tryd.underlying90
 a46 := Tryd.isAgg90
 z46 := Tryd.sizeOf90
 v46 := Tryd.zeroValue90
 t51 := Tryd.underlying101
 a51 := Tryd.isAgg101
 z51 := Tryd.sizeOf101
 v51 := Tryd.zeroValue101
 t53 := Tryd.underlying83
 a53 := Tryd.isAgg83
 z53 := Tryd.sizeOf83
 v53 := Tryd.zeroValue83
 t171 := Tryd.underlying82
 a171 := Tryd.isAgg82
 z171 := Tryd.sizeOf82
 v171 := Tryd.zeroValue82
 t173 := Tryd.underlying86
 a173 := Tryd.isAgg86
 z173 := Tryd.sizeOf86
 v173 := Tryd.zeroValue86
 t212 := Tryd.underlying100
 a212 := Tryd.isAgg100
 z212 := Tryd.sizeOf100
 v212 := Tryd.zeroValue100
 t213 := Tryd.underlying102
 a213 := Tryd.isAgg102
 z213 := Tryd.sizeOf102
 t232 := Tryd.underlying125
 a232 := Tryd.isAgg125
 z232 := Tryd.sizeOf125
 v232 := Tryd.zeroValue125
 t233 := Tryd.underlying126
 a233 := Tryd.isAgg126
 z233 := Tryd.sizeOf126
 v233 := Tryd.zeroValue126
 g17 := by kernel_rfl
 g18 := by kernel_rfl
 g19 := by kernel_rfl
 i0 := by kernel_rfl
 i2 := by kernel_rfl
 i3 := by kernel_rfl
 i4 := by kernel_rfl
 i5 := by kernel_rfl
 i9 := by kernel_rfl
 i20 := by kernel_rfl
 i37 := by kernel_rfl
 i46 := by kernel_rfl
 i51 := by kernel_rfl
 i53 := by kernel_rfl
 i171 := by kernel_rfl
 i173 := by kernel_rfl
 i212 := by kernel_rfl
 i232 := by kernel_rfl
 i233 := by kernel_rfl
 m17 := by kernel_rfl
 m18 := by kernel_rfl
 m19 := by kernel_rfl }
def Tryd.laysC172_ren : Go.Shelf.Ren := ⟨fun | 172 => 49 | 244 => 65 | 245 => 66 | 247 => 78 | 279 => 79 | 280 => 80 | 281 => 81 | 282 => 82 | 287 => 88 | 316 => 89 | 171 => 19 | 205 => 90 | 321 => 93 | 322 => 94 | 243 => 37 | 246 => 46 | 283 => 50 | 284 => 51 | 285 => 52 | 286 => 53 | 129 => 68 | 317 => 67 | 318 => 69 | 319 => 70 | 320 => 71 | 337 => 83 | 338 => 84 | n => n, fun | 9 => 9 | 3 => 3 | 75 => 51 | 76 => 52 | 4 => 4 | 5 => 5 | 167 => 111 | 37 => 45 | 0 => 0 | 85 => 112 | 2 => 2 | 168 => 114 | 53 => 83 | 175 => 119 | 46 => 90 | 210 => 123 | 127 => 71 | 145 => 136 | 143 => 134 | 21 => 21 | 171 => 82 | 173 => 86 | 212 => 100 | 51 => 101 | 20 => 20 | 213 => 102 | 232 => 125 | 233 => 126 | 80 => 58 | n => n, fun | 15 => 2 | 16 => 3 | 17 => 1 | 18 => 4 | 19 => 5 | n => n⟩
theorem Tryd.laysC172 : Go.Proofs.LaysC.n172 Tryd.prog Tryd.laysC172_ren := {
 mixed := by kernel_rfl
 f129 := Tryd.func68.trans (congrArg some (by kernel_rfl))
 f171 := Tryd.func19.trans (congrArg some (by kernel_rfl))
 f172 := Tryd.func49.trans (congrArg some (by kernel_rfl))
 f205 := Tryd.func90.trans (congrArg some (by kernel_rfl))
 f243 := Tryd.func37.trans (congrArg some (by kernel_rfl))
 f244 := Tryd.func65.trans (congrArg some (by kernel_rfl))
 f245 := Tryd.func66.trans (congrArg some (by kernel_rfl))
 f246 := Tryd.func46.trans (congrArg some (by kernel_rfl))
 f247 := Tryd.func78.trans (congrArg some (by kernel_rfl))
 f279 := Tryd.func79.trans (congrArg some (by kernel_rfl))
 f280 := Tryd.func80.trans (congrArg some (by kernel_rfl))
 f281 := Tryd.func81.trans (congrArg some (by kernel_rfl))
 f282 := Tryd.func82.trans (congrArg some (by kernel_rfl))
 f283 := Tryd.func50.trans (congrArg some (by kernel_rfl))
 f284 := Tryd.func51.trans (congrArg some (by kernel_rfl))
 f285 := Tryd.func52.trans (congrArg some (by kernel_rfl))
 f286 := Tryd.func53.trans (congrArg some (by kernel_rfl))
 f287 := Tryd.func88.trans (congrArg some (by kernel_rfl))
 f316 := Tryd.func89.trans (congrArg some (by kernel_rfl))
 f317 := Tryd.func67.trans (congrArg some (by kernel_rfl))
 f318 := Tryd.func69.trans (congrArg some (by kernel_rfl))
 f319 := Tryd.func70.trans (congrArg some (by kernel_rfl))
 f320 := Tryd.func71.trans (congrArg some (by kernel_rfl))
 f321 := Tryd.func93.trans (congrArg some (by kernel_rfl))
 f322 := Tryd.func94.trans (congrArg some (by kernel_rfl))
 f337 := Tryd.func83.trans (congrArg some (by kernel_rfl))
 f338 := Tryd.func84.trans (congrArg some (by kernel_rfl))
 t0 := Tryd.underlying0
 a0 := Tryd.isAgg0
 z0 := Tryd.sizeOf0
 v0 := Tryd.zeroValue0
 t2 := Tryd.underlying2
 a2 := Tryd.isAgg2
 z2 := Tryd.sizeOf2
 v2 := Tryd.zeroValue2
 t3 := Tryd.underlying3
 a3 := Tryd.isAgg3
 z3 := Tryd.sizeOf3
 v3 := Tryd.zeroValue3
 t4 := Tryd.underlying4
 a4 := Tryd.isAgg4
 z4 := Tryd.sizeOf4
 v4 := Tryd.zeroValue4
 t5 := Tryd.underlying5
 a5 := Tryd.isAgg5
 z5 := Tryd.sizeOf5
 v5 := Tryd.zeroValue5
 t9 := Tryd.underlying9
 a9 := Tryd.isAgg9
 z9 := Tryd.sizeOf9
 v9 := Tryd.zeroValue9
 t20 := Tryd.underlying20
 a20 := Tryd.isAgg20
 z20 := Tryd.sizeOf20
 v20 := Tryd.zeroValue20
 t21 := Tryd.underlying21
 a21 := Tryd.isAgg21
 z21 := Tryd.sizeOf21
 v21 := Tryd.zeroValue21
 t37 := Tryd.underlying45
 a37 := Tryd.isAgg45
 z37 := Tryd.sizeOf45
 v37 := Tryd.zeroValue45
 t46 := Tryd.underlying90
 a46 := Tryd.isAgg90
 z46 := Tryd.sizeOf90
 v46 := Tryd.zeroValue90
 t51 := Tryd.underlying101
 a51 := Tryd.isAgg101
 z51 := Tryd.sizeOf101
 v51 := Tryd.zeroValue101
 t53 := Tryd.underlying83
 a53 := Tryd.isAgg83
 z53 := Tryd.sizeOf83
 v53 := Tryd.zeroValue83
 t75 := Tryd.underlying51
 a75 := Tryd.isAgg51
 z75 := Tryd.sizeOf51
 v75 := Tryd.zeroValue51
 t76 := Tryd.underlying52
 a76 := Tryd.isAgg52
 z76 := Tryd.sizeOf52
 v76 := Tryd.zeroValue52
 t85 := Tryd.underlying112
 a85 := Tryd.isAgg112
 z85 := Tryd.sizeOf112
 v85 := Tryd.zeroValue112
 t127 := Tryd.underlying71
 a127 := Tryd.isAgg71
 z127 := Tryd.sizeOf71
 v127 := Tryd.zeroValue71
 t143 := Tryd.underlying134
 a143 := Tryd.isAgg134
 z143 := Tryd.sizeOf134
 v143 := Tryd.zeroValue134
 t145 := Tryd.underlying136
 a145 := Tryd.isAgg136
 z145 := Tryd.sizeOf136
 v145 := Tryd.zeroValue136
 t167 := Tryd.underlying111
 a167 := Tryd.isAgg111
 z167 := Tryd.sizeOf111
 v167 := Tryd.zeroValue111
 t168 := Tryd.underlying114
 a168 := Tryd.isAgg114
 z168 := Tryd.sizeOf114
 v168 := Tryd.zeroValue114
 t171 := Tryd.underlying82
 a171 := Tryd.isAgg82
 z171 := Tryd.sizeOf82
 v171 := Tryd.zeroValue82
 t173 := Tryd.underlying86
 a173 := Tryd.isAgg86
 z173 := Tryd.sizeOf86
 v173 := Tryd.zeroValue86
 t175 := Tryd.underlying119
 a175 := Tryd.isAgg119
 z175 := Tryd.sizeOf119
 v175 := Tryd.zeroValue119
 t210 := Tryd.underlying123
 a210 := Tryd.isAgg123
 z210 := Tryd.sizeOf123
 v210 := Tryd.zeroValue123
 t212 := Tryd.underlying100
 a212 := Tryd.isAgg100
 z212 := Tryd.sizeOf100
 v212 := Tryd.zeroValue100
 t213 := Tryd.underlying102
 a213 := Tryd.isAgg102
 z213 := Tryd.sizeOf102
 t232 := Tryd.underlying125
 a232 := Tryd.isAgg125
 z232 := Tryd.sizeOf125
 v232 := Tryd.zeroValue125
 t233 := Tryd.underlying126
 a233 := Tryd.isAgg126
 z233 := Tryd.sizeOf126
 v233 := Tryd.zeroValue126
 g15 := by kernel_rfl
 g16 := by kernel_rfl
 g17 := by kernel_rfl
 g18 := by kernel_rfl
 g19 := by kernel_rfl
 t80 := Tryd.underlying58
 a80 := Tryd.isAgg58
 z80 := Tryd.sizeOf58
 v80 := Tryd.zeroValue58
 i0 := by kernel_rfl
 i2 := by kernel_rfl
 i3 := by kernel_rfl
 i4 := by kernel_rfl
 i5 := by kernel_rfl
 i9 := by kernel_rfl
 i20 := by kernel_rfl
 i21 := by kernel_rfl
 i37 := by kernel_rfl
 i46 := by kernel_rfl
 i51 := by kernel_rfl
 i53 := by kernel_rfl
 i75 := by kernel_rfl
 i76 := by kernel_rfl
 i80 := by kernel_rfl
 i85 := by kernel_rfl
 i127 := by kernel_rfl
 i143 := by kernel_rfl
 i145 := by kernel_rfl
 i167 := by kernel_rfl
 i168 := by kernel_rfl
 i171 := by kernel_rfl
 i173 := by kernel_rfl
 i175 := by kernel_rfl
 i210 := by kernel_rfl
 i212 := by kernel_rfl
 i232 := by kernel_rfl
 i233 := by kernel_rfl
 m15 := by kernel_rfl
 m16 := by kernel_rfl
 m17 := by kernel_rfl
 m18 := by kernel_rfl
 m19 := by kernel_rfl
 c0 := by kernel_rfl
 c2 := by kernel_rfl
 c3 := by kernel_rfl
 c4 := by kernel_rfl
 c5 := by kernel_rfl
 c9 := by kernel_rfl
 c20 := by kernel_rfl
 c21 := by kernel_rfl
 c37 := by kernel_rfl
 c46 := by kernel_rfl
 c51 := by kernel_rfl
 c53 := by kernel_rfl
 c75 := by kernel_rfl
 c76 := by kernel_rfl
 c80 := by kernel_rfl
 c85 := by kernel_rfl
 c127 := by kernel_rfl
 c143 := by kernel_rfl
 c145 := by kernel_rfl
 c167 := by kernel_rfl
 c168 := by kernel_rfl
 c171 := by kernel_rfl
 c173 := by kernel_rfl
 c175 := by kernel_rfl
 c210 := by kernel_rfl
 c212 := by kernel_rfl
 c213 := by kernel_rfl
 c232 := by kernel_rfl
 c233 := by kernel_rfl }
def Tryd.lays145_ren : Go.Shelf.Ren := ⟨fun | 145 => 26 | 220 => 39 | 219 => 47 | 217 => 54 | 225 => 55 | 224 => 56 | 267 => 57 | 266 => 72 | 314 => 73 | n => n, fun | 9 => 9 | 4 => 4 | 59 => 61 | 3 => 3 | 5 => 5 | 46 => 90 | 146 => 105 | 51 => 101 | n => n, fun | 1 => 0 | n => n⟩
theorem Tryd.lays145 : Go.Proofs.Lays.n145 Tryd.prog Tryd.lays145_ren := {
 mixed := by kernel_rfl
 f145 := Tryd.func26.trans (congrArg some (by kernel_rfl))
 f217 := Tryd.func54.trans (congrArg some (by kernel_rfl))
 f219 := Tryd.func47.trans (congrArg some (by kernel_rfl))
 f220 := Tryd.func39.trans (congrArg some (by kernel_rfl))
 f224 := Tryd.func56.trans (congrArg some (by kernel_rfl))
 f225 := Tryd.func55.trans (congrArg some (by kernel_rfl))
 f266 := Tryd.func72.trans (congrArg some (by kernel_rfl))
 f267 := Tryd.func57.trans (congrArg some (by kernel_rfl))
 f314 := Tryd.func73.trans (congrArg some (by kernel_rfl))
 t3 := Tryd.underlying3
 a3 := Tryd.isAgg3
 z3 := Tryd.sizeOf3
 v3 := Tryd.zeroValue3
 t4 := Tryd.underlying4
 a4 := Tryd.isAgg4
 z4 := Tryd.sizeOf4
 v4 := Tryd.zeroValue4
 t5 := Tryd.underlying5
 a5 := Tryd.isAgg5
 z5 := Tryd.sizeOf5
 v5 := Tryd.zeroValue5
 t9 := Tryd.underlying9
 a9 := Tryd.isAgg9
 z9 := Tryd.sizeOf9
 v9 := Tryd.zeroValue9
 t46 := Tryd.underlying90
 a46 := Tryd.isAgg90
 z46 := Tryd.sizeOf90
 v46 := Tryd.zeroValue90
 t51 := Tryd.underlying101
 a51 := Tryd.isAgg101
 z51 := Tryd.sizeOf101
 v51 := Tryd.zeroValue101
 t59 := Tryd.underlying61
 a59 := Tryd.isAgg61
 z59 := Tryd.sizeOf61
 v59 := Tryd.zeroValue61
 t146 := Tryd.underlying105
 a146 := Tryd.isAgg105
 z146 := Tryd.sizeOf105
 v146 := Tryd.zeroValue105
 g1 := by kernel_rfl }
def Tryd.lays160_ren : Go.Shelf.Ren := ⟨fun | 160 => 48 | 232 => 59 | 231 => 58 | 227 => 60 | 234 => 62 | 233 => 61 | 236 => 64 | 235 => 63 | 228 => 74 | 271 => 77 | 151 => 76 | 197 => 75 | 120 => 87 | 152 => 86 | 260 => 85 | 137 => 91 | 119 => 92 | 224 => 56 | 225 => 55 | 217 => 54 | 266 => 72 | n => n, fun | 9 => 9 | 4 => 4 | 3 => 3 | 5 => 5 | 117 => 94 | 116 => 93 | 0 => 0 | 124 => 97 | 21 => 21 | 105 => 108 | 46 => 90 | 119 => 127 | 139 => 130 | 138 => 129 | n => n, fun | 3 => 6 | 4 => 7 | n => n⟩
theorem Tryd.lays160 : Go.Proofs.Lays.n160 Tryd.prog Tryd.lays160_ren := {
 mixed := by kernel_rfl
 f119 := Tryd.func92.trans (congrArg some (by kernel_rfl))
 f120 := Tryd.func87.trans (congrArg some (by kernel_rfl))
 f137 := Tryd.func91.trans (congrArg some (by kernel_rfl))
 f151 := Tryd.func76.trans (congrArg some (by kernel_rfl))
 f152 := Tryd.func86.trans (congrArg some (by kernel_rfl))
 f160 := Tryd.func48.trans (congrArg some (by kernel_rfl))
 f197 := Tryd.func75.trans (congrArg some (by kernel_rfl))
 f217 := Tryd.func54.trans (congrArg some (by kernel_rfl))
 f224 := Tryd.func56.trans (congrArg some (by kernel_rfl))
 f225 := Tryd.func55.trans (congrArg some (by kernel_rfl))
 f227 := Tryd.func60.trans (congrArg some (by kernel_rfl))
 f228 := Tryd.func74.trans (congrArg some (by kernel_rfl))
 f231 := Tryd.func58.trans (congrArg some (by kernel_rfl))
 f232 := Tryd.func59.trans (congrArg some (by kernel_rfl))
 f233 := Tryd.func61.trans (congrArg some (by kernel_rfl))
 f234 := Tryd.func62.trans (congrArg some (by kernel_rfl))
 f235 := Tryd.func63.trans (congrArg some (by kernel_rfl))
 f236 := Tryd.func64.trans (congrArg some (by kernel_rfl))
 f260 := Tryd.func85.trans (congrArg some (by kernel_rfl))
 f266 := Tryd.func72.trans (congrArg some (by kernel_rfl))
 f271 := Tryd.func77.trans (congrArg some (by kernel_rfl))
 t0 := Tryd.underlying0
 a0 := Tryd.isAgg0
 z0 := Tryd.sizeOf0
 v0 := Tryd.zeroValue0
 t3 := Tryd.underlying3
 a3 := Tryd.isAgg3
 z3 := Tryd.sizeOf3
 v3 := Tryd.zeroValue3
 t4 := Tryd.underlying4
 a4 := Tryd.isAgg4
 z4 := Tryd.sizeOf4
 v4 := Tryd.zeroValue4
 t5 := Tryd.underlying5
 a5 := Tryd.isAgg5
 z5 := Tryd.sizeOf5
 v5 := Tryd.zeroValue5
 t9 := Tryd.underlying9
 a9 := Tryd.isAgg9
 z9 := Tryd.sizeOf9
 v9 := Tryd.zeroValue9
 t21 := Tryd.underlying21
 a21 := Tryd.isAgg21
 z21 := Tryd.sizeOf21
 v21 := Tryd.zeroValue21
 t46 := Tryd.underlying90
 a46 := Tryd.isAgg90
 z46 := Tryd.sizeOf90
 v46 := Tryd.zeroValue90
 t105 := Tryd.underlying108
 a105 := Tryd.isAgg108
 z105 := Tryd.sizeOf108
 v105 := Tryd.zeroValue108
 t116 := Tryd.underlying93
 a116 := Tryd.isAgg93
 z116 := Tryd.sizeOf93
 t117 := Tryd.underlying94
 a117 := Tryd.isAgg94
 z117 := Tryd.sizeOf94
 v117 := Tryd.zeroValue94
 t119 := Tryd.underlying127
 a119 := Tryd.isAgg127
 z119 := Tryd.sizeOf127
 t124 := Tryd.underlying97
 a124 := Tryd.isAgg97
 z124 := Tryd.sizeOf97
 v124 := Tryd.zeroValue97
 t138 := Tryd.underlying129
 a138 := Tryd.isAgg129
 z138 := Tryd.sizeOf129
 v138 := Tryd.zeroValue129
 t139 := Tryd.underlying130
 a139 := Tryd.isAgg130
 z139 := Tryd.sizeOf130
 v139 := Tryd.zeroValue130
 g3 := by kernel_rfl
 g4 := by kernel_rfl }
def Tryd.lays169_ren : Go.Shelf.Ren := ⟨fun | 169 => 21 | n => n, fun | 70 => 44 | 9 => 9 | 0 => 0 | 72 => 47 | 37 => 45 | 127 => 71 | 3 => 3 | 5 => 5 | n => n, fun | n => n⟩
theorem Tryd.lays169 : Go.Proofs.Lays.n169 Tryd.prog Tryd.lays169_ren := {
 mixed := by kernel_rfl
 f169 := Tryd.func21.trans (congrArg some (by kernel_rfl))
 t0 := Tryd.underlying0
 a0 := Tryd.isAgg0
 z0 := Tryd.sizeOf0
 v0 := Tryd.zeroValue0
 t3 := Tryd.underlying3
 a3 := Tryd.isAgg3
 z3 := Tryd.sizeOf3
 v3 := Tryd.zeroValue3
 t9 := Tryd.underlying9
 a9 := Tryd.isAgg9
 z9 := Tryd.sizeOf9
 v9 := Tryd.zeroValue9
 t37 := Tryd.underlying45
 a37 := Tryd.isAgg45
 z37 := Tryd.sizeOf45
 v37 := Tryd.zeroValue45
 t70 := Tryd.underlying44
 a70 := Tryd.isAgg44
 z70 := Tryd.sizeOf44
 v70 := Tryd.zeroValue44
 t72 := Tryd.underlying47
 a72 := Tryd.isAgg47
 z72 := Tryd.sizeOf47
 v72 := Tryd.zeroValue47
 t127 := Tryd.underlying71
 a127 := Tryd.isAgg71
 z127 := Tryd.sizeOf71
 v127 := Tryd.zeroValue71 }
theorem Tryd.Builder_Extra_169 : Builder.Extra Tryd.prog Tryd.lays169_ren := {
 sizeBuilder := by kernel_rfl
 liesBuilder := by kernel_rfl
 t5 := Tryd.underlying5
 a5 := Tryd.isAgg5
 z5 := Tryd.sizeOf5
 v5 := Tryd.zeroValue5
 infoByte := by kernel_rfl
 cellsByte := by kernel_rfl
 sizeByte := by kernel_rfl
 neB5 := by decide }
end Go.Proofs
namespace Go.Proofs.YteolfhljhnplpaaDoor
open Go.RowKit Go.Shelf Go.Lib
theorem ok_of2 {f : FuncId} {ws : List V} {r : V} (he : ∀ xs w, (callFunc f xs).run En.P w = .ok (.enter f xs) w)
  (h : ∀ (c : Cx) us, Gl En c → rdT ro0 c ws us → wfL ws → Calls En.P f us.toArray c.w fun e w' => ∃ v, e = .returned v ∧ ∃ hb : Below c.w.heap.size c.w w', rd ro0 (c.at w' hb.size) r v) : CallOk En f ws r [] :=
 ⟨he, fun c us _ hg hus => (h c us hg hus (rdT_wf hus)).mono fun e w' ⟨v, e1, hb, hr⟩ => ⟨v, c.at w' hb.size, ro0, e1, rfl, Cx.le_at hb, hr, ⟨fun i b hb => by simp at hb, fun i _ => rfl, fun i j bi bj k _ hb => by simp at hb⟩⟩⟩
def strconv_Itoa (n : Int) : List UInt8 := Lib.itoa n
theorem pow_tab {c : Cx} (hg : Gl En c) : Lib.TabIs En.P c.w "internal/strconv.uint64pow10" .u64 Lib.pow10Tab := by
 obtain ⟨_, h⟩ := hg 1 _ rfl
 simp only [rd] at h
 exact h.1.2.2.2.2
theorem Itoa_call (x_ : Int) : CallOk En 19 [.int .i64 x_] (.str (strconv_Itoa x_)) [] := by
 refine ok_of2 (show ∀ xs w, (callFunc 19 xs).run En.P w = .ok (.enter 19 xs) w from enters_of Tryd.func19 (by kernel_rfl) rfl) fun c us hg hus hw => ?_
 simp only [rdT, rd] at hus
 obtain ⟨u0, c2, rfl, ⟨rfl, l0⟩, rfl⟩ := hus
 have h0 : -9223372036854775808 ≤ x_ ∧ x_ ≤ 9223372036854775807 := l0
 refine (show Calls En.P 19 #[.int .i64 x_] c.w _ from Any.strconv_Itoa Tryd.laysM171 x_ h0.1 h0.2 c.w (pow_tab hg)).mono ?_
 rintro e w' ⟨rfl, k, os, rfl⟩
 have hl := Lib.itoa_length_le x_ h0.1 h0.2
 refine ⟨_, rfl, Lib.below_grow _ _ (Nat.le_refl _) k os, ?_⟩
 simp only [rd]
 exact ⟨rfl, by unfold strconv_Itoa LEN; omega⟩
instance strconv_Itoa_ok (x_ : Int) : CM En (strconv_Itoa x_) 19 [.int .i64 x_] (fun y => .str y) (fun _ => []) := ⟨Itoa_call x_⟩
theorem maxLenV {c : Cx} (hg : Gl En c) : ∃ m, c.w.cell? ⟨0, 0, none⟩ = some (.int .i64 m) := by
 obtain ⟨_, h⟩ := hg 0 _ rfl
 simp only [rd] at h
 obtain ⟨b, o, cs, e, _, _, h3, h4, h5⟩ := h
 cases e
 unfold shapeOk at h4
 match cs, h4, h3, h5 with
 | [u], _, h3, h5 =>
  obtain ⟨⟨m, e⟩, _⟩ := h5
  refine ⟨m, ?_⟩
  have := h3 0 u rfl
  rw [this]
  simpa [mkV] using e
def strconv_Atoi (s : List UInt8) : Int × Bool := match Lib.atoiAll s with
 | .ok v => (v, true)
 | .range => (Lib.atoiSat s, false)
 | _ => (0, false)
theorem err_var {c : Cx} (hg : Gl En c) : (∃ t p, c.w.var? En.P "strconv.ErrSyntax" = some #[.iface t p]) ∧ ∃ t p, c.w.var? En.P "strconv.ErrRange" = some #[.iface t p] := by
 obtain ⟨_, h⟩ := hg 2 _ rfl
 obtain ⟨_, h2⟩ := hg 3 _ rfl
 simp only [rd] at h h2
 exact ⟨h.1.2.2.2.2, h2.1.2.2.2.2⟩
theorem atoi_rng {s : List UInt8} {v : Int} (h : Lib.atoiAll s = .ok v) : -9223372036854775808 ≤ v ∧ v ≤ 9223372036854775807 := by
 unfold Lib.atoiAll at h
 split at h
 ·cases h
 ·simp only at h
  split at h
  ·cases h
  ·cases h
  ·split at h
   ·cases h
   ·split at h
    ·cases h
    ·injection h with h
     split at h <;> omega
theorem Atoi_call (s : List UInt8) : CallOk En 49 [.str s] (.tup [.int .i64 (strconv_Atoi s).1, .ifc (strconv_Atoi s).2]) [] := by
 refine ok_of2 (show ∀ xs w, (callFunc 49 xs).run En.P w = .ok (.enter 49 xs) w from enters_of Tryd.func49 (by kernel_rfl) rfl) fun c us hg hus hw => ?_
 simp only [rdT, rd] at hus
 obtain ⟨u0, c2, rfl, ⟨rfl, l0⟩, rfl⟩ := hus
 have hsz : (⟨s.toArray⟩ : ByteArray).size = s.length := by show s.toArray.size = _; simp
 have hd : (⟨s.toArray⟩ : ByteArray).data.toList = s := by simp
 obtain ⟨⟨t1, p1, hv1⟩, t2, p2, hv2⟩ := err_var hg
 unfold LEN at l0
 unfold strconv_Atoi
 cases h : Lib.atoiAll s with
 | ok v =>
  refine (show Calls En.P 49 #[.string ⟨s.toArray⟩] c.w _ from Any.strconv_Atoi_ok Tryd.laysC172 ⟨s.toArray⟩ (by omega) v (by rw [hd]; exact h) c.w).mono ?_
  rintro e w' ⟨rfl, hw'⟩
  have hB : Below c.w.heap.size c.w w' := by
   rcases hw' with rfl | ⟨t, rfl⟩
   ·exact Below.refl _ _
   ·exact Lib.bytesWorld_below _ _ _
  refine ⟨_, rfl, hB, ?_⟩
  simp only [rd, rdT]
  exact ⟨_, rfl, _, _, rfl, ⟨rfl, atoi_rng h⟩, _, _, rfl, ifcOk_nil, rfl⟩
 | range =>
  refine (show Calls En.P 49 #[.string ⟨s.toArray⟩] c.w _ from Any.strconv_Atoi_range_var Tryd.laysC172 ⟨s.toArray⟩ (by omega) (by rw [hd]; exact h) t2 p2 c.w hv2).mono ?_
  rintro e w' ⟨N, rfl, _, _, hB⟩
  refine ⟨_, rfl, hB, ?_⟩
  simp only [rd, rdT]
  exact ⟨_, rfl, _, _, rfl, ⟨rfl, by rw [rng_i64]; unfold Lib.atoiSat; split <;> decide⟩, _, _, rfl, by unfold ifcOk; rw [if_neg (by decide)]; exact ⟨_, _, rfl⟩, rfl⟩
 | _ =>
  refine (show Calls En.P 49 #[.string ⟨s.toArray⟩] c.w _ from Any.strconv_Atoi_syntax_var Tryd.laysC172 ⟨s.toArray⟩ (by omega) (by rw [hd]; exact h) t1 p1 c.w hv1).mono ?_
  rintro e w' ⟨N, rfl, _, _, hB⟩
  refine ⟨_, rfl, hB, ?_⟩
  simp only [rd, rdT]
  exact ⟨_, rfl, _, _, rfl, ⟨rfl, by rw [rng_i64]; decide⟩, _, _, rfl, by unfold ifcOk; rw [if_neg (by decide)]; exact ⟨_, _, rfl⟩, rfl⟩
instance strconv_Atoi_ok (s : List UInt8) : CM En (strconv_Atoi s) 49 [.str s] (fun y => .tup [.int .i64 y.1, .ifc y.2]) (fun _ => []) := ⟨Atoi_call s⟩
def strings_Cut (s sep : List UInt8) : List UInt8 × List UInt8 × Bool := Lib.cut s sep
theorem cut_len (s sep : List UInt8) : (Lib.cut s sep).1.length ≤ s.length ∧ (Lib.cut s sep).2.1.length ≤ s.length := by
 unfold Lib.cut
 split
 ·simp only [List.length_take, List.length_drop]; omega
 ·simp
theorem Cut_call (s sep : List UInt8) : CallOk En 26 [.str s, .str sep] (.tup [.str (strings_Cut s sep).1, .str (strings_Cut s sep).2.1, .bool (strings_Cut s sep).2.2]) [] := by
 refine ok_of2 (show ∀ xs w, (callFunc 26 xs).run En.P w = .ok (.enter 26 xs) w from enters_of Tryd.func26 (by kernel_rfl) rfl) fun c us hg hus hw => ?_
 simp only [rdT, rd] at hus
 obtain ⟨u0, c2, rfl, ⟨rfl, l0⟩, u1, c3, rfl, ⟨rfl, l1⟩, rfl⟩ := hus
 obtain ⟨m, hm⟩ := maxLenV hg
 have hL : (⟨s.toArray⟩ : ByteArray).size < 4294967281 := by
  show s.toArray.size < _
  simp; unfold LEN at l0; omega
 refine (show Calls En.P 26 #[.string ⟨s.toArray⟩, .string ⟨sep.toArray⟩] c.w _ from Any.strings_Cut Tryd.lays145 ⟨s.toArray⟩ ⟨sep.toArray⟩ m c.w hL hm).mono ?_
 rintro e w' ⟨rfl, n, rfl⟩
 have hB : Below c.w.heap.size c.w (c.w.drewN n) := ⟨rfl, rfl, rfl, Nat.le_refl _, fun _ _ => rfl⟩
 refine ⟨_, rfl, hB, ?_⟩
 simp only [rd, rdT]
 have hl := cut_len s sep
 exact ⟨_, rfl, _, _, rfl, ⟨rfl, by unfold strings_Cut; omega⟩, _, _, rfl, ⟨rfl, by unfold strings_Cut; omega⟩, _, _, rfl, rfl, rfl⟩
instance strings_Cut_ok (s sep : List UInt8) : CM En (strings_Cut s sep) 26 [.str s, .str sep] (fun y => .tup [.str y.1, .str y.2.1, .bool y.2.2]) (fun _ => []) := ⟨Cut_call s sep⟩
def digs : List UInt8 := [48, 49, 50, 51, 52, 53, 54, 55, 56, 57]
def strings_Trim (s cs : List UInt8) : List UInt8 := Lib.trimS s cs
theorem trim_len (s cs : List UInt8) : (Lib.trimS s cs).length ≤ s.length := by
 unfold Lib.trimS Lib.trimLeftS Lib.trimRightS
 refine Nat.le_trans (List.Sublist.length_le (List.dropWhile_sublist _)) ?_
 rw [List.length_reverse]
 refine Nat.le_trans (List.Sublist.length_le (List.dropWhile_sublist _)) ?_
 rw [List.length_reverse]; exact Nat.le_refl _
theorem Trim_call (s : List UInt8) : CallOk En 48 [.str s, .str digs] (.str (strings_Trim s digs)) [] := by
 refine ok_of2 (show ∀ xs w, (callFunc 48 xs).run En.P w = .ok (.enter 48 xs) w from enters_of Tryd.func48 (by kernel_rfl) rfl) fun c us hg hus hw => ?_
 simp only [rdT, rd] at hus
 obtain ⟨u0, c2, rfl, ⟨rfl, l0⟩, u1, c3, rfl, ⟨rfl, l1⟩, rfl⟩ := hus
 have hsz : (⟨s.toArray⟩ : ByteArray).size = s.length := by show s.toArray.size = _; simp
 unfold LEN at l0
 refine (show Calls En.P 48 #[.string ⟨s.toArray⟩, .string ⟨digs.toArray⟩] c.w _ from Any.strings_Trim_laid Tryd.lays160 (by kernel_rfl) ⟨s.toArray⟩ ⟨digs.toArray⟩ c.w (by omega) (by decide) (ascii_of_all (by decide))).mono ?_
 rintro e w' ⟨rfl, hB⟩
 refine ⟨_, rfl, hB, ?_⟩
 simp only [rd]
 have := trim_len s digs
 exact ⟨rfl, by unfold strings_Trim LEN; omega⟩
theorem strings_Trim_ok (s cs : List UInt8) (hp0 : cs = digs) : CM En (strings_Trim s cs) 48 [.str s, .str cs] (fun y => .str y) (fun _ => []) := by
 subst hp0
 exact ⟨Trim_call s⟩
end Go.Proofs.YteolfhljhnplpaaDoor
namespace Go.Proofs.YteolfhljhnplpaaDoor
open Go.RowKit
def policy_names  : (List (List UInt8)) :=
 ([[97, 109, 111, 117, 110, 116], [99, 111, 105, 110, 115], [104, 111, 112, 115], [111, 112, 101, 110], [104, 111, 117, 114, 115]] : List (List UInt8))
def policy_within (x_ : Int) (low : Int) (high : Int) : Bool :=
 (if (decide (x_ ≥ low)) then (decide (x_ ≤ high)) else false)
def policy_valid (r_ : S_api_Rule) : Bool :=
 (letj (fun (p1 : Bool) => (if p1 then (letk (policy_within (r_.A) 0 1099511627776) (fun (x3 : Bool) => (if x3 then (r_.B == 0) else false))) else (if (r_.Kind == 2) then (letk (policy_within (r_.A) 0 1000) (fun (x8 : Bool) => (if x8 then (r_.B == 0) else false))) else (if (r_.Kind == 3) then (letk (policy_within (r_.A) 0 8) (fun (x13 : Bool) => (if x13 then (r_.B == 0) else false))) else (if (r_.Kind == 5) then (letk (policy_within (r_.A) 0 23) (fun (x18 : Bool) => (if x18 then (letk (policy_within (r_.B) 0 23) (fun (x22 : Bool) => (if x22 then (r_.A != r_.B) else false))) else false))) else false))))) (fun j1 => (if (r_.Kind == 1) then (j1 true) else (j1 (r_.Kind == 4)))))
def policy_Valid_1 (r_ : S_api_Rule) : Bool :=
 (letk (policy_valid r_) (fun (x1 : Bool) => (!x1)))
def slices_IndexFunc_api_Rule_api_Rule_at_policy_Valid_1 (s : (List S_api_Rule)) : Int :=
 (iter (((s.length : Int) - 0).toNat + 1) (fun (ag1 : Int → Int) (p1 : Int) => (if (decide (p1 < (s.length : Int))) then (letk (policy_Valid_1 (gt s p1)) (fun (x4 : Bool) => (if x4 then p1 else (ag1 (p1 + 1))))) else (-1))) (fun _ => default) 0)
def slices_ContainsFunc_api_Rule_api_Rule_at_policy_Valid_1 (s : (List S_api_Rule)) : Bool :=
 (letk (slices_IndexFunc_api_Rule_api_Rule_at_policy_Valid_1 s) (fun (x1 : Int) => (decide (x1 ≥ 0))))
def policy_Valid (p_ : S_api_Policy) : Bool :=
 (if (decide ((p_.Rules.length : Int) ≤ 20)) then (letk (slices_ContainsFunc_api_Rule_api_Rule_at_policy_Valid_1 (p_.Rules)) (fun (x2 : Bool) => (!x2))) else false)
def policy_number (s : (List UInt8)) : (Int × Bool) :=
 (if (s == []) then (0, false) else (if (decide ((s.length : Int) > 15)) then (0, false) else (if (decide ((s.length : Int) > 1)) then (if (((s.getD 0 0).toNat : Int) == 48) then (0, false) else (letk (strings_Trim s ([48, 49, 50, 51, 52, 53, 54, 55, 56, 57])) (fun (x5 : (List UInt8)) => (if (!(x5 == [])) then (0, false) else (letk (strconv_Atoi s) (fun (x9 : (Int × Bool)) => (x9.1, x9.2))))))) else (letk (strings_Trim s ([48, 49, 50, 51, 52, 53, 54, 55, 56, 57])) (fun (x12 : (List UInt8)) => (if (!(x12 == [])) then (0, false) else (letk (strconv_Atoi s) (fun (x16 : (Int × Bool)) => (x16.1, x16.2)))))))))
def slices_Index_string_string (s : (List (List UInt8))) (v : (List UInt8)) : Int :=
 (iter (((s.length : Int) - 0).toNat + 1) (fun (ag1 : Int → Int) (p1 : Int) => (if (decide (p1 < (s.length : Int))) then (if (v == (gt s p1)) then p1 else (ag1 (p1 + 1))) else (-1))) (fun _ => default) 0)
def policy_rule (line : (List UInt8)) : (S_api_Rule × Bool) :=
 (letk (strings_Cut line ([32])) (fun (x1 : ((List UInt8) × (List UInt8) × Bool)) => (letk (policy_names) (fun (x4 : (List (List UInt8))) => (letk (slices_Index_string_string x4 (x1.1)) (fun (x7 : Int) => (if (!x1.2.2) then (z_api_Rule, false) else (if ((addI .i64 x7 1) == 0) then (z_api_Rule, false) else (if ((addI .i64 x7 1) == 5) then (letk (strings_Cut (x1.2.1) ([32])) (fun (x13 : ((List UInt8) × (List UInt8) × Bool)) => (if (!x13.2.2) then (z_api_Rule, false) else (letk (policy_number (x13.2.1)) (fun (x17 : (Int × Bool)) => (if (!x17.2) then (z_api_Rule, false) else (letk (policy_number (x13.1)) (fun (x21 : (Int × Bool)) => (({ Kind := (addI .i64 x7 1), A := x21.1, B := x17.1 } : S_api_Rule), x21.2))))))))) else (letk (policy_number (x1.2.1)) (fun (x24 : (Int × Bool)) => (({ Kind := (addI .i64 x7 1), A := x24.1, B := 0 } : S_api_Rule), x24.2))))))))))))
def policy_Parse (s : (List UInt8)) : (S_api_Policy × Int) :=
 (if (decide ((s.length : Int) > 16384)) then (z_api_Policy, 5) else (iter (s.length + 1) (fun (ag2 : (List UInt8 × S_api_Policy × List S_api_Rule) → (S_api_Policy × Int)) (p2 : List UInt8 × S_api_Policy × List S_api_Rule) => (if (!(p2.1 == [])) then (letk (strings_Cut (p2.1) ([10])) (fun (x4 : ((List UInt8) × (List UInt8) × Bool)) => (letk (policy_rule (x4.1)) (fun (x7 : (S_api_Rule × Bool)) => (if (!x4.2.2) then (z_api_Policy, 3) else (if (!x7.2) then (z_api_Policy, 3) else (ag2 (x4.2.1, p2.2.1, (p2.2.2 ++ ([x7.1] : List S_api_Rule)))))))))) else (if (decide ((p2.2.2.length : Int) > 20)) then (z_api_Policy, 5) else (letk (policy_Valid ({ Rules := p2.2.2 } : S_api_Policy)) (fun (x13 : Bool) => (if (!x13) then (z_api_Policy, 2) else (({ Rules := p2.2.2 } : S_api_Policy), 0))))))) (fun _ => default) (s, z_api_Policy, ([] : List S_api_Rule))))
def policy_accepts (r_ : S_api_Rule) (amount : Int) (number : Int) (transfers : Int) (hour : Int) (sum : Int) : Bool :=
 (if (r_.Kind == 1) then (decide (amount ≤ r_.A)) else (if (r_.Kind == 2) then (decide (number ≤ r_.A)) else (if (r_.Kind == 3) then (decide (transfers ≤ r_.A)) else (if (r_.Kind == 4) then (decide ((addI .i64 sum amount) ≤ r_.A)) else (if (decide (r_.A < r_.B)) then (if (decide (r_.A ≤ hour)) then (decide (hour < r_.B)) else false) else (if (decide (hour ≥ r_.A)) then true else (decide (hour < r_.B))))))))
def policy_Accepts_1 (r_ : S_api_Rule) (c0 : Int) (c1 : Int) (c2 : Int) (c3 : Int) (c4 : Int) : Bool :=
 (letk (policy_accepts r_ c0 c1 c2 c3 c4) (fun (x1 : Bool) => (!x1)))
def slices_IndexFunc_api_Rule_api_Rule_at_policy_Accepts_1 (s : (List S_api_Rule)) (f__c0 : Int) (f__c1 : Int) (f__c2 : Int) (f__c3 : Int) (f__c4 : Int) : Int :=
 (iter (((s.length : Int) - 0).toNat + 1) (fun (ag1 : Int → Int) (p1 : Int) => (if (decide (p1 < (s.length : Int))) then (letk (policy_Accepts_1 (gt s p1) f__c0 f__c1 f__c2 f__c3 f__c4) (fun (x4 : Bool) => (if x4 then p1 else (ag1 (p1 + 1))))) else (-1))) (fun _ => default) 0)
def policy_Accepts (p_ : S_api_Policy) (amount : Int) (number : Int) (transfers : Int) (hour : Int) (sum : Int) : (Bool × Int) :=
 (letk (policy_Valid p_) (fun (x1 : Bool) => (if (!x1) then (false, (-1)) else (letk (policy_within amount 0 1099511627776) (fun (x5 : Bool) => (if (!x5) then (false, (-1)) else (letk (policy_within sum 0 1099511627776) (fun (x9 : Bool) => (if (!x9) then (false, (-1)) else (letk (policy_within number 0 1000) (fun (x13 : Bool) => (if (!x13) then (false, (-1)) else (letk (policy_within transfers 0 8) (fun (x17 : Bool) => (if (!x17) then (false, (-1)) else (letk (policy_within hour 0 23) (fun (x21 : Bool) => (if (!x21) then (false, (-1)) else (letk (slices_IndexFunc_api_Rule_api_Rule_at_policy_Accepts_1 (p_.Rules) amount number transfers hour sum) (fun (x25 : Int) => ((decide (x25 < 0)), x25)))))))))))))))))))))
def policy_Limit (p_ : S_api_Policy) (hour : Int) (sum : Int) : (Int × Int) :=
 (letk (policy_Valid p_) (fun (x1 : Bool) => (if (!x1) then (0, 1) else (letk (policy_within hour 0 23) (fun (x5 : Bool) => (if (!x5) then (0, 2) else (letk (policy_within sum 0 1099511627776) (fun (x9 : Bool) => (if (!x9) then (0, 2) else (letk (policy_Accepts p_ 0 0 0 hour sum) (fun (x13 : (Bool × Int)) => (if (!x13.1) then (0, 16) else (iter (((p_.Rules.length : Int) - 0).toNat + 1) (fun (ag17 : (Int × Int) → (Int × Int)) (p17 : Int × Int) => (if (decide (p17.2 < (p_.Rules.length : Int))) then (if ((gt p_.Rules p17.2).Kind == 1) then (ag17 ((minI p17.1 (gt p_.Rules p17.2).A), (p17.2 + 1))) else (if ((gt p_.Rules p17.2).Kind == 4) then (ag17 ((minI p17.1 (subI .i64 (gt p_.Rules p17.2).A sum)), (p17.2 + 1))) else (ag17 (p17.1, (p17.2 + 1))))) else (p17.1, 0))) (fun _ => default) (1099511627776, 0))))))))))))))
def specielaw46_awake  : Bool :=
 (letk (policy_Parse ([97, 109, 111, 117, 110, 116, 32, 53, 48, 10, 111, 112, 101, 110, 32, 53, 48, 48, 10, 104, 111, 117, 114, 115, 32, 50, 48, 32, 54, 10])) (fun (x1 : (S_api_Policy × Int)) => (letk (policy_Accepts (x1.1) 50 1 0 5 450) (fun (x4 : (Bool × Int)) => (letk (policy_Accepts (x1.1) 50 1 0 6 450) (fun (x7 : (Bool × Int)) => (letk (policy_Accepts (x1.1) 50 1 0 5 451) (fun (x10 : (Bool × Int)) => (letk (policy_Limit (x1.1) 21 480) (fun (x13 : (Int × Int)) => (if (x1.2 == 0) then (if x4.1 then (if (x4.2 == (-1)) then (if (!x7.1) then (if (x7.2 == 2) then (if (!x10.1) then (if (x10.2 == 1) then (if (x13.2 == 0) then (x13.1 == 20) else false) else false) else false) else false) else false) else false) else false) else false)))))))))))
def specielaw46_great_1 (p_ : S_api_Policy) : Bool :=
 (decide ((p_.Rules.length : Int) > 100))
def slices_IndexFunc_api_Policy_api_Policy_at_specielaw46_great_1 (s : (List S_api_Policy)) : Int :=
 (iter (((s.length : Int) - 0).toNat + 1) (fun (ag1 : Int → Int) (p1 : Int) => (if (decide (p1 < (s.length : Int))) then (letk (specielaw46_great_1 (gt s p1)) (fun (x4 : Bool) => (if x4 then p1 else (ag1 (p1 + 1))))) else (-1))) (fun _ => default) 0)
def slices_ContainsFunc_api_Policy_api_Policy_at_specielaw46_great_1 (s : (List S_api_Policy)) : Bool :=
 (letk (slices_IndexFunc_api_Policy_api_Policy_at_specielaw46_great_1 s) (fun (x1 : Int) => (decide (x1 ≥ 0))))
def specielaw46_great (l : (List S_api_Policy)) : Bool :=
 (letk (slices_ContainsFunc_api_Policy_api_Policy_at_specielaw46_great_1 l) (fun (x1 : Bool) => x1))
def slices_Equal_api_Rule_api_Rule (s1 : (List S_api_Rule)) (s2 : (List S_api_Rule)) : Bool :=
 (if ((s1.length : Int) != (s2.length : Int)) then false else (iter (((s1.length : Int) - 0).toNat + 1) (fun (ag2 : Int → Bool) (p2 : Int) => (if (decide (p2 < (s1.length : Int))) then (if (!(q_api_Rule (gt s1 p2) (gt s2 p2))) then false else (ag2 (p2 + 1))) else true)) (fun _ => default) 0))
def specielaw46_same (p_ : S_api_Policy) (q : S_api_Policy) : Bool :=
 (letk (slices_Equal_api_Rule_api_Rule (p_.Rules) (q.Rules)) (fun (x1 : Bool) => x1))
def specieref46_in (x_ : Int) (low : Int) (high : Int) : Bool :=
 (if (decide (x_ ≥ low)) then (decide (x_ ≤ high)) else false)
def specieref46_Rule (r_ : S_api_Rule) : Bool :=
 (if (r_.Kind == 1) then (letk (specieref46_in (r_.A) 0 1099511627776) (fun (x26 : Bool) => (if x26 then (r_.B == 0) else false))) else (if (r_.Kind == 4) then (letk (specieref46_in (r_.A) 0 1099511627776) (fun (x3 : Bool) => (if x3 then (r_.B == 0) else false))) else (if (r_.Kind == 2) then (letk (specieref46_in (r_.A) 0 1000) (fun (x8 : Bool) => (if x8 then (r_.B == 0) else false))) else (if (r_.Kind == 3) then (letk (specieref46_in (r_.A) 0 8) (fun (x13 : Bool) => (if x13 then (r_.B == 0) else false))) else (if (r_.Kind == 5) then (letk (specieref46_in (r_.A) 0 23) (fun (x18 : Bool) => (if x18 then (letk (specieref46_in (r_.B) 0 23) (fun (x22 : Bool) => (if x22 then (r_.A != r_.B) else false))) else false))) else false)))))
def specieref46_Valid (p_ : S_api_Policy) : Bool :=
 (if (decide ((p_.Rules.length : Int) > 20)) then false else (iter (((p_.Rules.length : Int) - 0).toNat + 1) (fun (ag2 : Int → Bool) (p2 : Int) => (if (decide (p2 < (p_.Rules.length : Int))) then (letk (specieref46_Rule (gt p_.Rules p2)) (fun (x5 : Bool) => (if (!x5) then false else (ag2 (p2 + 1))))) else true)) (fun _ => default) 0))
def specieref46_digits (n_ : Int) : (List UInt8) :=
 (if (decide (n_ < 10)) then (([(convI .u8 (48 + n_))] : List Int).map u8N) else (letk (decM (n_ / 10)) (fun (x4 : (List UInt8)) => (x4 ++ (([(convI .u8 (48 + (n_ % 10)))] : List Int).map u8N)))))
def specieref46_word (kind : Int) : (List UInt8) :=
 (if (kind == 1) then [97, 109, 111, 117, 110, 116] else (if (kind == 2) then [99, 111, 105, 110, 115] else (if (kind == 3) then [104, 111, 112, 115] else (if (kind == 4) then [111, 112, 101, 110] else [104, 111, 117, 114, 115]))))
def specieref46_Line (r_ : S_api_Rule) : (List UInt8) :=
 (letk (specieref46_word (r_.Kind)) (fun (x1 : (List UInt8)) => (letk (decM (r_.A)) (fun (x4 : (List UInt8)) => (if (r_.Kind == 5) then (letk (decM (r_.B)) (fun (x8 : (List UInt8)) => (((((x1 ++ [32]) ++ x4) ++ [32]) ++ x8) ++ [10]))) else (((x1 ++ [32]) ++ x4) ++ [10]))))))
def specieref46_Text (p_ : S_api_Policy) : (List UInt8) :=
 (iter (((p_.Rules.length : Int) - 0).toNat + 1) (fun (ag1 : (List UInt8 × Int) → (List UInt8)) (p1 : List UInt8 × Int) => (if (decide (p1.2 < (p_.Rules.length : Int))) then (letk (specieref46_Line (gt p_.Rules p1.2)) (fun (x4 : (List UInt8)) => (ag1 ((p1.1 ++ x4), (p1.2 + 1))))) else p1.1)) (fun _ => default) ([], 0))
def specieref46_number (s : (List UInt8)) : (Int × Int) :=
 (iter (s.length - (0 : Int).toNat + 1) (fun (ag1 : (Int × Int) → (Int × Int)) (p1 : Int × Int) => (if (decide (p1.2 < (s.length : Int))) then (if (decide (p1.2 < 16)) then (if (decide (((s.getD (p1.2).toNat 0).toNat : Int) ≥ 48)) then (if (decide (((s.getD (p1.2).toNat 0).toNat : Int) ≤ 57)) then (ag1 ((addI .i64 (mulI .i64 10 p1.1) (convI .i64 (subI .u8 ((s.getD (p1.2).toNat 0).toNat : Int) 48))), (p1.2 + 1))) else (if (decide (p1.2 > 15)) then (0, 0) else (if (decide (p1.2 > 1)) then (if (((s.getD 0 0).toNat : Int) == 48) then (0, 0) else (p1.1, p1.2)) else (p1.1, p1.2)))) else (if (decide (p1.2 > 15)) then (0, 0) else (if (decide (p1.2 > 1)) then (if (((s.getD 0 0).toNat : Int) == 48) then (0, 0) else (p1.1, p1.2)) else (p1.1, p1.2)))) else (if (decide (p1.2 > 15)) then (0, 0) else (if (decide (p1.2 > 1)) then (if (((s.getD 0 0).toNat : Int) == 48) then (0, 0) else (p1.1, p1.2)) else (p1.1, p1.2)))) else (if (decide (p1.2 > 15)) then (0, 0) else (if (decide (p1.2 > 1)) then (if (((s.getD 0 0).toNat : Int) == 48) then (0, 0) else (p1.1, p1.2)) else (p1.1, p1.2))))) (fun _ => default) (0, 0))
def specieref46_rule (s : (List UInt8)) : (S_api_Rule × Bool) :=
 (iter (6 - (1 : Int).toNat + 1) (fun (ag1 : (Int × S_api_Rule) → (S_api_Rule × Bool)) (p1 : Int × S_api_Rule) => (if (decide (p1.1 ≤ 5)) then (letk (specieref46_word (p1.1)) (fun (x3 : (List UInt8)) => (if (decide ((s.length : Int) ≤ ((x3 ++ [32]).length : Int))) then (ag1 ((p1.1 + 1), p1.2)) else (if (!((s.take (x3 ++ [32]).length) == (x3 ++ [32]))) then (ag1 ((p1.1 + 1), p1.2)) else (letk (specieref46_number ((s.drop (x3 ++ [32]).length).take (s.length - (x3 ++ [32]).length))) (fun (x10 : (Int × Int)) => (if (x10.2 == 0) then (z_api_Rule, false) else (if (p1.1 == 5) then (if (decide ((((((s.drop (x3 ++ [32]).length).take (s.length - (x3 ++ [32]).length)).drop (x10.2).toNat).take (((s.drop (x3 ++ [32]).length).take (s.length - (x3 ++ [32]).length)).length - (x10.2).toNat)).length : Int) < 2)) then (z_api_Rule, false) else (if (((((((s.drop (x3 ++ [32]).length).take (s.length - (x3 ++ [32]).length)).drop (x10.2).toNat).take (((s.drop (x3 ++ [32]).length).take (s.length - (x3 ++ [32]).length)).length - (x10.2).toNat)).getD 0 0).toNat : Int) != 32) then (z_api_Rule, false) else (letk (specieref46_number ((((((s.drop (x3 ++ [32]).length).take (s.length - (x3 ++ [32]).length)).drop (x10.2).toNat).take (((s.drop (x3 ++ [32]).length).take (s.length - (x3 ++ [32]).length)).length - (x10.2).toNat)).drop 1).take (((((s.drop (x3 ++ [32]).length).take (s.length - (x3 ++ [32]).length)).drop (x10.2).toNat).take (((s.drop (x3 ++ [32]).length).take (s.length - (x3 ++ [32]).length)).length - (x10.2).toNat)).length - 1))) (fun (x18 : (Int × Int)) => (if (x18.2 == 0) then (z_api_Rule, false) else (({ Kind := p1.1, A := x10.1, B := x18.1 } : S_api_Rule), (((((((s.drop (x3 ++ [32]).length).take (s.length - (x3 ++ [32]).length)).drop (x10.2).toNat).take (((s.drop (x3 ++ [32]).length).take (s.length - (x3 ++ [32]).length)).length - (x10.2).toNat)).drop ((1 + x18.2)).toNat).take (((((s.drop (x3 ++ [32]).length).take (s.length - (x3 ++ [32]).length)).drop (x10.2).toNat).take (((s.drop (x3 ++ [32]).length).take (s.length - (x3 ++ [32]).length)).length - (x10.2).toNat)).length - ((1 + x18.2)).toNat)) == []))))))) else (({ Kind := p1.1, A := x10.1, B := 0 } : S_api_Rule), (((((s.drop (x3 ++ [32]).length).take (s.length - (x3 ++ [32]).length)).drop (x10.2).toNat).take (((s.drop (x3 ++ [32]).length).take (s.length - (x3 ++ [32]).length)).length - (x10.2).toNat)) == [])))))))))) else (z_api_Rule, false))) (fun _ => default) (1, z_api_Rule))
def specieref46_Parse (s : (List UInt8)) : (S_api_Policy × Int) :=
 (iter (((s.length : Int) - 0).toNat + 1) (fun (ag1 : (Int × Int × S_api_Policy × List S_api_Rule) → (S_api_Policy × Int)) (p1 : Int × Int × S_api_Policy × List S_api_Rule) => (if (decide (p1.2.1 < (s.length : Int))) then (if (((s.getD (p1.2.1).toNat 0).toNat : Int) != 10) then (ag1 (p1.1, (p1.2.1 + 1), p1.2.2.1, p1.2.2.2)) else (letk (specieref46_rule ((s.drop (p1.1).toNat).take ((p1.2.1).toNat - (p1.1).toNat))) (fun (x4 : (S_api_Rule × Bool)) => (if (!x4.2) then (z_api_Policy, 3) else (ag1 ((p1.2.1 + 1), (p1.2.1 + 1), p1.2.2.1, (p1.2.2.2 ++ ([x4.1] : List S_api_Rule)))))))) else (if (decide (p1.1 < (s.length : Int))) then (z_api_Policy, 3) else (if (decide ((p1.2.2.2.length : Int) > 20)) then (z_api_Policy, 5) else (letk (specieref46_Valid ({ Rules := p1.2.2.2 } : S_api_Policy)) (fun (x10 : Bool) => (if (!x10) then (z_api_Policy, 2) else (({ Rules := p1.2.2.2 } : S_api_Policy), 0)))))))) (fun _ => default) (0, 0, z_api_Policy, ([] : List S_api_Rule)))
def specielaw46_PolicyTexts (p_ : S_api_Policy) (s : (List UInt8)) : Bool :=
 (letk (specielaw46_awake) (fun (x1 : Bool) => (if (!x1) then false else (letk (specielaw46_great ([p_] : List S_api_Policy)) (fun (x5 : Bool) => (if x5 then true else (if (decide ((s.length : Int) > 2000)) then (if (decide ((s.length : Int) ≤ 16384)) then true else (letk (policy_Text p_) (fun (x11 : ((List UInt8) × Int)) => (letj (fun (p14 : Unit) => (letk (policy_Parse s) (fun (x15 : (S_api_Policy × Int)) => (if (decide ((s.length : Int) > 16384)) then (if (x15.2 == 5) then ((x15.1.Rules.length : Int) == 0) else false) else (letk (specieref46_Parse s) (fun (x20 : (S_api_Policy × Int)) => (if (x15.2 != x20.2) then false else (letk (specielaw46_same (x15.1) (x20.1)) (fun (x24 : Bool) => (if (!x24) then false else (letk (policy_Text (x15.1)) (fun (x28 : ((List UInt8) × Int)) => (if (x15.2 != 0) then true else (if (x28.2 == 0) then (x28.1 == s) else false)))))))))))))) (fun j14 => (letk (specieref46_Valid p_) (fun (x33 : Bool) => (if (!x33) then (letk (policy_Valid p_) (fun (x37 : Bool) => (if x37 then false else (if (x11.2 != 1) then false else (if (!(x11.1 == [])) then false else (j14 ())))))) else (letk (policy_Parse (x11.1)) (fun (x43 : (S_api_Policy × Int)) => (letk (policy_Valid p_) (fun (x46 : Bool) => (if (!x46) then false else (if (x11.2 != 0) then false else (letk (specieref46_Text p_) (fun (x51 : (List UInt8)) => (if (!(x11.1 == x51)) then false else (if (x43.2 != 0) then false else (letk (specielaw46_same (x43.1) p_) (fun (x56 : Bool) => (if (!x56) then false else (j14 ())))))))))))))))))))))) else (letk (policy_Text p_) (fun (x60 : ((List UInt8) × Int)) => (letj (fun (p63 : Unit) => (letk (policy_Parse s) (fun (x64 : (S_api_Policy × Int)) => (if (decide ((s.length : Int) > 16384)) then (if (x64.2 == 5) then ((x64.1.Rules.length : Int) == 0) else false) else (letk (specieref46_Parse s) (fun (x69 : (S_api_Policy × Int)) => (if (x64.2 != x69.2) then false else (letk (specielaw46_same (x64.1) (x69.1)) (fun (x73 : Bool) => (if (!x73) then false else (letk (policy_Text (x64.1)) (fun (x77 : ((List UInt8) × Int)) => (if (x64.2 != 0) then true else (if (x77.2 == 0) then (x77.1 == s) else false)))))))))))))) (fun j63 => (letk (specieref46_Valid p_) (fun (x82 : Bool) => (if (!x82) then (letk (policy_Valid p_) (fun (x86 : Bool) => (if x86 then false else (if (x60.2 != 1) then false else (if (!(x60.1 == [])) then false else (j63 ())))))) else (letk (policy_Parse (x60.1)) (fun (x92 : (S_api_Policy × Int)) => (letk (policy_Valid p_) (fun (x95 : Bool) => (if (!x95) then false else (if (x60.2 != 0) then false else (letk (specieref46_Text p_) (fun (x100 : (List UInt8)) => (if (!(x60.1 == x100)) then false else (if (x92.2 != 0) then false else (letk (specielaw46_same (x92.1) p_) (fun (x105 : Bool) => (if (!x105) then false else (j63 ()))))))))))))))))))))))))))))
end Go.Proofs.YteolfhljhnplpaaDoor
namespace Go.Proofs.YteolfhljhnplpaaDoor
open Go.RowKit
theorem iter_find {C : Int → Bool} {n : Int} {F : (Int → Int) → Int → Int} (hF : ∀ ag p, F ag p = if p < n then (if C p = true then p else ag (p + 1)) else -1) {d : Int → Int} :
  ∀ (fuel : Nat) (i : Int), 0 ≤ i → (n - i).toNat < fuel → (iter fuel F d i = -1 ∧ ∀ j, i ≤ j → j < n → C j = false) ∨ (i ≤ iter fuel F d i ∧ iter fuel F d i < n ∧ C (iter fuel F d i) = true ∧ ∀ j, i ≤ j → j < iter fuel F d i → C j = false) := by
 intro fuel
 induction fuel with
 | zero => intro i _ h; omega
 | succ k ih =>
  intro i h0 h
  rw [iter, hF]
  by_cases hi : i < n
  ·rw [if_pos hi]
   by_cases hc : C i = true
   ·rw [if_pos hc]
    exact .inr ⟨Int.le_refl _, hi, hc, fun j h1 h2 => by omega⟩
   ·rw [if_neg hc]
    have hc' : C i = false := by simpa using hc
    rcases ih (i + 1) (by omega) (by omega) with ⟨h1, h2⟩ | ⟨h1, h2, h3, h4⟩
    ·refine .inl ⟨h1, fun j g1 g2 => ?_⟩
     by_cases e : j = i
     ·subst e; exact hc'
     ·exact h2 j (by omega) g2
    ·refine .inr ⟨by omega, h2, h3, fun j g1 g2 => ?_⟩
     by_cases e : j = i
     ·subst e; exact hc'
     ·exact h4 j (by omega) g2
  ·rw [if_neg hi]
   exact .inl ⟨rfl, fun j h1 h2 => by omega⟩
theorem gt_mem {α : Type} [Inhabited α] {l : List α} {i : Int} (h : i.toNat < l.length) : gt l i ∈ l := by
 simp [gt, List.getD_eq_getElem?_getD, h]
theorem iter_any {α : Type} [Inhabited α] {l : List α} {C : α → Bool} {F : (Int → Int) → Int → Int} {d : Int → Int}
  (hF : ∀ ag p, F ag p = if decide (p < (l.length : Int)) = true then (if C (gt l p) = true then p else ag (p + 1)) else -1) :
  decide (iter (((l.length : Int) - 0).toNat + 1) F d 0 ≥ 0) = l.any C := by
 have hg : ∀ (j : Int), 0 ≤ j → j < l.length → gt l j ∈ l := fun j h0 h1 => gt_mem (by omega)
 rcases iter_find (C := fun p => C (gt l p)) (n := (l.length : Int)) (F := F) (d := d) (fun ag p => by rw [hF]; by_cases hp : p < (l.length : Int) <;> simp [hp]) (((l.length : Int) - 0).toNat + 1) 0 (by omega) (by omega) with ⟨h1, h2⟩ | ⟨h1, h2, h3, _⟩
 ·rw [h1]
  symm
  rw [show decide ((-1 : Int) ≥ 0) = false by decide, List.any_eq_false]
  intro x hx
  obtain ⟨i, hi, rfl⟩ := List.mem_iff_getElem.1 hx
  have := h2 (i : Int) (by omega) (by omega)
  simpa [gt, List.getD_eq_getElem?_getD, hi] using this
 ·rw [decide_eq_true h1]
  symm
  exact List.any_eq_true.2 ⟨_, hg _ h1 h2, h3⟩
theorem iter_rule {α R : Type} {P : α → Prop} {Q : R → Prop} {meas : α → Nat} {F : (α → R) → α → R} {d : α → R}
  (hs : ∀ ag p, P p → (∀ q, P q → meas q < meas p → Q (ag q)) → Q (F ag p)) : ∀ (fuel : Nat) (p : α), P p → meas p < fuel → Q (iter fuel F d p) := by
 intro fuel
 induction fuel with
 | zero => intro p _ h; omega
 | succ k ih =>
  intro p hp hm
  rw [iter]
  exact hs _ p hp fun q hq hlt => ih q hq (by omega)
theorem iter_allX {C : Int → Bool} {n : Int} {X : Bool} {F : (Int → Bool) → Int → Bool} (hF : ∀ ag p, F ag p = if decide (p < n) = true then (if C p = true then ag (p + 1) else false) else X) {d : Int → Bool} :
  ∀ (fuel : Nat) (i : Int), (n - i).toNat < fuel → (iter fuel F d i = true ↔ (∀ j, i ≤ j → j < n → C j = true) ∧ X = true) := by
 intro fuel
 induction fuel with
 | zero => intro i h; omega
 | succ k ih =>
  intro i h
  rw [iter, hF]
  by_cases hi : i < n
  ·rw [if_pos (decide_eq_true hi)]
   by_cases hc : C i = true
   ·rw [if_pos hc, ih (i + 1) (by omega)]
    refine ⟨fun H => ⟨fun j h1 h2 => ?_, H.2⟩, fun H => ⟨fun j h1 h2 => H.1 j (by omega) h2, H.2⟩⟩
    by_cases e : j = i
    ·subst e; exact hc
    ·exact H.1 j (by omega) h2
   ·rw [if_neg hc]
    exact ⟨fun H => Bool.noConfusion H, fun H => absurd (H.1 i (Int.le_refl _) hi) hc⟩
  ·rw [if_neg (by simpa using hi)]
   exact ⟨fun H => ⟨fun j h1 h2 => by omega, H⟩, fun H => H.2⟩
theorem iter_allL {α : Type} [Inhabited α] {l : List α} {c : α → Bool} {X : Bool} {F : (Int → Bool) → Int → Bool} {d : Int → Bool}
  (hF : ∀ ag p, F ag p = if decide (p < (l.length : Int)) = true then (if c (gt l p) = true then ag (p + 1) else false) else X) :
  iter (((l.length : Int) - 0).toNat + 1) F d 0 = (l.all c && X) := by
 rw [Bool.eq_iff_iff, iter_allX (C := fun p => c (gt l p)) hF _ _ (by omega), Bool.and_eq_true, List.all_eq_true]
 refine and_congr_left fun _ => ⟨fun h x hx => ?_, fun h j h0 h1 => h _ (gt_mem (by omega))⟩
 obtain ⟨i, hi, rfl⟩ := List.mem_iff_getElem.1 hx
 have := h (i : Int) (by omega) (by omega)
 simpa [gt, List.getD_eq_getElem?_getD, hi] using this
theorem notF {b c : Bool} : (if (!b) = true then false else c) = (if b = true then c else false) := by cases b <;> rfl
def remA {β : Type} (i : Nat) : List (Nat × β) → List (Nat × β)
 | [] => []
 | (k, b) :: l => if k = i then remA i l else (k, b) :: remA i l
attribute [go_sem] remA
end Go.Proofs.YteolfhljhnplpaaDoor
namespace Go.Proofs.YteolfhljhnplpaaDoor
open Go.RowKit
@[go_sem] theorem numV_int {k : IntKind} {n : Int} : numV (V.int k n) = n := by rfl
theorem s_ne {s : List UInt8} (h : (s == []) = false) : 0 < s.length := List.length_pos_iff.2 (by simpa using h)
theorem cut_after {s : List UInt8} {b : UInt8} {x : List UInt8 × List UInt8 × Bool} (h : x = strings_Cut s [b]) : x.2.2 = true → x.2.1.length + 1 ≤ s.length := by
 subst h
 intro h
 unfold strings_Cut Go.Lib.cut at *
 split
 ·rename_i hn
  have hl : 0 < s.length := by
   cases s with
   | nil =>
    have : Go.Lib.index ([] : List UInt8) [b] = -1 := by simp [Go.Lib.index]
    rw [this] at hn
    exact absurd hn (by decide)
   | cons a s => simp
  simp only [List.length_drop, List.length_cons, List.length_nil]; omega
 ·rename_i hn; rw [if_neg hn] at h; cases h
theorem decM_len {n : Int} {x : List UInt8} (h : x = decM n) (hn : 0 ≤ n ∧ n ≤ 9223372036854775807) : x.length ≤ 21 := by
 obtain ⟨u, hu⟩ := Int.eq_ofNat_of_zero_le hn.1
 have h1 := Lib.itoa_length_le n (by omega) hn.2
 rw [hu, Lib.itoa_nonneg] at h1
 rw [h, hu]
 exact h1
theorem specieref46_digits_eqM {n : Int} (h0 : 0 ≤ n) : specieref46_digits n = decM n := by
 unfold specieref46_digits decM
 have one : ∀ k : Int, 0 ≤ k → k < 10 → ([convI .u8 (48 + k)] : List Int).map u8N = [UInt8.ofNat (48 + k.toNat)] := by
  intro k g0 g1
  have e : convI .u8 (48 + k) = 48 + k := by
   unfold convI
   rw [show IntKind.wrap .u8 (48 + k) = (48 + k) % 256 by simp [IntKind.wrap, IntKind.bits, IntKind.signed]]
   omega
  rw [e]
  show [u8N (48 + k)] = _
  unfold u8N
  congr 2
  omega
 by_cases h : n < 10
 ·rw [if_pos (by simpa using h), one _ h0 h, Lib.decDigits_one (by omega)]
 ·rw [if_neg (by simpa using h), one _ (by omega) (by omega)]
  simp only [letk, decM]
  have e1 : (n / 10).toNat = n.toNat / 10 := by omega
  have e2 : (n % 10).toNat = n.toNat % 10 := by omega
  rw [e1, e2, Lib.decDigits.eq_1 n.toNat, dif_neg (by omega)]
theorem word_len {k : Int} {x : List UInt8} (h : x = specieref46_word k) : x.length ≤ 6 := by
 subst h
 unfold specieref46_word
 split
 ·decide
 split
 ·decide
 split
 ·decide
 split <;> decide
theorem line_len {r : S_api_Rule} {x : List UInt8} (h : x = specieref46_Line r) (hA : 0 ≤ r.A ∧ r.A ≤ 1099511627776) (hB : 0 ≤ r.B ∧ r.B ≤ 23) : x.length ≤ 52 := by
 subst h
 have h1 := word_len (k := r.Kind) rfl
 have h2 := decM_len (n := r.A) rfl ⟨hA.1, by omega⟩
 have h3 := decM_len (n := r.B) rfl ⟨hB.1, by omega⟩
 unfold specieref46_Line
 simp only [letk]
 split
 ·simp only [List.length_append, List.length_singleton]; omega
 ·simp only [List.length_append, List.length_singleton]; omega
theorem in_iff {x lo hi : Int} : specieref46_in x lo hi = true ↔ lo ≤ x ∧ x ≤ hi := by
 unfold specieref46_in
 by_cases a : x ≥ lo <;> simp [a] <;> omega
theorem in_dec (x lo hi : Int) : specieref46_in x lo hi = decide (lo ≤ x ∧ x ≤ hi) := by
 rw [Bool.eq_iff_iff, in_iff, decide_eq_true_eq]
theorem refRule_ok (r : S_api_Rule) : specieref46_Rule r = ruleOk r := by
 rw [Bool.eq_iff_iff]
 unfold specieref46_Rule ruleOk
 rw [decide_eq_true_eq]
 simp only [letk, in_dec]
 by_cases h1 : r.Kind = 1
 ·simp [h1]; omega
 by_cases h4 : r.Kind = 4
 ·simp [h4]; omega
 by_cases h2 : r.Kind = 2
 ·simp [h2]; omega
 by_cases h3 : r.Kind = 3
 ·simp [h3]; omega
 by_cases h5 : r.Kind = 5
 ·simp [h5]; omega
 ·simp [h1, h2, h3, h4, h5]
theorem refValid_ok (p : S_api_Policy) : specieref46_Valid p = rulesOk p.Rules := by
 unfold specieref46_Valid rulesOk
 by_cases h : p.Rules.length ≤ 20
 ·have h2 : decide ((p.Rules.length : Int) > 20) = false := decide_eq_false (by omega)
  rw [h2, if_neg (by decide), decide_eq_true h]
  simp only [letk, notF, Bool.true_and]
  rw [iter_allL (c := specieref46_Rule) (fun ag p => rfl)]
  rw [Bool.and_true]
  exact congrArg (fun f => p.Rules.all f) (funext refRule_ok)
 ·have h2 : decide ((p.Rules.length : Int) > 20) = true := decide_eq_true (by omega)
  rw [h2, if_pos rfl, decide_eq_false h]; rfl
theorem rtext_pre {p : S_api_Policy} {x : Bool} (h : x = specieref46_Valid p) (hx : x = true) : p.Rules.length ≤ 20 ∧ ∀ j : Int, 0 ≤ j → j.toNat < p.Rules.length → (0 ≤ (gt p.Rules j).A ∧ (gt p.Rules j).A ≤ 1099511627776) ∧ 0 ≤ (gt p.Rules j).B ∧ (gt p.Rules j).B ≤ 23 := by
 rw [hx, refValid_ok] at h
 unfold rulesOk at h
 have h := h.symm
 rw [Bool.and_eq_true, decide_eq_true_eq] at h
 refine ⟨h.1, fun j h0 hj => ?_⟩
 have := ruleOk_spec (List.all_eq_true.1 h.2 _ (gt_mem hj))
 exact this.2
theorem valid_eq (r : S_api_Rule) : policy_valid r = specieref46_Rule r := by
 unfold policy_valid specieref46_Rule
 by_cases h1 : r.Kind = 1 <;> by_cases h2 : r.Kind = 2 <;> by_cases h3 : r.Kind = 3 <;> by_cases h4 : r.Kind = 4 <;> by_cases h5 : r.Kind = 5 <;> simp [letk, letj, h1, h2, h3, h4, h5, policy_within, specieref46_in]
theorem polAny (l : List S_api_Rule) : slices_ContainsFunc_api_Rule_api_Rule_at_policy_Valid_1 l = l.any policy_Valid_1 := by
 unfold slices_ContainsFunc_api_Rule_api_Rule_at_policy_Valid_1 slices_IndexFunc_api_Rule_api_Rule_at_policy_Valid_1
 exact iter_any (fun ag p => rfl)
theorem polValid_ok (p : S_api_Policy) : policy_Valid p = rulesOk p.Rules := by
 unfold policy_Valid rulesOk
 by_cases h : p.Rules.length ≤ 20
 ·rw [decide_eq_true (show (p.Rules.length : Int) ≤ 20 by omega), if_pos rfl, decide_eq_true h]
  simp only [letk, Bool.true_and]
  rw [polAny]
  have e : policy_Valid_1 = fun x => !ruleOk x := funext fun x => by simp [policy_Valid_1, letk, valid_eq, refRule_ok]
  rw [e]
  simp [List.all_eq_not_any_not]
 ·rw [decide_eq_false (show ¬ (p.Rules.length : Int) ≤ 20 by omega), if_neg (by decide), decide_eq_false h]; rfl
theorem rnum_after {s : List UInt8} {x : Int × Int} (h : x = specieref46_number s) : 0 ≤ x.2 ∧ x.2 ≤ (s.length : Int) := by
 subst h
 unfold specieref46_number
 refine iter_rule (P := fun p : Int × Int => 0 ≤ p.2 ∧ p.2 ≤ (s.length : Int)) (Q := fun r : Int × Int => 0 ≤ r.2 ∧ r.2 ≤ (s.length : Int)) (meas := fun p => s.length - p.2.toNat) ?_ _ _ ⟨by decide, by show (0 : Int) ≤ _; omega⟩ (by show s.length - (0 : Int).toNat < _; omega)
 rintro ag ⟨n, i⟩ ⟨h0, h1⟩ ih
 simp only at h0 h1 ih ⊢
 have fin : ∀ c1 c2 c3 : Bool, 0 ≤ (if c1 = true then ((0 : Int), (0 : Int)) else (if c2 = true then (if c3 = true then (0, 0) else (n, i)) else (n, i))).2 ∧ (if c1 = true then ((0 : Int), (0 : Int)) else (if c2 = true then (if c3 = true then (0, 0) else (n, i)) else (n, i))).2 ≤ (s.length : Int) := by
  intro c1 c2 c3
  cases c1 <;> cases c2 <;> cases c3 <;> simp <;> omega
 split
 ·rename_i hi
  rw [decide_eq_true_eq] at hi
  split
  ·split
   ·split
    ·exact ih _ ⟨by show 0 ≤ i + 1; omega, by show i + 1 ≤ _; omega⟩ (by show s.length - (i + 1).toNat < s.length - i.toNat; omega)
    ·exact fin _ _ _
   ·exact fin _ _ _
  ·exact fin _ _ _
 ·exact fin _ _ _
end Go.Proofs.YteolfhljhnplpaaDoor
namespace Go.Proofs.YteolfhljhnplpaaDoor
open Go.RowKit
set_option linter.unusedSimpArgs false
set_option maxHeartbeats 2000000 in
set_option maxRecDepth 100000 in
instance policy_names_ok     : CM En (policy_names) 18 [] (fun y => .sl none 1 false (y.map V.str)) (fun _ => []) := by
 refine cmQ fun r hM => ?_
 rw [policy_names.eq_1] at hM
 refine enterV En_ok En_mo noJ Tryd.func18 rfl Tryd.ntmps18 (by kernel_rfl) fun hw => ct_start ?_
 refine spQ ?_
 replace hw := nzQ hw
 subst hM
 exact retC_view lfQ
set_option maxHeartbeats 2000000 in
set_option maxRecDepth 100000 in
instance policy_within_ok   (x_ : Int) (low : Int) (high : Int)  : CM En (policy_within x_ low high) 31 [.int .i64 x_, .int .i64 low, .int .i64 high] (fun y => .bool y) (fun _ => []) := by
 refine cmQ fun r hM => ?_
 rw [policy_within.eq_1] at hM
 refine enterV En_ok En_mo noJ Tryd.func31 rfl Tryd.ntmps31 (by kernel_rfl) fun hw => ct_start ?_
 refine spQ ?_
 replace hw := nzQ hw
 have hF := trueQ
 exact auQ
set_option maxHeartbeats 2000000 in
set_option maxRecDepth 100000 in
instance policy_valid_ok   (r_ : S_api_Rule)  : CM En (policy_valid r_) 25 [.agg [.int .i64 r_.Kind, .int .i64 r_.A, .int .i64 r_.B]] (fun y => .bool y) (fun _ => []) := by
 refine cmQ fun r hM => ?_
 rw [policy_valid.eq_1] at hM
 refine enterV En_ok En_mo [4] Tryd.func25 rfl Tryd.ntmps25 (by kernel_rfl) fun hw => ct_start ?_
 refine spQ ?_
 replace hw := nzQ hw
 have hM0 := hM; clear hM; obtain ⟨j1, hj1, hM⟩ := letj_opn hM0; clear hM0
 refine seqC_intro (fun S => ∃ p : Bool, S = (⟨[(1, .ptr 0 0), (4, .int .i64 r_.Kind), (5, .bool p)], [(0, .var 3 true (.agg [.int .i64 r_.Kind, .int .i64 r_.A, .int .i64 r_.B]))], 1⟩ : St) ∧ (True) ∧ j1 p = r) ?_ (fun hcut1 => ?_)
 ·clear hM
  rintro S ⟨p1, rfl, hfa1, hM⟩
  have hM0 := hM; clear hM; have hM := letj_use hM0 hj1; clear hM0
  try refine spQ ?_
  have hF := trueQ
  exact auQ
 ·refine spQ ?_
  refine condC_intro (fun h26 => ?_) (fun h26 => ?_)
  ·rw [if_pos h26] at hM
   refine spQA h26 ?_
   have nh26 := nzQ h26
   exact cut_intro _ sbQ sbQ (hcut1 _ ⟨true, rfl, trivial, hM⟩)
  ·rw [if_neg (ne_true h26)] at hM
   refine spQA h26 ?_
   have nh26 := nzQ h26
   exact cut_intro _ sbQ sbQ (hcut1 _ ⟨(r_.Kind == 4), rfl, trivial, hM⟩)
set_option maxHeartbeats 2000000 in
set_option maxRecDepth 100000 in
instance policy_Valid_1_ok   (r_ : S_api_Rule)  : CM En (policy_Valid_1 r_) 24 [.agg [.int .i64 r_.Kind, .int .i64 r_.A, .int .i64 r_.B]] (fun y => .bool y) (fun _ => []) := by
 refine cmQ fun r hM => ?_
 rw [policy_Valid_1.eq_1] at hM
 refine enterV En_ok En_mo noJ Tryd.func24 rfl Tryd.ntmps24 (by kernel_rfl) fun hw => ct_start ?_
 refine spQ ?_
 replace hw := nzQ hw
 have hF := trueQ
 exact auQ
set_option maxHeartbeats 2000000 in
set_option maxRecDepth 100000 in
instance slices_IndexFunc_api_Rule_api_Rule_at_policy_Valid_1_ok   (s : (List S_api_Rule))  : CM En (slices_IndexFunc_api_Rule_api_Rule_at_policy_Valid_1 s) 32 [.sl none 3 true (s.map e_api_Rule), .fn 24 []] (fun y => .int .i64 y) (fun _ => []) := by
 refine cmQ fun r hM => ?_
 rw [slices_IndexFunc_api_Rule_api_Rule_at_policy_Valid_1.eq_1] at hM
 refine enterV En_ok En_mo noJ Tryd.func32 rfl Tryd.ntmps32 (by kernel_rfl) fun hw => ct_start ?_
 refine spQ ?_
 replace hw := nzQ hw
 have hM0 := hM; clear hM; obtain ⟨f1, d1, hf1, hd1, hM⟩ := iter_opn hM0; clear hM0
 refine ct_loop (fun n S => ∃ p : Int, S = (⟨[(0, .sl none 3 true (s.map e_api_Rule)), (1, .fn 24 []), (7, .int .i64 (s.length : Int)), (8, .int .i64 p)], [], 0⟩ : St) ∧ ((0 ≤ p) ∧ (p ≤ (s.length : Int))) ∧ ((s.length : Int) - p).toNat < n ∧ iter n f1 d1 p = r) (((s.length : Int) - 0).toNat + 1) _ sbQ sbQ ⟨0, rfl, ⟨omQ, omQ⟩, (Nat.lt_succ_self _), hM⟩ ?_
 clear hM
 rintro n1 S ⟨p1, rfl, hfa1, hm1, hM⟩
 have hM0 := hM; clear hM; obtain ⟨ag1, hag1, hM⟩ := iter_step hM0 (by omega) hf1; clear hM0
 replace hfa1 := nzQ hfa1
 replace hm1 := nzQ hm1
 have ha1 : addI .i64 p1 1 = p1 + 1 := add_one omQ omQ
 refine spQA ha1 ?_
 have hF := ha1
 exact auQ
set_option maxHeartbeats 2000000 in
set_option maxRecDepth 100000 in
instance slices_ContainsFunc_api_Rule_api_Rule_at_policy_Valid_1_ok   (s : (List S_api_Rule))  : CM En (slices_ContainsFunc_api_Rule_api_Rule_at_policy_Valid_1 s) 23 [.sl none 3 true (s.map e_api_Rule), .fn 24 []] (fun y => .bool y) (fun _ => []) := by
 refine cmQ fun r hM => ?_
 rw [slices_ContainsFunc_api_Rule_api_Rule_at_policy_Valid_1.eq_1] at hM
 refine enterV En_ok En_mo noJ Tryd.func23 rfl Tryd.ntmps23 (by kernel_rfl) fun hw => ct_start ?_
 refine spQ ?_
 replace hw := nzQ hw
 have hF := trueQ
 exact auQ
set_option maxHeartbeats 2000000 in
set_option maxRecDepth 100000 in
instance policy_Valid_ok   (p_ : S_api_Policy)  : CM En (policy_Valid p_) 8 [.agg [.sl none 3 true (p_.Rules.map e_api_Rule)]] (fun y => .bool y) (fun _ => []) := by
 refine cmQ fun r hM => ?_
 rw [policy_Valid.eq_1] at hM
 refine enterV En_ok En_mo noJ Tryd.func8 rfl Tryd.ntmps8 (by kernel_rfl) fun hw => ct_start ?_
 refine spQ ?_
 replace hw := nzQ hw
 have hF := trueQ
 exact auQ
instance (priority := 1001) : DRD 4 36 4 [2, 33, 34, 35] [] ([[], [], [1], [0]] ++ [List.range 4]) [] := ⟨trivial⟩
set_option maxHeartbeats 2000000 in
set_option maxRecDepth 100000 in
instance policy_number_ok   (s : (List UInt8))  : CM En (policy_number s) 41 [.str s] (fun y => .tup [.int .i64 y.1, .bool y.2]) (fun _ => []) := by
 refine cmQ fun r hM => ?_
 rw [policy_number.eq_1] at hM
 refine enterV En_ok En_mo noJ Tryd.func41 rfl Tryd.ntmps41 (by kernel_rfl) fun hw => ct_start ?_
 refine spQ ?_
 replace hw := nzQ hw
 refine guardC_f (fun h1 => ?_) (fun h1 => ?_)
 ·rw [if_neg (ne_true h1)] at hM
  refine spQA h1 ?_
  have nh1 := nzQ h1
  refine guardC_f (fun h2 => ?_) (fun h2 => ?_)
  ·rw [if_neg (ne_true h2)] at hM
   refine spQA h2 ?_
   have nh2 := nzQ h2
   refine guardC_t (fun h3 => ?_) (fun h3 => ?_)
   ·rw [if_pos h3] at hM
    refine spQA h3 ?_
    have nh3 := nzQ h3
    refine bindC_intro (by (first | exact omQ | (clear hM; first | (have h9 := s_ne (by assumption); exact omQ')))) ?_
    refine spQ ?_
    refine guardC_f (fun h4 => ?_) (fun h4 => ?_)
    ·rw [if_neg (ne_true h4)] at hM
     refine spQA h4 ?_
     have nh4 := nzQ h4
     have hM0 := hM; clear hM; obtain ⟨x5, hx6, hM⟩ := letk_opn hM0; clear hM0
     have hcx5 := cmH hx6 (strings_Trim_ok  s ([48, 49, 50, 51, 52, 53, 54, 55, 56, 57]) (by rfl))
     refine callC_give hcx5 clQ clQ (fun hw7 => ?_)
     replace hw7 := nzQ hw7
     refine spQ ?_
     have hF := (And.intro h1 (And.intro h2 (And.intro h3 h4)))
     exact auQ
    ·rw [if_pos h4] at hM
     refine spQA h4 ?_
     have nh4 := nzQ h4
     subst hM
     exact retC_view (lfQA (And.intro h1 (And.intro h2 (And.intro h3 h4))))
   ·rw [if_neg (ne_true h3)] at hM
    refine spQA h3 ?_
    have nh3 := nzQ h3
    have hM0 := hM; clear hM; obtain ⟨x12, hx13, hM⟩ := letk_opn hM0; clear hM0
    have hcx12 := cmH hx13 (strings_Trim_ok  s ([48, 49, 50, 51, 52, 53, 54, 55, 56, 57]) (by rfl))
    refine callC_give hcx12 clQ clQ (fun hw14 => ?_)
    replace hw14 := nzQ hw14
    refine spQ ?_
    have hF := (And.intro h1 (And.intro h2 h3))
    exact auQ
  ·rw [if_pos h2] at hM
   refine spQA h2 ?_
   have nh2 := nzQ h2
   subst hM
   exact retC_view (lfQA (And.intro h1 h2))
 ·rw [if_pos h1] at hM
  refine spQA h1 ?_
  have nh1 := nzQ h1
  subst hM
  exact retC_view (lfQA h1)
set_option maxHeartbeats 2000000 in
set_option maxRecDepth 100000 in
instance slices_Index_string_string_ok   (s : (List (List UInt8))) (v : (List UInt8))  : CM En (slices_Index_string_string s v) 40 [.sl none 1 false (s.map V.str), .str v] (fun y => .int .i64 y) (fun _ => []) := by
 refine cmQ fun r hM => ?_
 rw [slices_Index_string_string.eq_1] at hM
 refine enterV En_ok En_mo noJ Tryd.func40 rfl Tryd.ntmps40 (by kernel_rfl) fun hw => ct_start ?_
 refine spQ ?_
 replace hw := nzQ hw
 have hM0 := hM; clear hM; obtain ⟨f1, d1, hf1, hd1, hM⟩ := iter_opn hM0; clear hM0
 refine ct_loop (fun n S => ∃ p : Int, S = (⟨[(0, .sl none 1 false (s.map V.str)), (1, .str v), (7, .int .i64 (s.length : Int)), (8, .int .i64 p)], [], 0⟩ : St) ∧ ((0 ≤ p) ∧ (p ≤ (s.length : Int))) ∧ ((s.length : Int) - p).toNat < n ∧ iter n f1 d1 p = r) (((s.length : Int) - 0).toNat + 1) _ sbQ sbQ ⟨0, rfl, ⟨omQ, omQ⟩, (Nat.lt_succ_self _), hM⟩ ?_
 clear hM
 rintro n1 S ⟨p1, rfl, hfa1, hm1, hM⟩
 have hM0 := hM; clear hM; obtain ⟨ag1, hag1, hM⟩ := iter_step hM0 (by omega) hf1; clear hM0
 replace hfa1 := nzQ hfa1
 replace hm1 := nzQ hm1
 have ha1 : addI .i64 p1 1 = p1 + 1 := add_one omQ omQ
 refine spQA ha1 ?_
 have hF := ha1
 exact auQ
set_option maxHeartbeats 2000000 in
set_option maxRecDepth 100000 in
instance policy_rule_ok   (line : (List UInt8))  : CM En (policy_rule line) 27 [.str line] (fun y => .tup [.agg [.int .i64 y.1.Kind, .int .i64 y.1.A, .int .i64 y.1.B], .bool y.2]) (fun _ => []) := by
 refine cmQ fun r hM => ?_
 rw [policy_rule.eq_1] at hM
 refine enterV En_ok En_mo noJ Tryd.func27 rfl Tryd.ntmps27 (by kernel_rfl) fun hw => ct_start ?_
 refine spQ ?_
 replace hw := nzQ hw
 have hF := trueQ
 exact auQ
set_option maxHeartbeats 2000000 in
set_option maxRecDepth 100000 in
instance policy_Parse_ok   (s : (List UInt8))  : CM En (policy_Parse s) 9 [.str s] (fun y => .tup [.agg [.sl none 3 true (y.1.Rules.map e_api_Rule)], .int .i64 y.2]) (fun _ => []) := by
 refine cmQ fun r hM => ?_
 rw [policy_Parse.eq_1] at hM
 refine enterV En_ok En_mo noJ Tryd.func9 rfl Tryd.ntmps9 (by kernel_rfl) fun hw => ct_start ?_
 refine spQ ?_
 replace hw := nzQ hw
 refine condC_intro (fun h1 => ?_) (fun h1 => ?_)
 ·rw [if_pos h1] at hM
  refine spQA h1 ?_
  have nh1 := nzQ h1
  subst hM
  exact retC_view (lfQA h1)
 ·rw [if_neg (ne_true h1)] at hM
  refine spQA h1 ?_
  have nh1 := nzQ h1
  have hM0 := hM; clear hM; obtain ⟨f2, d2, hf2, hd2, hM⟩ := iter_opn hM0; clear hM0
  refine ct_loopW (fun n S => ∃ p : List UInt8 × S_api_Policy × List S_api_Rule, S = (⟨[(0, .str p.1), (2, .ptr 0 0), (4, .ptr 1 0)], [(0, .var 1 true (.agg [.sl none 3 true (p.2.1.Rules.map e_api_Rule)])), (1, .var 1 true (.agg [.own 2])), (2, .own 49 3 true none (p.2.2.map e_api_Rule))], 3⟩ : St) ∧ (((p.2.2).length + p.1.length ≤ s.length)) ∧ p.1.length < n ∧ iter n f2 d2 p = r) (s.length + 1) _ _ (weak_nilV 1 0 49 rfl rfl (by decide)) sbQ (by simp only [go_sem, rowV_eq, rowV_eq0, List.length_replicate, rep_len, Int.toNat_natCast, ↓reduceIte, Nat.reduceEqDiff, Nat.reduceAdd, Int.reduceAdd, Nat.reduceMul, Nat.reduceLeDiff, Nat.reduceLT, Int.reduceLE, Int.reduceLT, Int.reduceNeg, Int.reduceToNat, map_st, mtL_repE, mtL_repM, subF, subH, mtO, mtB, mt, mtL, mtL_self, mt_self, ltV, ltL, ltB, eq_self, or_true, true_or, or_self, and_self, gt_cons0, gt_conss, Int.reduceSub]) ⟨(s, z_api_Policy, ([] : List S_api_Rule)), rfl, by (first | exact omQ | (clear hM; first | (have h9 := cut_after ‹_ = strings_Cut _ _› (by assumption); exact omQ') | (rw [LEN_eq]; (try simp only [List.length_append, List.length_cons, List.length_nil, List.length_map, List.length_take, List.length_drop]); exact omQ'))), (Nat.lt_succ_self _), hM⟩ ?_
  clear hM
  rintro n2 S ⟨p2, rfl, hfa2, hm2, hM⟩
  have hM0 := hM; clear hM; obtain ⟨ag2, hag2, hM⟩ := iter_step hM0 (by omega) hf2; clear hM0
  replace hfa2 := nzQ hfa2
  replace hm2 := nzQ hm2
  refine spQ ?_
  refine condC_intro (fun h3 => ?_) (fun h3 => ?_)
  ·rw [if_pos h3] at hM
   refine spQA h3 ?_
   have nh3 := nzQ h3
   have hM0 := hM; clear hM; obtain ⟨x4, hx5, hM⟩ := letk_opn hM0; clear hM0
   have hcx4 := cmU hx5
   refine callC_give hcx4 clQ clQ (fun hw6 => ?_)
   replace hw6 := nzQ hw6
   refine spQ ?_
   have hM0 := hM; clear hM; obtain ⟨x7, hx8, hM⟩ := letk_opn hM0; clear hM0
   have hcx7 := cmU hx8
   refine callC_give hcx7 clQ clQ (fun hw9 => ?_)
   replace hw9 := nzQ hw9
   refine spQ ?_
   refine guardC_f (fun h10 => ?_) (fun h10 => ?_)
   ·rw [if_neg (ne_true h10)] at hM
    refine spQA h10 ?_
    have nh10 := nzQ h10
    refine condC_intro (fun h11 => ?_) (fun h11 => ?_)
    ·rw [if_pos h11] at hM
     refine spQA h11 ?_
     have nh11 := nzQ h11
     subst hM
     exact retC_view (lfQA (And.intro h1 (And.intro h3 (And.intro h10 h11))))
    ·rw [if_neg (ne_true h11)] at hM
     refine spQA h11 ?_
     have nh11 := nzQ h11
     refine bindC_intro (by (first | exact omQ | (clear hM; first | (have h9 := cut_after ‹_ = strings_Cut _ _› (by assumption); exact omQ') | (rw [LEN_eq]; (try simp only [List.length_append, List.length_cons, List.length_nil, List.length_map, List.length_take, List.length_drop]); exact omQ')))) ?_
     refine spQ ?_
     refine lp_intro (n2 - 1) _ (by omega) sbQ sbQ ⟨(x4.2.1, p2.2.1, (p2.2.2 ++ ([x7.1] : List S_api_Rule))), rfl, by (first | exact omQ | (clear hM; first | (have h9 := cut_after ‹_ = strings_Cut _ _› (by assumption); exact omQ') | (rw [LEN_eq]; (try simp only [List.length_append, List.length_cons, List.length_nil, List.length_map, List.length_take, List.length_drop]); exact omQ'))), by (first | exact omQ | (clear hM; first | (have h9 := cut_after ‹_ = strings_Cut _ _› (by assumption); exact omQ') | (rw [LEN_eq]; (try simp only [List.length_append, List.length_cons, List.length_nil, List.length_map, List.length_take, List.length_drop]); exact omQ'))), iter_again hM hag2⟩
   ·rw [if_pos h10] at hM
    refine spQA h10 ?_
    have nh10 := nzQ h10
    subst hM
    exact retC_view (lfQA (And.intro h1 (And.intro h3 h10)))
  ·rw [if_neg (ne_true h3)] at hM
   refine spQA h3 ?_
   have nh3 := nzQ h3
   have hF := (And.intro h1 h3)
   exact auQ
set_option maxHeartbeats 2000000 in
set_option maxRecDepth 100000 in
instance policy_accepts_ok   (r_ : S_api_Rule) (amount : Int) (number : Int) (transfers : Int) (hour : Int) (sum : Int)  : CM En (policy_accepts r_ amount number transfers hour sum) 34 [.agg [.int .i64 r_.Kind, .int .i64 r_.A, .int .i64 r_.B], .int .i64 amount, .int .i64 number, .int .i64 transfers, .int .i64 hour, .int .i64 sum] (fun y => .bool y) (fun _ => []) := by
 refine cmQ fun r hM => ?_
 rw [policy_accepts.eq_1] at hM
 refine enterV En_ok En_mo noJ Tryd.func34 rfl Tryd.ntmps34 (by kernel_rfl) fun hw => ct_start ?_
 refine spQ ?_
 replace hw := nzQ hw
 have hF := trueQ
 exact auQ
set_option maxHeartbeats 2000000 in
set_option maxRecDepth 100000 in
instance policy_Accepts_1_ok   (r_ : S_api_Rule) (c0 : Int) (c1 : Int) (c2 : Int) (c3 : Int) (c4 : Int)  : CM En (policy_Accepts_1 r_ c0 c1 c2 c3 c4) 33 [.agg [.int .i64 r_.Kind, .int .i64 r_.A, .int .i64 r_.B], .pp 1 false (.int .i64 c0), .pp 1 false (.int .i64 c1), .pp 1 false (.int .i64 c2), .pp 1 false (.int .i64 c3), .pp 1 false (.int .i64 c4)] (fun y => .bool y) (fun _ => []) := by
 refine cmQ fun r hM => ?_
 rw [policy_Accepts_1.eq_1] at hM
 refine enterV En_ok En_mo noJ Tryd.func33 rfl Tryd.ntmps33 (by kernel_rfl) fun hw => ct_start ?_
 refine spQ ?_
 replace hw := nzQ hw
 have hF := trueQ
 exact auQ
set_option maxHeartbeats 2000000 in
set_option maxRecDepth 100000 in
instance slices_IndexFunc_api_Rule_api_Rule_at_policy_Accepts_1_ok   (s : (List S_api_Rule)) (f__c0 : Int) (f__c1 : Int) (f__c2 : Int) (f__c3 : Int) (f__c4 : Int)  : CM En (slices_IndexFunc_api_Rule_api_Rule_at_policy_Accepts_1 s f__c0 f__c1 f__c2 f__c3 f__c4) 32 [.sl none 3 true (s.map e_api_Rule), .fn 33 [.pp 1 false (.int .i64 f__c0), .pp 1 false (.int .i64 f__c1), .pp 1 false (.int .i64 f__c2), .pp 1 false (.int .i64 f__c3), .pp 1 false (.int .i64 f__c4)]] (fun y => .int .i64 y) (fun _ => []) := by
 refine cmQ fun r hM => ?_
 rw [slices_IndexFunc_api_Rule_api_Rule_at_policy_Accepts_1.eq_1] at hM
 refine enterV En_ok En_mo noJ Tryd.func32 rfl Tryd.ntmps32 (by kernel_rfl) fun hw => ct_start ?_
 refine spQ ?_
 replace hw := nzQ hw
 have hM0 := hM; clear hM; obtain ⟨f1, d1, hf1, hd1, hM⟩ := iter_opn hM0; clear hM0
 refine ct_loop (fun n S => ∃ p : Int, S = (⟨[(0, .sl none 3 true (s.map e_api_Rule)), (1, .fn 33 [.pp 1 false (.int .i64 f__c0), .pp 1 false (.int .i64 f__c1), .pp 1 false (.int .i64 f__c2), .pp 1 false (.int .i64 f__c3), .pp 1 false (.int .i64 f__c4)]), (7, .int .i64 (s.length : Int)), (8, .int .i64 p)], [], 0⟩ : St) ∧ ((0 ≤ p) ∧ (p ≤ (s.length : Int))) ∧ ((s.length : Int) - p).toNat < n ∧ iter n f1 d1 p = r) (((s.length : Int) - 0).toNat + 1) _ sbQ sbQ ⟨0, rfl, ⟨omQ, omQ⟩, (Nat.lt_succ_self _), hM⟩ ?_
 clear hM
 rintro n1 S ⟨p1, rfl, hfa1, hm1, hM⟩
 have hM0 := hM; clear hM; obtain ⟨ag1, hag1, hM⟩ := iter_step hM0 (by omega) hf1; clear hM0
 replace hfa1 := nzQ hfa1
 replace hm1 := nzQ hm1
 have ha1 : addI .i64 p1 1 = p1 + 1 := add_one omQ omQ
 refine spQA ha1 ?_
 have hF := ha1
 exact auQ
set_option maxHeartbeats 2000000 in
set_option maxRecDepth 100000 in
instance policy_Accepts_ok   (p_ : S_api_Policy) (amount : Int) (number : Int) (transfers : Int) (hour : Int) (sum : Int)  : CM En (policy_Accepts p_ amount number transfers hour sum) 13 [.agg [.sl none 3 true (p_.Rules.map e_api_Rule)], .int .i64 amount, .int .i64 number, .int .i64 transfers, .int .i64 hour, .int .i64 sum] (fun y => .tup [.bool y.1, .int .i64 y.2]) (fun _ => []) := by
 refine cmQ fun r hM => ?_
 rw [policy_Accepts.eq_1] at hM
 refine enterV En_ok En_mo noJ Tryd.func13 rfl Tryd.ntmps13 (by kernel_rfl) fun hw => ct_start ?_
 refine spQ ?_
 replace hw := nzQ hw
 have hF := trueQ
 exact auQ
set_option maxHeartbeats 2000000 in
set_option maxRecDepth 100000 in
instance policy_Limit_ok   (p_ : S_api_Policy) (hour : Int) (sum : Int)  : CM En (policy_Limit p_ hour sum) 14 [.agg [.sl none 3 true (p_.Rules.map e_api_Rule)], .int .i64 hour, .int .i64 sum] (fun y => .tup [.int .i64 y.1, .int .i64 y.2]) (fun _ => []) := by
 refine cmQ fun r hM => ?_
 rw [policy_Limit.eq_1] at hM
 refine enterV En_ok En_mo noJ Tryd.func14 rfl Tryd.ntmps14 (by kernel_rfl) fun hw => ct_start ?_
 refine spQ ?_
 replace hw := nzQ hw
 have hM0 := hM; clear hM; obtain ⟨x1, hx2, hM⟩ := letk_opn hM0; clear hM0
 have hcx1 := cmU hx2
 refine callC_give hcx1 clQ clQ (fun hw3 => ?_)
 replace hw3 := nzQ hw3
 refine spQ ?_
 refine condC_intro (fun h4 => ?_) (fun h4 => ?_)
 ·rw [if_pos h4] at hM
  refine spQA h4 ?_
  have nh4 := nzQ h4
  subst hM
  exact retC_view (lfQA h4)
 ·rw [if_neg (ne_true h4)] at hM
  refine spQA h4 ?_
  have nh4 := nzQ h4
  have hM0 := hM; clear hM; obtain ⟨x5, hx6, hM⟩ := letk_opn hM0; clear hM0
  have hcx5 := cmU hx6
  refine callC_give hcx5 clQ clQ (fun hw7 => ?_)
  replace hw7 := nzQ hw7
  refine spQ ?_
  refine guardC_f (fun h8 => ?_) (fun h8 => ?_)
  ·rw [if_neg (ne_true h8)] at hM
   refine spQA h8 ?_
   have nh8 := nzQ h8
   have hM0 := hM; clear hM; obtain ⟨x9, hx10, hM⟩ := letk_opn hM0; clear hM0
   have hcx9 := cmU hx10
   refine callC_give hcx9 clQ clQ (fun hw11 => ?_)
   replace hw11 := nzQ hw11
   refine spQ ?_
   refine condC_intro (fun h12 => ?_) (fun h12 => ?_)
   ·rw [if_pos h12] at hM
    refine spQA h12 ?_
    have nh12 := nzQ h12
    subst hM
    exact retC_view (lfQA (And.intro h4 (And.intro h8 h12)))
   ·rw [if_neg (ne_true h12)] at hM
    refine spQA h12 ?_
    have nh12 := nzQ h12
    have hM0 := hM; clear hM; obtain ⟨x13, hx14, hM⟩ := letk_opn hM0; clear hM0
    have hcx13 := cmU hx14
    refine callC_give hcx13 clQ clQ (fun hw15 => ?_)
    replace hw15 := nzQ hw15
    refine spQ ?_
    refine condC_intro (fun h16 => ?_) (fun h16 => ?_)
    ·rw [if_pos h16] at hM
     refine spQA h16 ?_
     have nh16 := nzQ h16
     subst hM
     exact retC_view (lfQA (And.intro h4 (And.intro h8 (And.intro h12 h16))))
    ·rw [if_neg (ne_true h16)] at hM
     refine spQA h16 ?_
     have nh16 := nzQ h16
     have hM0 := hM; clear hM; obtain ⟨f17, d17, hf17, hd17, hM⟩ := iter_opn hM0; clear hM0
     refine ct_loop (fun n S => ∃ p : Int × Int, S = (⟨[(2, .int .i64 sum), (10, .int .i64 p.1), (36, .sl none 3 true (p_.Rules.map e_api_Rule)), (37, .int .i64 (p_.Rules.length : Int)), (38, .int .i64 p.2)], [], 1⟩ : St) ∧ ((0 ≤ p.2) ∧ (p.2 ≤ (p_.Rules.length : Int))) ∧ ((p_.Rules.length : Int) - p.2).toNat < n ∧ iter n f17 d17 p = r) (((p_.Rules.length : Int) - 0).toNat + 1) _ sbQ sbQ ⟨(1099511627776, 0), rfl, ⟨omQ, omQ⟩, (Nat.lt_succ_self _), hM⟩ ?_
     clear hM
     rintro n17 S ⟨p17, rfl, hfa17, hm17, hM⟩
     have hM0 := hM; clear hM; obtain ⟨ag17, hag17, hM⟩ := iter_step hM0 (by omega) hf17; clear hM0
     replace hfa17 := nzQ hfa17
     replace hm17 := nzQ hm17
     have ha17 : addI .i64 p17.2 1 = p17.2 + 1 := add_one omQ omQ
     refine spQA ha17 ?_
     have hF := (And.intro h4 (And.intro h8 (And.intro h12 (And.intro h16 ha17))))
     exact auQ
  ·rw [if_pos h8] at hM
   refine spQA h8 ?_
   have nh8 := nzQ h8
   subst hM
   exact retC_view (lfQA (And.intro h4 h8))
set_option maxHeartbeats 2000000 in
set_option maxRecDepth 100000 in
instance specielaw46_awake_ok     : CM En (specielaw46_awake) 4 [] (fun y => .bool y) (fun _ => []) := by
 refine cmQ fun r hM => ?_
 rw [specielaw46_awake.eq_1] at hM
 refine enterV En_ok En_mo noJ Tryd.func4 rfl Tryd.ntmps4 (by kernel_rfl) fun hw => ct_start ?_
 refine spQ ?_
 replace hw := nzQ hw
 have hF := trueQ
 exact auQ
set_option maxHeartbeats 2000000 in
set_option maxRecDepth 100000 in
instance specielaw46_great_1_ok   (p_ : S_api_Policy)  : CM En (specielaw46_great_1 p_) 16 [.agg [.sl none 3 true (p_.Rules.map e_api_Rule)]] (fun y => .bool y) (fun _ => []) := by
 refine cmQ fun r hM => ?_
 rw [specielaw46_great_1.eq_1] at hM
 refine enterV En_ok En_mo noJ Tryd.func16 rfl Tryd.ntmps16 (by kernel_rfl) fun hw => ct_start ?_
 refine spQ ?_
 replace hw := nzQ hw
 subst hM
 exact retC_view lfQ
set_option maxHeartbeats 2000000 in
set_option maxRecDepth 100000 in
instance slices_IndexFunc_api_Policy_api_Policy_at_specielaw46_great_1_ok   (s : (List S_api_Policy))  : CM En (slices_IndexFunc_api_Policy_api_Policy_at_specielaw46_great_1 s) 35 [.sl none 1 true (s.map e_api_Policy), .fn 16 []] (fun y => .int .i64 y) (fun _ => []) := by
 refine cmQ fun r hM => ?_
 rw [slices_IndexFunc_api_Policy_api_Policy_at_specielaw46_great_1.eq_1] at hM
 refine enterV En_ok En_mo noJ Tryd.func35 rfl Tryd.ntmps35 (by kernel_rfl) fun hw => ct_start ?_
 refine spQ ?_
 replace hw := nzQ hw
 have hM0 := hM; clear hM; obtain ⟨f1, d1, hf1, hd1, hM⟩ := iter_opn hM0; clear hM0
 refine ct_loop (fun n S => ∃ p : Int, S = (⟨[(0, .sl none 1 true (s.map e_api_Policy)), (1, .fn 16 []), (7, .int .i64 (s.length : Int)), (8, .int .i64 p)], [], 0⟩ : St) ∧ ((0 ≤ p) ∧ (p ≤ (s.length : Int))) ∧ ((s.length : Int) - p).toNat < n ∧ iter n f1 d1 p = r) (((s.length : Int) - 0).toNat + 1) _ sbQ sbQ ⟨0, rfl, ⟨omQ, omQ⟩, (Nat.lt_succ_self _), hM⟩ ?_
 clear hM
 rintro n1 S ⟨p1, rfl, hfa1, hm1, hM⟩
 have hM0 := hM; clear hM; obtain ⟨ag1, hag1, hM⟩ := iter_step hM0 (by omega) hf1; clear hM0
 replace hfa1 := nzQ hfa1
 replace hm1 := nzQ hm1
 have ha1 : addI .i64 p1 1 = p1 + 1 := add_one omQ omQ
 refine spQA ha1 ?_
 have hF := ha1
 exact auQ
set_option maxHeartbeats 2000000 in
set_option maxRecDepth 100000 in
instance slices_ContainsFunc_api_Policy_api_Policy_at_specielaw46_great_1_ok   (s : (List S_api_Policy))  : CM En (slices_ContainsFunc_api_Policy_api_Policy_at_specielaw46_great_1 s) 15 [.sl none 1 true (s.map e_api_Policy), .fn 16 []] (fun y => .bool y) (fun _ => []) := by
 refine cmQ fun r hM => ?_
 rw [slices_ContainsFunc_api_Policy_api_Policy_at_specielaw46_great_1.eq_1] at hM
 refine enterV En_ok En_mo noJ Tryd.func15 rfl Tryd.ntmps15 (by kernel_rfl) fun hw => ct_start ?_
 refine spQ ?_
 replace hw := nzQ hw
 have hF := trueQ
 exact auQ
set_option maxHeartbeats 2000000 in
set_option maxRecDepth 100000 in
instance specielaw46_great_ok   (l : (List S_api_Policy))  : CM En (specielaw46_great l) 5 [.sl none 1 true (l.map e_api_Policy)] (fun y => .bool y) (fun _ => []) := by
 refine cmQ fun r hM => ?_
 rw [specielaw46_great.eq_1] at hM
 refine enterV En_ok En_mo noJ Tryd.func5 rfl Tryd.ntmps5 (by kernel_rfl) fun hw => ct_start ?_
 refine spQ ?_
 replace hw := nzQ hw
 have hF := trueQ
 exact auQ
instance (priority := 1002) : DRD 6 26 8 [16, 17, 18, 19, 20, 21, 22, 23] [] ([[], [], [0, 1], [0, 1, 2], [], [], [4, 5], [4, 5, 6]] ++ [List.range 8]) [] := ⟨trivial⟩
set_option maxHeartbeats 2000000 in
set_option maxRecDepth 100000 in
instance slices_Equal_api_Rule_api_Rule_ok   (s1 : (List S_api_Rule)) (s2 : (List S_api_Rule))  : CM En (slices_Equal_api_Rule_api_Rule s1 s2) 29 [.sl none 3 true (s1.map e_api_Rule), .sl none 3 true (s2.map e_api_Rule)] (fun y => .bool y) (fun _ => []) := by
 refine cmQ fun r hM => ?_
 rw [slices_Equal_api_Rule_api_Rule.eq_1] at hM
 refine enterV En_ok En_mo noJ Tryd.func29 rfl Tryd.ntmps29 (by kernel_rfl) fun hw => ct_start ?_
 refine spQ ?_
 replace hw := nzQ hw
 refine condC_intro (fun h1 => ?_) (fun h1 => ?_)
 ·rw [if_pos h1] at hM
  refine spQA h1 ?_
  have nh1 := nzQ h1
  subst hM
  exact retC_view (lfQA h1)
 ·rw [if_neg (ne_true h1)] at hM
  refine spQA h1 ?_
  have nh1 := nzQ h1
  have hM0 := hM; clear hM; obtain ⟨f2, d2, hf2, hd2, hM⟩ := iter_opn hM0; clear hM0
  refine ct_loop (fun n S => ∃ p : Int, S = (⟨[(0, .sl none 3 true (s1.map e_api_Rule)), (1, .sl none 3 true (s2.map e_api_Rule)), (12, .int .i64 (s1.length : Int)), (13, .int .i64 p)], [], 0⟩ : St) ∧ ((0 ≤ p) ∧ (p ≤ (s1.length : Int))) ∧ ((s1.length : Int) - p).toNat < n ∧ iter n f2 d2 p = r) (((s1.length : Int) - 0).toNat + 1) _ sbQ sbQ ⟨0, rfl, ⟨omQ, omQ⟩, (Nat.lt_succ_self _), hM⟩ ?_
  clear hM
  rintro n2 S ⟨p2, rfl, hfa2, hm2, hM⟩
  have hM0 := hM; clear hM; obtain ⟨ag2, hag2, hM⟩ := iter_step hM0 (by omega) hf2; clear hM0
  replace hfa2 := nzQ hfa2
  replace hm2 := nzQ hm2
  have ha2 : addI .i64 p2 1 = p2 + 1 := add_one omQ omQ
  refine spQA ha2 ?_
  have hF := (And.intro h1 ha2)
  exact auQ
set_option maxHeartbeats 2000000 in
set_option maxRecDepth 100000 in
instance specielaw46_same_ok   (p_ : S_api_Policy) (q : S_api_Policy)  : CM En (specielaw46_same p_ q) 11 [.agg [.sl none 3 true (p_.Rules.map e_api_Rule)], .agg [.sl none 3 true (q.Rules.map e_api_Rule)]] (fun y => .bool y) (fun _ => []) := by
 refine cmQ fun r hM => ?_
 rw [specielaw46_same.eq_1] at hM
 refine enterV En_ok En_mo noJ Tryd.func11 rfl Tryd.ntmps11 (by kernel_rfl) fun hw => ct_start ?_
 refine spQ ?_
 replace hw := nzQ hw
 have hF := trueQ
 exact auQ
set_option maxHeartbeats 2000000 in
set_option maxRecDepth 100000 in
instance specieref46_in_ok   (x_ : Int) (low : Int) (high : Int)  : CM En (specieref46_in x_ low high) 38 [.int .i64 x_, .int .i64 low, .int .i64 high] (fun y => .bool y) (fun _ => []) := by
 refine cmQ fun r hM => ?_
 rw [specieref46_in.eq_1] at hM
 refine enterV En_ok En_mo noJ Tryd.func38 rfl Tryd.ntmps38 (by kernel_rfl) fun hw => ct_start ?_
 refine spQ ?_
 replace hw := nzQ hw
 have hF := trueQ
 exact auQ
set_option maxHeartbeats 2000000 in
set_option maxRecDepth 100000 in
instance specieref46_Rule_ok   (r_ : S_api_Rule)  : CM En (specieref46_Rule r_) 22 [.agg [.int .i64 r_.Kind, .int .i64 r_.A, .int .i64 r_.B]] (fun y => .bool y) (fun _ => []) := by
 refine cmQ fun r hM => ?_
 rw [specieref46_Rule.eq_1] at hM
 refine enterV En_ok En_mo noJ Tryd.func22 rfl Tryd.ntmps22 (by kernel_rfl) fun hw => ct_start ?_
 refine spQ ?_
 replace hw := nzQ hw
 have hF := trueQ
 exact auQ
set_option maxHeartbeats 2000000 in
set_option maxRecDepth 100000 in
instance specieref46_Valid_ok   (p_ : S_api_Policy)  : CM En (specieref46_Valid p_) 7 [.agg [.sl none 3 true (p_.Rules.map e_api_Rule)]] (fun y => .bool y) (fun _ => []) := by
 refine cmQ fun r hM => ?_
 rw [specieref46_Valid.eq_1] at hM
 refine enterV En_ok En_mo noJ Tryd.func7 rfl Tryd.ntmps7 (by kernel_rfl) fun hw => ct_start ?_
 refine spQ ?_
 replace hw := nzQ hw
 refine condC_intro (fun h1 => ?_) (fun h1 => ?_)
 ·rw [if_pos h1] at hM
  refine spQA h1 ?_
  have nh1 := nzQ h1
  subst hM
  exact retC_view (lfQA h1)
 ·rw [if_neg (ne_true h1)] at hM
  refine spQA h1 ?_
  have nh1 := nzQ h1
  have hM0 := hM; clear hM; obtain ⟨f2, d2, hf2, hd2, hM⟩ := iter_opn hM0; clear hM0
  refine ct_loop (fun n S => ∃ p : Int, S = (⟨[(1, .ptr 0 0), (3, .int .i64 p)], [(0, .var 1 true (.agg [.sl none 3 true (p_.Rules.map e_api_Rule)]))], 1⟩ : St) ∧ ((0 ≤ p) ∧ (p ≤ (p_.Rules.length : Int))) ∧ ((p_.Rules.length : Int) - p).toNat < n ∧ iter n f2 d2 p = r) (((p_.Rules.length : Int) - 0).toNat + 1) _ sbQ sbQ ⟨0, rfl, ⟨omQ, omQ⟩, (Nat.lt_succ_self _), hM⟩ ?_
  clear hM
  rintro n2 S ⟨p2, rfl, hfa2, hm2, hM⟩
  have hM0 := hM; clear hM; obtain ⟨ag2, hag2, hM⟩ := iter_step hM0 (by omega) hf2; clear hM0
  replace hfa2 := nzQ hfa2
  replace hm2 := nzQ hm2
  have ha2 : addI .i64 p2 1 = p2 + 1 := add_one omQ omQ
  refine spQA ha2 ?_
  have hF := (And.intro h1 ha2)
  exact auQ
set_option maxHeartbeats 2000000 in
set_option maxRecDepth 100000 in
theorem specieref46_digits_ok (N : Nat) (ih : ∀  (n_ : Int), (0 ≤ n_) → n_.toNat < N → CallOk En 43 [.int .i64 n_] (.str (decM n_)) [])  (n_ : Int) (hp0 : 0 ≤ n_) (hp_ : n_.toNat < N + 1) : CallOk En 43 [.int .i64 n_] (.str (specieref46_digits n_)) [] := by
 generalize hM : specieref46_digits n_ = r
 rw [specieref46_digits.eq_1] at hM
 refine enterV En_ok En_mo noJ Tryd.func43 rfl Tryd.ntmps43 (by kernel_rfl) fun hw => ct_start ?_
 refine spQ ?_
 replace hw := nzQ hw
 refine condC_intro (fun h1 => ?_) (fun h1 => ?_)
 ·rw [if_pos h1] at hM
  refine spQA h1 ?_
  have nh1 := nzQ h1
  have ha2 : addI .i64 48 n_ = (48 + n_) := add_ok (by (first | exact omQ | (clear hM; first | (rw [LEN_eq]; (try simp only [List.length_append, List.length_cons, List.length_nil, List.length_map, List.length_take, List.length_drop]); exact omQ')))) (by (first | exact omQ | (clear hM; first | (rw [LEN_eq]; (try simp only [List.length_append, List.length_cons, List.length_nil, List.length_map, List.length_take, List.length_drop]); exact omQ'))))
  try simp only [ha2]
  refine bindC_intro (by (first | exact ⟨allU8_map, by (first | exact omQ | (clear hM; first | (rw [LEN_eq]; (try simp only [List.length_append, List.length_cons, List.length_nil, List.length_map, List.length_take, List.length_drop]); exact omQ')))⟩ | exact trivial | (refine ⟨?_, ?_⟩ <;> first | exact trivial | (simp only [List.length_cons, List.length_nil]; omega)))) ?_
  refine spQA ha2 ?_
  subst hM
  exact retC_view (lfQA (And.intro ha2 h1))
 ·rw [if_neg (ne_true h1)] at hM
  refine spQA h1 ?_
  have nh1 := nzQ h1
  refine ct_draw 20 9 [10, 11, 12, 13, 14, 15, 16, 17, 18] [] ([[], [0], [0, 1], [], [3], [3, 4], [3, 4, 5], [3, 4, 5, 6], [3, 4, 5, 6, 7]] ++ [List.range 9, List.range 10]) [] (by kernel_rfl) (by exact alQ) ?_
  refine spQ ?_
  have ha3 : quoI .i64 n_ 10 = (n_ / 10) := quo_ok (by (first | exact omQ | (clear hM; first | (rw [LEN_eq]; (try simp only [List.length_append, List.length_cons, List.length_nil, List.length_map, List.length_take, List.length_drop]); exact omQ')))) (by (first | exact omQ | (clear hM; first | (rw [LEN_eq]; (try simp only [List.length_append, List.length_cons, List.length_nil, List.length_map, List.length_take, List.length_drop]); exact omQ'))))
  try simp only [ha3]
  refine hbindC_intro (by (first | exact omQ | (clear hM; first | (rw [LEN_eq]; (try simp only [List.length_append, List.length_cons, List.length_nil, List.length_map, List.length_take, List.length_drop]); exact omQ')))) ?_
  refine spQA ha3 ?_
  have hM0 := hM; clear hM; obtain ⟨x4, hx5, hM⟩ := letk_opn hM0; clear hM0
  have hcx4 := ih  (n_ / 10) (by (exact pfQ)) (by (omega))
  rw [← hx5] at hcx4
  refine hcallC_give hcx4 (clQA ha3) (clQA ha3) ?_
  refine spQA ha3 ?_
  have hq6 := decM_len hx5 (by omega)
  replace hq6 := nzQ hq6
  have ha7 : remI .i64 n_ 10 = (n_ % 10) := rem_ok (by (first | exact omQ | (clear hM; first | (rw [LEN_eq]; (try simp only [List.length_append, List.length_cons, List.length_nil, List.length_map, List.length_take, List.length_drop]); exact omQ')))) (by (first | exact omQ | (clear hM; first | (rw [LEN_eq]; (try simp only [List.length_append, List.length_cons, List.length_nil, List.length_map, List.length_take, List.length_drop]); exact omQ'))))
  try simp only [ha7]
  refine hbindC_intro (by (first | exact omQ | (clear hM; first | (rw [LEN_eq]; (try simp only [List.length_append, List.length_cons, List.length_nil, List.length_map, List.length_take, List.length_drop]); exact omQ')))) ?_
  refine spQA (And.intro ha3 ha7) ?_
  have ha8 : addI .i64 48 (n_ % 10) = (48 + (n_ % 10)) := add_ok (by (first | exact omQ | (clear hM; first | (rw [LEN_eq]; (try simp only [List.length_append, List.length_cons, List.length_nil, List.length_map, List.length_take, List.length_drop]); exact omQ')))) (by (first | exact omQ | (clear hM; first | (rw [LEN_eq]; (try simp only [List.length_append, List.length_cons, List.length_nil, List.length_map, List.length_take, List.length_drop]); exact omQ'))))
  try simp only [ha8]
  refine hbindC_intro (by (first | exact ⟨allU8_map, by (first | exact omQ | (clear hM; first | (rw [LEN_eq]; (try simp only [List.length_append, List.length_cons, List.length_nil, List.length_map, List.length_take, List.length_drop]); exact omQ')))⟩ | exact trivial | (refine ⟨?_, ?_⟩ <;> first | exact trivial | (simp only [List.length_cons, List.length_nil]; omega)))) ?_
  refine spQA (And.intro ha3 (And.intro ha7 ha8)) ?_
  refine bindC_intro (by (first | exact omQ | (clear hM; first | (rw [LEN_eq]; (try simp only [List.length_append, List.length_cons, List.length_nil, List.length_map, List.length_take, List.length_drop]); exact omQ')))) ?_
  refine spQA (And.intro ha3 (And.intro ha7 ha8)) ?_
  subst hM
  exact retC_view (lfQA (And.intro ha3 (And.intro ha7 (And.intro ha8 h1))))
theorem decM_okN : ∀ (N : Nat)  (n_ : Int), (0 ≤ n_) → n_.toNat < N → CallOk En 43 [.int .i64 n_] (.str (decM n_)) [] := by
 intro N
 induction N with
 | zero => intro n_ h0 h; exact absurd h (Nat.not_lt_zero _)
 | succ N ih =>
  intro n_ h0 h
  have h9 := specieref46_digits_ok N ih n_ h0 h
  rw [specieref46_digits_eqM h0] at h9
  exact h9
theorem decM_ok  (n_ : Int) (hp0 : 0 ≤ n_) : CallOk En 43 [.int .i64 n_] (.str (decM n_)) [] :=
 decM_okN (n_.toNat + 1) n_ hp0 (Nat.lt_succ_self _)
set_option maxHeartbeats 2000000 in
set_option maxRecDepth 100000 in
instance specieref46_word_ok   (kind : Int)  : CM En (specieref46_word kind) 42 [.int .i64 kind] (fun y => .str y) (fun _ => []) := by
 refine cmQ fun r hM => ?_
 rw [specieref46_word.eq_1] at hM
 refine enterV En_ok En_mo noJ Tryd.func42 rfl Tryd.ntmps42 (by kernel_rfl) fun hw => ct_start ?_
 refine spQ ?_
 replace hw := nzQ hw
 have hF := trueQ
 exact auQ
set_option maxHeartbeats 2000000 in
set_option maxRecDepth 100000 in
theorem specieref46_Line_ok   (r_ : S_api_Rule) (hp0 : 0 ≤ r_.A) (hp1 : 0 ≤ r_.B) : CM En (specieref46_Line r_) 28 [.agg [.int .i64 r_.Kind, .int .i64 r_.A, .int .i64 r_.B]] (fun y => .str y) (fun _ => []) := by
 refine cmQ fun r hM => ?_
 rw [specieref46_Line.eq_1] at hM
 refine enterV En_ok En_mo noJ Tryd.func28 rfl Tryd.ntmps28 (by kernel_rfl) fun hw => ct_start ?_
 refine spQ ?_
 replace hw := nzQ hw
 refine ct_draw 23 7 [4, 5, 6, 7, 8, 9, 10] [] ([[], [0], [0, 1], [0, 1, 2], [], [4], [4, 5]] ++ [List.range 7, List.range 8]) [] (by kernel_rfl) (by exact alQ) ?_
 refine spQ ?_
 have hM0 := hM; clear hM; obtain ⟨x1, hx2, hM⟩ := letk_opn hM0; clear hM0
 have hcx1 := cmU hx2
 refine hcallC_give hcx1 clQ clQ ?_
 refine spQ ?_
 have hq3 := word_len hx2
 replace hq3 := nzQ hq3
 refine hbindC_intro (by (first | exact omQ | (clear hM; first | (rw [LEN_eq]; (try simp only [List.length_append, List.length_cons, List.length_nil, List.length_map, List.length_take, List.length_drop]); exact omQ')))) ?_
 refine spQ ?_
 have hM0 := hM; clear hM; obtain ⟨x4, hx5, hM⟩ := letk_opn hM0; clear hM0
 have hcx4 := decM_ok  (r_.A) (by (exact pfQ))
 rw [← hx5] at hcx4
 refine hcallC_give hcx4 clQ clQ ?_
 refine spQ ?_
 have hq6 := decM_len hx5 (by omega)
 replace hq6 := nzQ hq6
 refine bindC_intro (by (first | exact omQ | (clear hM; first | (rw [LEN_eq]; (try simp only [List.length_append, List.length_cons, List.length_nil, List.length_map, List.length_take, List.length_drop]); exact omQ')))) ?_
 refine spQ ?_
 refine condC_intro (fun h7 => ?_) (fun h7 => ?_)
 ·rw [if_pos h7] at hM
  refine spQA h7 ?_
  have nh7 := nzQ h7
  refine bindC_intro (by (first | exact omQ | (clear hM; first | (rw [LEN_eq]; (try simp only [List.length_append, List.length_cons, List.length_nil, List.length_map, List.length_take, List.length_drop]); exact omQ')))) ?_
  refine spQ ?_
  have hM0 := hM; clear hM; obtain ⟨x8, hx9, hM⟩ := letk_opn hM0; clear hM0
  have hcx8 := decM_ok  (r_.B) (by (exact pfQ))
  rw [← hx9] at hcx8
  refine callC_give hcx8 clQ clQ (fun hw10 => ?_)
  replace hw10 := nzQ hw10
  refine spQ ?_
  have hq11 := decM_len hx9 (by omega)
  replace hq11 := nzQ hq11
  refine bindC_intro (by (first | exact omQ | (clear hM; first | (rw [LEN_eq]; (try simp only [List.length_append, List.length_cons, List.length_nil, List.length_map, List.length_take, List.length_drop]); exact omQ')))) ?_
  refine spQ ?_
  refine bindC_intro (by (first | exact omQ | (clear hM; first | (rw [LEN_eq]; (try simp only [List.length_append, List.length_cons, List.length_nil, List.length_map, List.length_take, List.length_drop]); exact omQ')))) ?_
  refine spQ ?_
  subst hM
  exact retC_view (lfQA h7)
 ·rw [if_neg (ne_true h7)] at hM
  refine spQA h7 ?_
  have nh7 := nzQ h7
  refine bindC_intro (by (first | exact omQ | (clear hM; first | (rw [LEN_eq]; (try simp only [List.length_append, List.length_cons, List.length_nil, List.length_map, List.length_take, List.length_drop]); exact omQ')))) ?_
  refine spQ ?_
  subst hM
  exact retC_view (lfQA h7)
set_option maxHeartbeats 2000000 in
set_option maxRecDepth 100000 in
theorem specieref46_Text_ok   (p_ : S_api_Policy) (hp0 : p_.Rules.length ≤ 20) (hp1 : ∀ j : Int, 0 ≤ j → j.toNat < p_.Rules.length → (0 ≤ (gt p_.Rules j).A ∧ (gt p_.Rules j).A ≤ 1099511627776) ∧ 0 ≤ (gt p_.Rules j).B ∧ (gt p_.Rules j).B ≤ 23) : CM En (specieref46_Text p_) 10 [.agg [.sl none 3 true (p_.Rules.map e_api_Rule)]] (fun y => .str y) (fun _ => []) := by
 refine cmQ fun r hM => ?_
 rw [specieref46_Text.eq_1] at hM
 refine enterV En_ok En_mo noJ Tryd.func10 rfl Tryd.ntmps10 (by kernel_rfl) fun hw => ct_start ?_
 refine spQ ?_
 replace hw := nzQ hw
 have hM0 := hM; clear hM; obtain ⟨f1, d1, hf1, hd1, hM⟩ := iter_opn hM0; clear hM0
 refine ct_loop (fun n S => ∃ p : List UInt8 × Int, S = (⟨[(1, .ptr 0 0), (3, .str p.1), (4, .int .i64 p.2)], [(0, .var 1 true (.agg [.sl none 3 true (p_.Rules.map e_api_Rule)]))], 1⟩ : St) ∧ ((0 ≤ p.2) ∧ (p.2 ≤ (p_.Rules.length : Int)) ∧ (0 ≤ p.2) ∧ (p.2 ≤ (p_.Rules.length : Int)) ∧ (((p.1).length : Int) ≤ 60 * p.2)) ∧ ((p_.Rules.length : Int) - p.2).toNat < n ∧ iter n f1 d1 p = r) (((p_.Rules.length : Int) - 0).toNat + 1) _ sbQ (by simp only [go_sem, rowV_eq, rowV_eq0, List.length_replicate, rep_len, Int.toNat_natCast, ↓reduceIte, Nat.reduceEqDiff, Nat.reduceAdd, Int.reduceAdd, Nat.reduceMul, Nat.reduceLeDiff, Nat.reduceLT, Int.reduceLE, Int.reduceLT, Int.reduceNeg, Int.reduceToNat, map_st, mtL_repE, mtL_repM, subF, subH, mtO, mtB, mt, mtL, mtL_self, mt_self, ltV, ltL, ltB, eq_self, or_true, true_or, or_self, and_self, gt_cons0, gt_conss, Int.reduceSub]) ⟨([], 0), rfl, ⟨by (first | exact omQ | (clear hM; first | (rw [LEN_eq]; (try simp only [List.length_append, List.length_cons, List.length_nil, List.length_map, List.length_take, List.length_drop]); exact omQ'))), by (first | exact omQ | (clear hM; first | (rw [LEN_eq]; (try simp only [List.length_append, List.length_cons, List.length_nil, List.length_map, List.length_take, List.length_drop]); exact omQ'))), by (first | exact omQ | (clear hM; first | (rw [LEN_eq]; (try simp only [List.length_append, List.length_cons, List.length_nil, List.length_map, List.length_take, List.length_drop]); exact omQ'))), by (first | exact omQ | (clear hM; first | (rw [LEN_eq]; (try simp only [List.length_append, List.length_cons, List.length_nil, List.length_map, List.length_take, List.length_drop]); exact omQ'))), by (first | exact omQ | (clear hM; first | (rw [LEN_eq]; (try simp only [List.length_append, List.length_cons, List.length_nil, List.length_map, List.length_take, List.length_drop]); exact omQ')))⟩, (Nat.lt_succ_self _), hM⟩ ?_
 clear hM
 rintro n1 S ⟨p1, rfl, hfa1, hm1, hM⟩
 have hM0 := hM; clear hM; obtain ⟨ag1, hag1, hM⟩ := iter_step hM0 (by omega) hf1; clear hM0
 replace hfa1 := nzQ hfa1
 replace hm1 := nzQ hm1
 have ha1 : addI .i64 p1.2 1 = p1.2 + 1 := add_one (by (first | exact omQ | (clear hM; first | (rw [LEN_eq]; (try simp only [List.length_append, List.length_cons, List.length_nil, List.length_map, List.length_take, List.length_drop]); exact omQ')))) (by (first | exact omQ | (clear hM; first | (rw [LEN_eq]; (try simp only [List.length_append, List.length_cons, List.length_nil, List.length_map, List.length_take, List.length_drop]); exact omQ'))))
 refine spQA ha1 ?_
 refine condC_intro (fun h2 => ?_) (fun h2 => ?_)
 ·rw [if_pos h2] at hM
  refine spQA (And.intro ha1 h2) ?_
  have nh2 := nzQ h2
  refine bindC_intro (by (first | exact omQ | (clear hM; first | (rw [LEN_eq]; (try simp only [List.length_append, List.length_cons, List.length_nil, List.length_map, List.length_take, List.length_drop]); exact omQ')))) ?_
  have he3 := fun d => elt_mp (l := p_.Rules) (f := e_api_Rule) (i := p1.2) (by (first | exact omQ | (clear hM; first | (rw [LEN_eq]; (try simp only [List.length_append, List.length_cons, List.length_nil, List.length_map, List.length_take, List.length_drop]); exact omQ')))) d
  refine spQA (And.intro ha1 he3) ?_
  have hM0 := hM; clear hM; obtain ⟨x4, hx5, hM⟩ := letk_opn hM0; clear hM0
  have hcx4 := cmH hx5 (specieref46_Line_ok  (gt p_.Rules p1.2) (by (first | exact (hp1 p1.2 (by omega) (by omega)).1.1 | exact (hp1 p1.2 (by omega) (by omega)).2.1)) (by (first | exact (hp1 p1.2 (by omega) (by omega)).1.1 | exact (hp1 p1.2 (by omega) (by omega)).2.1)))
  refine callC_give hcx4 (clQA (And.intro ha1 he3)) (clQA (And.intro ha1 he3)) (fun hw6 => ?_)
  replace hw6 := nzQ hw6
  refine spQA (And.intro ha1 he3) ?_
  have hq7 := line_len hx5 (hp1 p1.2 (by omega) (by omega)).1 (hp1 p1.2 (by omega) (by omega)).2
  replace hq7 := nzQ hq7
  refine bindC_intro (by (first | exact omQ | (clear hM; first | (rw [LEN_eq]; (try simp only [List.length_append, List.length_cons, List.length_nil, List.length_map, List.length_take, List.length_drop]); exact omQ')))) ?_
  refine spQA (And.intro ha1 he3) ?_
  refine lp_intro (n1 - 1) _ (by omega) sbQ sbQ ⟨((p1.1 ++ x4), (p1.2 + 1)), rfl, ⟨by (first | exact omQ | (clear hM; first | (rw [LEN_eq]; (try simp only [List.length_append, List.length_cons, List.length_nil, List.length_map, List.length_take, List.length_drop]); exact omQ'))), by (first | exact omQ | (clear hM; first | (rw [LEN_eq]; (try simp only [List.length_append, List.length_cons, List.length_nil, List.length_map, List.length_take, List.length_drop]); exact omQ'))), by (first | exact omQ | (clear hM; first | (rw [LEN_eq]; (try simp only [List.length_append, List.length_cons, List.length_nil, List.length_map, List.length_take, List.length_drop]); exact omQ'))), by (first | exact omQ | (clear hM; first | (rw [LEN_eq]; (try simp only [List.length_append, List.length_cons, List.length_nil, List.length_map, List.length_take, List.length_drop]); exact omQ'))), by (first | exact omQ | (clear hM; first | (rw [LEN_eq]; (try simp only [List.length_append, List.length_cons, List.length_nil, List.length_map, List.length_take, List.length_drop]); exact omQ')))⟩, by (first | exact omQ | (clear hM; first | (rw [LEN_eq]; (try simp only [List.length_append, List.length_cons, List.length_nil, List.length_map, List.length_take, List.length_drop]); exact omQ'))), iter_again hM hag1⟩
 ·rw [if_neg (ne_true h2)] at hM
  refine spQA (And.intro ha1 h2) ?_
  have nh2 := nzQ h2
  subst hM
  exact retC_view (lfQA (And.intro ha1 h2))
set_option maxHeartbeats 2000000 in
set_option maxRecDepth 100000 in
instance specieref46_number_ok   (s : (List UInt8))  : CM En (specieref46_number s) 44 [.str s] (fun y => .tup [.int .i64 y.1, .int .i64 y.2]) (fun _ => []) := by
 refine cmQ fun r hM => ?_
 rw [specieref46_number.eq_1] at hM
 refine enterV En_ok En_mo noJ Tryd.func44 rfl Tryd.ntmps44 (by kernel_rfl) fun hw => ct_start ?_
 refine spQ ?_
 replace hw := nzQ hw
 have hM0 := hM; clear hM; obtain ⟨f1, d1, hf1, hd1, hM⟩ := iter_opn hM0; clear hM0
 refine ct_loop (fun n S => ∃ p : Int × Int, S = (⟨[(0, .str s), (4, .int .i64 p.1), (5, .int .i64 p.2)], [], 0⟩ : St) ∧ ((0 ≤ p.2) ∧ (p.2 ≤ (s.length : Int))) ∧ s.length - (p.2 : Int).toNat < n ∧ iter n f1 d1 p = r) (s.length - (0 : Int).toNat + 1) _ sbQ sbQ ⟨(0, 0), rfl, ⟨by (first | exact omQ | (clear hM; first | (have h9 := s_ne (by assumption); exact omQ'))), by (first | exact omQ | (clear hM; first | (have h9 := s_ne (by assumption); exact omQ')))⟩, (Nat.lt_succ_self _), hM⟩ ?_
 clear hM
 rintro n1 S ⟨p1, rfl, hfa1, hm1, hM⟩
 have hM0 := hM; clear hM; obtain ⟨ag1, hag1, hM⟩ := iter_step hM0 (by omega) hf1; clear hM0
 replace hfa1 := nzQ hfa1
 replace hm1 := nzQ hm1
 refine spQ ?_
 refine guardC_t (fun h2 => ?_) (fun h2 => ?_)
 ·rw [if_pos h2] at hM
  refine spQA h2 ?_
  have nh2 := nzQ h2
  refine guardC_t (fun h3 => ?_) (fun h3 => ?_)
  ·rw [if_pos h3] at hM
   refine spQA h3 ?_
   have nh3 := nzQ h3
   refine bindC_intro (by (first | exact omQ | (clear hM; first | (have h9 := s_ne (by assumption); exact omQ')))) ?_
   refine spQ ?_
   refine guardC_t (fun h4 => ?_) (fun h4 => ?_)
   ·rw [if_pos h4] at hM
    refine spQA h4 ?_
    have nh4 := nzQ h4
    refine bindC_intro (by (first | exact omQ | (clear hM; first | (have h9 := s_ne (by assumption); exact omQ')))) ?_
    refine spQ ?_
    refine condC_intro (fun h5 => ?_) (fun h5 => ?_)
    ·rw [if_pos h5] at hM
     refine spQA h5 ?_
     have nh5 := nzQ h5
     refine bindC_intro (by (first | exact omQ | (clear hM; first | (have h9 := s_ne (by assumption); exact omQ')))) ?_
     refine spQ ?_
     have ha6 : addI .i64 p1.2 1 = (p1.2 + 1) := add_ok (by (first | exact omQ | (clear hM; first | (have h9 := s_ne (by assumption); exact omQ')))) (by (first | exact omQ | (clear hM; first | (have h9 := s_ne (by assumption); exact omQ'))))
     try simp only [ha6]
     refine lp_intro (n1 - 1) _ (by omega) sbQ sbQ ⟨((addI .i64 (mulI .i64 10 p1.1) (convI .i64 (subI .u8 ((s.getD (p1.2).toNat 0).toNat : Int) 48))), (p1.2 + 1)), rfl, ⟨by (first | exact omQ | (clear hM; first | (have h9 := s_ne (by assumption); exact omQ'))), by (first | exact omQ | (clear hM; first | (have h9 := s_ne (by assumption); exact omQ')))⟩, by (first | exact omQ | (clear hM; first | (have h9 := s_ne (by assumption); exact omQ'))), iter_again hM hag1⟩
    ·rw [if_neg (ne_true h5)] at hM
     refine spQA h5 ?_
     have nh5 := nzQ h5
     refine guardC_f (fun h7 => ?_) (fun h7 => ?_)
     ·rw [if_neg (ne_true h7)] at hM
      refine spQA h7 ?_
      have nh7 := nzQ h7
      refine guardC_t (fun h8 => ?_) (fun h8 => ?_)
      ·rw [if_pos h8] at hM
       refine spQA h8 ?_
       have nh8 := nzQ h8
       refine bindC_intro (by (first | exact omQ | (clear hM; first | (have h9 := s_ne (by assumption); exact omQ')))) ?_
       refine spQ ?_
       have hF := (And.intro h2 (And.intro h3 (And.intro h4 (And.intro h5 (And.intro h7 h8)))))
       exact auQ
      ·rw [if_neg (ne_true h8)] at hM
       refine spQA h8 ?_
       have nh8 := nzQ h8
       subst hM
       exact retC_view (lfQA (And.intro h2 (And.intro h3 (And.intro h4 (And.intro h5 (And.intro h7 h8))))))
     ·rw [if_pos h7] at hM
      refine spQA h7 ?_
      have nh7 := nzQ h7
      subst hM
      exact retC_view (lfQA (And.intro h2 (And.intro h3 (And.intro h4 (And.intro h5 h7)))))
   ·rw [if_neg (ne_true h4)] at hM
    refine spQA h4 ?_
    have nh4 := nzQ h4
    refine guardC_f (fun h10 => ?_) (fun h10 => ?_)
    ·rw [if_neg (ne_true h10)] at hM
     refine spQA h10 ?_
     have nh10 := nzQ h10
     refine guardC_t (fun h11 => ?_) (fun h11 => ?_)
     ·rw [if_pos h11] at hM
      refine spQA h11 ?_
      have nh11 := nzQ h11
      refine bindC_intro (by (first | exact omQ | (clear hM; first | (have h9 := s_ne (by assumption); exact omQ')))) ?_
      refine spQ ?_
      have hF := (And.intro h2 (And.intro h3 (And.intro h4 (And.intro h10 h11))))
      exact auQ
     ·rw [if_neg (ne_true h11)] at hM
      refine spQA h11 ?_
      have nh11 := nzQ h11
      subst hM
      exact retC_view (lfQA (And.intro h2 (And.intro h3 (And.intro h4 (And.intro h10 h11)))))
    ·rw [if_pos h10] at hM
     refine spQA h10 ?_
     have nh10 := nzQ h10
     subst hM
     exact retC_view (lfQA (And.intro h2 (And.intro h3 (And.intro h4 h10))))
  ·rw [if_neg (ne_true h3)] at hM
   refine spQA h3 ?_
   have nh3 := nzQ h3
   refine guardC_f (fun h13 => ?_) (fun h13 => ?_)
   ·rw [if_neg (ne_true h13)] at hM
    refine spQA h13 ?_
    have nh13 := nzQ h13
    refine guardC_t (fun h14 => ?_) (fun h14 => ?_)
    ·rw [if_pos h14] at hM
     refine spQA h14 ?_
     have nh14 := nzQ h14
     refine bindC_intro (by (first | exact omQ | (clear hM; first | (have h9 := s_ne (by assumption); exact omQ')))) ?_
     refine spQ ?_
     have hF := (And.intro h2 (And.intro h3 (And.intro h13 h14)))
     exact auQ
    ·rw [if_neg (ne_true h14)] at hM
     refine spQA h14 ?_
     have nh14 := nzQ h14
     subst hM
     exact retC_view (lfQA (And.intro h2 (And.intro h3 (And.intro h13 h14))))
   ·rw [if_pos h13] at hM
    refine spQA h13 ?_
    have nh13 := nzQ h13
    subst hM
    exact retC_view (lfQA (And.intro h2 (And.intro h3 h13)))
 ·rw [if_neg (ne_true h2)] at hM
  refine spQA h2 ?_
  have nh2 := nzQ h2
  refine guardC_f (fun h16 => ?_) (fun h16 => ?_)
  ·rw [if_neg (ne_true h16)] at hM
   refine spQA h16 ?_
   have nh16 := nzQ h16
   refine guardC_t (fun h17 => ?_) (fun h17 => ?_)
   ·rw [if_pos h17] at hM
    refine spQA h17 ?_
    have nh17 := nzQ h17
    refine bindC_intro (by (first | exact omQ | (clear hM; first | (have h9 := s_ne (by assumption); exact omQ')))) ?_
    refine spQ ?_
    have hF := (And.intro h2 (And.intro h16 h17))
    exact auQ
   ·rw [if_neg (ne_true h17)] at hM
    refine spQA h17 ?_
    have nh17 := nzQ h17
    subst hM
    exact retC_view (lfQA (And.intro h2 (And.intro h16 h17)))
  ·rw [if_pos h16] at hM
   refine spQA h16 ?_
   have nh16 := nzQ h16
   subst hM
   exact retC_view (lfQA (And.intro h2 h16))
set_option maxHeartbeats 2000000 in
set_option maxRecDepth 100000 in
instance specieref46_rule_ok   (s : (List UInt8))  : CM En (specieref46_rule s) 30 [.str s] (fun y => .tup [.agg [.int .i64 y.1.Kind, .int .i64 y.1.A, .int .i64 y.1.B], .bool y.2]) (fun _ => []) := by
 refine cmQ fun r hM => ?_
 rw [specieref46_rule.eq_1] at hM
 refine enterV En_ok En_mo noJ Tryd.func30 rfl Tryd.ntmps30 (by kernel_rfl) fun hw => ct_start ?_
 refine spQ ?_
 replace hw := nzQ hw
 have hM0 := hM; clear hM; obtain ⟨f1, d1, hf1, hd1, hM⟩ := iter_opn hM0; clear hM0
 refine ct_loop (fun n S => ∃ p : Int × S_api_Rule, S = (⟨[(0, .str s), (2, .ptr 0 0), (4, .int .i64 p.1)], [(0, .var 3 true (.agg [.int .i64 p.2.Kind, .int .i64 p.2.A, .int .i64 p.2.B]))], 1⟩ : St) ∧ ((1 ≤ p.1)) ∧ 6 - (p.1 : Int).toNat < n ∧ iter n f1 d1 p = r) (6 - (1 : Int).toNat + 1) _ sbQ (by simp only [go_sem, rowV_eq, rowV_eq0, List.length_replicate, rep_len, Int.toNat_natCast, ↓reduceIte, Nat.reduceEqDiff, Nat.reduceAdd, Int.reduceAdd, Nat.reduceMul, Nat.reduceLeDiff, Nat.reduceLT, Int.reduceLE, Int.reduceLT, Int.reduceNeg, Int.reduceToNat, map_st, mtL_repE, mtL_repM, subF, subH, mtO, mtB, mt, mtL, mtL_self, mt_self, ltV, ltL, ltB, eq_self, or_true, true_or, or_self, and_self, gt_cons0, gt_conss, Int.reduceSub]) ⟨(1, z_api_Rule), rfl, by (first | exact omQ | (clear hM; first | (simp only [List.length_take, List.length_drop, List.length_append, List.length_cons, List.length_nil] at *; exact omQ') | (rw [LEN_eq]; (try simp only [List.length_append, List.length_cons, List.length_nil, List.length_map, List.length_take, List.length_drop]); exact omQ'))), (Nat.lt_succ_self _), hM⟩ ?_
 clear hM
 rintro n1 S ⟨p1, rfl, hfa1, hm1, hM⟩
 have hM0 := hM; clear hM; obtain ⟨ag1, hag1, hM⟩ := iter_step hM0 (by omega) hf1; clear hM0
 replace hfa1 := nzQ hfa1
 replace hm1 := nzQ hm1
 refine spQ ?_
 refine condC_intro (fun h2 => ?_) (fun h2 => ?_)
 ·rw [if_pos h2] at hM
  refine spQA h2 ?_
  have nh2 := nzQ h2
  have hM0 := hM; clear hM; obtain ⟨x3, hx4, hM⟩ := letk_opn hM0; clear hM0
  have hcx3 := cmU hx4
  refine callC_give hcx3 clQ clQ (fun hw5 => ?_)
  replace hw5 := nzQ hw5
  refine spQ ?_
  have hq6 := word_len hx4
  replace hq6 := nzQ hq6
  refine bindC_intro (by (first | exact omQ | (clear hM; first | (simp only [List.length_take, List.length_drop, List.length_append, List.length_cons, List.length_nil] at *; exact omQ') | (rw [LEN_eq]; (try simp only [List.length_append, List.length_cons, List.length_nil, List.length_map, List.length_take, List.length_drop]); exact omQ')))) ?_
  refine spQ ?_
  refine guardC_f (fun h7 => ?_) (fun h7 => ?_)
  ·rw [if_neg (ne_true h7)] at hM
   refine spQA h7 ?_
   have nh7 := nzQ h7
   refine bindC_intro (by (first | exact omQ | (clear hM; first | (simp only [List.length_take, List.length_drop, List.length_append, List.length_cons, List.length_nil] at *; exact omQ') | (rw [LEN_eq]; (try simp only [List.length_append, List.length_cons, List.length_nil, List.length_map, List.length_take, List.length_drop]); exact omQ')))) ?_
   refine spQ ?_
   refine condC_intro (fun h8 => ?_) (fun h8 => ?_)
   ·rw [if_pos h8] at hM
    refine spQA h8 ?_
    have nh8 := nzQ h8
    have ha9 : addI .i64 p1.1 1 = (p1.1 + 1) := add_ok (by (first | exact omQ | (clear hM; first | (simp only [List.length_take, List.length_drop, List.length_append, List.length_cons, List.length_nil] at *; exact omQ') | (rw [LEN_eq]; (try simp only [List.length_append, List.length_cons, List.length_nil, List.length_map, List.length_take, List.length_drop]); exact omQ')))) (by (first | exact omQ | (clear hM; first | (simp only [List.length_take, List.length_drop, List.length_append, List.length_cons, List.length_nil] at *; exact omQ') | (rw [LEN_eq]; (try simp only [List.length_append, List.length_cons, List.length_nil, List.length_map, List.length_take, List.length_drop]); exact omQ'))))
    try simp only [ha9]
    refine lp_intro (n1 - 1) _ (by omega) sbQ sbQ ⟨((p1.1 + 1), p1.2), rfl, by (first | exact omQ | (clear hM; first | (simp only [List.length_take, List.length_drop, List.length_append, List.length_cons, List.length_nil] at *; exact omQ') | (rw [LEN_eq]; (try simp only [List.length_append, List.length_cons, List.length_nil, List.length_map, List.length_take, List.length_drop]); exact omQ'))), by (first | exact omQ | (clear hM; first | (simp only [List.length_take, List.length_drop, List.length_append, List.length_cons, List.length_nil] at *; exact omQ') | (rw [LEN_eq]; (try simp only [List.length_append, List.length_cons, List.length_nil, List.length_map, List.length_take, List.length_drop]); exact omQ'))), iter_again hM hag1⟩
   ·rw [if_neg (ne_true h8)] at hM
    refine spQA h8 ?_
    have nh8 := nzQ h8
    refine bindC_intro (by (first | exact omQ | (clear hM; first | (simp only [List.length_take, List.length_drop, List.length_append, List.length_cons, List.length_nil] at *; exact omQ') | (rw [LEN_eq]; (try simp only [List.length_append, List.length_cons, List.length_nil, List.length_map, List.length_take, List.length_drop]); exact omQ')))) ?_
    refine spQ ?_
    have hM0 := hM; clear hM; obtain ⟨x10, hx11, hM⟩ := letk_opn hM0; clear hM0
    have hcx10 := cmU hx11
    refine callC_give hcx10 clQ clQ (fun hw12 => ?_)
    replace hw12 := nzQ hw12
    refine spQ ?_
    have hq13 := rnum_after hx11
    replace hq13 := nzQ hq13
    refine condC_intro (fun h14 => ?_) (fun h14 => ?_)
    ·rw [if_pos h14] at hM
     refine spQA h14 ?_
     have nh14 := nzQ h14
     subst hM
     exact retC_view (lfQA (And.intro h2 (And.intro h7 (And.intro h8 h14))))
    ·rw [if_neg (ne_true h14)] at hM
     refine spQA h14 ?_
     have nh14 := nzQ h14
     refine bindC_intro (by (first | exact omQ | (clear hM; first | (simp only [List.length_take, List.length_drop, List.length_append, List.length_cons, List.length_nil] at *; exact omQ') | (rw [LEN_eq]; (try simp only [List.length_append, List.length_cons, List.length_nil, List.length_map, List.length_take, List.length_drop]); exact omQ')))) ?_
     refine spQ ?_
     refine condC_intro (fun h15 => ?_) (fun h15 => ?_)
     ·rw [if_pos h15] at hM
      refine spQA h15 ?_
      have nh15 := nzQ h15
      refine guardC_f (fun h16 => ?_) (fun h16 => ?_)
      ·rw [if_neg (ne_true h16)] at hM
       refine spQA h16 ?_
       have nh16 := nzQ h16
       refine bindC_intro (by (first | exact omQ | (clear hM; first | (simp only [List.length_take, List.length_drop, List.length_append, List.length_cons, List.length_nil] at *; exact omQ') | (rw [LEN_eq]; (try simp only [List.length_append, List.length_cons, List.length_nil, List.length_map, List.length_take, List.length_drop]); exact omQ')))) ?_
       refine spQ ?_
       refine condC_intro (fun h17 => ?_) (fun h17 => ?_)
       ·rw [if_pos h17] at hM
        refine spQA h17 ?_
        have nh17 := nzQ h17
        subst hM
        exact retC_view (lfQA (And.intro h2 (And.intro h7 (And.intro h8 (And.intro h14 (And.intro h15 (And.intro h16 h17)))))))
       ·rw [if_neg (ne_true h17)] at hM
        refine spQA h17 ?_
        have nh17 := nzQ h17
        refine bindC_intro (by (first | exact omQ | (clear hM; first | (simp only [List.length_take, List.length_drop, List.length_append, List.length_cons, List.length_nil] at *; exact omQ') | (rw [LEN_eq]; (try simp only [List.length_append, List.length_cons, List.length_nil, List.length_map, List.length_take, List.length_drop]); exact omQ')))) ?_
        refine spQ ?_
        have hM0 := hM; clear hM; obtain ⟨x18, hx19, hM⟩ := letk_opn hM0; clear hM0
        have hcx18 := cmU hx19
        refine callC_give hcx18 clQ clQ (fun hw20 => ?_)
        replace hw20 := nzQ hw20
        refine spQ ?_
        have hq21 := rnum_after hx19
        replace hq21 := nzQ hq21
        refine condC_intro (fun h22 => ?_) (fun h22 => ?_)
        ·rw [if_pos h22] at hM
         refine spQA h22 ?_
         have nh22 := nzQ h22
         subst hM
         exact retC_view (lfQA (And.intro h2 (And.intro h7 (And.intro h8 (And.intro h14 (And.intro h15 (And.intro h16 (And.intro h17 h22))))))))
        ·rw [if_neg (ne_true h22)] at hM
         refine spQA h22 ?_
         have nh22 := nzQ h22
         have ha23 : addI .i64 1 x18.2 = (1 + x18.2) := add_ok (by (first | exact omQ | (clear hM; first | (simp only [List.length_take, List.length_drop, List.length_append, List.length_cons, List.length_nil] at *; exact omQ') | (rw [LEN_eq]; (try simp only [List.length_append, List.length_cons, List.length_nil, List.length_map, List.length_take, List.length_drop]); exact omQ')))) (by (first | exact omQ | (clear hM; first | (simp only [List.length_take, List.length_drop, List.length_append, List.length_cons, List.length_nil] at *; exact omQ') | (rw [LEN_eq]; (try simp only [List.length_append, List.length_cons, List.length_nil, List.length_map, List.length_take, List.length_drop]); exact omQ'))))
         try simp only [ha23]
         refine bindC_intro (by (first | exact omQ | (clear hM; first | (simp only [List.length_take, List.length_drop, List.length_append, List.length_cons, List.length_nil] at *; exact omQ') | (rw [LEN_eq]; (try simp only [List.length_append, List.length_cons, List.length_nil, List.length_map, List.length_take, List.length_drop]); exact omQ')))) ?_
         refine spQA ha23 ?_
         subst hM
         exact retC_view (lfQA (And.intro ha23 (And.intro h2 (And.intro h7 (And.intro h8 (And.intro h14 (And.intro h15 (And.intro h16 (And.intro h17 h22)))))))))
      ·rw [if_pos h16] at hM
       refine spQA h16 ?_
       have nh16 := nzQ h16
       subst hM
       exact retC_view (lfQA (And.intro h2 (And.intro h7 (And.intro h8 (And.intro h14 (And.intro h15 h16))))))
     ·rw [if_neg (ne_true h15)] at hM
      refine spQA h15 ?_
      have nh15 := nzQ h15
      subst hM
      exact retC_view (lfQA (And.intro h2 (And.intro h7 (And.intro h8 (And.intro h14 h15)))))
  ·rw [if_pos h7] at hM
   refine spQA h7 ?_
   have nh7 := nzQ h7
   have ha24 : addI .i64 p1.1 1 = (p1.1 + 1) := add_ok (by (first | exact omQ | (clear hM; first | (simp only [List.length_take, List.length_drop, List.length_append, List.length_cons, List.length_nil] at *; exact omQ') | (rw [LEN_eq]; (try simp only [List.length_append, List.length_cons, List.length_nil, List.length_map, List.length_take, List.length_drop]); exact omQ')))) (by (first | exact omQ | (clear hM; first | (simp only [List.length_take, List.length_drop, List.length_append, List.length_cons, List.length_nil] at *; exact omQ') | (rw [LEN_eq]; (try simp only [List.length_append, List.length_cons, List.length_nil, List.length_map, List.length_take, List.length_drop]); exact omQ'))))
   try simp only [ha24]
   refine lp_intro (n1 - 1) _ (by omega) sbQ sbQ ⟨((p1.1 + 1), p1.2), rfl, by (first | exact omQ | (clear hM; first | (simp only [List.length_take, List.length_drop, List.length_append, List.length_cons, List.length_nil] at *; exact omQ') | (rw [LEN_eq]; (try simp only [List.length_append, List.length_cons, List.length_nil, List.length_map, List.length_take, List.length_drop]); exact omQ'))), by (first | exact omQ | (clear hM; first | (simp only [List.length_take, List.length_drop, List.length_append, List.length_cons, List.length_nil] at *; exact omQ') | (rw [LEN_eq]; (try simp only [List.length_append, List.length_cons, List.length_nil, List.length_map, List.length_take, List.length_drop]); exact omQ'))), iter_again hM hag1⟩
 ·rw [if_neg (ne_true h2)] at hM
  refine spQA h2 ?_
  have nh2 := nzQ h2
  subst hM
  exact retC_view (lfQA h2)
set_option maxHeartbeats 2000000 in
set_option maxRecDepth 100000 in
instance specieref46_Parse_ok   (s : (List UInt8))  : CM En (specieref46_Parse s) 12 [.str s] (fun y => .tup [.agg [.sl none 3 true (y.1.Rules.map e_api_Rule)], .int .i64 y.2]) (fun _ => []) := by
 refine cmQ fun r hM => ?_
 rw [specieref46_Parse.eq_1] at hM
 refine enterV En_ok En_mo noJ Tryd.func12 rfl Tryd.ntmps12 (by kernel_rfl) fun hw => ct_start ?_
 refine spQ ?_
 replace hw := nzQ hw
 have hM0 := hM; clear hM; obtain ⟨f1, d1, hf1, hd1, hM⟩ := iter_opn hM0; clear hM0
 refine ct_loopW (fun n S => ∃ p : Int × Int × S_api_Policy × List S_api_Rule, S = (⟨[(0, .str s), (2, .ptr 0 0), (4, .ptr 1 0), (5, .int .i64 p.1), (6, .int .i64 p.2.1)], [(0, .var 1 true (.agg [.sl none 3 true (p.2.2.1.Rules.map e_api_Rule)])), (1, .var 1 true (.agg [.own 2])), (2, .own 49 3 true none (p.2.2.2.map e_api_Rule))], 3⟩ : St) ∧ ((0 ≤ p.2.1) ∧ (p.2.1 ≤ (s.length : Int)) ∧ (0 ≤ p.1) ∧ (p.1 ≤ p.2.1) ∧ (((p.2.2.2).length : Int) ≤ p.2.1)) ∧ ((s.length : Int) - p.2.1).toNat < n ∧ iter n f1 d1 p = r) (((s.length : Int) - 0).toNat + 1) _ _ (weak_nilV 1 0 49 rfl rfl (by decide)) sbQ (by simp only [go_sem, rowV_eq, rowV_eq0, List.length_replicate, rep_len, Int.toNat_natCast, ↓reduceIte, Nat.reduceEqDiff, Nat.reduceAdd, Int.reduceAdd, Nat.reduceMul, Nat.reduceLeDiff, Nat.reduceLT, Int.reduceLE, Int.reduceLT, Int.reduceNeg, Int.reduceToNat, map_st, mtL_repE, mtL_repM, subF, subH, mtO, mtB, mt, mtL, mtL_self, mt_self, ltV, ltL, ltB, eq_self, or_true, true_or, or_self, and_self, gt_cons0, gt_conss, Int.reduceSub]) ⟨(0, 0, z_api_Policy, ([] : List S_api_Rule)), rfl, ⟨by (first | exact omQ | (clear hM; first | (rw [LEN_eq]; (try simp only [List.length_append, List.length_cons, List.length_nil, List.length_map, List.length_take, List.length_drop]); exact omQ'))), by (first | exact omQ | (clear hM; first | (rw [LEN_eq]; (try simp only [List.length_append, List.length_cons, List.length_nil, List.length_map, List.length_take, List.length_drop]); exact omQ'))), by (first | exact omQ | (clear hM; first | (rw [LEN_eq]; (try simp only [List.length_append, List.length_cons, List.length_nil, List.length_map, List.length_take, List.length_drop]); exact omQ'))), by (first | exact omQ | (clear hM; first | (rw [LEN_eq]; (try simp only [List.length_append, List.length_cons, List.length_nil, List.length_map, List.length_take, List.length_drop]); exact omQ'))), by (first | exact omQ | (clear hM; first | (rw [LEN_eq]; (try simp only [List.length_append, List.length_cons, List.length_nil, List.length_map, List.length_take, List.length_drop]); exact omQ')))⟩, (Nat.lt_succ_self _), hM⟩ ?_
 clear hM
 rintro n1 S ⟨p1, rfl, hfa1, hm1, hM⟩
 have hM0 := hM; clear hM; obtain ⟨ag1, hag1, hM⟩ := iter_step hM0 (by omega) hf1; clear hM0
 replace hfa1 := nzQ hfa1
 replace hm1 := nzQ hm1
 have ha1 : addI .i64 p1.2.1 1 = p1.2.1 + 1 := add_one (by (first | exact omQ | (clear hM; first | (rw [LEN_eq]; (try simp only [List.length_append, List.length_cons, List.length_nil, List.length_map, List.length_take, List.length_drop]); exact omQ')))) (by (first | exact omQ | (clear hM; first | (rw [LEN_eq]; (try simp only [List.length_append, List.length_cons, List.length_nil, List.length_map, List.length_take, List.length_drop]); exact omQ'))))
 refine spQA ha1 ?_
 refine condC_intro (fun h2 => ?_) (fun h2 => ?_)
 ·rw [if_pos h2] at hM
  refine spQA (And.intro ha1 h2) ?_
  have nh2 := nzQ h2
  refine bindC_intro (by (first | exact omQ | (clear hM; first | (rw [LEN_eq]; (try simp only [List.length_append, List.length_cons, List.length_nil, List.length_map, List.length_take, List.length_drop]); exact omQ')))) ?_
  refine spQA ha1 ?_
  refine condC_intro (fun h3 => ?_) (fun h3 => ?_)
  ·rw [if_pos h3] at hM
   refine spQA (And.intro ha1 h3) ?_
   have nh3 := nzQ h3
   refine lp_intro (n1 - 1) _ (by omega) sbQ sbQ ⟨(p1.1, (p1.2.1 + 1), p1.2.2.1, p1.2.2.2), rfl, ⟨by (first | exact omQ | (clear hM; first | (rw [LEN_eq]; (try simp only [List.length_append, List.length_cons, List.length_nil, List.length_map, List.length_take, List.length_drop]); exact omQ'))), by (first | exact omQ | (clear hM; first | (rw [LEN_eq]; (try simp only [List.length_append, List.length_cons, List.length_nil, List.length_map, List.length_take, List.length_drop]); exact omQ'))), by (first | exact omQ | (clear hM; first | (rw [LEN_eq]; (try simp only [List.length_append, List.length_cons, List.length_nil, List.length_map, List.length_take, List.length_drop]); exact omQ'))), by (first | exact omQ | (clear hM; first | (rw [LEN_eq]; (try simp only [List.length_append, List.length_cons, List.length_nil, List.length_map, List.length_take, List.length_drop]); exact omQ'))), by (first | exact omQ | (clear hM; first | (rw [LEN_eq]; (try simp only [List.length_append, List.length_cons, List.length_nil, List.length_map, List.length_take, List.length_drop]); exact omQ')))⟩, by (first | exact omQ | (clear hM; first | (rw [LEN_eq]; (try simp only [List.length_append, List.length_cons, List.length_nil, List.length_map, List.length_take, List.length_drop]); exact omQ'))), iter_again hM hag1⟩
  ·rw [if_neg (ne_true h3)] at hM
   refine spQA (And.intro ha1 h3) ?_
   have nh3 := nzQ h3
   refine bindC_intro (by (first | exact omQ | (clear hM; first | (rw [LEN_eq]; (try simp only [List.length_append, List.length_cons, List.length_nil, List.length_map, List.length_take, List.length_drop]); exact omQ')))) ?_
   refine spQA ha1 ?_
   have hM0 := hM; clear hM; obtain ⟨x4, hx5, hM⟩ := letk_opn hM0; clear hM0
   have hcx4 := cmU hx5
   refine callC_give hcx4 (clQA ha1) (clQA ha1) (fun hw6 => ?_)
   replace hw6 := nzQ hw6
   refine spQA ha1 ?_
   refine condC_intro (fun h7 => ?_) (fun h7 => ?_)
   ·rw [if_pos h7] at hM
    refine spQA (And.intro ha1 h7) ?_
    have nh7 := nzQ h7
    subst hM
    exact retC_view (lfQA (And.intro ha1 (And.intro h2 (And.intro h3 h7))))
   ·rw [if_neg (ne_true h7)] at hM
    refine spQA (And.intro ha1 h7) ?_
    have nh7 := nzQ h7
    refine bindC_intro (by (first | exact omQ | (clear hM; first | (rw [LEN_eq]; (try simp only [List.length_append, List.length_cons, List.length_nil, List.length_map, List.length_take, List.length_drop]); exact omQ')))) ?_
    refine spQA ha1 ?_
    refine lp_intro (n1 - 1) _ (by omega) sbQ sbQ ⟨((p1.2.1 + 1), (p1.2.1 + 1), p1.2.2.1, (p1.2.2.2 ++ ([x4.1] : List S_api_Rule))), rfl, ⟨by (first | exact omQ | (clear hM; first | (rw [LEN_eq]; (try simp only [List.length_append, List.length_cons, List.length_nil, List.length_map, List.length_take, List.length_drop]); exact omQ'))), by (first | exact omQ | (clear hM; first | (rw [LEN_eq]; (try simp only [List.length_append, List.length_cons, List.length_nil, List.length_map, List.length_take, List.length_drop]); exact omQ'))), by (first | exact omQ | (clear hM; first | (rw [LEN_eq]; (try simp only [List.length_append, List.length_cons, List.length_nil, List.length_map, List.length_take, List.length_drop]); exact omQ'))), by (first | exact omQ | (clear hM; first | (rw [LEN_eq]; (try simp only [List.length_append, List.length_cons, List.length_nil, List.length_map, List.length_take, List.length_drop]); exact omQ'))), by (first | exact omQ | (clear hM; first | (rw [LEN_eq]; (try simp only [List.length_append, List.length_cons, List.length_nil, List.length_map, List.length_take, List.length_drop]); exact omQ')))⟩, by (first | exact omQ | (clear hM; first | (rw [LEN_eq]; (try simp only [List.length_append, List.length_cons, List.length_nil, List.length_map, List.length_take, List.length_drop]); exact omQ'))), iter_again hM hag1⟩
 ·rw [if_neg (ne_true h2)] at hM
  refine spQA (And.intro ha1 h2) ?_
  have nh2 := nzQ h2
  have hF := (And.intro ha1 h2)
  exact auQ
end Go.Proofs.YteolfhljhnplpaaDoor
namespace Go.Proofs.YteolfhljhnplpaaDoor
open Go.RowKit Go.Shelf Go.Lib
set_option maxHeartbeats 1000000 in
set_option maxRecDepth 100000 in
theorem mark_used (b : Nat) (w : World) (h0 : w.cell? ⟨b, 0, none⟩ = some (.pointer (some ⟨b, 0, none⟩))) :
  Calls Tryd.prog 36 #[.pointer (some ⟨b, 0, none⟩)] w fun e w' => e = .returned (.tuple #[]) ∧ w' = w := by
 obtain ⟨j, hj, _⟩ := Option.map_eq_some_iff.1 (show (Tryd.prog.info? 47).map (·.size) = some 2 by kernel_rfl)
 go_enter Tryd.func36, Tryd.ntmps36
 go_wp2
 rw [Lib.run_neq_ptr_same w _ Tryd.underlying44 hj]
 go_wp2
 go_end0
 exact ⟨rfl, rfl⟩
set_option maxHeartbeats 1000000 in
set_option maxRecDepth 100000 in
theorem mark_fresh (b : Nat) (w : World) (h0 : w.cell? ⟨b, 0, none⟩ = some (.pointer none)) (hsh : w.shape? b = some (47, 2)) (hfz : w.frozen? ⟨b, 0, none⟩ = false) :
  Calls Tryd.prog 36 #[.pointer (some ⟨b, 0, none⟩)] w fun e w' => e = .returned (.tuple #[]) ∧ w' = w.setCell ⟨b, 0, none⟩ (.pointer (some ⟨b, 0, none⟩)) := by
 obtain ⟨j, hj, hjs⟩ := Option.map_eq_some_iff.1 (show (Tryd.prog.info? 47).map (·.size) = some 2 by kernel_rfl)
 have hl : liesAt Tryd.prog Tryd.prog.depth 47 (2 / Tryd.prog.cellsOf 47) 0 47 1 = true := by kernel_rfl
 go_enter Tryd.func36, Tryd.ntmps36
 go_wp2
 rw [Lib.run_to_unsafe w ⟨b, 0, none⟩ Tryd.underlying44 Tryd.underlying77 hj (by rw [hjs]; decide) hsh (Nat.zero_lt_succ 1)]
 simp only [Result.andThen]
 rw [Oper.upon_value]
 go_wp2
 rw [run_callFunc_extern Tryd.func45 (by kernel_rfl) (by kernel_rfl) (by kernel_rfl) (e := Extern.AbiNoEscape.same) (by kernel_rfl)]
 rw [Lib.run_noEscape]
 simp only [Result.andThen]
 rw [Oper.upon_value]
 go_wp2
 rw [Lib.run_from_unsafe w ⟨b, 0, none⟩ Tryd.underlying77 Tryd.underlying44 hj hsh hl]
 simp only [Result.andThen]
 rw [Oper.upon_value]
 go_wp2
 go_end0
 exact ⟨rfl, rfl⟩
theorem mark_any (B b : Nat) (bs : List Value) (w : World) (h : Lib.IsBuilderF 47 5 B b bs w) :
  Calls Tryd.prog 36 #[.pointer (some ⟨b, 0, none⟩)] w fun e w' => e = .returned (.tuple #[]) ∧ Lib.BuilderAtF 47 5 B b (.pointer (some ⟨b, 0, none⟩)) bs w' ∧ Below B w w' ∧ Lib.OthersKept 5 (some b) w w' := by
 rcases h with h | h
 ·refine (mark_fresh b w h.cell0 h.shape h.frozen0).mono ?_
  rintro e w' ⟨rfl, rfl⟩
  exact ⟨rfl, h.used _, (Below.refl B w).setCell (p := ⟨b, 0, none⟩) h.1 _, (Lib.OthersKept.refl 5 (some b) w).setCell ⟨b, 0, none⟩ rfl _⟩
 ·refine (mark_used b w h.cell0).mono ?_
  rintro e w' ⟨rfl, rfl⟩
  exact ⟨rfl, h, Below.refl B _, Lib.OthersKept.refl 5 (some b) _⟩
set_option maxHeartbeats 2000000 in
set_option maxRecDepth 100000 in
theorem put_byte (B b : Nat) (bs : List Value) (c : Int) (w : World) (h : Lib.IsBuilderF 47 5 B b bs w) (hlen : bs.length + 1 ≤ 140737488355328) (hBw : B ≤ w.heap.size) :
  Calls Tryd.prog 20 #[.pointer (some ⟨b, 0, none⟩), .int .u8 c] w fun e w' => e = .returned .nilIface ∧ Lib.BuilderAtF 47 5 B b (.pointer (some ⟨b, 0, none⟩)) (bs ++ [.int .u8 c]) w' ∧ Below B w w' ∧ Lib.OthersKept 5 (some b) w w' := by
 obtain ⟨i0, hi, hz0, hz1, hz2⟩ := info_parts (show (Tryd.prog.info? 5).map (fun i => (i.zero, i.size, i.bytes)) = some (some (.int .u8 0), 1, 1) by kernel_rfl)
 have eM : ∀ args w, (callFunc 36 args).run Tryd.prog w = .ok (.enter 36 args) w := enters_of Tryd.func36 (by kernel_rfl) rfl
 go_enter Tryd.func20, Tryd.ntmps20
 go_wp2_with (go_at_call 36; refine (mark_any B b bs _ h).mono ?_)
 rintro e w1 ⟨rfl, h1, hb1, hk1⟩
 obtain ⟨hB, v, hbk, hown, hne⟩ := h1
 have c0 : w1.cell? ⟨b, 0, none⟩ = some (.pointer (some ⟨b, 0, none⟩)) := by rw [Lib.cell_of_heap hbk]; rfl
 have c1 : w1.cell? ⟨b, 1, none⟩ = some v := by rw [Lib.cell_of_heap hbk]; rfl
 go_wp2_with (at_builtin; refine wpList_append_ownF _ rfl _ _ 45 rfl B 5 i0 (.int .u8 0) 1 1 Tryd.underlying45 hi hz0 hz1 hz2 rfl (by decide) _ _ _ rfl (hown.alloc _) ⟨w1.heap.size, 0, none⟩ 1 1 [.int .u8 c] rfl rfl ?c1 ?c2 ?c3 ?c4 ?c5 ?_)
 case c1 =>
  intro j u hj
  match j, hj with
  | 0, hj => simp at hj; subst hj; simp [Addr.add]
 case c2 => intro u hu; simp at hu; subst hu; rfl
 case c3 => unfold maxLen; omega
 case c4 => omega
 case c5 => have := hb1.size; simp; omega
 intro v' w2 hown' hgrow _
 have hlt : b < w1.heap.size := by
  rcases Nat.lt_or_ge b w1.heap.size with h' | h'
  ·exact h'
  ·simp [Array.getElem?_eq_none h'] at hbk
 have hb2 : w2.heap[b]? = some (.cells #[.pointer (some ⟨b, 0, none⟩), v] 47 (0, 0)) := by
  rw [hgrow.block b (by simp; omega) (fun e => hne e.symm), Lib.alloc_old w1 _ b hlt]
  exact hbk
 have d0 : w2.cell? ⟨b, 0, none⟩ = some (.pointer (some ⟨b, 0, none⟩)) := by rw [Lib.cell_of_heap hb2]; rfl
 have d1 : w2.cell? ⟨b, 1, none⟩ = some v := by rw [Lib.cell_of_heap hb2]; rfl
 have f1 : w2.frozen? ⟨b, 1, none⟩ = false := Lib.frozen_of_heap hb2 1
 obtain ⟨g, cap, rfl⟩ : ∃ g cap, v' = .slice (some ⟨g, 0, none⟩) (bs.length + 1) cap := by
  rcases hown'.2 with ⟨_, h0⟩ | ⟨g, cap, cur, fz, hv, _⟩
  ·omega
  ·exact ⟨g, cap, hv⟩
 go_wp2
 go_ret
 refine ⟨rfl, ?_, ?_, ((hk1.alloc _).grown hgrow (Lib.ownsRowF_kind (hown.alloc _))).setCell ⟨b, 1, none⟩ rfl _⟩
 ·exact Lib.BuilderAtF.put (T := 47) (e := 5) hB hb2 (bs' := bs ++ [.int .u8 c]) (by simpa using hown') (by decide)
 ·exact ((hb1.alloc (by have := hb1.size; omega) _).grown hgrow (by have := hb1.size; simp; omega) (fun k hk => (hown.lt k hk).1)).setCell (p := ⟨b, 1, none⟩) hB _
theorem str_data (l : List UInt8) : Lib.strCells ⟨l.toArray⟩ = Lib.byteCells l := by
 simp [Lib.strCells, Lib.byteCells]
set_option maxHeartbeats 2000000 in
set_option maxRecDepth 100000 in
theorem put_str (B b : Nat) (bs : List Value) (s : ByteArray) (w : World) (h : Lib.IsBuilderF 47 5 B b bs w) (hlen : bs.length + s.size ≤ 140737488355328) (hBw : B ≤ w.heap.size) :
  Calls Tryd.prog 17 #[.pointer (some ⟨b, 0, none⟩), .string s] w fun e w' => e = .returned (.tuple #[.int .i64 s.size, .nilIface]) ∧ Lib.BuilderAtF 47 5 B b (.pointer (some ⟨b, 0, none⟩)) (bs ++ Lib.strCells s) w' ∧ Below B w w' ∧ Lib.OthersKept 5 (some b) w w' := by
 obtain ⟨i0, hi, hz0, hz1, hz2⟩ := info_parts (show (Tryd.prog.info? 5).map (fun i => (i.zero, i.size, i.bytes)) = some (some (.int .u8 0), 1, 1) by kernel_rfl)
 have eM : ∀ args w, (callFunc 36 args).run Tryd.prog w = .ok (.enter 36 args) w := enters_of Tryd.func36 (by kernel_rfl) rfl
 go_enter Tryd.func17, Tryd.ntmps17
 go_wp2_with (go_at_call 36; refine (mark_any B b bs _ h).mono ?_)
 rintro e w1 ⟨rfl, h1, hb1, hk1⟩
 obtain ⟨hB, v, hbk, hown, hne⟩ := h1
 have c0 : w1.cell? ⟨b, 0, none⟩ = some (.pointer (some ⟨b, 0, none⟩)) := by rw [Lib.cell_of_heap hbk]; rfl
 have c1 : w1.cell? ⟨b, 1, none⟩ = some v := by rw [Lib.cell_of_heap hbk]; rfl
 go_wp2_with (at_builtin; refine Lib.wpList_append_own_stringF _ rfl _ _ 45 9 rfl B 5 i0 Tryd.underlying45 Tryd.underlying9 hi hz0 hz1 hz2 _ _ _ rfl hown s rfl ?c3 ?c4 ?c5 ?_)
 case c3 => unfold maxLen; omega
 case c4 => omega
 case c5 => have := hb1.size; omega
 intro v' w2 hown' hgrow _
 have hlt : b < w1.heap.size := by
  rcases Nat.lt_or_ge b w1.heap.size with h' | h'
  ·exact h'
  ·simp [Array.getElem?_eq_none h'] at hbk
 have hb2 : w2.heap[b]? = some (.cells #[.pointer (some ⟨b, 0, none⟩), v] 47 (0, 0)) := by
  rw [hgrow.block b hlt (fun e => hne e.symm)]
  exact hbk
 have d0 : w2.cell? ⟨b, 0, none⟩ = some (.pointer (some ⟨b, 0, none⟩)) := by rw [Lib.cell_of_heap hb2]; rfl
 have d1 : w2.cell? ⟨b, 1, none⟩ = some v := by rw [Lib.cell_of_heap hb2]; rfl
 have f1 : w2.frozen? ⟨b, 1, none⟩ = false := Lib.frozen_of_heap hb2 1
 obtain ⟨ao, n', cap, rfl⟩ : ∃ ao n' cap, v' = .slice ao n' cap := by
  rcases hown'.2 with ⟨hv, _⟩ | ⟨g, cap, cur, fz, hv, _⟩
  ·exact ⟨_, _, _, hv⟩
  ·exact ⟨_, _, _, hv⟩
 go_wp2
 go_ret2
 refine ⟨rfl, ?_, ?_, (hk1.grown hgrow (Lib.ownsRowF_kind hown)).setCell ⟨b, 1, none⟩ rfl _⟩
 ·exact Lib.BuilderAtF.put (T := 47) (e := 5) hB hb2 (bs' := bs ++ Lib.strCells s) (by simpa [Lib.strCells_length] using hown') (by decide)
 ·exact (hb1.grown hgrow (by have := hb1.size; omega) (fun k hk => (hown.lt k hk).1)).setCell (p := ⟨b, 1, none⟩) hB _
theorem str_any (B b : Nat) (l : List UInt8) (w : World) (h : Lib.IsBuilderF 47 5 B b (Lib.byteCells l) w) (hBw : B ≤ w.heap.size) :
  Calls Tryd.prog 21 #[.pointer (some ⟨b, 0, none⟩)] w fun e w' => e = .returned (.string ⟨l.toArray⟩) ∧ (Lib.IsBuilderF 47 5 B b (Lib.byteCells l) w' ∧ Below B w w' ∧ Lib.OthersKept 5 (some b) w w') :=
 Any.Builder_String_any_k Tryd.lays169 Tryd.Builder_Extra_169 B b l w h hBw
end Go.Proofs.YteolfhljhnplpaaDoor
namespace Go.Proofs.YteolfhljhnplpaaDoor
open Go.RowKit Go.Shelf Go.Lib
theorem isb_below {T e : TypeId} {B b : Nat} {bs : List Value} {W W' : World} (h : Lib.IsBuilderF T e B b bs W) (hb : Below W.heap.size W W') : Lib.IsBuilderF T e B b bs W' := by
 have one : ∀ p, Lib.BuilderAtF T e B b p bs W → Lib.BuilderAtF T e B b p bs W' := fun p h => by
  have hlt := h.lt
  obtain ⟨h1, v, h2, h3, h4⟩ := h
  exact ⟨h1, v, by rw [hb.block b hlt]; exact h2, h3.kept (row := none) ⟨hb.os, hb.tape, hb.output, hb.size, fun k hk _ => hb.block k hk⟩ (Classical.em _), h4⟩
 rcases h with h | h
 ·exact .inl (one _ h)
 ·exact .inr (one _ h)
section
variable {P : Program} {K : Value → World → Prop} {F : Fm} {o : Oper} {w : World}
theorem y_cell {T : TypeId} {x : Operand} {ad : Addr} {v : Value} (ho : o.op = .load T x) (hT : ∀ w, (isAgg T).run P w = .ok false w) (hx : ev F x = .pointer (some ad)) (hc : w.cell? ad = some v) (h : K v w) : Yields P K (run P F o w) := by
 refine yv (v := v) (w' := w) ?_ h
 simp [run, execOp, ho, hx, Instr.loadAt, Instr.sureAddr, loadVar, hT, hc]
theorem y_cat {T U : TypeId} {x y : Operand} {a b : List UInt8} (ho : o.op = .binOp .add T x y U) (hx : ev F x = .string ⟨a.toArray⟩) (hy : ev F y = .string ⟨b.toArray⟩) (hl : a.length + b.length ≤ 1000000) (h : K (.string ⟨(a ++ b).toArray⟩) w) : Yields P K (run P F o w) := by
 refine yv (v := .string ⟨(a ++ b).toArray⟩) (w' := w) ?_ h
 have ha : (⟨a.toArray⟩ : ByteArray).size = a.length := by show a.toArray.size = _; simp
 have hb : (⟨b.toArray⟩ : ByteArray).size = b.length := by show b.toArray.size = _; simp
 simp [run, execOp, ho, hx, hy, eqGuard, binOp, Op.stringOp, str_append, ha, hb]
 omega
theorem y_idx {T E : TypeId} {x y : Operand} {i : Int} {b o1 n cap : Nat} (ho : o.op = .indexAddr T x y) (hT : P.underlying T = some (.slice E)) (hE : ∀ w, (sizeOf E).run P w = .ok 1 w) (hx : ev F x = .slice (some ⟨b, o1, none⟩) n cap) (hy : ev F y = .int .i64 i) (hi : 0 ≤ i ∧ i < n)
  (h : K (.pointer (some ⟨b, o1 + i.toNat, none⟩)) w) : Yields P K (run P F o w) := by
 have hru : (underlying T).run P w = .ok (.slice E) w := by simp [underlying, hT]
 have hadd : (⟨b, o1, none⟩ : Addr).add i.toNat = ⟨b, o1 + i.toNat, none⟩ := by unfold Addr.add; split <;> simp_all
 refine yv (v := .pointer (some ⟨b, o1 + i.toNat, none⟩)) (w' := w) ?_ h
 simp [run, execOp, ho, Instr.indexAt, hx, hy, asIntOf, hru, hi.1, hi.2, hE, hadd]
end
theorem rdE_str {c : Cx} : ∀ {l : List (List UInt8)} {cs : List Value}, rdE c 1 false (l.map V.str) cs → cs = (l.map fun x => (⟨x.toArray⟩ : ByteArray)).map Value.string
 | [], _, h => h
 | x :: l, cs, h => by
  simp only [List.map_cons, rdE] at h
  obtain ⟨c1, c2, rfl, ⟨⟨h1, h2, h3⟩, h4⟩, h5⟩ := h
  match c1, h1 with
  | [u], _ =>
   have h4' : u = .string ⟨x.toArray⟩ := h4.1
   rw [rdE_str h5, h4']; rfl
def nameL : List (List UInt8) := [[97, 109, 111, 117, 110, 116], [99, 111, 105, 110, 115], [104, 111, 112, 115], [111, 112, 101, 110], [104, 111, 117, 114, 115]]
theorem nameL_at {k : Int} (h : 1 ≤ k ∧ k ≤ 5) : nameL[(k - 1).toNat]? = some (wd k) := by
 have : k = 1 ∨ k = 2 ∨ k = 3 ∨ k = 4 ∨ k = 5 := by omega
 rcases this with rfl | rfl | rfl | rfl | rfl <;> rfl
theorem names_rd {c : Cx} {v : Value} (h : rd ro0 c (.sl none 1 false (nameL.map V.str)) v) : ∃ b o cap, v = .slice (some ⟨b, o, none⟩) 5 cap ∧ b < c.w.heap.size ∧ b ∉ c.X ∧ ∀ k : Int, 1 ≤ k → k ≤ 5 → c.w.cell? ⟨b, o + (k - 1).toNat, none⟩ = some (.string ⟨(wd k).toArray⟩) := by
 simp only [rd] at h
 obtain ⟨a, cap, rfl, _, _, hs⟩ := h
 rcases hs with h0 | ⟨b, o, cs, rfl, hb, hX, hcell, hE⟩
 ·cases h0
 ·have hcs := rdE_str hE
  subst hcs
  refine ⟨b, o, cap, rfl, hb, hX, fun k h1 h2 => hcell _ _ ?_⟩
  rw [List.getElem?_map, List.getElem?_map, nameL_at ⟨h1, h2⟩]
  rfl
def PhS (l : List V) : Ph := ⟨fun v c => rd ro0 c (.sl none 1 false l) v, fun h k => rd_mono k.pub h⟩
def PhC (u : Value) : Ph := ⟨fun v c => ∃ b o, v = .pointer (some ⟨b, o, none⟩) ∧ b < c.w.heap.size ∧ b ∉ c.X ∧ c.w.cell? ⟨b, o, none⟩ = some u, fun {v c c'} h k => by
 obtain ⟨b, o, e, h1, h2, h3⟩ := h
 have kb := k.below.block b h1
 exact ⟨b, o, e, Nat.lt_of_lt_of_le h1 k.size, (k.pub.keep b h1 h2).1, by unfold World.cell? at h3 ⊢; rw [kb]; exact h3⟩⟩
theorem act40 {F : Fm} {a : Act} (h : Fr 40 F a) : a = { tmps := #[F 0, F 1, F 2, F 3, F 4, F 5, F 6, F 7, F 8, F 9, F 10, F 11, F 12, F 13, F 14, F 15, F 16, F 17, F 18, F 19, F 20, F 21, F 22, F 23, F 24, F 25, F 26, F 27, F 28, F 29, F 30, F 31, F 32, F 33, F 34, F 35, F 36, F 37, F 38, F 39], defers := [] } := by
 obtain ⟨tm, df⟩ := a
 have h1 : tm.size = 40 := h.size
 have h2 : df = [] := h.defers
 subst h2
 congr 1
 refine Array.ext (by rw [h1]; rfl) fun i hi hj => ?_
 have h3 := h.slot i
 have h4 : tm.getD i undef = tm[i] := by simp [Array.getD, hi]
 change tm.getD i undef = F i at h3
 rw [← h4, h3]
 have hi' : i < 40 := by omega
 have key : ∀ j : Fin 40, F j.val = (#[F 0, F 1, F 2, F 3, F 4, F 5, F 6, F 7, F 8, F 9, F 10, F 11, F 12, F 13, F 14, F 15, F 16, F 17, F 18, F 19, F 20, F 21, F 22, F 23, F 24, F 25, F 26, F 27, F 28, F 29, F 30, F 31, F 32, F 33, F 34, F 35, F 36, F 37, F 38, F 39] : Array Value)[j.val]'j.isLt := by
  intro j
  match j with
  | ⟨0, _⟩ => rfl
  | ⟨1, _⟩ => rfl
  | ⟨2, _⟩ => rfl
  | ⟨3, _⟩ => rfl
  | ⟨4, _⟩ => rfl
  | ⟨5, _⟩ => rfl
  | ⟨6, _⟩ => rfl
  | ⟨7, _⟩ => rfl
  | ⟨8, _⟩ => rfl
  | ⟨9, _⟩ => rfl
  | ⟨10, _⟩ => rfl
  | ⟨11, _⟩ => rfl
  | ⟨12, _⟩ => rfl
  | ⟨13, _⟩ => rfl
  | ⟨14, _⟩ => rfl
  | ⟨15, _⟩ => rfl
  | ⟨16, _⟩ => rfl
  | ⟨17, _⟩ => rfl
  | ⟨18, _⟩ => rfl
  | ⟨19, _⟩ => rfl
  | ⟨20, _⟩ => rfl
  | ⟨21, _⟩ => rfl
  | ⟨22, _⟩ => rfl
  | ⟨23, _⟩ => rfl
  | ⟨24, _⟩ => rfl
  | ⟨25, _⟩ => rfl
  | ⟨26, _⟩ => rfl
  | ⟨27, _⟩ => rfl
  | ⟨28, _⟩ => rfl
  | ⟨29, _⟩ => rfl
  | ⟨30, _⟩ => rfl
  | ⟨31, _⟩ => rfl
  | ⟨32, _⟩ => rfl
  | ⟨33, _⟩ => rfl
  | ⟨34, _⟩ => rfl
  | ⟨35, _⟩ => rfl
  | ⟨36, _⟩ => rfl
  | ⟨37, _⟩ => rfl
  | ⟨38, _⟩ => rfl
  | ⟨39, _⟩ => rfl
  | ⟨i + 40, h⟩ => exact absurd (show i + 40 < 40 from h) (by omega)
 exact key ⟨i, hi'⟩
theorem y_ok {f : FuncId} {ws : List V} {r : V} {F : Fm} {o : Oper} {c : Cx} {l : List Operand} {ats : Array TypeId} {us : List Value} {K : Value → World → Prop} (h : CallOk En f ws r []) (ho : o.op = .call { callee := .value (.func f), args := l.toArray, argTypes := ats })
  (hg : Gl En c) (hus : l.map (ev F) = us) (hr : rdT ro0 c ws us) (hK : ∀ v c' ρ, c.le c' → rd ρ c' r v → K v c'.w) : Yields En.P K (run En.P F o c.w) := by
 have e : run En.P F o c.w = .ok (.enter f us.toArray) c.w := by
  simp [run, execOp, ho, resolve, ev, Deferred.ofValue, invoke, h.1, ← hus]
 rw [e]
 exact (h.2 c.noY us rfl (hg.mono c.pub_noY) (rdT_mono c.pub_noY hr)).mono fun e w' ⟨v, c', ρ, e1, e2, hle, hv, _⟩ => ⟨v, e1, by rw [← e2]; exact hK v c' ρ ⟨hle.1, hle.2⟩ hv⟩
theorem y_enter {P : Program} {f : FuncId} {vs : Array Value} {F : Fm} {o : Oper} {w : World} {K : Value → World → Prop} (hr : run P F o w = .ok (.enter f vs) w) (h : Calls P f vs w fun e w' => ∃ v, e = .returned v ∧ K v w') : Yields P K (run P F o w) := by
 rw [hr]; exact h
theorem wd_le (k : Int) : (wd k).length ≤ 6 := by
 unfold wd
 split
 ·decide
 split
 ·decide
 split
 ·decide
 split <;> decide
theorem itoa_le {n : Int} (h : 0 ≤ n ∧ n ≤ 1099511627776) : (Lib.itoa n).length ≤ 21 := Lib.itoa_length_le n (by omega) (by omega)
theorem headI_le {r : S_api_Rule} (h : ruleOk r = true) : (headI r).length ≤ 28 := by
 have h1 := wd_le r.Kind
 have h2 := itoa_le (ruleOk_spec h).2.1
 unfold headI
 simp only [List.length_append, List.length_singleton]
 omega
theorem ltxI_le {r : S_api_Rule} (h : ruleOk r = true) : (ltxI r).length ≤ 50 := by
 have h1 := headI_le h
 have h2 := (ruleOk_spec h).2.2
 have h3 := itoa_le (n := r.B) ⟨h2.1, by omega⟩
 unfold ltxI
 split
 ·simp only [List.length_append, List.length_singleton]; omega
 ·simp only [List.length_append, List.length_nil]; omega
theorem txtI_le : ∀ l : List S_api_Rule, (∀ r ∈ l, ruleOk r = true) → (txtI l).length ≤ 51 * l.length
 | [], _ => Nat.zero_le _
 | r :: l, h => by
  have h1 := ltxI_le (h r (by simp))
  have h2 := txtI_le l (fun x hx => h x (by simp [hx]))
  have e : txtI (r :: l) = ltxI r ++ [10] ++ txtI l := by simp [txtI]
  rw [e]
  simp only [List.length_append, List.length_cons, List.length_nil]
  omega
theorem rulesOk_spec {l : List S_api_Rule} (h : rulesOk l = true) : l.length ≤ 20 ∧ ∀ r ∈ l, ruleOk r = true := by
 unfold rulesOk at h
 rw [Bool.and_eq_true, decide_eq_true_eq] at h
 exact ⟨h.1, List.all_eq_true.1 h.2⟩
theorem mk_size (l : List UInt8) : (⟨l.toArray⟩ : ByteArray).size = l.length := by show l.toArray.size = _; simp
end Go.Proofs.YteolfhljhnplpaaDoor
namespace Go.Proofs.YteolfhljhnplpaaDoor
open Go.RowKit Go.Shelf Go.Lib
theorem rdE_rule {c : Cx} : ∀ {l : List S_api_Rule} {cs : List Value}, rdE c 3 true (l.map e_api_Rule) cs → ∀ (k : Nat) (r : S_api_Rule), l[k]? = some r → cs[3 * k]? = some (.int .i64 r.Kind) ∧ cs[3 * k + 1]? = some (.int .i64 r.A) ∧ cs[3 * k + 2]? = some (.int .i64 r.B) ∧ Rng .i64 r.A ∧ Rng .i64 r.B
 | [], _, _, k, r, hr => by cases hr
 | x :: l, cs, h, k, r, hr => by
  simp only [List.map_cons, rdE] at h
  obtain ⟨c1, c2, rfl, ⟨⟨h1, _, _⟩, h4⟩, h5⟩ := h
  simp only [e_api_Rule, mkV, rd, rdC] at h4
  obtain ⟨cs1, e1, u0, d0, rfl, _, ⟨rfl, _⟩, u1, d1, rfl, _, ⟨rfl, g1⟩, u2, d2, rfl, _, ⟨rfl, g2⟩, rfl⟩ := h4
  have e2 : c1 = [.int .i64 x.Kind, .int .i64 x.A, .int .i64 x.B] := by simpa using e1
  subst e2
  match k, hr with
  | 0, hr =>
   cases hr
   exact ⟨rfl, rfl, rfl, g1, g2⟩
  | k + 1, hr =>
   have ih := rdE_rule h5 k r hr
   have e3 : 3 * (k + 1) = 3 * k + 3 := by omega
   rw [e3]
   exact ih
set_option maxHeartbeats 4000000 in
set_option maxRecDepth 100000 in
theorem text_calls (hV : ∀ l : List S_api_Rule, CallOk En 8 [.agg [.sl none 3 true (l.map e_api_Rule)]] (.bool (rulesOk l)) [])
  (hN : CallOk En 18 [] (.sl none 1 false (nameL.map V.str)) [])
  (hIt : ∀ n : Int, CallOk En 19 [.int .i64 n] (.str (Lib.itoa n)) [])
  (c : Cx) (hg : Gl En c) (l : List S_api_Rule) (u : Value) (hu : rd ro0 c (.sl none 3 true (l.map e_api_Rule)) u) (hR : rulesOk l = true) :
  Calls Tryd.prog 6 #[.agg #[u]] c.w fun e w' => e = .returned (.tuple #[.string ⟨(txtI l).toArray⟩, .int .i64 0]) ∧ Below c.w.heap.size c.w w' := by
 have hu' := hu
 simp only [rd] at hu'
 obtain ⟨a, cap, rfl, hlen, _, hs⟩ := hu'
 rw [List.length_map] at hlen hu ⊢
 have hV' : ∀ c' : Cx, c'.Y = [] → Gl En c' → ∀ v, rd ro0 c' (.sl none 3 true (l.map e_api_Rule)) v → Calls Tryd.prog 8 #[.agg #[v]] c'.w (fun e w' => e = .returned (.bool true) ∧ Below c'.w.heap.size c'.w w') := fun c' h1 h2 v h3 => by
  refine ((hV l).2 c' [.agg #[v]] h1 h2 ⟨_, _, rfl, ⟨[v], rfl, v, [], rfl, ?_, h3, rfl⟩, rfl⟩).mono ?_
  ·obtain ⟨_, _, rfl, _⟩ := h3; rfl
  ·rintro e w' ⟨v, c2, ρ, rfl, rfl, hle, hb, _⟩
   have hb' : v = .bool (rulesOk l) := hb
   rw [hR] at hb'
   subst hb'
   exact ⟨rfl, hle.below⟩
 have hVc : Calls Tryd.prog 8 #[.agg #[.slice a l.length cap]] (c.w.alloc (.cells #[.slice a l.length cap] 24)) (fun e w' => e = .returned (.bool true) ∧ Below (c.w.alloc (.cells #[.slice a l.length cap] 24)).heap.size (c.w.alloc (.cells #[.slice a l.length cap] 24)) w') :=
  hV' (c.new (.cells #[.slice a l.length cap] 24)) rfl (hg.mono (c.le_new _).pub) _ (rd_mono (c.le_new _).pub hu)
 go_enter Tryd.func6, Tryd.ntmps6
 go_wp2_with (go_at_call 8; refine hVc.mono ?_)
 rintro e w1 ⟨rfl, hb1⟩
 have hs0 : (c.w.alloc (.cells #[.slice a l.length cap] 24)).heap.size = c.w.heap.size + 1 := by simp
 rw [hs0] at hb1
 have hsz : c.w.heap.size + 1 ≤ w1.heap.size := by have := hb1.size; omega
 have hpar : w1.heap[c.w.heap.size]? = some (.cells #[.slice a l.length cap] 24 (0, 0)) := by
  rw [hb1.block c.w.heap.size (by omega)]; exact heap_alloc_new c.w _
 have hw1 : ∀ o, (w1.alloc o).cell? ⟨c.w.heap.size, 0, none⟩ = some (.slice a l.length cap) := fun o => by
  unfold World.cell?
  rw [Lib.alloc_old w1 o _ (show c.w.heap.size < w1.heap.size by omega), hpar]
  rfl
 have fo0 : FieldOk Tryd.prog 49 0 0 := fieldOk Tryd.underlying49 rfl rfl Tryd.sizeOf3
 have fo1 : FieldOk Tryd.prog 49 1 1 := fieldOk Tryd.underlying49 rfl rfl Tryd.sizeOf3
 have hbc : Below c.w.heap.size c.w w1 := ((Below.refl _ c.w).alloc (Nat.le_refl _) _).trans (hb1.mono (by omega))
 go_wp2
 go_loopw [13] (fun i wr => ∃ k : Nat, k ≤ l.length ∧ i = .int .i64 k ∧ Lib.IsBuilderF 47 5 w1.heap.size w1.heap.size (Lib.byteCells (txtI (l.take k))) wr ∧ Below w1.heap.size w1 wr ∧ w1.heap.size + 1 ≤ wr.heap.size) (fun i _ => l.length - (Go.RowKit.intOf i).toNat)
 case atStart =>
  exact ⟨0, by omega, rfl, Lib.IsBuilderF.of (Lib.fresh_isBuilder 47 5 w1), (Below.refl _ w1).alloc (Nat.le_refl _) _, by simp⟩
 case round =>
  obtain ⟨k, hk, rfl, hI, hbw, hsw⟩ := hrel
  by_cases hlt : k < l.length
  ·have hq : (k : Int) < (l.length : Int) := by omega
   obtain ⟨b, o, cs, rfl, hb, hbX, hcell, hE⟩ := hs.resolve_left (by intro h; have := congrArg List.length h; rw [List.length_map, List.length_nil] at this; omega)
   generalize hr : l[k] = r
   have hrk : l[k]? = some r := by rw [List.getElem?_eq_getElem hlt, hr]
   obtain ⟨q0, q1, q2, rA, rB⟩ := rdE_rule hE k r hrk
   have hcl : ∀ W, Below w1.heap.size w1 W → W.cell? ⟨b, o + k * 3, none⟩ = some (.int .i64 r.Kind) ∧ W.cell? ⟨b, o + k * 3 + 1, none⟩ = some (.int .i64 r.A) ∧ W.cell? ⟨b, o + k * 3 + 2, none⟩ = some (.int .i64 r.B) := fun W hW => by
    have hb1 : W.heap[b]? = c.w.heap[b]? := by rw [hW.block b (by omega), hbc.block b hb]
    have g0 := hcell _ _ q0
    have g1 := hcell _ _ q1
    have g2 := hcell _ _ q2
    rw [show o + 3 * k = o + k * 3 by omega] at g0
    rw [show o + (3 * k + 1) = o + k * 3 + 1 by omega] at g1
    rw [show o + (3 * k + 2) = o + k * 3 + 2 by omega] at g2
    unfold World.cell? at g0 g1 g2 ⊢
    rw [hb1]
    exact ⟨g0, g1, g2⟩
   obtain ⟨f0, f1, f2⟩ := hcl _ hbw
   have hro : ruleOk r = true := (rulesOk_spec hR).2 r (hr ▸ List.getElem_mem hlt)
   have hll := (rulesOk_spec hR).1
   have htk : (txtI (l.take k)).length ≤ 1020 := by
    have h1 := txtI_le (l.take k) (fun x hx => (rulesOk_spec hR).2 x (List.mem_of_mem_take hx))
    rw [List.length_take] at h1
    omega
   obtain ⟨hK9, hA9, hB9⟩ := ruleOk_spec hro
   have lA := itoa_le hA9
   have lW := wd_le r.Kind
   have lH := headI_le hro
   go_wp2
   generalize hW0 : wr.alloc (Obj.cells #[.int .i64 r.Kind, .int .i64 r.A, .int .i64 r.B] 49) = W0
   have hb0 : Below w1.heap.size w1 W0 := hW0 ▸ hbw.alloc (by omega) _
   have hbw0 : Below wr.heap.size wr W0 := hW0 ▸ (Below.refl _ wr).alloc (Nat.le_refl _) _
   have hs0' : W0.heap.size = wr.heap.size + 1 := by rw [← hW0]; simp
   have hpr : W0.heap[wr.heap.size]? = some (.cells #[.int .i64 r.Kind, .int .i64 r.A, .int .i64 r.B] 49 (0, 0)) := by rw [← hW0]; exact heap_alloc_new wr _
   have hbc0 : Below c.w.heap.size c.w W0 := hbc.trans (hb0.mono (by omega))
   have hg0 : Gl En (c.at W0 hbc0.size) := hg.mono (Cx.le_at hbc0).pub
   have hpc : ∀ W, Below W0.heap.size W0 W → W.cell? ⟨wr.heap.size, 0, none⟩ = some (.int .i64 r.Kind) ∧ W.cell? ⟨wr.heap.size, 1, none⟩ = some (.int .i64 r.A) ∧ W.cell? ⟨wr.heap.size, 2, none⟩ = some (.int .i64 r.B) := fun W hW => by
    unfold World.cell?
    rw [hW.block _ (show wr.heap.size < W0.heap.size by omega), hpr]
    exact ⟨rfl, rfl, rfl⟩
   refine region' (P := Tryd.prog) (n := 40) (c0 := c.at W0 hbc0.size) 11 [17, 18, 19, 20, 21, 22, 23, 24, 25, 26, 27] [[], [], [1], [2, 1], [0, 3, 2, 1], [4, 0, 3, 2, 1], [5, 4, 0, 3, 2, 1], [], [7], [8, 7], [6, 5, 4, 3, 2, 1, 0, 9, 8, 7], [10, 9, 8, 7, 6, 5, 4, 3, 2, 1, 0]] [11]
    (fun i => [PhS (nameL.map V.str), Ph.eq (.pointer (some ⟨wr.heap.size, 0, none⟩)), Ph.eq (.int .i64 r.Kind), Ph.eq (.int .i64 (r.Kind - 1)), PhC (.string ⟨(wd r.Kind).toArray⟩), Ph.eq (.string ⟨(wd r.Kind).toArray⟩), Ph.eq (.string ⟨(wd r.Kind ++ [32]).toArray⟩), Ph.eq (.pointer (some ⟨wr.heap.size, 1, none⟩)), Ph.eq (.int .i64 r.A), Ph.eq (.string ⟨(Lib.itoa r.A).toArray⟩), Ph.eq (.string ⟨(headI r).toArray⟩)].getD i Ph.any)
    (by kernel_rfl) rfl (show Tryd.prog.follows .mixedOrders = true from En_mo) ⟨rfl, rfl, fun t => rfl⟩ ⟨?o0, ?o1, ?o2, ?o3, ?o4, ?o5, ?o6, ?o7, ?o8, ?o9, ?o10, trivial⟩ ?oT
   case o0 => exact ob rfl rfl fun F c1 hF K hK => y_ok hN (l := []) rfl (hg0.mono hF.le.pub) rfl rfl fun v c' ρ hle hv => hK v c' hle (show rd ro0 c' (.sl none 1 false (nameL.map V.str)) v by simpa only [rd] using hv)
   case o1 => exact ob rfl rfl fun F c1 hF K hK => y_fieldAddr_var (off := 0) rfl fo0 (show ev F (.tmp 6) = .pointer (some ⟨wr.heap.size, 0, none⟩) from hF.old 6 (by decide)) (hK _ c1 (Cx.le.refl _) rfl)
   case o2 => exact ob rfl rfl fun F c1 hF K hK => y_cell rfl Tryd.isAgg3 (show ev F (.tmp 18) = .pointer (some ⟨wr.heap.size, 0, none⟩) from hF.of 1 (by decide) 18 rfl) (hpc _ hF.le.below).1 (hK _ c1 (Cx.le.refl _) rfl)
   case o3 => exact ob rfl rfl fun F c1 hF K hK => y_sub rfl (show ev F (.tmp 19) = .int .i64 r.Kind from hF.of 2 (by decide) 19 rfl) rfl (hK _ c1 (Cx.le.refl _) (show Value.int .i64 (IntKind.wrap .i64 (r.Kind - 1)) = .int .i64 (r.Kind - 1) by rw [IntKind.wrap_i64]; congr 1; omega))
   case o4 =>
    refine ob rfl rfl fun F c1 hF K hK => ?_
    obtain ⟨b1, o1, cap1, e1, hb1, hX1, hc1⟩ := names_rd (show rd ro0 c1 _ (F 17) from hF.of 0 (by decide) 17 rfl)
    exact y_idx rfl Tryd.underlying54 Tryd.sizeOf9 (show ev F (.tmp 17) = _ from e1) (show ev F (.tmp 20) = .int .i64 (r.Kind - 1) from hF.of 3 (by decide) 20 rfl) ⟨by omega, by omega⟩ (hK _ c1 (Cx.le.refl _) ⟨b1, _, rfl, hb1, hX1, hc1 r.Kind hK9.1 hK9.2⟩)
   case o5 =>
    refine ob rfl rfl fun F c1 hF K hK => ?_
    obtain ⟨b1, o1, e1, _, _, hc1⟩ := (show (PhC (.string ⟨(wd r.Kind).toArray⟩)).p (F 21) c1 from hF.of 4 (by decide) 21 rfl)
    exact y_cell rfl Tryd.isAgg9 (show ev F (.tmp 21) = _ from e1) hc1 (hK _ c1 (Cx.le.refl _) rfl)
   case o6 => exact ob rfl rfl fun F c1 hF K hK => y_cat (b := [32]) rfl (show ev F (.tmp 22) = .string ⟨(wd r.Kind).toArray⟩ from hF.of 5 (by decide) 22 rfl) rfl (by simp only [List.length_singleton]; omega) (hK _ c1 (Cx.le.refl _) rfl)
   case o7 => exact ob rfl rfl fun F c1 hF K hK => y_fieldAddr_var (off := 1) rfl fo1 (show ev F (.tmp 6) = .pointer (some ⟨wr.heap.size, 0, none⟩) from hF.old 6 (by decide)) (hK _ c1 (Cx.le.refl _) rfl)
   case o8 => exact ob rfl rfl fun F c1 hF K hK => y_cell rfl Tryd.isAgg3 (show ev F (.tmp 24) = .pointer (some ⟨wr.heap.size, 1, none⟩) from hF.of 7 (by decide) 24 rfl) (hpc _ hF.le.below).2.1 (hK _ c1 (Cx.le.refl _) rfl)
   case o9 => exact ob rfl rfl fun F c1 hF K hK => y_ok (hIt r.A) (l := [.tmp 25]) (us := [.int .i64 r.A]) rfl (hg0.mono hF.le.pub) (congrArg (fun x => [x]) (show F 25 = .int .i64 r.A from hF.of 8 (by decide) 25 rfl)) ⟨_, _, rfl, ⟨rfl, rA⟩, rfl⟩ fun v c' ρ hle hv => hK v c' hle (show v = _ from (show v = _ ∧ _ from hv).1)
   case o10 => exact ob rfl rfl fun F c1 hF K hK => y_cat (a := wd r.Kind ++ [32]) (b := Lib.itoa r.A) rfl (show F 23 = Value.string ⟨List.toArray (wd r.Kind ++ [32])⟩ from hF.of 6 (by decide) 23 rfl) (show ev F (.tmp 26) = .string ⟨(Lib.itoa r.A).toArray⟩ from hF.of 9 (by decide) 26 rfl) (by simp only [List.length_append, List.length_singleton]; omega) (hK _ c1 (Cx.le.refl _) rfl)
   case oT =>
    intro F c1 hF a1 ha1
    have k4 : F 4 = .pointer (some ⟨w1.heap.size, 0, none⟩) := hF.old 4 (by decide)
    have k27 : F 27 = .string ⟨(headI r).toArray⟩ := hF.of 10 (by decide) 27 rfl
    have hb1' : Below W0.heap.size W0 c1.w := hF.le.below
    have hI1 := isb_below hI (hbw0.trans (hb1'.mono (by omega)))
    have eW : ∀ aas w, (callFunc 17 aas).run Tryd.prog w = .ok (.enter 17 aas) w := enters_of Tryd.func17 (by kernel_rfl) rfl
    refine tail_op (n := 40) (by kernel_rfl) ha1 rfl rfl ?_
    refine y_enter (f := 17) (vs := #[.pointer (some ⟨w1.heap.size, 0, none⟩), .string ⟨(headI r).toArray⟩]) (by simp [run, execOp, resolve, ev, Deferred.ofValue, invoke, eW, k4, k27]) ?_
    refine (put_str _ _ _ ⟨(headI r).toArray⟩ c1.w hI1 (by rw [Lib.byteCells_length, mk_size]; omega) (by have h1 := hb1'.size; have h2 := hb0.size; omega)).mono ?_
    rintro e W2 ⟨rfl, hA2, hB2, hO2⟩
    refine ⟨_, rfl, fun F2 a2 ha2 hd2 ho2 => ?_⟩
    have hk2 : ∀ t, t ∉ [17, 18, 19, 20, 21, 22, 23, 24, 25, 26, 27] → t ≠ 28 → F2 t = _ := fun t h1 h2 => (ho2 t (by intro e; cases e; exact h2 rfl)).trans (hF.old t h1)
    rw [act40 ha2]
    have e0 : F2 0 = .agg #[.slice (some ⟨b, o, none⟩) l.length cap] := hk2 0 (by decide) (by decide)
    have e1 : F2 1 = .pointer (some ⟨c.w.heap.size, 0, none⟩) := hk2 1 (by decide) (by decide)
    have e2 : F2 2 = .string ⟨#[]⟩ := hk2 2 (by decide) (by decide)
    have e3 : F2 3 = .int .i64 0 := hk2 3 (by decide) (by decide)
    have e4 : F2 4 = .pointer (some ⟨w1.heap.size, 0, none⟩) := hk2 4 (by decide) (by decide)
    have e5 : F2 5 = undef := hk2 5 (by decide) (by decide)
    have e6 : F2 6 = .pointer (some ⟨wr.heap.size, 0, none⟩) := hk2 6 (by decide) (by decide)
    have e7 : F2 7 = .agg #[.slice (some ⟨b, o, none⟩) l.length cap] := hk2 7 (by decide) (by decide)
    have e8 : F2 8 = .bool true := hk2 8 (by decide) (by decide)
    have e9 : F2 9 = .bool false := hk2 9 (by decide) (by decide)
    have e10 : F2 10 = .pointer (some ⟨c.w.heap.size, 0, none⟩) := hk2 10 (by decide) (by decide)
    have e11 : F2 11 = .slice (some ⟨b, o, none⟩) l.length cap := hk2 11 (by decide) (by decide)
    have e12 : F2 12 = .int .i64 l.length := hk2 12 (by decide) (by decide)
    have e13 : F2 13 = .int .i64 k := hk2 13 (by decide) (by decide)
    have e39 : F2 39 = undef := hk2 39 (by decide) (by decide)
    rw [e0, e1, e2, e3, e4, e5, e6, e7, e8, e9, e10, e11, e12, e13, e39]
    generalize F2 14 = v14; generalize F2 15 = v15; generalize F2 16 = v16; generalize F2 17 = v17; generalize F2 18 = v18; generalize F2 19 = v19; generalize F2 20 = v20; generalize F2 21 = v21; generalize F2 22 = v22; generalize F2 23 = v23; generalize F2 24 = v24; generalize F2 25 = v25; generalize F2 26 = v26; generalize F2 27 = v27; generalize F2 28 = v28; generalize F2 29 = v29; generalize F2 30 = v30; generalize F2 31 = v31; generalize F2 32 = v32; generalize F2 33 = v33; generalize F2 34 = v34; generalize F2 35 = v35; generalize F2 36 = v36; generalize F2 37 = v37; generalize F2 38 = v38
    clear e0 e1 e2 e3 e4 e5 e6 e7 e8 e9 e10 e11 e12 e13 e39 hk2 ho2 hd2
    have hI2 : Lib.IsBuilderF 47 5 w1.heap.size w1.heap.size (Lib.byteCells (txtI (l.take k) ++ headI r)) W2 := by
     rw [Lib.byteCells_append, ← str_data]; exact Or.inr hA2
    have hbW : Below w1.heap.size w1 W2 := (hb0.trans (hb1'.mono (by have := hb0.size; omega))).trans hB2
    have hsW : W0.heap.size ≤ W2.heap.size := Nat.le_trans hb1'.size hB2.size
    have hpr1 : c1.w.heap[wr.heap.size]? = some (.cells #[.int .i64 r.Kind, .int .i64 r.A, .int .i64 r.B] 49 (0, 0)) := by rw [hb1'.block _ (show wr.heap.size < W0.heap.size by omega)]; exact hpr
    have hpr2 : W2.heap[wr.heap.size]? = some (.cells #[.int .i64 r.Kind, .int .i64 r.A, .int .i64 r.B] 49 (0, 0)) := hO2 _ _ hpr1 (by intro e; injection e with e; omega) (by intro c fz e; injection e with e1 e2; exact absurd e2 (by decide))
    have p0 : W2.cell? ⟨wr.heap.size, 0, none⟩ = some (.int .i64 r.Kind) := by unfold World.cell?; rw [hpr2]; rfl
    have p2 : W2.cell? ⟨wr.heap.size, 2, none⟩ = some (.int .i64 r.B) := by unfold World.cell?; rw [hpr2]; rfl
    dsimp only [wpOps, Exit.then]
    have hbcW : Below c.w.heap.size c.w W2 := hbc.trans (hbW.mono (by omega))
    have hIc : Calls Tryd.prog 19 #[.int .i64 r.B] W2 (fun e w' => e = .returned (.string ⟨(Lib.itoa r.B).toArray⟩) ∧ Below W2.heap.size W2 w') := by
     refine ((hIt r.B).2 (c.at W2 hbcW.size) [.int .i64 r.B] rfl (hg.mono (Cx.le_at hbcW).pub) ⟨_, _, rfl, ⟨rfl, rB⟩, rfl⟩).mono ?_
     rintro e w' ⟨v, c2, ρ, rfl, rfl, hle, hv, _⟩
     have hv' : v = .string ⟨(Lib.itoa r.B).toArray⟩ ∧ (Lib.itoa r.B).length ≤ LEN := hv
     obtain ⟨rfl, _⟩ := hv'
     exact ⟨rfl, hle.below⟩
    have lB := itoa_le (n := r.B) ⟨hB9.1, by omega⟩
    have htk1 : l.take (k + 1) = l.take k ++ [r] := by rw [List.take_add_one, hrk]; rfl
    have lX : (txtI (l.take k) ++ headI r).length ≤ 1100 := by rw [List.length_append]; omega
    have hcat : (⟨#[32]⟩ : ByteArray) ++ ⟨(Lib.itoa r.B).toArray⟩ = ⟨([32] ++ Lib.itoa r.B).toArray⟩ := str_append [32] (Lib.itoa r.B)
    by_cases h5 : r.Kind = 5
    ·go_wp2_with (go_at_call 19; refine hIc.mono ?_; rintro e W3 ⟨rfl, hB3⟩)
     have hI3 := isb_below hI2 hB3
     have hs3 := hB3.size
     have hS := put_str _ _ _ ⟨(32 :: Lib.itoa r.B).toArray⟩ _ hI3 (by rw [Lib.byteCells_length, mk_size, List.length_cons]; omega) (by omega)
     refine hS.mono ?_
     rintro e W4 ⟨rfl, hA4, hB4, hO4⟩
     rw [str_data, ← Lib.byteCells_append] at hA4
     have hs4 := hB4.size
     go_wp2_with (go_at_call 20; refine (put_byte _ _ _ 10 _ (Or.inr hA4) (by rw [Lib.byteCells_length, List.length_append, List.length_cons]; omega) (by omega)).mono ?_; rintro e W5 ⟨rfl, hA5, hB5, hO5⟩)
     go_roundw
     case rel =>
      refine ⟨k + 1, by omega, rfl, ?_, ((hbW.trans (hB3.mono (by omega))).trans hB4).trans hB5, by have h1 := hB5.size; omega⟩
      rw [htk1, txtI_snoc]
      unfold ltxI
      rw [if_pos h5, ← List.append_assoc, ← List.append_assoc, Lib.byteCells_append]
      exact Or.inr hA5
     case measure => simp [Go.RowKit.intOf]; omega
    ·go_wp2_with (go_at_call 20; refine (put_byte _ _ _ 10 W2 hI2 (by rw [Lib.byteCells_length]; omega) (by omega)).mono ?_; rintro e W3 ⟨rfl, hA3, hB3, hO3⟩)
     go_roundw
     case rel =>
      refine ⟨k + 1, by omega, rfl, ?_, hbW.trans hB3, by have h1 := hB3.size; omega⟩
      rw [htk1, txtI_snoc]
      unfold ltxI
      rw [if_neg h5, List.append_nil, ← List.append_assoc, Lib.byteCells_append]
      exact Or.inr hA3
     case measure => simp [Go.RowKit.intOf]; omega
  ·have hkl : k = l.length := by omega
   have hq : ¬ (k : Int) < (l.length : Int) := by omega
   rw [hkl, List.take_length] at hI
   go_wp2_with (go_at_call 21; refine (str_any _ _ _ _ hI (by omega)).mono ?_; rintro e W1 ⟨rfl, _, hB1, _⟩)
   go_ret2
   exact ⟨rfl, hbc.trans ((hbw.trans hB1).mono (by omega))⟩
end Go.Proofs.YteolfhljhnplpaaDoor
namespace Go.Proofs.YteolfhljhnplpaaDoor
open Go.RowKit Go.Shelf Go.Lib
theorem Valid_call (l : List S_api_Rule) : CallOk En 8 [.agg [.sl none 3 true (l.map e_api_Rule)]] (.bool (rulesOk l)) [] := by
 have h := (policy_Valid_ok ⟨l⟩).ok
 rw [polValid_ok] at h
 exact h
theorem names_call : CallOk En 18 [] (.sl none 1 false (nameL.map V.str)) [] := policy_names_ok.ok
theorem text_bad (c : Cx) (hg : Gl En c) (l : List S_api_Rule) (u : Value) (hu : rd ro0 c (.sl none 3 true (l.map e_api_Rule)) u) (hR : rulesOk l = false) :
  Calls Tryd.prog 6 #[.agg #[u]] c.w fun e w' => e = .returned (.tuple #[.string ⟨#[]⟩, .int .i64 1]) ∧ Below c.w.heap.size c.w w' := by
 have hu' := hu
 simp only [rd] at hu'
 obtain ⟨a, cap, rfl, hlen, _, hs⟩ := hu'
 rw [List.length_map] at hlen hu ⊢
 have hV' : ∀ c' : Cx, c'.Y = [] → Gl En c' → ∀ v, rd ro0 c' (.sl none 3 true (l.map e_api_Rule)) v → Calls Tryd.prog 8 #[.agg #[v]] c'.w (fun e w' => e = .returned (.bool false) ∧ Below c'.w.heap.size c'.w w') := fun c' h1 h2 v h3 => by
  refine ((Valid_call l).2 c' [.agg #[v]] h1 h2 ⟨_, _, rfl, ⟨[v], rfl, v, [], rfl, ?_, h3, rfl⟩, rfl⟩).mono ?_
  ·obtain ⟨_, _, rfl, _⟩ := h3; rfl
  ·rintro e w' ⟨v, c2, ρ, rfl, rfl, hle, hb, _⟩
   have hb' : v = .bool (rulesOk l) := hb
   rw [hR] at hb'
   subst hb'
   exact ⟨rfl, hle.below⟩
 have hVc : Calls Tryd.prog 8 #[.agg #[.slice a l.length cap]] (c.w.alloc (.cells #[.slice a l.length cap] 24)) (fun e w' => e = .returned (.bool false) ∧ Below (c.w.alloc (.cells #[.slice a l.length cap] 24)).heap.size (c.w.alloc (.cells #[.slice a l.length cap] 24)) w') :=
  hV' (c.new (.cells #[.slice a l.length cap] 24)) rfl (hg.mono (c.le_new _).pub) _ (rd_mono (c.le_new _).pub hu)
 go_enter Tryd.func6, Tryd.ntmps6
 go_wp2_with (go_at_call 8; refine hVc.mono ?_; rintro e w1 ⟨rfl, hb1⟩)
 have hs0 : (c.w.alloc (.cells #[.slice a l.length cap] 24)).heap.size = c.w.heap.size + 1 := by simp
 rw [hs0] at hb1
 have hbc : Below c.w.heap.size c.w w1 := ((Below.refl _ c.w).alloc (Nat.le_refl _) _).trans (hb1.mono (by omega))
 go_ret2
 exact ⟨rfl, hbc⟩
theorem Text_call (p_ : S_api_Policy) : CallOk En 6 [.agg [.sl none 3 true (p_.Rules.map e_api_Rule)]] (.tup [.str (policy_Text p_).1, .int .i64 (policy_Text p_).2]) [] := by
 refine ok_of2 (show ∀ xs w, (callFunc 6 xs).run En.P w = .ok (.enter 6 xs) w from enters_of Tryd.func6 (by kernel_rfl) rfl) fun c us hg hus hw => ?_
 simp only [rdT] at hus
 obtain ⟨u0, c2, rfl, hu, rfl⟩ := hus
 simp only [rd.eq_5, rdC] at hu
 obtain ⟨cs, rfl, u, c3, rfl, _, hsl, rfl⟩ := hu
 cases hR : rulesOk p_.Rules with
 | true =>
  have e0 : policy_Text p_ = (txtI p_.Rules, 0) := by unfold policy_Text; rw [if_pos hR]
  rw [e0]
  refine (text_calls Valid_call names_call Itoa_call c hg p_.Rules u hsl hR).mono ?_
  rintro e w' ⟨rfl, hB⟩
  refine ⟨_, rfl, hB, ?_⟩
  have hs := rulesOk_spec hR
  have hl := txtI_le p_.Rules hs.2
  simp only [rd, rdT]
  exact ⟨_, rfl, _, _, rfl, ⟨rfl, by unfold LEN; omega⟩, _, _, rfl, ⟨rfl, by rw [rng_i64]; decide⟩, rfl⟩
 | false =>
  have e0 : policy_Text p_ = ([], 1) := by unfold policy_Text; rw [if_neg (by rw [hR]; decide)]
  rw [e0]
  refine (text_bad c hg p_.Rules u hsl hR).mono ?_
  rintro e w' ⟨rfl, hB⟩
  refine ⟨_, rfl, hB, ?_⟩
  simp only [rd, rdT]
  exact ⟨_, rfl, _, _, rfl, ⟨rfl, Nat.zero_le _⟩, _, _, rfl, ⟨rfl, by rw [rng_i64]; decide⟩, rfl⟩
instance policy_Text_ok (p_ : S_api_Policy) : CM En (policy_Text p_) 6 [.agg [.sl none 3 true (p_.Rules.map e_api_Rule)]] (fun y => .tup [.str y.1, .int .i64 y.2]) (fun _ => []) := ⟨Text_call p_⟩
end Go.Proofs.YteolfhljhnplpaaDoor
namespace Go.Proofs.YteolfhljhnplpaaDoor
open Go.RowKit
set_option linter.unusedSimpArgs false
set_option maxHeartbeats 2000000 in
set_option maxRecDepth 100000 in
instance specielaw46_PolicyTexts_ok   (p_ : S_api_Policy) (s : (List UInt8))  : CM En (specielaw46_PolicyTexts p_ s) 3 [.agg [.sl none 3 true (p_.Rules.map e_api_Rule)], .str s] (fun y => .bool y) (fun _ => []) := by
 refine cmQ fun r hM => ?_
 rw [specielaw46_PolicyTexts.eq_1] at hM
 refine enterV En_ok En_mo [12] Tryd.func3 rfl Tryd.ntmps3 (by kernel_rfl) fun hw => ct_start ?_
 refine spQ ?_
 replace hw := nzQ hw
 have hM0 := hM; clear hM; obtain ⟨x1, hx2, hM⟩ := letk_opn hM0; clear hM0
 have hcx1 := cmU hx2
 refine callC_give hcx1 clQ clQ (fun hw3 => ?_)
 replace hw3 := nzQ hw3
 refine spQ ?_
 refine condC_intro (fun h4 => ?_) (fun h4 => ?_)
 ·rw [if_pos h4] at hM
  refine spQA h4 ?_
  have nh4 := nzQ h4
  subst hM
  exact retC_view (lfQA h4)
 ·rw [if_neg (ne_true h4)] at hM
  refine spQA h4 ?_
  have nh4 := nzQ h4
  have hM0 := hM; clear hM; obtain ⟨x5, hx6, hM⟩ := letk_opn hM0; clear hM0
  have hcx5 := cmU hx6
  refine callC_look hcx5 clQ clQ (fun hw7 => ?_)
  replace hw7 := nzQ hw7
  refine spQ ?_
  refine guardC_f (fun h8 => ?_) (fun h8 => ?_)
  ·subst h8
   rw [if_neg (by decide)] at hM
   refine spQ ?_
   refine guardC_t (fun h9 => ?_) (fun h9 => ?_)
   ·rw [if_pos h9] at hM
    refine spQA h9 ?_
    have nh9 := nzQ h9
    refine condC_intro (fun h10 => ?_) (fun h10 => ?_)
    ·rw [if_pos h10] at hM
     refine spQA h10 ?_
     have nh10 := nzQ h10
     subst hM
     exact retC_view (lfQA (And.intro h4 (And.intro h9 h10)))
    ·rw [if_neg (ne_true h10)] at hM
     refine spQA h10 ?_
     have nh10 := nzQ h10
     have hM0 := hM; clear hM; obtain ⟨x11, hx12, hM⟩ := letk_opn hM0; clear hM0
     have hcx11 := cmU hx12
     refine callC_give hcx11 clQ clQ (fun hw13 => ?_)
     replace hw13 := nzQ hw13
     refine spQ ?_
     have hM0 := hM; clear hM; obtain ⟨j14, hj14, hM⟩ := letj_opn hM0; clear hM0
     refine seqC_intro (fun S => ∃ p : Unit, S = (⟨[(1, .str s)], [], 3⟩ : St) ∧ (True) ∧ j14 p = r) ?_ (fun hcut14 => ?_)
     ·clear hM
      rintro S ⟨p14, rfl, hfa14, hM⟩
      have hM0 := hM; clear hM; have hM := letj_use hM0 hj14; clear hM0
      try refine spQ ?_
      have hF := (And.intro h4 (And.intro h9 h10))
      exact auQ
     ·refine spQ ?_
      have hM0 := hM; clear hM; obtain ⟨x33, hx34, hM⟩ := letk_opn hM0; clear hM0
      have hcx33 := cmU hx34
      refine callC_give hcx33 clQ clQ (fun hw35 => ?_)
      replace hw35 := nzQ hw35
      refine spQ ?_
      refine condC_intro (fun h36 => ?_) (fun h36 => ?_)
      ·rw [if_pos h36] at hM
       refine spQA h36 ?_
       have nh36 := nzQ h36
       have hM0 := hM; clear hM; obtain ⟨x37, hx38, hM⟩ := letk_opn hM0; clear hM0
       have hcx37 := cmU hx38
       refine callC_give hcx37 clQ clQ (fun hw39 => ?_)
       replace hw39 := nzQ hw39
       refine spQ ?_
       refine guardC_f (fun h40 => ?_) (fun h40 => ?_)
       ·subst h40
        rw [if_neg (by decide)] at hM
        refine spQ ?_
        refine guardC_f (fun h41 => ?_) (fun h41 => ?_)
        ·rw [if_neg (ne_true h41)] at hM
         refine spQA h41 ?_
         have nh41 := nzQ h41
         refine condC_intro (fun h42 => ?_) (fun h42 => ?_)
         ·rw [if_pos h42] at hM
          refine spQA h42 ?_
          have nh42 := nzQ h42
          subst hM
          exact retC_view (lfQA (And.intro h4 (And.intro h9 (And.intro h10 (And.intro h36 (And.intro h41 h42))))))
         ·rw [if_neg (ne_true h42)] at hM
          refine spQA h42 ?_
          have nh42 := nzQ h42
          exact cut_intro _ sbQ sbQ (hcut14 _ ⟨(), rfl, trivial, hM⟩)
        ·rw [if_pos h41] at hM
         refine spQA h41 ?_
         have nh41 := nzQ h41
         subst hM
         exact retC_view (lfQA (And.intro h4 (And.intro h9 (And.intro h10 (And.intro h36 h41)))))
       ·subst h40
        rw [if_pos rfl] at hM
        refine spQ ?_
        subst hM
        exact retC_view (lfQA (And.intro h4 (And.intro h9 (And.intro h10 h36))))
      ·rw [if_neg (ne_true h36)] at hM
       refine spQA h36 ?_
       have nh36 := nzQ h36
       have hM0 := hM; clear hM; obtain ⟨x43, hx44, hM⟩ := letk_opn hM0; clear hM0
       have hcx43 := cmU hx44
       refine callC_give hcx43 clQ clQ (fun hw45 => ?_)
       replace hw45 := nzQ hw45
       refine spQ ?_
       have hM0 := hM; clear hM; obtain ⟨x46, hx47, hM⟩ := letk_opn hM0; clear hM0
       have hcx46 := cmU hx47
       refine callC_give hcx46 clQ clQ (fun hw48 => ?_)
       replace hw48 := nzQ hw48
       refine spQ ?_
       refine guardC_f (fun h49 => ?_) (fun h49 => ?_)
       ·rw [if_neg (ne_true h49)] at hM
        refine spQA h49 ?_
        have nh49 := nzQ h49
        refine guardC_f (fun h50 => ?_) (fun h50 => ?_)
        ·rw [if_neg (ne_true h50)] at hM
         refine spQA h50 ?_
         have nh50 := nzQ h50
         have hM0 := hM; clear hM; obtain ⟨x51, hx52, hM⟩ := letk_opn hM0; clear hM0
         have hcx51 := cmH hx52 (specieref46_Text_ok  p_ (by (first | exact (rtext_pre ‹_ = specieref46_Valid _› (by assumption)).1 | exact (rtext_pre ‹_ = specieref46_Valid _› (by assumption)).2)) (by (first | exact (rtext_pre ‹_ = specieref46_Valid _› (by assumption)).1 | exact (rtext_pre ‹_ = specieref46_Valid _› (by assumption)).2)))
         refine callC_give hcx51 clQ clQ (fun hw53 => ?_)
         replace hw53 := nzQ hw53
         refine spQ ?_
         refine guardC_f (fun h54 => ?_) (fun h54 => ?_)
         ·rw [if_neg (ne_true h54)] at hM
          refine spQA h54 ?_
          have nh54 := nzQ h54
          refine guardC_f (fun h55 => ?_) (fun h55 => ?_)
          ·rw [if_neg (ne_true h55)] at hM
           refine spQA h55 ?_
           have nh55 := nzQ h55
           have hM0 := hM; clear hM; obtain ⟨x56, hx57, hM⟩ := letk_opn hM0; clear hM0
           have hcx56 := cmU hx57
           refine callC_give hcx56 clQ clQ (fun hw58 => ?_)
           replace hw58 := nzQ hw58
           refine spQ ?_
           refine condC_intro (fun h59 => ?_) (fun h59 => ?_)
           ·rw [if_pos h59] at hM
            refine spQA h59 ?_
            have nh59 := nzQ h59
            subst hM
            exact retC_view (lfQA (And.intro h4 (And.intro h9 (And.intro h10 (And.intro h36 (And.intro h49 (And.intro h50 (And.intro h54 (And.intro h55 h59)))))))))
           ·rw [if_neg (ne_true h59)] at hM
            refine spQA h59 ?_
            have nh59 := nzQ h59
            exact cut_intro _ sbQ sbQ (hcut14 _ ⟨(), rfl, trivial, hM⟩)
          ·rw [if_pos h55] at hM
           refine spQA h55 ?_
           have nh55 := nzQ h55
           subst hM
           exact retC_view (lfQA (And.intro h4 (And.intro h9 (And.intro h10 (And.intro h36 (And.intro h49 (And.intro h50 (And.intro h54 h55))))))))
         ·rw [if_pos h54] at hM
          refine spQA h54 ?_
          have nh54 := nzQ h54
          subst hM
          exact retC_view (lfQA (And.intro h4 (And.intro h9 (And.intro h10 (And.intro h36 (And.intro h49 (And.intro h50 h54)))))))
        ·rw [if_pos h50] at hM
         refine spQA h50 ?_
         have nh50 := nzQ h50
         subst hM
         exact retC_view (lfQA (And.intro h4 (And.intro h9 (And.intro h10 (And.intro h36 (And.intro h49 h50))))))
       ·rw [if_pos h49] at hM
        refine spQA h49 ?_
        have nh49 := nzQ h49
        subst hM
        exact retC_view (lfQA (And.intro h4 (And.intro h9 (And.intro h10 (And.intro h36 h49)))))
   ·rw [if_neg (ne_true h9)] at hM
    refine spQA h9 ?_
    have nh9 := nzQ h9
    have hM0 := hM; clear hM; obtain ⟨x60, hx61, hM⟩ := letk_opn hM0; clear hM0
    have hcx60 := cmU hx61
    refine callC_give hcx60 clQ clQ (fun hw62 => ?_)
    replace hw62 := nzQ hw62
    refine spQ ?_
    have hM0 := hM; clear hM; obtain ⟨j63, hj63, hM⟩ := letj_opn hM0; clear hM0
    refine seqC_intro (fun S => ∃ p : Unit, S = (⟨[(1, .str s)], [], 3⟩ : St) ∧ (True) ∧ j63 p = r) ?_ (fun hcut63 => ?_)
    ·clear hM
     rintro S ⟨p63, rfl, hfa63, hM⟩
     have hM0 := hM; clear hM; have hM := letj_use hM0 hj63; clear hM0
     try refine spQ ?_
     have hF := (And.intro h4 h9)
     exact auQ
    ·refine spQ ?_
     have hM0 := hM; clear hM; obtain ⟨x82, hx83, hM⟩ := letk_opn hM0; clear hM0
     have hcx82 := cmU hx83
     refine callC_give hcx82 clQ clQ (fun hw84 => ?_)
     replace hw84 := nzQ hw84
     refine spQ ?_
     refine condC_intro (fun h85 => ?_) (fun h85 => ?_)
     ·rw [if_pos h85] at hM
      refine spQA h85 ?_
      have nh85 := nzQ h85
      have hM0 := hM; clear hM; obtain ⟨x86, hx87, hM⟩ := letk_opn hM0; clear hM0
      have hcx86 := cmU hx87
      refine callC_give hcx86 clQ clQ (fun hw88 => ?_)
      replace hw88 := nzQ hw88
      refine spQ ?_
      refine guardC_f (fun h89 => ?_) (fun h89 => ?_)
      ·subst h89
       rw [if_neg (by decide)] at hM
       refine spQ ?_
       refine guardC_f (fun h90 => ?_) (fun h90 => ?_)
       ·rw [if_neg (ne_true h90)] at hM
        refine spQA h90 ?_
        have nh90 := nzQ h90
        refine condC_intro (fun h91 => ?_) (fun h91 => ?_)
        ·rw [if_pos h91] at hM
         refine spQA h91 ?_
         have nh91 := nzQ h91
         subst hM
         exact retC_view (lfQA (And.intro h4 (And.intro h9 (And.intro h85 (And.intro h90 h91)))))
        ·rw [if_neg (ne_true h91)] at hM
         refine spQA h91 ?_
         have nh91 := nzQ h91
         exact cut_intro _ sbQ sbQ (hcut63 _ ⟨(), rfl, trivial, hM⟩)
       ·rw [if_pos h90] at hM
        refine spQA h90 ?_
        have nh90 := nzQ h90
        subst hM
        exact retC_view (lfQA (And.intro h4 (And.intro h9 (And.intro h85 h90))))
      ·subst h89
       rw [if_pos rfl] at hM
       refine spQ ?_
       subst hM
       exact retC_view (lfQA (And.intro h4 (And.intro h9 h85)))
     ·rw [if_neg (ne_true h85)] at hM
      refine spQA h85 ?_
      have nh85 := nzQ h85
      have hM0 := hM; clear hM; obtain ⟨x92, hx93, hM⟩ := letk_opn hM0; clear hM0
      have hcx92 := cmU hx93
      refine callC_give hcx92 clQ clQ (fun hw94 => ?_)
      replace hw94 := nzQ hw94
      refine spQ ?_
      have hM0 := hM; clear hM; obtain ⟨x95, hx96, hM⟩ := letk_opn hM0; clear hM0
      have hcx95 := cmU hx96
      refine callC_give hcx95 clQ clQ (fun hw97 => ?_)
      replace hw97 := nzQ hw97
      refine spQ ?_
      refine guardC_f (fun h98 => ?_) (fun h98 => ?_)
      ·rw [if_neg (ne_true h98)] at hM
       refine spQA h98 ?_
       have nh98 := nzQ h98
       refine guardC_f (fun h99 => ?_) (fun h99 => ?_)
       ·rw [if_neg (ne_true h99)] at hM
        refine spQA h99 ?_
        have nh99 := nzQ h99
        have hM0 := hM; clear hM; obtain ⟨x100, hx101, hM⟩ := letk_opn hM0; clear hM0
        have hcx100 := cmH hx101 (specieref46_Text_ok  p_ (by (first | exact (rtext_pre ‹_ = specieref46_Valid _› (by assumption)).1 | exact (rtext_pre ‹_ = specieref46_Valid _› (by assumption)).2)) (by (first | exact (rtext_pre ‹_ = specieref46_Valid _› (by assumption)).1 | exact (rtext_pre ‹_ = specieref46_Valid _› (by assumption)).2)))
        refine callC_give hcx100 clQ clQ (fun hw102 => ?_)
        replace hw102 := nzQ hw102
        refine spQ ?_
        refine guardC_f (fun h103 => ?_) (fun h103 => ?_)
        ·rw [if_neg (ne_true h103)] at hM
         refine spQA h103 ?_
         have nh103 := nzQ h103
         refine guardC_f (fun h104 => ?_) (fun h104 => ?_)
         ·rw [if_neg (ne_true h104)] at hM
          refine spQA h104 ?_
          have nh104 := nzQ h104
          have hM0 := hM; clear hM; obtain ⟨x105, hx106, hM⟩ := letk_opn hM0; clear hM0
          have hcx105 := cmU hx106
          refine callC_give hcx105 clQ clQ (fun hw107 => ?_)
          replace hw107 := nzQ hw107
          refine spQ ?_
          refine condC_intro (fun h108 => ?_) (fun h108 => ?_)
          ·rw [if_pos h108] at hM
           refine spQA h108 ?_
           have nh108 := nzQ h108
           subst hM
           exact retC_view (lfQA (And.intro h4 (And.intro h9 (And.intro h85 (And.intro h98 (And.intro h99 (And.intro h103 (And.intro h104 h108))))))))
          ·rw [if_neg (ne_true h108)] at hM
           refine spQA h108 ?_
           have nh108 := nzQ h108
           exact cut_intro _ sbQ sbQ (hcut63 _ ⟨(), rfl, trivial, hM⟩)
         ·rw [if_pos h104] at hM
          refine spQA h104 ?_
          have nh104 := nzQ h104
          subst hM
          exact retC_view (lfQA (And.intro h4 (And.intro h9 (And.intro h85 (And.intro h98 (And.intro h99 (And.intro h103 h104)))))))
        ·rw [if_pos h103] at hM
         refine spQA h103 ?_
         have nh103 := nzQ h103
         subst hM
         exact retC_view (lfQA (And.intro h4 (And.intro h9 (And.intro h85 (And.intro h98 (And.intro h99 h103))))))
       ·rw [if_pos h99] at hM
        refine spQA h99 ?_
        have nh99 := nzQ h99
        subst hM
        exact retC_view (lfQA (And.intro h4 (And.intro h9 (And.intro h85 (And.intro h98 h99)))))
      ·rw [if_pos h98] at hM
       refine spQA h98 ?_
       have nh98 := nzQ h98
       subst hM
       exact retC_view (lfQA (And.intro h4 (And.intro h9 (And.intro h85 h98))))
  ·subst h8
   rw [if_pos rfl] at hM
   refine spQ ?_
   subst hM
   exact retC_view (lfQA h4)
end Go.Proofs.YteolfhljhnplpaaDoor
namespace Go.Proofs.YteolfhljhnplpaaDoor
open Go.RowKit Go.Lib
theorem dig_ok {d : Nat} (h : d < 10) : (UInt8.ofNat (48 + d)).toNat = 48 + d := by
 rw [UInt8.toNat_ofNat']; omega
theorem pu_app : ∀ (l : List UInt8) (c : UInt8) (a u : Nat), parseUint10 a l = .ok u → u < 230584300921369396 → 48 ≤ c.toNat → c.toNat ≤ 57 → parseUint10 a (l ++ [c]) = .ok (u * 10 + (c.toNat - 48))
 | [], c, a, u, h, hu, h0, h1 => by
  simp only [parseUint10] at h
  injection h with h
  subst h
  rw [List.nil_append]
  simp only [parseUint10]
  rw [if_pos (by omega), if_neg (by omega), if_neg (by omega)]
 | x :: l, c, a, u, h, hu, h0, h1 => by
  rw [List.cons_append]
  simp only [parseUint10] at h ⊢
  split at h
  ·rename_i hx
   rw [if_pos hx]
   split at h
   ·cases h
   ·rename_i hy
    rw [if_neg hy]
    split at h
    ·cases h
    ·rename_i hz
     rw [if_neg hz]
     exact pu_app l c _ u h hu h0 h1
  ·cases h
theorem pu_dec : ∀ (u : Nat), u < 2305843009213693952 → parseUint10 0 (decDigits u) = .ok u := by
 intro u
 induction u using Nat.strongRecOn with
 | _ u ih =>
  intro hu
  by_cases h : u < 10
  ·rw [decDigits_one h]
   simp only [parseUint10, dig_ok h]
   rw [if_pos (by omega), if_neg (by omega), if_neg (by omega)]
   congr 1
   omega
  ·have hd : u % 10 < 10 := by omega
   rw [decDigits, dif_neg h]
   have := pu_app (decDigits (u / 10)) (UInt8.ofNat (48 + u % 10)) 0 (u / 10) (ih (u / 10) (by omega) (by omega)) (by omega) (by rw [dig_ok hd]; omega) (by rw [dig_ok hd]; omega)
   rw [this, dig_ok hd]
   congr 1
   omega
theorem dec_digits : ∀ (u : Nat), ∀ c ∈ decDigits u, 48 ≤ c.toNat ∧ c.toNat ≤ 57 := by
 intro u
 induction u using Nat.strongRecOn with
 | _ u ih =>
  intro c hc
  by_cases h : u < 10
  ·rw [decDigits_one h] at hc
   simp only [List.mem_cons, List.not_mem_nil, or_false] at hc
   rw [hc, dig_ok h]; omega
  ·rw [decDigits, dif_neg h] at hc
   rcases List.mem_append.1 hc with h1 | h1
   ·exact ih (u / 10) (by omega) c h1
   ·simp only [List.mem_cons, List.not_mem_nil, or_false] at h1
    rw [h1, dig_ok (by omega)]; omega
theorem dec_ne (u : Nat) : decDigits u ≠ [] := by
 intro h
 have h1 := decDigits_length u
 rw [h, List.length_nil] at h1
 by_cases hu : u < 10
 ·rw [nDigits_small hu] at h1; omega
 ·rw [nDigits_big hu] at h1; omega
theorem atoi_itoa {n : Int} (h0 : 0 ≤ n) (h1 : n < 2305843009213693952) : strconv_Atoi (strconv_Itoa n) = (n, true) := by
 obtain ⟨u, rfl⟩ := Int.eq_ofNat_of_zero_le h0
 unfold strconv_Atoi strconv_Itoa
 rw [itoa_nonneg]
 have hp := pu_dec u (by omega)
 have hd := dec_digits u
 have hn := dec_ne u
 have e : atoiAll (decDigits u) = .ok (u : Int) := by
  cases hl : decDigits u with
  | nil => exact absurd hl hn
  | cons c r =>
   rw [hl] at hp hd
   have hc := hd c (by simp)
   unfold atoiAll
   simp only
   rw [if_neg (show ¬ (c.toNat = 43 ∨ c.toNat = 45) by omega)]
   unfold parseMag
   rw [if_neg (by simp), hp]
   simp only
   rw [if_neg (by omega), if_neg (by omega), if_neg (by omega)]
 rw [e]
def cutAll (c : UInt8) : List UInt8 → List (List UInt8)
 | [] => [[]]
 | b :: s => if b = c then [] :: cutAll c s else match cutAll c s with
  | [] => [[b]]
  | p :: ps => (b :: p) :: ps
theorem cutAll_ne (c : UInt8) : ∀ s : List UInt8, cutAll c s ≠ []
 | [] => by simp [cutAll]
 | b :: s => by
  unfold cutAll
  split
  ·simp
  ·split <;> simp
theorem join_cutAll (c : UInt8) : ∀ s : List UInt8, Lib.join (cutAll c s) [c] = s
 | [] => by simp [cutAll, join_one]
 | b :: s => by
  have ih := join_cutAll c s
  unfold cutAll
  split
  ·rename_i h
   subst h
   cases hc : cutAll b s with
   | nil => exact absurd hc (cutAll_ne b s)
   | cons p ps =>
    rw [hc] at ih
    rw [join_cons] at ih
    rw [join_cons, List.nil_append]
    simp only [joinTail, List.map_cons, List.flatten_cons, List.cons_append, List.nil_append] at ih ⊢
    rw [ih]
  ·split
   ·rename_i hc; exact absurd hc (cutAll_ne c s)
   ·rename_i p ps hc
    rw [hc, join_cons] at ih
    rw [join_cons, List.cons_append, ih]
theorem cutAll_app (c : UInt8) : ∀ (p s : List UInt8), c ∉ p → cutAll c (p ++ c :: s) = p :: cutAll c s
 | [], s, _ => by rw [List.nil_append, cutAll, if_pos rfl]
 | b :: p, s, h => by
  have hb : b ≠ c := fun e => h (by rw [e]; simp)
  rw [List.cons_append, cutAll, if_neg hb, cutAll_app c p s (fun e => h (List.mem_cons_of_mem _ e))]
theorem cutAll_one (c : UInt8) : ∀ (p : List UInt8), c ∉ p → cutAll c p = [p]
 | [], _ => rfl
 | b :: p, h => by
  have hb : b ≠ c := fun e => h (by rw [e]; simp)
  rw [cutAll, if_neg hb, cutAll_one c p (fun e => h (List.mem_cons_of_mem _ e))]
theorem index_one (c : UInt8) : ∀ s : List UInt8, index s [c] = -1 ∧ c ∉ s ∨ ∃ p r, s = p ++ c :: r ∧ c ∉ p ∧ index s [c] = (p.length : Nat)
 | [] => .inl ⟨by simp [index], by simp⟩
 | b :: s => by
  by_cases h : b = c
  ·subst h
   exact .inr ⟨[], s, rfl, by simp, by rw [index]; simp [List.isPrefixOf]⟩
  ·have hp : ([c] : List UInt8).isPrefixOf (b :: s) = false := by simp [List.isPrefixOf, Ne.symm h]
   have hix : index (b :: s) [c] = if index s [c] == -1 then -1 else index s [c] + 1 := by rw [index, hp]; simp
   rcases index_one c s with ⟨h1, h2⟩ | ⟨p, r, h1, h2, h3⟩
   ·exact .inl ⟨by rw [hix, h1]; rfl, by simp [Ne.symm h, h2]⟩
   ·exact .inr ⟨b :: p, r, by rw [h1]; rfl, by simp [Ne.symm h, h2], by rw [hix, h3, if_neg (by simp), List.length_cons]; push_cast; rfl⟩
end Go.Proofs.YteolfhljhnplpaaDoor
namespace Go.Proofs.YteolfhljhnplpaaDoor
open Go.RowKit Go.Lib
def isD (c : UInt8) : Bool := decide (48 ≤ c.toNat) && decide (c.toNat ≤ 57)
theorem isD_iff {c : UInt8} : isD c = true ↔ 48 ≤ c.toNat ∧ c.toNat ≤ 57 := by simp [isD]
def nv (l : List UInt8) : Nat := l.foldl (fun a c => a * 10 + (c.toNat - 48)) 0
theorem nv_app (l : List UInt8) (c : UInt8) : nv (l ++ [c]) = nv l * 10 + (c.toNat - 48) := by simp [nv]
def gd (l : List UInt8) : Prop := l ≠ [] ∧ l.all isD = true ∧ ¬ (1 < l.length ∧ l.getD 0 0 = 48)
theorem dig_sub {c : UInt8} (h : isD c = true) : convI .i64 (subI .u8 (c.toNat : Int) 48) = ((c.toNat - 48 : Nat) : Int) := by
 rw [isD_iff] at h
 have e : subI .u8 (c.toNat : Int) 48 = ((c.toNat - 48 : Nat) : Int) := by
  unfold subI
  rw [show IntKind.wrap .u8 ((c.toNat : Int) - 48) = ((c.toNat : Int) - 48) % 256 by simp [IntKind.wrap, IntKind.bits, IntKind.signed]]
  omega
 rw [e]; exact conv_i64 (by omega) (by omega)
theorem getD_at {s : List UInt8} {k : Nat} (h : k < s.length) : s.getD ((k : Int)).toNat 0 = s[k] := by
 rw [Int.toNat_natCast, List.getD_eq_getElem?_getD, List.getElem?_eq_getElem h]; rfl
theorem take_at {α : Type} {l : List α} {k : Nat} (h : k < l.length) : l.take (k + 1) = l.take k ++ [l[k]] := by
 rw [List.take_add_one, List.getElem?_eq_getElem h]; rfl
theorem head48 {s : List UInt8} : ((((s.getD 0 0).toNat : Int) == 48) = true) ↔ s.getD 0 0 = 48 := by
 rw [beq_iff_eq]
 constructor
 ·intro h
  have : (s.getD 0 0).toNat = 48 := by omega
  exact UInt8.toNat.inj (by rw [this]; rfl)
 ·intro h; rw [h]; rfl
theorem ofNat_dig {c : UInt8} (h : isD c = true) : UInt8.ofNat (48 + (c.toNat - 48)) = c := by
 rw [isD_iff] at h
 have e : 48 + (c.toNat - 48) = c.toNat := by omega
 rw [e]
 exact UInt8.toNat.inj (by rw [UInt8.toNat_ofNat']; have := c.toNat_lt; omega)
theorem snoc_ind {α : Type} {C : List α → Prop} (h0 : C []) (h1 : ∀ l x, C l → C (l ++ [x])) (l : List α) : C l := by
 have key : ∀ n (l : List α), l.length = n → C l := by
  intro n
  induction n with
  | zero => intro l h; rw [List.length_eq_zero_iff.1 h]; exact h0
  | succ n ih =>
   intro l h
   have hl : l ≠ [] := by intro e; rw [e] at h; cases h
   rw [← List.dropLast_concat_getLast hl]
   exact h1 _ _ (ih _ (by rw [List.length_dropLast]; omega))
 exact key _ l rfl
theorem getD_app {l r : List UInt8} (h : l ≠ []) : (l ++ r).getD 0 0 = l.getD 0 0 := by
 cases l with
 | nil => exact absurd rfl h
 | cons a l => rfl
theorem nv_one {c : UInt8} : nv [c] = c.toNat - 48 := by simp [nv]
theorem dec_one {c : UInt8} (h : isD c = true) : decDigits (nv [c]) = [c] := by
 have h' := isD_iff.1 h
 rw [nv_one, decDigits_one (by omega), ofNat_dig h]
theorem dec_nv_big (a : List UInt8) : a ≠ [] → a.all isD = true → a.getD 0 0 ≠ 48 → 1 ≤ nv a ∧ decDigits (nv a) = a := by
 refine snoc_ind (C := fun a => a ≠ [] → a.all isD = true → a.getD 0 0 ≠ 48 → 1 ≤ nv a ∧ decDigits (nv a) = a) (fun h => absurd rfl h) (fun l x ih => ?_) a
 intro _ hall hh
 rw [List.all_append, Bool.and_eq_true] at hall
 have hx : isD x = true := by simpa using hall.2
 by_cases hl : l = []
 ·subst hl
  rw [List.nil_append] at hh ⊢
  refine ⟨?_, dec_one hx⟩
  rw [nv_one]
  have h' := isD_iff.1 hx
  have : x.toNat ≠ 48 := fun e => hh (UInt8.toNat.inj (by show x.toNat = _; rw [e]; rfl))
  omega
 ·rw [getD_app hl] at hh
  have ⟨h1, h2⟩ := ih hl hall.1 hh
  have h' := isD_iff.1 hx
  rw [nv_app]
  refine ⟨by omega, ?_⟩
  have e1 : (nv l * 10 + (x.toNat - 48)) / 10 = nv l := by omega
  have e2 : (nv l * 10 + (x.toNat - 48)) % 10 = x.toNat - 48 := by omega
  rw [decDigits, dif_neg (by omega), e1, e2, h2, ofNat_dig hx]
theorem dec_nv {a : List UInt8} (h : gd a) : decDigits (nv a) = a := by
 obtain ⟨h0, h1, h2⟩ := h
 match a, h0, h1, h2 with
 | [], h0, _, _ => exact absurd rfl h0
 | [c], _, h1, _ => exact dec_one (by simpa using h1)
 | c :: d :: a, h0, h1, h2 => exact (dec_nv_big _ h0 h1 (fun e => h2 ⟨by simp, e⟩)).2
theorem nv_dec : ∀ u : Nat, nv (decDigits u) = u := by
 intro u
 induction u using Nat.strongRecOn with
 | _ u ih =>
  by_cases h : u < 10
  ·rw [decDigits_one h, nv_one, dig_ok h]; omega
  ·rw [decDigits, dif_neg h, nv_app, ih (u / 10) (by omega), dig_ok (by omega)]; omega
theorem dec_head : ∀ u : Nat, 1 ≤ u → (decDigits u).getD 0 0 ≠ 48 := by
 intro u
 induction u using Nat.strongRecOn with
 | _ u ih =>
  intro h0
  by_cases h : u < 10
  ·rw [decDigits_one h]
   intro e
   have e' : (UInt8.ofNat (48 + u)).toNat = 48 := by
    have : UInt8.ofNat (48 + u) = 48 := e
    rw [this]; rfl
   rw [dig_ok h] at e'; omega
  ·rw [decDigits, dif_neg h, getD_app (dec_ne _)]
   exact ih (u / 10) (by omega) (by omega)
theorem gd_dec (u : Nat) : gd (decDigits u) := by
 refine ⟨dec_ne u, List.all_eq_true.2 fun c hc => isD_iff.2 (dec_digits u c hc), fun h => ?_⟩
 by_cases hu : u < 10
 ·rw [decDigits_one hu] at h
  have := h.1
  simp at this
 ·exact dec_head u (by omega) h.2
theorem itoa_dec {n : Int} (h0 : 0 ≤ n) : strconv_Itoa n = decDigits n.toNat := by
 obtain ⟨u, rfl⟩ := Int.eq_ofNat_of_zero_le h0
 unfold strconv_Itoa
 rw [itoa_nonneg, Int.toNat_natCast]
theorem nv_lt (a : List UInt8) : a.all isD = true → nv a < 10 ^ a.length := by
 refine snoc_ind (C := fun a => a.all isD = true → nv a < 10 ^ a.length) (fun _ => by decide) (fun l x ih => ?_) a
 intro hall
 rw [List.all_append, Bool.and_eq_true] at hall
 have hx : isD x = true := by simpa using hall.2
 have h' := isD_iff.1 hx
 have := ih hall.1
 rw [nv_app, List.length_append, List.length_singleton, Nat.pow_succ]
 omega
theorem dec_len : ∀ (k u : Nat), u < 10 ^ (k + 1) → (decDigits u).length ≤ k + 1
 | 0, u, h => by rw [decDigits_one (by simpa using h)]; simp
 | k + 1, u, h => by
  by_cases hu : u < 10
  ·rw [decDigits_one hu]; simp
  ·have := dec_len k (u / 10) (by rw [Nat.pow_succ] at h; omega)
   rw [decDigits, dif_neg hu, List.length_append, List.length_singleton]; omega
def okn (n : Int) : Prop := 0 ≤ n ∧ n < 1000000000000000
def dg (n : Int) : List UInt8 := decDigits n.toNat
theorem dg_gd (n : Int) : gd (dg n) := gd_dec _
theorem dg_len {n : Int} (h : okn n) : (dg n).length ≤ 15 := by
 obtain ⟨h0, h1⟩ := h
 exact dec_len 14 n.toNat (by rw [show (10 : Nat) ^ (14 + 1) = 1000000000000000 by decide]; omega)
theorem dg_nv {n : Int} (h : 0 ≤ n) : ((nv (dg n) : Nat) : Int) = n := by
 unfold dg
 rw [nv_dec]; omega
theorem gd_dg {a : List UInt8} (h : gd a) : a = dg (nv a : Nat) := by
 unfold dg
 rw [Int.toNat_natCast, dec_nv h]
theorem gd_okn {a : List UInt8} (h : gd a) (hl : a.length ≤ 15) : okn (nv a : Nat) := by
 have h1 := nv_lt a h.2.1
 have h2 : 10 ^ a.length ≤ 10 ^ 15 := Nat.pow_le_pow_right (by decide) hl
 rw [show (10 : Nat) ^ 15 = 1000000000000000 by decide] at h2
 exact ⟨by omega, by omega⟩
theorem spn : ∀ t : List UInt8, ∃ a r, t = a ++ r ∧ a.all isD = true ∧ ∀ c u, r = c :: u → isD c = false
 | [] => ⟨[], [], rfl, rfl, fun c u h => by cases h⟩
 | b :: t => by
  by_cases hb : isD b = true
  ·obtain ⟨a, r, h1, h2, h3⟩ := spn t
   exact ⟨b :: a, r, by rw [h1]; rfl, by simp [hb, h2], h3⟩
  ·exact ⟨[], b :: t, rfl, rfl, fun c u h => by rw [← (List.cons.inj h).1]; simpa using hb⟩
theorem gd_no {a : List UInt8} (h : gd a) {c : UInt8} (hc : isD c = false) : c ∉ a := by
 intro hm
 have := List.all_eq_true.1 h.2.1 c hm
 rw [hc] at this; cases this
theorem cut_at {a b : List UInt8} {c : UInt8} (h : c ∉ a) : strings_Cut (a ++ c :: b) [c] = (a, b, true) := by
 unfold strings_Cut Lib.cut
 rcases index_one c (a ++ c :: b) with ⟨_, h2⟩ | ⟨p, r, h1, h2, h3⟩
 ·exact absurd (by simp) h2
 ·have e : a = p ∧ b = r := by
   have h4 : cutAll c (a ++ c :: b) = a :: cutAll c b := cutAll_app c a b h
   have h5 : cutAll c (a ++ c :: b) = p :: cutAll c r := by rw [h1, cutAll_app c p r h2]
   have h6 : a = p := (List.cons.inj (h4.symm.trans h5)).1
   subst h6
   exact ⟨rfl, (List.cons.inj (List.append_cancel_left h1)).2⟩
  obtain ⟨rfl, rfl⟩ := e
  rw [if_pos (by rw [h3]; omega), h3, Int.toNat_natCast, List.take_left, List.length_singleton, List.drop_append]
  simp
theorem cut_none {w : List UInt8} {c : UInt8} (h : c ∉ w) : strings_Cut w [c] = (w, [], false) := by
 unfold strings_Cut Lib.cut
 rcases index_one c w with ⟨h1, h2⟩ | ⟨p, r, h1, h2, h3⟩
 ·rw [if_neg (by rw [h1]; decide)]
 ·exact absurd (by rw [h1]; simp) h
theorem cut_cases (c : UInt8) (w : List UInt8) : (c ∉ w ∧ strings_Cut w [c] = (w, [], false)) ∨ ∃ a b, c ∉ a ∧ w = a ++ c :: b ∧ strings_Cut w [c] = (a, b, true) := by
 rcases index_one c w with ⟨_, h2⟩ | ⟨p, r, h1, h2, _⟩
 ·exact .inl ⟨h2, cut_none h2⟩
 ·exact .inr ⟨p, r, h2, h1, by rw [h1, cut_at h2]⟩
end Go.Proofs.YteolfhljhnplpaaDoor
namespace Go.Proofs.YteolfhljhnplpaaDoor
open Go.RowKit Go.Lib
theorem kinds {k : Int} (h : 1 ≤ k ∧ k ≤ 5) : k = 1 ∨ k = 2 ∨ k = 3 ∨ k = 4 ∨ k = 5 := by omega
theorem wd_no (k : Int) : (32 : UInt8) ∉ wd k ∧ (10 : UInt8) ∉ wd k := by
 unfold wd
 split
 ·decide
 split
 ·decide
 split
 ·decide
 split <;> decide
theorem wd_len (k : Int) : (wd k).length ≤ 6 := by
 unfold wd
 split
 ·decide
 split
 ·decide
 split
 ·decide
 split <;> decide
theorem wd_inj {j k : Int} (hj : 1 ≤ j ∧ j ≤ 5) (hk : 1 ≤ k ∧ k ≤ 5) (h : wd j = wd k) : j = k := by
 rcases kinds hj with rfl | rfl | rfl | rfl | rfl <;> rcases kinds hk with rfl | rfl | rfl | rfl | rfl <;> first | rfl | (revert h; decide)
def tl (r : S_api_Rule) : List UInt8 := if r.Kind = 5 then dg r.A ++ 32 :: dg r.B else dg r.A
def ltx (r : S_api_Rule) : List UInt8 := wd r.Kind ++ 32 :: tl r
def okr (r : S_api_Rule) : Prop := (1 ≤ r.Kind ∧ r.Kind ≤ 5) ∧ okn r.A ∧ (if r.Kind = 5 then okn r.B else r.B = 0)
theorem isD32 : isD 32 = false := by decide
theorem isD10 : isD 10 = false := by decide
theorem tl_no10 (r : S_api_Rule) : (10 : UInt8) ∉ tl r := by
 unfold tl
 have h1 := gd_no (dg_gd r.A) isD10
 have h2 := gd_no (dg_gd r.B) isD10
 split
 ·intro h
  rcases List.mem_append.1 h with h | h
  ·exact h1 h
  ·rcases List.mem_cons.1 h with h | h
   ·exact absurd h (by decide)
   ·exact h2 h
 ·exact h1
theorem ltx_no10 (r : S_api_Rule) : (10 : UInt8) ∉ ltx r := by
 unfold ltx
 intro h
 rcases List.mem_append.1 h with h | h
 ·exact (wd_no _).2 h
 ·rcases List.mem_cons.1 h with h | h
  ·exact absurd h (by decide)
  ·exact tl_no10 r h
theorem ltx_len {r : S_api_Rule} (h : okr r) : (ltx r).length ≤ 38 := by
 have h1 := dg_len h.2.1
 have h0 := wd_len r.Kind
 unfold ltx tl
 by_cases hk : r.Kind = 5
 ·have h2 := h.2.2
  rw [if_pos hk] at h2
  have h2 := dg_len h2
  rw [if_pos hk]
  simp only [List.length_append, List.length_cons]
  omega
 ·rw [if_neg hk]
  simp only [List.length_append, List.length_cons]
  omega
def txt (l : List S_api_Rule) : List UInt8 := (l.map fun r => ltx r ++ [10]).flatten
theorem txt_cons (r : S_api_Rule) (l : List S_api_Rule) : txt (r :: l) = ltx r ++ 10 :: txt l := by simp [txt]
theorem txt_snoc (r : S_api_Rule) (l : List S_api_Rule) : txt (l ++ [r]) = txt l ++ (ltx r ++ [10]) := by simp [txt]
theorem txt_len : ∀ l : List S_api_Rule, (∀ r ∈ l, okr r) → (txt l).length ≤ 39 * l.length
 | [], _ => Nat.zero_le _
 | r :: l, h => by
  have h1 := ltx_len (h r (by simp))
  have h2 := txt_len l (fun x hx => h x (by simp [hx]))
  rw [txt_cons]
  simp only [List.length_append, List.length_cons]
  omega
theorem cut_txt : ∀ l : List S_api_Rule, cutAll 10 (txt l) = l.map ltx ++ [[]]
 | [] => rfl
 | r :: l => by
  rw [txt_cons, cutAll_app 10 _ _ (ltx_no10 r), cut_txt l]; rfl
theorem join_txt : ∀ l : List S_api_Rule, Lib.join (l.map ltx ++ [[]]) [10] = txt l
 | [] => rfl
 | r :: l => by
  have ih := join_txt l
  rw [txt_cons, ← ih]
  cases l with
  | nil => simp [join_cons, joinTail, join_one]
  | cons q l => rw [List.map_cons, List.cons_append, List.map_cons, List.cons_append, join_cons, join_cons]; simp [joinTail]
end Go.Proofs.YteolfhljhnplpaaDoor
