/- Texts of this proof, one after the other: SH, E1, M, L0, H1, H2, U1, A1, L1. -/
import Derived.Ground.NamesProg
import Derived.Shelf.Strings.OnBuilder
import Derived.Shelf.Strconv.Itoa0
import Derived.Shelf.LaysM
import Derived.Shelf.LaysC
import Derived.Shelf.Strconv.Itoa3
import Derived.Shelf.Strings.Cut
import Derived.Shelf.Strings.Split
import Derived.Test.YtbfeamknaiaghaaDoorProg
import Derived.Test.YtbfeamknaiaghaaDoorZ4
import Derived.Lib.AtoiErrMem
import Derived.Lib.AppendIntMem
import Derived.Lib.ItoaLen
import Derived.Shelf.Strconv.AtoiAll
import Derived.Shelf.Strconv.ErrVarAll
import Derived.Test.YtbfeamknaiaghaaDoorZ3
import Derived.Lib.BitFns
import Derived.KernelRfl
import Derived.Lib.Join
import Derived.Lib.SplitLaws
import Derived.Lib.ItoaMem
set_option linter.unusedVariables false
set_option linter.unusedSimpArgs false
namespace Go.Proofs
open Go.Shelf
def Tryd.lays156_ren : Go.Shelf.Ren := ⟨fun | 156 => 28 | 165 => 49 | 166 => 50 | 169 => 51 | 240 => 69 | 241 => 70 | 276 => 96 | 277 => 97 | n => n, fun | 31 => 66 | 9 => 9 | 3 => 3 | 4 => 4 | 0 => 0 | 20 => 20 | 72 => 93 | 76 => 80 | 70 => 91 | 37 => 44 | 75 => 79 | 127 => 117 | 164 => 149 | 5 => 5 | 80 => 95 | n => n, fun | n => n⟩
theorem Tryd.lays156 : Go.Proofs.Lays.n156 Tryd.prog Tryd.lays156_ren := {
 mixed := by kernel_rfl
 f156 := Tryd.func28.trans (congrArg some (by kernel_rfl))
 f165 := Tryd.func49.trans (congrArg some (by kernel_rfl))
 f166 := Tryd.func50.trans (congrArg some (by kernel_rfl))
 f169 := Tryd.func51.trans (congrArg some (by kernel_rfl))
 f240 := Tryd.func69.trans (congrArg some (by kernel_rfl))
 f241 := Tryd.func70.trans (congrArg some (by kernel_rfl))
 f276 := Tryd.func96.trans (congrArg some (by kernel_rfl))
 f277 := Tryd.func97.trans (congrArg some (by kernel_rfl))
 t0 := Tryd.underlying0
 a0 := Tryd.isAgg0
 z0 := Tryd.sizeOf0
 v0 := Tryd.zeroValue0
 t3 := Tryd.underlying3
 a3 := Tryd.isAgg3
 z3 := Tryd.sizeOf3
 v3 := Tryd.zeroValue3
 t4 := Tryd.underlying4
 a4 := Tryd.isAgg4
 z4 := Tryd.sizeOf4
 v4 := Tryd.zeroValue4
 t9 := Tryd.underlying9
 a9 := Tryd.isAgg9
 z9 := Tryd.sizeOf9
 v9 := Tryd.zeroValue9
 t20 := Tryd.underlying20
 a20 := Tryd.isAgg20
 z20 := Tryd.sizeOf20
 v20 := Tryd.zeroValue20
 t31 := Tryd.underlying66
 a31 := Tryd.isAgg66
 z31 := Tryd.sizeOf66
 v31 := Tryd.zeroValue66
 t37 := Tryd.underlying44
 a37 := Tryd.isAgg44
 z37 := Tryd.sizeOf44
 v37 := Tryd.zeroValue44
 t70 := Tryd.underlying91
 a70 := Tryd.isAgg91
 z70 := Tryd.sizeOf91
 v70 := Tryd.zeroValue91
 t72 := Tryd.underlying93
 a72 := Tryd.isAgg93
 z72 := Tryd.sizeOf93
 v72 := Tryd.zeroValue93
 t75 := Tryd.underlying79
 a75 := Tryd.isAgg79
 z75 := Tryd.sizeOf79
 v75 := Tryd.zeroValue79
 t76 := Tryd.underlying80
 a76 := Tryd.isAgg80
 z76 := Tryd.sizeOf80
 v76 := Tryd.zeroValue80
 t127 := Tryd.underlying117
 a127 := Tryd.isAgg117
 z127 := Tryd.sizeOf117
 v127 := Tryd.zeroValue117
 t164 := Tryd.underlying149
 a164 := Tryd.isAgg149
 z164 := Tryd.sizeOf149
 v164 := Tryd.zeroValue149 }
theorem Tryd.Builder_Extra_156 : Builder.Extra Tryd.prog Tryd.lays156_ren := {
 sizeBuilder := by kernel_rfl
 liesBuilder := by kernel_rfl
 t5 := Tryd.underlying5
 a5 := Tryd.isAgg5
 z5 := Tryd.sizeOf5
 v5 := Tryd.zeroValue5
 infoByte := by kernel_rfl
 cellsByte := by kernel_rfl
 sizeByte := by kernel_rfl
 neB5 := by decide }
def Tryd.lays129_ren : Go.Shelf.Ren := ⟨fun | 129 => 116 | n => n, fun | 53 => 104 | 3 => 3 | 4 => 4 | 46 => 96 | 5 => 5 | 9 => 9 | n => n, fun | n => n⟩
theorem Tryd.lays129 : Go.Proofs.Lays.n129 Tryd.prog Tryd.lays129_ren := {
 mixed := by kernel_rfl
 f129 := Tryd.func116.trans (congrArg some (by kernel_rfl))
 t3 := Tryd.underlying3
 a3 := Tryd.isAgg3
 z3 := Tryd.sizeOf3
 v3 := Tryd.zeroValue3
 t4 := Tryd.underlying4
 a4 := Tryd.isAgg4
 z4 := Tryd.sizeOf4
 v4 := Tryd.zeroValue4
 t5 := Tryd.underlying5
 a5 := Tryd.isAgg5
 z5 := Tryd.sizeOf5
 v5 := Tryd.zeroValue5
 t9 := Tryd.underlying9
 a9 := Tryd.isAgg9
 z9 := Tryd.sizeOf9
 v9 := Tryd.zeroValue9
 t46 := Tryd.underlying96
 a46 := Tryd.isAgg96
 z46 := Tryd.sizeOf96
 v46 := Tryd.zeroValue96
 t53 := Tryd.underlying104
 a53 := Tryd.isAgg104
 z53 := Tryd.sizeOf104
 v53 := Tryd.zeroValue104 }
theorem Tryd.bits_Len64 (x : Int) (w : World) (h0 : 0 ≤ x) (h1 : x ≤ 18446744073709551615) :
  Calls Tryd.prog 116 #[.int .u64 x] w fun e w' => e = .returned (.int .i64 (Lib.bitLen x.toNat)) ∧ w' = w := Any.bits_Len64 Tryd.lays129 x w h0 h1
def Tryd.laysM171_ren : Go.Shelf.Ren := ⟨fun | 171 => 27 | 243 => 48 | 246 => 68 | 283 => 92 | 284 => 93 | 285 => 94 | 286 => 95 | 129 => 116 | 317 => 115 | 318 => 117 | 319 => 118 | 320 => 119 | 337 => 126 | 338 => 80 | n => n, fun | 3 => 3 | 9 => 9 | 2 => 2 | 4 => 4 | 171 => 145 | 0 => 0 | 53 => 104 | 37 => 44 | 5 => 5 | 173 => 147 | 212 => 170 | 51 => 106 | 20 => 20 | 213 => 171 | 46 => 96 | 232 => 50 | 233 => 163 | n => n, fun | 17 => 7 | 18 => 12 | 19 => 6 | n => n⟩
theorem Tryd.laysM171 : Go.Proofs.LaysM.n171 Tryd.prog Tryd.laysM171_ren := {
 mixed := by kernel_rfl
 f129 := Tryd.func116.trans (congrArg some (by kernel_rfl))
 f171 := Tryd.func27.trans (congrArg some (by kernel_rfl))
 f243 := Tryd.func48.trans (congrArg some (by kernel_rfl))
 f246 := Tryd.func68.trans (congrArg some (by kernel_rfl))
 f283 := Tryd.func92.trans (congrArg some (by kernel_rfl))
 f284 := Tryd.func93.trans (congrArg some (by kernel_rfl))
 f285 := Tryd.func94.trans (congrArg some (by kernel_rfl))
 f286 := Tryd.func95.trans (congrArg some (by kernel_rfl))
 f317 := Tryd.func115.trans (congrArg some (by kernel_rfl))
 f318 := Tryd.func117.trans (congrArg some (by kernel_rfl))
 f319 := Tryd.func118.trans (congrArg some (by kernel_rfl))
 f320 := Tryd.func119.trans (congrArg some (by kernel_rfl))
 f337 := Tryd.func126.trans (congrArg some (by kernel_rfl))
 f338 := Tryd.func80.trans (congrArg some (by kernel_rfl))
 t0 := Tryd.underlying0
 a0 := Tryd.isAgg0
 z0 := Tryd.sizeOf0
 v0 := Tryd.zeroValue0
 t2 := Tryd.underlying2
 a2 := Tryd.isAgg2
 z2 := Tryd.sizeOf2
 v2 := Tryd.zeroValue2
 t3 := Tryd.underlying3
 a3 := Tryd.isAgg3
 z3 := Tryd.sizeOf3
 v3 := Tryd.zeroValue3
 t4 := Tryd.underlying4
 a4 := Tryd.isAgg4
 z4 := Tryd.sizeOf4
 v4 := Tryd.zeroValue4
 t5 := Tryd.underlying5
 a5 := Tryd.isAgg5
 z5 := Tryd.sizeOf5
 v5 := Tryd.zeroValue5
 t9 := Tryd.underlying9
 a9 := Tryd.isAgg9
 z9 := Tryd.sizeOf9
 v9 := Tryd.zeroValue9
 t20 := Tryd.underlying20
 a20 := Tryd.isAgg20
 z20 := Tryd.sizeOf20
 v20 := Tryd.zeroValue20
 t37 := Tryd.underlying44
 a37 := Tryd.isAgg44
 z37 := Tryd.sizeOf44
 v37 := Tryd.zeroValue44
 t46 := Tryd.underlying96
 a46 := Tryd.isAgg96
 z46 := Tryd.sizeOf96
 v46 := Tryd.zeroValue96
 t51 := Tryd.underlying106
 a51 := Tryd.isAgg106
 z51 := Tryd.sizeOf106
 v51 := Tryd.zeroValue106
 t53 := Tryd.underlying104
 a53 := Tryd.isAgg104
 z53 := Tryd.sizeOf104
 v53 := Tryd.zeroValue104
 t171 := Tryd.underlying145
 a171 := Tryd.isAgg145
 z171 := Tryd.sizeOf145
 v171 := Tryd.zeroValue145
 t173 := Tryd.underlying147
 a173 := Tryd.isAgg147
 z173 := Tryd.sizeOf147
 v173 := Tryd.zeroValue147
 t212 := Tryd.underlying170
 a212 := Tryd.isAgg170
 z212 := Tryd.sizeOf170
 v212 := Tryd.zeroValue170
 t213 := Tryd.underlying171
 a213 := Tryd.isAgg171
 z213 := Tryd.sizeOf171
 t232 := Tryd.underlying50
 a232 := Tryd.isAgg50
 z232 := Tryd.sizeOf50
 v232 := Tryd.zeroValue50
 t233 := Tryd.underlying163
 a233 := Tryd.isAgg163
 z233 := Tryd.sizeOf163
 v233 := Tryd.zeroValue163
 g17 := by kernel_rfl
 g18 := by kernel_rfl
 g19 := by kernel_rfl
 i0 := by kernel_rfl
 i2 := by kernel_rfl
 i3 := by kernel_rfl
 i4 := by kernel_rfl
 i5 := by kernel_rfl
 i9 := by kernel_rfl
 i20 := by kernel_rfl
 i37 := by kernel_rfl
 i46 := by kernel_rfl
 i51 := by kernel_rfl
 i53 := by kernel_rfl
 i171 := by kernel_rfl
 i173 := by kernel_rfl
 i212 := by kernel_rfl
 i232 := by kernel_rfl
 i233 := by kernel_rfl
 m17 := by kernel_rfl
 m18 := by kernel_rfl
 m19 := by kernel_rfl }
def Tryd.lays146_ren : Go.Shelf.Ren := ⟨fun | 146 => 30 | 221 => 52 | 268 => 71 | 138 => 72 | 143 => 73 | 195 => 98 | 197 => 99 | 218 => 100 | 219 => 74 | 260 => 120 | 217 => 101 | 225 => 102 | 224 => 103 | 267 => 104 | 266 => 121 | 314 => 122 | n => n, fun | 9 => 9 | 31 => 66 | 3 => 3 | 4 => 4 | 0 => 0 | 105 => 153 | 21 => 21 | 5 => 5 | 46 => 96 | 119 => 180 | 139 => 183 | 138 => 182 | 146 => 141 | 51 => 106 | n => n, fun | 1 => 3 | 3 => 10 | 4 => 11 | n => n⟩
theorem Tryd.lays146 : Go.Proofs.Lays.n146 Tryd.prog Tryd.lays146_ren := {
 mixed := by kernel_rfl
 f138 := Tryd.func72.trans (congrArg some (by kernel_rfl))
 f143 := Tryd.func73.trans (congrArg some (by kernel_rfl))
 f146 := Tryd.func30.trans (congrArg some (by kernel_rfl))
 f195 := Tryd.func98.trans (congrArg some (by kernel_rfl))
 f197 := Tryd.func99.trans (congrArg some (by kernel_rfl))
 f217 := Tryd.func101.trans (congrArg some (by kernel_rfl))
 f218 := Tryd.func100.trans (congrArg some (by kernel_rfl))
 f219 := Tryd.func74.trans (congrArg some (by kernel_rfl))
 f221 := Tryd.func52.trans (congrArg some (by kernel_rfl))
 f224 := Tryd.func103.trans (congrArg some (by kernel_rfl))
 f225 := Tryd.func102.trans (congrArg some (by kernel_rfl))
 f260 := Tryd.func120.trans (congrArg some (by kernel_rfl))
 f266 := Tryd.func121.trans (congrArg some (by kernel_rfl))
 f267 := Tryd.func104.trans (congrArg some (by kernel_rfl))
 f268 := Tryd.func71.trans (congrArg some (by kernel_rfl))
 f314 := Tryd.func122.trans (congrArg some (by kernel_rfl))
 t0 := Tryd.underlying0
 a0 := Tryd.isAgg0
 z0 := Tryd.sizeOf0
 v0 := Tryd.zeroValue0
 t3 := Tryd.underlying3
 a3 := Tryd.isAgg3
 z3 := Tryd.sizeOf3
 v3 := Tryd.zeroValue3
 t4 := Tryd.underlying4
 a4 := Tryd.isAgg4
 z4 := Tryd.sizeOf4
 v4 := Tryd.zeroValue4
 t5 := Tryd.underlying5
 a5 := Tryd.isAgg5
 z5 := Tryd.sizeOf5
 v5 := Tryd.zeroValue5
 t9 := Tryd.underlying9
 a9 := Tryd.isAgg9
 z9 := Tryd.sizeOf9
 v9 := Tryd.zeroValue9
 t21 := Tryd.underlying21
 a21 := Tryd.isAgg21
 z21 := Tryd.sizeOf21
 v21 := Tryd.zeroValue21
 t31 := Tryd.underlying66
 a31 := Tryd.isAgg66
 z31 := Tryd.sizeOf66
 v31 := Tryd.zeroValue66
 t46 := Tryd.underlying96
 a46 := Tryd.isAgg96
 z46 := Tryd.sizeOf96
 v46 := Tryd.zeroValue96
 t51 := Tryd.underlying106
 a51 := Tryd.isAgg106
 z51 := Tryd.sizeOf106
 v51 := Tryd.zeroValue106
 t105 := Tryd.underlying153
 a105 := Tryd.isAgg153
 z105 := Tryd.sizeOf153
 v105 := Tryd.zeroValue153
 t119 := Tryd.underlying180
 a119 := Tryd.isAgg180
 z119 := Tryd.sizeOf180
 t138 := Tryd.underlying182
 a138 := Tryd.isAgg182
 z138 := Tryd.sizeOf182
 v138 := Tryd.zeroValue182
 t139 := Tryd.underlying183
 a139 := Tryd.isAgg183
 z139 := Tryd.sizeOf183
 v139 := Tryd.zeroValue183
 t146 := Tryd.underlying141
 a146 := Tryd.isAgg141
 z146 := Tryd.sizeOf141
 v146 := Tryd.zeroValue141
 g1 := by kernel_rfl
 g3 := by kernel_rfl
 g4 := by kernel_rfl }
def Tryd.laysC172_ren : Go.Shelf.Ren := ⟨fun | 172 => 36 | 244 => 54 | 245 => 55 | 247 => 75 | 279 => 76 | 280 => 77 | 281 => 78 | 282 => 79 | 287 => 105 | 316 => 106 | 171 => 27 | 205 => 107 | 321 => 123 | 322 => 124 | 243 => 48 | 246 => 68 | 283 => 92 | 284 => 93 | 285 => 94 | 286 => 95 | 129 => 116 | 317 => 115 | 318 => 117 | 319 => 118 | 320 => 119 | 337 => 126 | 338 => 80 | n => n, fun | 9 => 9 | 3 => 3 | 75 => 79 | 76 => 80 | 4 => 4 | 5 => 5 | 167 => 120 | 37 => 44 | 0 => 0 | 85 => 121 | 2 => 2 | 168 => 123 | 53 => 104 | 175 => 157 | 46 => 96 | 210 => 161 | 127 => 117 | 145 => 178 | 143 => 176 | 21 => 21 | 171 => 145 | 173 => 147 | 212 => 170 | 51 => 106 | 20 => 20 | 213 => 171 | 232 => 50 | 233 => 163 | 80 => 95 | n => n, fun | 15 => 4 | 16 => 5 | 17 => 7 | 18 => 12 | 19 => 6 | n => n⟩
theorem Tryd.laysC172 : Go.Proofs.LaysC.n172 Tryd.prog Tryd.laysC172_ren := {
 mixed := by kernel_rfl
 f129 := Tryd.func116.trans (congrArg some (by kernel_rfl))
 f171 := Tryd.func27.trans (congrArg some (by kernel_rfl))
 f172 := Tryd.func36.trans (congrArg some (by kernel_rfl))
 f205 := Tryd.func107.trans (congrArg some (by kernel_rfl))
 f243 := Tryd.func48.trans (congrArg some (by kernel_rfl))
 f244 := Tryd.func54.trans (congrArg some (by kernel_rfl))
 f245 := Tryd.func55.trans (congrArg some (by kernel_rfl))
 f246 := Tryd.func68.trans (congrArg some (by kernel_rfl))
 f247 := Tryd.func75.trans (congrArg some (by kernel_rfl))
 f279 := Tryd.func76.trans (congrArg some (by kernel_rfl))
 f280 := Tryd.func77.trans (congrArg some (by kernel_rfl))
 f281 := Tryd.func78.trans (congrArg some (by kernel_rfl))
 f282 := Tryd.func79.trans (congrArg some (by kernel_rfl))
 f283 := Tryd.func92.trans (congrArg some (by kernel_rfl))
 f284 := Tryd.func93.trans (congrArg some (by kernel_rfl))
 f285 := Tryd.func94.trans (congrArg some (by kernel_rfl))
 f286 := Tryd.func95.trans (congrArg some (by kernel_rfl))
 f287 := Tryd.func105.trans (congrArg some (by kernel_rfl))
 f316 := Tryd.func106.trans (congrArg some (by kernel_rfl))
 f317 := Tryd.func115.trans (congrArg some (by kernel_rfl))
 f318 := Tryd.func117.trans (congrArg some (by kernel_rfl))
 f319 := Tryd.func118.trans (congrArg some (by kernel_rfl))
 f320 := Tryd.func119.trans (congrArg some (by kernel_rfl))
 f321 := Tryd.func123.trans (congrArg some (by kernel_rfl))
 f322 := Tryd.func124.trans (congrArg some (by kernel_rfl))
 f337 := Tryd.func126.trans (congrArg some (by kernel_rfl))
 f338 := Tryd.func80.trans (congrArg some (by kernel_rfl))
 t0 := Tryd.underlying0
 a0 := Tryd.isAgg0
 z0 := Tryd.sizeOf0
 v0 := Tryd.zeroValue0
 t2 := Tryd.underlying2
 a2 := Tryd.isAgg2
 z2 := Tryd.sizeOf2
 v2 := Tryd.zeroValue2
 t3 := Tryd.underlying3
 a3 := Tryd.isAgg3
 z3 := Tryd.sizeOf3
 v3 := Tryd.zeroValue3
 t4 := Tryd.underlying4
 a4 := Tryd.isAgg4
 z4 := Tryd.sizeOf4
 v4 := Tryd.zeroValue4
 t5 := Tryd.underlying5
 a5 := Tryd.isAgg5
 z5 := Tryd.sizeOf5
 v5 := Tryd.zeroValue5
 t9 := Tryd.underlying9
 a9 := Tryd.isAgg9
 z9 := Tryd.sizeOf9
 v9 := Tryd.zeroValue9
 t20 := Tryd.underlying20
 a20 := Tryd.isAgg20
 z20 := Tryd.sizeOf20
 v20 := Tryd.zeroValue20
 t21 := Tryd.underlying21
 a21 := Tryd.isAgg21
 z21 := Tryd.sizeOf21
 v21 := Tryd.zeroValue21
 t37 := Tryd.underlying44
 a37 := Tryd.isAgg44
 z37 := Tryd.sizeOf44
 v37 := Tryd.zeroValue44
 t46 := Tryd.underlying96
 a46 := Tryd.isAgg96
 z46 := Tryd.sizeOf96
 v46 := Tryd.zeroValue96
 t51 := Tryd.underlying106
 a51 := Tryd.isAgg106
 z51 := Tryd.sizeOf106
 v51 := Tryd.zeroValue106
 t53 := Tryd.underlying104
 a53 := Tryd.isAgg104
 z53 := Tryd.sizeOf104
 v53 := Tryd.zeroValue104
 t75 := Tryd.underlying79
 a75 := Tryd.isAgg79
 z75 := Tryd.sizeOf79
 v75 := Tryd.zeroValue79
 t76 := Tryd.underlying80
 a76 := Tryd.isAgg80
 z76 := Tryd.sizeOf80
 v76 := Tryd.zeroValue80
 t85 := Tryd.underlying121
 a85 := Tryd.isAgg121
 z85 := Tryd.sizeOf121
 v85 := Tryd.zeroValue121
 t127 := Tryd.underlying117
 a127 := Tryd.isAgg117
 z127 := Tryd.sizeOf117
 v127 := Tryd.zeroValue117
 t143 := Tryd.underlying176
 a143 := Tryd.isAgg176
 z143 := Tryd.sizeOf176
 v143 := Tryd.zeroValue176
 t145 := Tryd.underlying178
 a145 := Tryd.isAgg178
 z145 := Tryd.sizeOf178
 v145 := Tryd.zeroValue178
 t167 := Tryd.underlying120
 a167 := Tryd.isAgg120
 z167 := Tryd.sizeOf120
 v167 := Tryd.zeroValue120
 t168 := Tryd.underlying123
 a168 := Tryd.isAgg123
 z168 := Tryd.sizeOf123
 v168 := Tryd.zeroValue123
 t171 := Tryd.underlying145
 a171 := Tryd.isAgg145
 z171 := Tryd.sizeOf145
 v171 := Tryd.zeroValue145
 t173 := Tryd.underlying147
 a173 := Tryd.isAgg147
 z173 := Tryd.sizeOf147
 v173 := Tryd.zeroValue147
 t175 := Tryd.underlying157
 a175 := Tryd.isAgg157
 z175 := Tryd.sizeOf157
 v175 := Tryd.zeroValue157
 t210 := Tryd.underlying161
 a210 := Tryd.isAgg161
 z210 := Tryd.sizeOf161
 v210 := Tryd.zeroValue161
 t212 := Tryd.underlying170
 a212 := Tryd.isAgg170
 z212 := Tryd.sizeOf170
 v212 := Tryd.zeroValue170
 t213 := Tryd.underlying171
 a213 := Tryd.isAgg171
 z213 := Tryd.sizeOf171
 t232 := Tryd.underlying50
 a232 := Tryd.isAgg50
 z232 := Tryd.sizeOf50
 v232 := Tryd.zeroValue50
 t233 := Tryd.underlying163
 a233 := Tryd.isAgg163
 z233 := Tryd.sizeOf163
 v233 := Tryd.zeroValue163
 g15 := by kernel_rfl
 g16 := by kernel_rfl
 g17 := by kernel_rfl
 g18 := by kernel_rfl
 g19 := by kernel_rfl
 t80 := Tryd.underlying95
 a80 := Tryd.isAgg95
 z80 := Tryd.sizeOf95
 v80 := Tryd.zeroValue95
 i0 := by kernel_rfl
 i2 := by kernel_rfl
 i3 := by kernel_rfl
 i4 := by kernel_rfl
 i5 := by kernel_rfl
 i9 := by kernel_rfl
 i20 := by kernel_rfl
 i21 := by kernel_rfl
 i37 := by kernel_rfl
 i46 := by kernel_rfl
 i51 := by kernel_rfl
 i53 := by kernel_rfl
 i75 := by kernel_rfl
 i76 := by kernel_rfl
 i80 := by kernel_rfl
 i85 := by kernel_rfl
 i127 := by kernel_rfl
 i143 := by kernel_rfl
 i145 := by kernel_rfl
 i167 := by kernel_rfl
 i168 := by kernel_rfl
 i171 := by kernel_rfl
 i173 := by kernel_rfl
 i175 := by kernel_rfl
 i210 := by kernel_rfl
 i212 := by kernel_rfl
 i232 := by kernel_rfl
 i233 := by kernel_rfl
 m15 := by kernel_rfl
 m16 := by kernel_rfl
 m17 := by kernel_rfl
 m18 := by kernel_rfl
 m19 := by kernel_rfl
 c0 := by kernel_rfl
 c2 := by kernel_rfl
 c3 := by kernel_rfl
 c4 := by kernel_rfl
 c5 := by kernel_rfl
 c9 := by kernel_rfl
 c20 := by kernel_rfl
 c21 := by kernel_rfl
 c37 := by kernel_rfl
 c46 := by kernel_rfl
 c51 := by kernel_rfl
 c53 := by kernel_rfl
 c75 := by kernel_rfl
 c76 := by kernel_rfl
 c80 := by kernel_rfl
 c85 := by kernel_rfl
 c127 := by kernel_rfl
 c143 := by kernel_rfl
 c145 := by kernel_rfl
 c167 := by kernel_rfl
 c168 := by kernel_rfl
 c171 := by kernel_rfl
 c173 := by kernel_rfl
 c175 := by kernel_rfl
 c210 := by kernel_rfl
 c212 := by kernel_rfl
 c213 := by kernel_rfl
 c232 := by kernel_rfl
 c233 := by kernel_rfl }
end Go.Proofs
namespace Go.Proofs.YtbfeamknaiaghaaDoor
open Go.RowKit Go.Shelf Go.Lib
theorem ok_of2 {f : FuncId} {ws : List V} {r : V} (he : ∀ xs w, (callFunc f xs).run En.P w = .ok (.enter f xs) w)
  (h : ∀ (c : Cx) us, Gl En c → rdT ro0 c ws us → wfL ws → Calls En.P f us.toArray c.w fun e w' => ∃ v, e = .returned v ∧ ∃ hb : Below c.w.heap.size c.w w', rd ro0 (c.at w' hb.size) r v) : CallOk En f ws r [] :=
 ⟨he, fun c us _ hg hus => (h c us hg hus (rdT_wf hus)).mono fun e w' ⟨v, e1, hb, hr⟩ => ⟨v, c.at w' hb.size, ro0, e1, rfl, Cx.le_at hb, hr, ⟨fun i b hb => by simp at hb, fun i _ => rfl, fun i j bi bj k _ hb => by simp at hb⟩⟩⟩
def math_bits_Len64 (x : Int) : Int := (Lib.bitLen x.toNat : Int)
theorem ok_of {f : FuncId} {ws : List V} {r : V} (he : ∀ xs w, (callFunc f xs).run En.P w = .ok (.enter f xs) w)
  (h : ∀ (c : Cx) us, Gl En c → rdT ro0 c ws us → wfL ws → Calls En.P f us.toArray c.w fun e w' => ∃ v, e = .returned v ∧ Below c.w.heap.size c.w w' ∧ ∀ c', rd ro0 c' r v) : CallOk En f ws r [] :=
 ⟨he, fun c us _ hg hus => (h c us hg hus (rdT_wf hus)).mono fun e w' ⟨v, e1, hb, hr⟩ => ⟨v, c.at w' hb.size, ro0, e1, rfl, Cx.le_at hb, hr _, ⟨fun i b hb => by simp at hb, fun i _ => rfl, fun i j bi bj k _ hb => by simp at hb⟩⟩⟩
theorem Len64_call (x_ : Int) : CallOk En 116 [.int .u64 x_] (.int .i64 (math_bits_Len64 x_)) [] := by
 refine ok_of (show ∀ xs w, (callFunc 116 xs).run En.P w = .ok (.enter 116 xs) w from enters_of Tryd.func116 (by kernel_rfl) rfl) fun c us hg hus hw => ?_
 simp only [rdT, rd] at hus
 obtain ⟨u0, c2, rfl, ⟨rfl, l0⟩, rfl⟩ := hus
 have h0 : 0 ≤ x_ ∧ x_ ≤ 18446744073709551615 := l0
 refine (show Calls En.P 116 #[.int .u64 x_] c.w _ from Tryd.bits_Len64 x_ c.w h0.1 h0.2).mono ?_
 rintro e w' ⟨rfl, rfl⟩
 refine ⟨_, rfl, Below.refl _ _, fun c' => ?_⟩
 have hl := Lib.bitLen_le x_.toNat 64 (by decide) (by omega)
 simp only [rd]
 refine ⟨rfl, show (-9223372036854775808 : Int) ≤ (Lib.bitLen x_.toNat : Int) ∧ (Lib.bitLen x_.toNat : Int) ≤ 9223372036854775807 from ?_⟩
 constructor <;> omega
instance math_bits_Len64_ok (x_ : Int) : CM En (math_bits_Len64 x_) 116 [.int .u64 x_] (fun y => .int .i64 y) (fun _ => []) := ⟨Len64_call x_⟩
def strconv_Itoa (n : Int) : List UInt8 := Lib.itoa n
theorem pow_tab {c : Cx} (hg : Gl En c) : Lib.TabIs En.P c.w "internal/strconv.uint64pow10" .u64 Lib.pow10Tab := by
 obtain ⟨_, h⟩ := hg 7 _ rfl
 simp only [rd] at h
 exact h.1.2.2.2.2
theorem Itoa_call (x_ : Int) : CallOk En 27 [.int .i64 x_] (.str (strconv_Itoa x_)) [] := by
 refine ok_of2 (show ∀ xs w, (callFunc 27 xs).run En.P w = .ok (.enter 27 xs) w from enters_of Tryd.func27 (by kernel_rfl) rfl) fun c us hg hus hw => ?_
 simp only [rdT, rd] at hus
 obtain ⟨u0, c2, rfl, ⟨rfl, l0⟩, rfl⟩ := hus
 have h0 : -9223372036854775808 ≤ x_ ∧ x_ ≤ 9223372036854775807 := l0
 refine (show Calls En.P 27 #[.int .i64 x_] c.w _ from Any.strconv_Itoa Tryd.laysM171 x_ h0.1 h0.2 c.w (pow_tab hg)).mono ?_
 rintro e w' ⟨rfl, k, os, rfl⟩
 have hl := Lib.itoa_length_le x_ h0.1 h0.2
 refine ⟨_, rfl, Lib.below_grow _ _ (Nat.le_refl _) k os, ?_⟩
 simp only [rd]
 exact ⟨rfl, by unfold strconv_Itoa LEN; omega⟩
instance strconv_Itoa_ok (x_ : Int) : CM En (strconv_Itoa x_) 27 [.int .i64 x_] (fun y => .str y) (fun _ => []) := ⟨Itoa_call x_⟩
def strings_Join (l : List (List UInt8)) (sep : List UInt8) : List UInt8 := Lib.join l sep
theorem rdE_str {c : Cx} : ∀ {l : List (List UInt8)} {cs : List Value}, rdE c 1 false (l.map V.str) cs → cs = (l.map fun x => (⟨x.toArray⟩ : ByteArray)).map Value.string
 | [], _, h => h
 | x :: l, cs, h => by
  simp only [List.map_cons, rdE] at h
  obtain ⟨c1, c2, rfl, ⟨⟨h1, h2, h3⟩, h4⟩, h5⟩ := h
  match c1, h1 with
  | [u], _ =>
   have h4' : u = .string ⟨x.toArray⟩ := h4.1
   rw [rdE_str h5, h4']; rfl
theorem strs_data (l : List (List UInt8)) : (l.map fun x => (⟨x.toArray⟩ : ByteArray)).map (·.data.toList) = l := by
 rw [List.map_map]
 conv => rhs; rw [← List.map_id l]
 rfl
theorem Join_call (l : List (List UInt8)) (sep : List UInt8) (hj : (Lib.join l sep).length ≤ 1000000) : CallOk En 28 [.sl none 1 false (l.map V.str), .str sep] (.str (strings_Join l sep)) [] := by
 refine ok_of2 (show ∀ xs w, (callFunc 28 xs).run En.P w = .ok (.enter 28 xs) w from enters_of Tryd.func28 (by kernel_rfl) rfl) fun c us hg hus hw => ?_
 simp only [rdT, rd] at hus
 obtain ⟨u0, c2, rfl, ⟨a, cap, rfl, hlen, hz, hs⟩, u1, c3, rfl, ⟨rfl, l1⟩, rfl⟩ := hus
 rw [List.length_map] at hlen
 rcases hs with h0 | ⟨b, o, cs, rfl, hb, hX, hcell, hE⟩
 ·have h0' : l = [] := by cases l with
   | nil => rfl
   | cons x l => cases h0
  subst h0'
  refine (show Calls En.P 28 #[.slice a 0 cap, .string ⟨sep.toArray⟩] c.w _ from Any.strings_Join_none Tryd.lays156 Tryd.Builder_Extra_156 a cap ⟨sep.toArray⟩ c.w).mono ?_
  rintro e w' ⟨rfl, rfl⟩
  refine ⟨_, rfl, Below.refl _ _, ?_⟩
  simp only [rd]
  exact ⟨rfl, Nat.zero_le _⟩
 ·have hcs := rdE_str hE
  subst hcs
  have hn : ((l.map V.str).length) = (l.map fun x => (⟨x.toArray⟩ : ByteArray)).length := by simp
  rw [hn]
  generalize hbs : (l.map fun x => (⟨x.toArray⟩ : ByteArray)) = bs at hcell
  have hdat : bs.map (·.data.toList) = l := by rw [← hbs]; exact strs_data l
  have hbl : bs.length = l.length := by rw [← hbs, List.length_map]
  have hc1 : ∀ (j : Nat) x, bs[j]? = some x → c.w.cell? ⟨b, o + j, none⟩ = some (.string x) := fun j x hx => hcell j _ (by rw [List.getElem?_map, hx]; rfl)
  have hl1 : (Lib.join (bs.map (·.data.toList)) (⟨sep.toArray⟩ : ByteArray).data.toList).length ≤ 140737488355328 := by
   rw [hdat]
   show (Lib.join l sep).length ≤ _
   omega
  have h47 : bs.length ≤ 140737488355328 := by
   have := hlen.1
   rw [hbl]
   unfold LEN at this
   omega
  have hcall := Any.strings_Join Tryd.lays156 Tryd.Builder_Extra_156 b o cap bs ⟨sep.toArray⟩ c.w hc1 hb h47 (by rw [hbl]; exact hlen.2) hl1
  refine (show Calls En.P 28 #[.slice (some ⟨b, o, none⟩) bs.length cap, .string ⟨sep.toArray⟩] c.w _ from hcall).mono ?_
  rintro e w' ⟨rfl, hB⟩
  refine ⟨_, rfl, hB, ?_⟩
  rw [hdat]
  simp only [rd]
  exact ⟨rfl, Nat.le_trans hj (by unfold LEN; omega)⟩
theorem strings_Join_ok (l : List (List UInt8)) (sep : List UInt8) (hp0 : (Lib.join l sep).length ≤ 1000000) : CM En (strings_Join l sep) 28 [.sl none 1 false (l.map V.str), .str sep] (fun y => .str y) (fun _ => []) := ⟨Join_call l sep hp0⟩
def strings_Split (s sep : List UInt8) : List (List UInt8) := splitK sep 0 (countB ⟨s.toArray⟩ ⟨sep.toArray⟩) s
theorem maxLen {c : Cx} (hg : Gl En c) : ∃ m, c.w.cell? ⟨3, 0, none⟩ = some (.int .i64 m) := by
 obtain ⟨_, h⟩ := hg 3 _ rfl
 simp only [rd] at h
 obtain ⟨b, o, cs, e, _, _, h3, h4, h5⟩ := h
 cases e
 unfold shapeOk at h4
 match cs, h4, h3, h5 with
 | [u], _, h3, h5 =>
  obtain ⟨⟨m, e⟩, _⟩ := h5
  refine ⟨m, ?_⟩
  have := h3 0 u rfl
  rw [this]
  simpa [mkV] using e
theorem rdE_of_str {c : Cx} : ∀ {l : List ByteArray}, (∀ x ∈ l, x.size ≤ LEN) → rdE c 1 false ((l.map (·.data.toList)).map V.str) (l.map Value.string)
 | [], _ => rfl
 | x :: l, h => by
  simp only [List.map_cons, rdE]
  refine ⟨[.string x], _, rfl, ⟨⟨rfl, fun _ => rfl, fun u hu => by simp at hu; subst hu; rfl⟩, ?_⟩, rdE_of_str fun y hy => h y (by simp [hy])⟩
  show Value.string x = .string ⟨x.data.toList.toArray⟩ ∧ x.data.toList.length ≤ LEN
  exact ⟨by simp, h x (by simp)⟩
theorem splitB_small (sep : ByteArray) (n : Nat) : ∀ (k : Nat) (s : ByteArray), s.size ≤ n → ∀ x ∈ splitB sep 0 k s, x.size ≤ n
 | 0, s, h, x, hx => by rw [splitB_zero] at hx; simp at hx; subst hx; exact h
 | k + 1, s, h, x, hx => by
  unfold splitB at hx
  split at hx
  ·simp at hx; subst hx; exact h
  ·rcases List.mem_cons.1 hx with rfl | hx
   ·rw [ByteArray.size_extract]; omega
   ·exact splitB_small sep n k _ (by rw [ByteArray.size_extract]; omega) x hx
theorem Split_call (s sep : List UInt8) (hsep : 1 ≤ sep.length) (hs : s.length ≤ 1000000) : CallOk En 30 [.str s, .str sep] (.sl none 1 false ((strings_Split s sep).map V.str)) [] := by
 refine ok_of2 (show ∀ xs w, (callFunc 30 xs).run En.P w = .ok (.enter 30 xs) w from enters_of Tryd.func30 (by kernel_rfl) rfl) fun c us hg hus hw => ?_
 simp only [rdT, rd] at hus
 obtain ⟨u0, c2, rfl, ⟨rfl, l0⟩, u1, c3, rfl, ⟨rfl, l1⟩, rfl⟩ := hus
 obtain ⟨m, hm⟩ := maxLen hg
 have hsz : (⟨s.toArray⟩ : ByteArray).size = s.length := by show s.toArray.size = _; simp
 have hse : (⟨sep.toArray⟩ : ByteArray).size = sep.length := by show sep.toArray.size = _; simp
 have hcl := Lib.countB_le ⟨sep.toArray⟩ (by omega) (⟨s.toArray⟩ : ByteArray).size ⟨s.toArray⟩ (Nat.le_refl _)
 have hlen := Lib.splitB_all ⟨sep.toArray⟩ (by omega) 0 _ ⟨s.toArray⟩ rfl
 refine (show Calls En.P 30 #[.string ⟨s.toArray⟩, .string ⟨sep.toArray⟩] c.w _ from Any.strings_Split Tryd.lays146 (by kernel_rfl) ⟨s.toArray⟩ ⟨sep.toArray⟩ m c.w (by omega) hm (by omega)).mono ?_
 rintro e w' ⟨rfl, rfl⟩
 generalize hL : splitB ⟨sep.toArray⟩ 0 (countB ⟨s.toArray⟩ ⟨sep.toArray⟩) ⟨s.toArray⟩ = L at hlen
 have hB : Below c.w.heap.size c.w (c.w.alloc (.cells (L.map Value.string).toArray (Tryd.lays146_ren.t 9))) := (Below.refl _ _).alloc (Nat.le_refl _) _
 refine ⟨_, rfl, hB, ?_⟩
 have hd : strings_Split s sep = L.map (·.data.toList) := by rw [← hL, splitB_data]; rfl
 have hsm : ∀ x ∈ L, x.size ≤ LEN := by rw [← hL]; exact splitB_small _ _ _ _ (by unfold LEN; omega)
 rw [hd]
 simp only [rd]
 have hLl : (L.map (·.data.toList)).length = L.length := List.length_map _
 refine ⟨_, _, by rw [List.length_map, List.length_map, hlen], ⟨by rw [List.length_map, List.length_map]; unfold LEN; omega, by rw [List.length_map, List.length_map]; omega⟩, (fun e => by cases e), .inr ⟨c.w.heap.size, 0, L.map Value.string, rfl, ?_, ?_, ?_, rdE_of_str hsm⟩⟩
 ·show c.w.heap.size < (c.w.heap.push _).size
  rw [Array.size_push]; omega
 ·intro hx
  exact absurd (c.ok _ hx) (Nat.lt_irrefl _)
 ·intro j u hj
  show (c.w.alloc (.cells (L.map Value.string).toArray (Tryd.lays146_ren.t 9))).cell? ⟨c.w.heap.size, 0 + j, none⟩ = some u
  rw [Nat.zero_add, World.cell?_alloc_new]
  simpa using hj
theorem strings_Split_ok (s sep : List UInt8) (hp0 : 1 ≤ sep.length) (hp1 : s.length ≤ 1000000) : CM En (strings_Split s sep) 30 [.str s, .str sep] (fun y => .sl none 1 false (y.map V.str)) (fun _ => []) := ⟨Split_call s sep hp0 hp1⟩
def strconv_Atoi (s : List UInt8) : Int × Bool := match Lib.atoiAll s with
 | .ok v => (v, true)
 | .range => (Lib.atoiSat s, false)
 | _ => (0, false)
theorem err_var {c : Cx} (hg : Gl En c) : (∃ t p, c.w.var? En.P "strconv.ErrSyntax" = some #[.iface t p]) ∧ ∃ t p, c.w.var? En.P "strconv.ErrRange" = some #[.iface t p] := by
 obtain ⟨_, h⟩ := hg 4 _ rfl
 obtain ⟨_, h2⟩ := hg 5 _ rfl
 simp only [rd] at h h2
 exact ⟨h.1.2.2.2.2, h2.1.2.2.2.2⟩
theorem atoi_rng {s : List UInt8} {v : Int} (h : Lib.atoiAll s = .ok v) : -9223372036854775808 ≤ v ∧ v ≤ 9223372036854775807 := by
 unfold Lib.atoiAll at h
 split at h
 ·cases h
 ·simp only at h
  split at h
  ·cases h
  ·cases h
  ·split at h
   ·cases h
   ·split at h
    ·cases h
    ·injection h with h
     split at h <;> omega
theorem Atoi_call (s : List UInt8) : CallOk En 36 [.str s] (.tup [.int .i64 (strconv_Atoi s).1, .ifc (strconv_Atoi s).2]) [] := by
 refine ok_of2 (show ∀ xs w, (callFunc 36 xs).run En.P w = .ok (.enter 36 xs) w from enters_of Tryd.func36 (by kernel_rfl) rfl) fun c us hg hus hw => ?_
 simp only [rdT, rd] at hus
 obtain ⟨u0, c2, rfl, ⟨rfl, l0⟩, rfl⟩ := hus
 have hsz : (⟨s.toArray⟩ : ByteArray).size = s.length := by show s.toArray.size = _; simp
 have hd : (⟨s.toArray⟩ : ByteArray).data.toList = s := by simp
 obtain ⟨⟨t1, p1, hv1⟩, t2, p2, hv2⟩ := err_var hg
 unfold LEN at l0
 unfold strconv_Atoi
 cases h : Lib.atoiAll s with
 | ok v =>
  refine (show Calls En.P 36 #[.string ⟨s.toArray⟩] c.w _ from Any.strconv_Atoi_ok Tryd.laysC172 ⟨s.toArray⟩ (by omega) v (by rw [hd]; exact h) c.w).mono ?_
  rintro e w' ⟨rfl, hw'⟩
  have hB : Below c.w.heap.size c.w w' := by
   rcases hw' with rfl | ⟨t, rfl⟩
   ·exact Below.refl _ _
   ·exact Lib.bytesWorld_below _ _ _
  refine ⟨_, rfl, hB, ?_⟩
  simp only [rd, rdT]
  exact ⟨_, rfl, _, _, rfl, ⟨rfl, atoi_rng h⟩, _, _, rfl, ifcOk_nil, rfl⟩
 | range =>
  refine (show Calls En.P 36 #[.string ⟨s.toArray⟩] c.w _ from Any.strconv_Atoi_range_var Tryd.laysC172 ⟨s.toArray⟩ (by omega) (by rw [hd]; exact h) t2 p2 c.w hv2).mono ?_
  rintro e w' ⟨N, rfl, _, _, hB⟩
  refine ⟨_, rfl, hB, ?_⟩
  simp only [rd, rdT]
  exact ⟨_, rfl, _, _, rfl, ⟨rfl, by rw [rng_i64]; unfold Lib.atoiSat; split <;> decide⟩, _, _, rfl, by unfold ifcOk; rw [if_neg (by decide)]; exact ⟨_, _, rfl⟩, rfl⟩
 | _ =>
  refine (show Calls En.P 36 #[.string ⟨s.toArray⟩] c.w _ from Any.strconv_Atoi_syntax_var Tryd.laysC172 ⟨s.toArray⟩ (by omega) (by rw [hd]; exact h) t1 p1 c.w hv1).mono ?_
  rintro e w' ⟨N, rfl, _, _, hB⟩
  refine ⟨_, rfl, hB, ?_⟩
  simp only [rd, rdT]
  exact ⟨_, rfl, _, _, rfl, ⟨rfl, by rw [rng_i64]; decide⟩, _, _, rfl, by unfold ifcOk; rw [if_neg (by decide)]; exact ⟨_, _, rfl⟩, rfl⟩
instance strconv_Atoi_ok (s : List UInt8) : CM En (strconv_Atoi s) 36 [.str s] (fun y => .tup [.int .i64 y.1, .ifc y.2]) (fun _ => []) := ⟨Atoi_call s⟩
end Go.Proofs.YtbfeamknaiaghaaDoor
namespace Go.Proofs.YtbfeamknaiaghaaDoor
open Go.RowKit
def math_bits_TrailingZeros64 (x_ : Int) : Int :=
 (if (x_ == 0) then 64 else (convI .i64 (gt kg_6 (shrI .u64 (mulI .u64 (andI .u64 x_ (negI .u64 x_)) 285870213051353865) 58))))
def math_bits_Mul64 (x_ : Int) (y : Int) : (Int × Int) :=
 ((addI .u64 (addI .u64 (mulI .u64 (shrI .u64 x_ 32) (shrI .u64 y 32)) (shrI .u64 (addI .u64 (mulI .u64 (shrI .u64 x_ 32) (andI .u64 y 4294967295)) (shrI .u64 (mulI .u64 (andI .u64 x_ 4294967295) (andI .u64 y 4294967295)) 32)) 32)) (shrI .u64 (addI .u64 (andI .u64 (addI .u64 (mulI .u64 (shrI .u64 x_ 32) (andI .u64 y 4294967295)) (shrI .u64 (mulI .u64 (andI .u64 x_ 4294967295) (andI .u64 y 4294967295)) 32)) 4294967295) (mulI .u64 (andI .u64 x_ 4294967295) (shrI .u64 y 32))) 32)), (mulI .u64 x_ y))
def math_bits_LeadingZeros64 (x_ : Int) : Int :=
 (letk (math_bits_Len64 x_) (fun (x1 : Int) => (subI .i64 64 x1)))
def math_bits_Div64 (hi : Int) (lo : Int) (y : Int) : (Int × Int) :=
 (if (y == 0) then (default : (Int × Int)) else (if (decide (y ≤ hi)) then (default : (Int × Int)) else (if (hi == 0) then ((quoI .u64 lo y), (remI .u64 lo y)) else (letk (math_bits_LeadingZeros64 y) (fun (x10 : Int) => (letj (fun (p14 : Int) => (letj (fun (p15 : Int) => ((addI .u64 (mulI .u64 p14 4294967296) p15), (shrI .u64 (subI .u64 (addI .u64 (mulI .u64 (subI .u64 (addI .u64 (mulI .u64 (orI .u64 (shlI .u64 hi (convI .u64 x10)) (shrI .u64 lo (subI .u64 64 (convI .u64 x10)))) 4294967296) (shrI .u64 (shlI .u64 lo (convI .u64 x10)) 32)) (mulI .u64 p14 (shlI .u64 y (convI .u64 x10)))) 4294967296) (andI .u64 (shlI .u64 lo (convI .u64 x10)) 4294967295)) (mulI .u64 p15 (shlI .u64 y (convI .u64 x10)))) (convI .u64 x10)))) (fun j15 => (iter ((4294967296 - (subI .u64 (subI .u64 (addI .u64 (mulI .u64 (orI .u64 (shlI .u64 hi (convI .u64 x10)) (shrI .u64 lo (subI .u64 64 (convI .u64 x10)))) 4294967296) (shrI .u64 (shlI .u64 lo (convI .u64 x10)) 32)) (mulI .u64 p14 (shlI .u64 y (convI .u64 x10)))) (mulI .u64 (quoI .u64 (subI .u64 (addI .u64 (mulI .u64 (orI .u64 (shlI .u64 hi (convI .u64 x10)) (shrI .u64 lo (subI .u64 64 (convI .u64 x10)))) 4294967296) (shrI .u64 (shlI .u64 lo (convI .u64 x10)) 32)) (mulI .u64 p14 (shlI .u64 y (convI .u64 x10)))) (shrI .u64 (shlI .u64 y (convI .u64 x10)) 32)) (shrI .u64 (shlI .u64 y (convI .u64 x10)) 32)))).toNat + 1) (fun (ag16 : (Int × Int) → (Int × Int)) (p16 : Int × Int) => (if (decide (p16.2 ≥ 4294967296)) then (if (decide ((addI .u64 p16.1 (shrI .u64 (shlI .u64 y (convI .u64 x10)) 32)) ≥ 4294967296)) then (j15 (subI .u64 p16.2 1)) else (ag16 ((addI .u64 p16.1 (shrI .u64 (shlI .u64 y (convI .u64 x10)) 32)), (subI .u64 p16.2 1)))) else (if (decide ((mulI .u64 p16.2 (andI .u64 (shlI .u64 y (convI .u64 x10)) 4294967295)) > (addI .u64 (mulI .u64 4294967296 p16.1) (andI .u64 (shlI .u64 lo (convI .u64 x10)) 4294967295)))) then (if (decide ((addI .u64 p16.1 (shrI .u64 (shlI .u64 y (convI .u64 x10)) 32)) ≥ 4294967296)) then (j15 (subI .u64 p16.2 1)) else (ag16 ((addI .u64 p16.1 (shrI .u64 (shlI .u64 y (convI .u64 x10)) 32)), (subI .u64 p16.2 1)))) else (j15 p16.2)))) (fun _ => default) ((subI .u64 (subI .u64 (addI .u64 (mulI .u64 (orI .u64 (shlI .u64 hi (convI .u64 x10)) (shrI .u64 lo (subI .u64 64 (convI .u64 x10)))) 4294967296) (shrI .u64 (shlI .u64 lo (convI .u64 x10)) 32)) (mulI .u64 p14 (shlI .u64 y (convI .u64 x10)))) (mulI .u64 (quoI .u64 (subI .u64 (addI .u64 (mulI .u64 (orI .u64 (shlI .u64 hi (convI .u64 x10)) (shrI .u64 lo (subI .u64 64 (convI .u64 x10)))) 4294967296) (shrI .u64 (shlI .u64 lo (convI .u64 x10)) 32)) (mulI .u64 p14 (shlI .u64 y (convI .u64 x10)))) (shrI .u64 (shlI .u64 y (convI .u64 x10)) 32)) (shrI .u64 (shlI .u64 y (convI .u64 x10)) 32))), (quoI .u64 (subI .u64 (addI .u64 (mulI .u64 (orI .u64 (shlI .u64 hi (convI .u64 x10)) (shrI .u64 lo (subI .u64 64 (convI .u64 x10)))) 4294967296) (shrI .u64 (shlI .u64 lo (convI .u64 x10)) 32)) (mulI .u64 p14 (shlI .u64 y (convI .u64 x10)))) (shrI .u64 (shlI .u64 y (convI .u64 x10)) 32))))))) (fun j14 => (iter ((4294967296 - (subI .u64 (orI .u64 (shlI .u64 hi (convI .u64 x10)) (shrI .u64 lo (subI .u64 64 (convI .u64 x10)))) (mulI .u64 (quoI .u64 (orI .u64 (shlI .u64 hi (convI .u64 x10)) (shrI .u64 lo (subI .u64 64 (convI .u64 x10)))) (shrI .u64 (shlI .u64 y (convI .u64 x10)) 32)) (shrI .u64 (shlI .u64 y (convI .u64 x10)) 32)))).toNat + 1) (fun (ag29 : (Int × Int) → (Int × Int)) (p29 : Int × Int) => (if (decide (p29.1 ≥ 4294967296)) then (if (decide ((addI .u64 p29.2 (shrI .u64 (shlI .u64 y (convI .u64 x10)) 32)) ≥ 4294967296)) then (j14 (subI .u64 p29.1 1)) else (ag29 ((subI .u64 p29.1 1), (addI .u64 p29.2 (shrI .u64 (shlI .u64 y (convI .u64 x10)) 32))))) else (if (decide ((mulI .u64 p29.1 (andI .u64 (shlI .u64 y (convI .u64 x10)) 4294967295)) > (addI .u64 (mulI .u64 4294967296 p29.2) (shrI .u64 (shlI .u64 lo (convI .u64 x10)) 32)))) then (if (decide ((addI .u64 p29.2 (shrI .u64 (shlI .u64 y (convI .u64 x10)) 32)) ≥ 4294967296)) then (j14 (subI .u64 p29.1 1)) else (ag29 ((subI .u64 p29.1 1), (addI .u64 p29.2 (shrI .u64 (shlI .u64 y (convI .u64 x10)) 32))))) else (j14 p29.1)))) (fun _ => default) ((quoI .u64 (orI .u64 (shlI .u64 hi (convI .u64 x10)) (shrI .u64 lo (subI .u64 64 (convI .u64 x10)))) (shrI .u64 (shlI .u64 y (convI .u64 x10)) 32)), (subI .u64 (orI .u64 (shlI .u64 hi (convI .u64 x10)) (shrI .u64 lo (subI .u64 64 (convI .u64 x10)))) (mulI .u64 (quoI .u64 (orI .u64 (shlI .u64 hi (convI .u64 x10)) (shrI .u64 lo (subI .u64 64 (convI .u64 x10)))) (shrI .u64 (shlI .u64 y (convI .u64 x10)) 32)) (shrI .u64 (shlI .u64 y (convI .u64 x10)) 32))))))))))))
def prime_mul (a_ : Int) (b : Int) (n_ : Int) : Int :=
 (letk (math_bits_Mul64 a_ b) (fun (x1 : (Int × Int)) => (letk (math_bits_Div64 (x1.1) (x1.2) n_) (fun (x5 : (Int × Int)) => x5.2))))
def prime_pow (a_ : Int) (e_ : Int) (n_ : Int) : Int :=
 (iter (e_.toNat + 1) (fun (ag1 : (Int × Int × Int) → Int) (p1 : Int × Int × Int) => (if (decide (p1.2.1 > 0)) then (if ((andI .u64 p1.2.1 1) == 1) then (letk (prime_mul (p1.2.2) (p1.1) n_) (fun (x6 : Int) => (letk (prime_mul (p1.1) (p1.1) n_) (fun (x10 : Int) => (ag1 (x10, (shrI .u64 p1.2.1 1), x6)))))) else (letk (prime_mul (p1.1) (p1.1) n_) (fun (x15 : Int) => (ag1 (x15, (shrI .u64 p1.2.1 1), p1.2.2))))) else p1.2.2)) (fun _ => default) (a_, e_, 1))
def prime_composite (a_ : Int) (n_ : Int) (d_ : Int) (s : Int) : Bool :=
 (letk (prime_pow a_ d_ n_) (fun (x1 : Int) => (if (x1 == 1) then false else (if (x1 == (subI .u64 n_ 1)) then false else (iter ((subI .i64 s 1 - 0).toNat + 1) (fun (ag10 : (Int × Int) → Bool) (p10 : Int × Int) => (if (decide (p10.2 < (subI .i64 s 1))) then (letk (prime_mul (p10.1) (p10.1) n_) (fun (x13 : Int) => (if (x13 == (subI .u64 n_ 1)) then false else (ag10 (x13, (p10.2 + 1)))))) else true)) (fun _ => default) (x1, 0))))))
def prime_Is (n_ : Int) : Bool :=
 (if (decide (n_ < 2)) then false else (iter (((12 : Int) - 0).toNat + 1) (fun (ag4 : Int → Bool) (p4 : Int) => (if (decide (p4 < 12)) then (if ((remI .u64 (convI .u64 n_) (gt kg_1 p4)) == 0) then ((convI .u64 n_) == (gt kg_1 p4)) else (ag4 (p4 + 1))) else (letk (math_bits_TrailingZeros64 (subI .u64 (convI .u64 n_) 1)) (fun (x12 : Int) => (iter (((12 : Int) - 0).toNat + 1) (fun (ag16 : Int → Bool) (p16 : Int) => (if (decide (p16 < 12)) then (letk (prime_composite (gt kg_1 p16) (convI .u64 n_) (shrI .u64 (subI .u64 (convI .u64 n_) 1) x12) x12) (fun (x20 : Bool) => (if x20 then false else (ag16 (p16 + 1))))) else true)) (fun _ => default) 0))))) (fun _ => default) 0))
def word_residue (a_ : Int) (m : Int) : Bool :=
 (if (decide (a_ ≥ 0)) then (decide (a_ < m)) else false)
def word_check (a_ : Int) (b : Int) (m : Int) : Int :=
 (if (decide (m < 1)) then 1 else (if (decide (m ≥ 2305843009213693952)) then 1 else (letk (word_residue a_ m) (fun (x6 : Bool) => (if (!x6) then 2 else (letk (word_residue b m) (fun (x11 : Bool) => (if (!x11) then 2 else 0))))))))
def word_mul (a_ : Int) (b : Int) (m : Int) : Int :=
 (letk (math_bits_Mul64 (convI .u64 a_) (convI .u64 b)) (fun (x1 : (Int × Int)) => (letk (math_bits_Div64 (x1.1) (x1.2) (convI .u64 m)) (fun (x5 : (Int × Int)) => (convI .i64 x5.2)))))
def word_Pow (a_ : Int) (e_ : Int) (m : Int) : (Int × Int) :=
 (letk (word_check a_ a_ m) (fun (x1 : Int) => (if (x1 != 0) then (0, x1) else (if (decide (e_ < 0)) then (0, 2) else (iter (e_.toNat + 1) (fun (ag11 : (Int × Int × Int) → (Int × Int)) (p11 : Int × Int × Int) => (if (decide (p11.2.1 > 0)) then (if ((andI .i64 p11.2.1 1) == 1) then (letk (word_mul (p11.2.2) (p11.1) m) (fun (x16 : Int) => (letk (word_mul (p11.1) (p11.1) m) (fun (x20 : Int) => (ag11 (x20, (shrI .i64 p11.2.1 1), x16)))))) else (letk (word_mul (p11.1) (p11.1) m) (fun (x25 : Int) => (ag11 (x25, (shrI .i64 p11.2.1 1), p11.2.2))))) else (p11.2.2, 0))) (fun _ => default) (a_, e_, (remI .i64 1 m)))))))
def group_Valid (g : S_api_Group) : Bool :=
 (if (decide (g.P ≥ 2305843009213693952)) then false else (if (decide (g.Q < 3)) then false else (if ((remI .i64 g.Q 2) == 0) then false else (letk (prime_Is (g.P)) (fun (x7 : Bool) => (if (!x7) then false else (letk (prime_Is (g.Q)) (fun (x12 : Bool) => (if (!x12) then false else (if ((remI .i64 (subI .i64 g.P 1) g.Q) != 0) then false else (if (decide (g.G < 2)) then false else (if (decide (g.G ≥ g.P)) then false else (letk (word_Pow (g.G) (g.Q) (g.P)) (fun (x24 : (Int × Int)) => (if (x24.2 == 0) then (x24.1 == 1) else false)))))))))))))))
def group_element (g : S_api_Group) (x_ : Int) : Bool :=
 (if (decide (x_ < 1)) then false else (if (decide (x_ ≥ g.P)) then false else (letk (word_Pow x_ (g.Q) (g.P)) (fun (x6 : (Int × Int)) => (x6.1 == 1)))))
def group_Contains (g : S_api_Group) (x_ : Int) : Bool :=
 (letk (group_Valid g) (fun (x1 : Bool) => (if x1 then (letk (group_element g x_) (fun (x5 : Bool) => x5)) else false)))
def base_Valid (b : S_api_Bases) : Bool :=
 (letk (group_Valid (b.Group)) (fun (x1 : Bool) => (if (!x1) then false else (iter (((3 : Int) - 0).toNat + 1) (fun (ag7 : Int → Bool) (p7 : Int) => (if (decide (p7 < (3 : Int))) then (if ((gt ([b.G1, b.G2, b.H] : List Int) p7) == 1) then false else (letk (group_Contains (b.Group) (gt ([b.G1, b.G2, b.H] : List Int) p7)) (fun (x13 : Bool) => (if (!x13) then false else (ag7 (p7 + 1)))))) else true)) (fun _ => default) 0))))
def base_numbers (b : S_api_Bases) : (List Int) :=
 ([b.Group.P, b.Group.Q, b.Group.G, b.G1, b.G2, b.H] : List Int)
def base_Text (b : S_api_Bases) : ((List UInt8) × Int) :=
 (letk (base_Valid b) (fun (x1 : Bool) => (if (!x1) then ([], 1) else (letk (base_numbers b) (fun (x7 : (List Int)) => (iter (((x7.length : Int) - 0).toNat + 1) (fun (ag11 : (Int × List (List UInt8)) → ((List UInt8) × Int)) (p11 : Int × List (List UInt8)) => (if (decide (p11.1 < (x7.length : Int))) then (letk (strconv_Itoa (gt x7 p11.1)) (fun (x15 : (List UInt8)) => (ag11 ((p11.1 + 1), (p11.2 ++ ([x15] : List (List UInt8))))))) else (letk (strings_Join (p11.2) ([32])) (fun (x20 : (List UInt8)) => (x20, 0))))) (fun _ => default) (0, ([] : List (List UInt8)))))))))
def base_Parse (s : (List UInt8)) : (S_api_Bases × Int) :=
 (if (decide ((s.length : Int) > 200)) then (z_api_Bases, 5) else (letk (strings_Split s ([32])) (fun (x4 : (List (List UInt8))) => (iter (((x4.length : Int) - 0).toNat + 1) (fun (ag7 : (Int × S_api_Bases × List Int) → (S_api_Bases × Int)) (p7 : Int × S_api_Bases × List Int) => (if (decide (p7.1 < (x4.length : Int))) then (letk (strconv_Atoi (gt x4 p7.1)) (fun (x11 : (Int × Bool)) => (if (!x11.2) then (z_api_Bases, 3) else (if (decide (x11.1 < 0)) then (z_api_Bases, 3) else (if (decide (x11.1 ≥ 2305843009213693952)) then (z_api_Bases, 3) else (letk (strconv_Itoa (x11.1)) (fun (x20 : (List UInt8)) => (if (!(x20 == (gt x4 p7.1))) then (z_api_Bases, 3) else (ag7 ((p7.1 + 1), p7.2.1, (p7.2.2 ++ ([x11.1] : List Int)))))))))))) else (if ((p7.2.2.length : Int) != 6) then (z_api_Bases, 3) else (letk (base_Valid ({ Group := ({ P := (gt p7.2.2 0), Q := (gt p7.2.2 1), G := (gt p7.2.2 2) } : S_api_Group), G1 := (gt p7.2.2 3), G2 := (gt p7.2.2 4), H := (gt p7.2.2 5) } : S_api_Bases)) (fun (x39 : Bool) => (if (!x39) then (z_api_Bases, 1) else (({ Group := ({ P := (gt p7.2.2 0), Q := (gt p7.2.2 1), G := (gt p7.2.2 2) } : S_api_Group), G1 := (gt p7.2.2 3), G2 := (gt p7.2.2 4), H := (gt p7.2.2 5) } : S_api_Bases), 0))))))) (fun _ => default) (0, z_api_Bases, ([] : List Int))))))
def specielaw11_awake  : Bool :=
 (letk (base_Text ({ Group := ({ P := 23, Q := 11, G := 4 } : S_api_Group), G1 := 2, G2 := 3, H := 9 } : S_api_Bases)) (fun (x1 : ((List UInt8) × Int)) => (letk (base_Parse ([50, 51, 32, 49, 49, 32, 52, 32, 50, 32, 51, 32, 57])) (fun (x4 : (S_api_Bases × Int)) => (if (x1.1 == [50, 51, 32, 49, 49, 32, 52, 32, 50, 32, 51, 32, 57]) then (if (x1.2 == 0) then (if (q_api_Bases (x4.1) ({ Group := ({ P := 23, Q := 11, G := 4 } : S_api_Group), G1 := 2, G2 := 3, H := 9 } : S_api_Bases)) then (if (x4.2 == 0) then (letk (base_Valid ({ Group := ({ P := 23, Q := 11, G := 4 } : S_api_Group), G1 := 2, G2 := 3, H := 5 } : S_api_Bases)) (fun (x15 : Bool) => (!x15))) else false) else false) else false) else false)))))
def specielaw11_BaseBack (b : S_api_Bases) (s : (List UInt8)) : Bool :=
 (letk (specielaw11_awake) (fun (x1 : Bool) => (if (!x1) then (letk (specielaw11_awake) (fun (x57 : Bool) => x57)) else (if (decide ((s.length : Int) > 200)) then (letk (specielaw11_awake) (fun (x8 : Bool) => x8)) else (letj (fun (p12 : Unit) => (letk (base_Parse s) (fun (x13 : (S_api_Bases × Int)) => (if (x13.2 != 0) then (q_api_Bases (x13.1) z_api_Bases) else (letk (base_Text (x13.1)) (fun (x19 : ((List UInt8) × Int)) => (if (x19.2 == 0) then (if (x19.1 == s) then (letk (base_Valid (x13.1)) (fun (x26 : Bool) => x26)) else false) else false))))))) (fun j12 => (letk (base_Text b) (fun (x31 : ((List UInt8) × Int)) => (if (x31.2 == 0) then (letk (base_Parse (x31.1)) (fun (x36 : (S_api_Bases × Int)) => (if (x36.2 != 0) then false else (if (!(q_api_Bases (x36.1) b)) then false else (letk (base_Valid b) (fun (x43 : Bool) => (if (!x43) then false else (j12 ())))))))) else (letk (base_Valid b) (fun (x52 : Bool) => (if x52 then false else (j12 ())))))))))))))
end Go.Proofs.YtbfeamknaiaghaaDoor
namespace Go.Proofs.YtbfeamknaiaghaaDoor
open Go.RowKit
theorem gt_mem {α : Type} [Inhabited α] {l : List α} {i : Int} (h : i.toNat < l.length) : gt l i ∈ l := by
 simp [gt, List.getD_eq_getElem?_getD, h]
theorem iter_rule {α R : Type} {P : α → Prop} {Q : R → Prop} {meas : α → Nat} {F : (α → R) → α → R} {d : α → R}
  (hs : ∀ ag p, P p → (∀ q, P q → meas q < meas p → Q (ag q)) → Q (F ag p)) : ∀ (fuel : Nat) (p : α), P p → meas p < fuel → Q (iter fuel F d p) := by
 intro fuel
 induction fuel with
 | zero => intro p _ h; omega
 | succ k ih =>
  intro p hp hm
  rw [iter]
  exact hs _ p hp fun q hq hlt => ih q hq (by omega)
theorem pp_get {α : Type} [Inhabited α] {f : α → V} {l : List α} {n : Nat} {i : Int} (hl : l.length = n) (h : 0 ≤ i ∧ i.toNat < n) : (l.map f).getD (i.toNat * 1) .un = f (gt l i) := by
 subst hl
 simp [gt, List.getD_eq_getElem?_getD, h.2]
def remA {β : Type} (i : Nat) : List (Nat × β) → List (Nat × β)
 | [] => []
 | (k, b) :: l => if k = i then remA i l else (k, b) :: remA i l
attribute [go_sem] remA
end Go.Proofs.YtbfeamknaiaghaaDoor
namespace Go.Proofs.YtbfeamknaiaghaaDoor
open Go.RowKit
theorem w64 (a : Int) : IntKind.wrap .u64 a = a % 18446744073709551616 := by simp [IntKind.wrap, IntKind.bits, IntKind.signed]
theorem shr_eq {k : IntKind} {x : Int} {n : Int} {m : Nat} (hn : min n.toNat k.bits = m) : shrI k x n = x / 2 ^ m := by
 unfold shrI; rw [hn, Int.fdiv_eq_ediv_of_nonneg]; exact Int.le_of_lt (Int.pow_pos (by decide))
theorem shr32 (x : Int) : shrI .u64 x 32 = x / 4294967296 := shr_eq (m := 32) rfl
theorem shr58 (x : Int) : shrI .u64 x 58 = x / 288230376151711744 := shr_eq (m := 58) rfl
theorem shr1 (x : Int) : shrI .u64 x 1 = x / 2 := shr_eq (m := 1) rfl
theorem shr1i (x : Int) : shrI .i64 x 1 = x / 2 := shr_eq (m := 1) rfl
theorem tzix {x : Int} : 0 ≤ shrI .u64 (mulI .u64 x 285870213051353865) 58 ∧ shrI .u64 (mulI .u64 x 285870213051353865) 58 < 64 := by
 rw [shr58]; unfold mulI; rw [w64]; omega
def isLen (x : Int) (l : Nat) : Prop := 1 ≤ l ∧ (2 : Int) ^ (l - 1) ≤ x ∧ x < 2 ^ l
theorem bl_nat (x : Nat) : 1 ≤ x → x < 2 ^ 64 → 1 ≤ Lib.bitLen x ∧ 2 ^ (Lib.bitLen x - 1) ≤ x ∧ x < 2 ^ Lib.bitLen x := by
 induction x using Nat.strongRecOn with
 | ind x ih =>
  intro h0 h1
  by_cases h : x = 1
  ·subst h; decide
  ·obtain ⟨a1, a2, a3⟩ := ih (x / 2) (by omega) (by omega) (by omega)
   rw [Lib.bitLen_half x (by omega) h1]
   generalize Lib.bitLen (x / 2) = l at a1 a2 a3
   obtain ⟨l, rfl⟩ : ∃ k, l = k + 1 := ⟨l - 1, by omega⟩
   refine ⟨by omega, ?_, ?_⟩
   ·rw [show 1 + (l + 1) - 1 = l + 1 by omega, Nat.pow_succ]
    simp only [Nat.add_sub_cancel] at a2
    omega
   ·rw [show 1 + (l + 1) = (l + 1) + 1 by omega, Nat.pow_succ]
    omega
theorem Len64_ok {x : Int} (h0 : 1 ≤ x) (h1 : x ≤ 18446744073709551615) : ∃ l : Nat, math_bits_Len64 x = l ∧ isLen x l ∧ l ≤ 64 := by
 obtain ⟨k, rfl⟩ := Int.eq_ofNat_of_zero_le (show 0 ≤ x by omega)
 have hk : k < 2 ^ 64 := by omega
 obtain ⟨a1, a2, a3⟩ := bl_nat k (by omega) hk
 exact ⟨Lib.bitLen k, rfl, ⟨a1, by exact_mod_cast a2, by exact_mod_cast a3⟩, Lib.bitLen_le k 64 (by decide) hk⟩
theorem lz_fact {x y : Int} (hx : x = math_bits_LeadingZeros64 y) (h0 : 1 ≤ y) (h1 : y ≤ 18446744073709551615) : 0 ≤ x ∧ x ≤ 63 ∧ 9223372036854775808 ≤ shlI .u64 y (convI .u64 x) ∧ shlI .u64 y (convI .u64 x) = y * 2 ^ x.toNat := by
 obtain ⟨l, e1, ⟨e2, e3, e4⟩, e5⟩ := Len64_ok h0 h1
 have hx2 : x = 64 - (l : Int) := by
  rw [hx]; unfold math_bits_LeadingZeros64 letk; rw [e1]; simp only; unfold subI; rw [IntKind.wrap_i64]; omega
 have hc : convI .u64 x = x := conv_u64 (by omega) (by omega)
 have hn : x.toNat = 64 - l := by omega
 have hm : min (convI .u64 x).toNat IntKind.u64.bits = 64 - l := by rw [hc, hn]; show min (64 - l) 64 = _; omega
 have hp : (2 : Int) ^ l * 2 ^ (64 - l) = 18446744073709551616 := by rw [← Int.pow_add, show l + (64 - l) = 64 by omega]; decide
 have hq : (2 : Int) ^ (l - 1) * 2 ^ (64 - l) = 9223372036854775808 := by rw [← Int.pow_add, show l - 1 + (64 - l) = 63 by omega]; decide
 have h2 : (0 : Int) < 2 ^ (64 - l) := Int.pow_pos (by decide)
 have g1 := Int.mul_le_mul_of_nonneg_right e3 (Int.le_of_lt h2)
 have g2 := Int.mul_lt_mul_of_pos_right e4 h2
 rw [hp] at g2; rw [hq] at g1
 have e : shlI .u64 y (convI .u64 x) = y * 2 ^ x.toNat := by
  unfold shlI; rw [hm, w64, hn]; exact Int.emod_eq_of_lt (by omega) g2
 exact ⟨by omega, by omega, by rw [e, hn]; exact g1, e⟩
theorem and_mask {x : Int} (h0 : 0 ≤ x) (h1 : x ≤ 18446744073709551615) : andI .u64 x 4294967295 = x % 4294967296 := by
 obtain ⟨k, rfl⟩ := Int.eq_ofNat_of_zero_le h0
 unfold andI
 have e1 : (BitVec.ofInt IntKind.u64.bits (k : Int)).toNat = k := by
  show (BitVec.ofInt 64 (k : Int)).toNat = k
  rw [BitVec.toNat_ofInt]; omega
 have e2 : (BitVec.ofInt IntKind.u64.bits 4294967295).toNat = 2 ^ 32 - 1 := by decide
 rw [BitVec.toNat_and, e1, e2, Nat.and_two_pow_sub_one_eq_mod, w64]
 omega
theorem mulb {a b A : Int} (h1 : 0 ≤ a) (h2 : a ≤ A) (h3 : 0 ≤ b) (h4 : b ≤ A) : 0 ≤ a * b ∧ a * b ≤ A * A :=
 ⟨Int.mul_nonneg h1 h3, Int.mul_le_mul h2 h4 h3 (Int.le_trans h1 h2)⟩
theorem w_id {a : Int} (h0 : 0 ≤ a) (h1 : a ≤ 18446744073709551615) : IntKind.wrap .u64 a = a := by rw [w64]; omega
theorem mul64_hi {x y : Int} (hx0 : 0 ≤ x) (hx1 : x ≤ 18446744073709551615) (hy0 : 0 ≤ y) (hy1 : y ≤ 18446744073709551615) : math_bits_Mul64 x y = (x * y / 18446744073709551616, x * y % 18446744073709551616) := by
 unfold math_bits_Mul64
 rw [and_mask hx0 hx1, and_mask hy0 hy1, shr32 x, shr32 y]
 obtain ⟨x1, x0, rfl, h1, h2, h3, h4⟩ : ∃ x1 x0 : Int, x = x1 * 4294967296 + x0 ∧ 0 ≤ x1 ∧ x1 ≤ 4294967295 ∧ 0 ≤ x0 ∧ x0 ≤ 4294967295 := ⟨x / 4294967296, x % 4294967296, by omega, by omega, by omega, by omega, by omega⟩
 obtain ⟨y1, y0, rfl, g1, g2, g3, g4⟩ : ∃ y1 y0 : Int, y = y1 * 4294967296 + y0 ∧ 0 ≤ y1 ∧ y1 ≤ 4294967295 ∧ 0 ≤ y0 ∧ y0 ≤ 4294967295 := ⟨y / 4294967296, y % 4294967296, by omega, by omega, by omega, by omega, by omega⟩
 rw [show (x1 * 4294967296 + x0) / 4294967296 = x1 by omega, show (y1 * 4294967296 + y0) / 4294967296 = y1 by omega, show (x1 * 4294967296 + x0) % 4294967296 = x0 by omega, show (y1 * 4294967296 + y0) % 4294967296 = y0 by omega]
 have ea := mulb h1 h2 g1 g2
 have eb := mulb h1 h2 g3 g4
 have ec := mulb h3 h4 g1 g2
 have ed := mulb h3 h4 g3 g4
 have ex : (x1 * 4294967296 + x0) * (y1 * 4294967296 + y0) = x1 * y1 * 18446744073709551616 + (x1 * y0 + x0 * y1) * 4294967296 + x0 * y0 := by
  simp only [Int.add_mul, Int.mul_add]
  rw [show x1 * 4294967296 * (y1 * 4294967296) = x1 * y1 * 18446744073709551616 by rw [Int.mul_assoc, Int.mul_comm 4294967296 (y1 * 4294967296), Int.mul_assoc y1, ← Int.mul_assoc]; rfl, show x1 * 4294967296 * y0 = x1 * y0 * 4294967296 by rw [Int.mul_assoc, Int.mul_comm 4294967296, ← Int.mul_assoc], show x0 * (y1 * 4294967296) = x0 * y1 * 4294967296 by rw [Int.mul_assoc]]
  omega
 have em : mulI .u64 (x1 * 4294967296 + x0) (y1 * 4294967296 + y0) = ((x1 * 4294967296 + x0) * (y1 * 4294967296 + y0)) % 18446744073709551616 := by unfold mulI; rw [w64]
 have ma : mulI .u64 x1 y1 = x1 * y1 := w_id ea.1 (by omega)
 have mb : mulI .u64 x1 y0 = x1 * y0 := w_id eb.1 (by omega)
 have mc : mulI .u64 x0 y1 = x0 * y1 := w_id ec.1 (by omega)
 have md : mulI .u64 x0 y0 = x0 * y0 := w_id ed.1 (by omega)
 rw [em, ex, ma, mb, mc, md]
 generalize x1 * y1 = a at ea
 generalize x1 * y0 = b at eb
 generalize x0 * y1 = c at ec
 generalize x0 * y0 = d at ed
 rw [shr32 d]
 have t1 : addI .u64 b (d / 4294967296) = b + d / 4294967296 := w_id (by omega) (by omega)
 rw [t1, shr32 (b + d / 4294967296), and_mask (by omega) (by omega)]
 have t2 : addI .u64 ((b + d / 4294967296) % 4294967296) c = (b + d / 4294967296) % 4294967296 + c := w_id (by omega) (by omega)
 rw [t2, shr32]
 have hxy : a * 18446744073709551616 + (b + c) * 4294967296 + d ≤ 18446744073709551615 * 18446744073709551615 := by
  have := (mulb hx0 hx1 hy0 hy1).2
  omega
 have t3 : addI .u64 a ((b + d / 4294967296) / 4294967296) = a + (b + d / 4294967296) / 4294967296 := w_id (by omega) (by omega)
 rw [t3]
 have t4 : addI .u64 (a + (b + d / 4294967296) / 4294967296) (((b + d / 4294967296) % 4294967296 + c) / 4294967296) = a + (b + d / 4294967296) / 4294967296 + ((b + d / 4294967296) % 4294967296 + c) / 4294967296 := w_id (by omega) (by omega)
 rw [t4]
 congr 1
 omega
theorem lz_after {x y : Int} (hx : x = math_bits_LeadingZeros64 y) (h0 : 1 ≤ y) (h1 : y ≤ 18446744073709551615) : 0 ≤ x ∧ x ≤ 63 ∧ 0 ≤ convI .u64 x ∧ 0 ≤ subI .u64 64 (convI .u64 x) ∧ 2147483648 ≤ shrI .u64 (shlI .u64 y (convI .u64 x)) 32 ∧ shrI .u64 (shlI .u64 y (convI .u64 x)) 32 ≤ 4294967295 := by
 obtain ⟨a1, a2, a3, a4⟩ := lz_fact hx h0 h1
 have h2 : shlI .u64 y (convI .u64 x) ≤ 18446744073709551615 := (rng_shlI .u64 _ _).2
 refine ⟨a1, a2, nn_u64 _, (rng_subI .u64 _ _).1, ?_, ?_⟩ <;> rw [shr32] <;> omega
theorem dv_r {u d : Int} (h0 : 0 ≤ u) (h1 : u ≤ 18446744073709551615) (hd : 1 ≤ d) : subI .u64 u (mulI .u64 (quoI .u64 u d) d) = u % d ∧ quoI .u64 u d = u / d ∧ 0 ≤ u % d ∧ u % d < d := by
 have e1 : u.tdiv d = u / d := Int.tdiv_eq_ediv_of_nonneg h0
 have e2 : u / d ≤ u := Int.ediv_le_self _ h0
 have e3 : 0 ≤ u / d := Int.ediv_nonneg h0 (by omega)
 have e4 := Int.mul_ediv_add_emod u d
 have e5 := Int.emod_nonneg u (show d ≠ 0 by omega)
 have e6 := Int.emod_lt_of_pos u (show 0 < d by omega)
 have e7 : quoI .u64 u d = u / d := by unfold quoI; rw [e1]; exact w_id e3 (by omega)
 have e8 : 0 ≤ u / d * d := Int.mul_nonneg e3 (by omega)
 rw [Int.mul_comm] at e4
 have e9 : mulI .u64 (u / d) d = u / d * d := w_id e8 (by omega)
 refine ⟨?_, e7, e5, e6⟩
 rw [e7, e9]; exact (w_id (by omega) (by omega)).trans (by omega)
theorem dg_true {y1 y0 u a q r : Int} (ha1 : a < 4294967296) (hy0 : 0 ≤ y0) (hu : u < y1 * 4294967296 + y0) (hu0 : 0 ≤ u) (hi : q * y1 + r = u) (hr : 0 ≤ r) (ha : 0 ≤ a) (ht : q ≥ 4294967296 ∨ (q * y0 > 4294967296 * r + a)) :
  u * 4294967296 + a < q * (y1 * 4294967296 + y0) ∧ 1 ≤ q := by
 have e : q * (y1 * 4294967296 + y0) = q * y1 * 4294967296 + q * y0 := by rw [Int.mul_add, Int.mul_assoc]
 rcases ht with h | h
 ·refine ⟨?_, by omega⟩
  have h1 := Int.mul_le_mul_of_nonneg_right h (show 0 ≤ y1 * 4294967296 + y0 by omega)
  omega
 ·refine ⟨by omega, ?_⟩
  refine Int.not_lt.1 fun hq => ?_
  have := Int.mul_nonneg (show 0 ≤ -q by omega) hy0
  rw [Int.neg_mul] at this
  omega
theorem dg_false {y1 y0 u a q r : Int} (hi : q * y1 + r = u) (ht : q * y0 ≤ 4294967296 * r + a) : q * (y1 * 4294967296 + y0) ≤ u * 4294967296 + a := by
 have e : q * (y1 * 4294967296 + y0) = q * y1 * 4294967296 + q * y0 := by rw [Int.mul_add, Int.mul_assoc]
 omega
theorem dg_break {y1 y0 u a q r : Int} (ha : 0 ≤ a) (hi : q * y1 + r = u) (hr : r ≥ 4294967296) (hq : q ≤ 4294967296) (hy0 : 0 ≤ y0) (hy01 : y0 < 4294967296) : q * (y1 * 4294967296 + y0) ≤ u * 4294967296 + a := by
 have e : q * (y1 * 4294967296 + y0) = q * y1 * 4294967296 + q * y0 := by rw [Int.mul_add, Int.mul_assoc]
 have h1 := Int.mul_le_mul_of_nonneg_right hq hy0
 omega
def Dg (y1 y0 u a q : Int) : Prop := q * (y1 * 4294967296 + y0) ≤ u * 4294967296 + a ∧ u * 4294967296 + a < (q + 1) * (y1 * 4294967296 + y0)
def DgI (y1 y0 u a : Int) (p : Int × Int) : Prop := p.1 * y1 + p.2 = u ∧ 0 ≤ p.2 ∧ p.2 < 4294967296 ∧ 0 ≤ p.1 ∧ p.1 ≤ 4294967297 ∧ u * 4294967296 + a < (p.1 + 1) * (y1 * 4294967296 + y0)
theorem dg_init {y1 y0 u a : Int} (hy1 : 2147483648 ≤ y1) (hy11 : y1 < 4294967296) (hy0 : 0 ≤ y0) (hy01 : y0 < 4294967296) (hu0 : 0 ≤ u) (hu : u < y1 * 4294967296 + y0) (ha : 0 ≤ a) (ha1 : a < 4294967296) : DgI y1 y0 u a (u / y1, u % y1) := by
 have e4 := Int.mul_ediv_add_emod u y1
 have e5 := Int.emod_nonneg u (show y1 ≠ 0 by omega)
 have e6 := Int.emod_lt_of_pos u (show 0 < y1 by omega)
 have e3 : 0 ≤ u / y1 := Int.ediv_nonneg hu0 (by omega)
 have e7 : u / y1 ≤ 4294967297 := by
  have : u / y1 < 4294967298 := (Int.ediv_lt_iff_lt_mul (by omega)).2 (by omega)
  omega
 rw [Int.mul_comm] at e4
 refine ⟨e4, e5, by show u % y1 < _; omega, e3, e7, ?_⟩
 have e8 : (u / y1 + 1) * (y1 * 4294967296 + y0) = u / y1 * y1 * 4294967296 + y1 * 4294967296 + (u / y1) * y0 + y0 := by
  rw [Int.add_mul, Int.mul_add, Int.one_mul, Int.mul_assoc]; omega
 have e9 := Int.mul_nonneg e3 hy0
 show u * 4294967296 + a < (u / y1 + 1) * (y1 * 4294967296 + y0)
 rw [e8]
 omega
theorem dg_down {y1 y0 u a q r : Int} (hy0 : 0 ≤ y0) (h : DgI y1 y0 u a (q, r)) (hu : u < y1 * 4294967296 + y0) (ha : 0 ≤ a) (ha1 : a < 4294967296) (hu0 : 0 ≤ u) (ht : q ≥ 4294967296 ∨ (q * y0 > 4294967296 * r + a)) :
  (q - 1) * y1 + (r + y1) = u ∧ 1 ≤ q ∧ u * 4294967296 + a < (q - 1 + 1) * (y1 * 4294967296 + y0) := by
 obtain ⟨h1, h2, h3, h4, h5, h6⟩ := h
 obtain ⟨a1, a2⟩ := dg_true ha1 hy0 hu hu0 h1 h2 ha ht
 refine ⟨?_, a2, ?_⟩
 ·rw [Int.sub_mul, Int.one_mul]; simp only at h1; omega
 ·rw [Int.sub_add_cancel]; exact a1
theorem dg_loop {α R : Type} {gq gr : α → Int} {mk : Int → Int → α} (hmq : ∀ q r, gq (mk q r) = q) (hmr : ∀ q r, gr (mk q r) = r) {y1 y0 u a : Int} (hy1 : 2147483648 ≤ y1) (hy11 : y1 < 4294967296) (hy0 : 0 ≤ y0) (hy01 : y0 < 4294967296) (hu0 : 0 ≤ u) (hu : u < y1 * 4294967296 + y0) (ha : 0 ≤ a) (ha1 : a < 4294967296) {F : (α → R) → α → R} {d : α → R} {j : Int → R}
  (hF : ∀ ag p, F ag p = if decide (gq p ≥ 4294967296) = true then (if decide (addI .u64 (gr p) y1 ≥ 4294967296) = true then j (subI .u64 (gq p) 1) else ag (mk (subI .u64 (gq p) 1) (addI .u64 (gr p) y1))) else
   if decide (mulI .u64 (gq p) y0 > addI .u64 (mulI .u64 4294967296 (gr p)) a) = true then (if decide (addI .u64 (gr p) y1 ≥ 4294967296) = true then j (subI .u64 (gq p) 1) else ag (mk (subI .u64 (gq p) 1) (addI .u64 (gr p) y1))) else j (gq p))
  {v : R} (hv : ∀ q, Dg y1 y0 u a q → j q = v) : ∀ (n : Nat) (p : α), DgI y1 y0 u a (gq p, gr p) → (4294967296 - gr p).toNat < n → iter n F d p = v
 | 0, p, _, h => by omega
 | n + 1, p, hI, hn => by
  rw [iter, hF]
  obtain ⟨h1, h2, h3, h4, h5, h6⟩ := hI
  simp only at h1 h2 h3 h4 h5 h6
  generalize hq : gq p = q at *
  generalize hr : gr p = r at *
  have eA : addI .u64 r y1 = r + y1 := w_id (by omega) (by omega)
  have eS : 1 ≤ q → subI .u64 q 1 = q - 1 := fun h => w_id (by omega) (by omega)
  have down : (q ≥ 4294967296 ∨ (q * y0 > 4294967296 * r + a)) → (if decide (addI .u64 r y1 ≥ 4294967296) = true then j (subI .u64 q 1) else iter n F d (mk (subI .u64 q 1) (addI .u64 r y1))) = v := by
   intro ht
   obtain ⟨d1, d2, d3⟩ := dg_down hy0 (show DgI y1 y0 u a (q, r) from ⟨h1, h2, h3, h4, h5, h6⟩) hu ha ha1 hu0 ht
   rw [eA, eS d2]
   by_cases hb : r + y1 ≥ 4294967296
   ·rw [if_pos (by simpa using hb)]
    exact hv _ ⟨dg_break ha d1 hb (by omega) hy0 hy01, d3⟩
   ·rw [if_neg (by simpa using hb)]
    exact dg_loop hmq hmr hy1 hy11 hy0 hy01 hu0 hu ha ha1 hF hv n _ (by rw [hmq, hmr]; exact ⟨d1, by show 0 ≤ r + y1; omega, by show r + y1 < _; omega, by show 0 ≤ q - 1; omega, by show q - 1 ≤ _; omega, d3⟩) (by rw [hmr]; omega)
  by_cases ht : q ≥ 4294967296
  ·rw [if_pos (by simpa using ht)]
   exact down (.inl ht)
  ·rw [if_neg (by simpa using ht)]
   have hm := mulb h4 (show q ≤ 4294967295 by omega) hy0 (show y0 ≤ 4294967295 by omega)
   have e1 : mulI .u64 q y0 = q * y0 := w_id hm.1 (by omega)
   have e2 : mulI .u64 4294967296 r = 4294967296 * r := w_id (by omega) (by omega)
   have e3 : addI .u64 (4294967296 * r) a = 4294967296 * r + a := w_id (by omega) (by omega)
   rw [e1, e2, e3]
   by_cases hc : q * y0 > 4294967296 * r + a
   ·rw [if_pos (by simpa using hc)]
    exact down (.inr hc)
   ·rw [if_neg (by simpa using hc)]
    exact hv _ ⟨dg_false h1 (by omega), h6⟩
theorem or_add {a b : Int} {s : Nat} (hs : s ≤ 63) (ha0 : 0 ≤ a) (ha : a * 2 ^ s < 18446744073709551616) (hb0 : 0 ≤ b) (hb : b < 2 ^ s) : orI .u64 (a * 2 ^ s) b = a * 2 ^ s + b := by
 obtain ⟨a, rfl⟩ := Int.eq_ofNat_of_zero_le ha0
 obtain ⟨b, rfl⟩ := Int.eq_ofNat_of_zero_le hb0
 have hp : 2 ^ s ≤ 2 ^ 63 := Nat.pow_le_pow_right (by decide) hs
 have e0 : ((a : Int) * 2 ^ s) = ((a * 2 ^ s : Nat) : Int) := by push_cast; rfl
 have ha' : a * 2 ^ s < 18446744073709551616 := by
  rw [e0] at ha
  generalize a * 2 ^ s = t at ha ⊢
  omega
 have hb' : b < 2 ^ s := by exact_mod_cast hb
 rw [e0]
 unfold orI
 have t : ∀ n : Nat, n < 18446744073709551616 → (BitVec.ofInt IntKind.u64.bits (n : Int)).toNat = n := by
  intro n hn
  show (BitVec.ofInt 64 (n : Int)).toNat = n
  rw [BitVec.toNat_ofInt]; omega
 rw [BitVec.toNat_or, t _ ha', t _ (by omega), Nat.mul_comm a, ← Nat.two_pow_add_eq_or_of_lt hb', w64]
 rw [Nat.mul_comm] at ha'
 have : 2 ^ s * a + b < 18446744073709551616 := by
  have h1 : 2 ^ s * (a + 1) ≤ 18446744073709551616 := by
   have h2 : 2 ^ s ∣ 18446744073709551616 := ⟨2 ^ (64 - s), by rw [← Nat.pow_add, show s + (64 - s) = 64 by omega]⟩
   obtain ⟨c, hc⟩ := h2
   rw [hc] at ha' ⊢
   exact Nat.mul_le_mul_left _ (Nat.lt_of_mul_lt_mul_left ha')
  rw [Nat.mul_add, Nat.mul_one] at h1
  omega
 omega
theorem mul_emod_r (a b : Int) {c : Int} (h : 0 < c) : (a * c) % (b * c) = a % b * c := by
 rw [Int.mul_comm a, Int.mul_comm b, Int.mul_emod_mul_of_pos _ _ h, Int.mul_comm]
theorem dv_asm {N y Y p u w a1 a0 q1 q0 v : Int} (hp : 0 < p) (hY : Y = y * p) (hY0 : 0 < Y) (hw : w = a1 * 4294967296 + a0) (hN : u * 18446744073709551616 + w = N * p)
  (hv : v = u * 4294967296 + a1 - q1 * Y) (h1 : q0 * Y ≤ v * 4294967296 + a0) (h2 : v * 4294967296 + a0 < (q0 + 1) * Y) :
  q1 * 4294967296 + q0 = N / y ∧ v * 4294967296 + a0 - q0 * Y = N % y * p := by
 have e : N * p = (q1 * 4294967296 + q0) * Y + (v * 4294967296 + a0 - q0 * Y) := by
  have e1 : (q1 * 4294967296 + q0) * Y = q1 * Y * 4294967296 + q0 * Y := by rw [Int.add_mul, Int.mul_right_comm]
  rw [e1]; omega
 have e2 : (q0 + 1) * Y = q0 * Y + Y := by rw [Int.add_mul, Int.one_mul]
 generalize hR : v * 4294967296 + a0 - q0 * Y = R at *
 generalize hQ : q1 * 4294967296 + q0 = Q at *
 have hR0 : 0 ≤ R := by omega
 have hR1 : R < Y := by omega
 have d : N * p / Y = Q := by
  rw [e, Int.add_comm, Int.add_mul_ediv_right _ _ (by omega), Int.ediv_eq_zero_of_lt hR0 hR1]; omega
 have m : N * p % Y = R := by rw [e, Int.add_comm, Int.add_mul_emod_self_right, Int.emod_eq_of_lt hR0 hR1]
 rw [hY] at d m
 rw [Int.mul_ediv_mul_of_pos_left _ _ hp] at d
 rw [mul_emod_r _ _ hp] at m
 exact ⟨d.symm, m.symm⟩
theorem sub_w {u a q Y : Int} (h0 : 0 ≤ u * 4294967296 + a - q * Y) (h1 : u * 4294967296 + a - q * Y ≤ 18446744073709551615) : subI .u64 (addI .u64 (mulI .u64 u 4294967296) a) (mulI .u64 q Y) = u * 4294967296 + a - q * Y := by
 unfold subI addI mulI
 simp only [w64]
 generalize q * Y = T at *
 omega
theorem add_w {q r : Int} (h0 : 0 ≤ q * 4294967296 + r) (h1 : q * 4294967296 + r ≤ 18446744073709551615) : addI .u64 (mulI .u64 q 4294967296) r = q * 4294967296 + r := by
 unfold addI mulI
 simp only [w64]
 omega
theorem letj_gen {α R : Type} {f : α → R} {G : (α → R) → R} {v : R} (h : ∀ j, j = f → G j = v) : letj f G = v := h f rfl
set_option maxRecDepth 4000 in
theorem Div64_eq {hi lo y : Int} (hh0 : 0 ≤ hi) (hl0 : 0 ≤ lo) (hl1 : lo ≤ 18446744073709551615) (hy : hi < y) (hy1 : y ≤ 18446744073709551615) : math_bits_Div64 hi lo y = ((hi * 18446744073709551616 + lo) / y, (hi * 18446744073709551616 + lo) % y) := by
 unfold math_bits_Div64
 rw [if_neg (by simp; omega), if_neg (by simp; omega)]
 by_cases h0 : hi = 0
 ·subst h0
  rw [if_pos (by decide)]
  have e1 : lo.tdiv y = lo / y := Int.tdiv_eq_ediv_of_nonneg hl0
  have e2 : lo / y ≤ lo := Int.ediv_le_self _ hl0
  have e3 : 0 ≤ lo / y := Int.ediv_nonneg hl0 (by omega)
  have e4 : quoI .u64 lo y = lo / y := by unfold quoI; rw [e1]; exact w_id e3 (by omega)
  have e5 : remI .u64 lo y = lo % y := Int.tmod_eq_emod_of_nonneg hl0
  rw [e4, e5]; simp
 ·rw [if_neg (by simpa using h0)]
  obtain ⟨s, hs⟩ : ∃ s, s = math_bits_LeadingZeros64 y := ⟨_, rfl⟩
  obtain ⟨s0, s1, s2, s3⟩ := lz_fact hs (by omega) hy1
  have hY := (rng_shlI .u64 y (convI .u64 s)).2
  simp only [letk, ← hs]
  obtain ⟨k, rfl⟩ := Int.eq_ofNat_of_zero_le s0
  rw [s3] at s2 hY
  simp only [Int.toNat_natCast] at s2 s3 hY
  rw [s3]
  have hk : k ≤ 63 := by omega
  have hp : (0 : Int) < 2 ^ k := Int.pow_pos (by decide)
  have hp2 : (2 : Int) ^ k * 2 ^ (64 - k) = 18446744073709551616 := by rw [← Int.pow_add, show k + (64 - k) = 64 by omega]; rfl
  have hc : convI .u64 (k : Int) = k := conv_u64 (by omega) (by omega)
  have hYm : y * 2 ^ k ≤ 18446744073709551615 := by show _ ≤ (18446744073709551615 : Int); exact hY
  -- the high part
  have hhi : hi * 2 ^ k < y * 2 ^ k := Int.mul_lt_mul_of_pos_right hy hp
  have m1 : shlI .u64 hi (k : Int) = hi * 2 ^ k := by
   unfold shlI
   rw [Int.toNat_natCast, show min k IntKind.u64.bits = k by show min k 64 = k; omega]
   exact w_id (Int.mul_nonneg hh0 (Int.le_of_lt hp)) (by omega)
  have m2 : shrI .u64 lo (subI .u64 64 (k : Int)) = lo / 2 ^ (64 - k) := by
   have e : subI .u64 64 (k : Int) = ((64 - k : Nat) : Int) := by
    have : subI .u64 64 (k : Int) = 64 - (k : Int) := w_id (by omega) (by omega)
    omega
   rw [e]; exact shr_eq (by rw [Int.toNat_natCast]; show min (64 - k) 64 = _; omega)
  have m3 : shlI .u64 lo (k : Int) = lo * 2 ^ k % 18446744073709551616 := by
   unfold shlI
   rw [Int.toNat_natCast, show min k IntKind.u64.bits = k by show min k 64 = k; omega, w64]
  have hb0 : 0 ≤ lo / 2 ^ (64 - k) := Int.ediv_nonneg hl0 (Int.le_of_lt (Int.pow_pos (by decide)))
  have hb1 : lo / 2 ^ (64 - k) < 2 ^ k := (Int.ediv_lt_iff_lt_mul (Int.pow_pos (by decide))).2 (by rw [hp2]; omega)
  rw [hc, m1, m2, m3, or_add hk hh0 (by omega) hb0 hb1]
  -- the whole, shifted
  have hN : (hi * 2 ^ k + lo / 2 ^ (64 - k)) * 18446744073709551616 + lo * 2 ^ k % 18446744073709551616 = (hi * 18446744073709551616 + lo) * 2 ^ k := by
   have e : lo / 2 ^ (64 - k) = lo * 2 ^ k / 18446744073709551616 := by
    rw [← hp2, Int.mul_comm ((2 : Int) ^ k), Int.mul_ediv_mul_of_pos_left _ _ hp]
   rw [e, Int.add_mul, Int.add_mul (hi * 18446744073709551616), Int.mul_right_comm hi]
   omega
  have hy1' : 0 < y := by omega
  have hQ0 : 0 ≤ (hi * 18446744073709551616 + lo) / y := Int.ediv_nonneg (by omega) (by omega)
  have hQ1 : (hi * 18446744073709551616 + lo) / y < 18446744073709551616 := (Int.ediv_lt_iff_lt_mul hy1').2 (by omega)
  have hu0 : 0 ≤ hi * 2 ^ k + lo / 2 ^ (64 - k) := by have := Int.mul_nonneg hh0 (Int.le_of_lt hp); omega
  have hu1 : hi * 2 ^ k + lo / 2 ^ (64 - k) < y * 2 ^ k := by
   have h1 := Int.mul_le_mul_of_nonneg_right (show hi + 1 ≤ y by omega) (Int.le_of_lt hp)
   rw [Int.add_mul, Int.one_mul] at h1
   omega
  obtain ⟨N, hNe⟩ : ∃ N, N = hi * 18446744073709551616 + lo := ⟨_, rfl⟩
  rw [← hNe] at hN hQ0 hQ1 ⊢
  obtain ⟨Y, hYe⟩ : ∃ Y, Y = y * 2 ^ k := ⟨_, rfl⟩
  rw [← hYe] at s2 hYm hu1 ⊢
  generalize hi * 2 ^ k + lo / 2 ^ (64 - k) = u at hN hu0 hu1 ⊢
  have hW0 : 0 ≤ lo * 2 ^ k % 18446744073709551616 := Int.emod_nonneg _ (by decide)
  have hW1 : lo * 2 ^ k % 18446744073709551616 < 18446744073709551616 := Int.emod_lt_of_pos _ (by decide)
  generalize lo * 2 ^ k % 18446744073709551616 = W at hN hW0 hW1 ⊢
  rw [shr32 Y, and_mask (by omega) hYm, shr32 W, and_mask hW0 (by omega)]
  have hYs : Y / 4294967296 * 4294967296 + Y % 4294967296 = Y := by omega
  have hWs : W = W / 4294967296 * 4294967296 + W % 4294967296 := by omega
  have b1 : 2147483648 ≤ Y / 4294967296 := by omega
  have b2 : Y / 4294967296 < 4294967296 := by omega
  have b3 : 0 ≤ Y % 4294967296 := by omega
  have b4 : Y % 4294967296 < 4294967296 := by omega
  have b5 : 0 ≤ W / 4294967296 := by omega
  have b6 : W / 4294967296 < 4294967296 := by omega
  have b7 : 0 ≤ W % 4294967296 := by omega
  have b8 : W % 4294967296 < 4294967296 := by omega
  generalize Y / 4294967296 = y1 at *
  generalize Y % 4294967296 = y0 at *
  generalize W / 4294967296 = a1 at *
  generalize W % 4294967296 = a0 at *
  obtain ⟨r1, r2, r3, r4⟩ := dv_r (u := u) (d := y1) hu0 (by omega) (by omega)
  rw [r1, r2]
  refine letj_gen fun j8 hj8 => ?_
  refine dg_loop (j := j8) (gq := fun p : Int × Int => p.1) (gr := fun p => p.2) (mk := fun q r => (q, r)) (fun _ _ => rfl) (fun _ _ => rfl) b1 b2 b3 b4 hu0 (by omega) b5 b6 (by exact fun ag p => rfl) (fun q1 hq1 => ?_) _ _ (by exact dg_init b1 b2 b3 b4 hu0 (by omega) b5 b6) (by show (4294967296 - u % y1).toNat < _; omega)
  obtain ⟨g1, g2⟩ := hq1
  subst hj8
  dsimp only
  rw [hYs] at g1 g2
  have g3 : (q1 + 1) * Y = q1 * Y + Y := by rw [Int.add_mul, Int.one_mul]
  rw [g3] at g2
  have ev := sub_w (u := u) (a := a1) (q := q1) (Y := Y) (by omega) (by omega)
  rw [ev]
  obtain ⟨v, hv⟩ : ∃ v, v = u * 4294967296 + a1 - q1 * Y := ⟨_, rfl⟩
  rw [← hv]
  have hv0 : 0 ≤ v := by omega
  have hv1 : v < Y := by omega
  obtain ⟨t1, t2, t3, t4⟩ := dv_r (u := v) (d := y1) hv0 (by omega) (by omega)
  rw [t1, t2]
  refine letj_gen fun j9 hj9 => ?_
  refine dg_loop (j := j9) (gq := fun p : Int × Int => p.2) (gr := fun p => p.1) (mk := fun q r => (r, q)) (fun _ _ => rfl) (fun _ _ => rfl) b1 b2 b3 b4 hv0 (by omega) b7 b8 (by exact fun ag p => rfl) (fun q0 hq0 => ?_) _ _ (by exact dg_init b1 b2 b3 b4 hv0 (by omega) b7 b8) (by show (4294967296 - v % y1).toNat < _; omega)
  obtain ⟨f1, f2⟩ := hq0
  subst hj9
  dsimp only
  rw [hYs] at f1 f2
  obtain ⟨z1, z2⟩ := dv_asm hp hYe (by omega) hWs hN hv f1 f2
  have f3 : (q0 + 1) * Y = q0 * Y + Y := by rw [Int.add_mul, Int.one_mul]
  rw [f3] at f2
  rw [sub_w (by omega) (by omega), add_w (by omega) (by omega), z1, z2, shr_eq (m := k) (by rw [Int.toNat_natCast]; show min k 64 = k; omega), Int.mul_ediv_cancel _ (Int.ne_of_gt hp)]
theorem or_rng (a b : Int) : 0 ≤ orI .u64 a b ∧ orI .u64 a b ≤ 18446744073709551615 := rng_orI .u64 a b
theorem sub_rng (a b : Int) : 0 ≤ subI .u64 a b ∧ subI .u64 a b ≤ 18446744073709551615 := rng_subI .u64 a b
theorem add_u {a b : Int} (h0 : 0 ≤ a) (h1 : a ≤ 4294967295) (h2 : 0 ≤ b) (h3 : b ≤ 4294967295) : addI .u64 a b = a + b := w_id (by omega) (by omega)
theorem mul_hi {a b n : Int} (ha : 0 ≤ a) (hn : a < n) (hn1 : n ≤ 18446744073709551615) (hb : 0 ≤ b) (hb1 : b ≤ 18446744073709551615) : (math_bits_Mul64 a b).1 < n := by
 rw [mul64_hi ha (by omega) hb hb1]
 refine (Int.ediv_lt_iff_lt_mul (by decide)).2 ?_
 have h1 := Int.mul_le_mul (show a ≤ n - 1 by omega) hb1 hb (by omega)
 omega
theorem mul_afterN (n : Int) {a b : Int} {x : Int × Int} (hx : x = math_bits_Mul64 a b) (ha : 0 ≤ a) (hn : a < n) (hn1 : n ≤ 18446744073709551615) (hb : 0 ≤ b) (hb1 : b ≤ 18446744073709551615) : x.1 < n := hx ▸ mul_hi ha hn hn1 hb hb1
theorem dv_i {u d : Int} (h : 0 ≤ u ∧ u ≤ 18446744073709551615) (hd : 1 ≤ d) (hd1 : d ≤ 4294967295) : 0 ≤ subI .u64 u (mulI .u64 (quoI .u64 u d) d) ∧ subI .u64 u (mulI .u64 (quoI .u64 u d) d) ≤ 4294967295 := by
 obtain ⟨a1, a2, a3, a4⟩ := dv_r h.1 h.2 hd
 rw [a1]; omega
theorem prime_mul_eq {a b n : Int} (ha : 0 ≤ a) (hn : a < n) (hb : 0 ≤ b) (hb1 : b ≤ 18446744073709551615) (hn1 : n ≤ 18446744073709551615) : prime_mul a b n = a * b % n := by
 have h1 := mul_hi ha hn hn1 hb hb1
 have hp := Int.mul_nonneg ha hb
 unfold prime_mul letk
 rw [mul64_hi ha (by omega) hb hb1] at h1 ⊢
 simp only at h1 ⊢
 rw [Div64_eq (Int.ediv_nonneg hp (by decide)) (Int.emod_nonneg _ (by decide)) (by have := Int.emod_lt_of_pos (a * b) (show (0 : Int) < 18446744073709551616 by decide); omega) h1 hn1]
 simp only
 congr 1
 omega
theorem prime_mul_rng {a b n x : Int} (hx : x = prime_mul a b n) (ha : 0 ≤ a) (hn : a < n) (hb : 0 ≤ b) (hb1 : b ≤ 18446744073709551615) (hn1 : n ≤ 18446744073709551615) : 0 ≤ x ∧ x < n := by
 rw [hx, prime_mul_eq ha hn hb hb1 hn1]; exact ⟨Int.emod_nonneg _ (by omega), Int.emod_lt_of_pos _ (by omega)⟩
theorem prime_pow_rng {a e n x : Int} (hx : x = prime_pow a e n) (ha : 0 ≤ a) (hn : a < n) (h1 : 1 < n) (hn1 : n ≤ 18446744073709551615) : 0 ≤ x ∧ x < n := by
 subst hx
 unfold prime_pow
 refine iter_rule (P := fun p : Int × Int × Int => 0 ≤ p.1 ∧ p.1 < n ∧ 0 ≤ p.2.2 ∧ p.2.2 < n) (Q := fun x => 0 ≤ x ∧ x < n) (meas := fun p => p.2.1.toNat) ?_ _ _ ⟨ha, hn, show (0 : Int) ≤ 1 by decide, h1⟩ (by show e.toNat < _; omega)
 rintro ag ⟨a, e, x⟩ ⟨p1, p2, p3, p4⟩ ih
 simp only at p1 p2 p3 p4 ih ⊢
 by_cases he : e > 0
 ·rw [if_pos (by simpa using he)]
  have hs : (shrI .u64 e 1).toNat < e.toNat := by rw [shr1]; omega
  simp only [letk]
  by_cases hc : (andI .u64 e 1 == 1) = true
  ·rw [if_pos hc]
   have m1 := prime_mul_rng (x := prime_mul x a n) rfl p3 p4 p1 (by omega) hn1
   have m2 := prime_mul_rng (x := prime_mul a a n) rfl p1 p2 p1 (by omega) hn1
   exact ih _ ⟨m2.1, m2.2, m1.1, m1.2⟩ hs
  ·rw [if_neg hc]
   have m2 := prime_mul_rng (x := prime_mul a a n) rfl p1 p2 p1 (by omega) hn1
   exact ih _ ⟨m2.1, m2.2, p3, p4⟩ hs
 ·rw [if_neg (by simpa using he)]
  exact ⟨p3, p4⟩
@[go_sem] theorem ltL_ints {n : Nat} {k : IntKind} : ∀ {l : List Int}, ltL n (l.map (V.int k)) = True
 | [] => by simp [ltL]
 | a :: l => by simp only [List.map_cons, ltL, ltL_ints (l := l), ltV, and_self]
@[go_sem] theorem elt_lit3 {k : IntKind} {a b c i : Int} : elt [V.int k a, V.int k b, V.int k c] i.toNat (V.int k 0) = V.int k (gt [a, b, c] i) := by
 unfold elt gt
 match i.toNat with
 | 0 => rfl
 | 1 => rfl
 | 2 => rfl
 | n + 3 => rfl
theorem kg2_len : kg_1.length = 12 := rfl
theorem kg2_all : kg_1.all (fun x => decide (2 ≤ x) && decide (x ≤ 37)) = true := by decide
theorem kg2_rng {j : Int} (h0 : 0 ≤ j) (h1 : j < 12) : 2 ≤ gt kg_1 j ∧ gt kg_1 j ≤ 37 := by
 have hm : gt kg_1 j ∈ kg_1 := gt_mem (by show j.toNat < 12; omega)
 simpa using List.all_eq_true.1 kg2_all _ hm
def NoDiv (u i : Int) : Prop := ∀ k : Int, 0 ≤ k → k < i → u % gt kg_1 k ≠ 0
theorem NoDiv_zero {u : Int} : NoDiv u 0 := fun k h0 h1 => by omega
theorem NoDiv_step {u i : Int} (h : NoDiv u i) (hu : 0 ≤ u) (h0 : 0 ≤ i) (h1 : i < 12) (hr : ¬ remI .u64 u (gt kg_1 i) = 0) : NoDiv u (i + 1) := by
 intro k k0 k1
 by_cases hk : k < i
 ·exact h k k0 hk
 ·obtain rfl : k = i := by omega
  rwa [show remI .u64 u (gt kg_1 k) = u % gt kg_1 k from Int.tmod_eq_emod_of_nonneg hu] at hr
theorem NoDiv_small : ∀ u : Fin 38, 2 ≤ u.val → ∃ k : Fin 12, ((u.val : Nat) : Int) % kg_1.getD k.val 0 = 0 := by decide
theorem NoDiv_all {u i : Int} (h : NoDiv u i) (hi : 12 ≤ i) (h2 : 2 ≤ u) : 37 < u := by
 refine Int.not_le.1 fun hu => ?_
 obtain ⟨k, hk⟩ := NoDiv_small ⟨u.toNat, by omega⟩ (by show 2 ≤ u.toNat; omega)
 refine h (k.val : Int) (by omega) (by omega) ?_
 have e : ((u.toNat : Nat) : Int) = u := by omega
 rw [← e, gt_nat]
 exact hk
theorem kg5_all : kg_6.all (fun x => decide (0 ≤ x) && decide (x ≤ 63)) = true := by decide
theorem tz_rng {a x : Int} (hx : x = math_bits_TrailingZeros64 a) : 0 ≤ x ∧ x ≤ 64 := by
 subst hx
 unfold math_bits_TrailingZeros64
 split
 ·omega
 ·have hi := tzix (x := andI .u64 a (negI .u64 a))
  have hm := gt_mem (l := kg_6) (i := shrI .u64 (mulI .u64 (andI .u64 a (negI .u64 a)) 285870213051353865) 58) (by show _ < 64; omega)
  have := List.all_eq_true.1 kg5_all _ hm
  simp only [Bool.and_eq_true, decide_eq_true_eq] at this
  rw [conv_i64 (by omega) (by omega)]; omega
theorem si64 {x : Int} (h0 : 0 ≤ x) (h1 : x ≤ 64) : subI .i64 x 1 = x - 1 := by unfold subI; rw [IntKind.wrap_i64]; omega
theorem rem1_rng {m : Int} (h : 1 ≤ m) : 0 ≤ remI .i64 1 m ∧ remI .i64 1 m < m := by
 rw [show remI .i64 1 m = 1 % m from Int.tmod_eq_emod_of_nonneg (by decide)]
 exact ⟨Int.emod_nonneg _ (by omega), Int.emod_lt_of_pos _ (by omega)⟩
theorem word_check_ok0 {a b m : Int} (h : word_check a b m = 0) : 1 ≤ m ∧ m < 2305843009213693952 ∧ 0 ≤ a ∧ a < m ∧ 0 ≤ b ∧ b < m := by
 unfold word_check at h
 simp only [letk, word_residue] at h
 repeat' (split at h)
 all_goals simp_all
 all_goals omega
instance word_check_cf (a b m : Int) : CF (word_check a b m) (fun x => x = 0 → 1 ≤ m ∧ m < 2305843009213693952 ∧ 0 ≤ a ∧ a < m ∧ 0 ≤ b ∧ b < m) := ⟨word_check_ok0⟩
theorem cu63 {x : Int} (h0 : 0 ≤ x) (h1 : x ≤ 9223372036854775807) : convI .u64 x = x := conv_u64 h0 (by omega)
theorem word_mul_eq {a b n : Int} (ha : 0 ≤ a) (hn : a < n) (hb : 0 ≤ b) (hb1 : b ≤ 9223372036854775807) (hn1 : n ≤ 9223372036854775807) : word_mul a b n = a * b % n := by
 have h := prime_mul_eq ha hn hb (by omega) (by omega)
 have e : word_mul a b n = convI .i64 (prime_mul (convI .u64 a) (convI .u64 b) (convI .u64 n)) := rfl
 have c1 : convI .u64 a = a := conv_u64 ha (by omega)
 have c2 : convI .u64 b = b := conv_u64 hb (by omega)
 have c3 : convI .u64 n = n := conv_u64 (by omega) (by omega)
 rw [e, c1, c2, c3, h]
 have := Int.emod_nonneg (a * b) (show n ≠ 0 by omega)
 have := Int.emod_lt_of_pos (a * b) (show 0 < n by omega)
 exact conv_i64 (by omega) (by omega)
theorem word_mul_rng {a b n x : Int} (hx : x = word_mul a b n) (ha : 0 ≤ a) (hn : a < n) (hb : 0 ≤ b) (hb1 : b ≤ 9223372036854775807) (hn1 : n ≤ 9223372036854775807) : 0 ≤ x ∧ x < n := by
 rw [hx, word_mul_eq ha hn hb hb1 hn1]; exact ⟨Int.emod_nonneg _ (by omega), Int.emod_lt_of_pos _ (by omega)⟩
end Go.Proofs.YtbfeamknaiaghaaDoor
namespace Go.Proofs.YtbfeamknaiaghaaDoor
open Go.RowKit
instance bnumbers_cf (b : S_api_Bases) : CF (base_numbers b) (fun x => x.length = 6) := ⟨rfl⟩
theorem wf_gt {l : List Int} {i : Int} (h : wfL (l.map (V.int .i64))) (hi : i.toNat < l.length) : -9223372036854775808 ≤ gt l i ∧ gt l i ≤ 9223372036854775807 := by
 have hm := gt_mem hi
 generalize gt l i = x at hm
 induction l with
 | nil => cases hm
 | cons a l ih =>
  simp only [List.map_cons, wfL, wfV, rng_i64] at h
  rcases List.mem_cons.1 hm with rfl | h1
  ·exact h.1
  ·by_cases hl : i.toNat < l.length
   ·exact ih h.2 hl h1
   ·clear ih
    have h2 := h.2
    clear h hm hi hl
    induction l with
    | nil => cases h1
    | cons b l ih2 =>
     simp only [List.map_cons, wfL, wfV, rng_i64] at h2
     rcases List.mem_cons.1 h1 with rfl | h3
     ·exact h2.1
     ·exact ih2 h3 h2.2
theorem itoa_len {n : Int} {x : List UInt8} (h : x = strconv_Itoa n) (hn : -9223372036854775808 ≤ n ∧ n ≤ 9223372036854775807) : x.length ≤ 21 := by rw [h]; exact Lib.itoa_length_le n hn.1 hn.2
def textLen (l : List (List UInt8)) : Nat := (l.map List.length).sum
theorem textLen_app {l : List (List UInt8)} {x : List UInt8} : textLen (l ++ [x]) = textLen l + x.length := by simp [textLen]
theorem joinTail_len (sep : List UInt8) : ∀ l : List (List UInt8), (Lib.joinTail sep l).length = textLen l + l.length * sep.length
 | [] => by simp [Lib.joinTail, textLen]
 | x :: l => by
  have ih := joinTail_len sep l
  simp only [Lib.joinTail, textLen, List.map_cons, List.flatten_cons, List.length_append, List.sum_cons, List.length_cons, Nat.succ_mul] at ih ⊢
  omega
theorem join_le (l : List (List UInt8)) (sep : List UInt8) : (Lib.join l sep).length ≤ textLen l + l.length * sep.length := by
 cases l with
 | nil => simp [Lib.join_nil]
 | cons x l =>
  rw [Lib.join_cons, List.length_append, joinTail_len]
  simp only [textLen, List.map_cons, List.sum_cons, List.length_cons, Nat.succ_mul]
  omega
end Go.Proofs.YtbfeamknaiaghaaDoor
namespace Go.Proofs.YtbfeamknaiaghaaDoor
open Go.RowKit
set_option linter.unusedSimpArgs false
set_option maxHeartbeats 2000000 in
set_option maxRecDepth 100000 in
instance math_bits_TrailingZeros64_ok   (x_ : Int)  : CM En (math_bits_TrailingZeros64 x_) 80 [.int .u64 x_] (fun y => .int .i64 y) (fun _ => []) := by
 refine cmQ fun r hM => ?_
 rw [math_bits_TrailingZeros64.eq_1] at hM
 refine enterV En_ok En_mo noJ Tryd.func80 rfl Tryd.ntmps80 (by kernel_rfl) fun hw => ct_start ?_
 refine spQ ?_
 replace hw := nzQ hw
 have h0_0 := tzix (x := andI .u64 x_ (negI .u64 x_))
 refine condC_intro (fun h1 => ?_) (fun h1 => ?_)
 ·rw [if_pos h1] at hM
  refine spQA h1 ?_
  have nh1 := nzQ h1
  try have hr2 := mpQ nh1
  subst hM
  exact retC_view (lfQA h1)
 ·rw [if_neg (ne_true h1)] at hM
  refine spQA h1 ?_
  have nh1 := nzQ h1
  try have hr3 := mpQ nh1
  refine bindC_intro omQ ?_
  have he4 := pp_get (f := V.int .u8) (l := kg_6) (n := 64) (i := (shrI .u64 (mulI .u64 (andI .u64 x_ (negI .u64 x_)) 285870213051353865) 58)) rfl omQ
  replace he4 := spR he4
  refine spQA he4 ?_
  subst hM
  exact retC_view (lfQA (And.intro he4 h1))
set_option maxHeartbeats 2000000 in
set_option maxRecDepth 100000 in
instance math_bits_Mul64_ok   (x_ : Int) (y : Int)  : CM En (math_bits_Mul64 x_ y) 91 [.int .u64 x_, .int .u64 y] (fun y => .tup [.int .u64 y.1, .int .u64 y.2]) (fun _ => []) := by
 refine cmQ fun r hM => ?_
 rw [math_bits_Mul64.eq_1] at hM
 refine enterV En_ok En_mo noJ Tryd.func91 rfl Tryd.ntmps91 (by kernel_rfl) fun hw => ct_start ?_
 refine spQ ?_
 replace hw := nzQ hw
 subst hM
 exact retC_view lfQ
set_option maxHeartbeats 2000000 in
set_option maxRecDepth 100000 in
instance math_bits_LeadingZeros64_ok   (x_ : Int)  : CM En (math_bits_LeadingZeros64 x_) 125 [.int .u64 x_] (fun y => .int .i64 y) (fun _ => []) := by
 refine cmQ fun r hM => ?_
 rw [math_bits_LeadingZeros64.eq_1] at hM
 refine enterV En_ok En_mo noJ Tryd.func125 rfl Tryd.ntmps125 (by kernel_rfl) fun hw => ct_start ?_
 refine spQ ?_
 replace hw := nzQ hw
 have hF := trueQ
 exact auQ
instance (priority := 1001) : DRD 6 135 7 [6, 28, 29, 30, 31, 32, 33] [] ([[], [], [0, 1], [], [], [3, 4], [0, 1, 2]] ++ [List.range 7]) [] := ⟨trivial⟩
set_option maxHeartbeats 2000000 in
set_option maxRecDepth 100000 in
theorem math_bits_Div64_ok   (hi : Int) (lo : Int) (y : Int) (hp0 : hi < y) : CM En (math_bits_Div64 hi lo y) 111 [.int .u64 hi, .int .u64 lo, .int .u64 y] (fun y => .tup [.int .u64 y.1, .int .u64 y.2]) (fun _ => []) := by
 refine cmQ fun r hM => ?_
 rw [math_bits_Div64.eq_1] at hM
 refine enterV En_ok En_mo [21, 28] Tryd.func111 rfl Tryd.ntmps111 (by kernel_rfl) fun hw => ct_start ?_
 refine spQ ?_
 replace hw := nzQ hw
 refine condC_intro (fun h1 => ?_) (fun h1 => ?_)
 ·rw [if_pos h1] at hM
  refine spQA h1 ?_
  have nh1 := nzQ h1
  try have hr2 := mpQ nh1
  exact False.elim omQ
 ·rw [if_neg (ne_true h1)] at hM
  refine spQA h1 ?_
  have nh1 := nzQ h1
  try have hr3 := mpQ nh1
  refine condC_intro (fun h4 => ?_) (fun h4 => ?_)
  ·rw [if_pos h4] at hM
   refine spQA h4 ?_
   have nh4 := nzQ h4
   try have hr5 := mpQ nh4
   exact False.elim omQ
  ·rw [if_neg (ne_true h4)] at hM
   refine spQA h4 ?_
   have nh4 := nzQ h4
   try have hr6 := mpQ nh4
   refine condC_intro (fun h7 => ?_) (fun h7 => ?_)
   ·rw [if_pos h7] at hM
    refine spQA h7 ?_
    have nh7 := nzQ h7
    try have hr8 := mpQ nh7
    have hF := (And.intro h1 (And.intro h4 h7))
    exact auQ
   ·rw [if_neg (ne_true h7)] at hM
    refine spQA h7 ?_
    have nh7 := nzQ h7
    try have hr9 := mpQ nh7
    have hM0 := hM; clear hM; obtain ⟨x10, hx11, hM⟩ := letk_opn hM0; clear hM0
    have hcx10 := cmU hx11
    refine callC_give hcx10 clQ clQ (fun hw12 => ?_)
    replace hw12 := nzQ hw12
    refine spQ ?_
    have hq13 := lz_after hx11 (by omega) (by omega)
    replace hq13 := nzQ hq13
    refine bindC_intro (by (exact nn_u64 _)) ?_
    refine spQ ?_
    refine bindC_intro (by (exact nn_u64 _)) ?_
    refine spQ ?_
    refine bindC_intro (by (exact (rng_subI .u64 _ _).1)) ?_
    refine spQ ?_
    refine bindC_intro (by (exact nn_u64 _)) ?_
    refine spQ ?_
    refine bindC_intro omQ ?_
    refine spQ ?_
    have hM0 := hM; clear hM; obtain ⟨j14, hj14, hM⟩ := letj_opn hM0; clear hM0
    refine seqC_intro (fun S => ∃ p : Int, S = (⟨[(2, .int .u64 (shlI .u64 y (convI .u64 x10))), (8, .int .u64 (convI .u64 x10)), (9, .int .u64 (shrI .u64 (shlI .u64 y (convI .u64 x10)) 32)), (10, .int .u64 (andI .u64 (shlI .u64 y (convI .u64 x10)) 4294967295)), (11, .int .u64 (orI .u64 (shlI .u64 hi (convI .u64 x10)) (shrI .u64 lo (subI .u64 64 (convI .u64 x10))))), (13, .int .u64 (shrI .u64 (shlI .u64 lo (convI .u64 x10)) 32)), (14, .int .u64 (andI .u64 (shlI .u64 lo (convI .u64 x10)) 4294967295)), (15, .int .u64 p)], [], 0⟩ : St) ∧ (True) ∧ j14 p = r) ?_ (fun hcut14 => ?_)
    ·clear hM
     rintro S ⟨p14, rfl, hfa14, hM⟩
     have hM0 := hM; clear hM; have hM := letj_use hM0 hj14; clear hM0
     refine spQ ?_
     refine bindC_intro omQ ?_
     refine spQ ?_
     have hM0 := hM; clear hM; obtain ⟨j15, hj15, hM⟩ := letj_opn hM0; clear hM0
     refine seqC_intro (fun S => ∃ p : Int, S = (⟨[(2, .int .u64 (shlI .u64 y (convI .u64 x10))), (8, .int .u64 (convI .u64 x10)), (14, .int .u64 (andI .u64 (shlI .u64 lo (convI .u64 x10)) 4294967295)), (15, .int .u64 p14), (17, .int .u64 (subI .u64 (addI .u64 (mulI .u64 (orI .u64 (shlI .u64 hi (convI .u64 x10)) (shrI .u64 lo (subI .u64 64 (convI .u64 x10)))) 4294967296) (shrI .u64 (shlI .u64 lo (convI .u64 x10)) 32)) (mulI .u64 p14 (shlI .u64 y (convI .u64 x10))))), (18, .int .u64 p)], [], 0⟩ : St) ∧ (True) ∧ j15 p = r) ?_ (fun hcut15 => ?_)
     ·clear hM
      rintro S ⟨p15, rfl, hfa15, hM⟩
      have hM0 := hM; clear hM; have hM := letj_use hM0 hj15; clear hM0
      refine spQ ?_
      refine bindC_intro (by (exact nn_u64 _)) ?_
      refine spQ ?_
      subst hM
      exact retC_view (lfQA (And.intro h1 (And.intro h4 h7)))
     ·refine spQ ?_
      have hM0 := hM; clear hM; obtain ⟨f16, d16, hf16, hd16, hM⟩ := iter_opn hM0; clear hM0
      refine ct_loop (fun n S => ∃ p : Int × Int, S = (⟨[(2, .int .u64 (shlI .u64 y (convI .u64 x10))), (8, .int .u64 (convI .u64 x10)), (9, .int .u64 (shrI .u64 (shlI .u64 y (convI .u64 x10)) 32)), (10, .int .u64 (andI .u64 (shlI .u64 y (convI .u64 x10)) 4294967295)), (14, .int .u64 (andI .u64 (shlI .u64 lo (convI .u64 x10)) 4294967295)), (15, .int .u64 p14), (16, .int .u64 p.1), (17, .int .u64 (subI .u64 (addI .u64 (mulI .u64 (orI .u64 (shlI .u64 hi (convI .u64 x10)) (shrI .u64 lo (subI .u64 64 (convI .u64 x10)))) 4294967296) (shrI .u64 (shlI .u64 lo (convI .u64 x10)) 32)) (mulI .u64 p14 (shlI .u64 y (convI .u64 x10))))), (18, .int .u64 p.2)], [], 0⟩ : St) ∧ ((0 ≤ p.1 ∧ p.1 ≤ 4294967295)) ∧ (4294967296 - p.1).toNat < n ∧ iter n f16 d16 p = r) ((4294967296 - (subI .u64 (subI .u64 (addI .u64 (mulI .u64 (orI .u64 (shlI .u64 hi (convI .u64 x10)) (shrI .u64 lo (subI .u64 64 (convI .u64 x10)))) 4294967296) (shrI .u64 (shlI .u64 lo (convI .u64 x10)) 32)) (mulI .u64 p14 (shlI .u64 y (convI .u64 x10)))) (mulI .u64 (quoI .u64 (subI .u64 (addI .u64 (mulI .u64 (orI .u64 (shlI .u64 hi (convI .u64 x10)) (shrI .u64 lo (subI .u64 64 (convI .u64 x10)))) 4294967296) (shrI .u64 (shlI .u64 lo (convI .u64 x10)) 32)) (mulI .u64 p14 (shlI .u64 y (convI .u64 x10)))) (shrI .u64 (shlI .u64 y (convI .u64 x10)) 32)) (shrI .u64 (shlI .u64 y (convI .u64 x10)) 32)))).toNat + 1) _ sbQ sbQ ⟨((subI .u64 (subI .u64 (addI .u64 (mulI .u64 (orI .u64 (shlI .u64 hi (convI .u64 x10)) (shrI .u64 lo (subI .u64 64 (convI .u64 x10)))) 4294967296) (shrI .u64 (shlI .u64 lo (convI .u64 x10)) 32)) (mulI .u64 p14 (shlI .u64 y (convI .u64 x10)))) (mulI .u64 (quoI .u64 (subI .u64 (addI .u64 (mulI .u64 (orI .u64 (shlI .u64 hi (convI .u64 x10)) (shrI .u64 lo (subI .u64 64 (convI .u64 x10)))) 4294967296) (shrI .u64 (shlI .u64 lo (convI .u64 x10)) 32)) (mulI .u64 p14 (shlI .u64 y (convI .u64 x10)))) (shrI .u64 (shlI .u64 y (convI .u64 x10)) 32)) (shrI .u64 (shlI .u64 y (convI .u64 x10)) 32))), (quoI .u64 (subI .u64 (addI .u64 (mulI .u64 (orI .u64 (shlI .u64 hi (convI .u64 x10)) (shrI .u64 lo (subI .u64 64 (convI .u64 x10)))) 4294967296) (shrI .u64 (shlI .u64 lo (convI .u64 x10)) 32)) (mulI .u64 p14 (shlI .u64 y (convI .u64 x10)))) (shrI .u64 (shlI .u64 y (convI .u64 x10)) 32))), rfl, by (exact dv_i (sub_rng _ _) (by omega) (by omega)), (Nat.lt_succ_self _), hM⟩ ?_
      clear hM
      rintro n16 S ⟨p16, rfl, hF24_0, hm16, hM⟩
      have hM0 := hM; clear hM; obtain ⟨ag16, hag16, hM⟩ := iter_step hM0 (by omega) hf16; clear hM0
      replace hm16 := nzQ hm16
      refine spQ ?_
      refine guardC_f (fun h17 => ?_) (fun h17 => ?_)
      ·rw [if_neg (ne_true h17)] at hM
       refine spQA h17 ?_
       have nh17 := nzQ h17
       try have hr18 := mpQ nh17
       refine condC_intro (fun h19 => ?_) (fun h19 => ?_)
       ·rw [if_pos h19] at hM
        refine spQA h19 ?_
        have nh19 := nzQ h19
        try have hr20 := mpQ nh19
        refine condC_intro (fun h21 => ?_) (fun h21 => ?_)
        ·rw [if_pos h21] at hM
         refine spQA h21 ?_
         have nh21 := nzQ h21
         try have hr22 := mpQ nh21
         exact cut_intro _ sbQ sbQ (hcut15 _ ⟨(subI .u64 p16.2 1), rfl, trivial, hM⟩)
        ·rw [if_neg (ne_true h21)] at hM
         refine spQA h21 ?_
         have nh21 := nzQ h21
         try have hr23 := mpQ nh21
         refine lp_intro (n16 - 1) _ (by omega) sbQ sbQ ⟨((addI .u64 p16.1 (shrI .u64 (shlI .u64 y (convI .u64 x10)) 32)), (subI .u64 p16.2 1)), rfl, by (have h9 := add_u (a := p16.1) (b := (shrI .u64 (shlI .u64 y (convI .u64 x10)) 32)) (by omega) (by omega) (by omega) (by omega); omega), by (have h9 := add_u (a := p16.1) (b := (shrI .u64 (shlI .u64 y (convI .u64 x10)) 32)) (by omega) (by omega) (by omega) (by omega); omega), iter_again hM hag16⟩
       ·rw [if_neg (ne_true h19)] at hM
        refine spQA h19 ?_
        have nh19 := nzQ h19
        try have hr24 := mpQ nh19
        exact cut_intro _ sbQ sbQ (hcut15 _ ⟨p16.2, rfl, trivial, hM⟩)
      ·rw [if_pos h17] at hM
       refine spQA h17 ?_
       have nh17 := nzQ h17
       try have hr25 := mpQ nh17
       refine condC_intro (fun h26 => ?_) (fun h26 => ?_)
       ·rw [if_pos h26] at hM
        refine spQA h26 ?_
        have nh26 := nzQ h26
        try have hr27 := mpQ nh26
        exact cut_intro _ sbQ sbQ (hcut15 _ ⟨(subI .u64 p16.2 1), rfl, trivial, hM⟩)
       ·rw [if_neg (ne_true h26)] at hM
        refine spQA h26 ?_
        have nh26 := nzQ h26
        try have hr28 := mpQ nh26
        refine lp_intro (n16 - 1) _ (by omega) sbQ sbQ ⟨((addI .u64 p16.1 (shrI .u64 (shlI .u64 y (convI .u64 x10)) 32)), (subI .u64 p16.2 1)), rfl, by (have h9 := add_u (a := p16.1) (b := (shrI .u64 (shlI .u64 y (convI .u64 x10)) 32)) (by omega) (by omega) (by omega) (by omega); omega), by (have h9 := add_u (a := p16.1) (b := (shrI .u64 (shlI .u64 y (convI .u64 x10)) 32)) (by omega) (by omega) (by omega) (by omega); omega), iter_again hM hag16⟩
    ·refine spQ ?_
     have hM0 := hM; clear hM; obtain ⟨f29, d29, hf29, hd29, hM⟩ := iter_opn hM0; clear hM0
     refine ct_loop (fun n S => ∃ p : Int × Int, S = (⟨[(2, .int .u64 (shlI .u64 y (convI .u64 x10))), (8, .int .u64 (convI .u64 x10)), (9, .int .u64 (shrI .u64 (shlI .u64 y (convI .u64 x10)) 32)), (10, .int .u64 (andI .u64 (shlI .u64 y (convI .u64 x10)) 4294967295)), (11, .int .u64 (orI .u64 (shlI .u64 hi (convI .u64 x10)) (shrI .u64 lo (subI .u64 64 (convI .u64 x10))))), (13, .int .u64 (shrI .u64 (shlI .u64 lo (convI .u64 x10)) 32)), (14, .int .u64 (andI .u64 (shlI .u64 lo (convI .u64 x10)) 4294967295)), (15, .int .u64 p.1), (16, .int .u64 p.2)], [], 0⟩ : St) ∧ ((0 ≤ p.2 ∧ p.2 ≤ 4294967295)) ∧ (4294967296 - p.2).toNat < n ∧ iter n f29 d29 p = r) ((4294967296 - (subI .u64 (orI .u64 (shlI .u64 hi (convI .u64 x10)) (shrI .u64 lo (subI .u64 64 (convI .u64 x10)))) (mulI .u64 (quoI .u64 (orI .u64 (shlI .u64 hi (convI .u64 x10)) (shrI .u64 lo (subI .u64 64 (convI .u64 x10)))) (shrI .u64 (shlI .u64 y (convI .u64 x10)) 32)) (shrI .u64 (shlI .u64 y (convI .u64 x10)) 32)))).toNat + 1) _ sbQ sbQ ⟨((quoI .u64 (orI .u64 (shlI .u64 hi (convI .u64 x10)) (shrI .u64 lo (subI .u64 64 (convI .u64 x10)))) (shrI .u64 (shlI .u64 y (convI .u64 x10)) 32)), (subI .u64 (orI .u64 (shlI .u64 hi (convI .u64 x10)) (shrI .u64 lo (subI .u64 64 (convI .u64 x10)))) (mulI .u64 (quoI .u64 (orI .u64 (shlI .u64 hi (convI .u64 x10)) (shrI .u64 lo (subI .u64 64 (convI .u64 x10)))) (shrI .u64 (shlI .u64 y (convI .u64 x10)) 32)) (shrI .u64 (shlI .u64 y (convI .u64 x10)) 32)))), rfl, by (exact dv_i (or_rng _ _) (by omega) (by omega)), (Nat.lt_succ_self _), hM⟩ ?_
     clear hM
     rintro n29 S ⟨p29, rfl, hF17_0, hm29, hM⟩
     have hM0 := hM; clear hM; obtain ⟨ag29, hag29, hM⟩ := iter_step hM0 (by omega) hf29; clear hM0
     replace hm29 := nzQ hm29
     refine spQ ?_
     refine guardC_f (fun h30 => ?_) (fun h30 => ?_)
     ·rw [if_neg (ne_true h30)] at hM
      refine spQA h30 ?_
      have nh30 := nzQ h30
      try have hr31 := mpQ nh30
      refine condC_intro (fun h32 => ?_) (fun h32 => ?_)
      ·rw [if_pos h32] at hM
       refine spQA h32 ?_
       have nh32 := nzQ h32
       try have hr33 := mpQ nh32
       refine condC_intro (fun h34 => ?_) (fun h34 => ?_)
       ·rw [if_pos h34] at hM
        refine spQA h34 ?_
        have nh34 := nzQ h34
        try have hr35 := mpQ nh34
        exact cut_intro _ sbQ sbQ (hcut14 _ ⟨(subI .u64 p29.1 1), rfl, trivial, hM⟩)
       ·rw [if_neg (ne_true h34)] at hM
        refine spQA h34 ?_
        have nh34 := nzQ h34
        try have hr36 := mpQ nh34
        refine lp_intro (n29 - 1) _ (by omega) sbQ sbQ ⟨((subI .u64 p29.1 1), (addI .u64 p29.2 (shrI .u64 (shlI .u64 y (convI .u64 x10)) 32))), rfl, by (have h9 := add_u (a := p29.2) (b := (shrI .u64 (shlI .u64 y (convI .u64 x10)) 32)) (by omega) (by omega) (by omega) (by omega); omega), by (have h9 := add_u (a := p29.2) (b := (shrI .u64 (shlI .u64 y (convI .u64 x10)) 32)) (by omega) (by omega) (by omega) (by omega); omega), iter_again hM hag29⟩
      ·rw [if_neg (ne_true h32)] at hM
       refine spQA h32 ?_
       have nh32 := nzQ h32
       try have hr37 := mpQ nh32
       exact cut_intro _ sbQ sbQ (hcut14 _ ⟨p29.1, rfl, trivial, hM⟩)
     ·rw [if_pos h30] at hM
      refine spQA h30 ?_
      have nh30 := nzQ h30
      try have hr38 := mpQ nh30
      refine condC_intro (fun h39 => ?_) (fun h39 => ?_)
      ·rw [if_pos h39] at hM
       refine spQA h39 ?_
       have nh39 := nzQ h39
       try have hr40 := mpQ nh39
       exact cut_intro _ sbQ sbQ (hcut14 _ ⟨(subI .u64 p29.1 1), rfl, trivial, hM⟩)
      ·rw [if_neg (ne_true h39)] at hM
       refine spQA h39 ?_
       have nh39 := nzQ h39
       try have hr41 := mpQ nh39
       refine lp_intro (n29 - 1) _ (by omega) sbQ sbQ ⟨((subI .u64 p29.1 1), (addI .u64 p29.2 (shrI .u64 (shlI .u64 y (convI .u64 x10)) 32))), rfl, by (have h9 := add_u (a := p29.2) (b := (shrI .u64 (shlI .u64 y (convI .u64 x10)) 32)) (by omega) (by omega) (by omega) (by omega); omega), by (have h9 := add_u (a := p29.2) (b := (shrI .u64 (shlI .u64 y (convI .u64 x10)) 32)) (by omega) (by omega) (by omega) (by omega); omega), iter_again hM hag29⟩
set_option maxHeartbeats 2000000 in
set_option maxRecDepth 100000 in
theorem prime_mul_ok   (a_ : Int) (b : Int) (n_ : Int) (hp0 : a_ < n_) : CM En (prime_mul a_ b n_) 109 [.int .u64 a_, .int .u64 b, .int .u64 n_] (fun y => .int .u64 y) (fun _ => []) := by
 refine cmQ fun r hM => ?_
 rw [prime_mul.eq_1] at hM
 refine enterV En_ok En_mo noJ Tryd.func109 rfl Tryd.ntmps109 (by kernel_rfl) fun hw => ct_start ?_
 refine spQ ?_
 replace hw := nzQ hw
 have hM0 := hM; clear hM; obtain ⟨x1, hx2, hM⟩ := letk_opn hM0; clear hM0
 have hcx1 := cmU hx2
 refine callC_give hcx1 clQ clQ (fun hw3 => ?_)
 replace hw3 := nzQ hw3
 refine spQ ?_
 have hq4 := mul_afterN n_ hx2 (by omega) (by omega) (by omega) (by omega) (by omega)
 replace hq4 := nzQ hq4
 have hM0 := hM; clear hM; obtain ⟨x5, hx6, hM⟩ := letk_opn hM0; clear hM0
 have hcx5 := cmH hx6 (math_bits_Div64_ok  (x1.1) (x1.2) n_ (by (exact pfQ)))
 refine callC_give hcx5 clQ clQ (fun hw7 => ?_)
 replace hw7 := nzQ hw7
 refine spQ ?_
 subst hM
 exact retC_view lfQ
set_option maxHeartbeats 2000000 in
set_option maxRecDepth 100000 in
theorem prime_pow_ok   (a_ : Int) (e_ : Int) (n_ : Int) (hp0 : a_ < n_) (hp1 : 1 < n_) : CM En (prime_pow a_ e_ n_) 108 [.int .u64 a_, .int .u64 e_, .int .u64 n_] (fun y => .int .u64 y) (fun _ => []) := by
 refine cmQ fun r hM => ?_
 rw [prime_pow.eq_1] at hM
 refine enterV En_ok En_mo noJ Tryd.func108 rfl Tryd.ntmps108 (by kernel_rfl) fun hw => ct_start ?_
 refine spQ ?_
 replace hw := nzQ hw
 have hM0 := hM; clear hM; obtain ⟨f1, d1, hf1, hd1, hM⟩ := iter_opn hM0; clear hM0
 refine ct_loop (fun n S => ∃ p : Int × Int × Int, S = (⟨[(0, .int .u64 p.1), (1, .int .u64 p.2.1), (2, .int .u64 n_), (7, .int .u64 p.2.2)], [], 0⟩ : St) ∧ ((0 ≤ p.1) ∧ (p.1 < n_) ∧ (0 ≤ p.2.1) ∧ (0 ≤ p.2.2) ∧ (p.2.2 < n_)) ∧ p.2.1.toNat < n ∧ iter n f1 d1 p = r) (e_.toNat + 1) _ sbQ sbQ ⟨(a_, e_, 1), rfl, ⟨omQ, omQ, omQ, omQ, omQ⟩, (Nat.lt_succ_self _), hM⟩ ?_
 clear hM
 rintro n1 S ⟨p1, rfl, hfa1, hm1, hM⟩
 have hM0 := hM; clear hM; obtain ⟨ag1, hag1, hM⟩ := iter_step hM0 (by omega) hf1; clear hM0
 replace hfa1 := nzQ hfa1
 replace hm1 := nzQ hm1
 refine spQ ?_
 refine condC_intro (fun h2 => ?_) (fun h2 => ?_)
 ·rw [if_pos h2] at hM
  refine spQA h2 ?_
  have nh2 := nzQ h2
  try have hr3 := mpQ nh2
  refine condC_intro (fun h4 => ?_) (fun h4 => ?_)
  ·rw [if_pos h4] at hM
   refine spQA h4 ?_
   have nh4 := nzQ h4
   try have hr5 := mpQ nh4
   have hM0 := hM; clear hM; obtain ⟨x6, hx7, hM⟩ := letk_opn hM0; clear hM0
   have hcx6 := cmH hx7 (prime_mul_ok  (p1.2.2) (p1.1) n_ (by (exact pfQ)))
   refine callC_give hcx6 clQ clQ (fun hw8 => ?_)
   replace hw8 := nzQ hw8
   refine spQ ?_
   have hq9 := prime_mul_rng hx7 (by omega) (by omega) (by omega) (by omega) (by omega)
   replace hq9 := nzQ hq9
   have hM0 := hM; clear hM; obtain ⟨x10, hx11, hM⟩ := letk_opn hM0; clear hM0
   have hcx10 := cmH hx11 (prime_mul_ok  (p1.1) (p1.1) n_ (by (exact pfQ)))
   refine callC_give hcx10 clQ clQ (fun hw12 => ?_)
   replace hw12 := nzQ hw12
   refine spQ ?_
   have hq13 := prime_mul_rng hx11 (by omega) (by omega) (by omega) (by omega) (by omega)
   replace hq13 := nzQ hq13
   refine lp_intro (n1 - 1) _ (by omega) sbQ sbQ ⟨(x10, (shrI .u64 p1.2.1 1), x6), rfl, ⟨by (clear hM; (try dsimp only); (try rw [shr1]); (try rw [shr1i]); omega), by (clear hM; (try dsimp only); (try rw [shr1]); (try rw [shr1i]); omega), by (clear hM; (try dsimp only); (try rw [shr1]); (try rw [shr1i]); omega), by (clear hM; (try dsimp only); (try rw [shr1]); (try rw [shr1i]); omega), by (clear hM; (try dsimp only); (try rw [shr1]); (try rw [shr1i]); omega)⟩, by (clear hM; (try dsimp only); (try rw [shr1]); (try rw [shr1i]); omega), iter_again hM hag1⟩
  ·rw [if_neg (ne_true h4)] at hM
   refine spQA h4 ?_
   have nh4 := nzQ h4
   try have hr14 := mpQ nh4
   have hM0 := hM; clear hM; obtain ⟨x15, hx16, hM⟩ := letk_opn hM0; clear hM0
   have hcx15 := cmH hx16 (prime_mul_ok  (p1.1) (p1.1) n_ (by (exact pfQ)))
   refine callC_give hcx15 clQ clQ (fun hw17 => ?_)
   replace hw17 := nzQ hw17
   refine spQ ?_
   have hq18 := prime_mul_rng hx16 (by omega) (by omega) (by omega) (by omega) (by omega)
   replace hq18 := nzQ hq18
   refine lp_intro (n1 - 1) _ (by omega) sbQ sbQ ⟨(x15, (shrI .u64 p1.2.1 1), p1.2.2), rfl, ⟨by (clear hM; (try dsimp only); (try rw [shr1]); (try rw [shr1i]); omega), by (clear hM; (try dsimp only); (try rw [shr1]); (try rw [shr1i]); omega), by (clear hM; (try dsimp only); (try rw [shr1]); (try rw [shr1i]); omega), by (clear hM; (try dsimp only); (try rw [shr1]); (try rw [shr1i]); omega), by (clear hM; (try dsimp only); (try rw [shr1]); (try rw [shr1i]); omega)⟩, by (clear hM; (try dsimp only); (try rw [shr1]); (try rw [shr1i]); omega), iter_again hM hag1⟩
 ·rw [if_neg (ne_true h2)] at hM
  refine spQA h2 ?_
  have nh2 := nzQ h2
  try have hr19 := mpQ nh2
  subst hM
  exact retC_view (lfQA h2)
set_option maxHeartbeats 2000000 in
set_option maxRecDepth 100000 in
theorem prime_composite_ok   (a_ : Int) (n_ : Int) (d_ : Int) (s : Int) (hp0 : a_ < n_) (hp1 : 1 < n_) (hp2 : 0 ≤ s) (hp3 : s ≤ 64) : CM En (prime_composite a_ n_ d_ s) 81 [.int .u64 a_, .int .u64 n_, .int .u64 d_, .int .i64 s] (fun y => .bool y) (fun _ => []) := by
 refine cmQ fun r hM => ?_
 rw [prime_composite.eq_1] at hM
 refine enterV En_ok En_mo noJ Tryd.func81 rfl Tryd.ntmps81 (by kernel_rfl) fun hw => ct_start ?_
 refine spQ ?_
 replace hw := nzQ hw
 have h0_0 := si64 (x := s) (by omega) (by omega)
 have hM0 := hM; clear hM; obtain ⟨x1, hx2, hM⟩ := letk_opn hM0; clear hM0
 have hcx1 := cmH hx2 (prime_pow_ok  a_ d_ n_ (by (exact pfQ)) (by (exact pfQ)))
 refine callC_give hcx1 clQ clQ (fun hw3 => ?_)
 replace hw3 := nzQ hw3
 refine spQ ?_
 have hq4 := prime_pow_rng hx2 (by omega) (by omega) (by omega) (by omega)
 replace hq4 := nzQ hq4
 refine guardC_f (fun h5 => ?_) (fun h5 => ?_)
 ·rw [if_neg (ne_true h5)] at hM
  refine spQA h5 ?_
  have nh5 := nzQ h5
  try have hr6 := mpQ nh5
  refine condC_intro (fun h7 => ?_) (fun h7 => ?_)
  ·rw [if_pos h7] at hM
   refine spQA h7 ?_
   have nh7 := nzQ h7
   try have hr8 := mpQ nh7
   subst hM
   exact retC_view (lfQA (And.intro h5 h7))
  ·rw [if_neg (ne_true h7)] at hM
   refine spQA h7 ?_
   have nh7 := nzQ h7
   try have hr9 := mpQ nh7
   have hM0 := hM; clear hM; obtain ⟨f10, d10, hf10, hd10, hM⟩ := iter_opn hM0; clear hM0
   refine ct_loop (fun n S => ∃ p : Int × Int, S = (⟨[(1, .int .u64 n_), (9, .int .u64 p.1), (23, .int .i64 (subI .i64 s 1)), (24, .int .i64 p.2)], [], 0⟩ : St) ∧ ((0 ≤ p.2) ∧ (p.2 ≤ subI .i64 s 1 ∨ p.2 ≤ 0) ∧ (0 ≤ p.1) ∧ (p.1 < n_)) ∧ (subI .i64 s 1 - p.2).toNat < n ∧ iter n f10 d10 p = r) ((subI .i64 s 1 - 0).toNat + 1) _ sbQ sbQ ⟨(x1, 0), rfl, ⟨omQ, omQ, omQ, omQ⟩, (Nat.lt_succ_self _), hM⟩ ?_
   clear hM
   rintro n10 S ⟨p10, rfl, hfa10, hm10, hM⟩
   have hM0 := hM; clear hM; obtain ⟨ag10, hag10, hM⟩ := iter_step hM0 (by omega) hf10; clear hM0
   replace hfa10 := nzQ hfa10
   replace hm10 := nzQ hm10
   have ha10 : addI .i64 p10.2 1 = p10.2 + 1 := add_one omQ omQ
   refine spQA ha10 ?_
   refine condC_intro (fun h11 => ?_) (fun h11 => ?_)
   ·rw [if_pos h11] at hM
    refine spQA (And.intro ha10 h11) ?_
    have nh11 := nzQ h11
    try have hr12 := mpQ nh11
    have hM0 := hM; clear hM; obtain ⟨x13, hx14, hM⟩ := letk_opn hM0; clear hM0
    have hcx13 := cmH hx14 (prime_mul_ok  (p10.1) (p10.1) n_ (by (exact pfQ)))
    refine callC_give hcx13 (clQA ha10) (clQA ha10) (fun hw15 => ?_)
    replace hw15 := nzQ hw15
    refine spQA ha10 ?_
    have hq16 := prime_mul_rng hx14 (by omega) (by omega) (by omega) (by omega) (by omega)
    replace hq16 := nzQ hq16
    have hF := (And.intro h5 (And.intro h7 (And.intro ha10 h11)))
    exact auQ
   ·rw [if_neg (ne_true h11)] at hM
    refine spQA (And.intro ha10 h11) ?_
    have nh11 := nzQ h11
    try have hr20 := mpQ nh11
    subst hM
    exact retC_view (lfQA (And.intro ha10 (And.intro h5 (And.intro h7 h11))))
 ·rw [if_pos h5] at hM
  refine spQA h5 ?_
  have nh5 := nzQ h5
  try have hr21 := mpQ nh5
  subst hM
  exact retC_view (lfQA h5)
set_option maxHeartbeats 2000000 in
set_option maxRecDepth 100000 in
instance prime_Is_ok   (n_ : Int)  : CM En (prime_Is n_) 56 [.int .i64 n_] (fun y => .bool y) (fun _ => []) := by
 refine cmQ fun r hM => ?_
 rw [prime_Is.eq_1] at hM
 refine enterV En_ok En_mo noJ Tryd.func56 rfl Tryd.ntmps56 (by kernel_rfl) fun hw => ct_start ?_
 refine spQ ?_
 replace hw := nzQ hw
 have h0_0 := kg2_len
 refine condC_intro (fun h1 => ?_) (fun h1 => ?_)
 ·rw [if_pos h1] at hM
  refine spQA h1 ?_
  have nh1 := nzQ h1
  try have hr2 := mpQ nh1
  subst hM
  exact retC_view (lfQA h1)
 ·rw [if_neg (ne_true h1)] at hM
  refine spQA h1 ?_
  have nh1 := nzQ h1
  try have hr3 := mpQ nh1
  have hM0 := hM; clear hM; obtain ⟨f4, d4, hf4, hd4, hM⟩ := iter_opn hM0; clear hM0
  refine ct_loop (fun n S => ∃ p : Int, S = (⟨[(3, .int .u64 (convI .u64 n_)), (13, .agg (kg_1.map (V.int .u64))), (14, .int .i64 p)], [], 0⟩ : St) ∧ (((0 ≤ p) ∧ (p ≤ 12)) ∧ (NoDiv (convI .u64 n_) p)) ∧ ((12 : Int) - p).toNat < n ∧ iter n f4 d4 p = r) (((12 : Int) - 0).toNat + 1) _ sbQ sbQ ⟨0, rfl, ⟨⟨by (first | exact omQ | (clear hM; first | (have hk := kg2_rng (j := p4) (by omega) (by omega); exact omQ'))), by (first | exact omQ | (clear hM; first | (have hk := kg2_rng (j := p4) (by omega) (by omega); exact omQ')))⟩, by (exact NoDiv_zero)⟩, (Nat.lt_succ_self _), hM⟩ ?_
  clear hM
  rintro n4 S ⟨p4, rfl, ⟨hfa4, hF5_0⟩, hm4, hM⟩
  have hM0 := hM; clear hM; obtain ⟨ag4, hag4, hM⟩ := iter_step hM0 (by omega) hf4; clear hM0
  replace hfa4 := nzQ hfa4
  replace hm4 := nzQ hm4
  have ha4 : addI .i64 p4 1 = p4 + 1 := add_one (by (first | exact omQ | (clear hM; first | (have hk := kg2_rng (j := p4) (by omega) (by omega); exact omQ')))) (by (first | exact omQ | (clear hM; first | (have hk := kg2_rng (j := p4) (by omega) (by omega); exact omQ'))))
  refine spQA ha4 ?_
  refine condC_intro (fun h5 => ?_) (fun h5 => ?_)
  ·rw [if_pos h5] at hM
   refine spQA (And.intro ha4 h5) ?_
   have nh5 := nzQ h5
   try have hr6 := mpQ nh5
   have he7 := pp_get (f := V.int .u64) (l := kg_1) (n := 12) (i := p4) rfl (by (first | exact omQ | (clear hM; first | (have hk := kg2_rng (j := p4) (by omega) (by omega); exact omQ'))))
   replace he7 := spR he7
   refine spQA (And.intro ha4 he7) ?_
   refine bindC_intro (by (first | exact omQ | (clear hM; first | (have hk := kg2_rng (j := p4) (by omega) (by omega); exact omQ')))) ?_
   refine spQA (And.intro ha4 he7) ?_
   refine bindC_intro (by (first | exact omQ | (clear hM; first | (have hk := kg2_rng (j := p4) (by omega) (by omega); exact omQ')))) ?_
   refine spQA (And.intro ha4 he7) ?_
   refine condC_intro (fun h8 => ?_) (fun h8 => ?_)
   ·rw [if_pos h8] at hM
    refine spQA (And.intro ha4 (And.intro he7 h8)) ?_
    have nh8 := nzQ h8
    try have hr9 := mpQ nh8
    subst hM
    exact retC_view (lfQA (And.intro ha4 (And.intro he7 (And.intro h1 (And.intro h5 h8)))))
   ·rw [if_neg (ne_true h8)] at hM
    refine spQA (And.intro ha4 (And.intro he7 h8)) ?_
    have nh8 := nzQ h8
    try have hr10 := mpQ nh8
    refine lp_intro (n4 - 1) _ (by omega) sbQ sbQ ⟨(p4 + 1), rfl, ⟨⟨by (first | exact omQ | (clear hM; first | (have hk := kg2_rng (j := (p4 + 1)) (by omega) (by omega); exact omQ'))), by (first | exact omQ | (clear hM; first | (have hk := kg2_rng (j := (p4 + 1)) (by omega) (by omega); exact omQ')))⟩, by (clear hM; exact NoDiv_step hF5_0 (nn_u64 _) (by omega) (by omega) (by assumption))⟩, by (first | exact omQ | (clear hM; first | (have hk := kg2_rng (j := (p4 + 1)) (by omega) (by omega); exact omQ'))), iter_again hM hag4⟩
  ·rw [if_neg (ne_true h5)] at hM
   refine spQA (And.intro ha4 h5) ?_
   have nh5 := nzQ h5
   try have hr11 := mpQ nh5
   have hM0 := hM; clear hM; obtain ⟨x12, hx13, hM⟩ := letk_opn hM0; clear hM0
   have hcx12 := cmU hx13
   refine callC_give hcx12 (clQA ha4) (clQA ha4) (fun hw14 => ?_)
   replace hw14 := nzQ hw14
   refine spQA ha4 ?_
   have hq15 := tz_rng hx13
   replace hq15 := nzQ hq15
   have hM0 := hM; clear hM; obtain ⟨f16, d16, hf16, hd16, hM⟩ := iter_opn hM0; clear hM0
   refine ct_loop (fun n S => ∃ p : Int, S = (⟨[(3, .int .u64 (convI .u64 n_)), (6, .int .i64 x12), (28, .agg (kg_1.map (V.int .u64))), (29, .int .i64 p)], [], 0⟩ : St) ∧ (((0 ≤ p) ∧ (p ≤ 12)) ∧ (37 < convI .u64 n_)) ∧ ((12 : Int) - p).toNat < n ∧ iter n f16 d16 p = r) (((12 : Int) - 0).toNat + 1) _ sbQ sbQ ⟨0, rfl, ⟨⟨by (first | exact omQ | (clear hM; first | (have hk := kg2_rng (j := p16) (by omega) (by omega); exact omQ'))), by (first | exact omQ | (clear hM; first | (have hk := kg2_rng (j := p16) (by omega) (by omega); exact omQ')))⟩, by (clear hM; exact NoDiv_all hF5_0 (by omega) (by rw [cu63 (by omega) (by omega)]; omega))⟩, (Nat.lt_succ_self _), hM⟩ ?_
   clear hM
   rintro n16 S ⟨p16, rfl, ⟨hfa16, hF12_0⟩, hm16, hM⟩
   have hM0 := hM; clear hM; obtain ⟨ag16, hag16, hM⟩ := iter_step hM0 (by omega) hf16; clear hM0
   replace hfa16 := nzQ hfa16
   replace hm16 := nzQ hm16
   have ha16 : addI .i64 p16 1 = p16 + 1 := add_one (by (first | exact omQ | (clear hM; first | (have hk := kg2_rng (j := p16) (by omega) (by omega); exact omQ')))) (by (first | exact omQ | (clear hM; first | (have hk := kg2_rng (j := p16) (by omega) (by omega); exact omQ'))))
   refine spQA (And.intro ha4 ha16) ?_
   refine condC_intro (fun h17 => ?_) (fun h17 => ?_)
   ·rw [if_pos h17] at hM
    refine spQA (And.intro ha4 (And.intro ha16 h17)) ?_
    have nh17 := nzQ h17
    try have hr18 := mpQ nh17
    have he19 := pp_get (f := V.int .u64) (l := kg_1) (n := 12) (i := p16) rfl (by (first | exact omQ | (clear hM; first | (have hk := kg2_rng (j := p16) (by omega) (by omega); exact omQ'))))
    replace he19 := spR he19
    refine spQA (And.intro ha4 (And.intro ha16 he19)) ?_
    refine bindC_intro (by (first | exact omQ | (clear hM; first | (have hk := kg2_rng (j := p16) (by omega) (by omega); exact omQ')))) ?_
    refine spQA (And.intro ha4 (And.intro ha16 he19)) ?_
    refine bindC_intro (by (first | exact omQ | (clear hM; first | (have hk := kg2_rng (j := p16) (by omega) (by omega); exact omQ')))) ?_
    refine spQA (And.intro ha4 (And.intro ha16 he19)) ?_
    have hM0 := hM; clear hM; obtain ⟨x20, hx21, hM⟩ := letk_opn hM0; clear hM0
    have hcx20 := cmH hx21 (prime_composite_ok  (gt kg_1 p16) (convI .u64 n_) (shrI .u64 (subI .u64 (convI .u64 n_) 1) x12) x12 (by (first | omega | (have hk := kg2_rng (j := p16) (by omega) (by omega); omega))) (by (first | omega | (have hk := kg2_rng (j := p16) (by omega) (by omega); omega))) (by (first | omega | (have hk := kg2_rng (j := p16) (by omega) (by omega); omega))) (by (first | omega | (have hk := kg2_rng (j := p16) (by omega) (by omega); omega))))
    refine callC_give hcx20 (clQA (And.intro ha4 (And.intro ha16 he19))) (clQA (And.intro ha4 (And.intro ha16 he19))) (fun hw22 => ?_)
    replace hw22 := nzQ hw22
    refine spQA (And.intro ha4 (And.intro ha16 he19)) ?_
    refine condC_intro (fun h23 => ?_) (fun h23 => ?_)
    ·subst h23
     rw [if_pos rfl] at hM
     refine spQA (And.intro ha4 (And.intro ha16 he19)) ?_
     subst hM
     exact retC_view (lfQA (And.intro ha4 (And.intro ha16 (And.intro he19 (And.intro h1 (And.intro h5 h17))))))
    ·subst h23
     rw [if_neg (by decide)] at hM
     refine spQA (And.intro ha4 (And.intro ha16 he19)) ?_
     refine lp_intro (n16 - 1) _ (by omega) sbQ sbQ ⟨(p16 + 1), rfl, ⟨⟨by (first | exact omQ | (clear hM; first | (have hk := kg2_rng (j := (p16 + 1)) (by omega) (by omega); exact omQ'))), by (first | exact omQ | (clear hM; first | (have hk := kg2_rng (j := (p16 + 1)) (by omega) (by omega); exact omQ')))⟩, by (clear hM; exact hF12_0)⟩, by (first | exact omQ | (clear hM; first | (have hk := kg2_rng (j := (p16 + 1)) (by omega) (by omega); exact omQ'))), iter_again hM hag16⟩
   ·rw [if_neg (ne_true h17)] at hM
    refine spQA (And.intro ha4 (And.intro ha16 h17)) ?_
    have nh17 := nzQ h17
    try have hr24 := mpQ nh17
    subst hM
    exact retC_view (lfQA (And.intro ha4 (And.intro ha16 (And.intro h1 (And.intro h5 h17)))))
set_option maxHeartbeats 2000000 in
set_option maxRecDepth 100000 in
instance word_residue_ok   (a_ : Int) (m : Int)  : CM En (word_residue a_ m) 110 [.int .i64 a_, .int .i64 m] (fun y => .bool y) (fun _ => []) := by
 refine cmQ fun r hM => ?_
 rw [word_residue.eq_1] at hM
 refine enterV En_ok En_mo noJ Tryd.func110 rfl Tryd.ntmps110 (by kernel_rfl) fun hw => ct_start ?_
 refine spQ ?_
 replace hw := nzQ hw
 have hF := trueQ
 exact auQ
set_option maxHeartbeats 2000000 in
set_option maxRecDepth 100000 in
instance word_check_ok   (a_ : Int) (b : Int) (m : Int)  : CM En (word_check a_ b m) 82 [.int .i64 a_, .int .i64 b, .int .i64 m] (fun y => .int .i64 y) (fun _ => []) := by
 refine cmQ fun r hM => ?_
 rw [word_check.eq_1] at hM
 refine enterV En_ok En_mo noJ Tryd.func82 rfl Tryd.ntmps82 (by kernel_rfl) fun hw => ct_start ?_
 refine spQ ?_
 replace hw := nzQ hw
 have hF := trueQ
 exact auQ
set_option maxHeartbeats 2000000 in
set_option maxRecDepth 100000 in
theorem word_mul_ok   (a_ : Int) (b : Int) (m : Int) (hp0 : 0 ≤ a_) (hp1 : a_ < m) (hp2 : 0 ≤ b) : CM En (word_mul a_ b m) 83 [.int .i64 a_, .int .i64 b, .int .i64 m] (fun y => .int .i64 y) (fun _ => []) := by
 refine cmQ fun r hM => ?_
 rw [word_mul.eq_1] at hM
 refine enterV En_ok En_mo noJ Tryd.func83 rfl Tryd.ntmps83 (by kernel_rfl) fun hw => ct_start ?_
 refine spQ ?_
 replace hw := nzQ hw
 have h0_0 := cu63 (x := a_) (by omega) (by omega)
 have h0_1 := cu63 (x := b) (by omega) (by omega)
 have h0_2 := cu63 (x := m) (by omega) (by omega)
 have hM0 := hM; clear hM; obtain ⟨x1, hx2, hM⟩ := letk_opn hM0; clear hM0
 have hcx1 := cmU hx2
 refine callC_give hcx1 clQ clQ (fun hw3 => ?_)
 replace hw3 := nzQ hw3
 refine spQ ?_
 have hq4 := mul_afterN (convI .u64 m) hx2 (by omega) (by omega) (by omega) (by omega) (by omega)
 replace hq4 := nzQ hq4
 have hM0 := hM; clear hM; obtain ⟨x5, hx6, hM⟩ := letk_opn hM0; clear hM0
 have hcx5 := cmH hx6 (math_bits_Div64_ok  (x1.1) (x1.2) (convI .u64 m) (by (exact pfQ)))
 refine callC_give hcx5 clQ clQ (fun hw7 => ?_)
 replace hw7 := nzQ hw7
 refine spQ ?_
 subst hM
 exact retC_view lfQ
set_option maxHeartbeats 2000000 in
set_option maxRecDepth 100000 in
instance word_Pow_ok   (a_ : Int) (e_ : Int) (m : Int)  : CM En (word_Pow a_ e_ m) 57 [.int .i64 a_, .int .i64 e_, .int .i64 m] (fun y => .tup [.int .i64 y.1, .int .i64 y.2]) (fun _ => []) := by
 refine cmQ fun r hM => ?_
 rw [word_Pow.eq_1] at hM
 refine enterV En_ok En_mo noJ Tryd.func57 rfl Tryd.ntmps57 (by kernel_rfl) fun hw => ct_start ?_
 refine spQ ?_
 replace hw := nzQ hw
 have hM0 := hM; clear hM; obtain ⟨x1, hx2, hM⟩ := letk_opn hM0; clear hM0
 have hcx1 := cmU hx2
 refine callC_give hcx1 clQ clQ (fun hw3 => ?_)
 replace hw3 := nzQ hw3
 refine spQ ?_
 have hq4 := nzQ (cfU hx2)
 refine condC_intro (fun h5 => ?_) (fun h5 => ?_)
 ·rw [if_pos h5] at hM
  refine spQA h5 ?_
  have nh5 := nzQ h5
  try have hr6 := mpQ nh5
  subst hM
  exact retC_view (lfQA h5)
 ·rw [if_neg (ne_true h5)] at hM
  refine spQA h5 ?_
  have nh5 := nzQ h5
  try have hr7 := mpQ nh5
  refine condC_intro (fun h8 => ?_) (fun h8 => ?_)
  ·rw [if_pos h8] at hM
   refine spQA h8 ?_
   have nh8 := nzQ h8
   try have hr9 := mpQ nh8
   subst hM
   exact retC_view (lfQA (And.intro h5 h8))
  ·rw [if_neg (ne_true h8)] at hM
   refine spQA h8 ?_
   have nh8 := nzQ h8
   try have hr10 := mpQ nh8
   refine bindC_intro (by (first | exact omQ | (clear hM; first | (have hk := rem1_rng (m := m) (by omega); exact omQ')))) ?_
   refine spQ ?_
   have hM0 := hM; clear hM; obtain ⟨f11, d11, hf11, hd11, hM⟩ := iter_opn hM0; clear hM0
   refine ct_loop (fun n S => ∃ p : Int × Int × Int, S = (⟨[(0, .int .i64 p.1), (1, .int .i64 p.2.1), (2, .int .i64 m), (9, .int .i64 p.2.2)], [], 0⟩ : St) ∧ ((0 ≤ p.1) ∧ (p.1 < m) ∧ (0 ≤ p.2.1) ∧ (0 ≤ p.2.2) ∧ (p.2.2 < m)) ∧ p.2.1.toNat < n ∧ iter n f11 d11 p = r) (e_.toNat + 1) _ sbQ sbQ ⟨(a_, e_, (remI .i64 1 m)), rfl, ⟨by (first | exact omQ | (clear hM; first | (have hk := rem1_rng (m := m) (by omega); exact omQ'))), by (first | exact omQ | (clear hM; first | (have hk := rem1_rng (m := m) (by omega); exact omQ'))), by (first | exact omQ | (clear hM; first | (have hk := rem1_rng (m := m) (by omega); exact omQ'))), by (first | exact omQ | (clear hM; first | (have hk := rem1_rng (m := m) (by omega); exact omQ'))), by (first | exact omQ | (clear hM; first | (have hk := rem1_rng (m := m) (by omega); exact omQ')))⟩, (Nat.lt_succ_self _), hM⟩ ?_
   clear hM
   rintro n11 S ⟨p11, rfl, hfa11, hm11, hM⟩
   have hM0 := hM; clear hM; obtain ⟨ag11, hag11, hM⟩ := iter_step hM0 (by omega) hf11; clear hM0
   replace hfa11 := nzQ hfa11
   replace hm11 := nzQ hm11
   refine spQ ?_
   refine condC_intro (fun h12 => ?_) (fun h12 => ?_)
   ·rw [if_pos h12] at hM
    refine spQA h12 ?_
    have nh12 := nzQ h12
    try have hr13 := mpQ nh12
    refine condC_intro (fun h14 => ?_) (fun h14 => ?_)
    ·rw [if_pos h14] at hM
     refine spQA h14 ?_
     have nh14 := nzQ h14
     try have hr15 := mpQ nh14
     have hM0 := hM; clear hM; obtain ⟨x16, hx17, hM⟩ := letk_opn hM0; clear hM0
     have hcx16 := cmH hx17 (word_mul_ok  (p11.2.2) (p11.1) m (by (exact pfQ)) (by (exact pfQ)) (by (exact pfQ)))
     refine callC_give hcx16 clQ clQ (fun hw18 => ?_)
     replace hw18 := nzQ hw18
     refine spQ ?_
     have hq19 := word_mul_rng hx17 (by omega) (by omega) (by omega) (by omega) (by omega)
     replace hq19 := nzQ hq19
     have hM0 := hM; clear hM; obtain ⟨x20, hx21, hM⟩ := letk_opn hM0; clear hM0
     have hcx20 := cmH hx21 (word_mul_ok  (p11.1) (p11.1) m (by (exact pfQ)) (by (exact pfQ)) (by (exact pfQ)))
     refine callC_give hcx20 clQ clQ (fun hw22 => ?_)
     replace hw22 := nzQ hw22
     refine spQ ?_
     have hq23 := word_mul_rng hx21 (by omega) (by omega) (by omega) (by omega) (by omega)
     replace hq23 := nzQ hq23
     refine lp_intro (n11 - 1) _ (by omega) sbQ sbQ ⟨(x20, (shrI .i64 p11.2.1 1), x16), rfl, ⟨by (clear hM; (try dsimp only); (try rw [shr1]); (try rw [shr1i]); omega), by (clear hM; (try dsimp only); (try rw [shr1]); (try rw [shr1i]); omega), by (clear hM; (try dsimp only); (try rw [shr1]); (try rw [shr1i]); omega), by (clear hM; (try dsimp only); (try rw [shr1]); (try rw [shr1i]); omega), by (clear hM; (try dsimp only); (try rw [shr1]); (try rw [shr1i]); omega)⟩, by (clear hM; (try dsimp only); (try rw [shr1]); (try rw [shr1i]); omega), iter_again hM hag11⟩
    ·rw [if_neg (ne_true h14)] at hM
     refine spQA h14 ?_
     have nh14 := nzQ h14
     try have hr24 := mpQ nh14
     have hM0 := hM; clear hM; obtain ⟨x25, hx26, hM⟩ := letk_opn hM0; clear hM0
     have hcx25 := cmH hx26 (word_mul_ok  (p11.1) (p11.1) m (by (exact pfQ)) (by (exact pfQ)) (by (exact pfQ)))
     refine callC_give hcx25 clQ clQ (fun hw27 => ?_)
     replace hw27 := nzQ hw27
     refine spQ ?_
     have hq28 := word_mul_rng hx26 (by omega) (by omega) (by omega) (by omega) (by omega)
     replace hq28 := nzQ hq28
     refine lp_intro (n11 - 1) _ (by omega) sbQ sbQ ⟨(x25, (shrI .i64 p11.2.1 1), p11.2.2), rfl, ⟨by (clear hM; (try dsimp only); (try rw [shr1]); (try rw [shr1i]); omega), by (clear hM; (try dsimp only); (try rw [shr1]); (try rw [shr1i]); omega), by (clear hM; (try dsimp only); (try rw [shr1]); (try rw [shr1i]); omega), by (clear hM; (try dsimp only); (try rw [shr1]); (try rw [shr1i]); omega), by (clear hM; (try dsimp only); (try rw [shr1]); (try rw [shr1i]); omega)⟩, by (clear hM; (try dsimp only); (try rw [shr1]); (try rw [shr1i]); omega), iter_again hM hag11⟩
   ·rw [if_neg (ne_true h12)] at hM
    refine spQA h12 ?_
    have nh12 := nzQ h12
    try have hr29 := mpQ nh12
    subst hM
    exact retC_view (lfQA (And.intro h5 (And.intro h8 h12)))
set_option maxHeartbeats 2000000 in
set_option maxRecDepth 100000 in
instance group_Valid_ok   (g : S_api_Group)  : CM En (group_Valid g) 37 [.agg [.int .i64 g.P, .int .i64 g.Q, .int .i64 g.G]] (fun y => .bool y) (fun _ => []) := by
 refine cmQ fun r hM => ?_
 rw [group_Valid.eq_1] at hM
 refine enterV En_ok En_mo noJ Tryd.func37 rfl Tryd.ntmps37 (by kernel_rfl) fun hw => ct_start ?_
 refine spQ ?_
 replace hw := nzQ hw
 have hF := trueQ
 exact auQ
set_option maxHeartbeats 2000000 in
set_option maxRecDepth 100000 in
instance group_element_ok   (g : S_api_Group) (x_ : Int)  : CM En (group_element g x_) 58 [.agg [.int .i64 g.P, .int .i64 g.Q, .int .i64 g.G], .int .i64 x_] (fun y => .bool y) (fun _ => []) := by
 refine cmQ fun r hM => ?_
 rw [group_element.eq_1] at hM
 refine enterV En_ok En_mo noJ Tryd.func58 rfl Tryd.ntmps58 (by kernel_rfl) fun hw => ct_start ?_
 refine spQ ?_
 replace hw := nzQ hw
 have hF := trueQ
 exact auQ
set_option maxHeartbeats 2000000 in
set_option maxRecDepth 100000 in
instance group_Contains_ok   (g : S_api_Group) (x_ : Int)  : CM En (group_Contains g x_) 38 [.agg [.int .i64 g.P, .int .i64 g.Q, .int .i64 g.G], .int .i64 x_] (fun y => .bool y) (fun _ => []) := by
 refine cmQ fun r hM => ?_
 rw [group_Contains.eq_1] at hM
 refine enterV En_ok En_mo noJ Tryd.func38 rfl Tryd.ntmps38 (by kernel_rfl) fun hw => ct_start ?_
 refine spQ ?_
 replace hw := nzQ hw
 have hF := trueQ
 exact auQ
set_option maxHeartbeats 2000000 in
set_option maxRecDepth 100000 in
instance base_Valid_ok   (b : S_api_Bases)  : CM En (base_Valid b) 17 [(e_api_Bases b)] (fun y => .bool y) (fun _ => []) := by
 refine cmQ fun r hM => ?_
 rw [base_Valid.eq_1] at hM
 refine enterV En_ok En_mo noJ Tryd.func17 rfl Tryd.ntmps17 (by kernel_rfl) fun hw => ct_start ?_
 refine spQ ?_
 replace hw := nzQ hw
 have hM0 := hM; clear hM; obtain ⟨x1, hx2, hM⟩ := letk_opn hM0; clear hM0
 have hcx1 := cmU hx2
 refine callC_give hcx1 clQ clQ (fun hw3 => ?_)
 replace hw3 := nzQ hw3
 refine spQ ?_
 refine condC_intro (fun h4 => ?_) (fun h4 => ?_)
 ·rw [if_pos h4] at hM
  refine spQA h4 ?_
  have nh4 := nzQ h4
  try have hr5 := mpQ nh4
  subst hM
  exact retC_view (lfQA h4)
 ·rw [if_neg (ne_true h4)] at hM
  refine spQA h4 ?_
  have nh4 := nzQ h4
  try have hr6 := mpQ nh4
  have hM0 := hM; clear hM; obtain ⟨f7, d7, hf7, hd7, hM⟩ := iter_opn hM0; clear hM0
  refine ct_loop (fun n S => ∃ p : Int, S = (⟨[(1, .ptr 0 0), (15, .own 1), (16, .int .i64 (3 : Int)), (17, .int .i64 p)], [(0, .var 6 true ((e_api_Bases b))), (1, .own 3 1 false (some false) (([b.G1, b.G2, b.H] : List Int).map (V.int .i64)))], 2⟩ : St) ∧ ((0 ≤ p) ∧ (p ≤ (3 : Int))) ∧ ((3 : Int) - p).toNat < n ∧ iter n f7 d7 p = r) (((3 : Int) - 0).toNat + 1) _ sbQ sbQ ⟨0, rfl, ⟨omQ, omQ⟩, (Nat.lt_succ_self _), hM⟩ ?_
  clear hM
  rintro n7 S ⟨p7, rfl, hfa7, hm7, hM⟩
  have hM0 := hM; clear hM; obtain ⟨ag7, hag7, hM⟩ := iter_step hM0 (by omega) hf7; clear hM0
  replace hfa7 := nzQ hfa7
  replace hm7 := nzQ hm7
  have ha7 : addI .i64 p7 1 = p7 + 1 := add_one omQ omQ
  refine spQA ha7 ?_
  have hF := (And.intro h4 ha7)
  exact auQ
set_option maxHeartbeats 2000000 in
set_option maxRecDepth 100000 in
instance base_numbers_ok   (b : S_api_Bases)  : CM En (base_numbers b) 35 [(e_api_Bases b)] (fun y => .sl none 1 false (y.map (V.int .i64))) (fun _ => []) := by
 refine cmQ fun r hM => ?_
 rw [base_numbers.eq_1] at hM
 refine enterV En_ok En_mo noJ Tryd.func35 rfl Tryd.ntmps35 (by kernel_rfl) fun hw => ct_start ?_
 refine spQ ?_
 replace hw := nzQ hw
 subst hM
 exact retC_view lfQ
set_option maxHeartbeats 2000000 in
set_option maxRecDepth 100000 in
instance base_Text_ok   (b : S_api_Bases)  : CM En (base_Text b) 15 [(e_api_Bases b)] (fun y => .tup [.str y.1, .int .i64 y.2]) (fun _ => []) := by
 refine cmQ fun r hM => ?_
 rw [base_Text.eq_1] at hM
 refine enterV En_ok En_mo noJ Tryd.func15 rfl Tryd.ntmps15 (by kernel_rfl) fun hw => ct_start ?_
 refine spQ ?_
 replace hw := nzQ hw
 have hM0 := hM; clear hM; obtain ⟨x1, hx2, hM⟩ := letk_opn hM0; clear hM0
 have hcx1 := cmU hx2
 refine callC_give hcx1 clQ clQ (fun hw3 => ?_)
 replace hw3 := nzQ hw3
 refine spQ ?_
 refine condC_intro (fun h4 => ?_) (fun h4 => ?_)
 ·rw [if_pos h4] at hM
  refine spQA h4 ?_
  have nh4 := nzQ h4
  try have hr5 := mpQ nh4
  subst hM
  exact retC_view (lfQA h4)
 ·rw [if_neg (ne_true h4)] at hM
  refine spQA h4 ?_
  have nh4 := nzQ h4
  try have hr6 := mpQ nh4
  have hM0 := hM; clear hM; obtain ⟨x7, hx8, hM⟩ := letk_opn hM0; clear hM0
  have hcx7 := cmU hx8
  refine callC_give hcx7 clQ clQ (fun hw9 => ?_)
  replace hw9 := nzQ hw9
  refine spQ ?_
  have hq10 := nzQ (cfU hx8)
  have hM0 := hM; clear hM; obtain ⟨f11, d11, hf11, hd11, hM⟩ := iter_opn hM0; clear hM0
  refine ct_loopW (fun n S => ∃ p : Int × List (List UInt8), S = (⟨[(4, .own 1), (11, .sl none 1 false (x7.map (V.int .i64))), (12, .int .i64 (x7.length : Int)), (13, .int .i64 p.1)], [(1, .own 9 1 false none (p.2.map V.str))], 2⟩ : St) ∧ (((0 ≤ p.1) ∧ (p.1 ≤ (x7.length : Int)) ∧ (((p.2).length : Int) ≤ p.1)) ∧ ((textLen (p.2) : Int) ≤ 21 * p.1)) ∧ ((x7.length : Int) - p.1).toNat < n ∧ iter n f11 d11 p = r) (((x7.length : Int) - 0).toNat + 1) _ _ (weak_nil 4 9 rfl (by decide)) sbQ sbQ ⟨(0, ([] : List (List UInt8))), rfl, ⟨⟨omQ, omQ, omQ⟩, by (simp [textLen])⟩, (Nat.lt_succ_self _), hM⟩ ?_
  clear hM
  rintro n11 S ⟨p11, rfl, ⟨hfa11, hF5_0⟩, hm11, hM⟩
  have hM0 := hM; clear hM; obtain ⟨ag11, hag11, hM⟩ := iter_step hM0 (by omega) hf11; clear hM0
  replace hfa11 := nzQ hfa11
  replace hm11 := nzQ hm11
  have ha11 : addI .i64 p11.1 1 = p11.1 + 1 := add_one omQ omQ
  refine spQA ha11 ?_
  refine condC_intro (fun h12 => ?_) (fun h12 => ?_)
  ·rw [if_pos h12] at hM
   refine spQA (And.intro ha11 h12) ?_
   have nh12 := nzQ h12
   try have hr13 := mpQ nh12
   refine bindC_intro omQ ?_
   have he14 := fun d => elt_mp (l := x7) (f := (V.int .i64)) (i := p11.1) omQ d
   refine spQA (And.intro ha11 he14) ?_
   have hM0 := hM; clear hM; obtain ⟨x15, hx16, hM⟩ := letk_opn hM0; clear hM0
   have hcx15 := cmU hx16
   refine callC_give hcx15 (clQA (And.intro ha11 he14)) (clQA (And.intro ha11 he14)) (fun hw17 => ?_)
   replace hw17 := nzQ hw17
   refine spQA (And.intro ha11 he14) ?_
   have hq18 := itoa_len hx16 (wf_gt hw9.2 (by omega))
   replace hq18 := nzQ hq18
   refine bindC_intro omQ ?_
   refine spQA (And.intro ha11 he14) ?_
   refine lp_intro (n11 - 1) _ (by omega) sbQ sbQ ⟨((p11.1 + 1), (p11.2 ++ ([x15] : List (List UInt8)))), rfl, ⟨⟨omQ, omQ, omQ⟩, by (clear hM; rw [textLen_app]; omega)⟩, omQ, iter_again hM hag11⟩
  ·rw [if_neg (ne_true h12)] at hM
   refine spQA (And.intro ha11 h12) ?_
   have nh12 := nzQ h12
   try have hr19 := mpQ nh12
   have hM0 := hM; clear hM; obtain ⟨x20, hx21, hM⟩ := letk_opn hM0; clear hM0
   have hcx20 := cmH hx21 (strings_Join_ok  (p11.2) ([32]) (by (refine Nat.le_trans (join_le _ _) ?_; simp only [List.length_cons, List.length_nil]; omega)))
   refine callC_look hcx20 (clQA ha11) (clQA ha11) (fun hw22 => ?_)
   replace hw22 := nzQ hw22
   refine spQA ha11 ?_
   subst hM
   exact retC_view (lfQA (And.intro ha11 (And.intro h4 h12)))
instance (priority := 1002) : DRD 14 77 21 [9, 52, 53, 54, 55, 56, 57, 58, 59, 60, 61, 62, 63, 64, 65, 66, 67, 68, 69, 70, 71] [] ([[], [0], [0, 1], [], [3], [3, 4], [], [6], [6, 7], [0, 1, 2, 3, 4, 5, 6, 7, 8], [], [10], [10, 11], [], [13], [13, 14], [], [16], [16, 17], [0, 1, 2, 3, 4, 5, 6, 7, 8, 9, 10, 11, 12, 13, 14, 15, 16, 17, 18], []] ++ [List.range 21]) [] := ⟨trivial⟩
set_option maxHeartbeats 2000000 in
set_option maxRecDepth 100000 in
instance base_Parse_ok   (s : (List UInt8))  : CM En (base_Parse s) 16 [.str s] (fun y => .tup [(e_api_Bases y.1), .int .i64 y.2]) (fun _ => []) := by
 refine cmQ fun r hM => ?_
 rw [base_Parse.eq_1] at hM
 refine enterV En_ok En_mo noJ Tryd.func16 rfl Tryd.ntmps16 (by kernel_rfl) fun hw => ct_start ?_
 refine spQ ?_
 replace hw := nzQ hw
 refine condC_intro (fun h1 => ?_) (fun h1 => ?_)
 ·rw [if_pos h1] at hM
  refine spQA h1 ?_
  have nh1 := nzQ h1
  try have hr2 := mpQ nh1
  subst hM
  exact retC_view (lfQA h1)
 ·rw [if_neg (ne_true h1)] at hM
  refine spQA h1 ?_
  have nh1 := nzQ h1
  try have hr3 := mpQ nh1
  have hM0 := hM; clear hM; obtain ⟨x4, hx5, hM⟩ := letk_opn hM0; clear hM0
  have hcx4 := cmH hx5 (strings_Split_ok  s ([32]) (by (exact pfQ)) (by (exact pfQ)))
  refine callC_give hcx4 clQ clQ (fun hw6 => ?_)
  replace hw6 := nzQ hw6
  refine spQ ?_
  have hM0 := hM; clear hM; obtain ⟨f7, d7, hf7, hd7, hM⟩ := iter_opn hM0; clear hM0
  refine ct_loopW (fun n S => ∃ p : Int × S_api_Bases × List Int, S = (⟨[(2, .ptr 0 0), (4, .own 1), (15, .sl none 1 false (x4.map V.str)), (16, .int .i64 (x4.length : Int)), (17, .int .i64 p.1)], [(0, .var 6 true ((e_api_Bases p.2.1))), (1, .own 3 1 false none (p.2.2.map (V.int .i64)))], 2⟩ : St) ∧ ((0 ≤ p.1) ∧ (p.1 ≤ (x4.length : Int)) ∧ (((p.2.2).length : Int) ≤ p.1)) ∧ ((x4.length : Int) - p.1).toNat < n ∧ iter n f7 d7 p = r) (((x4.length : Int) - 0).toNat + 1) _ _ (weak_nil 4 3 rfl (by decide)) sbQ (by simp only [go_sem, rowV_eq, rowV_eq0, List.length_replicate, rep_len, Int.toNat_natCast, ↓reduceIte, Nat.reduceEqDiff, Nat.reduceAdd, Int.reduceAdd, Nat.reduceMul, Nat.reduceLeDiff, Nat.reduceLT, Int.reduceLE, Int.reduceLT, Int.reduceNeg, Int.reduceToNat, map_st, mtL_repE, mtL_repM, subF, subH, mtO, mtB, mt, mtL, mtL_self, mt_self, ltV, ltL, ltB, eq_self, or_true, true_or, or_self, and_self, gt_cons0, gt_conss, Int.reduceSub]) ⟨(0, z_api_Bases, ([] : List Int)), rfl, ⟨omQ, omQ, omQ⟩, (Nat.lt_succ_self _), hM⟩ ?_
  clear hM
  rintro n7 S ⟨p7, rfl, hfa7, hm7, hM⟩
  have hM0 := hM; clear hM; obtain ⟨ag7, hag7, hM⟩ := iter_step hM0 (by omega) hf7; clear hM0
  replace hfa7 := nzQ hfa7
  replace hm7 := nzQ hm7
  have ha7 : addI .i64 p7.1 1 = p7.1 + 1 := add_one omQ omQ
  refine spQA ha7 ?_
  have hF := (And.intro h1 ha7)
  exact auQ
set_option maxHeartbeats 2000000 in
set_option maxRecDepth 100000 in
instance specielaw11_awake_ok     : CM En (specielaw11_awake) 14 [] (fun y => .bool y) (fun _ => []) := by
 refine cmQ fun r hM => ?_
 rw [specielaw11_awake.eq_1] at hM
 refine enterV En_ok En_mo noJ Tryd.func14 rfl Tryd.ntmps14 (by kernel_rfl) fun hw => ct_start ?_
 refine spQ ?_
 replace hw := nzQ hw
 have hF := trueQ
 exact auQ
set_option maxHeartbeats 2000000 in
set_option maxRecDepth 100000 in
instance specielaw11_BaseBack_ok   (b : S_api_Bases) (s : (List UInt8))  : CM En (specielaw11_BaseBack b s) 4 [(e_api_Bases b), .str s] (fun y => .bool y) (fun _ => []) := by
 refine cmQ fun r hM => ?_
 rw [specielaw11_BaseBack.eq_1] at hM
 refine enterV En_ok En_mo [10] Tryd.func4 rfl Tryd.ntmps4 (by kernel_rfl) fun hw => ct_start ?_
 refine spQ ?_
 replace hw := nzQ hw
 have hM0 := hM; clear hM; obtain ⟨x1, hx2, hM⟩ := letk_opn hM0; clear hM0
 have hcx1 := cmU hx2
 refine callC_give hcx1 clQ clQ (fun hw3 => ?_)
 replace hw3 := nzQ hw3
 refine spQ ?_
 refine guardC_f (fun h4 => ?_) (fun h4 => ?_)
 ·rw [if_neg (ne_true h4)] at hM
  refine spQA h4 ?_
  have nh4 := nzQ h4
  try have hr5 := mpQ nh4
  refine condC_intro (fun h6 => ?_) (fun h6 => ?_)
  ·rw [if_pos h6] at hM
   refine spQA h6 ?_
   have nh6 := nzQ h6
   try have hr7 := mpQ nh6
   have hF := (And.intro h4 h6)
   exact auQ
  ·rw [if_neg (ne_true h6)] at hM
   refine spQA h6 ?_
   have nh6 := nzQ h6
   try have hr11 := mpQ nh6
   have hM0 := hM; clear hM; obtain ⟨j12, hj12, hM⟩ := letj_opn hM0; clear hM0
   refine seqC_intro (fun S => ∃ p : Unit, S = (⟨[(1, .str s)], [], 2⟩ : St) ∧ (True) ∧ j12 p = r) ?_ (fun hcut12 => ?_)
   ·clear hM
    rintro S ⟨p12, rfl, hfa12, hM⟩
    have hM0 := hM; clear hM; have hM := letj_use hM0 hj12; clear hM0
    refine spQ ?_
    have hF := (And.intro h4 h6)
    exact auQ
   ·refine spQ ?_
    have hM0 := hM; clear hM; obtain ⟨x31, hx32, hM⟩ := letk_opn hM0; clear hM0
    have hcx31 := cmU hx32
    refine callC_give hcx31 clQ clQ (fun hw33 => ?_)
    replace hw33 := nzQ hw33
    refine spQ ?_
    refine condC_intro (fun h34 => ?_) (fun h34 => ?_)
    ·rw [if_pos h34] at hM
     refine spQA h34 ?_
     have nh34 := nzQ h34
     try have hr35 := mpQ nh34
     have hM0 := hM; clear hM; obtain ⟨x36, hx37, hM⟩ := letk_opn hM0; clear hM0
     have hcx36 := cmU hx37
     refine callC_give hcx36 clQ clQ (fun hw38 => ?_)
     replace hw38 := nzQ hw38
     refine spQ ?_
     refine guardC_f (fun h39 => ?_) (fun h39 => ?_)
     ·rw [if_neg (ne_true h39)] at hM
      refine spQA h39 ?_
      have nh39 := nzQ h39
      try have hr40 := mpQ nh39
      refine guardC_f (fun h41 => ?_) (fun h41 => ?_)
      ·have kh41 : (!(q_api_Bases (x36.1) b)) = false := h41
       rw [if_neg (ne_true kh41)] at hM
       refine spQA h41 ?_
       have nh41 := nzQ kh41
       try have hr42 := mpQ nh41
       have hM0 := hM; clear hM; obtain ⟨x43, hx44, hM⟩ := letk_opn hM0; clear hM0
       have hcx43 := cmU hx44
       refine callC_give hcx43 clQ clQ (fun hw45 => ?_)
       replace hw45 := nzQ hw45
       refine spQ ?_
       refine condC_intro (fun h46 => ?_) (fun h46 => ?_)
       ·rw [if_pos h46] at hM
        refine spQA h46 ?_
        have nh46 := nzQ h46
        try have hr47 := mpQ nh46
        subst hM
        exact retC_view (lfQA (And.intro h4 (And.intro h6 (And.intro h34 (And.intro h39 (And.intro h41 h46))))))
       ·rw [if_neg (ne_true h46)] at hM
        refine spQA h46 ?_
        have nh46 := nzQ h46
        try have hr48 := mpQ nh46
        exact cut_intro _ sbQ sbQ (hcut12 _ ⟨(), rfl, trivial, hM⟩)
      ·have kh41 : (!(q_api_Bases (x36.1) b)) = true := h41
       rw [if_pos kh41] at hM
       refine spQA h41 ?_
       have nh41 := nzQ kh41
       try have hr49 := mpQ nh41
       subst hM
       exact retC_view (lfQA (And.intro h4 (And.intro h6 (And.intro h34 (And.intro h39 h41)))))
     ·rw [if_pos h39] at hM
      refine spQA h39 ?_
      have nh39 := nzQ h39
      try have hr50 := mpQ nh39
      subst hM
      exact retC_view (lfQA (And.intro h4 (And.intro h6 (And.intro h34 h39))))
    ·rw [if_neg (ne_true h34)] at hM
     refine spQA h34 ?_
     have nh34 := nzQ h34
     try have hr51 := mpQ nh34
     have hM0 := hM; clear hM; obtain ⟨x52, hx53, hM⟩ := letk_opn hM0; clear hM0
     have hcx52 := cmU hx53
     refine callC_give hcx52 clQ clQ (fun hw54 => ?_)
     replace hw54 := nzQ hw54
     refine spQ ?_
     refine condC_intro (fun h55 => ?_) (fun h55 => ?_)
     ·subst h55
      rw [if_pos rfl] at hM
      refine spQ ?_
      subst hM
      exact retC_view (lfQA (And.intro h4 (And.intro h6 h34)))
     ·subst h55
      rw [if_neg (by decide)] at hM
      refine spQ ?_
      exact cut_intro _ sbQ sbQ (hcut12 _ ⟨(), rfl, trivial, hM⟩)
 ·rw [if_pos h4] at hM
  refine spQA h4 ?_
  have nh4 := nzQ h4
  try have hr56 := mpQ nh4
  have hF := h4
  exact auQ
end Go.Proofs.YtbfeamknaiaghaaDoor
namespace Go.Proofs.YtbfeamknaiaghaaDoor
open Go.RowKit Go.Lib
theorem dig_ok {d : Nat} (h : d < 10) : (UInt8.ofNat (48 + d)).toNat = 48 + d := by
 rw [UInt8.toNat_ofNat']; omega
theorem pu_app : ∀ (l : List UInt8) (c : UInt8) (a u : Nat), parseUint10 a l = .ok u → u < 230584300921369396 → 48 ≤ c.toNat → c.toNat ≤ 57 → parseUint10 a (l ++ [c]) = .ok (u * 10 + (c.toNat - 48))
 | [], c, a, u, h, hu, h0, h1 => by
  simp only [parseUint10] at h
  injection h with h
  subst h
  rw [List.nil_append]
  simp only [parseUint10]
  rw [if_pos (by omega), if_neg (by omega), if_neg (by omega)]
 | x :: l, c, a, u, h, hu, h0, h1 => by
  rw [List.cons_append]
  simp only [parseUint10] at h ⊢
  split at h
  ·rename_i hx
   rw [if_pos hx]
   split at h
   ·cases h
   ·rename_i hy
    rw [if_neg hy]
    split at h
    ·cases h
    ·rename_i hz
     rw [if_neg hz]
     exact pu_app l c _ u h hu h0 h1
  ·cases h
theorem pu_dec : ∀ (u : Nat), u < 2305843009213693952 → parseUint10 0 (decDigits u) = .ok u := by
 intro u
 induction u using Nat.strongRecOn with
 | _ u ih =>
  intro hu
  by_cases h : u < 10
  ·rw [decDigits_one h]
   simp only [parseUint10, dig_ok h]
   rw [if_pos (by omega), if_neg (by omega), if_neg (by omega)]
   congr 1
   omega
  ·have hd : u % 10 < 10 := by omega
   rw [decDigits, dif_neg h]
   have := pu_app (decDigits (u / 10)) (UInt8.ofNat (48 + u % 10)) 0 (u / 10) (ih (u / 10) (by omega) (by omega)) (by omega) (by rw [dig_ok hd]; omega) (by rw [dig_ok hd]; omega)
   rw [this, dig_ok hd]
   congr 1
   omega
theorem dec_digits : ∀ (u : Nat), ∀ c ∈ decDigits u, 48 ≤ c.toNat ∧ c.toNat ≤ 57 := by
 intro u
 induction u using Nat.strongRecOn with
 | _ u ih =>
  intro c hc
  by_cases h : u < 10
  ·rw [decDigits_one h] at hc
   simp only [List.mem_cons, List.not_mem_nil, or_false] at hc
   rw [hc, dig_ok h]; omega
  ·rw [decDigits, dif_neg h] at hc
   rcases List.mem_append.1 hc with h1 | h1
   ·exact ih (u / 10) (by omega) c h1
   ·simp only [List.mem_cons, List.not_mem_nil, or_false] at h1
    rw [h1, dig_ok (by omega)]; omega
theorem dec_ne (u : Nat) : decDigits u ≠ [] := by
 intro h
 have h1 := decDigits_length u
 rw [h, List.length_nil] at h1
 by_cases hu : u < 10
 ·rw [nDigits_small hu] at h1; omega
 ·rw [nDigits_big hu] at h1; omega
theorem atoi_itoa {n : Int} (h0 : 0 ≤ n) (h1 : n < 2305843009213693952) : strconv_Atoi (strconv_Itoa n) = (n, true) := by
 obtain ⟨u, rfl⟩ := Int.eq_ofNat_of_zero_le h0
 unfold strconv_Atoi strconv_Itoa
 rw [itoa_nonneg]
 have hp := pu_dec u (by omega)
 have hd := dec_digits u
 have hn := dec_ne u
 have e : atoiAll (decDigits u) = .ok (u : Int) := by
  cases hl : decDigits u with
  | nil => exact absurd hl hn
  | cons c r =>
   rw [hl] at hp hd
   have hc := hd c (by simp)
   unfold atoiAll
   simp only
   rw [if_neg (show ¬ (c.toNat = 43 ∨ c.toNat = 45) by omega)]
   unfold parseMag
   rw [if_neg (by simp), hp]
   simp only
   rw [if_neg (by omega), if_neg (by omega), if_neg (by omega)]
 rw [e]
theorem itoa_no32 {n : Int} (h0 : 0 ≤ n) : (32 : UInt8) ∉ strconv_Itoa n := by
 obtain ⟨u, rfl⟩ := Int.eq_ofNat_of_zero_le h0
 unfold strconv_Itoa
 rw [itoa_nonneg]
 intro h
 have := dec_digits u _ h
 have e : (32 : UInt8).toNat = 32 := rfl
 omega
def cutAll (c : UInt8) : List UInt8 → List (List UInt8)
 | [] => [[]]
 | b :: s => if b = c then [] :: cutAll c s else match cutAll c s with
  | [] => [[b]]
  | p :: ps => (b :: p) :: ps
theorem cutAll_ne (c : UInt8) : ∀ s : List UInt8, cutAll c s ≠ []
 | [] => by simp [cutAll]
 | b :: s => by
  unfold cutAll
  split
  ·simp
  ·split <;> simp
theorem join_cutAll (c : UInt8) : ∀ s : List UInt8, Lib.join (cutAll c s) [c] = s
 | [] => by simp [cutAll, join_one]
 | b :: s => by
  have ih := join_cutAll c s
  unfold cutAll
  split
  ·rename_i h
   subst h
   cases hc : cutAll b s with
   | nil => exact absurd hc (cutAll_ne b s)
   | cons p ps =>
    rw [hc] at ih
    rw [join_cons] at ih
    rw [join_cons, List.nil_append]
    simp only [joinTail, List.map_cons, List.flatten_cons, List.cons_append, List.nil_append] at ih ⊢
    rw [ih]
  ·split
   ·rename_i hc; exact absurd hc (cutAll_ne c s)
   ·rename_i p ps hc
    rw [hc, join_cons] at ih
    rw [join_cons, List.cons_append, ih]
theorem cutAll_app (c : UInt8) : ∀ (p s : List UInt8), c ∉ p → cutAll c (p ++ c :: s) = p :: cutAll c s
 | [], s, _ => by rw [List.nil_append, cutAll, if_pos rfl]
 | b :: p, s, h => by
  have hb : b ≠ c := fun e => h (by rw [e]; simp)
  rw [List.cons_append, cutAll, if_neg hb, cutAll_app c p s (fun e => h (List.mem_cons_of_mem _ e))]
theorem cutAll_one (c : UInt8) : ∀ (p : List UInt8), c ∉ p → cutAll c p = [p]
 | [], _ => rfl
 | b :: p, h => by
  have hb : b ≠ c := fun e => h (by rw [e]; simp)
  rw [cutAll, if_neg hb, cutAll_one c p (fun e => h (List.mem_cons_of_mem _ e))]
theorem cutAll_join (c : UInt8) : ∀ (p : List UInt8) (ps : List (List UInt8)), (∀ x ∈ p :: ps, c ∉ x) → cutAll c (Lib.join (p :: ps) [c]) = p :: ps
 | p, [], h => by rw [join_one, cutAll_one c p (h p (by simp))]
 | p, q :: ps, h => by
  have ih := cutAll_join c q ps (fun x hx => h x (List.mem_cons_of_mem _ hx))
  have e : Lib.join (p :: q :: ps) [c] = p ++ c :: Lib.join (q :: ps) [c] := by
   rw [join_cons, join_cons]
   simp [joinTail]
  rw [e, cutAll_app c p _ (h p (by simp)), ih]
theorem index_one (c : UInt8) : ∀ s : List UInt8, index s [c] = -1 ∧ c ∉ s ∨ ∃ p r, s = p ++ c :: r ∧ c ∉ p ∧ index s [c] = (p.length : Nat)
 | [] => .inl ⟨by simp [index], by simp⟩
 | b :: s => by
  by_cases h : b = c
  ·subst h
   exact .inr ⟨[], s, rfl, by simp, by rw [index]; simp [List.isPrefixOf]⟩
  ·have hp : ([c] : List UInt8).isPrefixOf (b :: s) = false := by simp [List.isPrefixOf, Ne.symm h]
   have hix : index (b :: s) [c] = if index s [c] == -1 then -1 else index s [c] + 1 := by rw [index, hp]; simp
   rcases index_one c s with ⟨h1, h2⟩ | ⟨p, r, h1, h2, h3⟩
   ·exact .inl ⟨by rw [hix, h1]; rfl, by simp [Ne.symm h, h2]⟩
   ·exact .inr ⟨b :: p, r, by rw [h1]; rfl, by simp [Ne.symm h, h2], by rw [hix, h3, if_neg (by simp), List.length_cons]; push_cast; rfl⟩
theorem splitK_one (c : UInt8) : ∀ (k : Nat) (s : List UInt8), s.count c ≤ k → splitK [c] 0 k s = cutAll c s
 | 0, s, h => by
  have : c ∉ s := by
   intro hm
   have := List.count_pos_iff.2 hm
   omega
  rw [cutAll_one c s this]; rfl
 | k + 1, s, h => by
  unfold splitK
  rcases index_one c s with ⟨h1, h2⟩ | ⟨p, r, h1, h2, h3⟩
  ·rw [if_pos (by rw [h1]; rfl), cutAll_one c s h2]
  ·rw [if_neg (by rw [h3]; simp), h3]
   have e1 : ((p.length : Nat) : Int).toNat = p.length := Int.toNat_natCast _
   rw [e1, h1, cutAll_app c p r h2, List.length_singleton, Nat.add_zero, List.take_left]
   have e2 : (p ++ c :: r).drop (p.length + 1) = r := by
    rw [List.drop_append]
    simp
   rw [e2, splitK_one c k r]
   rw [h1, List.count_append, List.count_cons_self] at h
   omega
theorem split_one (c : UInt8) (s : List UInt8) : strings_Split s [c] = cutAll c s := by
 unfold strings_Split
 refine splitK_one c _ s ?_
 have h := count_one c s
 have e : countB ⟨s.toArray⟩ ⟨[c].toArray⟩ = count s [c] := rfl
 rw [e, h]
 exact Nat.le_refl _
end Go.Proofs.YtbfeamknaiaghaaDoor
namespace Go.Proofs.YtbfeamknaiaghaaDoor
open Go.RowKit Go.Lib
theorem letk_go {α β : Type} {a : α} {f : α → β} {r : β} (h : ∀ x, x = a → f x = r) : letk a f = r := h a rfl
theorem rem_nn {a b : Int} (h : 0 ≤ a) : remI .i64 a b = a % b := Int.tmod_eq_emod_of_nonneg h
theorem q_le {p q : Int} (hp : 2 ≤ p) (hp1 : p < 2305843009213693952) (hq : 3 ≤ q) (h : remI .i64 (subI .i64 p 1) q = 0) : q < p := by
 have e : subI .i64 p 1 = p - 1 := by unfold subI; rw [IntKind.wrap_i64]; omega
 rw [e, rem_nn (by omega)] at h
 have h1 : q ≤ p - 1 := Int.le_of_dvd (by omega) (Int.dvd_of_emod_eq_zero h)
 omega
theorem iteF {c : Prop} [Decidable c] {a : Bool} : ((if c then false else a) = true) ↔ (¬ c ∧ a = true) := by
 by_cases h : c <;> simp [h]
theorem iteA {c : Prop} [Decidable c] {a : Bool} : ((if c then a else false) = true) ↔ (c ∧ a = true) := by
 by_cases h : c <;> simp [h]
theorem lk {α β : Type} {a : α} {f : α → β} : letk a f = f a := rfl
theorem is_ge {n : Int} (h : prime_Is n = true) : 2 ≤ n := by
 unfold prime_Is at h
 rw [iteF] at h
 have := h.1
 simp only [decide_eq_true_eq] at this
 omega
theorem group_ok {g : S_api_Group} (h : group_Valid g = true) : 2 ≤ g.P ∧ g.P < 2305843009213693952 ∧ 3 ≤ g.Q ∧ g.Q < g.P ∧ 2 ≤ g.G ∧ g.G < g.P := by
 unfold group_Valid at h
 simp only [lk, iteF, iteA, decide_eq_true_eq, beq_iff_eq, bne_iff_ne, ne_eq, Bool.not_eq_true', Bool.not_eq_false, Decidable.not_not] at h
 obtain ⟨h1, h2, h3, h4, h5, h6, h7, h8, h9, h10⟩ := h
 have hp := is_ge h4
 have hq := q_le hp (by omega) (show 3 ≤ g.Q by omega) h6
 omega
theorem contains_ok {g : S_api_Group} {x : Int} (h : group_Contains g x = true) : 1 ≤ x ∧ x < g.P := by
 unfold group_Contains group_element at h
 simp only [lk, iteF, iteA, decide_eq_true_eq] at h
 obtain ⟨_, h1, h2, _⟩ := h
 omega
def okB (b : S_api_Bases) : Prop := ∀ x ∈ base_numbers b, 0 ≤ x ∧ x < 2305843009213693952
theorem base_ok {b : S_api_Bases} (h : base_Valid b = true) : okB b := by
 unfold base_Valid at h
 rw [show ((3 : Int) - 0).toNat + 1 = 4 from rfl] at h
 simp only [lk, iter, iteF, iteA, decide_eq_true_eq, beq_iff_eq, bne_iff_ne, ne_eq, Bool.not_eq_true', Bool.not_eq_false, Int.reduceLT, Int.reduceAdd, gt, Int.reduceToNat, List.getD_cons_zero, List.getD_cons_succ, if_true, Bool.not_true, Bool.false_eq_true, not_false_eq_true, true_and, and_true, if_false, Decidable.not_not] at h
 obtain ⟨h0, _, h1, _, h2, _, h3⟩ := h
 have g0 := group_ok h0
 have g1 := contains_ok h1
 have g2 := contains_ok h2
 have g3 := contains_ok h3
 intro x hx
 simp only [base_numbers, List.mem_cons, List.not_mem_nil, or_false] at hx
 rcases hx with rfl | rfl | rfl | rfl | rfl | rfl <;> omega
theorem take_gt {α : Type} [Inhabited α] {l : List α} {k : Nat} (h : k < l.length) : l.take (k + 1) = l.take k ++ [gt l (k : Int)] := by
 rw [List.take_add_one, gt_nat, List.getD_eq_getElem?_getD, List.getElem?_eq_getElem h]; rfl
def txt (b : S_api_Bases) : List UInt8 := Lib.join ((base_numbers b).map strconv_Itoa) [32]
theorem text_eq {b : S_api_Bases} (h : base_Valid b = true) : base_Text b = (txt b, 0) := by
 unfold base_Text
 refine letk_go fun x1 h1 => ?_
 rw [if_neg (by rw [h1, h]; decide)]
 refine letk_go fun x7 h7 => ?_
 refine iter_rule (P := fun p : Int × List (List UInt8) => ∃ k : Nat, p.1 = k ∧ k ≤ x7.length ∧ p.2 = (x7.take k).map strconv_Itoa) (Q := fun r => r = (txt b, 0)) (meas := fun p => ((x7.length : Int) - p.1).toNat) ?_ _ _ ⟨0, rfl, Nat.zero_le _, rfl⟩ (by show ((x7.length : Int) - 0).toNat < _; omega)
 rintro ag ⟨i, l⟩ ⟨k, e1, e2, e3⟩ ih
 simp only at e1 e3 ih
 subst e1
 by_cases hi : (k : Int) < (x7.length : Int)
 ·rw [if_pos (show decide ((k : Int) < (x7.length : Int)) = true by simpa using hi)]
  refine letk_go fun x15 h15 => ?_
  refine ih _ ⟨k + 1, by push_cast; rfl, by omega, ?_⟩ (by show ((x7.length : Int) - (k + 1)).toNat < ((x7.length : Int) - k).toNat; omega)
  show l ++ [x15] = _
  rw [take_gt (by omega), List.map_append, e3, h15]; rfl
 ·rw [if_neg (show ¬ decide ((k : Int) < (x7.length : Int)) = true by simpa using hi)]
  have e4 : k = x7.length := by omega
  rw [e4, List.take_length] at e3
  refine letk_go fun x19 h19 => ?_
  rw [h19, e3, h7]; rfl
theorem text_bad {b : S_api_Bases} (h : base_Valid b = false) : base_Text b = ([], 1) := by
 unfold base_Text
 refine letk_go fun x1 h1 => ?_
 rw [if_pos (by rw [h1, h]; decide)]
def okp (p : List UInt8) : Bool := (strconv_Atoi p).2 && decide (0 ≤ (strconv_Atoi p).1) && decide ((strconv_Atoi p).1 < 2305843009213693952) && (strconv_Itoa (strconv_Atoi p).1 == p)
def mkB (l : List Int) : S_api_Bases := ⟨⟨gt l 0, gt l 1, gt l 2⟩, gt l 3, gt l 4, gt l 5⟩
def fin (l : List Int) : S_api_Bases × Int := if ((l.length : Int) != 6) = true then (z_api_Bases, 3) else if (!(base_Valid (mkB l))) = true then (z_api_Bases, 1) else (mkB l, 0)
def readAll (ps : List (List UInt8)) : S_api_Bases × Int := if ps.all okp = true then fin (ps.map fun p => (strconv_Atoi p).1) else (z_api_Bases, 3)
theorem parse_eq (s : List UInt8) : base_Parse s = if s.length > 200 then (z_api_Bases, 5) else readAll (cutAll 32 s) := by
 unfold base_Parse
 by_cases hs : s.length > 200
 ·rw [if_pos (show decide ((s.length : Int) > 200) = true by simp only [decide_eq_true_eq]; omega), if_pos hs]
 rw [if_neg (show ¬ decide ((s.length : Int) > 200) = true by simp only [decide_eq_true_eq]; omega), if_neg hs]
 refine letk_go fun x4 h4 => ?_
 rw [split_one] at h4
 rw [← h4]
 generalize hT : readAll x4 = T
 refine iter_rule (P := fun p : Int × S_api_Bases × List Int => ∃ k : Nat, p.1 = k ∧ k ≤ x4.length ∧ (x4.take k).all okp = true ∧ p.2.2 = (x4.take k).map fun p => (strconv_Atoi p).1) (Q := fun r => r = T) (meas := fun p => ((x4.length : Int) - p.1).toNat) ?_ _ _ ⟨0, rfl, Nat.zero_le _, rfl, rfl⟩ (by show ((x4.length : Int) - 0).toNat < _; omega)
 rintro ag ⟨i, c, l⟩ ⟨k, e1, e2, e3, e5⟩ ih
 simp only at e1 e5 ih
 subst e1
 by_cases hi : (k : Int) < (x4.length : Int)
 ·rw [if_pos (show decide ((k : Int) < (x4.length : Int)) = true by simpa using hi)]
  have hm := gt_mem (l := x4) (i := (k : Int)) (by omega)
  have bad : okp (gt x4 (k : Int)) = false → (z_api_Bases, (3 : Int)) = T := fun hb => by
   rw [← hT]
   unfold readAll
   rw [if_neg]
   intro ha
   rw [List.all_eq_true] at ha
   rw [ha _ hm] at hb; cases hb
  refine letk_go fun x11 h11 => ?_
  by_cases c1 : x11.2 = true
  ·rw [if_neg (show ¬ (!x11.2) = true by rw [c1]; decide)]
   by_cases c2 : x11.1 < 0
   ·rw [if_pos (show decide (x11.1 < 0) = true by simpa using c2)]
    exact bad (by unfold okp; rw [← h11]; simp [show ¬ 0 ≤ x11.1 by omega])
   rw [if_neg (show ¬ decide (x11.1 < 0) = true by simpa using c2)]
   by_cases c3 : x11.1 ≥ 2305843009213693952
   ·rw [if_pos (show decide (x11.1 ≥ 2305843009213693952) = true by simpa using c3)]
    exact bad (by unfold okp; rw [← h11]; simp [show ¬ x11.1 < 2305843009213693952 by omega])
   rw [if_neg (show ¬ decide (x11.1 ≥ 2305843009213693952) = true by simpa using c3)]
   refine letk_go fun x20 h20 => ?_
   by_cases c4 : (x20 == gt x4 (k : Int)) = true
   ·rw [if_neg (show ¬ (!(x20 == gt x4 (k : Int))) = true by rw [c4]; decide)]
    have hok : okp (gt x4 (k : Int)) = true := by
     unfold okp
     rw [← h11, ← h20, c1, c4]
     simp [show 0 ≤ x11.1 by omega, show x11.1 < 2305843009213693952 by omega]
    refine ih _ ⟨k + 1, by push_cast; rfl, by omega, ?_, ?_⟩ (by show ((x4.length : Int) - (k + 1)).toNat < ((x4.length : Int) - k).toNat; omega)
    ·rw [take_gt (by omega), List.all_append, e3]
     simp [hok]
    ·show l ++ [x11.1] = _
     rw [take_gt (by omega), List.map_append, e5, h11]; rfl
   ·rw [if_pos (show (!(x20 == gt x4 (k : Int))) = true by simpa using c4)]
    exact bad (by unfold okp; rw [← h11, ← h20]; simp [show (x20 == gt x4 (k : Int)) = false by simpa using c4])
  ·rw [if_pos (show (!x11.2) = true by simpa using c1)]
   exact bad (by unfold okp; rw [← h11]; simp [show x11.2 = false by simpa using c1])
 ·rw [if_neg (show ¬ decide ((k : Int) < (x4.length : Int)) = true by simpa using hi)]
  have e4 : k = x4.length := by omega
  rw [e4, List.take_length] at e3 e5
  have hT2 : T = fin l := by rw [← hT, e5]; unfold readAll; rw [if_pos e3]
  rw [hT2]
  unfold fin
  split
  ·rfl
  ·refine letk_go fun x39 h39 => ?_
   rw [h39]
   rfl
theorem q_refl (b : S_api_Bases) : q_api_Bases b b = true := by
 unfold q_api_Bases
 simp
theorem back {b : S_api_Bases} (h : base_Valid b = true) : base_Parse (txt b) = (b, 0) := by
 have ho := base_ok h
 have hl : (txt b).length ≤ 200 := by
  unfold txt
  refine Nat.le_trans (join_le _ _) ?_
  have h1 : textLen ((base_numbers b).map strconv_Itoa) ≤ 6 * 21 := by
   have hx : ∀ x ∈ base_numbers b, (strconv_Itoa x).length ≤ 21 := fun x hx => Lib.itoa_length_le x (by have := ho x hx; omega) (by have := ho x hx; omega)
   simp only [textLen, base_numbers, List.map_cons, List.map_nil, List.sum_cons, List.sum_nil, List.mem_cons, List.not_mem_nil, or_false, forall_eq_or_imp, forall_eq] at hx ⊢
   omega
  have h2 : ((base_numbers b).map strconv_Itoa).length = 6 := by rw [List.length_map]; rfl
  rw [h2]
  simp only [List.length_cons, List.length_nil]
  omega
 rw [parse_eq, if_neg (by omega)]
 have hc : cutAll 32 (txt b) = (base_numbers b).map strconv_Itoa := by
  unfold txt
  refine cutAll_join 32 (strconv_Itoa b.Group.P) _ (fun x hx => ?_)
  have hx' : x ∈ (base_numbers b).map strconv_Itoa := hx
  obtain ⟨n, hn, rfl⟩ := List.mem_map.1 hx'
  exact itoa_no32 (ho n hn).1
 rw [hc]
 unfold readAll
 have hat : ∀ n ∈ base_numbers b, strconv_Atoi (strconv_Itoa n) = (n, true) := fun n hn => atoi_itoa (ho n hn).1 (ho n hn).2
 rw [if_pos]
 ·have hm : ((base_numbers b).map strconv_Itoa).map (fun p => (strconv_Atoi p).1) = base_numbers b := by
   rw [List.map_map]
   conv => rhs; rw [← List.map_id (base_numbers b)]
   exact List.map_congr_left fun n hn => by show (strconv_Atoi (strconv_Itoa n)).1 = n; rw [hat n hn]
  rw [hm]
  unfold fin
  have hk : mkB (base_numbers b) = b := rfl
  rw [if_neg (by show ¬ (((6 : Nat) : Int) != 6) = true; decide), hk, if_neg (by rw [h]; decide)]
 ·rw [List.all_eq_true]
  intro x hx
  obtain ⟨n, hn, rfl⟩ := List.mem_map.1 hx
  unfold okp
  rw [hat n hn]
  simp [(ho n hn).1, (ho n hn).2]
theorem gt6 {l : List Int} (h : l.length = 6) : base_numbers (mkB l) = l := by
 match l, h with
 | [a, b, c, d, e, f], _ => rfl
theorem parse_cases (s : List UInt8) : (base_Parse s).2 ≠ 0 ∧ (base_Parse s).1 = z_api_Bases ∨ (base_Parse s).2 = 0 ∧ base_Valid (base_Parse s).1 = true ∧ txt (base_Parse s).1 = s := by
 rw [parse_eq]
 split
 ·exact .inl ⟨by decide, rfl⟩
 unfold readAll
 split
 ·rename_i ha
  unfold fin
  split
  ·exact .inl ⟨by decide, rfl⟩
  rename_i h6
  split
  ·exact .inl ⟨by decide, rfl⟩
  rename_i hv
  refine .inr ⟨rfl, by simpa using hv, ?_⟩
  have hl : ((cutAll 32 s).map fun p => (strconv_Atoi p).1).length = 6 := by
   have : ¬ ((((cutAll 32 s).map fun p => (strconv_Atoi p).1).length : Int) ≠ 6) := by simpa using h6
   omega
  show txt (mkB _) = s
  unfold txt
  rw [gt6 hl, List.map_map]
  have e : (cutAll 32 s).map (strconv_Itoa ∘ fun p => (strconv_Atoi p).1) = cutAll 32 s := by
   conv => rhs; rw [← List.map_id (cutAll 32 s)]
   refine List.map_congr_left fun p hp => ?_
   have h := List.all_eq_true.1 ha p hp
   unfold okp at h
   simp only [Bool.and_eq_true, beq_iff_eq] at h
   exact h.2
  rw [e, join_cutAll]
 ·exact .inl ⟨by decide, rfl⟩
def exB : S_api_Bases := { Group := ({ P := 23, Q := 11, G := 4 } : S_api_Group), G1 := 2, G2 := 3, H := 9 }
def exS : List UInt8 := [50, 51, 32, 49, 49, 32, 52, 32, 50, 32, 51, 32, 57]
theorem ex_valid : base_Valid exB = true := by decide +kernel
theorem ex_txt : txt exB = exS := by
 have d2 : ∀ i : Nat, ¬ i < 10 → i < 100 → strconv_Itoa (i : Int) = [UInt8.ofNat (48 + i / 10), UInt8.ofNat (48 + i % 10)] := fun i h1 h2 => by
  unfold strconv_Itoa; rw [itoa_nonneg, decDigits_two h1 h2]
 have d1 : ∀ i : Nat, i < 10 → strconv_Itoa (i : Int) = [UInt8.ofNat (48 + i)] := fun i h => by
  unfold strconv_Itoa; rw [itoa_nonneg, decDigits_one h]
 unfold txt
 have e : (base_numbers exB).map strconv_Itoa = [[50, 51], [49, 49], [52], [50], [51], [57]] := by
  show [strconv_Itoa ((23 : Nat) : Int), strconv_Itoa ((11 : Nat) : Int), strconv_Itoa ((4 : Nat) : Int), strconv_Itoa ((2 : Nat) : Int), strconv_Itoa ((3 : Nat) : Int), strconv_Itoa ((9 : Nat) : Int)] = _
  rw [d2 23 (by decide) (by decide), d2 11 (by decide) (by decide), d1 4 (by decide), d1 2 (by decide), d1 3 (by decide), d1 9 (by decide)]
  rfl
 rw [e]
 rfl
theorem base_awake : specielaw11_awake = true := by
 unfold specielaw11_awake
 refine letk_go fun x1 h1 => ?_
 refine letk_go fun x4 h4 => ?_
 have e1 : x1 = (exS, 0) := by rw [h1, ← ex_txt]; exact text_eq ex_valid
 have e4 : x4 = (exB, 0) := by rw [h4, ← back ex_valid, ex_txt]; rfl
 rw [e1, e4]
 rw [if_pos (by show (exS == exS) = true; decide), if_pos (by show ((0 : Int) == 0) = true; decide), if_pos (by show q_api_Bases exB exB = true; exact q_refl _), if_pos (by show ((0 : Int) == 0) = true; decide)]
 refine letk_go fun x15 h15 => ?_
 rw [h15]
 decide +kernel
theorem specielaw11_BaseBack_true (b : S_api_Bases) (s : List UInt8) : specielaw11_BaseBack b s = true := by
 unfold specielaw11_BaseBack
 refine letk_go fun x1 h1 => ?_
 rw [base_awake] at h1
 rw [if_neg (by rw [h1]; decide)]
 split
 ·refine letk_go fun x8 h8 => ?_
  rw [h8, base_awake]
 refine letj_gen fun j hj => ?_
 have hj1 : j () = true := by
  rw [hj]
  refine letk_go fun x13 h13 => ?_
  rcases parse_cases s with ⟨c1, c2⟩ | ⟨c1, c2, c3⟩
  ·rw [if_pos (by rw [h13]; simpa using c1), h13, c2]
   exact q_refl _
  ·rw [if_neg (by rw [h13, c1]; decide)]
   refine letk_go fun x19 h19 => ?_
   rw [h13, text_eq c2, c3] at h19
   rw [if_pos (by rw [h19]; rfl), if_pos (by rw [h19]; exact beq_self_eq_true s)]
   refine letk_go fun x26 h26 => ?_
   rw [h26, h13, c2]
 refine letk_go fun x31 h31 => ?_
 cases hv : base_Valid b with
 | true =>
  rw [text_eq hv] at h31
  rw [if_pos (by rw [h31]; rfl)]
  refine letk_go fun x36 h36 => ?_
  rw [h31] at h36
  have e : x36 = (b, 0) := by rw [h36]; exact back hv
  rw [if_neg (by rw [e]; show ¬ ((0 : Int) != 0) = true; decide), if_neg (by rw [e, q_refl]; decide)]
  refine letk_go fun x43 h43 => ?_
  rw [if_neg (by rw [h43]; decide)]
  exact hj1
 | false =>
  rw [text_bad hv] at h31
  rw [if_neg (by rw [h31]; decide)]
  refine letk_go fun x52 h52 => ?_
  rw [if_neg (by rw [h52]; decide)]
  exact hj1
end Go.Proofs.YtbfeamknaiaghaaDoor
