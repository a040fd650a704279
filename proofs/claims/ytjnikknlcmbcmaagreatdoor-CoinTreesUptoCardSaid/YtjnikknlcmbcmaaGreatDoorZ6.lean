/- Texts of this proof, one after the other: SH, E1, M, H1, H2, HS, H3, H4, H5. -/
import Derived.Ground.NamesProg
import Derived.Shelf.Lays
import Derived.Shelf.SlGeneric
import Derived.Ground.SlgnProg
import Derived.Shelf.SlLaysN
import Derived.Shelf.Strconv.Itoa0
import Derived.Shelf.Sort.Plain
import Derived.Shelf.SlicesG.CompactI
import Derived.Test.YtjnikknlcmbcmaaGreatDoorProg
import Derived.Test.YtjnikknlcmbcmaaGreatDoorZ4
import Derived.Test.YtjnikknlcmbcmaaGreatDoorZ5
import Derived.Lib.BitFns
import Derived.KernelRfl
set_option linter.unusedVariables false
set_option linter.unusedSimpArgs false
namespace Go.Proofs
open Go.Shelf
def Tryz.lays129_ren : Go.Shelf.Ren := ⟨fun | 129 => 162 | n => n, fun | 53 => 188 | 3 => 3 | 4 => 4 | 46 => 143 | 5 => 5 | 9 => 9 | n => n, fun | n => n⟩
theorem Tryz.lays129 : Go.Proofs.Lays.n129 Tryz.prog Tryz.lays129_ren := {
 mixed := by kernel_rfl
 f129 := Tryz.func162.trans (congrArg some (by kernel_rfl))
 t3 := Tryz.underlying3
 a3 := Tryz.isAgg3
 z3 := Tryz.sizeOf3
 v3 := Tryz.zeroValue3
 t4 := Tryz.underlying4
 a4 := Tryz.isAgg4
 z4 := Tryz.sizeOf4
 v4 := Tryz.zeroValue4
 t5 := Tryz.underlying5
 a5 := Tryz.isAgg5
 z5 := Tryz.sizeOf5
 v5 := Tryz.zeroValue5
 t9 := Tryz.underlying9
 a9 := Tryz.isAgg9
 z9 := Tryz.sizeOf9
 v9 := Tryz.zeroValue9
 t46 := Tryz.underlying143
 a46 := Tryz.isAgg143
 z46 := Tryz.sizeOf143
 v46 := Tryz.zeroValue143
 t53 := Tryz.underlying188
 a53 := Tryz.isAgg188
 z53 := Tryz.sizeOf188
 v53 := Tryz.zeroValue188 }
def Tryz.lays189_ren : Go.Shelf.Ren := ⟨fun | 189 => 35 | 125 => 89 | 257 => 88 | 128 => 161 | 129 => 162 | 294 => 152 | 295 => 153 | 296 => 154 | 297 => 155 | 298 => 156 | 299 => 157 | 216 => 158 | 300 => 159 | 301 => 160 | 328 => 221 | 329 => 222 | 330 => 223 | 331 => 224 | 332 => 225 | 215 => 226 | 343 => 263 | n => n, fun | 28 => 29 | 3 => 3 | 46 => 143 | 0 => 0 | 51 => 113 | 53 => 188 | 4 => 4 | 183 => 194 | 182 => 193 | 131 => 199 | 5 => 5 | 9 => 9 | 218 => 256 | 222 => 260 | 228 => 299 | 229 => 157 | n => n, fun | n => n⟩
theorem Tryz.lays189 : Go.Proofs.Lays.n189 Tryz.prog Tryz.lays189_ren := {
 mixed := by kernel_rfl
 f125 := Tryz.func89.trans (congrArg some (by kernel_rfl))
 f128 := Tryz.func161.trans (congrArg some (by kernel_rfl))
 f129 := Tryz.func162.trans (congrArg some (by kernel_rfl))
 f189 := Tryz.func35.trans (congrArg some (by kernel_rfl))
 f215 := Tryz.func226.trans (congrArg some (by kernel_rfl))
 f216 := Tryz.func158.trans (congrArg some (by kernel_rfl))
 f257 := Tryz.func88.trans (congrArg some (by kernel_rfl))
 f294 := Tryz.func152.trans (congrArg some (by kernel_rfl))
 f295 := Tryz.func153.trans (congrArg some (by kernel_rfl))
 f296 := Tryz.func154.trans (congrArg some (by kernel_rfl))
 f297 := Tryz.func155.trans (congrArg some (by kernel_rfl))
 f298 := Tryz.func156.trans (congrArg some (by kernel_rfl))
 f299 := Tryz.func157.trans (congrArg some (by kernel_rfl))
 f300 := Tryz.func159.trans (congrArg some (by kernel_rfl))
 f301 := Tryz.func160.trans (congrArg some (by kernel_rfl))
 f328 := Tryz.func221.trans (congrArg some (by kernel_rfl))
 f329 := Tryz.func222.trans (congrArg some (by kernel_rfl))
 f330 := Tryz.func223.trans (congrArg some (by kernel_rfl))
 f331 := Tryz.func224.trans (congrArg some (by kernel_rfl))
 f332 := Tryz.func225.trans (congrArg some (by kernel_rfl))
 f343 := Tryz.func263.trans (congrArg some (by kernel_rfl))
 t0 := Tryz.underlying0
 a0 := Tryz.isAgg0
 z0 := Tryz.sizeOf0
 v0 := Tryz.zeroValue0
 t3 := Tryz.underlying3
 a3 := Tryz.isAgg3
 z3 := Tryz.sizeOf3
 v3 := Tryz.zeroValue3
 t4 := Tryz.underlying4
 a4 := Tryz.isAgg4
 z4 := Tryz.sizeOf4
 v4 := Tryz.zeroValue4
 t5 := Tryz.underlying5
 a5 := Tryz.isAgg5
 z5 := Tryz.sizeOf5
 v5 := Tryz.zeroValue5
 t9 := Tryz.underlying9
 a9 := Tryz.isAgg9
 z9 := Tryz.sizeOf9
 v9 := Tryz.zeroValue9
 t28 := Tryz.underlying29
 a28 := Tryz.isAgg29
 z28 := Tryz.sizeOf29
 v28 := Tryz.zeroValue29
 t46 := Tryz.underlying143
 a46 := Tryz.isAgg143
 z46 := Tryz.sizeOf143
 v46 := Tryz.zeroValue143
 t51 := Tryz.underlying113
 a51 := Tryz.isAgg113
 z51 := Tryz.sizeOf113
 v51 := Tryz.zeroValue113
 t53 := Tryz.underlying188
 a53 := Tryz.isAgg188
 z53 := Tryz.sizeOf188
 v53 := Tryz.zeroValue188
 t131 := Tryz.underlying199
 a131 := Tryz.isAgg199
 z131 := Tryz.sizeOf199
 v131 := Tryz.zeroValue199
 t182 := Tryz.underlying193
 a182 := Tryz.isAgg193
 z182 := Tryz.sizeOf193
 v182 := Tryz.zeroValue193
 t183 := Tryz.underlying194
 a183 := Tryz.isAgg194
 z183 := Tryz.sizeOf194
 v183 := Tryz.zeroValue194
 t218 := Tryz.underlying256
 a218 := Tryz.isAgg256
 z218 := Tryz.sizeOf256
 v218 := Tryz.zeroValue256
 t222 := Tryz.underlying260
 a222 := Tryz.isAgg260
 z222 := Tryz.sizeOf260
 v222 := Tryz.zeroValue260
 t228 := Tryz.underlying299
 a228 := Tryz.isAgg299
 z228 := Tryz.sizeOf299
 v228 := Tryz.zeroValue299
 t229 := Tryz.underlying157
 a229 := Tryz.isAgg157
 z229 := Tryz.sizeOf157
 v229 := Tryz.zeroValue157 }
def Tryz.laysG43_ren : Go.Shelf.Ren := ⟨fun | 43 => 36 | n => n, fun | 22 => 29 | 23 => 3 | 3 => 3 | 4 => 4 | 0 => 0 | n => n, fun | n => n⟩
theorem Tryz.laysG43 : Go.Proofs.SlLaysN.n43 Tryz.prog Tryz.laysG43_ren := {
 mixed := by kernel_rfl
 f43 := ⟨Tryz.f36.name, by decide, Tryz.func36.trans (congrArg some (by kernel_rfl))⟩
 t0 := Tryz.underlying0
 a0 := Tryz.isAgg0
 z0 := Tryz.sizeOf0
 v0 := Tryz.zeroValue0
 t3 := Tryz.underlying3
 a3 := Tryz.isAgg3
 z3 := Tryz.sizeOf3
 v3 := Tryz.zeroValue3
 t4 := Tryz.underlying4
 a4 := Tryz.isAgg4
 z4 := Tryz.sizeOf4
 v4 := Tryz.zeroValue4
 t22 := Tryz.underlying29
 a22 := Tryz.isAgg29
 z22 := Tryz.sizeOf29
 v22 := Tryz.zeroValue29
 t23 := Tryz.underlying3
 a23 := Tryz.isAgg3
 z23 := Tryz.sizeOf3
 v23 := Tryz.zeroValue3
 i23 := by kernel_rfl }
theorem Tryz.bits_Len64 (x : Int) (w : World) (h0 : 0 ≤ x) (h1 : x ≤ 18446744073709551615) :
  Calls Tryz.prog 162 #[.int .u64 x] w fun e w' => e = .returned (.int .i64 (Lib.bitLen x.toNat)) ∧ w' = w := Any.bits_Len64 Tryz.lays129 x w h0 h1
end Go.Proofs
namespace Go.Proofs.YtjnikknlcmbcmaaGreatDoor
open Go.RowKit Go.Shelf Go.Lib
def math_bits_Len64 (x : Int) : Int := (Lib.bitLen x.toNat : Int)
theorem ok_of {f : FuncId} {ws : List V} {r : V} (he : ∀ xs w, (callFunc f xs).run En.P w = .ok (.enter f xs) w)
  (h : ∀ (c : Cx) us, Gl En c → rdT ro0 c ws us → wfL ws → Calls En.P f us.toArray c.w fun e w' => ∃ v, e = .returned v ∧ Below c.w.heap.size c.w w' ∧ ∀ c', rd ro0 c' r v) : CallOk En f ws r [] :=
 ⟨he, fun c us _ hg hus => (h c us hg hus (rdT_wf hus)).mono fun e w' ⟨v, e1, hb, hr⟩ => ⟨v, c.at w' hb.size, ro0, e1, rfl, Cx.le_at hb, hr _, ⟨fun i b hb => by simp at hb, fun i _ => rfl, fun i j bi bj k _ hb => by simp at hb⟩⟩⟩
theorem Len64_call (x_ : Int) : CallOk En 162 [.int .u64 x_] (.int .i64 (math_bits_Len64 x_)) [] := by
 refine ok_of (show ∀ xs w, (callFunc 162 xs).run En.P w = .ok (.enter 162 xs) w from enters_of Tryz.func162 (by kernel_rfl) rfl) fun c us hg hus hw => ?_
 simp only [rdT, rd] at hus
 obtain ⟨u0, c2, rfl, ⟨rfl, l0⟩, rfl⟩ := hus
 have h0 : 0 ≤ x_ ∧ x_ ≤ 18446744073709551615 := l0
 refine (show Calls En.P 162 #[.int .u64 x_] c.w _ from Tryz.bits_Len64 x_ c.w h0.1 h0.2).mono ?_
 rintro e w' ⟨rfl, rfl⟩
 refine ⟨_, rfl, Below.refl _ _, fun c' => ?_⟩
 have hl := Lib.bitLen_le x_.toNat 64 (by decide) (by omega)
 simp only [rd]
 refine ⟨rfl, show (-9223372036854775808 : Int) ≤ (Lib.bitLen x_.toNat : Int) ∧ (Lib.bitLen x_.toNat : Int) ≤ 9223372036854775807 from ?_⟩
 constructor <;> omega
instance math_bits_Len64_ok (x_ : Int) : CM En (math_bits_Len64 x_) 162 [.int .u64 x_] (fun y => .int .i64 y) (fun _ => []) := ⟨Len64_call x_⟩
end Go.Proofs.YtjnikknlcmbcmaaGreatDoor
namespace Go.Proofs.YtjnikknlcmbcmaaGreatDoor
open Go.RowKit
def math_bits_TrailingZeros64 (x_ : Int) : Int :=
 (if (x_ == 0) then 64 else (convI .i64 (gt kg_4 (shrI .u64 (mulI .u64 (andI .u64 x_ (negI .u64 x_)) 285870213051353865) 58))))
def math_bits_Mul64 (x_ : Int) (y : Int) : (Int × Int) :=
 ((addI .u64 (addI .u64 (mulI .u64 (shrI .u64 x_ 32) (shrI .u64 y 32)) (shrI .u64 (addI .u64 (mulI .u64 (shrI .u64 x_ 32) (andI .u64 y 4294967295)) (shrI .u64 (mulI .u64 (andI .u64 x_ 4294967295) (andI .u64 y 4294967295)) 32)) 32)) (shrI .u64 (addI .u64 (andI .u64 (addI .u64 (mulI .u64 (shrI .u64 x_ 32) (andI .u64 y 4294967295)) (shrI .u64 (mulI .u64 (andI .u64 x_ 4294967295) (andI .u64 y 4294967295)) 32)) 4294967295) (mulI .u64 (andI .u64 x_ 4294967295) (shrI .u64 y 32))) 32)), (mulI .u64 x_ y))
def math_bits_LeadingZeros64 (x_ : Int) : Int :=
 (letk (math_bits_Len64 x_) (fun (x1 : Int) => (subI .i64 64 x1)))
def math_bits_Div64 (hi : Int) (lo : Int) (y : Int) : (Int × Int) :=
 (if (y == 0) then (default : (Int × Int)) else (if (decide (y ≤ hi)) then (default : (Int × Int)) else (if (hi == 0) then ((quoI .u64 lo y), (remI .u64 lo y)) else (letk (math_bits_LeadingZeros64 y) (fun (x10 : Int) => (letj (fun (p14 : Int) => (letj (fun (p15 : Int) => ((addI .u64 (mulI .u64 p14 4294967296) p15), (shrI .u64 (subI .u64 (addI .u64 (mulI .u64 (subI .u64 (addI .u64 (mulI .u64 (orI .u64 (shlI .u64 hi (convI .u64 x10)) (shrI .u64 lo (subI .u64 64 (convI .u64 x10)))) 4294967296) (shrI .u64 (shlI .u64 lo (convI .u64 x10)) 32)) (mulI .u64 p14 (shlI .u64 y (convI .u64 x10)))) 4294967296) (andI .u64 (shlI .u64 lo (convI .u64 x10)) 4294967295)) (mulI .u64 p15 (shlI .u64 y (convI .u64 x10)))) (convI .u64 x10)))) (fun j15 => (iter ((4294967296 - (subI .u64 (subI .u64 (addI .u64 (mulI .u64 (orI .u64 (shlI .u64 hi (convI .u64 x10)) (shrI .u64 lo (subI .u64 64 (convI .u64 x10)))) 4294967296) (shrI .u64 (shlI .u64 lo (convI .u64 x10)) 32)) (mulI .u64 p14 (shlI .u64 y (convI .u64 x10)))) (mulI .u64 (quoI .u64 (subI .u64 (addI .u64 (mulI .u64 (orI .u64 (shlI .u64 hi (convI .u64 x10)) (shrI .u64 lo (subI .u64 64 (convI .u64 x10)))) 4294967296) (shrI .u64 (shlI .u64 lo (convI .u64 x10)) 32)) (mulI .u64 p14 (shlI .u64 y (convI .u64 x10)))) (shrI .u64 (shlI .u64 y (convI .u64 x10)) 32)) (shrI .u64 (shlI .u64 y (convI .u64 x10)) 32)))).toNat + 1) (fun (ag16 : (Int × Int) → (Int × Int)) (p16 : Int × Int) => (if (decide (p16.2 ≥ 4294967296)) then (if (decide ((addI .u64 p16.1 (shrI .u64 (shlI .u64 y (convI .u64 x10)) 32)) ≥ 4294967296)) then (j15 (subI .u64 p16.2 1)) else (ag16 ((addI .u64 p16.1 (shrI .u64 (shlI .u64 y (convI .u64 x10)) 32)), (subI .u64 p16.2 1)))) else (if (decide ((mulI .u64 p16.2 (andI .u64 (shlI .u64 y (convI .u64 x10)) 4294967295)) > (addI .u64 (mulI .u64 4294967296 p16.1) (andI .u64 (shlI .u64 lo (convI .u64 x10)) 4294967295)))) then (if (decide ((addI .u64 p16.1 (shrI .u64 (shlI .u64 y (convI .u64 x10)) 32)) ≥ 4294967296)) then (j15 (subI .u64 p16.2 1)) else (ag16 ((addI .u64 p16.1 (shrI .u64 (shlI .u64 y (convI .u64 x10)) 32)), (subI .u64 p16.2 1)))) else (j15 p16.2)))) (fun _ => default) ((subI .u64 (subI .u64 (addI .u64 (mulI .u64 (orI .u64 (shlI .u64 hi (convI .u64 x10)) (shrI .u64 lo (subI .u64 64 (convI .u64 x10)))) 4294967296) (shrI .u64 (shlI .u64 lo (convI .u64 x10)) 32)) (mulI .u64 p14 (shlI .u64 y (convI .u64 x10)))) (mulI .u64 (quoI .u64 (subI .u64 (addI .u64 (mulI .u64 (orI .u64 (shlI .u64 hi (convI .u64 x10)) (shrI .u64 lo (subI .u64 64 (convI .u64 x10)))) 4294967296) (shrI .u64 (shlI .u64 lo (convI .u64 x10)) 32)) (mulI .u64 p14 (shlI .u64 y (convI .u64 x10)))) (shrI .u64 (shlI .u64 y (convI .u64 x10)) 32)) (shrI .u64 (shlI .u64 y (convI .u64 x10)) 32))), (quoI .u64 (subI .u64 (addI .u64 (mulI .u64 (orI .u64 (shlI .u64 hi (convI .u64 x10)) (shrI .u64 lo (subI .u64 64 (convI .u64 x10)))) 4294967296) (shrI .u64 (shlI .u64 lo (convI .u64 x10)) 32)) (mulI .u64 p14 (shlI .u64 y (convI .u64 x10)))) (shrI .u64 (shlI .u64 y (convI .u64 x10)) 32))))))) (fun j14 => (iter ((4294967296 - (subI .u64 (orI .u64 (shlI .u64 hi (convI .u64 x10)) (shrI .u64 lo (subI .u64 64 (convI .u64 x10)))) (mulI .u64 (quoI .u64 (orI .u64 (shlI .u64 hi (convI .u64 x10)) (shrI .u64 lo (subI .u64 64 (convI .u64 x10)))) (shrI .u64 (shlI .u64 y (convI .u64 x10)) 32)) (shrI .u64 (shlI .u64 y (convI .u64 x10)) 32)))).toNat + 1) (fun (ag29 : (Int × Int) → (Int × Int)) (p29 : Int × Int) => (if (decide (p29.1 ≥ 4294967296)) then (if (decide ((addI .u64 p29.2 (shrI .u64 (shlI .u64 y (convI .u64 x10)) 32)) ≥ 4294967296)) then (j14 (subI .u64 p29.1 1)) else (ag29 ((subI .u64 p29.1 1), (addI .u64 p29.2 (shrI .u64 (shlI .u64 y (convI .u64 x10)) 32))))) else (if (decide ((mulI .u64 p29.1 (andI .u64 (shlI .u64 y (convI .u64 x10)) 4294967295)) > (addI .u64 (mulI .u64 4294967296 p29.2) (shrI .u64 (shlI .u64 lo (convI .u64 x10)) 32)))) then (if (decide ((addI .u64 p29.2 (shrI .u64 (shlI .u64 y (convI .u64 x10)) 32)) ≥ 4294967296)) then (j14 (subI .u64 p29.1 1)) else (ag29 ((subI .u64 p29.1 1), (addI .u64 p29.2 (shrI .u64 (shlI .u64 y (convI .u64 x10)) 32))))) else (j14 p29.1)))) (fun _ => default) ((quoI .u64 (orI .u64 (shlI .u64 hi (convI .u64 x10)) (shrI .u64 lo (subI .u64 64 (convI .u64 x10)))) (shrI .u64 (shlI .u64 y (convI .u64 x10)) 32)), (subI .u64 (orI .u64 (shlI .u64 hi (convI .u64 x10)) (shrI .u64 lo (subI .u64 64 (convI .u64 x10)))) (mulI .u64 (quoI .u64 (orI .u64 (shlI .u64 hi (convI .u64 x10)) (shrI .u64 lo (subI .u64 64 (convI .u64 x10)))) (shrI .u64 (shlI .u64 y (convI .u64 x10)) 32)) (shrI .u64 (shlI .u64 y (convI .u64 x10)) 32))))))))))))
def prime_mul (a_ : Int) (b : Int) (n_ : Int) : Int :=
 (letk (math_bits_Mul64 a_ b) (fun (x1 : (Int × Int)) => (letk (math_bits_Div64 (x1.1) (x1.2) n_) (fun (x5 : (Int × Int)) => x5.2))))
def prime_pow (a_ : Int) (e_ : Int) (n_ : Int) : Int :=
 (iter (e_.toNat + 1) (fun (ag1 : (Int × Int × Int) → Int) (p1 : Int × Int × Int) => (if (decide (p1.2.1 > 0)) then (if ((andI .u64 p1.2.1 1) == 1) then (letk (prime_mul (p1.2.2) (p1.1) n_) (fun (x6 : Int) => (letk (prime_mul (p1.1) (p1.1) n_) (fun (x10 : Int) => (ag1 (x10, (shrI .u64 p1.2.1 1), x6)))))) else (letk (prime_mul (p1.1) (p1.1) n_) (fun (x15 : Int) => (ag1 (x15, (shrI .u64 p1.2.1 1), p1.2.2))))) else p1.2.2)) (fun _ => default) (a_, e_, 1))
def prime_composite (a_ : Int) (n_ : Int) (d_ : Int) (s : Int) : Bool :=
 (letk (prime_pow a_ d_ n_) (fun (x1 : Int) => (if (x1 == 1) then false else (if (x1 == (subI .u64 n_ 1)) then false else (iter ((subI .i64 s 1 - 0).toNat + 1) (fun (ag10 : (Int × Int) → Bool) (p10 : Int × Int) => (if (decide (p10.2 < (subI .i64 s 1))) then (letk (prime_mul (p10.1) (p10.1) n_) (fun (x13 : Int) => (if (x13 == (subI .u64 n_ 1)) then false else (ag10 (x13, (p10.2 + 1)))))) else true)) (fun _ => default) (x1, 0))))))
def prime_Is (n_ : Int) : Bool :=
 (if (decide (n_ < 2)) then false else (iter (((12 : Int) - 0).toNat + 1) (fun (ag4 : Int → Bool) (p4 : Int) => (if (decide (p4 < 12)) then (if ((remI .u64 (convI .u64 n_) (gt kg_0 p4)) == 0) then ((convI .u64 n_) == (gt kg_0 p4)) else (ag4 (p4 + 1))) else (letk (math_bits_TrailingZeros64 (subI .u64 (convI .u64 n_) 1)) (fun (x12 : Int) => (iter (((12 : Int) - 0).toNat + 1) (fun (ag16 : Int → Bool) (p16 : Int) => (if (decide (p16 < 12)) then (letk (prime_composite (gt kg_0 p16) (convI .u64 n_) (shrI .u64 (subI .u64 (convI .u64 n_) 1) x12) x12) (fun (x20 : Bool) => (if x20 then false else (ag16 (p16 + 1))))) else true)) (fun _ => default) 0))))) (fun _ => default) 0))
def word_residue (a_ : Int) (m : Int) : Bool :=
 (if (decide (a_ ≥ 0)) then (decide (a_ < m)) else false)
def word_check (a_ : Int) (b : Int) (m : Int) : Int :=
 (if (decide (m < 1)) then 1 else (if (decide (m ≥ 2305843009213693952)) then 1 else (letk (word_residue a_ m) (fun (x6 : Bool) => (if (!x6) then 2 else (letk (word_residue b m) (fun (x11 : Bool) => (if (!x11) then 2 else 0))))))))
def word_mul (a_ : Int) (b : Int) (m : Int) : Int :=
 (letk (math_bits_Mul64 (convI .u64 a_) (convI .u64 b)) (fun (x1 : (Int × Int)) => (letk (math_bits_Div64 (x1.1) (x1.2) (convI .u64 m)) (fun (x5 : (Int × Int)) => (convI .i64 x5.2)))))
def word_Pow (a_ : Int) (e_ : Int) (m : Int) : (Int × Int) :=
 (letk (word_check a_ a_ m) (fun (x1 : Int) => (if (x1 != 0) then (0, x1) else (if (decide (e_ < 0)) then (0, 2) else (iter (e_.toNat + 1) (fun (ag11 : (Int × Int × Int) → (Int × Int)) (p11 : Int × Int × Int) => (if (decide (p11.2.1 > 0)) then (if ((andI .i64 p11.2.1 1) == 1) then (letk (word_mul (p11.2.2) (p11.1) m) (fun (x16 : Int) => (letk (word_mul (p11.1) (p11.1) m) (fun (x20 : Int) => (ag11 (x20, (shrI .i64 p11.2.1 1), x16)))))) else (letk (word_mul (p11.1) (p11.1) m) (fun (x25 : Int) => (ag11 (x25, (shrI .i64 p11.2.1 1), p11.2.2))))) else (p11.2.2, 0))) (fun _ => default) (a_, e_, (remI .i64 1 m)))))))
def group_Valid (g : S_api_Group) : Bool :=
 (if (decide (g.P ≥ 2305843009213693952)) then false else (if (decide (g.Q < 3)) then false else (if ((remI .i64 g.Q 2) == 0) then false else (letk (prime_Is (g.P)) (fun (x7 : Bool) => (if (!x7) then false else (letk (prime_Is (g.Q)) (fun (x12 : Bool) => (if (!x12) then false else (if ((remI .i64 (subI .i64 g.P 1) g.Q) != 0) then false else (if (decide (g.G < 2)) then false else (if (decide (g.G ≥ g.P)) then false else (letk (word_Pow (g.G) (g.Q) (g.P)) (fun (x24 : (Int × Int)) => (if (x24.2 == 0) then (x24.1 == 1) else false)))))))))))))))
def group_element (g : S_api_Group) (x_ : Int) : Bool :=
 (if (decide (x_ < 1)) then false else (if (decide (x_ ≥ g.P)) then false else (letk (word_Pow x_ (g.Q) (g.P)) (fun (x6 : (Int × Int)) => (x6.1 == 1)))))
def group_Contains (g : S_api_Group) (x_ : Int) : Bool :=
 (letk (group_Valid g) (fun (x1 : Bool) => (if x1 then (letk (group_element g x_) (fun (x5 : Bool) => x5)) else false)))
def base_Valid (b : S_api_Bases) : Bool :=
 (letk (group_Valid (b.Group)) (fun (x1 : Bool) => (if (!x1) then false else (iter (((3 : Int) - 0).toNat + 1) (fun (ag7 : Int → Bool) (p7 : Int) => (if (decide (p7 < (3 : Int))) then (if ((gt ([b.G1, b.G2, b.H] : List Int) p7) == 1) then false else (letk (group_Contains (b.Group) (gt ([b.G1, b.G2, b.H] : List Int) p7)) (fun (x13 : Bool) => (if (!x13) then false else (ag7 (p7 + 1)))))) else true)) (fun _ => default) 0))))
def coin_nonzero (b : S_api_Bases) (n_ : Int) : Bool :=
 (if (decide (n_ ≥ 1)) then (decide (n_ < b.Group.Q)) else false)
def product_elements_1 (x_ : Int) (c0 : S_api_Group) : Bool :=
 (letk (group_Contains c0 x_) (fun (x1 : Bool) => (!x1)))
def slices_IndexFunc_int_int_at_product_elements_1 (s : (List Int)) (f__c0 : S_api_Group) : Int :=
 (iter (((s.length : Int) - 0).toNat + 1) (fun (ag1 : Int → Int) (p1 : Int) => (if (decide (p1 < (s.length : Int))) then (letk (product_elements_1 (gt s p1) f__c0) (fun (x5 : Bool) => (if x5 then p1 else (ag1 (p1 + 1))))) else (-1))) (fun _ => default) 0)
def slices_ContainsFunc_int_int_at_product_elements_1 (s : (List Int)) (f__c0 : S_api_Group) : Bool :=
 (letk (slices_IndexFunc_int_int_at_product_elements_1 s f__c0) (fun (x1 : Int) => (decide (x1 ≥ 0))))
def product_elements (g : S_api_Group) (l : (List Int)) : Bool :=
 (letk (slices_ContainsFunc_int_int_at_product_elements_1 l g) (fun (x1 : Bool) => (!x1)))
def product_exponents_1 (e_ : Int) (c0 : S_api_Group) : Bool :=
 (if (decide (e_ < 0)) then true else (decide (e_ ≥ c0.Q)))
def slices_IndexFunc_int_int_at_product_exponents_1 (s : (List Int)) (f__c0 : S_api_Group) : Int :=
 (iter (((s.length : Int) - 0).toNat + 1) (fun (ag1 : Int → Int) (p1 : Int) => (if (decide (p1 < (s.length : Int))) then (letk (product_exponents_1 (gt s p1) f__c0) (fun (x5 : Bool) => (if x5 then p1 else (ag1 (p1 + 1))))) else (-1))) (fun _ => default) 0)
def slices_ContainsFunc_int_int_at_product_exponents_1 (s : (List Int)) (f__c0 : S_api_Group) : Bool :=
 (letk (slices_IndexFunc_int_int_at_product_exponents_1 s f__c0) (fun (x1 : Int) => (decide (x1 ≥ 0))))
def product_exponents (g : S_api_Group) (l : (List Int)) : Bool :=
 (letk (slices_ContainsFunc_int_int_at_product_exponents_1 l g) (fun (x1 : Bool) => (!x1)))
def group_check (g : S_api_Group) (l : (List Int)) : Int :=
 (letk (group_Valid g) (fun (x1 : Bool) => (if (!x1) then 1 else (iter (((l.length : Int) - 0).toNat + 1) (fun (ag7 : Int → Int) (p7 : Int) => (if (decide (p7 < (l.length : Int))) then (letk (group_element g (gt l p7)) (fun (x11 : Bool) => (if (!x11) then 2 else (ag7 (p7 + 1))))) else 0)) (fun _ => default) 0))))
def word_Reduce (a_ : Int) (m : Int) : (Int × Int) :=
 (letk (word_check 0 0 m) (fun (x1 : Int) => (if (x1 != 0) then (0, x1) else (if (decide ((remI .i64 a_ m) < 0)) then ((addI .i64 (remI .i64 a_ m) m), 0) else ((remI .i64 a_ m), 0)))))
def group_Power (g : S_api_Group) (a_ : Int) (e_ : Int) : (Int × Int) :=
 (letk (group_check g ([a_] : List Int)) (fun (x1 : Int) => (if (x1 != 0) then (0, x1) else (letk (word_Reduce e_ (g.Q)) (fun (x7 : (Int × Int)) => (letk (word_Pow a_ (x7.1) (g.P)) (fun (x10 : (Int × Int)) => (x10.1, x10.2))))))))
def word_Mul (a_ : Int) (b : Int) (m : Int) : (Int × Int) :=
 (letk (word_check a_ b m) (fun (x1 : Int) => (if (x1 != 0) then (0, x1) else (letk (word_mul a_ b m) (fun (x8 : Int) => (x8, 0))))))
def group_Mul (g : S_api_Group) (a_ : Int) (b : Int) : (Int × Int) :=
 (letk (group_check g ([a_, b] : List Int)) (fun (x1 : Int) => (if (x1 != 0) then (0, x1) else (letk (word_Mul a_ b (g.P)) (fun (x7 : (Int × Int)) => (x7.1, x7.2))))))
def product_powers (g : S_api_Group) (bases : (List Int)) (exps : (List Int)) : (Int × Int) :=
 (iter (((bases.length : Int) - 0).toNat + 1) (fun (ag1 : (Int × Int) → (Int × Int)) (p1 : Int × Int) => (if (decide (p1.2 < (bases.length : Int))) then (letk (group_Power g (gt bases p1.2) (gt exps p1.2)) (fun (x6 : (Int × Int)) => (if (x6.2 != 0) then (0, x6.2) else (letk (group_Mul g (p1.1) (x6.1)) (fun (x11 : (Int × Int)) => (if (x11.2 != 0) then (0, x11.2) else (ag1 (x11.1, (p1.2 + 1))))))))) else (p1.1, 0))) (fun _ => default) (1, 0))
def product_Product (g : S_api_Group) (bases : (List Int)) (exps : (List Int)) : (Int × Int) :=
 (letk (group_Valid g) (fun (x1 : Bool) => (if (!x1) then (0, 1) else (if ((bases.length : Int) != (exps.length : Int)) then (0, 1) else (if (decide ((bases.length : Int) > 100)) then (0, 5) else (letk (product_elements g bases) (fun (x12 : Bool) => (if (!x12) then (0, 2) else (letk (product_exponents g exps) (fun (x17 : Bool) => (if (!x17) then (0, 2) else (letk (product_powers g bases exps) (fun (x23 : (Int × Int)) => (x23.1, x23.2))))))))))))))
def coin_message (b : S_api_Bases) (u : Int) : Int :=
 (letk (product_Product (b.Group) ([b.G1, b.G2] : List Int) ([u, 1] : List Int)) (fun (x1 : (Int × Int)) => x1.1))
def coin_leaves_1 (d_ : Int) (c0 : Int) : Bool :=
 (c0 == (shlI .i64 1 d_))
def slices_IndexFunc_int_int_at_coin_leaves_1 (s : (List Int)) (f__c0 : Int) : Int :=
 (iter (((s.length : Int) - 0).toNat + 1) (fun (ag1 : Int → Int) (p1 : Int) => (if (decide (p1 < (s.length : Int))) then (letk (coin_leaves_1 (gt s p1) f__c0) (fun (x5 : Bool) => (if x5 then p1 else (ag1 (p1 + 1))))) else (-1))) (fun _ => default) 0)
def slices_ContainsFunc_int_int_at_coin_leaves_1 (s : (List Int)) (f__c0 : Int) : Bool :=
 (letk (slices_IndexFunc_int_int_at_coin_leaves_1 s f__c0) (fun (x1 : Int) => (decide (x1 ≥ 0))))
def coin_leaves (n_ : Int) : Bool :=
 (letk (slices_ContainsFunc_int_int_at_coin_leaves_1 ([0, 1, 2, 3, 4, 5] : List Int) n_) (fun (x1 : Bool) => x1))
def coin_scalar (b : S_api_Bases) (n_ : Int) : Bool :=
 (if (decide (n_ ≥ 0)) then (decide (n_ < b.Group.Q)) else false)
def coin_leaf (b : S_api_Bases) (x_ : (List Int)) : Int :=
 (letk (product_Product (b.Group) ([b.G1, b.G2] : List Int) (arrN 2 x_)) (fun (x1 : (Int × Int)) => x1.1))
def coin_ValidSecret (b : S_api_Bases) (s : S_api_CoinSecret) : Bool :=
 (letk (base_Valid b) (fun (x1 : Bool) => (if (!x1) then false else (letk (coin_nonzero b (s.U)) (fun (x6 : Bool) => (if (!x6) then false else (letk (coin_nonzero b (s.S)) (fun (x11 : Bool) => (if (!x11) then false else (letk (coin_message b (s.U)) (fun (x16 : Int) => (if (x16 == 1) then false else (letk (coin_leaves (s.X.length : Int)) (fun (x21 : Bool) => (if (!x21) then false else (iter (((s.X.length : Int) - 0).toNat + 1) (fun (ag27 : (Int × List (List Int)) → Bool) (p27 : Int × List (List Int)) => (if (decide (p27.1 < (s.X.length : Int))) then (letk (coin_scalar b (gt (gt s.X p27.1) 0)) (fun (x31 : Bool) => (if (!x31) then false else (letk (coin_scalar b (gt (gt s.X p27.1) 1)) (fun (x36 : Bool) => (if (!x36) then false else (letk (coin_leaf b (gt s.X p27.1)) (fun (x41 : Int) => (if (List.contains p27.2 [x41]) then false else (letk (coin_leaf b (gt s.X p27.1)) (fun (x47 : Int) => (ag27 ((p27.1 + 1), (addK p27.2 [x47])))))))))))))) else true)) (fun _ => default) (0, ([] : List (List Int)))))))))))))))))))
def coin_Pseudonym (b : S_api_Bases) (s : S_api_CoinSecret) : (Int × Int) :=
 (letk (coin_ValidSecret b s) (fun (x1 : Bool) => (if (!x1) then (0, 1) else (letk (coin_message b (s.U)) (fun (x7 : Int) => (letk (group_Power (b.Group) x7 (s.S)) (fun (x9 : (Int × Int)) => (x9.1, x9.2))))))))
def coin_Leaves (b : S_api_Bases) (s : S_api_CoinSecret) : ((List Int) × Int) :=
 (letk (coin_ValidSecret b s) (fun (x1 : Bool) => (if (!x1) then (([] : List Int), 1) else (iter (((s.X.length : Int) - 0).toNat + 1) (fun (ag7 : (Int × List Int) → ((List Int) × Int)) (p7 : Int × List Int) => (if (decide (p7.1 < (s.X.length : Int))) then (letk (coin_leaf b (gt s.X p7.1)) (fun (x11 : Int) => (ag7 ((p7.1 + 1), (p7.2 ++ ([x11] : List Int)))))) else (p7.2, 0))) (fun _ => default) (0, ([] : List Int))))))
def slices_Equal_int_int (s1 : (List Int)) (s2 : (List Int)) : Bool :=
 (if ((s1.length : Int) != (s2.length : Int)) then false else (iter (((s1.length : Int) - 0).toNat + 1) (fun (ag4 : Int → Bool) (p4 : Int) => (if (decide (p4 < (s1.length : Int))) then (if ((gt s1 p4) != (gt s2 p4)) then false else (ag4 (p4 + 1))) else true)) (fun _ => default) 0))
def specielaw31_awake  : Bool :=
 (letk (coin_Pseudonym ({ Group := ({ P := 23, Q := 11, G := 4 } : S_api_Group), G1 := 2, G2 := 3, H := 9 } : S_api_Bases) ({ U := 1, S := 2, X := ([[3, 1]] : List (List Int)) } : S_api_CoinSecret)) (fun (x1 : (Int × Int)) => (letk (coin_Leaves ({ Group := ({ P := 23, Q := 11, G := 4 } : S_api_Group), G1 := 2, G2 := 3, H := 9 } : S_api_Bases) ({ U := 1, S := 2, X := ([[3, 1]] : List (List Int)) } : S_api_CoinSecret)) (fun (x4 : ((List Int) × Int)) => (if (x1.1 == 13) then (if (x1.2 == 0) then (letk (slices_Equal_int_int (x4.1) ([1] : List Int)) (fun (x11 : Bool) => (if x11 then (if (x4.2 == 0) then (letk (coin_ValidSecret ({ Group := ({ P := 23, Q := 11, G := 4 } : S_api_Group), G1 := 2, G2 := 3, H := 9 } : S_api_Bases) ({ U := 1, S := 2, X := ([[3, 1]] : List (List Int)) } : S_api_CoinSecret)) (fun (x17 : Bool) => x17)) else false) else false))) else false) else false)))))
def encode_within_1 (x_ : S_api_Item) (c0 : Int) : Bool :=
 (letk (withinM x_ (c0 - 1)) (fun (x2 : Bool) => (!x2)))
def slices_IndexFunc_api_Item_api_Item_at_encode_within_1 (s : (List S_api_Item)) (f__c0 : Int) : Int :=
 (iter (((s.length : Int) - 0).toNat + 1) (fun (ag1 : Int → Int) (p1 : Int) => (if (decide (p1 < (s.length : Int))) then (letk (encode_within_1 (gt s p1) f__c0) (fun (x5 : Bool) => (if x5 then p1 else (ag1 (p1 + 1))))) else (-1))) (fun _ => default) 0)
def slices_ContainsFunc_api_Item_api_Item_at_encode_within_1 (s : (List S_api_Item)) (f__c0 : Int) : Bool :=
 (letk (slices_IndexFunc_api_Item_api_Item_at_encode_within_1 s f__c0) (fun (x1 : Int) => (decide (x1 ≥ 0))))
def encode_within (i_ : S_api_Item) (depth : Int) : Bool :=
 (if (i_.Kind == 1) then (if ((i_.B.length : Int) == 0) then ((i_.L.length : Int) == 0) else false) else (if (i_.Kind == 2) then (if (i_.N == 0) then ((i_.L.length : Int) == 0) else false) else (if (i_.Kind == 3) then (if (i_.N == 0) then (if ((i_.B.length : Int) == 0) then (if (decide (depth > 0)) then (if (decide ((i_.L.length : Int) ≤ 1000)) then (letk (slices_ContainsFunc_api_Item_api_Item_at_encode_within_1 (i_.L) depth) (fun (x23 : Bool) => (!x23))) else false) else false) else false) else false) else false)))
def encode_Valid (i_ : S_api_Item) : Bool :=
 (letk (withinM i_ 8) (fun (x1 : Bool) => x1))
def encode_number (out : (List Int)) (n_ : Int) (size : Int) : (List Int) :=
 (iter (((size - 1) + 1).toNat + 1) (fun (ag2 : (Int × List Int) → (List Int)) (p2 : Int × List Int) => (if (decide (p2.1 ≥ 0)) then (ag2 ((p2.1 - 1), (p2.2 ++ ([(convI .u8 (shrI .u64 n_ (8 * p2.1)))] : List Int)))) else p2.2)) (fun _ => default) ((size - 1), out))
def encode_write (out : (List Int)) (i_ : S_api_Item) : (List Int) :=
 (if (decide ((out.length : Int) > 16384)) then out else (if (i_.Kind == 1) then (letk (encode_number (out ++ ([(convI .u8 i_.Kind)] : List Int)) (convI .u64 i_.N) 8) (fun (x6 : (List Int)) => x6)) else (if (i_.Kind == 2) then (letk (encode_number (out ++ ([(convI .u8 i_.Kind)] : List Int)) (convI .u64 (i_.B.length : Int)) 4) (fun (x13 : (List Int)) => (x13 ++ i_.B))) else (letk (encode_number (out ++ ([(convI .u8 i_.Kind)] : List Int)) (convI .u64 (i_.L.length : Int)) 4) (fun (x17 : (List Int)) => (iter (((i_.L.length : Int) - 0).toNat + 1) (fun (ag21 : (Int × List Int) → (List Int)) (p21 : Int × List Int) => (if (decide (p21.1 < (i_.L.length : Int))) then (letk (writeM (p21.2) (gt i_.L p21.1)) (fun (x25 : (List Int)) => (ag21 ((p21.1 + 1), x25)))) else p21.2)) (fun _ => default) (0, x17)))))))
def encode_Encode (i_ : S_api_Item) : ((List Int) × Int) :=
 (letk (encode_Valid i_) (fun (x1 : Bool) => (if (!x1) then (([] : List Int), 1) else (letk (writeM ([] : List Int) i_) (fun (x7 : (List Int)) => (if (decide ((x7.length : Int) > 16384)) then (([] : List Int), 5) else (x7, 0)))))))
def bytes_Clone (s : List Int) : List Int := s
def digest_count (n_ : Int) : (List Int) :=
 (iter (((8 : Int) - 0).toNat + 1) (fun (ag1 : (Int × List Int) → (List Int)) (p1 : Int × List Int) => (if (decide (p1.1 < (8 : Int))) then (ag1 ((p1.1 + 1), (st p1.2 p1.1 (convI .u8 (shrI .u64 n_ (56 - (8 * p1.1))))))) else p1.2)) (fun _ => default) (0, ([(0 : Int), (0 : Int), (0 : Int), (0 : Int), (0 : Int), (0 : Int), (0 : Int), (0 : Int)] : List Int)))
def math_bits_RotateLeft32 (x_ : Int) (k_ : Int) : Int :=
 (orI .u32 (shlI .u32 x_ (andI .u64 (convI .u64 k_) 31)) (shrI .u32 x_ (subI .u64 32 (andI .u64 (convI .u64 k_) 31))))
def digest_right (x_ : Int) (n_ : Int) : Int :=
 (letk (math_bits_RotateLeft32 x_ (negI .i64 n_)) (fun (x1 : Int) => x1))
def digest_schedule (block : (List Int)) : (List Int) :=
 (iter (((16 : Int) - 0).toNat + 1) (fun (ag1 : (Int × (List Int)) → (List Int)) (p1 : Int × (List Int)) => (if (decide (p1.1 < 16)) then (iter ((((sl block (4 * p1.1) ((4 * p1.1) + 4)).length : Int) - 0).toNat + 1) (fun (ag7 : (Int × (List Int)) → (List Int)) (p7 : Int × (List Int)) => (if (decide (p7.1 < ((sl block (4 * p1.1) ((4 * p1.1) + 4)).length : Int))) then (ag7 ((p7.1 + 1), (arrN 64 (st (arrN 64 p7.2) p1.1 (orI .u32 (shlI .u32 (gt p7.2 p1.1) 8) (convI .u32 (gt (sl block (4 * p1.1) ((4 * p1.1) + 4)) p7.1))))))) else (ag1 ((p1.1 + 1), p7.2)))) (fun _ => default) (0, p1.2)) else (iter (((64 : Int) - 16).toNat + 1) (fun (ag17 : (Int × (List Int)) → (List Int)) (p17 : Int × (List Int)) => (if (decide (p17.1 < 64)) then (letk (digest_right (gt p17.2 (p17.1 - 15)) 7) (fun (x26 : Int) => (letk (digest_right (gt p17.2 (p17.1 - 15)) 18) (fun (x29 : Int) => (letk (digest_right (gt p17.2 (p17.1 - 2)) 17) (fun (x32 : Int) => (letk (digest_right (gt p17.2 (p17.1 - 2)) 19) (fun (x35 : Int) => (ag17 ((p17.1 + 1), (arrN 64 (st (arrN 64 p17.2) p17.1 (addI .u32 (addI .u32 (addI .u32 (gt p17.2 (p17.1 - 16)) (xorI .u32 (xorI .u32 x26 x29) (shrI .u32 (gt p17.2 (p17.1 - 15)) 3))) (gt p17.2 (p17.1 - 7))) (xorI .u32 (xorI .u32 x32 x35) (shrI .u32 (gt p17.2 (p17.1 - 2)) 10))))))))))))))) else p17.2)) (fun _ => default) (16, p1.2)))) (fun _ => default) (0, [0, 0, 0, 0, 0, 0, 0, 0, 0, 0, 0, 0, 0, 0, 0, 0, 0, 0, 0, 0, 0, 0, 0, 0, 0, 0, 0, 0, 0, 0, 0, 0, 0, 0, 0, 0, 0, 0, 0, 0, 0, 0, 0, 0, 0, 0, 0, 0, 0, 0, 0, 0, 0, 0, 0, 0, 0, 0, 0, 0, 0, 0, 0, 0]))
def digest_mix (state : (List Int)) (block : (List Int)) : (List Int) :=
 (letk (digest_schedule block) (fun (x1 : (List Int)) => (iter (((64 : Int) - 0).toNat + 1) (fun (ag4 : (Int × Int × Int × Int × Int × Int × Int × Int × Int) → (List Int)) (p4 : Int × Int × Int × Int × Int × Int × Int × Int × Int) => (if (decide (p4.2.2.2.2.2.2.2.2 < 64)) then (letk (digest_right (p4.2.2.2.2.1) 6) (fun (x7 : Int) => (letk (digest_right (p4.2.2.2.2.1) 11) (fun (x9 : Int) => (letk (digest_right (p4.2.2.2.2.1) 25) (fun (x11 : Int) => (letk (digest_right (p4.1) 2) (fun (x16 : Int) => (letk (digest_right (p4.1) 13) (fun (x19 : Int) => (letk (digest_right (p4.1) 22) (fun (x22 : Int) => (ag4 ((addI .u32 (addI .u32 (addI .u32 (addI .u32 (addI .u32 p4.2.2.2.2.2.2.2.1 (xorI .u32 (xorI .u32 x7 x9) x11)) (xorI .u32 (andI .u32 p4.2.2.2.2.1 p4.2.2.2.2.2.1) (andI .u32 (notI .u32 p4.2.2.2.2.1) p4.2.2.2.2.2.2.1))) (gt kg_5 p4.2.2.2.2.2.2.2.2)) (gt x1 p4.2.2.2.2.2.2.2.2)) (addI .u32 (xorI .u32 (xorI .u32 x16 x19) x22) (xorI .u32 (xorI .u32 (andI .u32 p4.1 p4.2.1) (andI .u32 p4.1 p4.2.2.1)) (andI .u32 p4.2.1 p4.2.2.1)))), p4.1, p4.2.1, p4.2.2.1, (addI .u32 p4.2.2.2.1 (addI .u32 (addI .u32 (addI .u32 (addI .u32 p4.2.2.2.2.2.2.2.1 (xorI .u32 (xorI .u32 x7 x9) x11)) (xorI .u32 (andI .u32 p4.2.2.2.2.1 p4.2.2.2.2.2.1) (andI .u32 (notI .u32 p4.2.2.2.2.1) p4.2.2.2.2.2.2.1))) (gt kg_5 p4.2.2.2.2.2.2.2.2)) (gt x1 p4.2.2.2.2.2.2.2.2))), p4.2.2.2.2.1, p4.2.2.2.2.2.1, p4.2.2.2.2.2.2.1, (p4.2.2.2.2.2.2.2.2 + 1))))))))))))))) else (iter (((8 : Int) - 0).toNat + 1) (fun (ag26 : (Int × (List Int)) → (List Int)) (p26 : Int × (List Int)) => (if (decide (p26.1 < 8)) then (ag26 ((p26.1 + 1), (arrN 8 (st (arrN 8 p26.2) p26.1 (addI .u32 (gt p26.2 p26.1) (gt ([p4.1, p4.2.1, p4.2.2.1, p4.2.2.2.1, p4.2.2.2.2.1, p4.2.2.2.2.2.1, p4.2.2.2.2.2.2.1, p4.2.2.2.2.2.2.2.1] : List Int) p26.1)))))) else p26.2)) (fun _ => default) (0, state)))) (fun _ => default) ((gt state 0), (gt state 1), (gt state 2), (gt state 3), (gt state 4), (gt state 5), (gt state 6), (gt state 7), 0))))
def digest_Sum (b : (List Int)) : (List Int) :=
 (letk (bytes_Clone b) (fun (x1 : (List Int)) => (iter (((56 - (((x1 ++ ([128] : List Int))).length : Int)) % 64).toNat + 1) (fun (ag5 : (List Int) → (List Int)) (p5 : List Int) => (if ((remI .i64 (p5.length : Int) 64) != 56) then (ag5 (p5 ++ ([0] : List Int))) else (letk (digest_count (mulI .u64 8 (convI .u64 (b.length : Int)))) (fun (x9 : (List Int)) => (iter (((p5 ++ x9)).length + 1) (fun (ag13 : (List Int × (List Int)) → (List Int)) (p13 : List Int × (List Int)) => (if (decide ((p13.1.length : Int) > 0)) then (letk (digest_mix (p13.2) (sl p13.1 0 64)) (fun (x16 : (List Int)) => (ag13 ((sl p13.1 64 (p13.1.length : Int)), x16)))) else (iter (((8 : Int) - 0).toNat + 1) (fun (ag20 : (Int × (List Int)) → (List Int)) (p20 : Int × (List Int)) => (if (decide (p20.1 < 8)) then (iter (((4 : Int) - 0).toNat + 1) (fun (ag24 : (Int × (List Int)) → (List Int)) (p24 : Int × (List Int)) => (if (decide (p24.1 < 4)) then (ag24 ((p24.1 + 1), (arrN 32 (st (arrN 32 p24.2) ((4 * p20.1) + p24.1) (convI .u8 (shrI .u32 (gt p13.2 p20.1) (24 - (8 * p24.1)))))))) else (ag20 ((p20.1 + 1), p24.2)))) (fun _ => default) (0, p20.2)) else p20.2)) (fun _ => default) (0, [0, 0, 0, 0, 0, 0, 0, 0, 0, 0, 0, 0, 0, 0, 0, 0, 0, 0, 0, 0, 0, 0, 0, 0, 0, 0, 0, 0, 0, 0, 0, 0])))) (fun _ => default) ((p5 ++ x9), [1779033703, 3144134277, 1013904242, 2773480762, 1359893119, 2600822924, 528734635, 1541459225])))))) (fun _ => default) (x1 ++ ([128] : List Int)))))
def digest_Tagged (tag : (List UInt8)) (b : (List Int)) : ((List Int) × Int) :=
 (if (decide ((tag.length : Int) < 1)) then ([0, 0, 0, 0, 0, 0, 0, 0, 0, 0, 0, 0, 0, 0, 0, 0, 0, 0, 0, 0, 0, 0, 0, 0, 0, 0, 0, 0, 0, 0, 0, 0], 2) else (if (decide ((tag.length : Int) > 100)) then ([0, 0, 0, 0, 0, 0, 0, 0, 0, 0, 0, 0, 0, 0, 0, 0, 0, 0, 0, 0, 0, 0, 0, 0, 0, 0, 0, 0, 0, 0, 0, 0], 2) else (letk (digest_Sum (nat8 tag)) (fun (x6 : (List Int)) => (letk (bytes_Clone (arrN 32 x6)) (fun (x9 : (List Int)) => (letk (digest_Sum ((x9 ++ (arrN 32 x6)) ++ b)) (fun (x12 : (List Int)) => (x12, 0)))))))))
def tree_Leaf (b : (List Int)) : ((List Int) × Int) :=
 (if (decide ((b.length : Int) > 16384)) then ([0, 0, 0, 0, 0, 0, 0, 0, 0, 0, 0, 0, 0, 0, 0, 0, 0, 0, 0, 0, 0, 0, 0, 0, 0, 0, 0, 0, 0, 0, 0, 0], 5) else (letk (digest_Tagged ([115, 112, 101, 99, 105, 101, 47, 108, 101, 97, 102]) b) (fun (x4 : ((List Int) × Int)) => (x4.1, x4.2))))
def coin_Hashes (b : S_api_Bases) (l : (List Int)) : ((List (List Int)) × Int) :=
 (letk (base_Valid b) (fun (x1 : Bool) => (if (!x1) then (([] : List (List Int)), 1) else (letk (coin_leaves (l.length : Int)) (fun (x6 : Bool) => (if (!x6) then (([] : List (List Int)), 1) else (iter (((l.length : Int) - 0).toNat + 1) (fun (ag12 : (Int × List (List Int)) → ((List (List Int)) × Int)) (p12 : Int × List (List Int)) => (if (decide (p12.1 < (l.length : Int))) then (letk (group_Contains (b.Group) (gt l p12.1)) (fun (x16 : Bool) => (if (!x16) then (([] : List (List Int)), 2) else (letk (encode_Encode ({ Kind := 1, N := (gt l p12.1), B := ([] : List Int), L := ([] : List S_api_Item) } : S_api_Item)) (fun (x22 : ((List Int) × Int)) => (letk (tree_Leaf (x22.1)) (fun (x26 : ((List Int) × Int)) => (ag12 ((p12.1 + 1), (p12.2 ++ ([x26.1] : List (List Int)))))))))))) else (p12.2, 0))) (fun _ => default) (0, ([] : List (List Int))))))))))
def tree_Depth (n_ : Int) : (Int × Int) :=
 (iter (((11 : Int) - 0).toNat + 1) (fun (ag1 : Int → (Int × Int)) (p1 : Int) => (if (decide (p1 < 11)) then (if (n_ == (shlI .i64 1 p1)) then (p1, 0) else (ag1 (p1 + 1))) else (0, 1))) (fun _ => default) 0)
def slices_Grow_byte_byte (s : List Int) (_ : Int) : List Int := s
def slices_Concat_byte_byte (slices : (List (List Int))) : (List Int) :=
 (iter (((slices.length : Int) - 0).toNat + 1) (fun (ag1 : (Int × Int) → (List Int)) (p1 : Int × Int) => (if (decide (p1.2 < (slices.length : Int))) then (if (decide ((p1.1 + ((gt slices p1.2).length : Int)) < 0)) then (default : (List Int)) else (ag1 ((p1.1 + ((gt slices p1.2).length : Int)), (p1.2 + 1)))) else (letk (slices_Grow_byte_byte ([] : List Int) (p1.1)) (fun (x10 : (List Int)) => (iter (((slices.length : Int) - 0).toNat + 1) (fun (ag14 : (Int × List Int) → (List Int)) (p14 : Int × List Int) => (if (decide (p14.1 < (slices.length : Int))) then (ag14 ((p14.1 + 1), (p14.2 ++ (gt slices p14.1)))) else p14.2)) (fun _ => default) (0, x10)))))) (fun _ => default) (0, 0))
def tree_inner (l : (List Int)) (r_ : (List Int)) : (List Int) :=
 (letk (slices_Concat_byte_byte ([(arrN 32 l), (arrN 32 r_)] : List (List Int))) (fun (x1 : (List Int)) => (letk (digest_Tagged ([115, 112, 101, 99, 105, 101, 47, 110, 111, 100, 101]) x1) (fun (x4 : ((List Int) × Int)) => x4.1))))
def slices_Reverse_api_Hash_api_Hash (s : (List (List (List Int)))) : (List (List (List Int))) :=
 (iter ((((s.length : Int) - 1) - 0).toNat + 1) (fun (ag2 : (Int × Int × List (List (List Int))) → (List (List (List Int)))) (p2 : Int × Int × List (List (List Int))) => (if (decide (p2.1 < p2.2.1)) then (ag2 ((p2.1 + 1), (p2.2.1 - 1), (st (st p2.2.2 p2.1 (gt p2.2.2 p2.2.1)) p2.2.1 (gt p2.2.2 p2.1)))) else p2.2.2)) (fun _ => default) (0, ((s.length : Int) - 1), s))
def tree_levels (l : (List (List Int))) : (List (List (List Int))) :=
 (iter ((l).length + 1) (fun (ag1 : (List (List Int) × List (List (List Int))) → (List (List (List Int)))) (p1 : List (List Int) × List (List (List Int))) => (if (decide ((p1.1.length : Int) > 1)) then (riter (chunk2 p1.1) (fun (ag5 : (List (List Int)) → (List (List (List Int)))) (y5 : List (List Int)) (p5 : List (List Int)) => (letk (tree_inner (gt y5 0) (gt y5 1)) (fun (x8 : (List Int)) => (ag5 (p5 ++ ([x8] : List (List Int))))))) (fun (p5 : List (List Int)) => (ag1 (p5, (p1.2 ++ ([p5] : List (List (List Int))))))) ([] : List (List Int))) else (letk (slices_Reverse_api_Hash_api_Hash (p1.2)) (fun (x11 : (List (List (List Int)))) => x11)))) (fun _ => default) (l, ([l] : List (List (List Int)))))
def tree_open (l : (List (List Int))) (level : Int) (index : Int) : ((List (List (List Int))) × Int) :=
 (letk (tree_Depth (l.length : Int)) (fun (x1 : (Int × Int)) => (if (x1.2 != 0) then (([] : List (List (List Int))), x1.2) else (if (decide (level < 0)) then (([] : List (List (List Int))), 2) else (if (decide (level > x1.1)) then (([] : List (List (List Int))), 2) else (if (decide (index < 0)) then (([] : List (List (List Int))), 2) else (if (decide (index ≥ (shlI .i64 1 level))) then (([] : List (List (List Int))), 2) else (letk (tree_levels l) (fun (x16 : (List (List (List Int)))) => (x16, 0))))))))))
def tree_Node (l : (List (List Int))) (level : Int) (index : Int) : ((List Int) × Int) :=
 (letk (tree_open l level index) (fun (x1 : ((List (List (List Int))) × Int)) => (if (x1.2 != 0) then ([0, 0, 0, 0, 0, 0, 0, 0, 0, 0, 0, 0, 0, 0, 0, 0, 0, 0, 0, 0, 0, 0, 0, 0, 0, 0, 0, 0, 0, 0, 0, 0], x1.2) else ((gt (gt x1.1 level) index), 0))))
def tree_Root (l : (List (List Int))) : ((List Int) × Int) :=
 (letk (tree_Node l 0 0) (fun (x1 : ((List Int) × Int)) => (x1.1, x1.2)))
def coin_Root (b : S_api_Bases) (l : (List Int)) : ((List Int) × Int) :=
 (letk (coin_Hashes b l) (fun (x1 : ((List (List Int)) × Int)) => (if (x1.2 != 0) then ([0, 0, 0, 0, 0, 0, 0, 0, 0, 0, 0, 0, 0, 0, 0, 0, 0, 0, 0, 0, 0, 0, 0, 0, 0, 0, 0, 0, 0, 0, 0, 0], x1.2) else (letk (tree_Root (x1.1)) (fun (x7 : ((List Int) × Int)) => (x7.1, x7.2))))))
def specieref27_Depth (n_ : Int) : Int :=
 (iter (((11 : Int) - 0).toNat + 1) (fun (ag1 : Int → Int) (p1 : Int) => (if (decide (p1 ≤ 10)) then (if ((shlI .i64 1 p1) == n_) then p1 else (ag1 (p1 + 1))) else (-1))) (fun _ => default) 0)
def specieref01_Mul (a_ : Int) (b : Int) (m : Int) : Int :=
 (if (decide (a_ < 2147483648)) then (if (decide (b < 2147483648)) then (remI .i64 (mulI .i64 a_ b) m) else (iter (b.toNat + 1) (fun (ag6 : (Int × Int × Int) → Int) (p6 : Int × Int × Int) => (if (decide (p6.2.1 > 0)) then (if ((p6.2.1 % 2) == 1) then (ag6 ((remI .i64 (p6.1 + p6.1) m), (p6.2.1 / 2), (remI .i64 (p6.2.2 + p6.1) m))) else (ag6 ((remI .i64 (p6.1 + p6.1) m), (p6.2.1 / 2), p6.2.2))) else p6.2.2)) (fun _ => default) (a_, b, 0))) else (iter (b.toNat + 1) (fun (ag20 : (Int × Int × Int) → Int) (p20 : Int × Int × Int) => (if (decide (p20.2.1 > 0)) then (if ((p20.2.1 % 2) == 1) then (ag20 ((remI .i64 (p20.1 + p20.1) m), (p20.2.1 / 2), (remI .i64 (p20.2.2 + p20.1) m))) else (ag20 ((remI .i64 (p20.1 + p20.1) m), (p20.2.1 / 2), p20.2.2))) else p20.2.2)) (fun _ => default) (a_, b, 0)))
def specieref01_Pow (a_ : Int) (e_ : Int) (m : Int) : Int :=
 (iter (e_.toNat + 1) (fun (ag1 : (Int × Int × Int) → Int) (p1 : Int × Int × Int) => (if (decide (p1.2.1 > 0)) then (if ((p1.2.1 % 2) == 1) then (letk (specieref01_Mul (p1.2.2) (p1.1) m) (fun (x7 : Int) => (letk (specieref01_Mul (p1.1) (p1.1) m) (fun (x11 : Int) => (ag1 (x11, (p1.2.1 / 2), x7)))))) else (letk (specieref01_Mul (p1.1) (p1.1) m) (fun (x17 : Int) => (ag1 (x17, (p1.2.1 / 2), p1.2.2))))) else p1.2.2)) (fun _ => default) (a_, e_, (remI .i64 1 m)))
def specieref05_strong (n_ : Int) (a_ : Int) : Bool :=
 (iter ((n_ - 1).toNat + 1) (fun (ag2 : (Int × Int) → Bool) (p2 : Int × Int) => (if ((p2.1 % 2) == 0) then (ag2 ((p2.1 / 2), (p2.2 + 1))) else (letk (specieref01_Pow a_ (p2.1) n_) (fun (x9 : Int) => (if (x9 == 1) then true else (if (x9 == (n_ - 1)) then true else (iter ((p2.2 - 1).toNat + 1) (fun (ag19 : (Int × Int) → Bool) (p19 : Int × Int) => (if (decide (p19.2 < p2.2)) then (letk (specieref01_Mul (p19.1) (p19.1) n_) (fun (x22 : Int) => (if (x22 == (n_ - 1)) then true else (ag19 (x22, (p19.2 + 1)))))) else false)) (fun _ => default) (x9, 1)))))))) (fun _ => default) ((n_ - 1), 0))
def specieref05_Is (n_ : Int) : Bool :=
 (if (decide (n_ < 2)) then false else (iter (((12 : Int) - 0).toNat + 1) (fun (ag4 : Int → Bool) (p4 : Int) => (if (decide (p4 < (12 : Int))) then (if ((remI .i64 n_ (gt ([2, 3, 5, 7, 11, 13, 17, 19, 23, 29, 31, 37] : List Int) p4)) == 0) then (n_ == (gt ([2, 3, 5, 7, 11, 13, 17, 19, 23, 29, 31, 37] : List Int) p4)) else (ag4 (p4 + 1))) else (if (decide (n_ ≥ 2305843009213693952)) then (default : Bool) else (iter (((12 : Int) - 0).toNat + 1) (fun (ag15 : Int → Bool) (p15 : Int) => (if (decide (p15 < (12 : Int))) then (letk (specieref05_strong n_ (gt ([2, 3, 5, 7, 11, 13, 17, 19, 23, 29, 31, 37] : List Int) p15)) (fun (x19 : Bool) => (if (!x19) then false else (ag15 (p15 + 1))))) else true)) (fun _ => default) 0)))) (fun _ => default) 0))
def specieref10_Valid (g : S_api_Group) : Bool :=
 (if (decide (g.P < 3)) then false else (if (decide (g.P ≥ 2305843009213693952)) then false else (if (decide (g.Q < 3)) then false else (if ((remI .i64 g.Q 2) == 0) then false else (if ((remI .i64 (subI .i64 g.P 1) g.Q) != 0) then false else (if (decide (g.G < 2)) then false else (if (decide (g.G ≥ g.P)) then false else (letk (specieref05_Is (g.P)) (fun (x16 : Bool) => (if x16 then (letk (specieref05_Is (g.Q)) (fun (x20 : Bool) => (if x20 then (letk (specieref01_Pow (g.G) (g.Q) (g.P)) (fun (x24 : Int) => (x24 == 1))) else false))) else false))))))))))
def specieref10_Member (g : S_api_Group) (x_ : Int) : Bool :=
 (if (decide (x_ ≥ 1)) then (if (decide (x_ < g.P)) then (letk (specieref01_Pow x_ (g.Q) (g.P)) (fun (x5 : Int) => (x5 == 1))) else false) else false)
def specieref11_Valid (b : S_api_Bases) : Bool :=
 (letk (specieref10_Valid (b.Group)) (fun (x1 : Bool) => (if x1 then (if (b.G1 != 1) then (if (b.G2 != 1) then (if (b.H != 1) then (letk (specieref10_Member (b.Group) (b.G1)) (fun (x13 : Bool) => (if x13 then (letk (specieref10_Member (b.Group) (b.G2)) (fun (x19 : Bool) => (if x19 then (letk (specieref10_Member (b.Group) (b.H)) (fun (x25 : Bool) => x25)) else false))) else false))) else false) else false) else false) else false)))
def specieref01_Reduce (a_ : Int) (m : Int) : Int :=
 (if (decide ((remI .i64 a_ m) < 0)) then (addI .i64 (remI .i64 a_ m) m) else (remI .i64 a_ m))
def specieref10_Power (g : S_api_Group) (a_ : Int) (e_ : Int) : Int :=
 (letk (specieref01_Reduce e_ (g.Q)) (fun (x1 : Int) => (letk (specieref01_Pow a_ x1 (g.P)) (fun (x4 : Int) => x4))))
def specieref10_Mul (g : S_api_Group) (a_ : Int) (b : Int) : Int :=
 (letk (specieref01_Mul a_ b (g.P)) (fun (x1 : Int) => x1))
def specieref31_pair (b : S_api_Bases) (x_ : Int) (y : Int) : Int :=
 (letk (specieref10_Power (b.Group) (b.G1) x_) (fun (x1 : Int) => (letk (specieref10_Power (b.Group) (b.G2) y) (fun (x4 : Int) => (letk (specieref10_Mul (b.Group) x1 x4) (fun (x7 : Int) => x7))))))
def specieref31_Message (b : S_api_Bases) (u : Int) : Int :=
 (letk (specieref31_pair b u 1) (fun (x1 : Int) => x1))
def specieref31_User (b : S_api_Bases) (u : Int) : Bool :=
 (if (decide (u ≥ 1)) then (if (decide (u < b.Group.Q)) then (letk (specieref31_Message b u) (fun (x5 : Int) => (x5 != 1))) else false) else false)
def specieref31_Depth (d_ : Int) : Bool :=
 (if (decide (d_ ≥ 0)) then (decide (d_ ≤ 5)) else false)
def specieref31_Scalar (g : S_api_Group) (x_ : Int) : Bool :=
 (if (decide (x_ ≥ 0)) then (decide (x_ < g.Q)) else false)
def specieref31_Leaves (b : S_api_Bases) (x_ : (List (List Int))) : (List Int) :=
 (iter (((x_.length : Int) - 0).toNat + 1) (fun (ag1 : (Int × List Int) → (List Int)) (p1 : Int × List Int) => (if (decide (p1.1 < (x_.length : Int))) then (letk (specieref31_pair b (gt (gt x_ p1.1) 0) (gt (gt x_ p1.1) 1)) (fun (x5 : Int) => (ag1 ((p1.1 + 1), (p1.2 ++ ([x5] : List Int)))))) else p1.2)) (fun _ => default) (0, ([] : List Int)))
def specieref31_has (l : (List Int)) (x_ : Int) : Bool :=
 (iter (((l.length : Int) - 0).toNat + 1) (fun (ag1 : Int → Bool) (p1 : Int) => (if (decide (p1 < (l.length : Int))) then (if ((gt l p1) == x_) then true else (ag1 (p1 + 1))) else false)) (fun _ => default) 0)
def specieref31_Secret (b : S_api_Bases) (s : S_api_CoinSecret) : Bool :=
 (letk (specieref27_Depth (s.X.length : Int)) (fun (x1 : Int) => (letk (specieref11_Valid b) (fun (x4 : Bool) => (if (!x4) then false else (letk (specieref31_User b (s.U)) (fun (x10 : Bool) => (if (!x10) then false else (if (decide (s.S < 1)) then false else (if (decide (s.S ≥ b.Group.Q)) then false else (letk (specieref31_Depth x1) (fun (x19 : Bool) => (if (!x19) then false else (iter (((s.X.length : Int) - 0).toNat + 1) (fun (ag25 : Int → Bool) (p25 : Int) => (if (decide (p25 < (s.X.length : Int))) then (letk (specieref31_Scalar (b.Group) (gt (gt s.X p25) 0)) (fun (x29 : Bool) => (if (!x29) then false else (letk (specieref31_Scalar (b.Group) (gt (gt s.X p25) 1)) (fun (x33 : Bool) => (if (!x33) then false else (ag25 (p25 + 1)))))))) else (letk (specieref31_Leaves b (s.X)) (fun (x41 : (List Int)) => (iter (((x41.length : Int) - 0).toNat + 1) (fun (ag44 : Int → Bool) (p44 : Int) => (if (decide (p44 < (x41.length : Int))) then (letk (specieref31_has (sl x41 0 p44) (gt x41 p44)) (fun (x48 : Bool) => (if x48 then false else (ag44 (p44 + 1))))) else true)) (fun _ => default) 0))))) (fun _ => default) 0))))))))))))))
def tree_Path_1 (h_ : (List Int)) (c0 : S_api_Path) : S_api_Path :=
 ({ Index := c0.Index, L := (c0.L ++ ([h_] : List (List Int))) } : S_api_Path)
def tree_Path (l : (List (List Int))) (level : Int) (index : Int) : (S_api_Path × Int) :=
 (letk (tree_open l level index) (fun (x1 : ((List (List (List Int))) × Int)) => (if (x1.2 != 0) then (z_api_Path, x1.2) else (iter (level.toNat + 1) (fun (ag8 : (Int × Int × Int × List (List Int)) → (S_api_Path × Int)) (p8 : Int × Int × Int × List (List Int)) => (if (decide (p8.1 > 0)) then (letk (tree_Path_1 (gt (gt x1.1 p8.1) (xorI .i64 p8.2.1 1)) ({ Index := p8.2.2.1, L := p8.2.2.2 } : S_api_Path)) (fun (x13 : S_api_Path) => (ag8 ((subI .i64 p8.1 1), (quoI .i64 p8.2.1 2), x13.Index, x13.L)))) else (({ Index := p8.2.2.1, L := p8.2.2.2 } : S_api_Path), 0))) (fun _ => default) (level, index, index, ([] : List (List Int)))))))
def tree_Follow (h_ : (List Int)) (level : Int) (p_ : S_api_Path) : ((List Int) × Int) :=
 (if (decide (level < 0)) then ([0, 0, 0, 0, 0, 0, 0, 0, 0, 0, 0, 0, 0, 0, 0, 0, 0, 0, 0, 0, 0, 0, 0, 0, 0, 0, 0, 0, 0, 0, 0, 0], 2) else (if (decide (level > 10)) then ([0, 0, 0, 0, 0, 0, 0, 0, 0, 0, 0, 0, 0, 0, 0, 0, 0, 0, 0, 0, 0, 0, 0, 0, 0, 0, 0, 0, 0, 0, 0, 0], 2) else (if (decide (p_.Index < 0)) then ([0, 0, 0, 0, 0, 0, 0, 0, 0, 0, 0, 0, 0, 0, 0, 0, 0, 0, 0, 0, 0, 0, 0, 0, 0, 0, 0, 0, 0, 0, 0, 0], 2) else (if (decide (p_.Index ≥ (shlI .i64 1 level))) then ([0, 0, 0, 0, 0, 0, 0, 0, 0, 0, 0, 0, 0, 0, 0, 0, 0, 0, 0, 0, 0, 0, 0, 0, 0, 0, 0, 0, 0, 0, 0, 0], 2) else (if ((p_.L.length : Int) != level) then ([0, 0, 0, 0, 0, 0, 0, 0, 0, 0, 0, 0, 0, 0, 0, 0, 0, 0, 0, 0, 0, 0, 0, 0, 0, 0, 0, 0, 0, 0, 0, 0], 3) else (iter (((p_.L.length : Int) - 0).toNat + 1) (fun (ag13 : (Int × Int × (List Int)) → ((List Int) × Int)) (p13 : Int × Int × (List Int)) => (if (decide (p13.2.1 < (p_.L.length : Int))) then (if ((remI .i64 p13.1 2) == 0) then (letk (tree_inner (p13.2.2) (gt p_.L p13.2.1)) (fun (x19 : (List Int)) => (ag13 ((quoI .i64 p13.1 2), (p13.2.1 + 1), x19)))) else (letk (tree_inner (gt p_.L p13.2.1) (p13.2.2)) (fun (x23 : (List Int)) => (ag13 ((quoI .i64 p13.1 2), (p13.2.1 + 1), x23))))) else (p13.2.2, 0))) (fun _ => default) (p_.Index, 0, h_)))))))
def tree_Verify (root : (List Int)) (h_ : (List Int)) (level : Int) (p_ : S_api_Path) : Bool :=
 (letk (tree_Follow h_ level p_) (fun (x1 : ((List Int) × Int)) => (if (x1.2 == 0) then (q_arr40 (x1.1) root) else false)))
def slices_Clone_int_int (s : List Int) : List Int := s
def cpad (l c : List Int) : List Int := c ++ List.replicate (l.length - c.length) 0
def slices_Sort_int_int (s : List Int) : List Int := s.mergeSort fun x y => decide (x ≤ y)
def slices_Compact_int_int (s : List Int) : List Int := Go.Lib.compact s
def specielaw31_CoinTrees (b : S_api_Bases) (s : S_api_CoinSecret) (which : Int) : Bool :=
 (letk (specielaw31_awake) (fun (x1 : Bool) => (if (!x1) then (letk (specielaw31_awake) (fun (x96 : Bool) => x96)) else (if (decide ((s.X.length : Int) > 32)) then (letk (specielaw31_awake) (fun (x92 : Bool) => x92)) else (letk (specieref31_Secret b s) (fun (x8 : Bool) => (if (!x8) then (letk (specielaw31_awake) (fun (x14 : Bool) => x14)) else (letk (coin_Leaves b s) (fun (x18 : ((List Int) × Int)) => (letk (coin_Hashes b (x18.1)) (fun (x21 : ((List (List Int)) × Int)) => (letk (coin_Root b (x18.1)) (fun (x24 : ((List Int) × Int)) => (if (x18.2 != 0) then false else (if (x21.2 != 0) then false else (if (x24.2 != 0) then false else (if ((x18.1.length : Int) != (s.X.length : Int)) then false else (if ((x21.1.length : Int) != (x18.1.length : Int)) then false else (letk (group_Power (b.Group) (b.G1) (gt (gt s.X (remI .i64 (convI .i64 which) (x18.1.length : Int))) 0)) (fun (x39 : (Int × Int)) => (letk (group_Power (b.Group) (b.G2) (gt (gt s.X (remI .i64 (convI .i64 which) (x18.1.length : Int))) 1)) (fun (x41 : (Int × Int)) => (if (x39.2 != 0) then false else (if (x41.2 != 0) then false else (letk (group_Mul (b.Group) (x39.1) (x41.1)) (fun (x48 : (Int × Int)) => (letk (tree_Depth (x18.1.length : Int)) (fun (x51 : (Int × Int)) => (if (x48.2 != 0) then false else (if (x51.2 != 0) then false else (if (x48.1 != (gt x18.1 (remI .i64 (convI .i64 which) (x18.1.length : Int)))) then false else (letk (tree_Path (x21.1) (x51.1) (remI .i64 (convI .i64 which) (x18.1.length : Int))) (fun (x62 : (S_api_Path × Int)) => (if (x62.2 != 0) then false else (letk (tree_Verify (x24.1) (gt x21.1 (remI .i64 (convI .i64 which) (x18.1.length : Int))) (x51.1) (x62.1)) (fun (x68 : Bool) => (if (!x68) then false else (letk (slices_Clone_int_int (x18.1)) (fun (x74 : (List Int)) => (letk (slices_Sort_int_int x74) (fun (x78 : (List Int)) => (letk (slices_Compact_int_int x78) (fun (x81 : (List Int)) => (((x81.length - 0 : Nat) : Int) == (x18.1.length : Int)))))))))))))))))))))))))))))))))))))))))))))
end Go.Proofs.YtjnikknlcmbcmaaGreatDoor
namespace Go.Proofs.YtjnikknlcmbcmaaGreatDoor
open Go.RowKit
theorem w64 (a : Int) : IntKind.wrap .u64 a = a % 18446744073709551616 := by simp [IntKind.wrap, IntKind.bits, IntKind.signed]
theorem shr_eq {k : IntKind} {x : Int} {n : Int} {m : Nat} (hn : min n.toNat k.bits = m) : shrI k x n = x / 2 ^ m := by
 unfold shrI; rw [hn, Int.fdiv_eq_ediv_of_nonneg]; exact Int.le_of_lt (Int.pow_pos (by decide))
theorem shr32 (x : Int) : shrI .u64 x 32 = x / 4294967296 := shr_eq (m := 32) rfl
theorem shr58 (x : Int) : shrI .u64 x 58 = x / 288230376151711744 := shr_eq (m := 58) rfl
theorem shr1 (x : Int) : shrI .u64 x 1 = x / 2 := shr_eq (m := 1) rfl
theorem shr1i (x : Int) : shrI .i64 x 1 = x / 2 := shr_eq (m := 1) rfl
theorem tzix {x : Int} : 0 ≤ shrI .u64 (mulI .u64 x 285870213051353865) 58 ∧ shrI .u64 (mulI .u64 x 285870213051353865) 58 < 64 := by
 rw [shr58]; unfold mulI; rw [w64]; omega
def isLen (x : Int) (l : Nat) : Prop := 1 ≤ l ∧ (2 : Int) ^ (l - 1) ≤ x ∧ x < 2 ^ l
theorem bl_nat (x : Nat) : 1 ≤ x → x < 2 ^ 64 → 1 ≤ Lib.bitLen x ∧ 2 ^ (Lib.bitLen x - 1) ≤ x ∧ x < 2 ^ Lib.bitLen x := by
 induction x using Nat.strongRecOn with
 | ind x ih =>
  intro h0 h1
  by_cases h : x = 1
  ·subst h; decide
  ·obtain ⟨a1, a2, a3⟩ := ih (x / 2) (by omega) (by omega) (by omega)
   rw [Lib.bitLen_half x (by omega) h1]
   generalize Lib.bitLen (x / 2) = l at a1 a2 a3
   obtain ⟨l, rfl⟩ : ∃ k, l = k + 1 := ⟨l - 1, by omega⟩
   refine ⟨by omega, ?_, ?_⟩
   ·rw [show 1 + (l + 1) - 1 = l + 1 by omega, Nat.pow_succ]
    simp only [Nat.add_sub_cancel] at a2
    omega
   ·rw [show 1 + (l + 1) = (l + 1) + 1 by omega, Nat.pow_succ]
    omega
theorem Len64_ok {x : Int} (h0 : 1 ≤ x) (h1 : x ≤ 18446744073709551615) : ∃ l : Nat, math_bits_Len64 x = l ∧ isLen x l ∧ l ≤ 64 := by
 obtain ⟨k, rfl⟩ := Int.eq_ofNat_of_zero_le (show 0 ≤ x by omega)
 have hk : k < 2 ^ 64 := by omega
 obtain ⟨a1, a2, a3⟩ := bl_nat k (by omega) hk
 exact ⟨Lib.bitLen k, rfl, ⟨a1, by exact_mod_cast a2, by exact_mod_cast a3⟩, Lib.bitLen_le k 64 (by decide) hk⟩
theorem lz_fact {x y : Int} (hx : x = math_bits_LeadingZeros64 y) (h0 : 1 ≤ y) (h1 : y ≤ 18446744073709551615) : 0 ≤ x ∧ x ≤ 63 ∧ 9223372036854775808 ≤ shlI .u64 y (convI .u64 x) ∧ shlI .u64 y (convI .u64 x) = y * 2 ^ x.toNat := by
 obtain ⟨l, e1, ⟨e2, e3, e4⟩, e5⟩ := Len64_ok h0 h1
 have hx2 : x = 64 - (l : Int) := by
  rw [hx]; unfold math_bits_LeadingZeros64 letk; rw [e1]; simp only; unfold subI; rw [IntKind.wrap_i64]; omega
 have hc : convI .u64 x = x := conv_u64 (by omega) (by omega)
 have hn : x.toNat = 64 - l := by omega
 have hm : min (convI .u64 x).toNat IntKind.u64.bits = 64 - l := by rw [hc, hn]; show min (64 - l) 64 = _; omega
 have hp : (2 : Int) ^ l * 2 ^ (64 - l) = 18446744073709551616 := by rw [← Int.pow_add, show l + (64 - l) = 64 by omega]; decide
 have hq : (2 : Int) ^ (l - 1) * 2 ^ (64 - l) = 9223372036854775808 := by rw [← Int.pow_add, show l - 1 + (64 - l) = 63 by omega]; decide
 have h2 : (0 : Int) < 2 ^ (64 - l) := Int.pow_pos (by decide)
 have g1 := Int.mul_le_mul_of_nonneg_right e3 (Int.le_of_lt h2)
 have g2 := Int.mul_lt_mul_of_pos_right e4 h2
 rw [hp] at g2; rw [hq] at g1
 have e : shlI .u64 y (convI .u64 x) = y * 2 ^ x.toNat := by
  unfold shlI; rw [hm, w64, hn]; exact Int.emod_eq_of_lt (by omega) g2
 exact ⟨by omega, by omega, by rw [e, hn]; exact g1, e⟩
theorem and_mask {x : Int} (h0 : 0 ≤ x) (h1 : x ≤ 18446744073709551615) : andI .u64 x 4294967295 = x % 4294967296 := by
 obtain ⟨k, rfl⟩ := Int.eq_ofNat_of_zero_le h0
 unfold andI
 have e1 : (BitVec.ofInt IntKind.u64.bits (k : Int)).toNat = k := by
  show (BitVec.ofInt 64 (k : Int)).toNat = k
  rw [BitVec.toNat_ofInt]; omega
 have e2 : (BitVec.ofInt IntKind.u64.bits 4294967295).toNat = 2 ^ 32 - 1 := by decide
 rw [BitVec.toNat_and, e1, e2, Nat.and_two_pow_sub_one_eq_mod, w64]
 omega
theorem mulb {a b A : Int} (h1 : 0 ≤ a) (h2 : a ≤ A) (h3 : 0 ≤ b) (h4 : b ≤ A) : 0 ≤ a * b ∧ a * b ≤ A * A :=
 ⟨Int.mul_nonneg h1 h3, Int.mul_le_mul h2 h4 h3 (Int.le_trans h1 h2)⟩
theorem w_id {a : Int} (h0 : 0 ≤ a) (h1 : a ≤ 18446744073709551615) : IntKind.wrap .u64 a = a := by rw [w64]; omega
theorem mul64_hi {x y : Int} (hx0 : 0 ≤ x) (hx1 : x ≤ 18446744073709551615) (hy0 : 0 ≤ y) (hy1 : y ≤ 18446744073709551615) : math_bits_Mul64 x y = (x * y / 18446744073709551616, x * y % 18446744073709551616) := by
 unfold math_bits_Mul64
 rw [and_mask hx0 hx1, and_mask hy0 hy1, shr32 x, shr32 y]
 obtain ⟨x1, x0, rfl, h1, h2, h3, h4⟩ : ∃ x1 x0 : Int, x = x1 * 4294967296 + x0 ∧ 0 ≤ x1 ∧ x1 ≤ 4294967295 ∧ 0 ≤ x0 ∧ x0 ≤ 4294967295 := ⟨x / 4294967296, x % 4294967296, by omega, by omega, by omega, by omega, by omega⟩
 obtain ⟨y1, y0, rfl, g1, g2, g3, g4⟩ : ∃ y1 y0 : Int, y = y1 * 4294967296 + y0 ∧ 0 ≤ y1 ∧ y1 ≤ 4294967295 ∧ 0 ≤ y0 ∧ y0 ≤ 4294967295 := ⟨y / 4294967296, y % 4294967296, by omega, by omega, by omega, by omega, by omega⟩
 rw [show (x1 * 4294967296 + x0) / 4294967296 = x1 by omega, show (y1 * 4294967296 + y0) / 4294967296 = y1 by omega, show (x1 * 4294967296 + x0) % 4294967296 = x0 by omega, show (y1 * 4294967296 + y0) % 4294967296 = y0 by omega]
 have ea := mulb h1 h2 g1 g2
 have eb := mulb h1 h2 g3 g4
 have ec := mulb h3 h4 g1 g2
 have ed := mulb h3 h4 g3 g4
 have ex : (x1 * 4294967296 + x0) * (y1 * 4294967296 + y0) = x1 * y1 * 18446744073709551616 + (x1 * y0 + x0 * y1) * 4294967296 + x0 * y0 := by
  simp only [Int.add_mul, Int.mul_add]
  rw [show x1 * 4294967296 * (y1 * 4294967296) = x1 * y1 * 18446744073709551616 by rw [Int.mul_assoc, Int.mul_comm 4294967296 (y1 * 4294967296), Int.mul_assoc y1, ← Int.mul_assoc]; rfl, show x1 * 4294967296 * y0 = x1 * y0 * 4294967296 by rw [Int.mul_assoc, Int.mul_comm 4294967296, ← Int.mul_assoc], show x0 * (y1 * 4294967296) = x0 * y1 * 4294967296 by rw [Int.mul_assoc]]
  omega
 have em : mulI .u64 (x1 * 4294967296 + x0) (y1 * 4294967296 + y0) = ((x1 * 4294967296 + x0) * (y1 * 4294967296 + y0)) % 18446744073709551616 := by unfold mulI; rw [w64]
 have ma : mulI .u64 x1 y1 = x1 * y1 := w_id ea.1 (by omega)
 have mb : mulI .u64 x1 y0 = x1 * y0 := w_id eb.1 (by omega)
 have mc : mulI .u64 x0 y1 = x0 * y1 := w_id ec.1 (by omega)
 have md : mulI .u64 x0 y0 = x0 * y0 := w_id ed.1 (by omega)
 rw [em, ex, ma, mb, mc, md]
 generalize x1 * y1 = a at ea
 generalize x1 * y0 = b at eb
 generalize x0 * y1 = c at ec
 generalize x0 * y0 = d at ed
 rw [shr32 d]
 have t1 : addI .u64 b (d / 4294967296) = b + d / 4294967296 := w_id (by omega) (by omega)
 rw [t1, shr32 (b + d / 4294967296), and_mask (by omega) (by omega)]
 have t2 : addI .u64 ((b + d / 4294967296) % 4294967296) c = (b + d / 4294967296) % 4294967296 + c := w_id (by omega) (by omega)
 rw [t2, shr32]
 have hxy : a * 18446744073709551616 + (b + c) * 4294967296 + d ≤ 18446744073709551615 * 18446744073709551615 := by
  have := (mulb hx0 hx1 hy0 hy1).2
  omega
 have t3 : addI .u64 a ((b + d / 4294967296) / 4294967296) = a + (b + d / 4294967296) / 4294967296 := w_id (by omega) (by omega)
 rw [t3]
 have t4 : addI .u64 (a + (b + d / 4294967296) / 4294967296) (((b + d / 4294967296) % 4294967296 + c) / 4294967296) = a + (b + d / 4294967296) / 4294967296 + ((b + d / 4294967296) % 4294967296 + c) / 4294967296 := w_id (by omega) (by omega)
 rw [t4]
 congr 1
 omega
theorem lz_after {x y : Int} (hx : x = math_bits_LeadingZeros64 y) (h0 : 1 ≤ y) (h1 : y ≤ 18446744073709551615) : 0 ≤ x ∧ x ≤ 63 ∧ 0 ≤ convI .u64 x ∧ 0 ≤ subI .u64 64 (convI .u64 x) ∧ 2147483648 ≤ shrI .u64 (shlI .u64 y (convI .u64 x)) 32 ∧ shrI .u64 (shlI .u64 y (convI .u64 x)) 32 ≤ 4294967295 := by
 obtain ⟨a1, a2, a3, a4⟩ := lz_fact hx h0 h1
 have h2 : shlI .u64 y (convI .u64 x) ≤ 18446744073709551615 := (rng_shlI .u64 _ _).2
 refine ⟨a1, a2, nn_u64 _, (rng_subI .u64 _ _).1, ?_, ?_⟩ <;> rw [shr32] <;> omega
theorem dv_r {u d : Int} (h0 : 0 ≤ u) (h1 : u ≤ 18446744073709551615) (hd : 1 ≤ d) : subI .u64 u (mulI .u64 (quoI .u64 u d) d) = u % d ∧ quoI .u64 u d = u / d ∧ 0 ≤ u % d ∧ u % d < d := by
 have e1 : u.tdiv d = u / d := Int.tdiv_eq_ediv_of_nonneg h0
 have e2 : u / d ≤ u := Int.ediv_le_self _ h0
 have e3 : 0 ≤ u / d := Int.ediv_nonneg h0 (by omega)
 have e4 := Int.mul_ediv_add_emod u d
 have e5 := Int.emod_nonneg u (show d ≠ 0 by omega)
 have e6 := Int.emod_lt_of_pos u (show 0 < d by omega)
 have e7 : quoI .u64 u d = u / d := by unfold quoI; rw [e1]; exact w_id e3 (by omega)
 have e8 : 0 ≤ u / d * d := Int.mul_nonneg e3 (by omega)
 rw [Int.mul_comm] at e4
 have e9 : mulI .u64 (u / d) d = u / d * d := w_id e8 (by omega)
 refine ⟨?_, e7, e5, e6⟩
 rw [e7, e9]; exact (w_id (by omega) (by omega)).trans (by omega)
theorem dg_true {y1 y0 u a q r : Int} (ha1 : a < 4294967296) (hy0 : 0 ≤ y0) (hu : u < y1 * 4294967296 + y0) (hu0 : 0 ≤ u) (hi : q * y1 + r = u) (hr : 0 ≤ r) (ha : 0 ≤ a) (ht : q ≥ 4294967296 ∨ (q * y0 > 4294967296 * r + a)) :
  u * 4294967296 + a < q * (y1 * 4294967296 + y0) ∧ 1 ≤ q := by
 have e : q * (y1 * 4294967296 + y0) = q * y1 * 4294967296 + q * y0 := by rw [Int.mul_add, Int.mul_assoc]
 rcases ht with h | h
 ·refine ⟨?_, by omega⟩
  have h1 := Int.mul_le_mul_of_nonneg_right h (show 0 ≤ y1 * 4294967296 + y0 by omega)
  omega
 ·refine ⟨by omega, ?_⟩
  refine Int.not_lt.1 fun hq => ?_
  have := Int.mul_nonneg (show 0 ≤ -q by omega) hy0
  rw [Int.neg_mul] at this
  omega
theorem dg_false {y1 y0 u a q r : Int} (hi : q * y1 + r = u) (ht : q * y0 ≤ 4294967296 * r + a) : q * (y1 * 4294967296 + y0) ≤ u * 4294967296 + a := by
 have e : q * (y1 * 4294967296 + y0) = q * y1 * 4294967296 + q * y0 := by rw [Int.mul_add, Int.mul_assoc]
 omega
theorem dg_break {y1 y0 u a q r : Int} (ha : 0 ≤ a) (hi : q * y1 + r = u) (hr : r ≥ 4294967296) (hq : q ≤ 4294967296) (hy0 : 0 ≤ y0) (hy01 : y0 < 4294967296) : q * (y1 * 4294967296 + y0) ≤ u * 4294967296 + a := by
 have e : q * (y1 * 4294967296 + y0) = q * y1 * 4294967296 + q * y0 := by rw [Int.mul_add, Int.mul_assoc]
 have h1 := Int.mul_le_mul_of_nonneg_right hq hy0
 omega
def Dg (y1 y0 u a q : Int) : Prop := q * (y1 * 4294967296 + y0) ≤ u * 4294967296 + a ∧ u * 4294967296 + a < (q + 1) * (y1 * 4294967296 + y0)
def DgI (y1 y0 u a : Int) (p : Int × Int) : Prop := p.1 * y1 + p.2 = u ∧ 0 ≤ p.2 ∧ p.2 < 4294967296 ∧ 0 ≤ p.1 ∧ p.1 ≤ 4294967297 ∧ u * 4294967296 + a < (p.1 + 1) * (y1 * 4294967296 + y0)
theorem dg_init {y1 y0 u a : Int} (hy1 : 2147483648 ≤ y1) (hy11 : y1 < 4294967296) (hy0 : 0 ≤ y0) (hy01 : y0 < 4294967296) (hu0 : 0 ≤ u) (hu : u < y1 * 4294967296 + y0) (ha : 0 ≤ a) (ha1 : a < 4294967296) : DgI y1 y0 u a (u / y1, u % y1) := by
 have e4 := Int.mul_ediv_add_emod u y1
 have e5 := Int.emod_nonneg u (show y1 ≠ 0 by omega)
 have e6 := Int.emod_lt_of_pos u (show 0 < y1 by omega)
 have e3 : 0 ≤ u / y1 := Int.ediv_nonneg hu0 (by omega)
 have e7 : u / y1 ≤ 4294967297 := by
  have : u / y1 < 4294967298 := (Int.ediv_lt_iff_lt_mul (by omega)).2 (by omega)
  omega
 rw [Int.mul_comm] at e4
 refine ⟨e4, e5, by show u % y1 < _; omega, e3, e7, ?_⟩
 have e8 : (u / y1 + 1) * (y1 * 4294967296 + y0) = u / y1 * y1 * 4294967296 + y1 * 4294967296 + (u / y1) * y0 + y0 := by
  rw [Int.add_mul, Int.mul_add, Int.one_mul, Int.mul_assoc]; omega
 have e9 := Int.mul_nonneg e3 hy0
 show u * 4294967296 + a < (u / y1 + 1) * (y1 * 4294967296 + y0)
 rw [e8]
 omega
theorem dg_down {y1 y0 u a q r : Int} (hy0 : 0 ≤ y0) (h : DgI y1 y0 u a (q, r)) (hu : u < y1 * 4294967296 + y0) (ha : 0 ≤ a) (ha1 : a < 4294967296) (hu0 : 0 ≤ u) (ht : q ≥ 4294967296 ∨ (q * y0 > 4294967296 * r + a)) :
  (q - 1) * y1 + (r + y1) = u ∧ 1 ≤ q ∧ u * 4294967296 + a < (q - 1 + 1) * (y1 * 4294967296 + y0) := by
 obtain ⟨h1, h2, h3, h4, h5, h6⟩ := h
 obtain ⟨a1, a2⟩ := dg_true ha1 hy0 hu hu0 h1 h2 ha ht
 refine ⟨?_, a2, ?_⟩
 ·rw [Int.sub_mul, Int.one_mul]; simp only at h1; omega
 ·rw [Int.sub_add_cancel]; exact a1
theorem dg_loop {α R : Type} {gq gr : α → Int} {mk : Int → Int → α} (hmq : ∀ q r, gq (mk q r) = q) (hmr : ∀ q r, gr (mk q r) = r) {y1 y0 u a : Int} (hy1 : 2147483648 ≤ y1) (hy11 : y1 < 4294967296) (hy0 : 0 ≤ y0) (hy01 : y0 < 4294967296) (hu0 : 0 ≤ u) (hu : u < y1 * 4294967296 + y0) (ha : 0 ≤ a) (ha1 : a < 4294967296) {F : (α → R) → α → R} {d : α → R} {j : Int → R}
  (hF : ∀ ag p, F ag p = if decide (gq p ≥ 4294967296) = true then (if decide (addI .u64 (gr p) y1 ≥ 4294967296) = true then j (subI .u64 (gq p) 1) else ag (mk (subI .u64 (gq p) 1) (addI .u64 (gr p) y1))) else
   if decide (mulI .u64 (gq p) y0 > addI .u64 (mulI .u64 4294967296 (gr p)) a) = true then (if decide (addI .u64 (gr p) y1 ≥ 4294967296) = true then j (subI .u64 (gq p) 1) else ag (mk (subI .u64 (gq p) 1) (addI .u64 (gr p) y1))) else j (gq p))
  {v : R} (hv : ∀ q, Dg y1 y0 u a q → j q = v) : ∀ (n : Nat) (p : α), DgI y1 y0 u a (gq p, gr p) → (4294967296 - gr p).toNat < n → iter n F d p = v
 | 0, p, _, h => by omega
 | n + 1, p, hI, hn => by
  rw [iter, hF]
  obtain ⟨h1, h2, h3, h4, h5, h6⟩ := hI
  simp only at h1 h2 h3 h4 h5 h6
  generalize hq : gq p = q at *
  generalize hr : gr p = r at *
  have eA : addI .u64 r y1 = r + y1 := w_id (by omega) (by omega)
  have eS : 1 ≤ q → subI .u64 q 1 = q - 1 := fun h => w_id (by omega) (by omega)
  have down : (q ≥ 4294967296 ∨ (q * y0 > 4294967296 * r + a)) → (if decide (addI .u64 r y1 ≥ 4294967296) = true then j (subI .u64 q 1) else iter n F d (mk (subI .u64 q 1) (addI .u64 r y1))) = v := by
   intro ht
   obtain ⟨d1, d2, d3⟩ := dg_down hy0 (show DgI y1 y0 u a (q, r) from ⟨h1, h2, h3, h4, h5, h6⟩) hu ha ha1 hu0 ht
   rw [eA, eS d2]
   by_cases hb : r + y1 ≥ 4294967296
   ·rw [if_pos (by simpa using hb)]
    exact hv _ ⟨dg_break ha d1 hb (by omega) hy0 hy01, d3⟩
   ·rw [if_neg (by simpa using hb)]
    exact dg_loop hmq hmr hy1 hy11 hy0 hy01 hu0 hu ha ha1 hF hv n _ (by rw [hmq, hmr]; exact ⟨d1, by show 0 ≤ r + y1; omega, by show r + y1 < _; omega, by show 0 ≤ q - 1; omega, by show q - 1 ≤ _; omega, d3⟩) (by rw [hmr]; omega)
  by_cases ht : q ≥ 4294967296
  ·rw [if_pos (by simpa using ht)]
   exact down (.inl ht)
  ·rw [if_neg (by simpa using ht)]
   have hm := mulb h4 (show q ≤ 4294967295 by omega) hy0 (show y0 ≤ 4294967295 by omega)
   have e1 : mulI .u64 q y0 = q * y0 := w_id hm.1 (by omega)
   have e2 : mulI .u64 4294967296 r = 4294967296 * r := w_id (by omega) (by omega)
   have e3 : addI .u64 (4294967296 * r) a = 4294967296 * r + a := w_id (by omega) (by omega)
   rw [e1, e2, e3]
   by_cases hc : q * y0 > 4294967296 * r + a
   ·rw [if_pos (by simpa using hc)]
    exact down (.inr hc)
   ·rw [if_neg (by simpa using hc)]
    exact hv _ ⟨dg_false h1 (by omega), h6⟩
theorem or_add {a b : Int} {s : Nat} (hs : s ≤ 63) (ha0 : 0 ≤ a) (ha : a * 2 ^ s < 18446744073709551616) (hb0 : 0 ≤ b) (hb : b < 2 ^ s) : orI .u64 (a * 2 ^ s) b = a * 2 ^ s + b := by
 obtain ⟨a, rfl⟩ := Int.eq_ofNat_of_zero_le ha0
 obtain ⟨b, rfl⟩ := Int.eq_ofNat_of_zero_le hb0
 have hp : 2 ^ s ≤ 2 ^ 63 := Nat.pow_le_pow_right (by decide) hs
 have e0 : ((a : Int) * 2 ^ s) = ((a * 2 ^ s : Nat) : Int) := by push_cast; rfl
 have ha' : a * 2 ^ s < 18446744073709551616 := by
  rw [e0] at ha
  generalize a * 2 ^ s = t at ha ⊢
  omega
 have hb' : b < 2 ^ s := by exact_mod_cast hb
 rw [e0]
 unfold orI
 have t : ∀ n : Nat, n < 18446744073709551616 → (BitVec.ofInt IntKind.u64.bits (n : Int)).toNat = n := by
  intro n hn
  show (BitVec.ofInt 64 (n : Int)).toNat = n
  rw [BitVec.toNat_ofInt]; omega
 rw [BitVec.toNat_or, t _ ha', t _ (by omega), Nat.mul_comm a, ← Nat.two_pow_add_eq_or_of_lt hb', w64]
 rw [Nat.mul_comm] at ha'
 have : 2 ^ s * a + b < 18446744073709551616 := by
  have h1 : 2 ^ s * (a + 1) ≤ 18446744073709551616 := by
   have h2 : 2 ^ s ∣ 18446744073709551616 := ⟨2 ^ (64 - s), by rw [← Nat.pow_add, show s + (64 - s) = 64 by omega]⟩
   obtain ⟨c, hc⟩ := h2
   rw [hc] at ha' ⊢
   exact Nat.mul_le_mul_left _ (Nat.lt_of_mul_lt_mul_left ha')
  rw [Nat.mul_add, Nat.mul_one] at h1
  omega
 omega
theorem mul_emod_r (a b : Int) {c : Int} (h : 0 < c) : (a * c) % (b * c) = a % b * c := by
 rw [Int.mul_comm a, Int.mul_comm b, Int.mul_emod_mul_of_pos _ _ h, Int.mul_comm]
theorem dv_asm {N y Y p u w a1 a0 q1 q0 v : Int} (hp : 0 < p) (hY : Y = y * p) (hY0 : 0 < Y) (hw : w = a1 * 4294967296 + a0) (hN : u * 18446744073709551616 + w = N * p)
  (hv : v = u * 4294967296 + a1 - q1 * Y) (h1 : q0 * Y ≤ v * 4294967296 + a0) (h2 : v * 4294967296 + a0 < (q0 + 1) * Y) :
  q1 * 4294967296 + q0 = N / y ∧ v * 4294967296 + a0 - q0 * Y = N % y * p := by
 have e : N * p = (q1 * 4294967296 + q0) * Y + (v * 4294967296 + a0 - q0 * Y) := by
  have e1 : (q1 * 4294967296 + q0) * Y = q1 * Y * 4294967296 + q0 * Y := by rw [Int.add_mul, Int.mul_right_comm]
  rw [e1]; omega
 have e2 : (q0 + 1) * Y = q0 * Y + Y := by rw [Int.add_mul, Int.one_mul]
 generalize hR : v * 4294967296 + a0 - q0 * Y = R at *
 generalize hQ : q1 * 4294967296 + q0 = Q at *
 have hR0 : 0 ≤ R := by omega
 have hR1 : R < Y := by omega
 have d : N * p / Y = Q := by
  rw [e, Int.add_comm, Int.add_mul_ediv_right _ _ (by omega), Int.ediv_eq_zero_of_lt hR0 hR1]; omega
 have m : N * p % Y = R := by rw [e, Int.add_comm, Int.add_mul_emod_self_right, Int.emod_eq_of_lt hR0 hR1]
 rw [hY] at d m
 rw [Int.mul_ediv_mul_of_pos_left _ _ hp] at d
 rw [mul_emod_r _ _ hp] at m
 exact ⟨d.symm, m.symm⟩
theorem sub_w {u a q Y : Int} (h0 : 0 ≤ u * 4294967296 + a - q * Y) (h1 : u * 4294967296 + a - q * Y ≤ 18446744073709551615) : subI .u64 (addI .u64 (mulI .u64 u 4294967296) a) (mulI .u64 q Y) = u * 4294967296 + a - q * Y := by
 unfold subI addI mulI
 simp only [w64]
 generalize q * Y = T at *
 omega
theorem add_w {q r : Int} (h0 : 0 ≤ q * 4294967296 + r) (h1 : q * 4294967296 + r ≤ 18446744073709551615) : addI .u64 (mulI .u64 q 4294967296) r = q * 4294967296 + r := by
 unfold addI mulI
 simp only [w64]
 omega
theorem letj_gen {α R : Type} {f : α → R} {G : (α → R) → R} {v : R} (h : ∀ j, j = f → G j = v) : letj f G = v := h f rfl
set_option maxRecDepth 4000 in
theorem Div64_eq {hi lo y : Int} (hh0 : 0 ≤ hi) (hl0 : 0 ≤ lo) (hl1 : lo ≤ 18446744073709551615) (hy : hi < y) (hy1 : y ≤ 18446744073709551615) : math_bits_Div64 hi lo y = ((hi * 18446744073709551616 + lo) / y, (hi * 18446744073709551616 + lo) % y) := by
 unfold math_bits_Div64
 rw [if_neg (by simp; omega), if_neg (by simp; omega)]
 by_cases h0 : hi = 0
 ·subst h0
  rw [if_pos (by decide)]
  have e1 : lo.tdiv y = lo / y := Int.tdiv_eq_ediv_of_nonneg hl0
  have e2 : lo / y ≤ lo := Int.ediv_le_self _ hl0
  have e3 : 0 ≤ lo / y := Int.ediv_nonneg hl0 (by omega)
  have e4 : quoI .u64 lo y = lo / y := by unfold quoI; rw [e1]; exact w_id e3 (by omega)
  have e5 : remI .u64 lo y = lo % y := Int.tmod_eq_emod_of_nonneg hl0
  rw [e4, e5]; simp
 ·rw [if_neg (by simpa using h0)]
  obtain ⟨s, hs⟩ : ∃ s, s = math_bits_LeadingZeros64 y := ⟨_, rfl⟩
  obtain ⟨s0, s1, s2, s3⟩ := lz_fact hs (by omega) hy1
  have hY := (rng_shlI .u64 y (convI .u64 s)).2
  simp only [letk, ← hs]
  obtain ⟨k, rfl⟩ := Int.eq_ofNat_of_zero_le s0
  rw [s3] at s2 hY
  simp only [Int.toNat_natCast] at s2 s3 hY
  rw [s3]
  have hk : k ≤ 63 := by omega
  have hp : (0 : Int) < 2 ^ k := Int.pow_pos (by decide)
  have hp2 : (2 : Int) ^ k * 2 ^ (64 - k) = 18446744073709551616 := by rw [← Int.pow_add, show k + (64 - k) = 64 by omega]; rfl
  have hc : convI .u64 (k : Int) = k := conv_u64 (by omega) (by omega)
  have hYm : y * 2 ^ k ≤ 18446744073709551615 := by show _ ≤ (18446744073709551615 : Int); exact hY
  -- the high part
  have hhi : hi * 2 ^ k < y * 2 ^ k := Int.mul_lt_mul_of_pos_right hy hp
  have m1 : shlI .u64 hi (k : Int) = hi * 2 ^ k := by
   unfold shlI
   rw [Int.toNat_natCast, show min k IntKind.u64.bits = k by show min k 64 = k; omega]
   exact w_id (Int.mul_nonneg hh0 (Int.le_of_lt hp)) (by omega)
  have m2 : shrI .u64 lo (subI .u64 64 (k : Int)) = lo / 2 ^ (64 - k) := by
   have e : subI .u64 64 (k : Int) = ((64 - k : Nat) : Int) := by
    have : subI .u64 64 (k : Int) = 64 - (k : Int) := w_id (by omega) (by omega)
    omega
   rw [e]; exact shr_eq (by rw [Int.toNat_natCast]; show min (64 - k) 64 = _; omega)
  have m3 : shlI .u64 lo (k : Int) = lo * 2 ^ k % 18446744073709551616 := by
   unfold shlI
   rw [Int.toNat_natCast, show min k IntKind.u64.bits = k by show min k 64 = k; omega, w64]
  have hb0 : 0 ≤ lo / 2 ^ (64 - k) := Int.ediv_nonneg hl0 (Int.le_of_lt (Int.pow_pos (by decide)))
  have hb1 : lo / 2 ^ (64 - k) < 2 ^ k := (Int.ediv_lt_iff_lt_mul (Int.pow_pos (by decide))).2 (by rw [hp2]; omega)
  rw [hc, m1, m2, m3, or_add hk hh0 (by omega) hb0 hb1]
  -- the whole, shifted
  have hN : (hi * 2 ^ k + lo / 2 ^ (64 - k)) * 18446744073709551616 + lo * 2 ^ k % 18446744073709551616 = (hi * 18446744073709551616 + lo) * 2 ^ k := by
   have e : lo / 2 ^ (64 - k) = lo * 2 ^ k / 18446744073709551616 := by
    rw [← hp2, Int.mul_comm ((2 : Int) ^ k), Int.mul_ediv_mul_of_pos_left _ _ hp]
   rw [e, Int.add_mul, Int.add_mul (hi * 18446744073709551616), Int.mul_right_comm hi]
   omega
  have hy1' : 0 < y := by omega
  have hQ0 : 0 ≤ (hi * 18446744073709551616 + lo) / y := Int.ediv_nonneg (by omega) (by omega)
  have hQ1 : (hi * 18446744073709551616 + lo) / y < 18446744073709551616 := (Int.ediv_lt_iff_lt_mul hy1').2 (by omega)
  have hu0 : 0 ≤ hi * 2 ^ k + lo / 2 ^ (64 - k) := by have := Int.mul_nonneg hh0 (Int.le_of_lt hp); omega
  have hu1 : hi * 2 ^ k + lo / 2 ^ (64 - k) < y * 2 ^ k := by
   have h1 := Int.mul_le_mul_of_nonneg_right (show hi + 1 ≤ y by omega) (Int.le_of_lt hp)
   rw [Int.add_mul, Int.one_mul] at h1
   omega
  obtain ⟨N, hNe⟩ : ∃ N, N = hi * 18446744073709551616 + lo := ⟨_, rfl⟩
  rw [← hNe] at hN hQ0 hQ1 ⊢
  obtain ⟨Y, hYe⟩ : ∃ Y, Y = y * 2 ^ k := ⟨_, rfl⟩
  rw [← hYe] at s2 hYm hu1 ⊢
  generalize hi * 2 ^ k + lo / 2 ^ (64 - k) = u at hN hu0 hu1 ⊢
  have hW0 : 0 ≤ lo * 2 ^ k % 18446744073709551616 := Int.emod_nonneg _ (by decide)
  have hW1 : lo * 2 ^ k % 18446744073709551616 < 18446744073709551616 := Int.emod_lt_of_pos _ (by decide)
  generalize lo * 2 ^ k % 18446744073709551616 = W at hN hW0 hW1 ⊢
  rw [shr32 Y, and_mask (by omega) hYm, shr32 W, and_mask hW0 (by omega)]
  have hYs : Y / 4294967296 * 4294967296 + Y % 4294967296 = Y := by omega
  have hWs : W = W / 4294967296 * 4294967296 + W % 4294967296 := by omega
  have b1 : 2147483648 ≤ Y / 4294967296 := by omega
  have b2 : Y / 4294967296 < 4294967296 := by omega
  have b3 : 0 ≤ Y % 4294967296 := by omega
  have b4 : Y % 4294967296 < 4294967296 := by omega
  have b5 : 0 ≤ W / 4294967296 := by omega
  have b6 : W / 4294967296 < 4294967296 := by omega
  have b7 : 0 ≤ W % 4294967296 := by omega
  have b8 : W % 4294967296 < 4294967296 := by omega
  generalize Y / 4294967296 = y1 at *
  generalize Y % 4294967296 = y0 at *
  generalize W / 4294967296 = a1 at *
  generalize W % 4294967296 = a0 at *
  obtain ⟨r1, r2, r3, r4⟩ := dv_r (u := u) (d := y1) hu0 (by omega) (by omega)
  rw [r1, r2]
  refine letj_gen fun j8 hj8 => ?_
  refine dg_loop (j := j8) (gq := fun p : Int × Int => p.1) (gr := fun p => p.2) (mk := fun q r => (q, r)) (fun _ _ => rfl) (fun _ _ => rfl) b1 b2 b3 b4 hu0 (by omega) b5 b6 (by exact fun ag p => rfl) (fun q1 hq1 => ?_) _ _ (by exact dg_init b1 b2 b3 b4 hu0 (by omega) b5 b6) (by show (4294967296 - u % y1).toNat < _; omega)
  obtain ⟨g1, g2⟩ := hq1
  subst hj8
  dsimp only
  rw [hYs] at g1 g2
  have g3 : (q1 + 1) * Y = q1 * Y + Y := by rw [Int.add_mul, Int.one_mul]
  rw [g3] at g2
  have ev := sub_w (u := u) (a := a1) (q := q1) (Y := Y) (by omega) (by omega)
  rw [ev]
  obtain ⟨v, hv⟩ : ∃ v, v = u * 4294967296 + a1 - q1 * Y := ⟨_, rfl⟩
  rw [← hv]
  have hv0 : 0 ≤ v := by omega
  have hv1 : v < Y := by omega
  obtain ⟨t1, t2, t3, t4⟩ := dv_r (u := v) (d := y1) hv0 (by omega) (by omega)
  rw [t1, t2]
  refine letj_gen fun j9 hj9 => ?_
  refine dg_loop (j := j9) (gq := fun p : Int × Int => p.2) (gr := fun p => p.1) (mk := fun q r => (r, q)) (fun _ _ => rfl) (fun _ _ => rfl) b1 b2 b3 b4 hv0 (by omega) b7 b8 (by exact fun ag p => rfl) (fun q0 hq0 => ?_) _ _ (by exact dg_init b1 b2 b3 b4 hv0 (by omega) b7 b8) (by show (4294967296 - v % y1).toNat < _; omega)
  obtain ⟨f1, f2⟩ := hq0
  subst hj9
  dsimp only
  rw [hYs] at f1 f2
  obtain ⟨z1, z2⟩ := dv_asm hp hYe (by omega) hWs hN hv f1 f2
  have f3 : (q0 + 1) * Y = q0 * Y + Y := by rw [Int.add_mul, Int.one_mul]
  rw [f3] at f2
  rw [sub_w (by omega) (by omega), add_w (by omega) (by omega), z1, z2, shr_eq (m := k) (by rw [Int.toNat_natCast]; show min k 64 = k; omega), Int.mul_ediv_cancel _ (Int.ne_of_gt hp)]
theorem or_rng (a b : Int) : 0 ≤ orI .u64 a b ∧ orI .u64 a b ≤ 18446744073709551615 := rng_orI .u64 a b
theorem sub_rng (a b : Int) : 0 ≤ subI .u64 a b ∧ subI .u64 a b ≤ 18446744073709551615 := rng_subI .u64 a b
theorem add_u {a b : Int} (h0 : 0 ≤ a) (h1 : a ≤ 4294967295) (h2 : 0 ≤ b) (h3 : b ≤ 4294967295) : addI .u64 a b = a + b := w_id (by omega) (by omega)
theorem mul_hi {a b n : Int} (ha : 0 ≤ a) (hn : a < n) (hn1 : n ≤ 18446744073709551615) (hb : 0 ≤ b) (hb1 : b ≤ 18446744073709551615) : (math_bits_Mul64 a b).1 < n := by
 rw [mul64_hi ha (by omega) hb hb1]
 refine (Int.ediv_lt_iff_lt_mul (by decide)).2 ?_
 have h1 := Int.mul_le_mul (show a ≤ n - 1 by omega) hb1 hb (by omega)
 omega
theorem mul_afterN (n : Int) {a b : Int} {x : Int × Int} (hx : x = math_bits_Mul64 a b) (ha : 0 ≤ a) (hn : a < n) (hn1 : n ≤ 18446744073709551615) (hb : 0 ≤ b) (hb1 : b ≤ 18446744073709551615) : x.1 < n := hx ▸ mul_hi ha hn hn1 hb hb1
theorem dv_i {u d : Int} (h : 0 ≤ u ∧ u ≤ 18446744073709551615) (hd : 1 ≤ d) (hd1 : d ≤ 4294967295) : 0 ≤ subI .u64 u (mulI .u64 (quoI .u64 u d) d) ∧ subI .u64 u (mulI .u64 (quoI .u64 u d) d) ≤ 4294967295 := by
 obtain ⟨a1, a2, a3, a4⟩ := dv_r h.1 h.2 hd
 rw [a1]; omega
theorem prime_mul_eq {a b n : Int} (ha : 0 ≤ a) (hn : a < n) (hb : 0 ≤ b) (hb1 : b ≤ 18446744073709551615) (hn1 : n ≤ 18446744073709551615) : prime_mul a b n = a * b % n := by
 have h1 := mul_hi ha hn hn1 hb hb1
 have hp := Int.mul_nonneg ha hb
 unfold prime_mul letk
 rw [mul64_hi ha (by omega) hb hb1] at h1 ⊢
 simp only at h1 ⊢
 rw [Div64_eq (Int.ediv_nonneg hp (by decide)) (Int.emod_nonneg _ (by decide)) (by have := Int.emod_lt_of_pos (a * b) (show (0 : Int) < 18446744073709551616 by decide); omega) h1 hn1]
 simp only
 congr 1
 omega
theorem prime_mul_rng {a b n x : Int} (hx : x = prime_mul a b n) (ha : 0 ≤ a) (hn : a < n) (hb : 0 ≤ b) (hb1 : b ≤ 18446744073709551615) (hn1 : n ≤ 18446744073709551615) : 0 ≤ x ∧ x < n := by
 rw [hx, prime_mul_eq ha hn hb hb1 hn1]; exact ⟨Int.emod_nonneg _ (by omega), Int.emod_lt_of_pos _ (by omega)⟩
theorem prime_pow_rng {a e n x : Int} (hx : x = prime_pow a e n) (ha : 0 ≤ a) (hn : a < n) (h1 : 1 < n) (hn1 : n ≤ 18446744073709551615) : 0 ≤ x ∧ x < n := by
 subst hx
 unfold prime_pow
 refine iter_rule (P := fun p : Int × Int × Int => 0 ≤ p.1 ∧ p.1 < n ∧ 0 ≤ p.2.2 ∧ p.2.2 < n) (Q := fun x => 0 ≤ x ∧ x < n) (meas := fun p => p.2.1.toNat) ?_ _ _ ⟨ha, hn, show (0 : Int) ≤ 1 by decide, h1⟩ (by show e.toNat < _; omega)
 rintro ag ⟨a, e, x⟩ ⟨p1, p2, p3, p4⟩ ih
 simp only at p1 p2 p3 p4 ih ⊢
 by_cases he : e > 0
 ·rw [if_pos (by simpa using he)]
  have hs : (shrI .u64 e 1).toNat < e.toNat := by rw [shr1]; omega
  simp only [letk]
  by_cases hc : (andI .u64 e 1 == 1) = true
  ·rw [if_pos hc]
   have m1 := prime_mul_rng (x := prime_mul x a n) rfl p3 p4 p1 (by omega) hn1
   have m2 := prime_mul_rng (x := prime_mul a a n) rfl p1 p2 p1 (by omega) hn1
   exact ih _ ⟨m2.1, m2.2, m1.1, m1.2⟩ hs
  ·rw [if_neg hc]
   have m2 := prime_mul_rng (x := prime_mul a a n) rfl p1 p2 p1 (by omega) hn1
   exact ih _ ⟨m2.1, m2.2, p3, p4⟩ hs
 ·rw [if_neg (by simpa using he)]
  exact ⟨p3, p4⟩
@[go_sem] theorem ltL_ints {n : Nat} {k : IntKind} : ∀ {l : List Int}, ltL n (l.map (V.int k)) = True
 | [] => by simp [ltL]
 | a :: l => by simp only [List.map_cons, ltL, ltL_ints (l := l), ltV, and_self]
@[go_sem] theorem elt_lit3 {k : IntKind} {a b c i : Int} : elt [V.int k a, V.int k b, V.int k c] i.toNat (V.int k 0) = V.int k (gt [a, b, c] i) := by
 unfold elt gt
 match i.toNat with
 | 0 => rfl
 | 1 => rfl
 | 2 => rfl
 | n + 3 => rfl
theorem kg2_len : kg_0.length = 12 := rfl
theorem kg2_all : kg_0.all (fun x => decide (2 ≤ x) && decide (x ≤ 37)) = true := by decide
theorem kg2_rng {j : Int} (h0 : 0 ≤ j) (h1 : j < 12) : 2 ≤ gt kg_0 j ∧ gt kg_0 j ≤ 37 := by
 have hm : gt kg_0 j ∈ kg_0 := gt_mem (by show j.toNat < 12; omega)
 simpa using List.all_eq_true.1 kg2_all _ hm
def NoDiv (u i : Int) : Prop := ∀ k : Int, 0 ≤ k → k < i → u % gt kg_0 k ≠ 0
theorem NoDiv_zero {u : Int} : NoDiv u 0 := fun k h0 h1 => by omega
theorem NoDiv_step {u i : Int} (h : NoDiv u i) (hu : 0 ≤ u) (h0 : 0 ≤ i) (h1 : i < 12) (hr : ¬ remI .u64 u (gt kg_0 i) = 0) : NoDiv u (i + 1) := by
 intro k k0 k1
 by_cases hk : k < i
 ·exact h k k0 hk
 ·obtain rfl : k = i := by omega
  rwa [show remI .u64 u (gt kg_0 k) = u % gt kg_0 k from Int.tmod_eq_emod_of_nonneg hu] at hr
theorem NoDiv_small : ∀ u : Fin 38, 2 ≤ u.val → ∃ k : Fin 12, ((u.val : Nat) : Int) % kg_0.getD k.val 0 = 0 := by decide
theorem NoDiv_all {u i : Int} (h : NoDiv u i) (hi : 12 ≤ i) (h2 : 2 ≤ u) : 37 < u := by
 refine Int.not_le.1 fun hu => ?_
 obtain ⟨k, hk⟩ := NoDiv_small ⟨u.toNat, by omega⟩ (by show 2 ≤ u.toNat; omega)
 refine h (k.val : Int) (by omega) (by omega) ?_
 have e : ((u.toNat : Nat) : Int) = u := by omega
 rw [← e, gt_nat]
 exact hk
theorem kg5_all : kg_4.all (fun x => decide (0 ≤ x) && decide (x ≤ 63)) = true := by decide
theorem tz_rng {a x : Int} (hx : x = math_bits_TrailingZeros64 a) : 0 ≤ x ∧ x ≤ 64 := by
 subst hx
 unfold math_bits_TrailingZeros64
 split
 ·omega
 ·have hi := tzix (x := andI .u64 a (negI .u64 a))
  have hm := gt_mem (l := kg_4) (i := shrI .u64 (mulI .u64 (andI .u64 a (negI .u64 a)) 285870213051353865) 58) (by show _ < 64; omega)
  have := List.all_eq_true.1 kg5_all _ hm
  simp only [Bool.and_eq_true, decide_eq_true_eq] at this
  rw [conv_i64 (by omega) (by omega)]; omega
theorem si64 {x : Int} (h0 : 0 ≤ x) (h1 : x ≤ 64) : subI .i64 x 1 = x - 1 := by unfold subI; rw [IntKind.wrap_i64]; omega
theorem rem1_rng {m : Int} (h : 1 ≤ m) : 0 ≤ remI .i64 1 m ∧ remI .i64 1 m < m := by
 rw [show remI .i64 1 m = 1 % m from Int.tmod_eq_emod_of_nonneg (by decide)]
 exact ⟨Int.emod_nonneg _ (by omega), Int.emod_lt_of_pos _ (by omega)⟩
theorem word_check_ok0 {a b m : Int} (h : word_check a b m = 0) : 1 ≤ m ∧ m < 2305843009213693952 ∧ 0 ≤ a ∧ a < m ∧ 0 ≤ b ∧ b < m := by
 unfold word_check at h
 simp only [letk, word_residue] at h
 repeat' (split at h)
 all_goals simp_all
 all_goals omega
instance word_check_cf (a b m : Int) : CF (word_check a b m) (fun x => x = 0 → 1 ≤ m ∧ m < 2305843009213693952 ∧ 0 ≤ a ∧ a < m ∧ 0 ≤ b ∧ b < m) := ⟨word_check_ok0⟩
theorem nn_of_all {l : List Int} (h : l.all (fun x => decide (0 ≤ x)) = true) : ∀ j : Int, 0 ≤ j → j.toNat < l.length → 0 ≤ gt l j := fun j _ h1 => by simpa using List.all_eq_true.1 h _ (gt_mem h1)
theorem lits_nn : ∀ j : Int, 0 ≤ j → j.toNat < ([0, 1, 2, 3, 4, 5] : List Int).length → 0 ≤ gt ([0, 1, 2, 3, 4, 5] : List Int) j := nn_of_all (by decide)
theorem cu63 {x : Int} (h0 : 0 ≤ x) (h1 : x ≤ 9223372036854775807) : convI .u64 x = x := conv_u64 h0 (by omega)
theorem word_mul_eq {a b n : Int} (ha : 0 ≤ a) (hn : a < n) (hb : 0 ≤ b) (hb1 : b ≤ 9223372036854775807) (hn1 : n ≤ 9223372036854775807) : word_mul a b n = a * b % n := by
 have h := prime_mul_eq ha hn hb (by omega) (by omega)
 have e : word_mul a b n = convI .i64 (prime_mul (convI .u64 a) (convI .u64 b) (convI .u64 n)) := rfl
 have c1 : convI .u64 a = a := conv_u64 ha (by omega)
 have c2 : convI .u64 b = b := conv_u64 hb (by omega)
 have c3 : convI .u64 n = n := conv_u64 (by omega) (by omega)
 rw [e, c1, c2, c3, h]
 have := Int.emod_nonneg (a * b) (show n ≠ 0 by omega)
 have := Int.emod_lt_of_pos (a * b) (show 0 < n by omega)
 exact conv_i64 (by omega) (by omega)
theorem word_mul_rng {a b n x : Int} (hx : x = word_mul a b n) (ha : 0 ≤ a) (hn : a < n) (hb : 0 ≤ b) (hb1 : b ≤ 9223372036854775807) (hn1 : n ≤ 9223372036854775807) : 0 ≤ x ∧ x < n := by
 rw [hx, word_mul_eq ha hn hb hb1 hn1]; exact ⟨Int.emod_nonneg _ (by omega), Int.emod_lt_of_pos _ (by omega)⟩
end Go.Proofs.YtjnikknlcmbcmaaGreatDoor
namespace Go.Proofs.YtjnikknlcmbcmaaGreatDoor
open Go.RowKit
set_option linter.unusedVariables false
set_option linter.unusedSimpArgs false
theorem encode_within_eqM (i : S_api_Item) (d : Int) : encode_within i d = withinM i d := by
 obtain ⟨k, n, b, l⟩ := i
 have hany : slices_ContainsFunc_api_Item_api_Item_at_encode_within_1 l d = !(withinL l (d - 1)) := by
  have h := iter_any (l := l) (C := fun x => encode_within_1 x d) (d := fun _ => default) (F := fun ag1 p1 => if decide (p1 < (l.length : Int)) then (letk (encode_within_1 (gt l p1) d) (fun x4 => if x4 then p1 else ag1 (p1 + 1))) else -1) (fun ag p => rfl)
  have h2 : slices_ContainsFunc_api_Item_api_Item_at_encode_within_1 l d = l.any (fun x => encode_within_1 x d) := h
  rw [h2, withinL_all, List.not_all_eq_any_not]; rfl
 unfold encode_within
 simp only [letk, withinM, hany, Bool.not_not]
 by_cases e1 : k = 1
 ·subst e1; cases b with
  | nil => cases l with
   | nil => simp
   | cons y l => simp; omega
  | cons x b => simp; omega
 by_cases e2 : k = 2
 ·subst e2; cases l with
  | nil => simp [Bool.beq_eq_decide_eq]
  | cons y l => simp; omega
 by_cases e3 : k = 3
 ·subst e3
  by_cases h0 : n = 0
  ·cases b with
   | nil =>
    by_cases h1 : 0 < d
    ·by_cases h2 : l.length ≤ 1000
     ·have h2' : (l.length : Int) ≤ 1000 := by omega
      simp [h0, h1, h2, h2']
     ·have h2' : ¬ (l.length : Int) ≤ 1000 := by omega
      simp [h0, h1, h2, h2']
    ·simp [h0, h1]
   | cons x b => simp [h0]; omega
  ·simp [h0]
 ·simp [e1, e2, e3]
theorem be_cons : ∀ {k : Nat} {n : Int}, be (k + 1) n = (n / 256 ^ k) % 256 :: be k n
 | 0, n => by simp [be]
 | k + 1, n => by
  rw [be, be_cons (k := k), be]
  simp only [List.cons_append, List.cons.injEq, and_true]
  rw [Int.ediv_ediv_of_nonneg (by omega), Int.pow_succ, Int.mul_comm (256 ^ k)]
theorem num_loop {n : Int} {F : (Int × List Int → List Int) → Int × List Int → List Int} {d : Int × List Int → List Int}
  (hF : ∀ ag p, F ag p = if decide (p.1 ≥ 0) = true then ag (p.1 - 1, p.2 ++ [convI .u8 (shrI .u64 n (8 * p.1))]) else p.2) :
  ∀ (k fuel : Nat) (out : List Int), k ≤ 8 → k < fuel → iter fuel F d ((k : Int) - 1, out) = out ++ be k n
 | 0, fuel, out, _, hf => by
  obtain ⟨m, rfl⟩ : ∃ m, fuel = m + 1 := ⟨fuel - 1, by omega⟩
  rw [iter, hF]; simp [be]
 | k + 1, fuel, out, hk, hf => by
  obtain ⟨m, rfl⟩ : ∃ m, fuel = m + 1 := ⟨fuel - 1, by omega⟩
  rw [iter, hF, if_pos (by simp)]
  have e1 : convI .u8 (shrI .u64 n (8 * (((k + 1 : Nat) : Int) - 1))) = (n / 256 ^ k) % 256 := by
   have e2 : (8 * (((k + 1 : Nat) : Int) - 1)).toNat = 8 * k := by omega
   unfold convI shrI
   rw [e2, show min (8 * k) (IntKind.bits .u64) = 8 * k by show min (8 * k) 64 = 8 * k; omega, Int.fdiv_eq_ediv_of_nonneg _ (Int.le_of_lt (Int.pow_pos (by omega))), Int.pow_mul]
   rfl
  simp only
  rw [e1, show ((k + 1 : Nat) : Int) - 1 - 1 = (k : Int) - 1 by omega, num_loop hF k m _ (by omega) (by omega), be_cons]
  simp
theorem number_eq {out : List Int} {n size : Int} (h0 : 0 ≤ size) (h1 : size ≤ 8) : encode_number out n size = out ++ be size.toNat n := by
 unfold encode_number
 have := num_loop (n := n) (d := fun _ => default) (fun ag p => rfl) size.toNat ((size - 1 + 1).toNat + 1) out (by omega) (by omega)
 rw [show ((size.toNat : Nat) : Int) = size by omega] at this
 exact this
theorem num_le {out x : List Int} {n size : Int} (h : x = encode_number out n size) : ¬ (0 ≤ size ∧ size ≤ 8) ∨ (x.length : Int) = out.length + size := by
 by_cases hs : 0 ≤ size ∧ size ≤ 8
 ·right; rw [h, number_eq hs.1 hs.2]; simp [be_len]; omega
 ·exact .inl hs
theorem be_u64_8 {n : Int} : be 8 (convI .u64 n) = be 8 n := by
 apply be_mod
 have h8 : (256 : Int) ^ 8 = 18446744073709551616 := by decide
 have : convI .u64 n = n % 18446744073709551616 := rfl
 rw [this, h8]; omega
theorem be_u64_4 {n : Int} : be 4 (convI .u64 n) = be 4 n := by
 apply be_mod
 have h8 : (256 : Int) ^ 4 = 4294967296 := by decide
 have : convI .u64 n = n % 18446744073709551616 := rfl
 rw [this, h8]; omega
theorem writeL_fold : ∀ {l : List S_api_Item} {out : List Int}, writeL out l = l.foldl writeM out
 | [], _ => rfl
 | x :: l, out => by simp only [writeL, List.foldl_cons]; exact writeL_fold
theorem encode_write_eqM (out : List Int) (i : S_api_Item) : encode_write out i = writeM out i := by
 obtain ⟨k, n, b, l⟩ := i
 unfold encode_write
 simp only [letk, writeM]
 by_cases hl : out.length > 16384
 ·have : (out.length : Int) > 16384 := by omega
  simp [hl, this]
 have hl' : ¬ (out.length : Int) > 16384 := by omega
 by_cases e1 : k = 1
 ·subst e1
  have : convI .u8 1 = 1 := rfl
  simp [hl, hl', number_eq, this, be_u64_8]
 by_cases e2 : k = 2
 ·subst e2
  have : convI .u8 2 = 2 := rfl
  simp [hl, hl', number_eq, this, be_u64_4]
 have hk : convI .u8 k = k % 256 := rfl
 simp only [hl, hl', e1, e2, decide_false, Bool.false_eq_true, if_false, beq_iff_eq, number_eq (show (0 : Int) ≤ 4 by decide) (show (4 : Int) ≤ 8 by decide), hk, Int.reduceToNat, be_u64_4]
 rw [iter_run (l := l) (fun a s => .inl (writeM s a)) (fun s => s) (fun ag i s => by by_cases h : i < (l.length : Int) <;> simp [h]), foldE_l, writeL_fold]
 simp
theorem n44 : ¬ (((4 : Int) != 4) = true) := by decide
theorem n11 : ¬ (((1 : Int) != 1) = true) := by decide
theorem letk_go {α β : Type} {a : α} {f : α → β} {r : β} (h : ∀ x, x = a → f x = r) : letk a f = r := h a rfl
end Go.Proofs.YtjnikknlcmbcmaaGreatDoor
namespace Go.Proofs.YtjnikknlcmbcmaaGreatDoor
open Go.RowKit
instance clone_cf {s : List Int} : CF (bytes_Clone s) (fun x => x.length = s.length) := ⟨rfl⟩
theorem count_list (n : Int) : digest_count n = [convI .u8 (shrI .u64 n 56), convI .u8 (shrI .u64 n 48), convI .u8 (shrI .u64 n 40), convI .u8 (shrI .u64 n 32), convI .u8 (shrI .u64 n 24), convI .u8 (shrI .u64 n 16), convI .u8 (shrI .u64 n 8), convI .u8 (shrI .u64 n 0)] := by kernel_rfl
instance count_cf {n : Int} : CF (digest_count n) (fun x => x.length = 8) := ⟨by rw [count_list]; rfl⟩
end Go.Proofs.YtjnikknlcmbcmaaGreatDoor
namespace Go.Proofs.YtjnikknlcmbcmaaGreatDoor
open Go.RowKit
set_option linter.unusedVariables false
set_option linter.unusedSimpArgs false
theorem encode_len {i : S_api_Item} {x : List Int × Int} (h : x = encode_Encode i) : x.1.length ≤ 16384 := by
 rw [h]
 unfold encode_Encode
 simp only [letk]
 split
 ·simp
 ·split
  ·simp
  ·rename_i h2
   have h3 : ((writeM [] i).length : Int) ≤ 16384 := by simpa using h2
   show (writeM [] i).length ≤ 16384
   omega
theorem rem_nn {a b : Int} (h : 0 ≤ a) : remI .i64 a b = a % b := Int.tmod_eq_emod_of_nonneg h
theorem dbl_step {m o a b' : Int} : ((o + a) % m + ((a + a) % m) * b') % m = (o + a * (2 * b' + 1)) % m := by
 rw [show o + a * (2 * b' + 1) = (o + a) + (a + a) * b' by rw [Int.mul_add, Int.add_mul, Int.mul_one, ← Int.mul_assoc, Int.mul_comm a 2, Int.two_mul, Int.add_mul]; omega]
 rw [Int.add_emod ((o + a) % m), Int.emod_emod_of_dvd _ (Int.dvd_refl m), Int.mul_emod ((a + a) % m), Int.emod_emod_of_dvd _ (Int.dvd_refl m), ← Int.mul_emod, ← Int.add_emod]
theorem dbl_step0 {m o a b' : Int} : (o + ((a + a) % m) * b') % m = (o + a * (2 * b')) % m := by
 rw [show o + a * (2 * b') = o + (a + a) * b' by rw [← Int.mul_assoc, Int.mul_comm a 2, Int.two_mul]]
 rw [Int.add_emod o, Int.mul_emod ((a + a) % m), Int.emod_emod_of_dvd _ (Int.dvd_refl m), ← Int.mul_emod, ← Int.add_emod]
theorem rmul_loop {m v : Int} (hm : 0 < m) {F : (Int × Int × Int → Int) → Int × Int × Int → Int} {d : Int × Int × Int → Int}
  (hF : ∀ ag p, F ag p = if decide (p.2.1 > 0) = true then (if (p.2.1 % 2 == 1) = true then ag (remI .i64 (p.1 + p.1) m, p.2.1 / 2, remI .i64 (p.2.2 + p.1) m) else ag (remI .i64 (p.1 + p.1) m, p.2.1 / 2, p.2.2)) else p.2.2)
  (n : Nat) (a b o : Int) (ha : 0 ≤ a) (hb : 0 ≤ b) (ho : 0 ≤ o ∧ o < m) (hv : (o + a * b) % m = v) (hn : b.toNat < n) : iter n F d (a, b, o) = v := by
 refine iter_rule (P := fun p : Int × Int × Int => 0 ≤ p.1 ∧ 0 ≤ p.2.1 ∧ (0 ≤ p.2.2 ∧ p.2.2 < m) ∧ (p.2.2 + p.1 * p.2.1) % m = v) (Q := fun r => r = v) (meas := fun p => p.2.1.toNat) ?_ n _ ⟨ha, hb, ho, hv⟩ hn
 rintro ag ⟨a, b, o⟩ ⟨h1, h2, h3, h4⟩ ih
 simp only at h1 h2 h3 h4 ih
 rw [hF]
 by_cases hb : b > 0
 ·rw [if_pos (by simpa using hb)]
  have r1 : ∀ x : Int, 0 ≤ x % m ∧ x % m < m := fun x => ⟨Int.emod_nonneg _ (by omega), Int.emod_lt_of_pos _ hm⟩
  simp only [rem_nn (show 0 ≤ a + a by omega), rem_nn (show 0 ≤ o + a by omega)]
  by_cases hc : b % 2 = 1
  ·rw [if_pos (by simpa using hc)]
   refine ih _ ⟨(r1 _).1, by show 0 ≤ b / 2; omega, r1 _, ?_⟩ (by show (b / 2).toNat < b.toNat; omega)
   show ((o + a) % m + ((a + a) % m) * (b / 2)) % m = v
   rw [dbl_step, show 2 * (b / 2) + 1 = b by omega]; exact h4
  ·rw [if_neg (by simpa using hc)]
   refine ih _ ⟨(r1 _).1, by show 0 ≤ b / 2; omega, h3, ?_⟩ (by show (b / 2).toNat < b.toNat; omega)
   show (o + ((a + a) % m) * (b / 2)) % m = v
   rw [dbl_step0, show 2 * (b / 2) = b by omega]; exact h4
 ·rw [if_neg (by simpa using hb)]
  have : b = 0 := by omega
  subst this
  rw [Int.mul_zero, Int.add_zero, Int.emod_eq_of_lt h3.1 h3.2] at h4
  exact h4
theorem rmul_eq {a b m : Int} (ha : 0 ≤ a) (hm : a < m) (hb : 0 ≤ b) : specieref01_Mul a b m = a * b % m := by
 unfold specieref01_Mul
 have key : ∀ F d, (∀ ag p, F ag p = if decide (p.2.1 > 0) = true then (if (p.2.1 % 2 == 1) = true then ag (remI .i64 (p.1 + p.1) m, p.2.1 / 2, remI .i64 (p.2.2 + p.1) m) else ag (remI .i64 (p.1 + p.1) m, p.2.1 / 2, p.2.2)) else p.2.2) →
   iter (b.toNat + 1) F d (a, b, 0) = a * b % m := fun F d hF => rmul_loop (by omega) hF _ a b 0 ha hb ⟨by omega, by omega⟩ (by rw [Int.zero_add]) (by omega)
 by_cases h1 : a < 2147483648
 ·rw [if_pos (by simpa using h1)]
  by_cases h2 : b < 2147483648
  ·rw [if_pos (by simpa using h2)]
   have hp := mulb ha (show a ≤ 2147483647 by omega) hb (show b ≤ 2147483647 by omega)
   have e : mulI .i64 a b = a * b := by
    unfold mulI; rw [IntKind.wrap_i64]
    generalize a * b = p at hp
    omega
   rw [e, rem_nn hp.1]
  ·rw [if_neg (by simpa using h2)]
   exact key _ _ (fun ag p => rfl)
 ·rw [if_neg (by simpa using h1)]
  exact key _ _ (fun ag p => rfl)
theorem rmul_rng {a b m x : Int} (hx : x = specieref01_Mul a b m) (ha : 0 ≤ a) (hm : a < m) (hb : 0 ≤ b) : 0 ≤ x ∧ x < m := by
 rw [hx, rmul_eq ha hm hb]; exact ⟨Int.emod_nonneg _ (by omega), Int.emod_lt_of_pos _ (by omega)⟩
theorem rpow_rng {a e m x : Int} (hx : x = specieref01_Pow a e m) (ha : 0 ≤ a) (hm : a < m) : 0 ≤ x ∧ x < m := by
 subst hx
 unfold specieref01_Pow
 refine iter_rule (P := fun p : Int × Int × Int => 0 ≤ p.1 ∧ p.1 < m ∧ 0 ≤ p.2.2 ∧ p.2.2 < m) (Q := fun x => 0 ≤ x ∧ x < m) (meas := fun p => p.2.1.toNat) ?_ _ _ ⟨ha, hm, rem1_rng (by omega)⟩ (by show e.toNat < _; omega)
 rintro ag ⟨a, e, x⟩ ⟨p1, p2, p3, p4⟩ ih
 simp only at p1 p2 p3 p4 ih ⊢
 by_cases he : e > 0
 ·rw [if_pos (by simpa using he)]
  have hs : (e / 2).toNat < e.toNat := by omega
  simp only [letk]
  by_cases hc : (e % 2 == 1) = true
  ·rw [if_pos hc]
   have m1 := rmul_rng (x := specieref01_Mul x a m) rfl p3 p4 p1
   have m2 := rmul_rng (x := specieref01_Mul a a m) rfl p1 p2 p1
   exact ih _ ⟨m2.1, m2.2, m1.1, m1.2⟩ hs
  ·rw [if_neg hc]
   have m2 := rmul_rng (x := specieref01_Mul a a m) rfl p1 p2 p1
   exact ih _ ⟨m2.1, m2.2, p3, p4⟩ hs
 ·rw [if_neg (by simpa using he)]
  exact ⟨p3, p4⟩
theorem elt_ints {k : IntKind} {l : List Int} {i : Int} : elt (l.map (V.int k)) i.toNat (V.int k 0) = V.int k (gt l i) := by
 unfold elt gt
 simp only [List.getD_eq_getElem?_getD, List.getElem?_map]
 cases l[i.toNat]? <;> rfl
@[go_sem] theorem elt_lit7 {k : IntKind} {a b c d e f g i : Int} : elt [V.int k a, V.int k b, V.int k c, V.int k d, V.int k e, V.int k f, V.int k g] i.toNat (V.int k 0) = V.int k (gt [a, b, c, d, e, f, g] i) := elt_ints (l := [a, b, c, d, e, f, g])
@[go_sem] theorem elt_lit12 {k : IntKind} {a b c d e f g a' b' c' d' e' i : Int} : elt [V.int k a, V.int k b, V.int k c, V.int k d, V.int k e, V.int k f, V.int k g, V.int k a', V.int k b', V.int k c', V.int k d', V.int k e'] i.toNat (V.int k 0) = V.int k (gt [a, b, c, d, e, f, g, a', b', c', d', e'] i) := elt_ints (l := [a, b, c, d, e, f, g, a', b', c', d', e'])
@[go_sem] theorem elt_lit16 {k : IntKind} {a b c d e f g a' b' c' d' e' f' g' x y i : Int} : elt [V.int k a, V.int k b, V.int k c, V.int k d, V.int k e, V.int k f, V.int k g, V.int k a', V.int k b', V.int k c', V.int k d', V.int k e', V.int k f', V.int k g', V.int k x, V.int k y] i.toNat (V.int k 0) = V.int k (gt [a, b, c, d, e, f, g, a', b', c', d', e', f', g', x, y] i) := elt_ints (l := [a, b, c, d, e, f, g, a', b', c', d', e', f', g', x, y])
theorem base_rng {j : Int} (h0 : 0 ≤ j) (h1 : j < 12) : 2 ≤ gt ([2, 3, 5, 7, 11, 13, 17, 19, 23, 29, 31, 37] : List Int) j ∧ gt ([2, 3, 5, 7, 11, 13, 17, 19, 23, 29, 31, 37] : List Int) j ≤ 37 := kg2_rng h0 h1
theorem NoDiv_stepR {u i : Int} (h : NoDiv u i) (hu : 0 ≤ u) (h0 : 0 ≤ i) (h1 : i < 12) (hr : ¬ remI .i64 u (gt ([2, 3, 5, 7, 11, 13, 17, 19, 23, 29, 31, 37] : List Int) i) = 0) : NoDiv u (i + 1) := NoDiv_step h hu h0 h1 hr
theorem q_le {p q : Int} (hp : 3 ≤ p) (hp1 : p < 2305843009213693952) (hq : 3 ≤ q) (h : remI .i64 (subI .i64 p 1) q = 0) : q < 2305843009213693952 := by
 have e : subI .i64 p 1 = p - 1 := by unfold subI; rw [IntKind.wrap_i64]; omega
 rw [e, rem_nn (by omega)] at h
 have h1 : q ≤ p - 1 := Int.le_of_dvd (by omega) (Int.dvd_of_emod_eq_zero h)
 omega
theorem rem_rngN {a m : Int} (ha : 0 ≤ a) (hm : 0 < m) : 0 ≤ remI .i64 a m ∧ remI .i64 a m < m := by
 rw [rem_nn ha]; exact ⟨Int.emod_nonneg _ (by omega), Int.emod_lt_of_pos _ hm⟩
instance rvalid_cf (g : S_api_Group) : CF (specieref10_Valid g) (fun x => x = true → 3 ≤ g.Q ∧ 3 ≤ g.P ∧ g.P < 2305843009213693952 ∧ g.Q < g.P ∧ 2 ≤ g.G ∧ g.G < g.P) := ⟨fun h => by
 unfold specieref10_Valid at h
 simp only [letk] at h
 repeat' (split at h)
 all_goals first | cases h | skip
 all_goals (
  simp only [decide_eq_true_eq, bne_iff_ne, ne_eq, Decidable.not_not, beq_iff_eq, Int.not_lt] at *
  have h1 : g.Q ≤ g.P - 1 := by
   have e : subI .i64 g.P 1 = g.P - 1 := by unfold subI; rw [IntKind.wrap_i64]; omega
   have h5 : remI .i64 (subI .i64 g.P 1) g.Q = 0 := by assumption
   rw [e, rem_nn (by omega)] at h5
   exact Int.le_of_dvd (by omega) (Int.dvd_of_emod_eq_zero h5)
  omega)⟩
instance rmem_cf (g : S_api_Group) (x : Int) : CF (specieref10_Member g x) (fun r => r = true → 1 ≤ x ∧ x < g.P) := ⟨fun h => by
 unfold specieref10_Member at h
 split at h
 ·split at h
  ·simp only [decide_eq_true_eq] at *; omega
  ·cases h
 ·cases h⟩
def okG (g : S_api_Group) : Prop := 3 ≤ g.Q ∧ 3 ≤ g.P ∧ g.P < 2305843009213693952 ∧ g.Q < g.P ∧ 2 ≤ g.G ∧ g.G < g.P
theorem letB {a : Bool} {f : Bool → Bool} (h : letk a f = true) (hf : f false = false) : a = true ∧ f true = true := by
 unfold letk at h
 cases a
 ·rw [hf] at h; cases h
 ·exact ⟨rfl, h⟩
theorem ifB {c : Prop} [Decidable c] {a : Bool} (h : (if c then a else false) = true) : c ∧ a = true := by
 by_cases hc : c
 ·rw [if_pos hc] at h; exact ⟨hc, h⟩
 ·rw [if_neg hc] at h; cases h
instance rbase_cf (b : S_api_Bases) : CF (specieref11_Valid b) (fun r => r = true → (3 ≤ b.Group.Q ∧ 3 ≤ b.Group.P ∧ b.Group.P < 2305843009213693952 ∧ b.Group.Q < b.Group.P ∧ 2 ≤ b.Group.G ∧ b.Group.G < b.Group.P) ∧ (1 ≤ b.G1 ∧ b.G1 < b.Group.P) ∧ (1 ≤ b.G2 ∧ b.G2 < b.Group.P) ∧ 1 ≤ b.H ∧ b.H < b.Group.P) := ⟨fun h => by
 unfold specieref11_Valid at h
 obtain ⟨h1, h⟩ := letB h rfl
 obtain ⟨_, h⟩ := ifB (ifB h).2
 obtain ⟨_, h⟩ := ifB h
 obtain ⟨_, h⟩ := ifB h
 obtain ⟨h2, h⟩ := letB h rfl
 obtain ⟨h3, h⟩ := letB (ifB h).2 rfl
 obtain ⟨h4, h⟩ := letB (ifB h).2 rfl
 exact ⟨(rvalid_cf _).1 h1, (rmem_cf _ _).1 h2, (rmem_cf _ _).1 h3, (rmem_cf _ _).1 h4⟩⟩
theorem rred_eq {a m : Int} (hm : 1 ≤ m) (hm1 : m < 2305843009213693952) : specieref01_Reduce a m = a % m := by
 unfold specieref01_Reduce
 have h1 := Int.tmod_eq_emod (a := a) (b := m)
 have e : remI .i64 a m = a.tmod m := rfl
 have r0 := Int.emod_nonneg a (show m ≠ 0 by omega)
 have r1 := Int.emod_lt_of_pos a (show 0 < m by omega)
 have hn : ((m.natAbs : Nat) : Int) = m := by omega
 rw [e]
 by_cases hc : a.tmod m < 0
 ·rw [if_pos (by simpa using hc)]
  unfold addI
  rw [IntKind.wrap_i64]
  split at h1 <;> omega
 ·rw [if_neg (by simpa using hc)]
  split at h1 <;> omega
theorem rred_rng {a m x : Int} (hx : x = specieref01_Reduce a m) (hm : 1 ≤ m) (hm1 : m < 2305843009213693952) : 0 ≤ x ∧ x < m := by
 rw [hx, rred_eq hm hm1]; exact ⟨Int.emod_nonneg _ (by omega), Int.emod_lt_of_pos _ (by omega)⟩
end Go.Proofs.YtjnikknlcmbcmaaGreatDoor
namespace Go.Proofs.YtjnikknlcmbcmaaGreatDoor
open Go.RowKit
set_option linter.unusedVariables false
set_option linter.unusedSimpArgs false
theorem pow2_inj {a b : Nat} (h : 2 ^ a = 2 ^ b) : a = b := by
 rcases Nat.lt_trichotomy a b with h1 | h1 | h1
 ·have := Nat.pow_lt_pow_right (a := 2) (by decide) h1; omega
 ·exact h1
 ·have := Nat.pow_lt_pow_right (a := 2) (by decide) h1; omega
theorem depth_spec (n : Int) : (∃ d : Nat, d ≤ 10 ∧ n = 2 ^ d ∧ tree_Depth n = ((d : Int), 0)) ∨ (tree_Depth n = (0, 1) ∧ ∀ d : Nat, d ≤ 10 → n ≠ 2 ^ d) := by
 unfold tree_Depth
 refine iter_rule (P := fun p : Int => 0 ≤ p ∧ p ≤ 11 ∧ ∀ d : Nat, d ≤ 10 → (d : Int) < p → n ≠ 2 ^ d) (Q := fun x : Int × Int => (∃ d : Nat, d ≤ 10 ∧ n = 2 ^ d ∧ x = ((d : Int), 0)) ∨ (x = (0, 1) ∧ ∀ d : Nat, d ≤ 10 → n ≠ 2 ^ d)) (meas := fun p => (11 - p).toNat) ?_ _ _ ⟨by decide, by decide, fun d _ h => absurd h (by omega)⟩ (by decide)
 rintro ag p ⟨h0, h1, h2⟩ ih
 by_cases hp : p < 11
 ·rw [if_pos (by simpa using hp)]
  have e := shl_one (v := p) h0 (by omega)
  by_cases hn : n = 2 ^ p.toNat
  ·rw [if_pos (by rw [e]; simpa using hn)]
   exact .inl ⟨p.toNat, by omega, hn, by rw [show ((p.toNat : Nat) : Int) = p by omega]⟩
  ·rw [if_neg (by rw [e]; simpa using hn)]
   refine ih (p + 1) ⟨by omega, by omega, fun d hd hlt => ?_⟩ (by omega)
   rcases Int.lt_or_eq_of_le (show (d : Int) ≤ p by omega) with h | h
   ·exact h2 d hd h
   ·have : p.toNat = d := by omega
    rw [← this]; exact hn
 ·rw [if_neg (by simpa using hp)]
  exact .inr ⟨rfl, fun d hd => h2 d hd (by omega)⟩
theorem rdepth_spec (n : Int) : (∃ d : Nat, d ≤ 10 ∧ n = 2 ^ d ∧ specieref27_Depth n = (d : Int)) ∨ (specieref27_Depth n = -1 ∧ ∀ d : Nat, d ≤ 10 → n ≠ 2 ^ d) := by
 unfold specieref27_Depth
 refine iter_rule (P := fun p : Int => 0 ≤ p ∧ p ≤ 11 ∧ ∀ d : Nat, d ≤ 10 → (d : Int) < p → n ≠ 2 ^ d) (Q := fun x : Int => (∃ d : Nat, d ≤ 10 ∧ n = 2 ^ d ∧ x = (d : Int)) ∨ (x = -1 ∧ ∀ d : Nat, d ≤ 10 → n ≠ 2 ^ d)) (meas := fun p => (11 - p).toNat) ?_ _ _ ⟨by decide, by decide, fun d _ h => absurd h (by omega)⟩ (by decide)
 rintro ag p ⟨h0, h1, h2⟩ ih
 by_cases hp : p ≤ 10
 ·rw [if_pos (by simpa using hp)]
  have e := shl_one (v := p) h0 (by omega)
  have e1 : addI .i64 p 1 = p + 1 := by unfold addI; rw [IntKind.wrap_i64]; omega
  by_cases hn : n = 2 ^ p.toNat
  ·rw [if_pos (by rw [e]; simpa using hn.symm)]
   exact .inl ⟨p.toNat, by omega, hn, by omega⟩
  ·rw [if_neg (by rw [e]; simpa using fun h => hn h.symm)]; try rw [e1]
   refine ih (p + 1) ⟨by omega, by omega, fun d hd hlt => ?_⟩ (by omega)
   rcases Int.lt_or_eq_of_le (show (d : Int) ≤ p by omega) with h | h
   ·exact h2 d hd h
   ·have : p.toNat = d := by omega
    rw [← this]; exact hn
 ·rw [if_neg (by simpa using hp)]
  exact .inr ⟨rfl, fun d hd => h2 d hd (by omega)⟩
theorem depth_ok {l : List (List Int)} {x : Int × Int} (hx : x = tree_Depth (l.length : Int)) (h : (x.2 != 0) = false) : lenOk l := by
 rcases depth_spec (l.length : Int) with ⟨d, h1, h2, h3⟩ | ⟨h1, _⟩
 ·exact ⟨d, h1, by exact_mod_cast h2⟩
 ·rw [hx, h1] at h; exact absurd h (by decide)
variable {I : List Int → List Int → List Int}
theorem pairM_len : ∀ {k : Nat} {l : List (List Int)}, l.length = 2 * k → (pairM I l).length = k
 | 0, l, h => by
  have : l = [] := List.length_eq_zero_iff.1 (by omega)
  subst this; rfl
 | k + 1, a :: b :: l, h => by
  simp only [pairM, List.length_cons] at h ⊢
  rw [pairM_len (k := k) (by omega)]
 | k + 1, [], h => by simp at h
 | k + 1, [a], h => by simp at h; omega
def upL (I : List Int → List Int → List Int) : Nat → List (List Int) → List (List Int)
 | 0, l => l
 | k + 1, l => upL I k (pairM I l)
theorem upL_len : ∀ {k d : Nat} {l : List (List Int)}, l.length = 2 ^ d → k ≤ d → (upL I k l).length = 2 ^ (d - k)
 | 0, d, l, h, _ => by simpa [upL] using h
 | k + 1, 0, l, h, hk => absurd hk (by omega)
 | k + 1, d + 1, l, h, hk => by
  rw [upL, upL_len (d := d) (pairM_len (by rw [h, Nat.pow_succ]; omega)) (by omega)]
  congr 1; omega
theorem riter_pair {α : Type} {d : List (List Int) → α} : ∀ {l p : List (List Int)}, riter (chunk2 l) (fun (ag : List (List Int) → α) (y : List (List Int)) (p : List (List Int)) => letk (I (gt y 0) (gt y 1)) fun x => ag (p ++ [x])) d p = d (p ++ pairM I l)
 | [], p => by simp [chunk2, riter, pairM]
 | [_], p => by simp [chunk2, riter, pairM]
 | a :: b :: l, p => by
  rw [chunk2, riter, letk]
  refine (riter_pair (l := l)).trans ?_
  simp [gt, pairM]
theorem rev_eq (s : List (List (List Int))) : slices_Reverse_api_Hash_api_Hash s = s.reverse := by
 unfold slices_Reverse_api_Hash_api_Hash
 refine iter_rule (P := fun p : Int × Int × List (List (List Int)) => 0 ≤ p.1 ∧ p.1 + p.2.1 = (s.length : Int) - 1 ∧ p.1 ≤ p.2.1 + 1 ∧ p.2.2.length = s.length ∧ ∀ k : Nat, k < s.length → p.2.2[k]? = if (k : Int) < p.1 ∨ p.2.1 < k then s[s.length - 1 - k]? else s[k]?)
  (Q := fun x => x = s.reverse) (meas := fun p => (p.2.1 - p.1).toNat) ?_ _ _ ⟨Int.le_refl 0, by show (0 : Int) + ((s.length : Int) - 1) = _; omega, by show (0 : Int) ≤ (s.length : Int) - 1 + 1; omega, rfl, fun k hk => by rw [if_neg (by show ¬ ((k : Int) < 0 ∨ (s.length : Int) - 1 < k); omega)]⟩ (by show ((s.length : Int) - 1 - 0).toNat < ((s.length : Int) - 1 - 0).toNat + 1; omega)
 rintro ag ⟨i, j, t⟩ ⟨h0, h1, h2, h3, h4⟩ ih
 simp only at h0 h1 h2 h3 h4 ⊢
 by_cases hij : i < j
 ·rw [if_pos (by simpa using hij)]
  refine ih _ ⟨by simp only; omega, by simp only; omega, by simp only; omega, by simp [st, h3], fun k hk => ?_⟩ (by simp only; omega)
  simp only [st]
  have gi : t[i.toNat]? = s[i.toNat]? := by rw [h4 _ (by omega), if_neg (by omega)]
  have gj : t[j.toNat]? = s[j.toNat]? := by rw [h4 _ (by omega), if_neg (by omega)]
  have vi : gt t i = (s[i.toNat]?).getD default := by rw [← gi]; obtain ⟨n, rfl⟩ := Int.eq_ofNat_of_zero_le h0; rw [gt_nat]; simp [List.getD_eq_getElem?_getD]
  have vj : gt t j = (s[j.toNat]?).getD default := by rw [← gj]; obtain ⟨n, rfl⟩ := Int.eq_ofNat_of_zero_le (show 0 ≤ j by omega); rw [gt_nat]; simp [List.getD_eq_getElem?_getD]
  have si : s[i.toNat]? = some s[i.toNat] := List.getElem?_eq_getElem (by omega)
  have sj : s[j.toNat]? = some s[j.toNat] := List.getElem?_eq_getElem (by omega)
  rw [vi, vj]
  by_cases e1 : k = j.toNat
  ·subst e1
   rw [List.getElem?_set_self (by rw [List.length_set, h3]; omega), if_pos (by omega), show s.length - 1 - j.toNat = i.toNat by omega, si]; rfl
  ·rw [List.getElem?_set_ne (Ne.symm e1)]
   by_cases e2 : k = i.toNat
   ·subst e2
    rw [List.getElem?_set_self (by rw [h3]; omega), if_pos (by omega), show s.length - 1 - i.toNat = j.toNat by omega, sj]; rfl
   ·rw [List.getElem?_set_ne (Ne.symm e2), h4 k hk]
    by_cases c : (k : Int) < i ∨ j < k
    ·rw [if_pos c, if_pos (by omega)]
    ·rw [if_neg c, if_neg (by omega)]
 ·rw [if_neg (by simpa using hij)]
  refine List.ext_getElem? fun k => ?_
  by_cases hk : k < s.length
  ·rw [List.getElem?_reverse hk, h4 k hk]
   split
   ·rfl
   ·congr 1; omega
  ·rw [List.getElem?_eq_none (by omega), List.getElem?_eq_none (by simp; omega)]
theorem levels_loop {α : Type} {rest : List (List (List Int)) → α} : ∀ {d n : Nat} {l : List (List Int)} {acc : List (List (List Int))} {dd : List (List Int) × List (List (List Int)) → α}, l.length = 2 ^ d → d < n →
  iter n (fun (ag : List (List Int) × List (List (List Int)) → α) (p : List (List Int) × List (List (List Int))) => if decide ((p.1.length : Int) > 1) then riter (chunk2 p.1) (fun ag5 y5 p5 => letk (I (gt y5 0) (gt y5 1)) fun x8 => ag5 (p5 ++ [x8])) (fun p5 => ag (p5, p.2 ++ [p5])) [] else rest p.2) dd (l, acc) = rest (acc ++ (List.range d).map fun k => upL I (k + 1) l)
 | 0, n + 1, l, acc, dd, h, _ => by
  rw [iter, if_neg (by rw [h]; decide)]; simp
 | d + 1, 0, l, acc, dd, h, hn => absurd hn (by omega)
 | 0, 0, l, acc, dd, h, hn => absurd hn (by omega)
 | d + 1, n + 1, l, acc, dd, h, hn => by
  have hp : 0 < 2 ^ d := Nat.pow_pos (by decide)
  rw [iter, if_pos (by simp only [decide_eq_true_eq]; rw [h, Nat.pow_succ]; omega), riter_pair, List.nil_append]
  rw [levels_loop (d := d) (n := n) (pairM_len (by rw [h, Nat.pow_succ]; omega)) (by omega)]
  rw [List.range_succ_eq_map, List.map_cons, List.map_map, List.append_assoc]
  rfl
theorem levels_eq {l : List (List Int)} {d : Nat} (h : l.length = 2 ^ d) (hd : d ≤ 10) : tree_levels l = (List.range (d + 1)).map fun v => upL tree_inner (d - v) l := by
 unfold tree_levels
 have hlt : d < l.length + 1 := by rw [h]; have := Nat.lt_two_pow_self (n := d); omega
 refine (levels_loop (I := tree_inner) (rest := fun x => letk (slices_Reverse_api_Hash_api_Hash x) fun y => y) h hlt).trans ?_
 simp only [letk]
 rw [rev_eq]
 refine List.ext_getElem (by simp) fun i h1 h2 => ?_
 rw [List.getElem_reverse, List.getElem_map, List.getElem_range]
 simp only [List.length_reverse, List.length_append, List.length_map, List.length_range, List.length_cons, List.length_nil] at h1
 by_cases hi : i < d
 ·rw [List.getElem_append_right (by simp; omega), List.getElem_map, List.getElem_range]
  congr 1
  simp; omega
 ·have e : i = d := by omega
  subst e
  rw [List.getElem_append_left (by simp)]
  simp [upL]
theorem open_after {l : List (List Int)} {level index : Int} {x : List (List (List Int)) × Int} (hx : x = tree_open l level index) : x.2 ≠ 0 ∨ (0 ≤ level ∧ level < (x.1.length : Int) ∧ 0 ≤ index ∧ index < ((gt x.1 level).length : Int)) := by
 subst hx
 unfold tree_open
 simp only [letk]
 rcases depth_spec (l.length : Int) with ⟨d, h1, h2, h3⟩ | ⟨h1, _⟩
 ·have hl : l.length = 2 ^ d := by exact_mod_cast h2
  rw [h3]
  simp only [bne_self_eq_false, Bool.false_eq_true, if_false]
  by_cases c1 : level < 0
  ·left; simp [c1]
  by_cases c2 : level > (d : Int)
  ·left; simp [c1, c2]
  by_cases c3 : index < 0
  ·left; simp [c1, c2, c3]
  have e := shl_one (v := level) (by omega) (by omega)
  by_cases c4 : index ≥ shlI .i64 1 level
  ·left; simp [c1, c2, c3, c4]
  right
  simp only [c1, c2, c3, c4, decide_false, Bool.false_eq_true, if_false]
  rw [levels_eq hl h1]
  have hlt : level.toNat < d + 1 := by omega
  have hg : gt ((List.range (d + 1)).map fun v => upL tree_inner (d - v) l) level = upL tree_inner (d - level.toNat) l := by
   obtain ⟨v, rfl⟩ := Int.eq_ofNat_of_zero_le (show 0 ≤ level by omega)
   rw [gt_nat, List.getD_eq_getElem?_getD, List.getElem?_eq_getElem (by simpa using hlt)]
   simp
  rw [hg, upL_len hl (by omega)]
  rw [e] at c4
  refine ⟨by omega, by simp; omega, by omega, ?_⟩
  rw [show d - (d - level.toNat) = level.toNat by omega]
  push_cast
  omega
 ·left; rw [h1]; simp
end Go.Proofs.YtjnikknlcmbcmaaGreatDoor
namespace Go.Proofs.YtjnikknlcmbcmaaGreatDoor
open Go.RowKit
set_option linter.unusedVariables false
set_option linter.unusedSimpArgs false
theorem gt2_le {a b : List Int} {n : Nat} (ha : a.length ≤ n) (hb : b.length ≤ n) : ∀ j : Int, (gt [a, b] j).length ≤ n := by
 intro j
 unfold gt
 match h : j.toNat with
 | 0 => simpa using ha
 | 1 => simpa using hb
 | k + 2 => exact Nat.zero_le _
theorem concat_two (a b : List Int) : slices_Concat_byte_byte [a, b] = a ++ b := by
 unfold slices_Concat_byte_byte letk slices_Grow_byte_byte
 have g0 : gt [a, b] (0 : Int) = a := rfl
 have g1 : gt [a, b] (1 : Int) = b := rfl
 have n0 : ¬ ((a.length : Int) < 0) := by omega
 have n1 : ¬ ((a.length : Int) + (b.length : Int) < 0) := by omega
 simp [iter, g0, g1, n0, n1]
theorem concat_len {a b x : List Int} (h : x = slices_Concat_byte_byte [a, b]) (ha : a.length ≤ 32) (hb : b.length ≤ 32) : x.length ≤ 64 := by
 rw [h, concat_two, List.length_append]; omega
theorem chunk2_le {α : Type} : ∀ {l : List α}, 2 * (chunk2 l).length ≤ l.length
 | a :: b :: l => by
  have := chunk2_le (l := l)
  simp only [chunk2, List.length_cons]; omega
 | [] => by simp [chunk2]
 | [_] => by simp [chunk2]
theorem letk_x {α β : Type} (a : α) (f : α → β) : letk a f = f a := by rw [letk]
theorem rpower_rng {g : S_api_Group} {a e x : Int} (h : x = specieref10_Power g a e) (h0 : 0 ≤ a) (h1 : a < g.P) : 0 ≤ x ∧ x < g.P := by
 unfold specieref10_Power letk at h
 exact rpow_rng h h0 h1
instance rsecret_cf (b : S_api_Bases) (s : S_api_CoinSecret) : CF (specieref31_Secret b s) (fun r => r = true → (3 ≤ b.Group.Q ∧ b.Group.P < 2305843009213693952 ∧ b.Group.Q < b.Group.P ∧ 0 ≤ b.G1 ∧ b.G1 < b.Group.P ∧ 0 ≤ b.G2 ∧ b.G2 < b.Group.P) ∧ 1 ≤ (s.X.length : Int)) := ⟨fun h => by
 unfold specieref31_Secret letk at h
 by_cases hv : specieref11_Valid b = true
 ·have h9 := (rbase_cf b).1 hv
  refine ⟨by omega, ?_⟩
  rcases Nat.eq_zero_or_pos s.X.length with h0 | h0
  ·exfalso
   have hd : specieref31_Depth (specieref27_Depth ((0 : Nat) : Int)) = false := by decide +kernel
   rw [h0] at h
   dsimp only at h
   rw [hd] at h
   simp [hv] at h
  ·omega
 ·have hv' : specieref11_Valid b = false := by simpa using hv
  rw [hv'] at h
  cases h⟩
def pathOk (x : List (List (List Int))) (v i : Int) : Prop := 0 ≤ v ∧ v < (x.length : Int) ∧ x.length ≤ 11 ∧ 0 ≤ i ∧ i < 2 ^ v.toNat ∧ ∀ k : Int, 0 ≤ k → k < (x.length : Int) → ((gt x k).length : Int) = 2 ^ k.toNat
theorem xor1_all : ∀ i : Fin 1024, xorI .i64 (i.val : Int) 1 = if i.val % 2 = 0 then (i.val : Int) + 1 else (i.val : Int) - 1 := by decide +kernel
theorem xor1_eq {i : Int} (h0 : 0 ≤ i) (h1 : i < 1024) : xorI .i64 i 1 = if i % 2 = 0 then i + 1 else i - 1 := by
 obtain ⟨k, rfl⟩ := Int.eq_ofNat_of_zero_le h0
 have := xor1_all ⟨k, by omega⟩
 dsimp only at this
 show xorI .i64 (k : Int) 1 = _
 rw [this]
 split <;> split <;> omega
theorem pow2_even {v : Int} (h : 0 < v) : ∃ m : Int, (2 : Int) ^ v.toNat = 2 * m ∧ m = 2 ^ (v - 1).toNat := ⟨_, by
 obtain ⟨n, hn⟩ : ∃ n, v.toNat = n + 1 := ⟨v.toNat - 1, by omega⟩
 rw [hn, Int.pow_succ, show (v - 1).toNat = n by omega, Int.mul_comm], rfl⟩
theorem path_ix {x : List (List (List Int))} {v i : Int} (h : pathOk x v i) (h0 : 0 < v) : (0 ≤ v ∧ v < (x.length : Int)) ∧ v ≤ 10 ∧ 0 ≤ i ∧ i < 1024 ∧ 0 ≤ xorI .i64 i 1 ∧ xorI .i64 i 1 < ((gt x v).length : Int) := by
 obtain ⟨h1, h2, h3, h4, h5, h6⟩ := h
 have hp := pow_le (v := v.toNat) (by omega)
 obtain ⟨m, e, _⟩ := pow2_even h0
 rw [h6 v h1 h2, xor1_eq h4 (by omega)]
 refine ⟨⟨h1, h2⟩, by omega, h4, by omega, ?_, ?_⟩ <;> split <;> omega
theorem path_step {x : List (List (List Int))} {v i v' i' : Int} (h : pathOk x v i) (h0 : 0 < v) (e1 : v' = v - 1 ∨ v' = subI .i64 v 1) (e2 : i' = i / 2 ∨ i' = quoI .i64 i 2) : pathOk x v' i' := by
 have hix := path_ix h h0
 obtain ⟨h1, h2, h3, h4, h5, h6⟩ := h
 obtain ⟨m, e, em⟩ := pow2_even h0
 have e1' : v' = v - 1 := by
  rcases e1 with rfl | rfl
  ·rfl
  ·exact sub_ok (by omega) (by omega)
 have e2' : i' = i / 2 := by
  rcases e2 with rfl | rfl
  ·rfl
  ·have hp := pow_le (v := v.toNat) (by omega); exact quo_ok ⟨h4, by omega⟩ (by decide)
 subst e1' e2'
 exact ⟨by omega, by omega, h3, by omega, by rw [← em]; omega, h6⟩
theorem levs_get {l : List (List Int)} {d : Nat} (hl : l.length = 2 ^ d) (hd : d ≤ 10) {k : Int} (h0 : 0 ≤ k) (h1 : k ≤ d) : gt (tree_levels l) k = upL tree_inner (d - k.toNat) l := by
 rw [levels_eq hl hd]
 obtain ⟨v, rfl⟩ := Int.eq_ofNat_of_zero_le h0
 rw [gt_nat, List.getD_eq_getElem?_getD, List.getElem?_eq_getElem (by simp; omega)]
 simp
theorem path_after {l : List (List Int)} {level index : Int} {x : List (List (List Int)) × Int} (hx : x = tree_open l level index) : x.2 ≠ 0 ∨ pathOk x.1 level index := by
 rcases open_after hx with h | ⟨h1, h2, h3, h4⟩
 ·exact .inl h
 by_cases hz : x.2 ≠ 0
 ·exact .inl hz
 right
 subst hx
 unfold tree_open at *
 simp only [letk] at *
 rcases depth_spec (l.length : Int) with ⟨d, g1, g2, g3⟩ | ⟨g1, _⟩
 ·have hl : l.length = 2 ^ d := by exact_mod_cast g2
  rw [g3] at h2 h4 hz ⊢
  simp only [bne_self_eq_false, Bool.false_eq_true, if_false] at h2 h4 hz ⊢
  by_cases c1 : level < 0
  ·simp [c1] at hz
  by_cases c2 : level > (d : Int)
  ·simp [c1, c2] at hz
  by_cases c3 : index < 0
  ·simp [c1, c2, c3] at hz
  by_cases c4 : index ≥ shlI .i64 1 level
  ·simp [c1, c2, c3, c4] at hz
  simp only [c1, c2, c3, c4, decide_false, Bool.false_eq_true, if_false]
  have hlen : (tree_levels l).length = d + 1 := by rw [levels_eq hl g1]; simp
  have e := shl_one (v := level) (by omega) (by omega)
  rw [e] at c4
  refine ⟨h1, by rw [hlen]; omega, by rw [hlen]; omega, h3, by omega, fun k k0 k1 => ?_⟩
  rw [hlen] at k1
  rw [levs_get hl g1 k0 (by omega), upL_len hl (by omega), show d - (d - k.toNat) = k.toNat by omega]
  push_cast; rfl
 ·rw [g1] at hz; simp at hz
theorem path_in {e : Int} {x : List (List (List Int))} {v i : Int} (h : e ≠ 0 ∨ pathOk x v i) (he : e = 0) : pathOk x v i := h.resolve_left fun h => h he
theorem path1_len {h : List Int} {c x : S_api_Path} (hx : x = tree_Path_1 h c) : x.L.length = c.L.length + 1 := by
 subst hx; unfold tree_Path_1; simp
theorem rem_ix {w n : Int} (h1 : 1 ≤ n) (h0 : 0 ≤ w) (h2 : w ≤ 255) : 0 ≤ remI .i64 (convI .i64 w) n ∧ remI .i64 (convI .i64 w) n < n := by
 have e : convI .i64 w = w := by unfold convI; rw [IntKind.wrap_i64]; omega
 rw [e, rem_nn h0]
 exact ⟨Int.emod_nonneg _ (by omega), Int.emod_lt_of_pos _ (by omega)⟩
theorem clone_len {l x : List Int} (h : x = slices_Clone_int_int l) : x.length = l.length := by subst h; rfl
theorem sortx_len {l x : List Int} (h : x = slices_Sort_int_int l) : x.length = l.length := by subst h; exact List.length_mergeSort l
end Go.Proofs.YtjnikknlcmbcmaaGreatDoor
