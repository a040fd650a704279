/- Texts of this proof, one after the other: SH, E1, M, H1, HS, H2, H3, HW. -/
import Derived.Ground.NamesProg
import Derived.Shelf.Lays
import Derived.Shelf.Strconv.Itoa0
import Derived.Test.YtjnikknlcmbcmaaGreatDoorProg
import Derived.Test.YtjnikknlcmbcmaaGreatDoorZ5
import Derived.Lib.BitFns
import Derived.KernelRfl
set_option linter.unusedVariables false
set_option linter.unusedSimpArgs false
namespace Go.Proofs
open Go.Shelf
def Tryz.lays129_ren : Go.Shelf.Ren := ⟨fun | 129 => 162 | n => n, fun | 53 => 188 | 3 => 3 | 4 => 4 | 46 => 143 | 5 => 5 | 9 => 9 | n => n, fun | n => n⟩
theorem Tryz.lays129 : Go.Proofs.Lays.n129 Tryz.prog Tryz.lays129_ren := {
 mixed := by kernel_rfl
 f129 := Tryz.func162.trans (congrArg some (by kernel_rfl))
 t3 := Tryz.underlying3
 a3 := Tryz.isAgg3
 z3 := Tryz.sizeOf3
 v3 := Tryz.zeroValue3
 t4 := Tryz.underlying4
 a4 := Tryz.isAgg4
 z4 := Tryz.sizeOf4
 v4 := Tryz.zeroValue4
 t5 := Tryz.underlying5
 a5 := Tryz.isAgg5
 z5 := Tryz.sizeOf5
 v5 := Tryz.zeroValue5
 t9 := Tryz.underlying9
 a9 := Tryz.isAgg9
 z9 := Tryz.sizeOf9
 v9 := Tryz.zeroValue9
 t46 := Tryz.underlying143
 a46 := Tryz.isAgg143
 z46 := Tryz.sizeOf143
 v46 := Tryz.zeroValue143
 t53 := Tryz.underlying188
 a53 := Tryz.isAgg188
 z53 := Tryz.sizeOf188
 v53 := Tryz.zeroValue188 }
theorem Tryz.bits_Len64 (x : Int) (w : World) (h0 : 0 ≤ x) (h1 : x ≤ 18446744073709551615) :
  Calls Tryz.prog 162 #[.int .u64 x] w fun e w' => e = .returned (.int .i64 (Lib.bitLen x.toNat)) ∧ w' = w := Any.bits_Len64 Tryz.lays129 x w h0 h1
end Go.Proofs
namespace Go.Proofs.YtjnikknlcmbcmaaGreatDoor
open Go.RowKit Go.Shelf Go.Lib
def math_bits_Len64 (x : Int) : Int := (Lib.bitLen x.toNat : Int)
theorem ok_of {f : FuncId} {ws : List V} {r : V} (he : ∀ xs w, (callFunc f xs).run En.P w = .ok (.enter f xs) w)
  (h : ∀ (c : Cx) us, Gl En c → rdT ro0 c ws us → wfL ws → Calls En.P f us.toArray c.w fun e w' => ∃ v, e = .returned v ∧ Below c.w.heap.size c.w w' ∧ ∀ c', rd ro0 c' r v) : CallOk En f ws r [] :=
 ⟨he, fun c us _ hg hus => (h c us hg hus (rdT_wf hus)).mono fun e w' ⟨v, e1, hb, hr⟩ => ⟨v, c.at w' hb.size, ro0, e1, rfl, Cx.le_at hb, hr _, ⟨fun i b hb => by simp at hb, fun i _ => rfl, fun i j bi bj k _ hb => by simp at hb⟩⟩⟩
theorem Len64_call (x_ : Int) : CallOk En 162 [.int .u64 x_] (.int .i64 (math_bits_Len64 x_)) [] := by
 refine ok_of (show ∀ xs w, (callFunc 162 xs).run En.P w = .ok (.enter 162 xs) w from enters_of Tryz.func162 (by kernel_rfl) rfl) fun c us hg hus hw => ?_
 simp only [rdT, rd] at hus
 obtain ⟨u0, c2, rfl, ⟨rfl, l0⟩, rfl⟩ := hus
 have h0 : 0 ≤ x_ ∧ x_ ≤ 18446744073709551615 := l0
 refine (show Calls En.P 162 #[.int .u64 x_] c.w _ from Tryz.bits_Len64 x_ c.w h0.1 h0.2).mono ?_
 rintro e w' ⟨rfl, rfl⟩
 refine ⟨_, rfl, Below.refl _ _, fun c' => ?_⟩
 have hl := Lib.bitLen_le x_.toNat 64 (by decide) (by omega)
 simp only [rd]
 refine ⟨rfl, show (-9223372036854775808 : Int) ≤ (Lib.bitLen x_.toNat : Int) ∧ (Lib.bitLen x_.toNat : Int) ≤ 9223372036854775807 from ?_⟩
 constructor <;> omega
instance math_bits_Len64_ok (x_ : Int) : CM En (math_bits_Len64 x_) 162 [.int .u64 x_] (fun y => .int .i64 y) (fun _ => []) := ⟨Len64_call x_⟩
end Go.Proofs.YtjnikknlcmbcmaaGreatDoor
namespace Go.Proofs.YtjnikknlcmbcmaaGreatDoor
open Go.RowKit
def withdraw_Begin_1 (e_ : Int) : (S_api_Withdrawal × (List Int) × S_api_Draw × Int) :=
 (z_api_Withdrawal, ([] : List Int), z_api_Draw, e_)
def math_bits_TrailingZeros64 (x_ : Int) : Int :=
 (if (x_ == 0) then 64 else (convI .i64 (gt kg_4 (shrI .u64 (mulI .u64 (andI .u64 x_ (negI .u64 x_)) 285870213051353865) 58))))
def math_bits_Mul64 (x_ : Int) (y : Int) : (Int × Int) :=
 ((addI .u64 (addI .u64 (mulI .u64 (shrI .u64 x_ 32) (shrI .u64 y 32)) (shrI .u64 (addI .u64 (mulI .u64 (shrI .u64 x_ 32) (andI .u64 y 4294967295)) (shrI .u64 (mulI .u64 (andI .u64 x_ 4294967295) (andI .u64 y 4294967295)) 32)) 32)) (shrI .u64 (addI .u64 (andI .u64 (addI .u64 (mulI .u64 (shrI .u64 x_ 32) (andI .u64 y 4294967295)) (shrI .u64 (mulI .u64 (andI .u64 x_ 4294967295) (andI .u64 y 4294967295)) 32)) 4294967295) (mulI .u64 (andI .u64 x_ 4294967295) (shrI .u64 y 32))) 32)), (mulI .u64 x_ y))
def math_bits_LeadingZeros64 (x_ : Int) : Int :=
 (letk (math_bits_Len64 x_) (fun (x1 : Int) => (subI .i64 64 x1)))
def math_bits_Div64 (hi : Int) (lo : Int) (y : Int) : (Int × Int) :=
 (if (y == 0) then (default : (Int × Int)) else (if (decide (y ≤ hi)) then (default : (Int × Int)) else (if (hi == 0) then ((quoI .u64 lo y), (remI .u64 lo y)) else (letk (math_bits_LeadingZeros64 y) (fun (x10 : Int) => (letj (fun (p14 : Int) => (letj (fun (p15 : Int) => ((addI .u64 (mulI .u64 p14 4294967296) p15), (shrI .u64 (subI .u64 (addI .u64 (mulI .u64 (subI .u64 (addI .u64 (mulI .u64 (orI .u64 (shlI .u64 hi (convI .u64 x10)) (shrI .u64 lo (subI .u64 64 (convI .u64 x10)))) 4294967296) (shrI .u64 (shlI .u64 lo (convI .u64 x10)) 32)) (mulI .u64 p14 (shlI .u64 y (convI .u64 x10)))) 4294967296) (andI .u64 (shlI .u64 lo (convI .u64 x10)) 4294967295)) (mulI .u64 p15 (shlI .u64 y (convI .u64 x10)))) (convI .u64 x10)))) (fun j15 => (iter ((4294967296 - (subI .u64 (subI .u64 (addI .u64 (mulI .u64 (orI .u64 (shlI .u64 hi (convI .u64 x10)) (shrI .u64 lo (subI .u64 64 (convI .u64 x10)))) 4294967296) (shrI .u64 (shlI .u64 lo (convI .u64 x10)) 32)) (mulI .u64 p14 (shlI .u64 y (convI .u64 x10)))) (mulI .u64 (quoI .u64 (subI .u64 (addI .u64 (mulI .u64 (orI .u64 (shlI .u64 hi (convI .u64 x10)) (shrI .u64 lo (subI .u64 64 (convI .u64 x10)))) 4294967296) (shrI .u64 (shlI .u64 lo (convI .u64 x10)) 32)) (mulI .u64 p14 (shlI .u64 y (convI .u64 x10)))) (shrI .u64 (shlI .u64 y (convI .u64 x10)) 32)) (shrI .u64 (shlI .u64 y (convI .u64 x10)) 32)))).toNat + 1) (fun (ag16 : (Int × Int) → (Int × Int)) (p16 : Int × Int) => (if (decide (p16.2 ≥ 4294967296)) then (if (decide ((addI .u64 p16.1 (shrI .u64 (shlI .u64 y (convI .u64 x10)) 32)) ≥ 4294967296)) then (j15 (subI .u64 p16.2 1)) else (ag16 ((addI .u64 p16.1 (shrI .u64 (shlI .u64 y (convI .u64 x10)) 32)), (subI .u64 p16.2 1)))) else (if (decide ((mulI .u64 p16.2 (andI .u64 (shlI .u64 y (convI .u64 x10)) 4294967295)) > (addI .u64 (mulI .u64 4294967296 p16.1) (andI .u64 (shlI .u64 lo (convI .u64 x10)) 4294967295)))) then (if (decide ((addI .u64 p16.1 (shrI .u64 (shlI .u64 y (convI .u64 x10)) 32)) ≥ 4294967296)) then (j15 (subI .u64 p16.2 1)) else (ag16 ((addI .u64 p16.1 (shrI .u64 (shlI .u64 y (convI .u64 x10)) 32)), (subI .u64 p16.2 1)))) else (j15 p16.2)))) (fun _ => default) ((subI .u64 (subI .u64 (addI .u64 (mulI .u64 (orI .u64 (shlI .u64 hi (convI .u64 x10)) (shrI .u64 lo (subI .u64 64 (convI .u64 x10)))) 4294967296) (shrI .u64 (shlI .u64 lo (convI .u64 x10)) 32)) (mulI .u64 p14 (shlI .u64 y (convI .u64 x10)))) (mulI .u64 (quoI .u64 (subI .u64 (addI .u64 (mulI .u64 (orI .u64 (shlI .u64 hi (convI .u64 x10)) (shrI .u64 lo (subI .u64 64 (convI .u64 x10)))) 4294967296) (shrI .u64 (shlI .u64 lo (convI .u64 x10)) 32)) (mulI .u64 p14 (shlI .u64 y (convI .u64 x10)))) (shrI .u64 (shlI .u64 y (convI .u64 x10)) 32)) (shrI .u64 (shlI .u64 y (convI .u64 x10)) 32))), (quoI .u64 (subI .u64 (addI .u64 (mulI .u64 (orI .u64 (shlI .u64 hi (convI .u64 x10)) (shrI .u64 lo (subI .u64 64 (convI .u64 x10)))) 4294967296) (shrI .u64 (shlI .u64 lo (convI .u64 x10)) 32)) (mulI .u64 p14 (shlI .u64 y (convI .u64 x10)))) (shrI .u64 (shlI .u64 y (convI .u64 x10)) 32))))))) (fun j14 => (iter ((4294967296 - (subI .u64 (orI .u64 (shlI .u64 hi (convI .u64 x10)) (shrI .u64 lo (subI .u64 64 (convI .u64 x10)))) (mulI .u64 (quoI .u64 (orI .u64 (shlI .u64 hi (convI .u64 x10)) (shrI .u64 lo (subI .u64 64 (convI .u64 x10)))) (shrI .u64 (shlI .u64 y (convI .u64 x10)) 32)) (shrI .u64 (shlI .u64 y (convI .u64 x10)) 32)))).toNat + 1) (fun (ag29 : (Int × Int) → (Int × Int)) (p29 : Int × Int) => (if (decide (p29.1 ≥ 4294967296)) then (if (decide ((addI .u64 p29.2 (shrI .u64 (shlI .u64 y (convI .u64 x10)) 32)) ≥ 4294967296)) then (j14 (subI .u64 p29.1 1)) else (ag29 ((subI .u64 p29.1 1), (addI .u64 p29.2 (shrI .u64 (shlI .u64 y (convI .u64 x10)) 32))))) else (if (decide ((mulI .u64 p29.1 (andI .u64 (shlI .u64 y (convI .u64 x10)) 4294967295)) > (addI .u64 (mulI .u64 4294967296 p29.2) (shrI .u64 (shlI .u64 lo (convI .u64 x10)) 32)))) then (if (decide ((addI .u64 p29.2 (shrI .u64 (shlI .u64 y (convI .u64 x10)) 32)) ≥ 4294967296)) then (j14 (subI .u64 p29.1 1)) else (ag29 ((subI .u64 p29.1 1), (addI .u64 p29.2 (shrI .u64 (shlI .u64 y (convI .u64 x10)) 32))))) else (j14 p29.1)))) (fun _ => default) ((quoI .u64 (orI .u64 (shlI .u64 hi (convI .u64 x10)) (shrI .u64 lo (subI .u64 64 (convI .u64 x10)))) (shrI .u64 (shlI .u64 y (convI .u64 x10)) 32)), (subI .u64 (orI .u64 (shlI .u64 hi (convI .u64 x10)) (shrI .u64 lo (subI .u64 64 (convI .u64 x10)))) (mulI .u64 (quoI .u64 (orI .u64 (shlI .u64 hi (convI .u64 x10)) (shrI .u64 lo (subI .u64 64 (convI .u64 x10)))) (shrI .u64 (shlI .u64 y (convI .u64 x10)) 32)) (shrI .u64 (shlI .u64 y (convI .u64 x10)) 32))))))))))))
def prime_mul (a_ : Int) (b : Int) (n_ : Int) : Int :=
 (letk (math_bits_Mul64 a_ b) (fun (x1 : (Int × Int)) => (letk (math_bits_Div64 (x1.1) (x1.2) n_) (fun (x5 : (Int × Int)) => x5.2))))
def prime_pow (a_ : Int) (e_ : Int) (n_ : Int) : Int :=
 (iter (e_.toNat + 1) (fun (ag1 : (Int × Int × Int) → Int) (p1 : Int × Int × Int) => (if (decide (p1.2.1 > 0)) then (if ((andI .u64 p1.2.1 1) == 1) then (letk (prime_mul (p1.2.2) (p1.1) n_) (fun (x6 : Int) => (letk (prime_mul (p1.1) (p1.1) n_) (fun (x10 : Int) => (ag1 (x10, (shrI .u64 p1.2.1 1), x6)))))) else (letk (prime_mul (p1.1) (p1.1) n_) (fun (x15 : Int) => (ag1 (x15, (shrI .u64 p1.2.1 1), p1.2.2))))) else p1.2.2)) (fun _ => default) (a_, e_, 1))
def prime_composite (a_ : Int) (n_ : Int) (d_ : Int) (s : Int) : Bool :=
 (letk (prime_pow a_ d_ n_) (fun (x1 : Int) => (if (x1 == 1) then false else (if (x1 == (subI .u64 n_ 1)) then false else (iter ((subI .i64 s 1 - 0).toNat + 1) (fun (ag10 : (Int × Int) → Bool) (p10 : Int × Int) => (if (decide (p10.2 < (subI .i64 s 1))) then (letk (prime_mul (p10.1) (p10.1) n_) (fun (x13 : Int) => (if (x13 == (subI .u64 n_ 1)) then false else (ag10 (x13, (p10.2 + 1)))))) else true)) (fun _ => default) (x1, 0))))))
def prime_Is (n_ : Int) : Bool :=
 (if (decide (n_ < 2)) then false else (iter (((12 : Int) - 0).toNat + 1) (fun (ag4 : Int → Bool) (p4 : Int) => (if (decide (p4 < 12)) then (if ((remI .u64 (convI .u64 n_) (gt kg_0 p4)) == 0) then ((convI .u64 n_) == (gt kg_0 p4)) else (ag4 (p4 + 1))) else (letk (math_bits_TrailingZeros64 (subI .u64 (convI .u64 n_) 1)) (fun (x12 : Int) => (iter (((12 : Int) - 0).toNat + 1) (fun (ag16 : Int → Bool) (p16 : Int) => (if (decide (p16 < 12)) then (letk (prime_composite (gt kg_0 p16) (convI .u64 n_) (shrI .u64 (subI .u64 (convI .u64 n_) 1) x12) x12) (fun (x20 : Bool) => (if x20 then false else (ag16 (p16 + 1))))) else true)) (fun _ => default) 0))))) (fun _ => default) 0))
def word_residue (a_ : Int) (m : Int) : Bool :=
 (if (decide (a_ ≥ 0)) then (decide (a_ < m)) else false)
def word_check (a_ : Int) (b : Int) (m : Int) : Int :=
 (if (decide (m < 1)) then 1 else (if (decide (m ≥ 2305843009213693952)) then 1 else (letk (word_residue a_ m) (fun (x6 : Bool) => (if (!x6) then 2 else (letk (word_residue b m) (fun (x11 : Bool) => (if (!x11) then 2 else 0))))))))
def word_mul (a_ : Int) (b : Int) (m : Int) : Int :=
 (letk (math_bits_Mul64 (convI .u64 a_) (convI .u64 b)) (fun (x1 : (Int × Int)) => (letk (math_bits_Div64 (x1.1) (x1.2) (convI .u64 m)) (fun (x5 : (Int × Int)) => (convI .i64 x5.2)))))
def word_Pow (a_ : Int) (e_ : Int) (m : Int) : (Int × Int) :=
 (letk (word_check a_ a_ m) (fun (x1 : Int) => (if (x1 != 0) then (0, x1) else (if (decide (e_ < 0)) then (0, 2) else (iter (e_.toNat + 1) (fun (ag11 : (Int × Int × Int) → (Int × Int)) (p11 : Int × Int × Int) => (if (decide (p11.2.1 > 0)) then (if ((andI .i64 p11.2.1 1) == 1) then (letk (word_mul (p11.2.2) (p11.1) m) (fun (x16 : Int) => (letk (word_mul (p11.1) (p11.1) m) (fun (x20 : Int) => (ag11 (x20, (shrI .i64 p11.2.1 1), x16)))))) else (letk (word_mul (p11.1) (p11.1) m) (fun (x25 : Int) => (ag11 (x25, (shrI .i64 p11.2.1 1), p11.2.2))))) else (p11.2.2, 0))) (fun _ => default) (a_, e_, (remI .i64 1 m)))))))
def group_Valid (g : S_api_Group) : Bool :=
 (if (decide (g.P ≥ 2305843009213693952)) then false else (if (decide (g.Q < 3)) then false else (if ((remI .i64 g.Q 2) == 0) then false else (letk (prime_Is (g.P)) (fun (x7 : Bool) => (if (!x7) then false else (letk (prime_Is (g.Q)) (fun (x12 : Bool) => (if (!x12) then false else (if ((remI .i64 (subI .i64 g.P 1) g.Q) != 0) then false else (if (decide (g.G < 2)) then false else (if (decide (g.G ≥ g.P)) then false else (letk (word_Pow (g.G) (g.Q) (g.P)) (fun (x24 : (Int × Int)) => (if (x24.2 == 0) then (x24.1 == 1) else false)))))))))))))))
def group_element (g : S_api_Group) (x_ : Int) : Bool :=
 (if (decide (x_ < 1)) then false else (if (decide (x_ ≥ g.P)) then false else (letk (word_Pow x_ (g.Q) (g.P)) (fun (x6 : (Int × Int)) => (x6.1 == 1)))))
def group_Contains (g : S_api_Group) (x_ : Int) : Bool :=
 (letk (group_Valid g) (fun (x1 : Bool) => (if x1 then (letk (group_element g x_) (fun (x5 : Bool) => x5)) else false)))
def base_Valid (b : S_api_Bases) : Bool :=
 (letk (group_Valid (b.Group)) (fun (x1 : Bool) => (if (!x1) then false else (iter (((3 : Int) - 0).toNat + 1) (fun (ag7 : Int → Bool) (p7 : Int) => (if (decide (p7 < (3 : Int))) then (if ((gt ([b.G1, b.G2, b.H] : List Int) p7) == 1) then false else (letk (group_Contains (b.Group) (gt ([b.G1, b.G2, b.H] : List Int) p7)) (fun (x13 : Bool) => (if (!x13) then false else (ag7 (p7 + 1)))))) else true)) (fun _ => default) 0))))
def epoch_within (x_ : Int) (low : Int) (high : Int) : Bool :=
 (if (decide (x_ ≥ low)) then (decide (x_ ≤ high)) else false)
def epoch_numbers (bank : Int) (epoch : Int) (from_ : Int) (until_ : Int) (final : Int) : Bool :=
 (letk (epoch_within bank 0 7) (fun (x1 : Bool) => (if x1 then (letk (epoch_within epoch 0 1000000) (fun (x5 : Bool) => (if x5 then (if (decide (from_ ≥ 0)) then (if (decide (from_ < until_)) then (if (decide (until_ ≤ final)) then (decide (final ≤ 1099511627776)) else false) else false) else false) else false))) else false)))
def denom_single (d_ : S_api_Denom) : Bool :=
 (if (q_api_Denom d_ z_api_Denom) then true else (if (decide (d_.Value ≥ 1)) then (if (decide (d_.Value ≤ 1099511627776)) then (if (decide (d_.Depth ≥ 0)) then (if (decide (d_.Depth ≤ 5)) then ((remI .i64 d_.Value (shlI .i64 1 d_.Depth)) == 0) else false) else false) else false) else false))
def denom_Valid (l : (List S_api_Denom)) : Bool :=
 (if (decide ((l.length : Int) < 1)) then false else (if (decide ((l.length : Int) > 16)) then false else (iter (((l.length : Int) - 0).toNat + 1) (fun (ag6 : Int → Bool) (p6 : Int) => (if (decide (p6 < (l.length : Int))) then (letk (denom_single (gt l p6)) (fun (x10 : Bool) => (if (!x10) then false else (if (decide (p6 > 0)) then (if (decide ((gt l p6).Value < (gt l (p6 - 1)).Value)) then false else (if ((gt l p6).Value == (gt l (p6 - 1)).Value) then (if (decide ((gt l p6).Depth ≤ (gt l (p6 - 1)).Depth)) then false else (ag6 (p6 + 1))) else (ag6 (p6 + 1)))) else (ag6 (p6 + 1)))))) else true)) (fun _ => default) 0)))
def restrict_element (b : S_api_Bases) (x_ : Int) : Bool :=
 (if (decide (x_ < 1)) then false else (if (decide (x_ ≥ b.Group.P)) then false else (letk (word_Pow x_ (b.Group.Q) (b.Group.P)) (fun (x6 : (Int × Int)) => (if (x6.2 == 0) then (x6.1 == 1) else false)))))
def restrict_message (b : S_api_Bases) (m : Int) : Bool :=
 (if (m != 1) then (letk (restrict_element b m) (fun (x3 : Bool) => x3)) else false)
def restrict_Valid (b : S_api_Bases) (k_ : S_api_BankKey) : Bool :=
 (letk (base_Valid b) (fun (x1 : Bool) => (if x1 then (letk (restrict_message b (k_.H)) (fun (x5 : Bool) => (if x5 then (letk (restrict_message b (k_.H1)) (fun (x9 : Bool) => (if x9 then (letk (restrict_message b (k_.H2)) (fun (x13 : Bool) => x13)) else false))) else false))) else false)))
def epoch_Valid (b : S_api_Bases) (r_ : S_api_KeyRecord) : Bool :=
 (letk (epoch_numbers (r_.Bank) (r_.Epoch) (r_.From) (r_.Until) (r_.Final)) (fun (x1 : Bool) => (if x1 then (letk (epoch_within (r_.Denom) 0 16) (fun (x5 : Bool) => (if x5 then (if (r_.Value == 0) then (if (r_.Depth == 0) then (letk (restrict_Valid b (r_.Key)) (fun (x21 : Bool) => x21)) else (letk (denom_Valid ([({ Value := r_.Value, Depth := r_.Depth } : S_api_Denom)] : List S_api_Denom)) (fun (x13 : Bool) => (if x13 then (letk (restrict_Valid b (r_.Key)) (fun (x17 : Bool) => x17)) else false)))) else (letk (denom_Valid ([({ Value := r_.Value, Depth := r_.Depth } : S_api_Denom)] : List S_api_Denom)) (fun (x25 : Bool) => (if x25 then (letk (restrict_Valid b (r_.Key)) (fun (x29 : Bool) => x29)) else false)))) else false))) else false)))
def draw_Valid (d_ : S_api_Draw) : Bool :=
 (if (decide (d_.Counter ≥ 0)) then (decide (d_.Counter ≤ 1099511627776)) else false)
def withdraw_secret (b : S_api_Bases) (x_ : Int) : Bool :=
 (if (decide (x_ ≥ 1)) then (decide (x_ < b.Group.Q)) else false)
def withdraw_power (b : S_api_Bases) (x_ : Int) (e_ : Int) : Int :=
 (letk (word_Pow x_ e_ (b.Group.P)) (fun (x1 : (Int × Int)) => x1.1))
def word_Mul (a_ : Int) (b : Int) (m : Int) : (Int × Int) :=
 (letk (word_check a_ b m) (fun (x1 : Int) => (if (x1 != 0) then (0, x1) else (letk (word_mul a_ b m) (fun (x8 : Int) => (x8, 0))))))
def withdraw_times (b : S_api_Bases) (x_ : Int) (y : Int) : Int :=
 (letk (word_Mul x_ y (b.Group.P)) (fun (x1 : (Int × Int)) => x1.1))
def withdraw_start (b : S_api_Bases) (k_ : S_api_BankKey) (u : Int) : S_api_CoinView :=
 (letk (withdraw_power b (b.G1) u) (fun (x1 : Int) => (letk (withdraw_times b x1 (b.G2)) (fun (x3 : Int) => (letk (withdraw_power b (k_.H1) u) (fun (x5 : Int) => (letk (withdraw_times b x5 (k_.H2)) (fun (x7 : Int) => ({ M := x3, Z := x7, A := 0, B := 0, C := 0, R := 0 } : S_api_CoinView)))))))))
def withdraw_number (n_ : Int) : Bool :=
 (if (decide (n_ ≥ 0)) then (decide (n_ ≤ 1073741824)) else false)
def coin_nonzero (b : S_api_Bases) (n_ : Int) : Bool :=
 (if (decide (n_ ≥ 1)) then (decide (n_ < b.Group.Q)) else false)
def product_elements_1 (x_ : Int) (c0 : S_api_Group) : Bool :=
 (letk (group_Contains c0 x_) (fun (x1 : Bool) => (!x1)))
def slices_IndexFunc_int_int_at_product_elements_1 (s : (List Int)) (f__c0 : S_api_Group) : Int :=
 (iter (((s.length : Int) - 0).toNat + 1) (fun (ag1 : Int → Int) (p1 : Int) => (if (decide (p1 < (s.length : Int))) then (letk (product_elements_1 (gt s p1) f__c0) (fun (x5 : Bool) => (if x5 then p1 else (ag1 (p1 + 1))))) else (-1))) (fun _ => default) 0)
def slices_ContainsFunc_int_int_at_product_elements_1 (s : (List Int)) (f__c0 : S_api_Group) : Bool :=
 (letk (slices_IndexFunc_int_int_at_product_elements_1 s f__c0) (fun (x1 : Int) => (decide (x1 ≥ 0))))
def product_elements (g : S_api_Group) (l : (List Int)) : Bool :=
 (letk (slices_ContainsFunc_int_int_at_product_elements_1 l g) (fun (x1 : Bool) => (!x1)))
def product_exponents_1 (e_ : Int) (c0 : S_api_Group) : Bool :=
 (if (decide (e_ < 0)) then true else (decide (e_ ≥ c0.Q)))
def slices_IndexFunc_int_int_at_product_exponents_1 (s : (List Int)) (f__c0 : S_api_Group) : Int :=
 (iter (((s.length : Int) - 0).toNat + 1) (fun (ag1 : Int → Int) (p1 : Int) => (if (decide (p1 < (s.length : Int))) then (letk (product_exponents_1 (gt s p1) f__c0) (fun (x5 : Bool) => (if x5 then p1 else (ag1 (p1 + 1))))) else (-1))) (fun _ => default) 0)
def slices_ContainsFunc_int_int_at_product_exponents_1 (s : (List Int)) (f__c0 : S_api_Group) : Bool :=
 (letk (slices_IndexFunc_int_int_at_product_exponents_1 s f__c0) (fun (x1 : Int) => (decide (x1 ≥ 0))))
def product_exponents (g : S_api_Group) (l : (List Int)) : Bool :=
 (letk (slices_ContainsFunc_int_int_at_product_exponents_1 l g) (fun (x1 : Bool) => (!x1)))
def group_check (g : S_api_Group) (l : (List Int)) : Int :=
 (letk (group_Valid g) (fun (x1 : Bool) => (if (!x1) then 1 else (iter (((l.length : Int) - 0).toNat + 1) (fun (ag7 : Int → Int) (p7 : Int) => (if (decide (p7 < (l.length : Int))) then (letk (group_element g (gt l p7)) (fun (x11 : Bool) => (if (!x11) then 2 else (ag7 (p7 + 1))))) else 0)) (fun _ => default) 0))))
def word_Reduce (a_ : Int) (m : Int) : (Int × Int) :=
 (letk (word_check 0 0 m) (fun (x1 : Int) => (if (x1 != 0) then (0, x1) else (if (decide ((remI .i64 a_ m) < 0)) then ((addI .i64 (remI .i64 a_ m) m), 0) else ((remI .i64 a_ m), 0)))))
def group_Power (g : S_api_Group) (a_ : Int) (e_ : Int) : (Int × Int) :=
 (letk (group_check g ([a_] : List Int)) (fun (x1 : Int) => (if (x1 != 0) then (0, x1) else (letk (word_Reduce e_ (g.Q)) (fun (x7 : (Int × Int)) => (letk (word_Pow a_ (x7.1) (g.P)) (fun (x10 : (Int × Int)) => (x10.1, x10.2))))))))
def group_Mul (g : S_api_Group) (a_ : Int) (b : Int) : (Int × Int) :=
 (letk (group_check g ([a_, b] : List Int)) (fun (x1 : Int) => (if (x1 != 0) then (0, x1) else (letk (word_Mul a_ b (g.P)) (fun (x7 : (Int × Int)) => (x7.1, x7.2))))))
def product_powers (g : S_api_Group) (bases : (List Int)) (exps : (List Int)) : (Int × Int) :=
 (iter (((bases.length : Int) - 0).toNat + 1) (fun (ag1 : (Int × Int) → (Int × Int)) (p1 : Int × Int) => (if (decide (p1.2 < (bases.length : Int))) then (letk (group_Power g (gt bases p1.2) (gt exps p1.2)) (fun (x6 : (Int × Int)) => (if (x6.2 != 0) then (0, x6.2) else (letk (group_Mul g (p1.1) (x6.1)) (fun (x11 : (Int × Int)) => (if (x11.2 != 0) then (0, x11.2) else (ag1 (x11.1, (p1.2 + 1))))))))) else (p1.1, 0))) (fun _ => default) (1, 0))
def product_Product (g : S_api_Group) (bases : (List Int)) (exps : (List Int)) : (Int × Int) :=
 (letk (group_Valid g) (fun (x1 : Bool) => (if (!x1) then (0, 1) else (if ((bases.length : Int) != (exps.length : Int)) then (0, 1) else (if (decide ((bases.length : Int) > 100)) then (0, 5) else (letk (product_elements g bases) (fun (x12 : Bool) => (if (!x12) then (0, 2) else (letk (product_exponents g exps) (fun (x17 : Bool) => (if (!x17) then (0, 2) else (letk (product_powers g bases exps) (fun (x23 : (Int × Int)) => (x23.1, x23.2))))))))))))))
def coin_message (b : S_api_Bases) (u : Int) : Int :=
 (letk (product_Product (b.Group) ([b.G1, b.G2] : List Int) ([u, 1] : List Int)) (fun (x1 : (Int × Int)) => x1.1))
def bytes_Clone (s : List Int) : List Int := s
def digest_count (n_ : Int) : (List Int) :=
 (iter (((8 : Int) - 0).toNat + 1) (fun (ag1 : (Int × List Int) → (List Int)) (p1 : Int × List Int) => (if (decide (p1.1 < (8 : Int))) then (ag1 ((p1.1 + 1), (st p1.2 p1.1 (convI .u8 (shrI .u64 n_ (56 - (8 * p1.1))))))) else p1.2)) (fun _ => default) (0, ([(0 : Int), (0 : Int), (0 : Int), (0 : Int), (0 : Int), (0 : Int), (0 : Int), (0 : Int)] : List Int)))
def math_bits_RotateLeft32 (x_ : Int) (k_ : Int) : Int :=
 (orI .u32 (shlI .u32 x_ (andI .u64 (convI .u64 k_) 31)) (shrI .u32 x_ (subI .u64 32 (andI .u64 (convI .u64 k_) 31))))
def digest_right (x_ : Int) (n_ : Int) : Int :=
 (letk (math_bits_RotateLeft32 x_ (negI .i64 n_)) (fun (x1 : Int) => x1))
def digest_schedule (block : (List Int)) : (List Int) :=
 (iter (((16 : Int) - 0).toNat + 1) (fun (ag1 : (Int × (List Int)) → (List Int)) (p1 : Int × (List Int)) => (if (decide (p1.1 < 16)) then (iter ((((sl block (4 * p1.1) ((4 * p1.1) + 4)).length : Int) - 0).toNat + 1) (fun (ag7 : (Int × (List Int)) → (List Int)) (p7 : Int × (List Int)) => (if (decide (p7.1 < ((sl block (4 * p1.1) ((4 * p1.1) + 4)).length : Int))) then (ag7 ((p7.1 + 1), (arrN 64 (st (arrN 64 p7.2) p1.1 (orI .u32 (shlI .u32 (gt p7.2 p1.1) 8) (convI .u32 (gt (sl block (4 * p1.1) ((4 * p1.1) + 4)) p7.1))))))) else (ag1 ((p1.1 + 1), p7.2)))) (fun _ => default) (0, p1.2)) else (iter (((64 : Int) - 16).toNat + 1) (fun (ag17 : (Int × (List Int)) → (List Int)) (p17 : Int × (List Int)) => (if (decide (p17.1 < 64)) then (letk (digest_right (gt p17.2 (p17.1 - 15)) 7) (fun (x26 : Int) => (letk (digest_right (gt p17.2 (p17.1 - 15)) 18) (fun (x29 : Int) => (letk (digest_right (gt p17.2 (p17.1 - 2)) 17) (fun (x32 : Int) => (letk (digest_right (gt p17.2 (p17.1 - 2)) 19) (fun (x35 : Int) => (ag17 ((p17.1 + 1), (arrN 64 (st (arrN 64 p17.2) p17.1 (addI .u32 (addI .u32 (addI .u32 (gt p17.2 (p17.1 - 16)) (xorI .u32 (xorI .u32 x26 x29) (shrI .u32 (gt p17.2 (p17.1 - 15)) 3))) (gt p17.2 (p17.1 - 7))) (xorI .u32 (xorI .u32 x32 x35) (shrI .u32 (gt p17.2 (p17.1 - 2)) 10))))))))))))))) else p17.2)) (fun _ => default) (16, p1.2)))) (fun _ => default) (0, [0, 0, 0, 0, 0, 0, 0, 0, 0, 0, 0, 0, 0, 0, 0, 0, 0, 0, 0, 0, 0, 0, 0, 0, 0, 0, 0, 0, 0, 0, 0, 0, 0, 0, 0, 0, 0, 0, 0, 0, 0, 0, 0, 0, 0, 0, 0, 0, 0, 0, 0, 0, 0, 0, 0, 0, 0, 0, 0, 0, 0, 0, 0, 0]))
def digest_mix (state : (List Int)) (block : (List Int)) : (List Int) :=
 (letk (digest_schedule block) (fun (x1 : (List Int)) => (iter (((64 : Int) - 0).toNat + 1) (fun (ag4 : (Int × Int × Int × Int × Int × Int × Int × Int × Int) → (List Int)) (p4 : Int × Int × Int × Int × Int × Int × Int × Int × Int) => (if (decide (p4.2.2.2.2.2.2.2.2 < 64)) then (letk (digest_right (p4.2.2.2.2.1) 6) (fun (x7 : Int) => (letk (digest_right (p4.2.2.2.2.1) 11) (fun (x9 : Int) => (letk (digest_right (p4.2.2.2.2.1) 25) (fun (x11 : Int) => (letk (digest_right (p4.1) 2) (fun (x16 : Int) => (letk (digest_right (p4.1) 13) (fun (x19 : Int) => (letk (digest_right (p4.1) 22) (fun (x22 : Int) => (ag4 ((addI .u32 (addI .u32 (addI .u32 (addI .u32 (addI .u32 p4.2.2.2.2.2.2.2.1 (xorI .u32 (xorI .u32 x7 x9) x11)) (xorI .u32 (andI .u32 p4.2.2.2.2.1 p4.2.2.2.2.2.1) (andI .u32 (notI .u32 p4.2.2.2.2.1) p4.2.2.2.2.2.2.1))) (gt kg_5 p4.2.2.2.2.2.2.2.2)) (gt x1 p4.2.2.2.2.2.2.2.2)) (addI .u32 (xorI .u32 (xorI .u32 x16 x19) x22) (xorI .u32 (xorI .u32 (andI .u32 p4.1 p4.2.1) (andI .u32 p4.1 p4.2.2.1)) (andI .u32 p4.2.1 p4.2.2.1)))), p4.1, p4.2.1, p4.2.2.1, (addI .u32 p4.2.2.2.1 (addI .u32 (addI .u32 (addI .u32 (addI .u32 p4.2.2.2.2.2.2.2.1 (xorI .u32 (xorI .u32 x7 x9) x11)) (xorI .u32 (andI .u32 p4.2.2.2.2.1 p4.2.2.2.2.2.1) (andI .u32 (notI .u32 p4.2.2.2.2.1) p4.2.2.2.2.2.2.1))) (gt kg_5 p4.2.2.2.2.2.2.2.2)) (gt x1 p4.2.2.2.2.2.2.2.2))), p4.2.2.2.2.1, p4.2.2.2.2.2.1, p4.2.2.2.2.2.2.1, (p4.2.2.2.2.2.2.2.2 + 1))))))))))))))) else (iter (((8 : Int) - 0).toNat + 1) (fun (ag26 : (Int × (List Int)) → (List Int)) (p26 : Int × (List Int)) => (if (decide (p26.1 < 8)) then (ag26 ((p26.1 + 1), (arrN 8 (st (arrN 8 p26.2) p26.1 (addI .u32 (gt p26.2 p26.1) (gt ([p4.1, p4.2.1, p4.2.2.1, p4.2.2.2.1, p4.2.2.2.2.1, p4.2.2.2.2.2.1, p4.2.2.2.2.2.2.1, p4.2.2.2.2.2.2.2.1] : List Int) p26.1)))))) else p26.2)) (fun _ => default) (0, state)))) (fun _ => default) ((gt state 0), (gt state 1), (gt state 2), (gt state 3), (gt state 4), (gt state 5), (gt state 6), (gt state 7), 0))))
def digest_Sum (b : (List Int)) : (List Int) :=
 (letk (bytes_Clone b) (fun (x1 : (List Int)) => (iter (((56 - (((x1 ++ ([128] : List Int))).length : Int)) % 64).toNat + 1) (fun (ag5 : (List Int) → (List Int)) (p5 : List Int) => (if ((remI .i64 (p5.length : Int) 64) != 56) then (ag5 (p5 ++ ([0] : List Int))) else (letk (digest_count (mulI .u64 8 (convI .u64 (b.length : Int)))) (fun (x9 : (List Int)) => (iter (((p5 ++ x9)).length + 1) (fun (ag13 : (List Int × (List Int)) → (List Int)) (p13 : List Int × (List Int)) => (if (decide ((p13.1.length : Int) > 0)) then (letk (digest_mix (p13.2) (sl p13.1 0 64)) (fun (x16 : (List Int)) => (ag13 ((sl p13.1 64 (p13.1.length : Int)), x16)))) else (iter (((8 : Int) - 0).toNat + 1) (fun (ag20 : (Int × (List Int)) → (List Int)) (p20 : Int × (List Int)) => (if (decide (p20.1 < 8)) then (iter (((4 : Int) - 0).toNat + 1) (fun (ag24 : (Int × (List Int)) → (List Int)) (p24 : Int × (List Int)) => (if (decide (p24.1 < 4)) then (ag24 ((p24.1 + 1), (arrN 32 (st (arrN 32 p24.2) ((4 * p20.1) + p24.1) (convI .u8 (shrI .u32 (gt p13.2 p20.1) (24 - (8 * p24.1)))))))) else (ag20 ((p20.1 + 1), p24.2)))) (fun _ => default) (0, p20.2)) else p20.2)) (fun _ => default) (0, [0, 0, 0, 0, 0, 0, 0, 0, 0, 0, 0, 0, 0, 0, 0, 0, 0, 0, 0, 0, 0, 0, 0, 0, 0, 0, 0, 0, 0, 0, 0, 0])))) (fun _ => default) ((p5 ++ x9), [1779033703, 3144134277, 1013904242, 2773480762, 1359893119, 2600822924, 528734635, 1541459225])))))) (fun _ => default) (x1 ++ ([128] : List Int)))))
def draw_check (d_ : S_api_Draw) (n_ : Int) (low : Int) (high : Int) : Int :=
 (letk (draw_Valid d_) (fun (x1 : Bool) => (if (!x1) then 1 else (if (decide (n_ < low)) then 2 else (if (decide (n_ > high)) then 2 else 0)))))
def draw_position (d_ : S_api_Draw) : (List Int) :=
 (iter (((56 : Int) + 8).toNat + 1) (fun (ag1 : (Int × List Int) → (List Int)) (p1 : Int × List Int) => (if (decide (p1.1 ≥ 0)) then (ag1 ((p1.1 - 8), (p1.2 ++ ([(convI .u8 (shrI .i64 d_.Counter p1.1))] : List Int)))) else p1.2)) (fun _ => default) (56, (([] : List Int) ++ (arrN 32 d_.Seed))))
def draw_source_block (s_ : S_draw_source) : ((List Int) × S_draw_source) :=
 (if (s_.d.Counter == 1099511627776) then ([0, 0, 0, 0, 0, 0, 0, 0, 0, 0, 0, 0, 0, 0, 0, 0, 0, 0, 0, 0, 0, 0, 0, 0, 0, 0, 0, 0, 0, 0, 0, 0], ({ d := s_.d, full := true } : S_draw_source)) else (letk (draw_position (s_.d)) (fun (x4 : (List Int)) => (letk (digest_Sum x4) (fun (x8 : (List Int)) => (x8, ({ d := ({ Seed := s_.d.Seed, Counter := (addI .i64 s_.d.Counter 1) } : S_api_Draw), full := s_.full } : S_draw_source)))))))
def draw_first (h_ : (List Int)) : Int :=
 (iter (((8 : Int) - 0).toNat + 1) (fun (ag1 : (Int × Int) → Int) (p1 : Int × Int) => (if (decide (p1.2 < (8 : Int))) then (ag1 ((orI .u64 (shlI .u64 p1.1 8) (convI .u64 (gt ([(gt h_ 0), (gt h_ 1), (gt h_ 2), (gt h_ 3), (gt h_ 4), (gt h_ 5), (gt h_ 6), (gt h_ 7)] : List Int) p1.2))), (p1.2 + 1))) else p1.1)) (fun _ => default) (0, 0))
def draw_source_number (s_ : S_draw_source) (q_ : Int) : (Int × S_draw_source) :=
 (letk (math_bits_Len64 (convI .u64 (subI .i64 q_ 1))) (fun (x1 : Int) => (iter (((256 : Int) - 0).toNat + 1) (fun (ag5 : (Int × Int × S_draw_source) → (Int × S_draw_source)) (p5 : Int × Int × S_draw_source) => (if (decide (p5.2.1 < 256)) then (letk (draw_source_block (p5.2.2)) (fun (x8 : ((List Int) × S_draw_source)) => (if x8.2.full then (0, ({ d := x8.2.d, full := true } : S_draw_source)) else (letk (draw_first (x8.1)) (fun (x14 : Int) => (if (decide ((andI .u64 x14 (subI .u64 (shlI .u64 1 x1) 1)) < (convI .u64 q_))) then ((convI .i64 (andI .u64 x14 (subI .u64 (shlI .u64 1 x1) 1))), ({ d := x8.2.d, full := false } : S_draw_source)) else (ag5 ((andI .u64 x14 (subI .u64 (shlI .u64 1 x1) 1)), (p5.2.1 + 1), ({ d := x8.2.d, full := false } : S_draw_source))))))))) else ((convI .i64 (remI .u64 p5.1 (convI .u64 q_))), p5.2.2))) (fun _ => default) (0, 0, s_))))
def draw_Nonzero (d_ : S_api_Draw) (q : Int) : (S_api_Draw × Int × Int) :=
 (letk (draw_check d_ q 2 2305843009213693951) (fun (x1 : Int) => (if (x1 != 0) then (z_api_Draw, 0, x1) else (iter (((256 : Int) - 0).toNat + 1) (fun (ag8 : (Int × S_api_Draw × S_draw_source) → (S_api_Draw × Int × Int)) (p8 : Int × S_api_Draw × S_draw_source) => (if (decide (p8.1 < 256)) then (letk (draw_source_number (p8.2.2) q) (fun (x11 : (Int × S_draw_source)) => (if x11.2.full then (z_api_Draw, 0, 5) else (if (x11.1 != 0) then (x11.2.d, x11.1, 0) else (ag8 ((p8.1 + 1), p8.2.1, ({ d := x11.2.d, full := false } : S_draw_source))))))) else (p8.2.2.d, 1, 0))) (fun _ => default) (0, z_api_Draw, ({ d := d_, full := false } : S_draw_source))))))
def draw_source_result (s_ : S_draw_source) : (S_api_Draw × Int × S_draw_source) :=
 (if s_.full then (z_api_Draw, 5, ({ d := s_.d, full := true } : S_draw_source)) else (s_.d, 0, ({ d := s_.d, full := false } : S_draw_source)))
def draw_List (d_ : S_api_Draw) (q : Int) (n_ : Int) : (S_api_Draw × (List Int) × Int) :=
 (letk (draw_check d_ q 1 2305843009213693951) (fun (x1 : Int) => (letj (fun (p5 : Int) => (if (p5 != 0) then (z_api_Draw, ([] : List Int), p5) else (iter ((n_ - 0).toNat + 1) (fun (ag9 : (Int × S_draw_source × List Int) → (S_api_Draw × (List Int) × Int)) (p9 : Int × S_draw_source × List Int) => (if (decide (p9.1 < n_)) then (letk (draw_source_number (p9.2.1) q) (fun (x12 : (Int × S_draw_source)) => (ag9 ((p9.1 + 1), x12.2, (p9.2.2 ++ ([x12.1] : List Int)))))) else (letk (draw_source_result (p9.2.1)) (fun (x16 : (S_api_Draw × Int × S_draw_source)) => (if (x16.2.1 != 0) then (z_api_Draw, ([] : List Int), x16.2.1) else (x16.1, p9.2.2, 0)))))) (fun _ => default) (0, ({ d := d_, full := false } : S_draw_source), ([] : List Int))))) (fun j5 => (if (x1 == 0) then (letk (draw_check d_ n_ 0 1000) (fun (x24 : Int) => (j5 x24))) else (j5 x1))))))
def coin_leaf (b : S_api_Bases) (x_ : (List Int)) : Int :=
 (letk (product_Product (b.Group) ([b.G1, b.G2] : List Int) (arrN 2 x_)) (fun (x1 : (Int × Int)) => x1.1))
def coin_Secrets (b : S_api_Bases) (u : Int) (depth : Int) (d_ : S_api_Draw) : (S_api_CoinSecret × S_api_Draw × Int) :=
 (letk (base_Valid b) (fun (x1 : Bool) => (if (!x1) then (z_api_CoinSecret, z_api_Draw, 1) else (letk (draw_Valid d_) (fun (x6 : Bool) => (if (!x6) then (z_api_CoinSecret, z_api_Draw, 1) else (letk (coin_nonzero b u) (fun (x12 : Bool) => (if (!x12) then (z_api_CoinSecret, z_api_Draw, 2) else (letk (coin_message b u) (fun (x17 : Int) => (if (x17 == 1) then (z_api_CoinSecret, z_api_Draw, 2) else (if (decide (depth < 0)) then (z_api_CoinSecret, z_api_Draw, 2) else (if (decide (depth > 5)) then (z_api_CoinSecret, z_api_Draw, 2) else (letk (draw_Nonzero d_ (b.Group.Q)) (fun (x27 : (S_api_Draw × Int × Int)) => (iter (((shlI .i64 1 depth) - 0).toNat + 1) (fun (ag30 : (Int × Int × S_api_Draw × S_api_CoinSecret × S_api_Draw × List (List Int) × List (List Int)) → (S_api_CoinSecret × S_api_Draw × Int)) (p30 : Int × Int × S_api_Draw × S_api_CoinSecret × S_api_Draw × List (List Int) × List (List Int)) => (if (decide (p30.2.1 < (shlI .i64 1 depth))) then (iter (((256 : Int) - 0).toNat + 1) (fun (ag33 : (Int × Bool × Int × S_api_Draw × List (List Int) × List (List Int)) → (S_api_CoinSecret × S_api_Draw × Int)) (p33 : Int × Bool × Int × S_api_Draw × List (List Int) × List (List Int)) => (if (decide (p33.2.2.1 < 256)) then (if (!p33.2.1) then (if (p33.1 == 0) then (letk (draw_List (p33.2.2.2.1) (b.Group.Q) 2) (fun (x40 : (S_api_Draw × (List Int) × Int)) => (if (x40.2.2 != 0) then (z_api_CoinSecret, z_api_Draw, 5) else (letk (coin_leaf b (arrN 2 x40.2.1)) (fun (x49 : Int) => (if (!(List.contains p33.2.2.2.2.1 [x49])) then (ag33 (x40.2.2, true, (p33.2.2.1 + 1), x40.1, (addK p33.2.2.2.2.1 [x49]), (p33.2.2.2.2.2 ++ ([(arrN 2 x40.2.1)] : List (List Int))))) else (ag33 (x40.2.2, p33.2.1, (p33.2.2.1 + 1), x40.1, p33.2.2.2.2.1, p33.2.2.2.2.2)))))))) else (z_api_CoinSecret, z_api_Draw, 5)) else (ag30 (p33.1, (p30.2.1 + 1), p33.2.2.2.1, p30.2.2.2.1, p30.2.2.2.2.1, p33.2.2.2.2.1, p33.2.2.2.2.2))) else (if (!p33.2.1) then (z_api_CoinSecret, z_api_Draw, 5) else (ag30 (p33.1, (p30.2.1 + 1), p33.2.2.2.1, p30.2.2.2.1, p30.2.2.2.2.1, p33.2.2.2.2.1, p33.2.2.2.2.2))))) (fun _ => default) (p30.1, false, 0, p30.2.2.1, p30.2.2.2.2.2.1, p30.2.2.2.2.2.2)) else (({ U := u, S := x27.2.1, X := p30.2.2.2.2.2.2 } : S_api_CoinSecret), p30.2.2.1, 0))) (fun _ => default) (x27.2.2, 0, x27.1, z_api_CoinSecret, z_api_Draw, ([] : List (List Int)), ([] : List (List Int))))))))))))))))))))
def draw_Next (d_ : S_api_Draw) (q : Int) : (S_api_Draw × Int × Int) :=
 (letk (draw_check d_ q 1 2305843009213693951) (fun (x1 : Int) => (if (x1 != 0) then (z_api_Draw, 0, x1) else (letk (draw_source_number ({ d := d_, full := false } : S_draw_source) q) (fun (x8 : (Int × S_draw_source)) => (letk (draw_source_result (x8.2)) (fun (x11 : (S_api_Draw × Int × S_draw_source)) => (x11.1, x8.1, x11.2.1))))))))
def encode_Ints (l : (List Int)) : S_api_Item :=
 (iter (((l.length : Int) - 0).toNat + 1) (fun (ag1 : (Int × List S_api_Item) → S_api_Item) (p1 : Int × List S_api_Item) => (if (decide (p1.1 < (l.length : Int))) then (ag1 ((p1.1 + 1), (p1.2 ++ ([({ Kind := 1, N := (gt l p1.1), B := ([] : List Int), L := ([] : List S_api_Item) } : S_api_Item)] : List S_api_Item)))) else ({ Kind := 3, N := 0, B := ([] : List Int), L := p1.2 } : S_api_Item))) (fun _ => default) (0, ([] : List S_api_Item)))
def encode_within_1 (x_ : S_api_Item) (c0 : Int) : Bool :=
 (letk (withinM x_ (c0 - 1)) (fun (x2 : Bool) => (!x2)))
def slices_IndexFunc_api_Item_api_Item_at_encode_within_1 (s : (List S_api_Item)) (f__c0 : Int) : Int :=
 (iter (((s.length : Int) - 0).toNat + 1) (fun (ag1 : Int → Int) (p1 : Int) => (if (decide (p1 < (s.length : Int))) then (letk (encode_within_1 (gt s p1) f__c0) (fun (x5 : Bool) => (if x5 then p1 else (ag1 (p1 + 1))))) else (-1))) (fun _ => default) 0)
def slices_ContainsFunc_api_Item_api_Item_at_encode_within_1 (s : (List S_api_Item)) (f__c0 : Int) : Bool :=
 (letk (slices_IndexFunc_api_Item_api_Item_at_encode_within_1 s f__c0) (fun (x1 : Int) => (decide (x1 ≥ 0))))
def encode_within (i_ : S_api_Item) (depth : Int) : Bool :=
 (if (i_.Kind == 1) then (if ((i_.B.length : Int) == 0) then ((i_.L.length : Int) == 0) else false) else (if (i_.Kind == 2) then (if (i_.N == 0) then ((i_.L.length : Int) == 0) else false) else (if (i_.Kind == 3) then (if (i_.N == 0) then (if ((i_.B.length : Int) == 0) then (if (decide (depth > 0)) then (if (decide ((i_.L.length : Int) ≤ 1000)) then (letk (slices_ContainsFunc_api_Item_api_Item_at_encode_within_1 (i_.L) depth) (fun (x23 : Bool) => (!x23))) else false) else false) else false) else false) else false)))
def encode_Valid (i_ : S_api_Item) : Bool :=
 (letk (withinM i_ 8) (fun (x1 : Bool) => x1))
def encode_number (out : (List Int)) (n_ : Int) (size : Int) : (List Int) :=
 (iter (((size - 1) + 1).toNat + 1) (fun (ag2 : (Int × List Int) → (List Int)) (p2 : Int × List Int) => (if (decide (p2.1 ≥ 0)) then (ag2 ((p2.1 - 1), (p2.2 ++ ([(convI .u8 (shrI .u64 n_ (8 * p2.1)))] : List Int)))) else p2.2)) (fun _ => default) ((size - 1), out))
def encode_write (out : (List Int)) (i_ : S_api_Item) : (List Int) :=
 (if (decide ((out.length : Int) > 16384)) then out else (if (i_.Kind == 1) then (letk (encode_number (out ++ ([(convI .u8 i_.Kind)] : List Int)) (convI .u64 i_.N) 8) (fun (x6 : (List Int)) => x6)) else (if (i_.Kind == 2) then (letk (encode_number (out ++ ([(convI .u8 i_.Kind)] : List Int)) (convI .u64 (i_.B.length : Int)) 4) (fun (x13 : (List Int)) => (x13 ++ i_.B))) else (letk (encode_number (out ++ ([(convI .u8 i_.Kind)] : List Int)) (convI .u64 (i_.L.length : Int)) 4) (fun (x17 : (List Int)) => (iter (((i_.L.length : Int) - 0).toNat + 1) (fun (ag21 : (Int × List Int) → (List Int)) (p21 : Int × List Int) => (if (decide (p21.1 < (i_.L.length : Int))) then (letk (writeM (p21.2) (gt i_.L p21.1)) (fun (x25 : (List Int)) => (ag21 ((p21.1 + 1), x25)))) else p21.2)) (fun _ => default) (0, x17)))))))
def encode_Encode (i_ : S_api_Item) : ((List Int) × Int) :=
 (letk (encode_Valid i_) (fun (x1 : Bool) => (if (!x1) then (([] : List Int), 1) else (letk (writeM ([] : List Int) i_) (fun (x7 : (List Int)) => (if (decide ((x7.length : Int) > 16384)) then (([] : List Int), 5) else (x7, 0)))))))
def withdraw_message (l : (List Int)) : (List Int) :=
 (letk (encode_Ints l) (fun (x1 : S_api_Item) => (letk (encode_Encode x1) (fun (x5 : ((List Int) × Int)) => x5.1))))
def withdraw_Begin (b : S_api_Bases) (r_ : S_api_KeyRecord) (u : Int) (n_ : Int) (d_ : S_api_Draw) : (S_api_Withdrawal × (List Int) × S_api_Draw × Int) :=
 (letk (base_Valid b) (fun (x1 : Bool) => (if (!x1) then (letk (withdraw_Begin_1 1) (fun (x84 : (S_api_Withdrawal × (List Int) × S_api_Draw × Int)) => (x84.1, x84.2.1, x84.2.2.1, x84.2.2.2))) else (letk (epoch_Valid b r_) (fun (x6 : Bool) => (if (!x6) then (letk (withdraw_Begin_1 1) (fun (x80 : (S_api_Withdrawal × (List Int) × S_api_Draw × Int)) => (x80.1, x80.2.1, x80.2.2.1, x80.2.2.2))) else (letk (draw_Valid d_) (fun (x12 : Bool) => (if (!x12) then (letk (withdraw_Begin_1 1) (fun (x17 : (S_api_Withdrawal × (List Int) × S_api_Draw × Int)) => (x17.1, x17.2.1, x17.2.2.1, x17.2.2.2))) else (letk (withdraw_secret b u) (fun (x21 : Bool) => (if (!x21) then (letk (withdraw_Begin_1 2) (fun (x76 : (S_api_Withdrawal × (List Int) × S_api_Draw × Int)) => (x76.1, x76.2.1, x76.2.2.1, x76.2.2.2))) else (letk (withdraw_start b (r_.Key) u) (fun (x26 : S_api_CoinView) => (if (x26.M == 1) then (letk (withdraw_Begin_1 2) (fun (x72 : (S_api_Withdrawal × (List Int) × S_api_Draw × Int)) => (x72.1, x72.2.1, x72.2.2.1, x72.2.2.2))) else (letk (withdraw_number n_) (fun (x31 : Bool) => (if (!x31) then (letk (withdraw_Begin_1 2) (fun (x36 : (S_api_Withdrawal × (List Int) × S_api_Draw × Int)) => (x36.1, x36.2.1, x36.2.2.1, x36.2.2.2))) else (letk (withdraw_start b (r_.Key) u) (fun (x40 : S_api_CoinView) => (letk (coin_Secrets b u (r_.Depth) d_) (fun (x42 : (S_api_CoinSecret × S_api_Draw × Int)) => (if (x42.2.2 != 0) then (letk (withdraw_Begin_1 (x42.2.2)) (fun (x47 : (S_api_Withdrawal × (List Int) × S_api_Draw × Int)) => (x47.1, x47.2.1, x47.2.2.1, x47.2.2.2))) else (letk (draw_Nonzero (x42.2.1) (b.Group.Q)) (fun (x51 : (S_api_Draw × Int × Int)) => (if (x51.2.2 != 0) then (letk (withdraw_Begin_1 (x51.2.2)) (fun (x56 : (S_api_Withdrawal × (List Int) × S_api_Draw × Int)) => (x56.1, x56.2.1, x56.2.2.1, x56.2.2.2))) else (letk (draw_Next (x51.1) (b.Group.Q)) (fun (x60 : (S_api_Draw × Int × Int)) => (if (x60.2.2 != 0) then (letk (withdraw_Begin_1 (x60.2.2)) (fun (x65 : (S_api_Withdrawal × (List Int) × S_api_Draw × Int)) => (x65.1, x65.2.1, x65.2.2.1, x65.2.2.2))) else (letk (withdraw_message ([1, n_, r_.Bank, r_.Epoch, r_.Denom] : List Int)) (fun (x69 : (List Int)) => (({ Phase := 1, Number := n_, Bank := r_.Bank, Epoch := r_.Epoch, Denom := r_.Denom, Depth := r_.Depth, Secret := x42.1, Factors := ({ S := x42.1.S, U := x51.2.1, V := x60.2.1 } : S_api_CoinFactors), View := x40, Coin := z_api_Coin } : S_api_Withdrawal), x69, x60.1, 0))))))))))))))))))))))))))))))))
def encode_reader_fail (r_ : S_encode_reader) (e_ : Int) : S_encode_reader :=
 (if (r_.e == 0) then ({ b := r_.b, e := e_ } : S_encode_reader) else r_)
def encode_reader_take (r_ : S_encode_reader) (n_ : Int) : ((List Int) × S_encode_reader) :=
 (if (r_.e != 0) then (letk (encode_reader_fail r_ 4) (fun (x10 : S_encode_reader) => (([] : List Int), x10))) else (if (decide (n_ > (r_.b.length : Int))) then (letk (encode_reader_fail r_ 4) (fun (x5 : S_encode_reader) => (([] : List Int), x5))) else ((sl r_.b 0 n_), ({ b := (sl r_.b n_ (r_.b.length : Int)), e := r_.e } : S_encode_reader))))
def encode_reader_number (r_ : S_encode_reader) (size : Int) : (Int × S_encode_reader) :=
 (letk (encode_reader_take r_ size) (fun (x1 : ((List Int) × S_encode_reader)) => (iter (((x1.1.length : Int) - 0).toNat + 1) (fun (ag4 : (Int × Int) → (Int × S_encode_reader)) (p4 : Int × Int) => (if (decide (p4.2 < (x1.1.length : Int))) then (ag4 ((orI .u64 (shlI .u64 p4.1 8) (convI .u64 (gt x1.1 p4.2))), (p4.2 + 1))) else (p4.1, x1.2))) (fun _ => default) (0, 0))))
def encode_reader_item (r_ : S_encode_reader) (depth : Int) : (S_api_Item × S_encode_reader) :=
 (letk (encode_reader_number r_ 1) (fun (x1 : (Int × S_encode_reader)) => (letj (fun (p6 : Unit) => (if ((convI .i64 x1.1) == 1) then (letk (encode_reader_number (x1.2) 8) (fun (x9 : (Int × S_encode_reader)) => (({ Kind := (convI .i64 x1.1), N := (convI .i64 x9.1), B := ([] : List Int), L := ([] : List S_api_Item) } : S_api_Item), x9.2))) else (if ((convI .i64 x1.1) == 2) then (letk (encode_reader_number (x1.2) 4) (fun (x17 : (Int × S_encode_reader)) => (letk (encode_reader_take (x17.2) (convI .i64 x17.1)) (fun (x22 : ((List Int) × S_encode_reader)) => (letk (bytes_Clone (x22.1)) (fun (x26 : (List Int)) => (({ Kind := (convI .i64 x1.1), N := 0, B := x26, L := ([] : List S_api_Item) } : S_api_Item), x22.2))))))) else (if ((convI .i64 x1.1) == 3) then (letk (encode_reader_number (x1.2) 4) (fun (x33 : (Int × S_encode_reader)) => (letj (fun (p38 : S_encode_reader) => (iter (((convI .i64 x33.1) - 0).toNat + 1) (fun (ag39 : (Int × S_encode_reader × List S_api_Item) → (S_api_Item × S_encode_reader)) (p39 : Int × S_encode_reader × List S_api_Item) => (if (decide (p39.1 < (convI .i64 x33.1))) then (if (p39.2.1.e != 0) then (({ Kind := (convI .i64 x1.1), N := 0, B := ([] : List Int), L := p39.2.2 } : S_api_Item), p39.2.1) else (letk (itemM (p39.2.1) (depth - 1)) (fun (x46 : (S_api_Item × S_encode_reader)) => (ag39 ((p39.1 + 1), x46.2, (p39.2.2 ++ ([x46.1] : List S_api_Item))))))) else (({ Kind := (convI .i64 x1.1), N := 0, B := ([] : List Int), L := p39.2.2 } : S_api_Item), p39.2.1))) (fun _ => default) (0, p38, ([] : List S_api_Item)))) (fun j38 => (if (decide ((convI .i64 x33.1) > 1000)) then (letk (encode_reader_fail (x33.2) 3) (fun (x52 : S_encode_reader) => (j38 x52))) else (j38 x33.2)))))) else (({ Kind := (convI .i64 x1.1), N := 0, B := ([] : List Int), L := ([] : List S_api_Item) } : S_api_Item), x1.2))))) (fun j6 => (if (decide ((convI .i64 x1.1) < 1)) then (letk (encode_reader_fail (x1.2) 3) (fun (x81 : S_encode_reader) => (z_api_Item, x81))) else (if (decide ((convI .i64 x1.1) > 3)) then (letk (encode_reader_fail (x1.2) 3) (fun (x75 : S_encode_reader) => (z_api_Item, x75))) else (if ((convI .i64 x1.1) == 3) then (if (depth == 0) then (letk (encode_reader_fail (x1.2) 3) (fun (x67 : S_encode_reader) => (z_api_Item, x67))) else (j6 ())) else (j6 ()))))))))
def encode_Decode (b : (List Int)) : (S_api_Item × Int) :=
 (if (decide ((b.length : Int) > 16384)) then (z_api_Item, 5) else (letk (itemM ({ b := b, e := 0 } : S_encode_reader) 8) (fun (x4 : (S_api_Item × S_encode_reader)) => (letj (fun (p7 : S_encode_reader) => (if (p7.e != 0) then (z_api_Item, p7.e) else (x4.1, 0))) (fun j7 => (if (decide ((x4.2.b.length : Int) > 0)) then (letk (encode_reader_fail (x4.2) 3) (fun (x13 : S_encode_reader) => (j7 x13))) else (j7 x4.2)))))))
def encode_Numbers (i_ : S_api_Item) : ((List Int) × Int) :=
 (letk (encode_Valid i_) (fun (x1 : Bool) => (if (!x1) then (([] : List Int), 1) else (if (i_.Kind != 3) then (([] : List Int), 3) else (iter (((i_.L.length : Int) - 0).toNat + 1) (fun (ag10 : (Int × List Int) → ((List Int) × Int)) (p10 : Int × List Int) => (if (decide (p10.1 < (i_.L.length : Int))) then (if ((gt i_.L p10.1).Kind != 1) then (([] : List Int), 3) else (ag10 ((p10.1 + 1), (p10.2 ++ ([(gt i_.L p10.1).N] : List Int))))) else (p10.2, 0))) (fun _ => default) (0, ([] : List Int)))))))
def slices_Equal_int_int (s1 : (List Int)) (s2 : (List Int)) : Bool :=
 (if ((s1.length : Int) != (s2.length : Int)) then false else (iter (((s1.length : Int) - 0).toNat + 1) (fun (ag4 : Int → Bool) (p4 : Int) => (if (decide (p4 < (s1.length : Int))) then (if ((gt s1 p4) != (gt s2 p4)) then false else (ag4 (p4 + 1))) else true)) (fun _ => default) 0))
def coin_leaves_1 (d_ : Int) (c0 : Int) : Bool :=
 (c0 == (shlI .i64 1 d_))
def slices_IndexFunc_int_int_at_coin_leaves_1 (s : (List Int)) (f__c0 : Int) : Int :=
 (iter (((s.length : Int) - 0).toNat + 1) (fun (ag1 : Int → Int) (p1 : Int) => (if (decide (p1 < (s.length : Int))) then (letk (coin_leaves_1 (gt s p1) f__c0) (fun (x5 : Bool) => (if x5 then p1 else (ag1 (p1 + 1))))) else (-1))) (fun _ => default) 0)
def slices_ContainsFunc_int_int_at_coin_leaves_1 (s : (List Int)) (f__c0 : Int) : Bool :=
 (letk (slices_IndexFunc_int_int_at_coin_leaves_1 s f__c0) (fun (x1 : Int) => (decide (x1 ≥ 0))))
def coin_leaves (n_ : Int) : Bool :=
 (letk (slices_ContainsFunc_int_int_at_coin_leaves_1 ([0, 1, 2, 3, 4, 5] : List Int) n_) (fun (x1 : Bool) => x1))
def coin_scalar (b : S_api_Bases) (n_ : Int) : Bool :=
 (if (decide (n_ ≥ 0)) then (decide (n_ < b.Group.Q)) else false)
def coin_ValidSecret (b : S_api_Bases) (s : S_api_CoinSecret) : Bool :=
 (letk (base_Valid b) (fun (x1 : Bool) => (if (!x1) then false else (letk (coin_nonzero b (s.U)) (fun (x6 : Bool) => (if (!x6) then false else (letk (coin_nonzero b (s.S)) (fun (x11 : Bool) => (if (!x11) then false else (letk (coin_message b (s.U)) (fun (x16 : Int) => (if (x16 == 1) then false else (letk (coin_leaves (s.X.length : Int)) (fun (x21 : Bool) => (if (!x21) then false else (iter (((s.X.length : Int) - 0).toNat + 1) (fun (ag27 : (Int × List (List Int)) → Bool) (p27 : Int × List (List Int)) => (if (decide (p27.1 < (s.X.length : Int))) then (letk (coin_scalar b (gt (gt s.X p27.1) 0)) (fun (x31 : Bool) => (if (!x31) then false else (letk (coin_scalar b (gt (gt s.X p27.1) 1)) (fun (x36 : Bool) => (if (!x36) then false else (letk (coin_leaf b (gt s.X p27.1)) (fun (x41 : Int) => (if (List.contains p27.2 [x41]) then false else (letk (coin_leaf b (gt s.X p27.1)) (fun (x47 : Int) => (ag27 ((p27.1 + 1), (addK p27.2 [x47])))))))))))))) else true)) (fun _ => default) (0, ([] : List (List Int)))))))))))))))))))
def withdraw_scalar (b : S_api_Bases) (x_ : Int) : Bool :=
 (if (decide (x_ ≥ 0)) then (decide (x_ < b.Group.Q)) else false)
def withdraw_begun (b : S_api_Bases) (r_ : S_api_KeyRecord) (w : S_api_Withdrawal) : Bool :=
 (letk (base_Valid b) (fun (x1 : Bool) => (if (!x1) then false else (letk (epoch_Valid b r_) (fun (x6 : Bool) => (if (!x6) then false else (if (w.Bank != r_.Bank) then false else (if (w.Epoch != r_.Epoch) then false else (if (w.Denom != r_.Denom) then false else (if (w.Depth != r_.Depth) then false else (letk (withdraw_number (w.Number)) (fun (x20 : Bool) => (if (!x20) then false else (letk (coin_ValidSecret b (w.Secret)) (fun (x26 : Bool) => (if (!x26) then false else (if ((w.Secret.X.length : Int) != (shlI .i64 1 r_.Depth)) then false else (if (w.Factors.S != w.Secret.S) then false else (letk (withdraw_secret b (w.Factors.S)) (fun (x34 : Bool) => (if (!x34) then false else (letk (withdraw_secret b (w.Factors.U)) (fun (x38 : Bool) => (if (!x38) then false else (letk (withdraw_scalar b (w.Factors.V)) (fun (x42 : Bool) => (if (!x42) then false else (letk (withdraw_start b (r_.Key) (w.Secret.U)) (fun (x48 : S_api_CoinView) => (if (w.View.M == x48.M) then (w.View.Z == x48.Z) else false))))))))))))))))))))))))))))))
def withdraw_Valid (b : S_api_Bases) (r_ : S_api_KeyRecord) (w : S_api_Withdrawal) : Bool :=
 (letk (withdraw_begun b r_ w) (fun (x1 : Bool) => (if (!x1) then false else (if (w.Phase == 1) then (if (q_api_CoinView (w.View) ({ M := w.View.M, Z := w.View.Z, A := 0, B := 0, C := 0, R := 0 } : S_api_CoinView)) then (q_api_Coin (w.Coin) z_api_Coin) else false) else (default : Bool)))))
def specielaw37_awake  : Bool :=
 (letk (withdraw_Begin ({ Group := ({ P := 2027, Q := 1013, G := 4 } : S_api_Group), G1 := 16, G2 := 64, H := 256 } : S_api_Bases) ({ Bank := 0, Epoch := 1, Denom := 2, Value := 5, Depth := 0, Key := ({ H := 4, H1 := 16, H2 := 64 } : S_api_BankKey), From := 0, Until := 1, Final := 1 } : S_api_KeyRecord) 3 7 z_api_Draw) (fun (x1 : (S_api_Withdrawal × (List Int) × S_api_Draw × Int)) => (letk (encode_Decode (x1.2.1)) (fun (x4 : (S_api_Item × Int)) => (letk (encode_Numbers (x4.1)) (fun (x7 : ((List Int) × Int)) => (if (x1.2.2.2 == 0) then (if (x4.2 == 0) then (if (x7.2 == 0) then (letk (slices_Equal_int_int (x7.1) ([1, 7, 0, 1, 2] : List Int)) (fun (x16 : Bool) => (if x16 then (if (x1.1.Phase == 1) then (letk (withdraw_Valid ({ Group := ({ P := 2027, Q := 1013, G := 4 } : S_api_Group), G1 := 16, G2 := 64, H := 256 } : S_api_Bases) ({ Bank := 0, Epoch := 1, Denom := 2, Value := 5, Depth := 0, Key := ({ H := 4, H1 := 16, H2 := 64 } : S_api_BankKey), From := 0, Until := 1, Final := 1 } : S_api_KeyRecord) (x1.1)) (fun (x22 : Bool) => x22)) else false) else false))) else false) else false) else false)))))))
def specielaw37_few (w : S_api_Withdrawal) : Bool :=
 (decide ((w.Secret.X.length : Int) ≤ 40))
def specieref07_Count (i_ : S_api_Item) (most : Int) : Int :=
 (iter (((i_.L.length : Int) - 0).toNat + 1) (fun (ag1 : (Int × Int) → Int) (p1 : Int × Int) => (if (decide (p1.2 < (i_.L.length : Int))) then (if (decide (p1.1 < most)) then (letk (countM (gt i_.L p1.2) (subI .i64 most p1.1)) (fun (x7 : Int) => (ag1 ((addI .i64 p1.1 x7), (p1.2 + 1))))) else p1.1) else p1.1)) (fun _ => default) (1, 0))
def coin_FromItem (i_ : S_api_Item) : (S_api_Coin × Int) :=
 (letk (encode_Valid i_) (fun (x1 : Bool) => (if (!x1) then (z_api_Coin, 1) else (if (i_.Kind != 3) then (z_api_Coin, 3) else (if ((i_.L.length : Int) != 3) then (z_api_Coin, 3) else (letk (encode_Numbers (gt i_.L 0)) (fun (x13 : ((List Int) × Int)) => (letk (encode_Numbers (gt i_.L 2)) (fun (x17 : ((List Int) × Int)) => (if (x13.2 != 0) then (z_api_Coin, 3) else (if (x17.2 != 0) then (z_api_Coin, 3) else (if ((x13.1.length : Int) != 5) then (z_api_Coin, 3) else (if ((x17.1.length : Int) != 4) then (z_api_Coin, 3) else (if ((gt i_.L 1).Kind != 2) then (z_api_Coin, 3) else (if (((gt i_.L 1).B.length : Int) != 32) then (z_api_Coin, 3) else (({ Bank := (gt x13.1 0), Epoch := (gt x13.1 1), Denom := (gt x13.1 2), Depth := (gt x13.1 3), A := (gt x13.1 4), Root := (arrN 32 (gt i_.L 1).B), Sign := ({ Z := (gt x17.1 0), A := (gt x17.1 1), B := (gt x17.1 2), R := (gt x17.1 3) } : S_api_CoinSign) } : S_api_Coin), 0))))))))))))))))
def withdraw_FromItem (i_ : S_api_Item) : (S_api_Withdrawal × Int) :=
 (letk (encode_Valid i_) (fun (x1 : Bool) => (if (!x1) then (z_api_Withdrawal, 1) else (if (i_.Kind != 3) then (z_api_Withdrawal, 3) else (if ((i_.L.length : Int) != 5) then (z_api_Withdrawal, 3) else (iter (((4 : Int) - 0).toNat + 1) (fun (ag12 : (Int × S_api_Withdrawal × (List (List Int))) → (S_api_Withdrawal × Int)) (p12 : Int × S_api_Withdrawal × (List (List Int))) => (if (decide (p12.1 < 4)) then (letk (encode_Numbers (gt i_.L p12.1)) (fun (x16 : ((List Int) × Int)) => (if (x16.2 != 0) then (z_api_Withdrawal, 3) else (ag12 ((p12.1 + 1), p12.2.1, (arrN 4 (st (arrN 4 p12.2.2) p12.1 (x16.1)))))))) else (letk (coin_FromItem (gt i_.L 4)) (fun (x26 : (S_api_Coin × Int)) => (if (x26.2 != 0) then (z_api_Withdrawal, 3) else (if (((gt p12.2.2 0).length : Int) != 6) then (z_api_Withdrawal, 3) else (if (decide (((gt p12.2.2 1).length : Int) < 2)) then (z_api_Withdrawal, 3) else (if ((remI .i64 ((gt p12.2.2 1).length : Int) 2) != 0) then (z_api_Withdrawal, 3) else (if (((gt p12.2.2 2).length : Int) != 3) then (z_api_Withdrawal, 3) else (if (((gt p12.2.2 3).length : Int) != 6) then (z_api_Withdrawal, 3) else (iter ((((gt p12.2.2 1).length : Int) - 2).toNat + 1) (fun (ag59 : (Int × List (List Int)) → (S_api_Withdrawal × Int)) (p59 : Int × List (List Int)) => (if (decide (p59.1 < ((gt p12.2.2 1).length : Int))) then (ag59 ((p59.1 + 2), (p59.2 ++ ([[(gt (gt p12.2.2 1) p59.1), (gt (gt p12.2.2 1) (p59.1 + 1))]] : List (List Int))))) else (({ Phase := (gt (gt p12.2.2 0) 0), Number := (gt (gt p12.2.2 0) 1), Bank := (gt (gt p12.2.2 0) 2), Epoch := (gt (gt p12.2.2 0) 3), Denom := (gt (gt p12.2.2 0) 4), Depth := (gt (gt p12.2.2 0) 5), Secret := ({ U := (gt (gt p12.2.2 1) 0), S := (gt (gt p12.2.2 1) 1), X := p59.2 } : S_api_CoinSecret), Factors := ({ S := (gt (gt p12.2.2 2) 0), U := (gt (gt p12.2.2 2) 1), V := (gt (gt p12.2.2 2) 2) } : S_api_CoinFactors), View := ({ M := (gt (gt p12.2.2 3) 0), Z := (gt (gt p12.2.2 3) 1), A := (gt (gt p12.2.2 3) 2), B := (gt (gt p12.2.2 3) 3), C := (gt (gt p12.2.2 3) 4), R := (gt (gt p12.2.2 3) 5) } : S_api_CoinView), Coin := x26.1 } : S_api_Withdrawal), 0))) (fun _ => default) (2, ([] : List (List Int)))))))))))))) (fun _ => default) (0, z_api_Withdrawal, [([] : List Int), ([] : List Int), ([] : List Int), ([] : List Int)])))))))
def specieref07_valid (i_ : S_api_Item) (within : Int) : Bool :=
 (if (i_.Kind == 1) then (if ((i_.B.length : Int) == 0) then ((i_.L.length : Int) == 0) else false) else (if (i_.Kind == 2) then (if (i_.N == 0) then ((i_.L.length : Int) == 0) else false) else (if (i_.Kind == 3) then (if (i_.N != 0) then false else (if ((i_.B.length : Int) != 0) then false else (if (decide ((i_.L.length : Int) > 1000)) then false else (if (within == 8) then false else (iter (((i_.L.length : Int) - 0).toNat + 1) (fun (ag24 : Int → Bool) (p24 : Int) => (if (decide (p24 < (i_.L.length : Int))) then (letk (rvalidM (gt i_.L p24) (within + 1)) (fun (x29 : Bool) => (if (!x29) then false else (ag24 (p24 + 1))))) else true)) (fun _ => default) 0))))) else false)))
def specieref07_Valid (i_ : S_api_Item) : Bool :=
 (letk (rvalidM i_ 0) (fun (x1 : Bool) => x1))
def specieref37_numbers (i_ : S_api_Item) : ((List Int) × Bool) :=
 (if (i_.Kind != 3) then (([] : List Int), false) else (iter (((i_.L.length : Int) - 0).toNat + 1) (fun (ag4 : (Int × List Int) → ((List Int) × Bool)) (p4 : Int × List Int) => (if (decide (p4.1 < (i_.L.length : Int))) then (if ((gt i_.L p4.1).Kind != 1) then (([] : List Int), false) else (ag4 ((p4.1 + 1), (p4.2 ++ ([(gt i_.L p4.1).N] : List Int))))) else (p4.2, true))) (fun _ => default) (0, ([] : List Int))))
def specieref31_Numbers (i_ : S_api_Item) (n_ : Int) : ((List Int) × Bool) :=
 (if (i_.Kind != 3) then (([] : List Int), false) else (if ((i_.L.length : Int) != n_) then (([] : List Int), false) else (iter ((n_ - 0).toNat + 1) (fun (ag6 : (Int × List Int) → ((List Int) × Bool)) (p6 : Int × List Int) => (if (decide (p6.1 < n_)) then (if ((gt i_.L p6.1).Kind != 1) then (([] : List Int), false) else (ag6 ((p6.1 + 1), (p6.2 ++ ([(gt i_.L p6.1).N] : List Int))))) else (p6.2, true))) (fun _ => default) (0, ([] : List Int)))))
def specieref31_Hash (i_ : S_api_Item) : ((List Int) × Bool) :=
 (if (i_.Kind != 2) then ([0, 0, 0, 0, 0, 0, 0, 0, 0, 0, 0, 0, 0, 0, 0, 0, 0, 0, 0, 0, 0, 0, 0, 0, 0, 0, 0, 0, 0, 0, 0, 0], false) else (if ((i_.B.length : Int) != 32) then ([0, 0, 0, 0, 0, 0, 0, 0, 0, 0, 0, 0, 0, 0, 0, 0, 0, 0, 0, 0, 0, 0, 0, 0, 0, 0, 0, 0, 0, 0, 0, 0], false) else (iter (((32 : Int) - 0).toNat + 1) (fun (ag6 : (Int × (List Int)) → ((List Int) × Bool)) (p6 : Int × (List Int)) => (if (decide (p6.1 < 32)) then (ag6 ((p6.1 + 1), (arrN 32 (st (arrN 32 p6.2) p6.1 (gt i_.B p6.1))))) else (p6.2, true))) (fun _ => default) (0, [0, 0, 0, 0, 0, 0, 0, 0, 0, 0, 0, 0, 0, 0, 0, 0, 0, 0, 0, 0, 0, 0, 0, 0, 0, 0, 0, 0, 0, 0, 0, 0]))))
def specieref31_FromItem (i_ : S_api_Item) : (S_api_Coin × Bool) :=
 (if (i_.Kind != 3) then (z_api_Coin, false) else (if ((i_.L.length : Int) != 3) then (z_api_Coin, false) else (letk (specieref31_Numbers (gt i_.L 0) 5) (fun (x7 : ((List Int) × Bool)) => (if (!x7.2) then (z_api_Coin, false) else (letk (specieref31_Hash (gt i_.L 1)) (fun (x15 : ((List Int) × Bool)) => (if (!x15.2) then (z_api_Coin, false) else (letk (specieref31_Numbers (gt i_.L 2) 4) (fun (x22 : ((List Int) × Bool)) => (if (!x22.2) then (z_api_Coin, false) else (({ Bank := (gt x7.1 0), Epoch := (gt x7.1 1), Denom := (gt x7.1 2), Depth := (gt x7.1 3), A := (gt x7.1 4), Root := x15.1, Sign := ({ Z := (gt x22.1 0), A := (gt x22.1 1), B := (gt x22.1 2), R := (gt x22.1 3) } : S_api_CoinSign) } : S_api_Coin), true))))))))))))
def specieref37_FromItem (i_ : S_api_Item) : (S_api_Withdrawal × Int) :=
 (letk (specieref07_Valid i_) (fun (x1 : Bool) => (if (!x1) then (z_api_Withdrawal, 1) else (if (i_.Kind != 3) then (z_api_Withdrawal, 3) else (if ((i_.L.length : Int) != 5) then (z_api_Withdrawal, 3) else (letk (specieref37_numbers (gt i_.L 0)) (fun (x14 : ((List Int) × Bool)) => (letk (specieref37_numbers (gt i_.L 1)) (fun (x19 : ((List Int) × Bool)) => (letk (specieref37_numbers (gt i_.L 2)) (fun (x24 : ((List Int) × Bool)) => (letk (specieref37_numbers (gt i_.L 3)) (fun (x29 : ((List Int) × Bool)) => (letk (specieref31_FromItem (gt i_.L 4)) (fun (x34 : (S_api_Coin × Bool)) => (if (!x14.2) then (z_api_Withdrawal, 3) else (if (!x19.2) then (z_api_Withdrawal, 3) else (if (!x24.2) then (z_api_Withdrawal, 3) else (if (!x29.2) then (z_api_Withdrawal, 3) else (if (!x34.2) then (z_api_Withdrawal, 3) else (if ((x14.1.length : Int) != 6) then (z_api_Withdrawal, 3) else (if (decide ((x19.1.length : Int) < 2)) then (z_api_Withdrawal, 3) else (if ((remI .i64 (x19.1.length : Int) 2) != 0) then (z_api_Withdrawal, 3) else (if ((x24.1.length : Int) != 3) then (z_api_Withdrawal, 3) else (if ((x29.1.length : Int) != 6) then (z_api_Withdrawal, 3) else (iter (((x19.1.length : Int) - 2).toNat + 1) (fun (ag75 : (Int × List (List Int)) → (S_api_Withdrawal × Int)) (p75 : Int × List (List Int)) => (if (decide (p75.1 < (x19.1.length : Int))) then (ag75 ((p75.1 + 2), (p75.2 ++ ([[(gt x19.1 p75.1), (gt x19.1 (p75.1 + 1))]] : List (List Int))))) else (({ Phase := (gt x14.1 0), Number := (gt x14.1 1), Bank := (gt x14.1 2), Epoch := (gt x14.1 3), Denom := (gt x14.1 4), Depth := (gt x14.1 5), Secret := ({ U := (gt x19.1 0), S := (gt x19.1 1), X := p75.2 } : S_api_CoinSecret), Factors := ({ S := (gt x24.1 0), U := (gt x24.1 1), V := (gt x24.1 2) } : S_api_CoinFactors), View := ({ M := (gt x29.1 0), Z := (gt x29.1 1), A := (gt x29.1 2), B := (gt x29.1 3), C := (gt x29.1 4), R := (gt x29.1 5) } : S_api_CoinView), Coin := x34.1 } : S_api_Withdrawal), 0))) (fun _ => default) (2, ([] : List (List Int)))))))))))))))))))))))))))))
def specieref37_Same (a_ : S_api_Withdrawal) (b : S_api_Withdrawal) : Bool :=
 (if ((a_.Secret.X.length : Int) != (b.Secret.X.length : Int)) then false else (iter (((a_.Secret.X.length : Int) - 0).toNat + 1) (fun (ag4 : Int → Bool) (p4 : Int) => (if (decide (p4 < (a_.Secret.X.length : Int))) then (if (!(q_arr57 (gt a_.Secret.X p4) (gt b.Secret.X p4))) then false else (ag4 (p4 + 1))) else (if (a_.Phase == b.Phase) then (if (a_.Number == b.Number) then (if (a_.Bank == b.Bank) then (if (a_.Epoch == b.Epoch) then (if (a_.Denom == b.Denom) then (if (a_.Depth == b.Depth) then (if (a_.Secret.U == b.Secret.U) then (if (a_.Secret.S == b.Secret.S) then (if (q_api_CoinFactors (a_.Factors) (b.Factors)) then (if (q_api_CoinView (a_.View) (b.View)) then (q_api_Coin (a_.Coin) (b.Coin)) else false) else false) else false) else false) else false) else false) else false) else false) else false) else false))) (fun _ => default) 0))
def coin_writer_ints (w_ : S_coin_writer) (l_ : (List Int)) : S_coin_writer :=
 (letk (encode_Ints l_) (fun (x1 : S_api_Item) => ({ l := (w_.l ++ ([x1] : List S_api_Item)) } : S_coin_writer)))
def slices_Clone_byte_byte (s : List Int) : List Int := s
def coin_writer_bytes (w_ : S_coin_writer) (b : (List Int)) : S_coin_writer :=
 (letk (slices_Clone_byte_byte b) (fun (x1 : (List Int)) => ({ l := (w_.l ++ ([({ Kind := 2, N := 0, B := x1, L := ([] : List S_api_Item) } : S_api_Item)] : List S_api_Item)) } : S_coin_writer)))
def coin_Item (c : S_api_Coin) : S_api_Item :=
 (letk (coin_writer_ints z_coin_writer ([c.Bank, c.Epoch, c.Denom, c.Depth, c.A] : List Int)) (fun (x1 : S_coin_writer) => (letk (coin_writer_bytes x1 (arrN 32 c.Root)) (fun (x5 : S_coin_writer) => (letk (coin_writer_ints x5 ([c.Sign.Z, c.Sign.A, c.Sign.B, c.Sign.R] : List Int)) (fun (x9 : S_coin_writer) => ({ Kind := 3, N := 0, B := ([] : List Int), L := x9.l } : S_api_Item)))))))
def withdraw_Item (w : S_api_Withdrawal) : S_api_Item :=
 (iter (((w.Secret.X.length : Int) - 0).toNat + 1) (fun (ag1 : (Int × List Int) → S_api_Item) (p1 : Int × List Int) => (if (decide (p1.1 < (w.Secret.X.length : Int))) then (ag1 ((p1.1 + 1), (p1.2 ++ ([(gt (gt w.Secret.X p1.1) 0), (gt (gt w.Secret.X p1.1) 1)] : List Int)))) else (letk (encode_Ints ([w.Phase, w.Number, w.Bank, w.Epoch, w.Denom, w.Depth] : List Int)) (fun (x6 : S_api_Item) => (letk (encode_Ints (p1.2)) (fun (x8 : S_api_Item) => (letk (encode_Ints ([w.Factors.S, w.Factors.U, w.Factors.V] : List Int)) (fun (x10 : S_api_Item) => (letk (encode_Ints ([w.View.M, w.View.Z, w.View.A, w.View.B, w.View.C, w.View.R] : List Int)) (fun (x12 : S_api_Item) => (letk (coin_Item (w.Coin)) (fun (x14 : S_api_Item) => ({ Kind := 3, N := 0, B := ([] : List Int), L := ([x6, x8, x10, x12, x14] : List S_api_Item) } : S_api_Item))))))))))))) (fun _ => default) (0, ([w.Secret.U, w.Secret.S] : List Int)))
def specieref37_ints (l : (List Int)) : S_api_Item :=
 (iter (((l.length : Int) - 0).toNat + 1) (fun (ag1 : (Int × List S_api_Item) → S_api_Item) (p1 : Int × List S_api_Item) => (if (decide (p1.1 < (l.length : Int))) then (ag1 ((p1.1 + 1), (p1.2 ++ ([({ Kind := 1, N := (gt l p1.1), B := ([] : List Int), L := ([] : List S_api_Item) } : S_api_Item)] : List S_api_Item)))) else ({ Kind := 3, N := 0, B := ([] : List Int), L := p1.2 } : S_api_Item))) (fun _ => default) (0, ([] : List S_api_Item)))
def specieref31_Ints (l : (List Int)) : S_api_Item :=
 (iter (((l.length : Int) - 0).toNat + 1) (fun (ag1 : (Int × List S_api_Item) → S_api_Item) (p1 : Int × List S_api_Item) => (if (decide (p1.1 < (l.length : Int))) then (ag1 ((p1.1 + 1), (p1.2 ++ ([({ Kind := 1, N := (gt l p1.1), B := ([] : List Int), L := ([] : List S_api_Item) } : S_api_Item)] : List S_api_Item)))) else ({ Kind := 3, N := 0, B := ([] : List Int), L := p1.2 } : S_api_Item))) (fun _ => default) (0, ([] : List S_api_Item)))
def specieref31_Bytes (h_ : (List Int)) : S_api_Item :=
 (iter (((32 : Int) - 0).toNat + 1) (fun (ag1 : (Int × List Int) → S_api_Item) (p1 : Int × List Int) => (if (decide (p1.1 < 32)) then (ag1 ((p1.1 + 1), (p1.2 ++ ([(gt h_ p1.1)] : List Int)))) else ({ Kind := 2, N := 0, B := p1.2, L := ([] : List S_api_Item) } : S_api_Item))) (fun _ => default) (0, ([] : List Int)))
def specieref31_Item (c : S_api_Coin) : S_api_Item :=
 (letk (specieref31_Ints ([c.Bank, c.Epoch, c.Denom, c.Depth, c.A] : List Int)) (fun (x1 : S_api_Item) => (letk (specieref31_Bytes (c.Root)) (fun (x3 : S_api_Item) => (letk (specieref31_Ints ([c.Sign.Z, c.Sign.A, c.Sign.B, c.Sign.R] : List Int)) (fun (x5 : S_api_Item) => ({ Kind := 3, N := 0, B := ([] : List Int), L := ([x1, x3, x5] : List S_api_Item) } : S_api_Item)))))))
def specieref37_Item (w : S_api_Withdrawal) : S_api_Item :=
 (iter (((w.Secret.X.length : Int) - 0).toNat + 1) (fun (ag1 : (Int × List Int) → S_api_Item) (p1 : Int × List Int) => (if (decide (p1.1 < (w.Secret.X.length : Int))) then (ag1 ((p1.1 + 1), (p1.2 ++ ([(gt (gt w.Secret.X p1.1) 0), (gt (gt w.Secret.X p1.1) 1)] : List Int)))) else (letk (specieref37_ints ([w.Phase, w.Number, w.Bank, w.Epoch, w.Denom, w.Depth] : List Int)) (fun (x6 : S_api_Item) => (letk (specieref37_ints (p1.2)) (fun (x8 : S_api_Item) => (letk (specieref37_ints ([w.Factors.S, w.Factors.U, w.Factors.V] : List Int)) (fun (x10 : S_api_Item) => (letk (specieref37_ints ([w.View.M, w.View.Z, w.View.A, w.View.B, w.View.C, w.View.R] : List Int)) (fun (x12 : S_api_Item) => (letk (specieref31_Item (w.Coin)) (fun (x14 : S_api_Item) => ({ Kind := 3, N := 0, B := ([] : List Int), L := ([x6, x8, x10, x12, x14] : List S_api_Item) } : S_api_Item))))))))))))) (fun _ => default) (0, ([w.Secret.U, w.Secret.S] : List Int)))
def specieref07_Same (a_ : S_api_Item) (b : S_api_Item) : Bool :=
 (if (a_.Kind != b.Kind) then false else (if (a_.N != b.N) then false else (if (!(((a_.B).map u8N) == ((b.B).map u8N))) then false else (if ((a_.L.length : Int) != (b.L.length : Int)) then false else (iter (((a_.L.length : Int) - 0).toNat + 1) (fun (ag10 : Int → Bool) (p10 : Int) => (if (decide (p10 < (a_.L.length : Int))) then (letk (sameM (gt a_.L p10) (gt b.L p10)) (fun (x15 : Bool) => (if (!x15) then false else (ag10 (p10 + 1))))) else true)) (fun _ => default) 0)))))
def specielaw37_WithdrawItems (w : S_api_Withdrawal) (i_ : S_api_Item) : Bool :=
 (letk (specielaw37_awake) (fun (x1 : Bool) => (if (!x1) then false else (letk (specielaw37_few w) (fun (x7 : Bool) => (if (!x7) then true else (letk (countM i_ 200) (fun (x13 : Int) => (if (decide (x13 ≥ 200)) then true else (letk (withdraw_FromItem i_) (fun (x19 : (S_api_Withdrawal × Int)) => (letk (specieref37_FromItem i_) (fun (x22 : (S_api_Withdrawal × Int)) => (if (x19.2 != x22.2) then false else (letk (specieref37_Same (x19.1) (x22.1)) (fun (x27 : Bool) => (if (!x27) then false else (letk (withdraw_Item w) (fun (x33 : S_api_Item) => (letk (withdraw_FromItem x33) (fun (x36 : (S_api_Withdrawal × Int)) => (letk (specieref37_Item w) (fun (x39 : S_api_Item) => (letk (sameM x33 x39) (fun (x41 : Bool) => (if x41 then (if (x36.2 == 0) then (letk (specieref37_Same (x36.1) w) (fun (x46 : Bool) => x46)) else false) else false))))))))))))))))))))))))))
end Go.Proofs.YtjnikknlcmbcmaaGreatDoor
namespace Go.Proofs.YtjnikknlcmbcmaaGreatDoor
open Go.RowKit
theorem w64 (a : Int) : IntKind.wrap .u64 a = a % 18446744073709551616 := by simp [IntKind.wrap, IntKind.bits, IntKind.signed]
theorem shr_eq {k : IntKind} {x : Int} {n : Int} {m : Nat} (hn : min n.toNat k.bits = m) : shrI k x n = x / 2 ^ m := by
 unfold shrI; rw [hn, Int.fdiv_eq_ediv_of_nonneg]; exact Int.le_of_lt (Int.pow_pos (by decide))
theorem shr32 (x : Int) : shrI .u64 x 32 = x / 4294967296 := shr_eq (m := 32) rfl
theorem shr58 (x : Int) : shrI .u64 x 58 = x / 288230376151711744 := shr_eq (m := 58) rfl
theorem shr1 (x : Int) : shrI .u64 x 1 = x / 2 := shr_eq (m := 1) rfl
theorem shr1i (x : Int) : shrI .i64 x 1 = x / 2 := shr_eq (m := 1) rfl
theorem tzix {x : Int} : 0 ≤ shrI .u64 (mulI .u64 x 285870213051353865) 58 ∧ shrI .u64 (mulI .u64 x 285870213051353865) 58 < 64 := by
 rw [shr58]; unfold mulI; rw [w64]; omega
def isLen (x : Int) (l : Nat) : Prop := 1 ≤ l ∧ (2 : Int) ^ (l - 1) ≤ x ∧ x < 2 ^ l
theorem bl_nat (x : Nat) : 1 ≤ x → x < 2 ^ 64 → 1 ≤ Lib.bitLen x ∧ 2 ^ (Lib.bitLen x - 1) ≤ x ∧ x < 2 ^ Lib.bitLen x := by
 induction x using Nat.strongRecOn with
 | ind x ih =>
  intro h0 h1
  by_cases h : x = 1
  ·subst h; decide
  ·obtain ⟨a1, a2, a3⟩ := ih (x / 2) (by omega) (by omega) (by omega)
   rw [Lib.bitLen_half x (by omega) h1]
   generalize Lib.bitLen (x / 2) = l at a1 a2 a3
   obtain ⟨l, rfl⟩ : ∃ k, l = k + 1 := ⟨l - 1, by omega⟩
   refine ⟨by omega, ?_, ?_⟩
   ·rw [show 1 + (l + 1) - 1 = l + 1 by omega, Nat.pow_succ]
    simp only [Nat.add_sub_cancel] at a2
    omega
   ·rw [show 1 + (l + 1) = (l + 1) + 1 by omega, Nat.pow_succ]
    omega
theorem Len64_ok {x : Int} (h0 : 1 ≤ x) (h1 : x ≤ 18446744073709551615) : ∃ l : Nat, math_bits_Len64 x = l ∧ isLen x l ∧ l ≤ 64 := by
 obtain ⟨k, rfl⟩ := Int.eq_ofNat_of_zero_le (show 0 ≤ x by omega)
 have hk : k < 2 ^ 64 := by omega
 obtain ⟨a1, a2, a3⟩ := bl_nat k (by omega) hk
 exact ⟨Lib.bitLen k, rfl, ⟨a1, by exact_mod_cast a2, by exact_mod_cast a3⟩, Lib.bitLen_le k 64 (by decide) hk⟩
theorem lz_fact {x y : Int} (hx : x = math_bits_LeadingZeros64 y) (h0 : 1 ≤ y) (h1 : y ≤ 18446744073709551615) : 0 ≤ x ∧ x ≤ 63 ∧ 9223372036854775808 ≤ shlI .u64 y (convI .u64 x) ∧ shlI .u64 y (convI .u64 x) = y * 2 ^ x.toNat := by
 obtain ⟨l, e1, ⟨e2, e3, e4⟩, e5⟩ := Len64_ok h0 h1
 have hx2 : x = 64 - (l : Int) := by
  rw [hx]; unfold math_bits_LeadingZeros64 letk; rw [e1]; simp only; unfold subI; rw [IntKind.wrap_i64]; omega
 have hc : convI .u64 x = x := conv_u64 (by omega) (by omega)
 have hn : x.toNat = 64 - l := by omega
 have hm : min (convI .u64 x).toNat IntKind.u64.bits = 64 - l := by rw [hc, hn]; show min (64 - l) 64 = _; omega
 have hp : (2 : Int) ^ l * 2 ^ (64 - l) = 18446744073709551616 := by rw [← Int.pow_add, show l + (64 - l) = 64 by omega]; decide
 have hq : (2 : Int) ^ (l - 1) * 2 ^ (64 - l) = 9223372036854775808 := by rw [← Int.pow_add, show l - 1 + (64 - l) = 63 by omega]; decide
 have h2 : (0 : Int) < 2 ^ (64 - l) := Int.pow_pos (by decide)
 have g1 := Int.mul_le_mul_of_nonneg_right e3 (Int.le_of_lt h2)
 have g2 := Int.mul_lt_mul_of_pos_right e4 h2
 rw [hp] at g2; rw [hq] at g1
 have e : shlI .u64 y (convI .u64 x) = y * 2 ^ x.toNat := by
  unfold shlI; rw [hm, w64, hn]; exact Int.emod_eq_of_lt (by omega) g2
 exact ⟨by omega, by omega, by rw [e, hn]; exact g1, e⟩
theorem and_mask {x : Int} (h0 : 0 ≤ x) (h1 : x ≤ 18446744073709551615) : andI .u64 x 4294967295 = x % 4294967296 := by
 obtain ⟨k, rfl⟩ := Int.eq_ofNat_of_zero_le h0
 unfold andI
 have e1 : (BitVec.ofInt IntKind.u64.bits (k : Int)).toNat = k := by
  show (BitVec.ofInt 64 (k : Int)).toNat = k
  rw [BitVec.toNat_ofInt]; omega
 have e2 : (BitVec.ofInt IntKind.u64.bits 4294967295).toNat = 2 ^ 32 - 1 := by decide
 rw [BitVec.toNat_and, e1, e2, Nat.and_two_pow_sub_one_eq_mod, w64]
 omega
theorem mulb {a b A : Int} (h1 : 0 ≤ a) (h2 : a ≤ A) (h3 : 0 ≤ b) (h4 : b ≤ A) : 0 ≤ a * b ∧ a * b ≤ A * A :=
 ⟨Int.mul_nonneg h1 h3, Int.mul_le_mul h2 h4 h3 (Int.le_trans h1 h2)⟩
theorem w_id {a : Int} (h0 : 0 ≤ a) (h1 : a ≤ 18446744073709551615) : IntKind.wrap .u64 a = a := by rw [w64]; omega
theorem mul64_hi {x y : Int} (hx0 : 0 ≤ x) (hx1 : x ≤ 18446744073709551615) (hy0 : 0 ≤ y) (hy1 : y ≤ 18446744073709551615) : math_bits_Mul64 x y = (x * y / 18446744073709551616, x * y % 18446744073709551616) := by
 unfold math_bits_Mul64
 rw [and_mask hx0 hx1, and_mask hy0 hy1, shr32 x, shr32 y]
 obtain ⟨x1, x0, rfl, h1, h2, h3, h4⟩ : ∃ x1 x0 : Int, x = x1 * 4294967296 + x0 ∧ 0 ≤ x1 ∧ x1 ≤ 4294967295 ∧ 0 ≤ x0 ∧ x0 ≤ 4294967295 := ⟨x / 4294967296, x % 4294967296, by omega, by omega, by omega, by omega, by omega⟩
 obtain ⟨y1, y0, rfl, g1, g2, g3, g4⟩ : ∃ y1 y0 : Int, y = y1 * 4294967296 + y0 ∧ 0 ≤ y1 ∧ y1 ≤ 4294967295 ∧ 0 ≤ y0 ∧ y0 ≤ 4294967295 := ⟨y / 4294967296, y % 4294967296, by omega, by omega, by omega, by omega, by omega⟩
 rw [show (x1 * 4294967296 + x0) / 4294967296 = x1 by omega, show (y1 * 4294967296 + y0) / 4294967296 = y1 by omega, show (x1 * 4294967296 + x0) % 4294967296 = x0 by omega, show (y1 * 4294967296 + y0) % 4294967296 = y0 by omega]
 have ea := mulb h1 h2 g1 g2
 have eb := mulb h1 h2 g3 g4
 have ec := mulb h3 h4 g1 g2
 have ed := mulb h3 h4 g3 g4
 have ex : (x1 * 4294967296 + x0) * (y1 * 4294967296 + y0) = x1 * y1 * 18446744073709551616 + (x1 * y0 + x0 * y1) * 4294967296 + x0 * y0 := by
  simp only [Int.add_mul, Int.mul_add]
  rw [show x1 * 4294967296 * (y1 * 4294967296) = x1 * y1 * 18446744073709551616 by rw [Int.mul_assoc, Int.mul_comm 4294967296 (y1 * 4294967296), Int.mul_assoc y1, ← Int.mul_assoc]; rfl, show x1 * 4294967296 * y0 = x1 * y0 * 4294967296 by rw [Int.mul_assoc, Int.mul_comm 4294967296, ← Int.mul_assoc], show x0 * (y1 * 4294967296) = x0 * y1 * 4294967296 by rw [Int.mul_assoc]]
  omega
 have em : mulI .u64 (x1 * 4294967296 + x0) (y1 * 4294967296 + y0) = ((x1 * 4294967296 + x0) * (y1 * 4294967296 + y0)) % 18446744073709551616 := by unfold mulI; rw [w64]
 have ma : mulI .u64 x1 y1 = x1 * y1 := w_id ea.1 (by omega)
 have mb : mulI .u64 x1 y0 = x1 * y0 := w_id eb.1 (by omega)
 have mc : mulI .u64 x0 y1 = x0 * y1 := w_id ec.1 (by omega)
 have md : mulI .u64 x0 y0 = x0 * y0 := w_id ed.1 (by omega)
 rw [em, ex, ma, mb, mc, md]
 generalize x1 * y1 = a at ea
 generalize x1 * y0 = b at eb
 generalize x0 * y1 = c at ec
 generalize x0 * y0 = d at ed
 rw [shr32 d]
 have t1 : addI .u64 b (d / 4294967296) = b + d / 4294967296 := w_id (by omega) (by omega)
 rw [t1, shr32 (b + d / 4294967296), and_mask (by omega) (by omega)]
 have t2 : addI .u64 ((b + d / 4294967296) % 4294967296) c = (b + d / 4294967296) % 4294967296 + c := w_id (by omega) (by omega)
 rw [t2, shr32]
 have hxy : a * 18446744073709551616 + (b + c) * 4294967296 + d ≤ 18446744073709551615 * 18446744073709551615 := by
  have := (mulb hx0 hx1 hy0 hy1).2
  omega
 have t3 : addI .u64 a ((b + d / 4294967296) / 4294967296) = a + (b + d / 4294967296) / 4294967296 := w_id (by omega) (by omega)
 rw [t3]
 have t4 : addI .u64 (a + (b + d / 4294967296) / 4294967296) (((b + d / 4294967296) % 4294967296 + c) / 4294967296) = a + (b + d / 4294967296) / 4294967296 + ((b + d / 4294967296) % 4294967296 + c) / 4294967296 := w_id (by omega) (by omega)
 rw [t4]
 congr 1
 omega
theorem lz_after {x y : Int} (hx : x = math_bits_LeadingZeros64 y) (h0 : 1 ≤ y) (h1 : y ≤ 18446744073709551615) : 0 ≤ x ∧ x ≤ 63 ∧ 0 ≤ convI .u64 x ∧ 0 ≤ subI .u64 64 (convI .u64 x) ∧ 2147483648 ≤ shrI .u64 (shlI .u64 y (convI .u64 x)) 32 ∧ shrI .u64 (shlI .u64 y (convI .u64 x)) 32 ≤ 4294967295 := by
 obtain ⟨a1, a2, a3, a4⟩ := lz_fact hx h0 h1
 have h2 : shlI .u64 y (convI .u64 x) ≤ 18446744073709551615 := (rng_shlI .u64 _ _).2
 refine ⟨a1, a2, nn_u64 _, (rng_subI .u64 _ _).1, ?_, ?_⟩ <;> rw [shr32] <;> omega
theorem dv_r {u d : Int} (h0 : 0 ≤ u) (h1 : u ≤ 18446744073709551615) (hd : 1 ≤ d) : subI .u64 u (mulI .u64 (quoI .u64 u d) d) = u % d ∧ quoI .u64 u d = u / d ∧ 0 ≤ u % d ∧ u % d < d := by
 have e1 : u.tdiv d = u / d := Int.tdiv_eq_ediv_of_nonneg h0
 have e2 : u / d ≤ u := Int.ediv_le_self _ h0
 have e3 : 0 ≤ u / d := Int.ediv_nonneg h0 (by omega)
 have e4 := Int.mul_ediv_add_emod u d
 have e5 := Int.emod_nonneg u (show d ≠ 0 by omega)
 have e6 := Int.emod_lt_of_pos u (show 0 < d by omega)
 have e7 : quoI .u64 u d = u / d := by unfold quoI; rw [e1]; exact w_id e3 (by omega)
 have e8 : 0 ≤ u / d * d := Int.mul_nonneg e3 (by omega)
 rw [Int.mul_comm] at e4
 have e9 : mulI .u64 (u / d) d = u / d * d := w_id e8 (by omega)
 refine ⟨?_, e7, e5, e6⟩
 rw [e7, e9]; exact (w_id (by omega) (by omega)).trans (by omega)
theorem dg_true {y1 y0 u a q r : Int} (ha1 : a < 4294967296) (hy0 : 0 ≤ y0) (hu : u < y1 * 4294967296 + y0) (hu0 : 0 ≤ u) (hi : q * y1 + r = u) (hr : 0 ≤ r) (ha : 0 ≤ a) (ht : q ≥ 4294967296 ∨ (q * y0 > 4294967296 * r + a)) :
  u * 4294967296 + a < q * (y1 * 4294967296 + y0) ∧ 1 ≤ q := by
 have e : q * (y1 * 4294967296 + y0) = q * y1 * 4294967296 + q * y0 := by rw [Int.mul_add, Int.mul_assoc]
 rcases ht with h | h
 ·refine ⟨?_, by omega⟩
  have h1 := Int.mul_le_mul_of_nonneg_right h (show 0 ≤ y1 * 4294967296 + y0 by omega)
  omega
 ·refine ⟨by omega, ?_⟩
  refine Int.not_lt.1 fun hq => ?_
  have := Int.mul_nonneg (show 0 ≤ -q by omega) hy0
  rw [Int.neg_mul] at this
  omega
theorem dg_false {y1 y0 u a q r : Int} (hi : q * y1 + r = u) (ht : q * y0 ≤ 4294967296 * r + a) : q * (y1 * 4294967296 + y0) ≤ u * 4294967296 + a := by
 have e : q * (y1 * 4294967296 + y0) = q * y1 * 4294967296 + q * y0 := by rw [Int.mul_add, Int.mul_assoc]
 omega
theorem dg_break {y1 y0 u a q r : Int} (ha : 0 ≤ a) (hi : q * y1 + r = u) (hr : r ≥ 4294967296) (hq : q ≤ 4294967296) (hy0 : 0 ≤ y0) (hy01 : y0 < 4294967296) : q * (y1 * 4294967296 + y0) ≤ u * 4294967296 + a := by
 have e : q * (y1 * 4294967296 + y0) = q * y1 * 4294967296 + q * y0 := by rw [Int.mul_add, Int.mul_assoc]
 have h1 := Int.mul_le_mul_of_nonneg_right hq hy0
 omega
def Dg (y1 y0 u a q : Int) : Prop := q * (y1 * 4294967296 + y0) ≤ u * 4294967296 + a ∧ u * 4294967296 + a < (q + 1) * (y1 * 4294967296 + y0)
def DgI (y1 y0 u a : Int) (p : Int × Int) : Prop := p.1 * y1 + p.2 = u ∧ 0 ≤ p.2 ∧ p.2 < 4294967296 ∧ 0 ≤ p.1 ∧ p.1 ≤ 4294967297 ∧ u * 4294967296 + a < (p.1 + 1) * (y1 * 4294967296 + y0)
theorem dg_init {y1 y0 u a : Int} (hy1 : 2147483648 ≤ y1) (hy11 : y1 < 4294967296) (hy0 : 0 ≤ y0) (hy01 : y0 < 4294967296) (hu0 : 0 ≤ u) (hu : u < y1 * 4294967296 + y0) (ha : 0 ≤ a) (ha1 : a < 4294967296) : DgI y1 y0 u a (u / y1, u % y1) := by
 have e4 := Int.mul_ediv_add_emod u y1
 have e5 := Int.emod_nonneg u (show y1 ≠ 0 by omega)
 have e6 := Int.emod_lt_of_pos u (show 0 < y1 by omega)
 have e3 : 0 ≤ u / y1 := Int.ediv_nonneg hu0 (by omega)
 have e7 : u / y1 ≤ 4294967297 := by
  have : u / y1 < 4294967298 := (Int.ediv_lt_iff_lt_mul (by omega)).2 (by omega)
  omega
 rw [Int.mul_comm] at e4
 refine ⟨e4, e5, by show u % y1 < _; omega, e3, e7, ?_⟩
 have e8 : (u / y1 + 1) * (y1 * 4294967296 + y0) = u / y1 * y1 * 4294967296 + y1 * 4294967296 + (u / y1) * y0 + y0 := by
  rw [Int.add_mul, Int.mul_add, Int.one_mul, Int.mul_assoc]; omega
 have e9 := Int.mul_nonneg e3 hy0
 show u * 4294967296 + a < (u / y1 + 1) * (y1 * 4294967296 + y0)
 rw [e8]
 omega
theorem dg_down {y1 y0 u a q r : Int} (hy0 : 0 ≤ y0) (h : DgI y1 y0 u a (q, r)) (hu : u < y1 * 4294967296 + y0) (ha : 0 ≤ a) (ha1 : a < 4294967296) (hu0 : 0 ≤ u) (ht : q ≥ 4294967296 ∨ (q * y0 > 4294967296 * r + a)) :
  (q - 1) * y1 + (r + y1) = u ∧ 1 ≤ q ∧ u * 4294967296 + a < (q - 1 + 1) * (y1 * 4294967296 + y0) := by
 obtain ⟨h1, h2, h3, h4, h5, h6⟩ := h
 obtain ⟨a1, a2⟩ := dg_true ha1 hy0 hu hu0 h1 h2 ha ht
 refine ⟨?_, a2, ?_⟩
 ·rw [Int.sub_mul, Int.one_mul]; simp only at h1; omega
 ·rw [Int.sub_add_cancel]; exact a1
theorem dg_loop {α R : Type} {gq gr : α → Int} {mk : Int → Int → α} (hmq : ∀ q r, gq (mk q r) = q) (hmr : ∀ q r, gr (mk q r) = r) {y1 y0 u a : Int} (hy1 : 2147483648 ≤ y1) (hy11 : y1 < 4294967296) (hy0 : 0 ≤ y0) (hy01 : y0 < 4294967296) (hu0 : 0 ≤ u) (hu : u < y1 * 4294967296 + y0) (ha : 0 ≤ a) (ha1 : a < 4294967296) {F : (α → R) → α → R} {d : α → R} {j : Int → R}
  (hF : ∀ ag p, F ag p = if decide (gq p ≥ 4294967296) = true then (if decide (addI .u64 (gr p) y1 ≥ 4294967296) = true then j (subI .u64 (gq p) 1) else ag (mk (subI .u64 (gq p) 1) (addI .u64 (gr p) y1))) else
   if decide (mulI .u64 (gq p) y0 > addI .u64 (mulI .u64 4294967296 (gr p)) a) = true then (if decide (addI .u64 (gr p) y1 ≥ 4294967296) = true then j (subI .u64 (gq p) 1) else ag (mk (subI .u64 (gq p) 1) (addI .u64 (gr p) y1))) else j (gq p))
  {v : R} (hv : ∀ q, Dg y1 y0 u a q → j q = v) : ∀ (n : Nat) (p : α), DgI y1 y0 u a (gq p, gr p) → (4294967296 - gr p).toNat < n → iter n F d p = v
 | 0, p, _, h => by omega
 | n + 1, p, hI, hn => by
  rw [iter, hF]
  obtain ⟨h1, h2, h3, h4, h5, h6⟩ := hI
  simp only at h1 h2 h3 h4 h5 h6
  generalize hq : gq p = q at *
  generalize hr : gr p = r at *
  have eA : addI .u64 r y1 = r + y1 := w_id (by omega) (by omega)
  have eS : 1 ≤ q → subI .u64 q 1 = q - 1 := fun h => w_id (by omega) (by omega)
  have down : (q ≥ 4294967296 ∨ (q * y0 > 4294967296 * r + a)) → (if decide (addI .u64 r y1 ≥ 4294967296) = true then j (subI .u64 q 1) else iter n F d (mk (subI .u64 q 1) (addI .u64 r y1))) = v := by
   intro ht
   obtain ⟨d1, d2, d3⟩ := dg_down hy0 (show DgI y1 y0 u a (q, r) from ⟨h1, h2, h3, h4, h5, h6⟩) hu ha ha1 hu0 ht
   rw [eA, eS d2]
   by_cases hb : r + y1 ≥ 4294967296
   ·rw [if_pos (by simpa using hb)]
    exact hv _ ⟨dg_break ha d1 hb (by omega) hy0 hy01, d3⟩
   ·rw [if_neg (by simpa using hb)]
    exact dg_loop hmq hmr hy1 hy11 hy0 hy01 hu0 hu ha ha1 hF hv n _ (by rw [hmq, hmr]; exact ⟨d1, by show 0 ≤ r + y1; omega, by show r + y1 < _; omega, by show 0 ≤ q - 1; omega, by show q - 1 ≤ _; omega, d3⟩) (by rw [hmr]; omega)
  by_cases ht : q ≥ 4294967296
  ·rw [if_pos (by simpa using ht)]
   exact down (.inl ht)
  ·rw [if_neg (by simpa using ht)]
   have hm := mulb h4 (show q ≤ 4294967295 by omega) hy0 (show y0 ≤ 4294967295 by omega)
   have e1 : mulI .u64 q y0 = q * y0 := w_id hm.1 (by omega)
   have e2 : mulI .u64 4294967296 r = 4294967296 * r := w_id (by omega) (by omega)
   have e3 : addI .u64 (4294967296 * r) a = 4294967296 * r + a := w_id (by omega) (by omega)
   rw [e1, e2, e3]
   by_cases hc : q * y0 > 4294967296 * r + a
   ·rw [if_pos (by simpa using hc)]
    exact down (.inr hc)
   ·rw [if_neg (by simpa using hc)]
    exact hv _ ⟨dg_false h1 (by omega), h6⟩
theorem or_add {a b : Int} {s : Nat} (hs : s ≤ 63) (ha0 : 0 ≤ a) (ha : a * 2 ^ s < 18446744073709551616) (hb0 : 0 ≤ b) (hb : b < 2 ^ s) : orI .u64 (a * 2 ^ s) b = a * 2 ^ s + b := by
 obtain ⟨a, rfl⟩ := Int.eq_ofNat_of_zero_le ha0
 obtain ⟨b, rfl⟩ := Int.eq_ofNat_of_zero_le hb0
 have hp : 2 ^ s ≤ 2 ^ 63 := Nat.pow_le_pow_right (by decide) hs
 have e0 : ((a : Int) * 2 ^ s) = ((a * 2 ^ s : Nat) : Int) := by push_cast; rfl
 have ha' : a * 2 ^ s < 18446744073709551616 := by
  rw [e0] at ha
  generalize a * 2 ^ s = t at ha ⊢
  omega
 have hb' : b < 2 ^ s := by exact_mod_cast hb
 rw [e0]
 unfold orI
 have t : ∀ n : Nat, n < 18446744073709551616 → (BitVec.ofInt IntKind.u64.bits (n : Int)).toNat = n := by
  intro n hn
  show (BitVec.ofInt 64 (n : Int)).toNat = n
  rw [BitVec.toNat_ofInt]; omega
 rw [BitVec.toNat_or, t _ ha', t _ (by omega), Nat.mul_comm a, ← Nat.two_pow_add_eq_or_of_lt hb', w64]
 rw [Nat.mul_comm] at ha'
 have : 2 ^ s * a + b < 18446744073709551616 := by
  have h1 : 2 ^ s * (a + 1) ≤ 18446744073709551616 := by
   have h2 : 2 ^ s ∣ 18446744073709551616 := ⟨2 ^ (64 - s), by rw [← Nat.pow_add, show s + (64 - s) = 64 by omega]⟩
   obtain ⟨c, hc⟩ := h2
   rw [hc] at ha' ⊢
   exact Nat.mul_le_mul_left _ (Nat.lt_of_mul_lt_mul_left ha')
  rw [Nat.mul_add, Nat.mul_one] at h1
  omega
 omega
theorem mul_emod_r (a b : Int) {c : Int} (h : 0 < c) : (a * c) % (b * c) = a % b * c := by
 rw [Int.mul_comm a, Int.mul_comm b, Int.mul_emod_mul_of_pos _ _ h, Int.mul_comm]
theorem dv_asm {N y Y p u w a1 a0 q1 q0 v : Int} (hp : 0 < p) (hY : Y = y * p) (hY0 : 0 < Y) (hw : w = a1 * 4294967296 + a0) (hN : u * 18446744073709551616 + w = N * p)
  (hv : v = u * 4294967296 + a1 - q1 * Y) (h1 : q0 * Y ≤ v * 4294967296 + a0) (h2 : v * 4294967296 + a0 < (q0 + 1) * Y) :
  q1 * 4294967296 + q0 = N / y ∧ v * 4294967296 + a0 - q0 * Y = N % y * p := by
 have e : N * p = (q1 * 4294967296 + q0) * Y + (v * 4294967296 + a0 - q0 * Y) := by
  have e1 : (q1 * 4294967296 + q0) * Y = q1 * Y * 4294967296 + q0 * Y := by rw [Int.add_mul, Int.mul_right_comm]
  rw [e1]; omega
 have e2 : (q0 + 1) * Y = q0 * Y + Y := by rw [Int.add_mul, Int.one_mul]
 generalize hR : v * 4294967296 + a0 - q0 * Y = R at *
 generalize hQ : q1 * 4294967296 + q0 = Q at *
 have hR0 : 0 ≤ R := by omega
 have hR1 : R < Y := by omega
 have d : N * p / Y = Q := by
  rw [e, Int.add_comm, Int.add_mul_ediv_right _ _ (by omega), Int.ediv_eq_zero_of_lt hR0 hR1]; omega
 have m : N * p % Y = R := by rw [e, Int.add_comm, Int.add_mul_emod_self_right, Int.emod_eq_of_lt hR0 hR1]
 rw [hY] at d m
 rw [Int.mul_ediv_mul_of_pos_left _ _ hp] at d
 rw [mul_emod_r _ _ hp] at m
 exact ⟨d.symm, m.symm⟩
theorem sub_w {u a q Y : Int} (h0 : 0 ≤ u * 4294967296 + a - q * Y) (h1 : u * 4294967296 + a - q * Y ≤ 18446744073709551615) : subI .u64 (addI .u64 (mulI .u64 u 4294967296) a) (mulI .u64 q Y) = u * 4294967296 + a - q * Y := by
 unfold subI addI mulI
 simp only [w64]
 generalize q * Y = T at *
 omega
theorem add_w {q r : Int} (h0 : 0 ≤ q * 4294967296 + r) (h1 : q * 4294967296 + r ≤ 18446744073709551615) : addI .u64 (mulI .u64 q 4294967296) r = q * 4294967296 + r := by
 unfold addI mulI
 simp only [w64]
 omega
theorem letj_gen {α R : Type} {f : α → R} {G : (α → R) → R} {v : R} (h : ∀ j, j = f → G j = v) : letj f G = v := h f rfl
set_option maxRecDepth 4000 in
theorem Div64_eq {hi lo y : Int} (hh0 : 0 ≤ hi) (hl0 : 0 ≤ lo) (hl1 : lo ≤ 18446744073709551615) (hy : hi < y) (hy1 : y ≤ 18446744073709551615) : math_bits_Div64 hi lo y = ((hi * 18446744073709551616 + lo) / y, (hi * 18446744073709551616 + lo) % y) := by
 unfold math_bits_Div64
 rw [if_neg (by simp; omega), if_neg (by simp; omega)]
 by_cases h0 : hi = 0
 ·subst h0
  rw [if_pos (by decide)]
  have e1 : lo.tdiv y = lo / y := Int.tdiv_eq_ediv_of_nonneg hl0
  have e2 : lo / y ≤ lo := Int.ediv_le_self _ hl0
  have e3 : 0 ≤ lo / y := Int.ediv_nonneg hl0 (by omega)
  have e4 : quoI .u64 lo y = lo / y := by unfold quoI; rw [e1]; exact w_id e3 (by omega)
  have e5 : remI .u64 lo y = lo % y := Int.tmod_eq_emod_of_nonneg hl0
  rw [e4, e5]; simp
 ·rw [if_neg (by simpa using h0)]
  obtain ⟨s, hs⟩ : ∃ s, s = math_bits_LeadingZeros64 y := ⟨_, rfl⟩
  obtain ⟨s0, s1, s2, s3⟩ := lz_fact hs (by omega) hy1
  have hY := (rng_shlI .u64 y (convI .u64 s)).2
  simp only [letk, ← hs]
  obtain ⟨k, rfl⟩ := Int.eq_ofNat_of_zero_le s0
  rw [s3] at s2 hY
  simp only [Int.toNat_natCast] at s2 s3 hY
  rw [s3]
  have hk : k ≤ 63 := by omega
  have hp : (0 : Int) < 2 ^ k := Int.pow_pos (by decide)
  have hp2 : (2 : Int) ^ k * 2 ^ (64 - k) = 18446744073709551616 := by rw [← Int.pow_add, show k + (64 - k) = 64 by omega]; rfl
  have hc : convI .u64 (k : Int) = k := conv_u64 (by omega) (by omega)
  have hYm : y * 2 ^ k ≤ 18446744073709551615 := by show _ ≤ (18446744073709551615 : Int); exact hY
  -- the high part
  have hhi : hi * 2 ^ k < y * 2 ^ k := Int.mul_lt_mul_of_pos_right hy hp
  have m1 : shlI .u64 hi (k : Int) = hi * 2 ^ k := by
   unfold shlI
   rw [Int.toNat_natCast, show min k IntKind.u64.bits = k by show min k 64 = k; omega]
   exact w_id (Int.mul_nonneg hh0 (Int.le_of_lt hp)) (by omega)
  have m2 : shrI .u64 lo (subI .u64 64 (k : Int)) = lo / 2 ^ (64 - k) := by
   have e : subI .u64 64 (k : Int) = ((64 - k : Nat) : Int) := by
    have : subI .u64 64 (k : Int) = 64 - (k : Int) := w_id (by omega) (by omega)
    omega
   rw [e]; exact shr_eq (by rw [Int.toNat_natCast]; show min (64 - k) 64 = _; omega)
  have m3 : shlI .u64 lo (k : Int) = lo * 2 ^ k % 18446744073709551616 := by
   unfold shlI
   rw [Int.toNat_natCast, show min k IntKind.u64.bits = k by show min k 64 = k; omega, w64]
  have hb0 : 0 ≤ lo / 2 ^ (64 - k) := Int.ediv_nonneg hl0 (Int.le_of_lt (Int.pow_pos (by decide)))
  have hb1 : lo / 2 ^ (64 - k) < 2 ^ k := (Int.ediv_lt_iff_lt_mul (Int.pow_pos (by decide))).2 (by rw [hp2]; omega)
  rw [hc, m1, m2, m3, or_add hk hh0 (by omega) hb0 hb1]
  -- the whole, shifted
  have hN : (hi * 2 ^ k + lo / 2 ^ (64 - k)) * 18446744073709551616 + lo * 2 ^ k % 18446744073709551616 = (hi * 18446744073709551616 + lo) * 2 ^ k := by
   have e : lo / 2 ^ (64 - k) = lo * 2 ^ k / 18446744073709551616 := by
    rw [← hp2, Int.mul_comm ((2 : Int) ^ k), Int.mul_ediv_mul_of_pos_left _ _ hp]
   rw [e, Int.add_mul, Int.add_mul (hi * 18446744073709551616), Int.mul_right_comm hi]
   omega
  have hy1' : 0 < y := by omega
  have hQ0 : 0 ≤ (hi * 18446744073709551616 + lo) / y := Int.ediv_nonneg (by omega) (by omega)
  have hQ1 : (hi * 18446744073709551616 + lo) / y < 18446744073709551616 := (Int.ediv_lt_iff_lt_mul hy1').2 (by omega)
  have hu0 : 0 ≤ hi * 2 ^ k + lo / 2 ^ (64 - k) := by have := Int.mul_nonneg hh0 (Int.le_of_lt hp); omega
  have hu1 : hi * 2 ^ k + lo / 2 ^ (64 - k) < y * 2 ^ k := by
   have h1 := Int.mul_le_mul_of_nonneg_right (show hi + 1 ≤ y by omega) (Int.le_of_lt hp)
   rw [Int.add_mul, Int.one_mul] at h1
   omega
  obtain ⟨N, hNe⟩ : ∃ N, N = hi * 18446744073709551616 + lo := ⟨_, rfl⟩
  rw [← hNe] at hN hQ0 hQ1 ⊢
  obtain ⟨Y, hYe⟩ : ∃ Y, Y = y * 2 ^ k := ⟨_, rfl⟩
  rw [← hYe] at s2 hYm hu1 ⊢
  generalize hi * 2 ^ k + lo / 2 ^ (64 - k) = u at hN hu0 hu1 ⊢
  have hW0 : 0 ≤ lo * 2 ^ k % 18446744073709551616 := Int.emod_nonneg _ (by decide)
  have hW1 : lo * 2 ^ k % 18446744073709551616 < 18446744073709551616 := Int.emod_lt_of_pos _ (by decide)
  generalize lo * 2 ^ k % 18446744073709551616 = W at hN hW0 hW1 ⊢
  rw [shr32 Y, and_mask (by omega) hYm, shr32 W, and_mask hW0 (by omega)]
  have hYs : Y / 4294967296 * 4294967296 + Y % 4294967296 = Y := by omega
  have hWs : W = W / 4294967296 * 4294967296 + W % 4294967296 := by omega
  have b1 : 2147483648 ≤ Y / 4294967296 := by omega
  have b2 : Y / 4294967296 < 4294967296 := by omega
  have b3 : 0 ≤ Y % 4294967296 := by omega
  have b4 : Y % 4294967296 < 4294967296 := by omega
  have b5 : 0 ≤ W / 4294967296 := by omega
  have b6 : W / 4294967296 < 4294967296 := by omega
  have b7 : 0 ≤ W % 4294967296 := by omega
  have b8 : W % 4294967296 < 4294967296 := by omega
  generalize Y / 4294967296 = y1 at *
  generalize Y % 4294967296 = y0 at *
  generalize W / 4294967296 = a1 at *
  generalize W % 4294967296 = a0 at *
  obtain ⟨r1, r2, r3, r4⟩ := dv_r (u := u) (d := y1) hu0 (by omega) (by omega)
  rw [r1, r2]
  refine letj_gen fun j8 hj8 => ?_
  refine dg_loop (j := j8) (gq := fun p : Int × Int => p.1) (gr := fun p => p.2) (mk := fun q r => (q, r)) (fun _ _ => rfl) (fun _ _ => rfl) b1 b2 b3 b4 hu0 (by omega) b5 b6 (by exact fun ag p => rfl) (fun q1 hq1 => ?_) _ _ (by exact dg_init b1 b2 b3 b4 hu0 (by omega) b5 b6) (by show (4294967296 - u % y1).toNat < _; omega)
  obtain ⟨g1, g2⟩ := hq1
  subst hj8
  dsimp only
  rw [hYs] at g1 g2
  have g3 : (q1 + 1) * Y = q1 * Y + Y := by rw [Int.add_mul, Int.one_mul]
  rw [g3] at g2
  have ev := sub_w (u := u) (a := a1) (q := q1) (Y := Y) (by omega) (by omega)
  rw [ev]
  obtain ⟨v, hv⟩ : ∃ v, v = u * 4294967296 + a1 - q1 * Y := ⟨_, rfl⟩
  rw [← hv]
  have hv0 : 0 ≤ v := by omega
  have hv1 : v < Y := by omega
  obtain ⟨t1, t2, t3, t4⟩ := dv_r (u := v) (d := y1) hv0 (by omega) (by omega)
  rw [t1, t2]
  refine letj_gen fun j9 hj9 => ?_
  refine dg_loop (j := j9) (gq := fun p : Int × Int => p.2) (gr := fun p => p.1) (mk := fun q r => (r, q)) (fun _ _ => rfl) (fun _ _ => rfl) b1 b2 b3 b4 hv0 (by omega) b7 b8 (by exact fun ag p => rfl) (fun q0 hq0 => ?_) _ _ (by exact dg_init b1 b2 b3 b4 hv0 (by omega) b7 b8) (by show (4294967296 - v % y1).toNat < _; omega)
  obtain ⟨f1, f2⟩ := hq0
  subst hj9
  dsimp only
  rw [hYs] at f1 f2
  obtain ⟨z1, z2⟩ := dv_asm hp hYe (by omega) hWs hN hv f1 f2
  have f3 : (q0 + 1) * Y = q0 * Y + Y := by rw [Int.add_mul, Int.one_mul]
  rw [f3] at f2
  rw [sub_w (by omega) (by omega), add_w (by omega) (by omega), z1, z2, shr_eq (m := k) (by rw [Int.toNat_natCast]; show min k 64 = k; omega), Int.mul_ediv_cancel _ (Int.ne_of_gt hp)]
theorem or_rng (a b : Int) : 0 ≤ orI .u64 a b ∧ orI .u64 a b ≤ 18446744073709551615 := rng_orI .u64 a b
theorem sub_rng (a b : Int) : 0 ≤ subI .u64 a b ∧ subI .u64 a b ≤ 18446744073709551615 := rng_subI .u64 a b
theorem add_u {a b : Int} (h0 : 0 ≤ a) (h1 : a ≤ 4294967295) (h2 : 0 ≤ b) (h3 : b ≤ 4294967295) : addI .u64 a b = a + b := w_id (by omega) (by omega)
theorem mul_hi {a b n : Int} (ha : 0 ≤ a) (hn : a < n) (hn1 : n ≤ 18446744073709551615) (hb : 0 ≤ b) (hb1 : b ≤ 18446744073709551615) : (math_bits_Mul64 a b).1 < n := by
 rw [mul64_hi ha (by omega) hb hb1]
 refine (Int.ediv_lt_iff_lt_mul (by decide)).2 ?_
 have h1 := Int.mul_le_mul (show a ≤ n - 1 by omega) hb1 hb (by omega)
 omega
theorem mul_afterN (n : Int) {a b : Int} {x : Int × Int} (hx : x = math_bits_Mul64 a b) (ha : 0 ≤ a) (hn : a < n) (hn1 : n ≤ 18446744073709551615) (hb : 0 ≤ b) (hb1 : b ≤ 18446744073709551615) : x.1 < n := hx ▸ mul_hi ha hn hn1 hb hb1
theorem dv_i {u d : Int} (h : 0 ≤ u ∧ u ≤ 18446744073709551615) (hd : 1 ≤ d) (hd1 : d ≤ 4294967295) : 0 ≤ subI .u64 u (mulI .u64 (quoI .u64 u d) d) ∧ subI .u64 u (mulI .u64 (quoI .u64 u d) d) ≤ 4294967295 := by
 obtain ⟨a1, a2, a3, a4⟩ := dv_r h.1 h.2 hd
 rw [a1]; omega
theorem prime_mul_eq {a b n : Int} (ha : 0 ≤ a) (hn : a < n) (hb : 0 ≤ b) (hb1 : b ≤ 18446744073709551615) (hn1 : n ≤ 18446744073709551615) : prime_mul a b n = a * b % n := by
 have h1 := mul_hi ha hn hn1 hb hb1
 have hp := Int.mul_nonneg ha hb
 unfold prime_mul letk
 rw [mul64_hi ha (by omega) hb hb1] at h1 ⊢
 simp only at h1 ⊢
 rw [Div64_eq (Int.ediv_nonneg hp (by decide)) (Int.emod_nonneg _ (by decide)) (by have := Int.emod_lt_of_pos (a * b) (show (0 : Int) < 18446744073709551616 by decide); omega) h1 hn1]
 simp only
 congr 1
 omega
theorem prime_mul_rng {a b n x : Int} (hx : x = prime_mul a b n) (ha : 0 ≤ a) (hn : a < n) (hb : 0 ≤ b) (hb1 : b ≤ 18446744073709551615) (hn1 : n ≤ 18446744073709551615) : 0 ≤ x ∧ x < n := by
 rw [hx, prime_mul_eq ha hn hb hb1 hn1]; exact ⟨Int.emod_nonneg _ (by omega), Int.emod_lt_of_pos _ (by omega)⟩
theorem prime_pow_rng {a e n x : Int} (hx : x = prime_pow a e n) (ha : 0 ≤ a) (hn : a < n) (h1 : 1 < n) (hn1 : n ≤ 18446744073709551615) : 0 ≤ x ∧ x < n := by
 subst hx
 unfold prime_pow
 refine iter_rule (P := fun p : Int × Int × Int => 0 ≤ p.1 ∧ p.1 < n ∧ 0 ≤ p.2.2 ∧ p.2.2 < n) (Q := fun x => 0 ≤ x ∧ x < n) (meas := fun p => p.2.1.toNat) ?_ _ _ ⟨ha, hn, show (0 : Int) ≤ 1 by decide, h1⟩ (by show e.toNat < _; omega)
 rintro ag ⟨a, e, x⟩ ⟨p1, p2, p3, p4⟩ ih
 simp only at p1 p2 p3 p4 ih ⊢
 by_cases he : e > 0
 ·rw [if_pos (by simpa using he)]
  have hs : (shrI .u64 e 1).toNat < e.toNat := by rw [shr1]; omega
  simp only [letk]
  by_cases hc : (andI .u64 e 1 == 1) = true
  ·rw [if_pos hc]
   have m1 := prime_mul_rng (x := prime_mul x a n) rfl p3 p4 p1 (by omega) hn1
   have m2 := prime_mul_rng (x := prime_mul a a n) rfl p1 p2 p1 (by omega) hn1
   exact ih _ ⟨m2.1, m2.2, m1.1, m1.2⟩ hs
  ·rw [if_neg hc]
   have m2 := prime_mul_rng (x := prime_mul a a n) rfl p1 p2 p1 (by omega) hn1
   exact ih _ ⟨m2.1, m2.2, p3, p4⟩ hs
 ·rw [if_neg (by simpa using he)]
  exact ⟨p3, p4⟩
@[go_sem] theorem ltL_ints {n : Nat} {k : IntKind} : ∀ {l : List Int}, ltL n (l.map (V.int k)) = True
 | [] => by simp [ltL]
 | a :: l => by simp only [List.map_cons, ltL, ltL_ints (l := l), ltV, and_self]
@[go_sem] theorem elt_lit3 {k : IntKind} {a b c i : Int} : elt [V.int k a, V.int k b, V.int k c] i.toNat (V.int k 0) = V.int k (gt [a, b, c] i) := by
 unfold elt gt
 match i.toNat with
 | 0 => rfl
 | 1 => rfl
 | 2 => rfl
 | n + 3 => rfl
theorem kg2_len : kg_0.length = 12 := rfl
theorem kg2_all : kg_0.all (fun x => decide (2 ≤ x) && decide (x ≤ 37)) = true := by decide
theorem kg2_rng {j : Int} (h0 : 0 ≤ j) (h1 : j < 12) : 2 ≤ gt kg_0 j ∧ gt kg_0 j ≤ 37 := by
 have hm : gt kg_0 j ∈ kg_0 := gt_mem (by show j.toNat < 12; omega)
 simpa using List.all_eq_true.1 kg2_all _ hm
def NoDiv (u i : Int) : Prop := ∀ k : Int, 0 ≤ k → k < i → u % gt kg_0 k ≠ 0
theorem NoDiv_zero {u : Int} : NoDiv u 0 := fun k h0 h1 => by omega
theorem NoDiv_step {u i : Int} (h : NoDiv u i) (hu : 0 ≤ u) (h0 : 0 ≤ i) (h1 : i < 12) (hr : ¬ remI .u64 u (gt kg_0 i) = 0) : NoDiv u (i + 1) := by
 intro k k0 k1
 by_cases hk : k < i
 ·exact h k k0 hk
 ·obtain rfl : k = i := by omega
  rwa [show remI .u64 u (gt kg_0 k) = u % gt kg_0 k from Int.tmod_eq_emod_of_nonneg hu] at hr
theorem NoDiv_small : ∀ u : Fin 38, 2 ≤ u.val → ∃ k : Fin 12, ((u.val : Nat) : Int) % kg_0.getD k.val 0 = 0 := by decide
theorem NoDiv_all {u i : Int} (h : NoDiv u i) (hi : 12 ≤ i) (h2 : 2 ≤ u) : 37 < u := by
 refine Int.not_le.1 fun hu => ?_
 obtain ⟨k, hk⟩ := NoDiv_small ⟨u.toNat, by omega⟩ (by show 2 ≤ u.toNat; omega)
 refine h (k.val : Int) (by omega) (by omega) ?_
 have e : ((u.toNat : Nat) : Int) = u := by omega
 rw [← e, gt_nat]
 exact hk
theorem kg5_all : kg_4.all (fun x => decide (0 ≤ x) && decide (x ≤ 63)) = true := by decide
theorem tz_rng {a x : Int} (hx : x = math_bits_TrailingZeros64 a) : 0 ≤ x ∧ x ≤ 64 := by
 subst hx
 unfold math_bits_TrailingZeros64
 split
 ·omega
 ·have hi := tzix (x := andI .u64 a (negI .u64 a))
  have hm := gt_mem (l := kg_4) (i := shrI .u64 (mulI .u64 (andI .u64 a (negI .u64 a)) 285870213051353865) 58) (by show _ < 64; omega)
  have := List.all_eq_true.1 kg5_all _ hm
  simp only [Bool.and_eq_true, decide_eq_true_eq] at this
  rw [conv_i64 (by omega) (by omega)]; omega
theorem si64 {x : Int} (h0 : 0 ≤ x) (h1 : x ≤ 64) : subI .i64 x 1 = x - 1 := by unfold subI; rw [IntKind.wrap_i64]; omega
theorem rem1_rng {m : Int} (h : 1 ≤ m) : 0 ≤ remI .i64 1 m ∧ remI .i64 1 m < m := by
 rw [show remI .i64 1 m = 1 % m from Int.tmod_eq_emod_of_nonneg (by decide)]
 exact ⟨Int.emod_nonneg _ (by omega), Int.emod_lt_of_pos _ (by omega)⟩
theorem word_check_ok0 {a b m : Int} (h : word_check a b m = 0) : 1 ≤ m ∧ m < 2305843009213693952 ∧ 0 ≤ a ∧ a < m ∧ 0 ≤ b ∧ b < m := by
 unfold word_check at h
 simp only [letk, word_residue] at h
 repeat' (split at h)
 all_goals simp_all
 all_goals omega
instance word_check_cf (a b m : Int) : CF (word_check a b m) (fun x => x = 0 → 1 ≤ m ∧ m < 2305843009213693952 ∧ 0 ≤ a ∧ a < m ∧ 0 ≤ b ∧ b < m) := ⟨word_check_ok0⟩
theorem nn_of_all {l : List Int} (h : l.all (fun x => decide (0 ≤ x)) = true) : ∀ j : Int, 0 ≤ j → j.toNat < l.length → 0 ≤ gt l j := fun j _ h1 => by simpa using List.all_eq_true.1 h _ (gt_mem h1)
theorem lits_nn : ∀ j : Int, 0 ≤ j → j.toNat < ([0, 1, 2, 3, 4, 5] : List Int).length → 0 ≤ gt ([0, 1, 2, 3, 4, 5] : List Int) j := nn_of_all (by decide)
theorem cu63 {x : Int} (h0 : 0 ≤ x) (h1 : x ≤ 9223372036854775807) : convI .u64 x = x := conv_u64 h0 (by omega)
theorem word_mul_eq {a b n : Int} (ha : 0 ≤ a) (hn : a < n) (hb : 0 ≤ b) (hb1 : b ≤ 9223372036854775807) (hn1 : n ≤ 9223372036854775807) : word_mul a b n = a * b % n := by
 have h := prime_mul_eq ha hn hb (by omega) (by omega)
 have e : word_mul a b n = convI .i64 (prime_mul (convI .u64 a) (convI .u64 b) (convI .u64 n)) := rfl
 have c1 : convI .u64 a = a := conv_u64 ha (by omega)
 have c2 : convI .u64 b = b := conv_u64 hb (by omega)
 have c3 : convI .u64 n = n := conv_u64 (by omega) (by omega)
 rw [e, c1, c2, c3, h]
 have := Int.emod_nonneg (a * b) (show n ≠ 0 by omega)
 have := Int.emod_lt_of_pos (a * b) (show 0 < n by omega)
 exact conv_i64 (by omega) (by omega)
theorem word_mul_rng {a b n x : Int} (hx : x = word_mul a b n) (ha : 0 ≤ a) (hn : a < n) (hb : 0 ≤ b) (hb1 : b ≤ 9223372036854775807) (hn1 : n ≤ 9223372036854775807) : 0 ≤ x ∧ x < n := by
 rw [hx, word_mul_eq ha hn hb hb1 hn1]; exact ⟨Int.emod_nonneg _ (by omega), Int.emod_lt_of_pos _ (by omega)⟩
end Go.Proofs.YtjnikknlcmbcmaaGreatDoor
namespace Go.Proofs.YtjnikknlcmbcmaaGreatDoor
open Go.RowKit
set_option linter.unusedVariables false
set_option linter.unusedSimpArgs false
instance clone_cf {s : List Int} : CF (bytes_Clone s) (fun x => x.length = s.length) := ⟨rfl⟩
theorem count_list (n : Int) : digest_count n = [convI .u8 (shrI .u64 n 56), convI .u8 (shrI .u64 n 48), convI .u8 (shrI .u64 n 40), convI .u8 (shrI .u64 n 32), convI .u8 (shrI .u64 n 24), convI .u8 (shrI .u64 n 16), convI .u8 (shrI .u64 n 8), convI .u8 (shrI .u64 n 0)] := by kernel_rfl
instance count_cf {n : Int} : CF (digest_count n) (fun x => x.length = 8) := ⟨by rw [count_list]; rfl⟩
end Go.Proofs.YtjnikknlcmbcmaaGreatDoor
namespace Go.Proofs.YtjnikknlcmbcmaaGreatDoor
open Go.RowKit
set_option linter.unusedVariables false
set_option linter.unusedSimpArgs false
def spend_hash (i : S_api_Item) : List Int × Bool := if i.Kind == 2 && decide (i.B.length = 32) then (arrN 32 i.B, true) else ([0, 0, 0, 0, 0, 0, 0, 0, 0, 0, 0, 0, 0, 0, 0, 0, 0, 0, 0, 0, 0, 0, 0, 0, 0, 0, 0, 0, 0, 0, 0, 0], false)
theorem spend_hash_eq (i : S_api_Item) : spend_hash i = if i.Kind == 2 && decide (i.B.length = 32) then (arrN 32 i.B, true) else ([0, 0, 0, 0, 0, 0, 0, 0, 0, 0, 0, 0, 0, 0, 0, 0, 0, 0, 0, 0, 0, 0, 0, 0, 0, 0, 0, 0, 0, 0, 0, 0], false) := rfl
theorem encode_within_eqM (i : S_api_Item) (d : Int) : encode_within i d = withinM i d := by
 obtain ⟨k, n, b, l⟩ := i
 have hany : slices_ContainsFunc_api_Item_api_Item_at_encode_within_1 l d = !(withinL l (d - 1)) := by
  have h := iter_any (l := l) (C := fun x => encode_within_1 x d) (d := fun _ => default) (F := fun ag1 p1 => if decide (p1 < (l.length : Int)) then (letk (encode_within_1 (gt l p1) d) (fun x4 => if x4 then p1 else ag1 (p1 + 1))) else -1) (fun ag p => rfl)
  have h2 : slices_ContainsFunc_api_Item_api_Item_at_encode_within_1 l d = l.any (fun x => encode_within_1 x d) := h
  rw [h2, withinL_all, List.not_all_eq_any_not]; rfl
 unfold encode_within
 simp only [letk, withinM, hany, Bool.not_not]
 by_cases e1 : k = 1
 ·subst e1; cases b with
  | nil => cases l with
   | nil => simp
   | cons y l => simp; omega
  | cons x b => simp; omega
 by_cases e2 : k = 2
 ·subst e2; cases l with
  | nil => simp [Bool.beq_eq_decide_eq]
  | cons y l => simp; omega
 by_cases e3 : k = 3
 ·subst e3
  by_cases h0 : n = 0
  ·cases b with
   | nil =>
    by_cases h1 : 0 < d
    ·by_cases h2 : l.length ≤ 1000
     ·have h2' : (l.length : Int) ≤ 1000 := by omega
      simp [h0, h1, h2, h2']
     ·have h2' : ¬ (l.length : Int) ≤ 1000 := by omega
      simp [h0, h1, h2, h2']
    ·simp [h0, h1]
   | cons x b => simp [h0]; omega
  ·simp [h0]
 ·simp [e1, e2, e3]
theorem be_cons : ∀ {k : Nat} {n : Int}, be (k + 1) n = (n / 256 ^ k) % 256 :: be k n
 | 0, n => by simp [be]
 | k + 1, n => by
  rw [be, be_cons (k := k), be]
  simp only [List.cons_append, List.cons.injEq, and_true]
  rw [Int.ediv_ediv_of_nonneg (by omega), Int.pow_succ, Int.mul_comm (256 ^ k)]
theorem num_loop {n : Int} {F : (Int × List Int → List Int) → Int × List Int → List Int} {d : Int × List Int → List Int}
  (hF : ∀ ag p, F ag p = if decide (p.1 ≥ 0) = true then ag (p.1 - 1, p.2 ++ [convI .u8 (shrI .u64 n (8 * p.1))]) else p.2) :
  ∀ (k fuel : Nat) (out : List Int), k ≤ 8 → k < fuel → iter fuel F d ((k : Int) - 1, out) = out ++ be k n
 | 0, fuel, out, _, hf => by
  obtain ⟨m, rfl⟩ : ∃ m, fuel = m + 1 := ⟨fuel - 1, by omega⟩
  rw [iter, hF]; simp [be]
 | k + 1, fuel, out, hk, hf => by
  obtain ⟨m, rfl⟩ : ∃ m, fuel = m + 1 := ⟨fuel - 1, by omega⟩
  rw [iter, hF, if_pos (by simp)]
  have e1 : convI .u8 (shrI .u64 n (8 * (((k + 1 : Nat) : Int) - 1))) = (n / 256 ^ k) % 256 := by
   have e2 : (8 * (((k + 1 : Nat) : Int) - 1)).toNat = 8 * k := by omega
   unfold convI shrI
   rw [e2, show min (8 * k) (IntKind.bits .u64) = 8 * k by show min (8 * k) 64 = 8 * k; omega, Int.fdiv_eq_ediv_of_nonneg _ (Int.le_of_lt (Int.pow_pos (by omega))), Int.pow_mul]
   rfl
  simp only
  rw [e1, show ((k + 1 : Nat) : Int) - 1 - 1 = (k : Int) - 1 by omega, num_loop hF k m _ (by omega) (by omega), be_cons]
  simp
theorem number_eq {out : List Int} {n size : Int} (h0 : 0 ≤ size) (h1 : size ≤ 8) : encode_number out n size = out ++ be size.toNat n := by
 unfold encode_number
 have := num_loop (n := n) (d := fun _ => default) (fun ag p => rfl) size.toNat ((size - 1 + 1).toNat + 1) out (by omega) (by omega)
 rw [show ((size.toNat : Nat) : Int) = size by omega] at this
 exact this
theorem num_le {out x : List Int} {n size : Int} (h : x = encode_number out n size) : ¬ (0 ≤ size ∧ size ≤ 8) ∨ (x.length : Int) = out.length + size := by
 by_cases hs : 0 ≤ size ∧ size ≤ 8
 ·right; rw [h, number_eq hs.1 hs.2]; simp [be_len]; omega
 ·exact .inl hs
theorem be_u64_8 {n : Int} : be 8 (convI .u64 n) = be 8 n := by
 apply be_mod
 have h8 : (256 : Int) ^ 8 = 18446744073709551616 := by decide
 have : convI .u64 n = n % 18446744073709551616 := rfl
 rw [this, h8]; omega
theorem be_u64_4 {n : Int} : be 4 (convI .u64 n) = be 4 n := by
 apply be_mod
 have h8 : (256 : Int) ^ 4 = 4294967296 := by decide
 have : convI .u64 n = n % 18446744073709551616 := rfl
 rw [this, h8]; omega
theorem writeL_fold : ∀ {l : List S_api_Item} {out : List Int}, writeL out l = l.foldl writeM out
 | [], _ => rfl
 | x :: l, out => by simp only [writeL, List.foldl_cons]; exact writeL_fold
theorem encode_write_eqM (out : List Int) (i : S_api_Item) : encode_write out i = writeM out i := by
 obtain ⟨k, n, b, l⟩ := i
 unfold encode_write
 simp only [letk, writeM]
 by_cases hl : out.length > 16384
 ·have : (out.length : Int) > 16384 := by omega
  simp [hl, this]
 have hl' : ¬ (out.length : Int) > 16384 := by omega
 by_cases e1 : k = 1
 ·subst e1
  have : convI .u8 1 = 1 := rfl
  simp [hl, hl', number_eq, this, be_u64_8]
 by_cases e2 : k = 2
 ·subst e2
  have : convI .u8 2 = 2 := rfl
  simp [hl, hl', number_eq, this, be_u64_4]
 have hk : convI .u8 k = k % 256 := rfl
 simp only [hl, hl', e1, e2, decide_false, Bool.false_eq_true, if_false, beq_iff_eq, number_eq (show (0 : Int) ≤ 4 by decide) (show (4 : Int) ≤ 8 by decide), hk, Int.reduceToNat, be_u64_4]
 rw [iter_run (l := l) (fun a s => .inl (writeM s a)) (fun s => s) (fun ag i s => by by_cases h : i < (l.length : Int) <;> simp [h]), foldE_l, writeL_fold]
 simp
theorem fail_eqM (r : S_encode_reader) (e : Int) : encode_reader_fail r e = failR r e := rfl
theorem fail_ne {r x : S_encode_reader} {e : Int} (h : x = encode_reader_fail r e) (he : decide (e = 0) = false) : x.e ≠ 0 := by
 rw [h, fail_eqM]; unfold failR
 have : e ≠ 0 := by simpa using he
 split
 ·exact this
 ·rename_i h2; simpa using h2
theorem take_eqM (r : S_encode_reader) (n : Int) : encode_reader_take r n = takeR r n := by
 obtain ⟨b, e⟩ := r
 unfold encode_reader_take takeR
 simp only [letk, fail_eqM]
 by_cases h : e = 0
 ·by_cases h2 : n > b.length
  ·simp [h, h2]
  ·simp [h, h2, sl]
   rw [List.take_of_length_le (by simp)]
 ·simp [h]
theorem rnumber_eqM (r : S_encode_reader) (n : Int) : encode_reader_number r n = numR r n := by
 unfold encode_reader_number numR
 simp only [letk, take_eqM]
 rw [iter_runR (l := (takeR r n).1) (fun a s => .inl (orI .u64 (shlI .u64 s 8) (convI .u64 a))) (fun s => (s, (takeR r n).2)) (fun ag i s => by by_cases h : i < ((takeR r n).1.length : Int) <;> simp [h]), foldE_l]
 rfl
theorem rnum_fact {r : S_encode_reader} {x : Int × S_encode_reader} {n : Int} (h : x = encode_reader_number r n) (hb : isB r.b) : n > 4 ∨ (0 ≤ convI .i64 x.1 ∧ convI .i64 x.1 ≤ 4294967295) := by
 by_cases hn : n > 4
 ·exact .inl hn
 right
 rw [h, rnumber_eqM]
 unfold numR takeR
 split
 ·exact ⟨(by decide : (0 : Int) ≤ convI .i64 0), (by decide : convI .i64 0 ≤ 4294967295)⟩
 ·simp only
  have hl : (r.b.take n.toNat).length ≤ 4 := by simp; omega
  have hbt := isB_take hb n.toNat
  rw [valO_val hbt (by omega)]
  have hv := val_bd0 hbt
  have h3 : (256 : Int) ^ (r.b.take n.toNat).length ≤ 256 ^ 4 := (by decide : ∀ k, k < 5 → (256 : Int) ^ k ≤ 256 ^ 4) _ (by omega)
  have h4 : (256 : Int) ^ 4 = 4294967296 := by decide
  rw [conv_i64 (by omega) (by omega)]
  omega
theorem rnum_isB {r : S_encode_reader} {x : Int × S_encode_reader} {n : Int} (h : x = encode_reader_number r n) (hb : isB r.b) : isB x.2.b := by
 rw [h, rnumber_eqM]; exact takeR_isB hb
theorem fail_isB {r x : S_encode_reader} {e : Int} (h : x = encode_reader_fail r e) (hb : isB r.b) : isB x.b := by
 rw [h, fail_eqM]; exact failR_isB hb
theorem take_isB {r : S_encode_reader} {x : List Int × S_encode_reader} {n : Int} (h : x = encode_reader_take r n) (hb : isB r.b) : isB x.2.b := by
 rw [h, take_eqM]; exact takeR_isB hb
theorem item_loop {k n : Int} {f : S_encode_reader → S_api_Item × S_encode_reader} {F : (Int × S_encode_reader × List S_api_Item → S_api_Item × S_encode_reader) → Int × S_encode_reader × List S_api_Item → S_api_Item × S_encode_reader} {d : Int × S_encode_reader × List S_api_Item → S_api_Item × S_encode_reader}
  (hF : ∀ ag p, F ag p = if decide (p.1 < n) = true then (if (p.2.1.e != 0) = true then (⟨k, 0, [], p.2.2⟩, p.2.1) else ag (p.1 + 1, (f p.2.1).2, p.2.2 ++ [(f p.2.1).1])) else (⟨k, 0, [], p.2.2⟩, p.2.1)) :
  ∀ (fuel : Nat) (i : Int) (r : S_encode_reader) (l : List S_api_Item), (n - i).toNat < fuel → iter fuel F d (i, r, l) = (⟨k, 0, [], (loopR f (n - i).toNat l r).1⟩, (loopR f (n - i).toNat l r).2) := by
 intro fuel
 induction fuel with
 | zero => intro i r l h; omega
 | succ m ih =>
  intro i r l h
  rw [iter, hF]
  by_cases hi : i < n
  ·rw [if_pos (decide_eq_true hi)]
   obtain ⟨q, hq⟩ : ∃ q, (n - i).toNat = q + 1 := ⟨(n - i).toNat - 1, by omega⟩
   by_cases he : r.e = 0
   ·simp only [he, bne_self_eq_false, Bool.false_eq_true, if_false]
    rw [ih _ _ _ (by omega), hq]
    simp only [loopR, he, ne_eq, not_true_eq_false, if_false]
    rw [show (n - (i + 1)).toNat = q by omega]
   ·have : (r.e != 0) = true := by simpa using he
    simp only [this, if_true]
    rw [hq, loopR_err he]
  ·rw [if_neg (by simpa using hi)]
   rw [show (n - i).toNat = 0 by omega]; rfl
theorem encode_reader_item_eqM {r : S_encode_reader} {depth : Int} (h0 : 0 ≤ depth) (h1 : isB r.b) : encode_reader_item r depth = itemM r depth := by
 obtain ⟨d, rfl⟩ : ∃ d : Nat, depth = d := ⟨depth.toNat, by omega⟩
 clear h0
 have hit : itemM r (d : Int) = itemG (match d with | 0 => none | d + 1 => some (itemN d)) r := by cases d <;> rfl
 rw [hit]
 unfold encode_reader_item itemG
 simp only [letk, letj, rnumber_eqM, fail_eqM, take_eqM, bytes_Clone]
 generalize numR r 1 = a
 generalize convI .i64 a.1 = k
 by_cases k1 : k < 1
 ·simp [k1]
 by_cases k2 : k > 3
 ·simp [k1, k2]
 by_cases k3 : k = 3
 ·subst k3
  cases d with
  | zero => simp
  | succ d =>
   have hd : ((d + 1 : Nat) : Int) ≠ 0 := by omega
   have hI : ∀ q, itemM q (((d + 1 : Nat) : Int) - 1) = itemN d q := by
    intro q; unfold itemM; rw [show (((d + 1 : Nat) : Int) - 1).toNat = d by omega]
   simp only [hI]
   generalize numR a.2 4 = b
   generalize convI .i64 b.1 = n
   have hd2 : ¬ ((d : Int) + 1 = 0) := by omega
   have key : ∀ {F : (Int × S_encode_reader × List S_api_Item → S_api_Item × S_encode_reader) → Int × S_encode_reader × List S_api_Item → S_api_Item × S_encode_reader} {z : Int × S_encode_reader × List S_api_Item → S_api_Item × S_encode_reader} (q : S_encode_reader),
     (∀ ag p, F ag p = if p.1 < n then (if p.2.1.e = 0 then ag (p.1 + 1, (itemN d p.2.1).2, p.2.2 ++ [(itemN d p.2.1).1]) else (⟨3, 0, [], p.2.2⟩, p.2.1)) else (⟨3, 0, [], p.2.2⟩, p.2.1)) →
     iter (n.toNat + 1) F z (0, q, []) = (⟨3, 0, [], (loopR (itemN d) n.toNat [] q).1⟩, (loopR (itemN d) n.toNat [] q).2) := by
    intro F z q hF
    have := item_loop (k := 3) (n := n) (f := itemN d) (d := z) (F := F) (fun ag p => by rw [hF]; by_cases h1 : p.1 < n <;> by_cases h2 : p.2.1.e = 0 <;> simp [h1, h2]) (n.toNat + 1) 0 q [] (by omega)
    simpa using this
   by_cases hc : n > 1000
   ·simp [hc]; rw [if_neg hd2]; exact key _ fun ag p => rfl
   ·simp [hc]; rw [if_neg hd2]; exact key _ fun ag p => rfl
 by_cases k4 : k = 1
 ·subst k4; simp
 by_cases k5 : k = 2
 ·subst k5; simp
 omega
theorem Numbers_eqM (i : S_api_Item) : encode_Numbers i = if encode_Valid i = false then ([], 1) else if i.Kind ≠ 3 then ([], 3) else foldE (fun (a : S_api_Item) s => if (a.Kind != 1) = true then .inr (([] : List Int), (3 : Int)) else .inl (s ++ [a.N])) (fun s => (s, (0 : Int))) i.L [] := by
 unfold encode_Numbers
 simp only [letk]
 cases encode_Valid i
 ·simp
 by_cases hk : i.Kind = 3
 ·have : (i.Kind != 3) = false := by simp [hk]
  simp only [this, hk]
  rw [iter_run (l := i.L) (fun a s => if (a.Kind != 1) = true then .inr (([] : List Int), (3 : Int)) else .inl (s ++ [a.N])) (fun s => (s, (0 : Int))) (fun ag j s => by by_cases h : j < (i.L.length : Int) <;> by_cases h2 : (gt i.L j).Kind = 1 <;> simp [h, h2])]
  simp
 ·have : (i.Kind != 3) = true := by simpa using hk
  simp [this, hk]
theorem ints_len {x w : S_coin_writer} {l : List Int} (h : x = coin_writer_ints w l) : x.l.length = w.l.length + 1 := by
 rw [h]; simp [coin_writer_ints, letk]
theorem bytes_len {x w : S_coin_writer} {l : List Int} (h : x = coin_writer_bytes w l) : x.l.length = w.l.length + 1 := by
 rw [h]; simp [coin_writer_bytes, letk]
def intI (n : Int) : S_api_Item := ⟨1, n, [], []⟩
def intsI (l : List Int) : S_api_Item := ⟨3, 0, [], l.map intI⟩
def bytI (b : List Int) : S_api_Item := ⟨2, 0, b, []⟩
def listI (l : List S_api_Item) : S_api_Item := ⟨3, 0, [], l⟩
theorem Ints_eq (l : List Int) : encode_Ints l = intsI l := by
 unfold encode_Ints
 exact iter_map0 (E := fun p => listI p.2) intI (fun ag p => rfl)
theorem valid_eq (i : S_api_Item) : encode_Valid i = withinM i 8 := rfl
mutual
theorem within_mono : ∀ (i : S_api_Item) {d e : Int}, d ≤ e → withinM i d = true → withinM i e = true
 | ⟨k, n, b, l⟩, d, e, h, hw => by
  simp only [withinM] at hw ⊢
  by_cases e1 : k = 1
  ·subst e1; simpa using hw
  by_cases e2 : k = 2
  ·subst e2; simpa using hw
  by_cases e3 : k = 3
  ·subst e3
   simp at hw ⊢
   exact ⟨hw.1, hw.2.1, by omega, hw.2.2.2.1, within_monoL l (by omega) hw.2.2.2.2⟩
  ·simp [e1, e2, e3] at hw
theorem within_monoL : ∀ (l : List S_api_Item) {d e : Int}, d ≤ e → withinL l d = true → withinL l e = true
 | [], _, _, _, _ => rfl
 | x :: l, d, e, h, hw => by
  simp only [withinL, Bool.and_eq_true] at hw ⊢
  exact ⟨within_mono x h hw.1, within_monoL l h hw.2⟩
end
theorem within_list {l : List S_api_Item} {d : Int} (h : withinM (listI l) d = true) : l.length ≤ 1000 ∧ ∀ x ∈ l, withinM x (d - 1) = true := by
 simp only [listI, withinM] at h
 simp at h
 refine ⟨h.2.1, ?_⟩
 rw [withinL_all] at h
 exact List.all_eq_true.1 h.2.2
theorem within_kind3 {i : S_api_Item} {d : Int} (h : withinM i d = true) (hk : i.Kind = 3) : i = listI i.L := by
 obtain ⟨k, n, b, l⟩ := i
 simp only at hk
 subst hk
 simp [withinM] at h
 obtain ⟨rfl, rfl, _⟩ := h
 rfl
def readL {α : Type} (f : S_api_Item → Option α) : List S_api_Item → Option (List α)
 | [] => some []
 | x :: l => match f x with
  | none => none
  | some a => match readL f l with
   | none => none
   | some m => some (a :: m)
def optE {α β : Type} (z : β) (f : α → β) : Option α → β
 | none => z
 | some a => f a
theorem foldE_read {α R : Type} {f : S_api_Item → Option α} {E : List α → R} {z : R} : ∀ {l : List S_api_Item} {s : List α},
  foldE (fun a s => optE (.inr z) (fun y => .inl (s ++ [y])) (f a)) E l s = optE z (fun m => E (s ++ m)) (readL f l)
 | [], s => by simp [foldE, readL, optE]
 | a :: l, s => by
  simp only [foldE, readL]
  cases f a with
  | none => rfl
  | some y =>
   have ih := foldE_read (f := f) (E := E) (z := z) (l := l) (s := s ++ [y])
   refine ih.trans ?_
   cases readL f l <;> simp [optE]
def intF (a : S_api_Item) : Option Int := if a.Kind = 1 then some a.N else none
theorem Numbers_eq (i : S_api_Item) : encode_Numbers i = if withinM i 8 = false then ([], (1 : Int)) else if i.Kind ≠ 3 then ([], 3) else optE ([], (3 : Int)) (fun l => (l, 0)) (readL intF i.L) := by
 rw [Numbers_eqM, valid_eq]
 split
 ·rfl
 split
 ·rfl
 have : (fun (a : S_api_Item) (s : List Int) => if (a.Kind != 1) = true then Sum.inr (([] : List Int), (3 : Int)) else Sum.inl (s ++ [a.N])) = (fun a s => optE (.inr (([] : List Int), (3 : Int))) (fun y => .inl (s ++ [y])) (intF a)) := by
  funext a s
  unfold intF
  by_cases h : a.Kind = 1 <;> simp [h, optE]
 rw [this, foldE_read]
 rfl
theorem readL_map {α : Type} {f : S_api_Item → Option α} {g : α → S_api_Item} {n : α → α} : ∀ {m : List α}, (∀ a ∈ m, f (g a) = some (n a)) → readL f (m.map g) = some (m.map n)
 | [], _ => rfl
 | a :: m, h => by
  have := readL_map (m := m) (fun b hb => h b (by simp [hb]))
  simp only [List.map_cons, readL, h a (by simp), this]
theorem Numbers_ints {l : List Int} (h : withinM (intsI l) 8 = true) : encode_Numbers (intsI l) = (l, 0) := by
 rw [Numbers_eq, h]
 have : readL intF (l.map intI) = some (l.map id) := readL_map (fun a _ => by simp [intF, intI])
 simp [intsI] at this ⊢
 rw [this]; rfl
theorem arrN_arrN {α : Type} [Inhabited α] {l : List α} {n : Nat} : arrN n (arrN n l) = arrN n l := arrN_full arrN_len
theorem writer_ints_eq (w : S_coin_writer) (l : List Int) : coin_writer_ints w l = ⟨w.l ++ [intsI l]⟩ := by
 unfold coin_writer_ints
 simp only [letk, Ints_eq]
theorem writer_bytes_eq (w : S_coin_writer) (b : List Int) : coin_writer_bytes w b = ⟨w.l ++ [bytI b]⟩ := by
 unfold coin_writer_bytes
 simp only [letk]; rfl
def coinI (c : S_api_Coin) : S_api_Item := listI [intsI [c.Bank, c.Epoch, c.Denom, c.Depth, c.A], bytI (arrN 32 c.Root), intsI [c.Sign.Z, c.Sign.A, c.Sign.B, c.Sign.R]]
theorem coinItem_eq (c : S_api_Coin) : coin_Item c = coinI c := by
 unfold coin_Item
 simp only [letk, writer_ints_eq, writer_bytes_eq]
 rfl
theorem within_of_list {l : List S_api_Item} {d : Int} (h : withinM (listI l) d = true) (hd : d ≤ 9) : ∀ x ∈ l, withinM x 8 = true := fun x hx => within_mono x (by omega) ((within_list h).2 x hx)
def normC (c : S_api_Coin) : S_api_Coin := { c with Root := arrN 32 c.Root }
theorem coin_fwd {c : S_api_Coin} (h : withinM (coinI c) 8 = true) : coin_FromItem (coinI c) = (normC c, 0) := by
 have hs := within_of_list h (by omega)
 have n0 := Numbers_ints (hs _ (by simp : intsI [c.Bank, c.Epoch, c.Denom, c.Depth, c.A] ∈ _))
 have n2 := Numbers_ints (hs _ (by simp : intsI [c.Sign.Z, c.Sign.A, c.Sign.B, c.Sign.R] ∈ _))
 unfold coin_FromItem
 simp only [letk, valid_eq, h]
 have g0 : gt (coinI c).L 0 = intsI [c.Bank, c.Epoch, c.Denom, c.Depth, c.A] := rfl
 have g1 : gt (coinI c).L 1 = bytI (arrN 32 c.Root) := rfl
 have g2 : gt (coinI c).L 2 = intsI [c.Sign.Z, c.Sign.A, c.Sign.B, c.Sign.R] := rfl
 simp only [g0, g1, g2, n0, n2]
 simp [coinI, listI, bytI, arrN_len, arrN_arrN, normC, gt]
theorem n33 : ¬ (((3 : Int) != 3) = true) := by decide
theorem n11 : ¬ (((1 : Int) != 1) = true) := by decide
theorem letk_go {α β : Type} {a : α} {f : α → β} {r : β} (h : ∀ x, x = a → f x = r) : letk a f = r := h a rfl
theorem hgt_ints {l : List Int} : hgt (intsI l) = 1 + l.length := by
 have : ∀ l : List Int, hgtL (l.map intI) = l.length := by
  intro l
  induction l with
  | nil => rfl
  | cons a l ih => simp [hgtL, ih, intI, hgt]; omega
 simp [intsI, hgt, this]
theorem Valid_sub {i : S_api_Item} {x : Bool} (h : x = encode_Valid i) : x = false ∨ ∀ y ∈ i.L, y.L.length ≤ 1000 := by
 cases x with
 | false => exact .inl rfl
 | true =>
  right
  rw [valid_eq] at h
  intro y hy
  have hw : withinM i 8 = true := h.symm
  have hk : i.Kind = 3 := by
   obtain ⟨k, n, b, l⟩ := i
   simp only [withinM] at hw
   by_cases e1 : k = 1
   ·subst e1; simp at hw; obtain ⟨_, rfl⟩ := hw; cases hy
   by_cases e2 : k = 2
   ·subst e2; simp at hw; obtain ⟨_, rfl⟩ := hw; cases hy
   by_cases e3 : k = 3
   ·exact e3
   ·simp [e1, e2, e3] at hw
  have ei := within_kind3 hw hk
  have hy8 := within_of_list (ei ▸ hw) (by omega) y hy
  obtain ⟨k, n, b, l⟩ := y
  simp only [withinM] at hy8
  by_cases e1 : k = 1
  ·subst e1; simp at hy8; obtain ⟨_, rfl⟩ := hy8; simp
  by_cases e2 : k = 2
  ·subst e2; simp at hy8; obtain ⟨_, rfl⟩ := hy8; simp
  by_cases e3 : k = 3
  ·subst e3; simp at hy8; exact hy8.2.2.1
  ·simp [e1, e2, e3] at hy8
theorem sub_gt {x : Bool} {l : List S_api_Item} {j : Int} (h : x = false ∨ ∀ y ∈ l, y.L.length ≤ 1000) (hx : x = true) (hj : j.toNat < l.length) : (gt l j).L.length ≤ 1000 := by
 rcases h with h | h
 ·rw [hx] at h; cases h
 ·exact h _ (gt_mem hj)
theorem specieref07_valid_eqM {i : S_api_Item} {w : Int} (h0 : 0 ≤ w) (h1 : w ≤ 8) : specieref07_valid i w = rvalidM i w := by
 obtain ⟨k, n, b, l⟩ := i
 unfold specieref07_valid
 simp only [letk]
 rw [iter_allL (l := l) (c := fun x => rvalidM x (w + 1)) (X := true) (fun ag p => by simp only [notif])]
 unfold rvalidM
 simp only [withinM, withinL_all]
 have e : (8 : Int) - (w + 1) = 8 - w - 1 := by omega
 simp only [e, Bool.and_true]
 by_cases k1 : k = 1
 ·subst k1; cases b <;> cases l <;> simp <;> omega
 by_cases k2 : k = 2
 ·subst k2; by_cases hn : n = 0 <;> cases l <;> simp [hn] <;> omega
 by_cases k3 : k = 3
 ·subst k3
  by_cases hn : n = 0
  ·cases b with
   | nil =>
    by_cases hl : (l.length : Int) > 1000
    ·have : ¬ l.length ≤ 1000 := by omega
     simp [hn, hl, this]
    ·have hl' : l.length ≤ 1000 := by omega
     by_cases hw : w = 8
     ·subst hw; simp [hn]
     ·have : (0 : Int) < 8 - w := by omega
      have hw8 : w < 8 := by omega
      simp [hn, hl, hl', hw, hw8]
   | cons x b =>
    have : ¬ ((b.length : Int) + 1 = 0) := by omega
    simp [hn, this]
  ·simp [hn]
 ·simp [k1, k2, k3]
theorem gt_arr' {α : Type} [Inhabited α] {l : List α} {n : Nat} {i : Int} (h : i.toNat < n) : gt (arrN n l) i = gt l i := by
 have := arrF_get (l := l) (k := n) (i := 0) (j := i.toNat) h
 unfold arrN
 rw [show gt (arrF l n 0) i = (arrF l n ((0 : Nat) : Int)).getD i.toNat default from rfl, this]
 unfold gt
 congr 1; omega
theorem rBytes_eq (h : List Int) : specieref31_Bytes h = bytI (arrN 32 h) := by
 unfold specieref31_Bytes
 have := iter_map0 (fun x : Int => x) (l := arrN 32 h) (d := fun _ => default) (E := fun p => bytI p.2) (F := fun (ag1 : (Int × List Int) → S_api_Item) (p1 : Int × List Int) => (if (decide (p1.1 < 32)) then (ag1 ((p1.1 + 1), (p1.2 ++ ([(gt h p1.1)] : List Int)))) else bytI p1.2)) (fun ag p => by
  rw [arrN_len]
  by_cases hp : p.1 < 32
  ·have h1 : p.1.toNat < 32 := by omega
   simp [hp, gt_arr' h1]
  ·simp [hp])
 rw [arrN_len] at this
 rw [List.map_id'] at this
 exact this
theorem rInts_eq (l : List Int) : specieref31_Ints l = intsI l := by
 unfold specieref31_Ints
 exact iter_map0 (E := fun p => listI p.2) intI (fun ag p => rfl)
theorem rcoin_eq (c : S_api_Coin) : specieref31_Item c = coinI c := by
 unfold specieref31_Item
 simp only [letk, rInts_eq, rBytes_eq]; rfl
theorem hash_loop {B : List Int} (hB : B.length = 32) {F : (Int × List Int → List Int × Bool) → Int × List Int → List Int × Bool} {d : Int × List Int → List Int × Bool}
  (hF : ∀ ag p, F ag p = if decide (p.1 < 32) = true then ag (p.1 + 1, arrN 32 (st (arrN 32 p.2) p.1 (gt B p.1))) else (p.2, true)) :
  ∀ (m fuel k : Nat), k + m = 32 → m < fuel → ∀ a : List Int, a.length = 32 → a.take k = B.take k → iter fuel F d ((k : Int), a) = (B, true)
 | 0, fuel, k, hk, hf, a, ha, he => by
  obtain ⟨f, rfl⟩ : ∃ f, fuel = f + 1 := ⟨fuel - 1, by omega⟩
  have : ¬ (k : Int) < 32 := by omega
  rw [iter, hF]
  rw [List.take_of_length_le (by omega), List.take_of_length_le (by omega)] at he
  simp [this, he]
 | m + 1, fuel, k, hk, hf, a, ha, he => by
  obtain ⟨f, rfl⟩ : ∃ f, fuel = f + 1 := ⟨fuel - 1, by omega⟩
  have : (k : Int) < 32 := by omega
  rw [iter, hF, if_pos (by simpa using this)]
  have e : arrN 32 (st (arrN 32 a) (k : Int) (gt B (k : Int))) = a.set k (gt B (k : Int)) := by
   rw [arrN_full ha, arrN_full (by rw [st_len]; exact ha)]; rfl
  simp only [e]
  rw [show ((k : Int) + 1) = ((k + 1 : Nat) : Int) from rfl]
  refine hash_loop hB hF m f (k + 1) (by omega) (by omega) _ (by simp [ha]) ?_
  have hkB : k < B.length := by omega
  have hka : k < a.length := by omega
  rw [List.take_succ_eq_append_getElem hkB, List.take_succ_eq_append_getElem (by simp [hka])]
  rw [List.take_set_of_le (Nat.le_refl k), he]
  simp [gt, List.getD_eq_getElem?_getD, hkB]
theorem rHash_eq (i : S_api_Item) : specieref31_Hash i = spend_hash i := by
 rw [spend_hash_eq]
 unfold specieref31_Hash
 by_cases h1 : i.Kind = 2
 ·by_cases h2 : i.B.length = 32
  ·have h3 : ¬ ((i.B.length : Int) != 32) = true := by simp [h2]
   rw [if_neg (by simp [h1]), if_neg h3]
   have := hash_loop (d := fun _ => default) h2 (fun ag p => rfl) 32 33 0 rfl (by omega) [0, 0, 0, 0, 0, 0, 0, 0, 0, 0, 0, 0, 0, 0, 0, 0, 0, 0, 0, 0, 0, 0, 0, 0, 0, 0, 0, 0, 0, 0, 0, 0] rfl (by simp)
   rw [show (((32 : Int) - 0).toNat + 1) = 33 from rfl]
   refine Eq.trans this ?_
   simp [h1, h2, arrN_full h2]
  ·have : ¬ (i.B.length : Int) = 32 := by omega
   simp [h1, h2, this]
 ·simp [h1]
theorem rNumbers_eq (i : S_api_Item) (n : Int) : specieref31_Numbers i n = if i.Kind ≠ 3 ∨ (i.L.length : Int) ≠ n then ([], false) else foldE (fun x o => if x.Kind ≠ 1 then .inr ([], false) else .inl (o ++ [x.N])) (fun o => (o, true)) i.L [] := by
 unfold specieref31_Numbers
 by_cases h1 : i.Kind = 3
 ·by_cases h2 : (i.L.length : Int) = n
  ·subst h2
   have := iter_run (l := i.L) (d := fun _ => default) (fun x o => if x.Kind ≠ 1 then .inr (([] : List Int), false) else .inl (o ++ [x.N])) (fun o => (o, true)) (F := fun (ag3 : (Int × List Int) → ((List Int) × Bool)) (p3 : Int × List Int) => (if (decide (p3.1 < (i.L.length : Int))) then (if ((gt i.L p3.1).Kind != 1) then (([] : List Int), false) else (ag3 ((p3.1 + 1), (p3.2 ++ ([(gt i.L p3.1).N] : List Int))))) else (p3.2, true))) (s := []) (fun ag j s => by
    simp only [decide_eq_true_eq, bne_iff_ne, ne_eq]
    by_cases hj : j < (i.L.length : Int)
    ·by_cases hk : (gt i.L j).Kind = 1 <;> simp [hj, hk]
    ·simp [hj])
   simp only [h1, bne_self_eq_false, Bool.false_eq_true, if_false]
   rw [this]; simp
  ·simp [h1, h2]
 ·simp [h1]
theorem rNum_fold : ∀ {l : List S_api_Item} {o : List Int}, (foldE (fun x o => if x.Kind ≠ 1 then .inr (([] : List Int), false) else .inl (o ++ [x.N])) (fun o => (o, true)) l o).2 = false ∨ (foldE (fun x o => if x.Kind ≠ 1 then .inr (([] : List Int), false) else .inl (o ++ [x.N])) (fun o => (o, true)) l o).1.length = o.length + l.length
 | [], o => .inr (by simp [foldE])
 | x :: l, o => by
  by_cases h : x.Kind = 1
  ·have := rNum_fold (l := l) (o := o ++ [x.N])
   simp only [foldE, h, ne_eq, not_true_eq_false, if_false]
   rcases this with h1 | h1
   ·exact .inl h1
   ·exact .inr (by rw [h1]; simp; omega)
  ·exact .inl (by simp [foldE, h])
theorem rNum_len {i : S_api_Item} {n : Int} {x : List Int × Bool} (h : x = specieref31_Numbers i n) : x.2 = false ∨ (x.1.length : Int) = n := by
 rw [rNumbers_eq] at h
 split at h
 ·rw [h]; exact .inl rfl
 ·rename_i hc
  have h2 : (i.L.length : Int) = n := by
   by_cases h3 : (i.L.length : Int) = n
   ·exact h3
   ·exact absurd (.inr h3) hc
  rcases rNum_fold (l := i.L) (o := []) with h1 | h1
  ·rw [h]; exact .inl h1
  ·rw [h]; right; rw [h1]; simp; omega
instance rNum_cf {i : S_api_Item} {n : Int} : CF (specieref31_Numbers i n) (fun x => x.2 = true → (x.1.length : Int) = n) := ⟨fun h => (rNum_len rfl).resolve_left (by rw [h]; decide)⟩
theorem readL_len {α : Type} {f : S_api_Item → Option α} : ∀ {l : List S_api_Item} {m : List α}, readL f l = some m → m.length = l.length
 | [], m, h => by cases h; rfl
 | x :: l, m, h => by
  simp only [readL] at h
  cases hx : f x with
  | none => rw [hx] at h; cases h
  | some a =>
   rw [hx] at h
   cases hl : readL f l with
   | none => rw [hl] at h; cases h
   | some m' =>
    rw [hl] at h; cases h
    simp [readL_len hl]
theorem rNum {i : S_api_Item} (n : Int) (hv : withinM i 8 = true) : specieref31_Numbers i n = if (encode_Numbers i).2 = 0 ∧ ((encode_Numbers i).1.length : Int) = n then ((encode_Numbers i).1, true) else ([], false) := by
 have hs : (fun (x : S_api_Item) (o : List Int) => if x.Kind ≠ 1 then Sum.inr (([] : List Int), false) else Sum.inl (o ++ [x.N])) = (fun a s => optE (.inr (([] : List Int), false)) (fun y => .inl (s ++ [y])) (intF a)) := by
  funext a s
  unfold intF
  by_cases h : a.Kind = 1 <;> simp [h, optE]
 rw [rNumbers_eq, Numbers_eq, hv, hs, foldE_read]
 by_cases h1 : i.Kind = 3
 ·cases hr : readL intF i.L with
  | none => simp [h1, optE]
  | some m =>
   have := readL_len hr
   simp only [h1, optE, List.nil_append]
   by_cases h2 : (i.L.length : Int) = n
   ·simp [h2, this]
   ·simp [h2, this]
 ·simp [h1]
theorem sub_valid {i : S_api_Item} (hv : withinM i 8 = true) (h1 : i.Kind = 3) {j : Int} (hj : j.toNat < i.L.length) : withinM (gt i.L j) 8 = true := by
 have ei := within_kind3 hv h1
 exact within_mono _ (by omega) ((within_list (ei ▸ hv)).2 _ (gt_mem hj))
theorem rCoin {i : S_api_Item} (hv : withinM i 8 = true) : specieref31_FromItem i = ((coin_FromItem i).1, decide ((coin_FromItem i).2 = 0)) := by
 unfold specieref31_FromItem coin_FromItem
 simp only [letk, valid_eq, hv, rHash_eq, spend_hash_eq]
 by_cases h1 : i.Kind = 3
 ·by_cases h2 : (i.L.length : Int) = 3
  ·have v0 := sub_valid hv h1 (j := 0) (by omega)
   have v2 := sub_valid hv h1 (j := 2) (by omega)
   rw [rNum 5 v0, rNum 4 v2]
   generalize encode_Numbers (gt i.L 0) = P
   generalize encode_Numbers (gt i.L 2) = Q
   obtain ⟨p, e⟩ := P
   obtain ⟨q, f⟩ := Q
   by_cases a1 : e = 0
   ·by_cases a2 : (p.length : Int) = 5
    ·by_cases a3 : (gt i.L 1).Kind = 2
     ·by_cases a4 : (gt i.L 1).B.length = 32
      ·by_cases a5 : f = 0
       ·by_cases a6 : (q.length : Int) = 4
        ·simp [h1, h2, a1, a2, a3, a4, a5, a6]
        ·simp [h1, h2, a1, a2, a3, a4, a5, a6]
       ·simp [h1, h2, a1, a2, a3, a4, a5]
      ·have : ¬ ((gt i.L 1).B.length : Int) = 32 := by omega
       by_cases a5 : f = 0 <;> by_cases a6 : (q.length : Int) = 4 <;> simp [h1, h2, a1, a2, a3, a4, a5, a6, this]
     ·by_cases a5 : f = 0 <;> by_cases a6 : (q.length : Int) = 4 <;> simp [h1, h2, a1, a2, a3, a5, a6]
    ·by_cases a5 : f = 0 <;> simp [h1, h2, a1, a2, a5]
   ·simp [h1, h2, a1]
  ·simp [h1, h2]
 ·simp [h1]
theorem gt_arrN {α : Type} [Inhabited α] {l : List α} {n : Nat} {i : Int} (h0 : 0 ≤ i) (h : i.toNat < n) : gt (arrN n l) i = gt l i := by
 have := arrF_get (l := l) (k := n) (i := 0) (j := i.toNat) h
 unfold arrN
 rw [show gt (arrF l n 0) i = (arrF l n ((0 : Nat) : Int)).getD i.toNat default from rfl, this]
 congr 1; omega
theorem same_loop {n : Int} {C : Int → Bool} {X : Bool} {F : (Int → Bool) → Int → Bool} {d : Int → Bool} (hF : ∀ ag p, F ag p = if decide (p < n) = true then (if C p = true then ag (p + 1) else false) else X)
  (hC : ∀ p, 0 ≤ p → p < n → C p = true) (hX : X = true) : iter ((n - 0).toNat + 1) F d 0 = true :=
 (iter_allX hF _ 0 (by omega)).2 ⟨hC, hX⟩
end Go.Proofs.YtjnikknlcmbcmaaGreatDoor
namespace Go.Proofs.YtjnikknlcmbcmaaGreatDoor
open Go.RowKit
set_option linter.unusedVariables false
set_option linter.unusedSimpArgs false
theorem sameL_iff : ∀ {l m : List S_api_Item}, sameL l m = true ↔ l.length = m.length ∧ ∀ j : Int, 0 ≤ j → j < l.length → sameM (gt l j) (gt m j) = true
 | [], [] => by simp [sameL]; intro j h0 h1; omega
 | [], y :: m => by simp [sameL]
 | x :: l, [] => by simp [sameL]
 | x :: l, y :: m => by
  simp only [sameL, Bool.and_eq_true, sameL_iff (l := l), List.length_cons]
  constructor
  ·rintro ⟨h1, h2, h3⟩
   refine ⟨by omega, fun j h0 hj => ?_⟩
   by_cases hz : j = 0
   ·subst hz; exact h1
   ·have := h3 (j - 1) (by omega) (by omega)
    rw [gt_conss (by omega), gt_conss (by omega)]; exact this
  ·rintro ⟨h1, h2⟩
   refine ⟨by simpa [gt_cons0] using h2 0 (by omega) (by omega), by omega, fun j h0 hj => ?_⟩
   have := h2 (j + 1) (by omega) (by omega)
   rwa [gt_conss (by omega), gt_conss (by omega), Int.add_sub_cancel] at this
theorem specieref07_Same_eqM (a b : S_api_Item) : specieref07_Same a b = sameM a b := by
 obtain ⟨k, n, x, l⟩ := a
 obtain ⟨k', n', x', l'⟩ := b
 unfold specieref07_Same
 simp only [sameM, letk]
 by_cases h1 : k = k'
 ·by_cases h2 : n = n'
  ·by_cases h3 : x.map u8N = x'.map u8N
   ·by_cases h4 : l.length = l'.length
    ·simp only [h1, h2, h3, h4, bne_self_eq_false, Bool.false_eq_true, if_false, beq_self_eq_true, Bool.not_true, Bool.true_and]
     rw [Bool.eq_iff_iff, sameL_iff]
     refine (iter_allX (C := fun j => sameM (gt l j) (gt l' j)) (n := (l'.length : Int)) (X := true) (fun ag p => ?_) _ 0 (by omega)).trans ?_
     ·by_cases hp : decide (p < (l'.length : Int)) = true
      ·rw [if_pos hp, if_pos hp]
       cases sameM (gt l p) (gt l' p) <;> rfl
      ·rw [if_neg hp, if_neg hp]
     ·simp only [and_true, h4, true_and]
    ·have : ¬ (l.length : Int) = l'.length := by omega
     have e : sameL l l' = false := by
      rw [Bool.eq_false_iff]; intro h; exact h4 (sameL_iff.1 h).1
     simp [h1, h2, h3, this, e]
   ·simp [h1, h2, h3]
  ·simp [h1, h2]
 ·simp [h1]
theorem count_loop {l : List S_api_Item} {most : Int} {F : (Int × Int → Int) → Int × Int → Int} {d : Int × Int → Int}
  (hF : ∀ ag p, F ag p = if decide (p.2 < (l.length : Int)) = true then (if decide (p.1 < most) = true then ag (addI .i64 p.1 (countM (gt l p.2) (subI .i64 most p.1)), p.2 + 1) else p.1) else p.1) :
  ∀ (fuel k : Nat) (n : Int), k ≤ l.length → l.length - k < fuel → iter fuel F d (n, (k : Int)) = countL (l.drop k) n most
 | 0, k, n, _, h => by omega
 | fuel + 1, k, n, hk, h => by
  rw [iter, hF]
  by_cases hlt : k < l.length
  ·rw [if_pos (by simpa using hlt), List.drop_eq_getElem_cons hlt]
   simp only [countL]
   have e : gt l (k : Int) = l[k] := gt_at hlt
   by_cases hm : n < most
   ·rw [if_pos (by simpa using hm), if_pos hm]
    have e1 : (k : Int) + 1 = ((k + 1 : Nat) : Int) := rfl
    simp only [e1, e]
    exact count_loop hF fuel (k + 1) _ (by omega) (by omega)
   ·rw [if_neg (by simpa using hm), if_neg hm]
  ·rw [if_neg (by simpa using hlt), List.drop_eq_nil_of_le (by omega)]
   simp [countL]
theorem specieref07_Count_eqM (i : S_api_Item) (most : Int) : specieref07_Count i most = countM i most := by
 obtain ⟨k, n, b, l⟩ := i
 unfold specieref07_Count
 simp only [countM, letk]
 refine (count_loop (l := l) (most := most) (fun ag p => rfl) _ 0 1 (by omega) (by show _ < ((l.length : Int) - 0).toNat + 1; omega)).trans ?_
 rw [List.drop_zero]
end Go.Proofs.YtjnikknlcmbcmaaGreatDoor
namespace Go.Proofs.YtjnikknlcmbcmaaGreatDoor
open Go.RowKit
theorem elt_ints {k : IntKind} {l : List Int} {i : Int} : elt (l.map (V.int k)) i.toNat (V.int k 0) = V.int k (gt l i) := by
 unfold elt gt
 simp only [List.getD_eq_getElem?_getD, List.getElem?_map]
 cases l[i.toNat]? <;> rfl
@[go_sem] theorem elt_lit8 {k : IntKind} {a b c d e f g a' i : Int} : elt [V.int k a, V.int k b, V.int k c, V.int k d, V.int k e, V.int k f, V.int k g, V.int k a'] i.toNat (V.int k 0) = V.int k (gt [a, b, c, d, e, f, g, a'] i) := elt_ints (l := [a, b, c, d, e, f, g, a'])
theorem pos_len {d : S_api_Draw} {x : List Int} (hx : x = draw_position d) : x.length ≤ 40 := by
 subst hx
 unfold draw_position
 refine iter_rule (P := fun (a : Int × List Int) => -8 ≤ a.1 ∧ a.1 ≤ 56 ∧ 8 * (a.2.length : Int) + a.1 = 312) (Q := fun r : List Int => r.length ≤ 40) (meas := fun a => (a.1 + 8).toNat) ?_ _ _ ⟨(by decide : (-8 : Int) ≤ 56), (by decide : (56 : Int) ≤ 56), ?_⟩ (show ((56 : Int) + 8).toNat < ((56 : Int) + 8).toNat + 1 by decide)
 ·rintro ag ⟨i, l⟩ ⟨g0, g1, g2⟩ hag
  simp only at g0 g1 g2 hag ⊢
  by_cases hi : i ≥ 0
  ·rw [if_pos (by simpa using hi)]
   exact hag _ ⟨by simp only; omega, by simp only; omega, by simp only [List.length_append, List.length_cons, List.length_nil]; omega⟩ (by simp only; omega)
  ·rw [if_neg (by simpa using hi)]; omega
 ·simp only [List.length_append, arrN_len, List.length_nil]; omega
theorem check_rng {d : S_api_Draw} {n low high x : Int} (hx : x = draw_check d n low high) : x ≠ 0 ∨ (0 ≤ d.Counter ∧ d.Counter ≤ 1099511627776 ∧ low ≤ n ∧ n ≤ high) := by
 subst hx
 unfold draw_check draw_Valid
 simp only [letk]
 repeat' split
 all_goals first | (left; decide) | (right; simp_all) | (right; simp_all; omega)
theorem shl_dep {d : Int} : d < 0 ∨ 5 < d ∨ (1 ≤ shlI .i64 1 d ∧ shlI .i64 1 d ≤ 32) := by
 by_cases h0 : d < 0
 ·exact .inl h0
 by_cases h1 : 5 < d
 ·exact .inr (.inl h1)
 right; right
 rcases (show d = 0 ∨ d = 1 ∨ d = 2 ∨ d = 3 ∨ d = 4 ∨ d = 5 by omega) with h | h | h | h | h | h <;> subst h <;> decide
theorem list_len {d : S_api_Draw} {q : Int} {x : S_api_Draw × List Int × Int} (hx : x = draw_List d q 2) : x.2.2 ≠ 0 ∨ x.2.1.length = 2 := by
 subst hx
 unfold draw_List
 show (fun r : S_api_Draw × List Int × Int => r.2.2 ≠ 0 ∨ r.2.1.length = 2) (letj _ _)
 generalize draw_check d q 1 2305843009213693951 = x1
 have hj : ∀ p4 : Int, (fun r : S_api_Draw × List Int × Int => r.2.2 ≠ 0 ∨ r.2.1.length = 2) (if (p4 != 0) = true then (z_api_Draw, ([] : List Int), p4) else (iter (((2 : Int) - 0).toNat + 1) (fun (ag8 : (Int × S_draw_source × List Int) → (S_api_Draw × (List Int) × Int)) (p8 : Int × S_draw_source × List Int) => (if (decide (p8.1 < 2)) = true then (letk (draw_source_number (p8.2.1) q) (fun (x11 : (Int × S_draw_source)) => (ag8 ((p8.1 + 1), x11.2, (p8.2.2 ++ ([x11.1] : List Int)))))) else (letk (draw_source_result (p8.2.1)) (fun (x15 : (S_api_Draw × Int × S_draw_source)) => (if (x15.2.1 != 0) = true then (z_api_Draw, ([] : List Int), x15.2.1) else (x15.1, p8.2.2, 0)))))) (fun _ => default) (0, ({ d := d, full := false } : S_draw_source), ([] : List Int)))) := by
  intro p4
  split
  ·rename_i h; left; simpa using h
  ·refine iter_rule (P := fun (a : Int × S_draw_source × List Int) => 0 ≤ a.1 ∧ a.1 ≤ 2 ∧ (a.2.2.length : Int) = a.1) (Q := fun r : S_api_Draw × List Int × Int => r.2.2 ≠ 0 ∨ r.2.1.length = 2) (meas := fun a => (2 - a.1).toNat) ?_ _ _ ?_ ?_
   rotate_left
   ·exact ⟨Int.le_refl _, show (0 : Int) ≤ 2 by decide, rfl⟩
   ·show ((2 : Int) - 0).toNat < ((2 : Int) - 0).toNat + 1
    decide
   rintro ag ⟨i, s, l⟩ ⟨g0, g1, g2⟩ hag
   simp only at g0 g1 g2 hag ⊢
   by_cases hi : i < 2
   ·rw [if_pos (by simpa using hi)]
    exact hag _ ⟨by simp only; omega, by simp only; omega, by simp only [List.length_append, List.length_cons, List.length_nil]; omega⟩ (by simp only; omega)
   ·rw [if_neg (by simpa using hi)]
    simp only [letk]
    split
    ·rename_i h; left; simpa using h
    ·right; simp only; omega
 by_cases hx : (x1 == 0) = true
 ·show (fun r : S_api_Draw × List Int × Int => r.2.2 ≠ 0 ∨ r.2.1.length = 2) (if (x1 == 0) = true then _ else _)
  rw [if_pos hx]
  exact hj _
 ·show (fun r : S_api_Draw × List Int × Int => r.2.2 ≠ 0 ∨ r.2.1.length = 2) (if (x1 == 0) = true then _ else _)
  rw [if_neg hx]
  exact hj _
theorem hgt_eInts {l : List Int} {x : S_api_Item} (hx : x = encode_Ints l) : hgt x = 1 + l.length := by subst hx; rw [Ints_eq, hgt_ints]
theorem len64_nn {x y : Int} (hx : x = math_bits_Len64 y) : 0 ≤ x := by subst hx; unfold math_bits_Len64; omega
theorem Numbers_le {i : S_api_Item} {x : List Int × Int} (hx : x = encode_Numbers i) : x.1.length ≤ 1000 := by
 subst hx
 rw [Numbers_eq]
 cases hv : withinM i 8 with
 | false => simp
 | true =>
 rw [if_neg (by decide)]
 by_cases hk : i.Kind = 3
 ·rw [if_neg (by simp [hk])]
  have hl := (within_list (within_kind3 hv hk ▸ hv)).1
  cases hr : readL intF i.L with
  | none => simp [optE]
  | some m => have := readL_len hr; simp only [optE]; omega
 ·rw [if_pos hk]; simp
def le4 (l : List (List Int)) : Prop := ∀ j : Int, (gt l j).length ≤ 1000
theorem le4_nil : le4 [[], [], [], []] := fun j => by
 have : ∀ n : Nat, (([[], [], [], []] : List (List Int)).getD n default).length = 0 := by
  intro n
  match n with
  | 0 | 1 | 2 | 3 => rfl
  | n + 4 => rfl
 show ((([[], [], [], []] : List (List Int)).getD j.toNat default)).length ≤ 1000
 rw [this]; omega
theorem le4_st {l : List (List Int)} {k : Int} {m : List Int} (h : le4 l) (hm : m.length ≤ 1000) : le4 (arrN 4 (st (arrN 4 l) k m)) := fun j => by
 have key : ∀ (n : Nat) (L : List (List Int)), (∀ x ∈ L, x.length ≤ 1000) → (L.getD n default).length ≤ 1000 := by
  intro n L hL
  by_cases hn : n < L.length
  ·rw [List.getD_eq_getElem?_getD, List.getElem?_eq_getElem hn]; exact hL _ (List.getElem_mem hn)
  ·rw [List.getD_eq_getElem?_getD, List.getElem?_eq_none (by omega)]; decide
 have ha : ∀ x ∈ arrN 4 l, x.length ≤ 1000 := by
  intro x hx
  have e : arrN 4 l = [gt l 0, gt l 1, gt l 2, gt l 3] := rfl
  rw [e] at hx
  simp only [List.mem_cons, List.not_mem_nil, or_false] at hx
  rcases hx with rfl | rfl | rfl | rfl <;> exact h _
 have hs : ∀ x ∈ st (arrN 4 l) k m, x.length ≤ 1000 := by
  intro x hx
  unfold st at hx
  rcases List.mem_or_eq_of_mem_set hx with h1 | h1
  ·exact ha x h1
  ·rw [h1]; exact hm
 refine key _ _ fun x hx => ?_
 have e : ∀ L : List (List Int), arrN 4 L = [gt L 0, gt L 1, gt L 2, gt L 3] := fun _ => rfl
 rw [e] at hx
 simp only [List.mem_cons, List.not_mem_nil, or_false] at hx
 rcases hx with rfl | rfl | rfl | rfl <;> exact key _ _ hs
theorem rvalid8 (i : S_api_Item) : specieref07_Valid i = withinM i 8 := by
 unfold specieref07_Valid
 simp only [letk, rvalidM]
 rfl
theorem rValid_sub {i : S_api_Item} {x : Bool} (h : x = specieref07_Valid i) : x = false ∨ ∀ y ∈ i.L, y.L.length ≤ 1000 := by
 rw [rvalid8] at h
 exact Valid_sub (i := i) (by rw [h, valid_eq])
theorem rnums_le {i : S_api_Item} {x : List Int × Bool} (hx : x = specieref37_numbers i) : x.1.length ≤ i.L.length := by
 subst hx
 unfold specieref37_numbers
 split
 ·simp
 ·refine iter_rule (P := fun (a : Int × List Int) => 0 ≤ a.1 ∧ a.1 ≤ i.L.length ∧ (a.2.length : Int) = a.1) (Q := fun r : List Int × Bool => r.1.length ≤ i.L.length) (meas := fun a => ((i.L.length : Int) - a.1).toNat) ?_ _ _ ?_ ?_
  rotate_left
  ·exact ⟨Int.le_refl _, show (0 : Int) ≤ (i.L.length : Int) by omega, rfl⟩
  ·show ((i.L.length : Int) - 0).toNat < ((i.L.length : Int) - 0).toNat + 1
   omega
  rintro ag ⟨k, l⟩ ⟨g0, g1, g2⟩ hag
  simp only at g0 g1 g2 hag ⊢
  by_cases hi : k < (i.L.length : Int)
  ·rw [if_pos (by simpa using hi)]
   split
   ·simp
   ·exact hag _ ⟨by simp only; omega, by simp only; omega, by simp only [List.length_append, List.length_cons, List.length_nil]; omega⟩ (by simp only; omega)
  ·rw [if_neg (by simpa using hi)]; simp only; omega
instance few_cf (w : S_api_Withdrawal) : CF (specielaw37_few w) (fun x => x = true → w.Secret.X.length ≤ 40) := ⟨fun h => by
 simp [specielaw37_few] at h
 omega⟩
theorem denom_one (d : S_api_Denom) : denom_Valid [d] = denom_single d := by
 unfold denom_Valid
 rw [if_neg (by simp), if_neg (by simp)]
 show iter 2 _ _ 0 = _
 simp only [iter, letk]
 cases hx : denom_single d with
 | true => simp [gt, hx]
 | false => simp [gt, hx]
theorem single_dep {d : S_api_Denom} (h : denom_single d = true) : 0 ≤ d.Depth ∧ d.Depth ≤ 5 := by
 unfold denom_single at h
 split at h
 ·rename_i h1
  simp only [q_api_Denom, z_api_Denom, Bool.and_eq_true, beq_iff_eq] at h1
  omega
 ·repeat' (split at h)
  all_goals first | cases h | (simp only [decide_eq_true_eq] at *; omega)
instance epoch_cf (b : S_api_Bases) (r : S_api_KeyRecord) : CF (epoch_Valid b r) (fun x => x = true → 0 ≤ r.Depth ∧ r.Depth ≤ 5) := ⟨fun h => by
 unfold epoch_Valid at h
 simp only [letk, denom_one] at h
 repeat' (split at h)
 all_goals first | cases h | (simp only [beq_iff_eq] at *; omega) | exact single_dep (by assumption)⟩
end Go.Proofs.YtjnikknlcmbcmaaGreatDoor
