/- Texts of this proof, one after the other: M, L0, H1. -/
import Derived.Test.YteolfhljhnplpaaZ3
import Derived.KernelRfl
set_option linter.unusedVariables false
set_option linter.unusedSimpArgs false
namespace Go.Proofs.Yteolfhljhnplpaa
open Go.RowKit
def denom_single (d_ : S_api_Denom) : Bool :=
 (if (q_api_Denom d_ z_api_Denom) then true else (if (decide (d_.Value ≥ 1)) then (if (decide (d_.Value ≤ 1099511627776)) then (if (decide (d_.Depth ≥ 0)) then (if (decide (d_.Depth ≤ 5)) then ((remI .i64 d_.Value (shlI .i64 1 d_.Depth)) == 0) else false) else false) else false) else false))
def denom_Valid (l : (List S_api_Denom)) : Bool :=
 (if (decide ((l.length : Int) < 1)) then false else (if (decide ((l.length : Int) > 16)) then false else (iter (((l.length : Int) - 0).toNat + 1) (fun (ag3 : Int → Bool) (p3 : Int) => (if (decide (p3 < (l.length : Int))) then (letk (denom_single (gt l p3)) (fun (x6 : Bool) => (if (!x6) then false else (if (decide (p3 > 0)) then (if (decide ((gt l p3).Value < (gt l (p3 - 1)).Value)) then false else (if ((gt l p3).Value == (gt l (p3 - 1)).Value) then (if (decide ((gt l p3).Depth ≤ (gt l (p3 - 1)).Depth)) then false else (ag3 (p3 + 1))) else (ag3 (p3 + 1)))) else (ag3 (p3 + 1)))))) else true)) (fun _ => default) 0)))
def math_bits_Mul64 (x_ : Int) (y : Int) : (Int × Int) :=
 ((addI .u64 (addI .u64 (mulI .u64 (shrI .u64 x_ 32) (shrI .u64 y 32)) (shrI .u64 (addI .u64 (mulI .u64 (shrI .u64 x_ 32) (andI .u64 y 4294967295)) (shrI .u64 (mulI .u64 (andI .u64 x_ 4294967295) (andI .u64 y 4294967295)) 32)) 32)) (shrI .u64 (addI .u64 (andI .u64 (addI .u64 (mulI .u64 (shrI .u64 x_ 32) (andI .u64 y 4294967295)) (shrI .u64 (mulI .u64 (andI .u64 x_ 4294967295) (andI .u64 y 4294967295)) 32)) 4294967295) (mulI .u64 (andI .u64 x_ 4294967295) (shrI .u64 y 32))) 32)), (mulI .u64 x_ y))
def math_bits_Mul (x_ : Int) (y : Int) : (Int × Int) :=
 (letk (math_bits_Mul64 x_ y) (fun (x1 : (Int × Int)) => (x1.1, x1.2)))
def slices_Repeat_int_int (x_ : (List Int)) (count : Int) : (List Int) :=
 (if (decide (count < 0)) then (default : (List Int)) else (letk (math_bits_Mul (convI .u64 (x_.length : Int)) (convI .u64 count)) (fun (x2 : (Int × Int)) => (if (decide (x2.1 > 0)) then (default : (List Int)) else (if (decide (x2.2 > 9223372036854775807)) then (default : (List Int)) else (iter ((((spl (rep (convI .i64 x2.2).toNat (0 : Int)) 0 (min (convI .i64 x2.2).toNat x_.length) x_).length : Int) - ((min (convI .i64 x2.2).toNat x_.length : Nat) : Int)).toNat + 1) (fun (ag8 : (Int × List Int) → (List Int)) (p8 : Int × List Int) => (if (decide (p8.1 < (p8.2.length : Int))) then (ag8 ((p8.1 + ((min (p8.2.length - (p8.1).toNat) (cutN p8.2 0 (p8.1).toNat).length : Nat) : Int)), (spl p8.2 (p8.1).toNat (min (p8.2.length - (p8.1).toNat) (cutN p8.2 0 (p8.1).toNat).length) (cutN p8.2 0 (p8.1).toNat)))) else p8.2)) (fun _ => default) (((min (convI .i64 x2.2).toNat x_.length : Nat) : Int), (spl (rep (convI .i64 x2.2).toNat (0 : Int)) 0 (min (convI .i64 x2.2).toNat x_.length) x_))))))))
def denom_counted_1 (n_ : Int) : Bool :=
 (if (decide (n_ < 0)) then true else (decide (n_ > 1000)))
def slices_IndexFunc_int_int_at_denom_counted_1 (s : (List Int)) : Int :=
 (iter (((s.length : Int) - 0).toNat + 1) (fun (ag1 : Int → Int) (p1 : Int) => (if (decide (p1 < (s.length : Int))) then (letk (denom_counted_1 (gt s p1)) (fun (x4 : Bool) => (if x4 then p1 else (ag1 (p1 + 1))))) else (-1))) (fun _ => default) 0)
def slices_ContainsFunc_int_int_at_denom_counted_1 (s : (List Int)) : Bool :=
 (letk (slices_IndexFunc_int_int_at_denom_counted_1 s) (fun (x1 : Int) => (decide (x1 ≥ 0))))
def denom_counted (l : (List S_api_Denom)) (counts : (List Int)) : Bool :=
 (if ((counts.length : Int) == (l.length : Int)) then (letk (slices_ContainsFunc_int_int_at_denom_counted_1 counts) (fun (x2 : Bool) => (!x2))) else false)
def denom_change (l : (List S_api_Denom)) (most : (List Int)) (amount : Int) : ((List Int) × Bool) :=
 (iter (((l.length : Int) - 0).toNat + 1) (fun (ag6 : (Int × List (List S_denom_way)) → ((List Int) × Bool)) (p6 : Int × List (List S_denom_way)) => (if (decide (p6.1 < (l.length : Int))) then (iter (((amount + 1) - 0).toNat + 1) (fun (ag12 : (Int × List S_denom_way) → ((List Int) × Bool)) (p12 : Int × List S_denom_way) => (if (decide (p12.1 < (amount + 1))) then (iter ((gt most p6.1 + 1 - 0).toNat + 1) (fun (ag16 : (Int × List S_denom_way) → ((List Int) × Bool)) (p16 : Int × List S_denom_way) => (if (decide (p16.1 ≤ (gt most p6.1))) then (if (decide ((p16.1 * (gt l p6.1).Value) ≤ p12.1)) then (if (p16.1 == 0) then (if (!(gt (gt p6.2 p6.1) (p12.1 - (p16.1 * (gt l p6.1).Value))).ok) then (ag16 ((p16.1 + 1), p16.2)) else (if (!(gt p16.2 p12.1).ok) then (ag16 ((p16.1 + 1), (st p16.2 p12.1 ({ ok := true, coins := ((gt (gt p6.2 p6.1) (p12.1 - (p16.1 * (gt l p6.1).Value))).coins + p16.1), last := p16.1 } : S_denom_way)))) else (if (decide (((gt (gt p6.2 p6.1) (p12.1 - (p16.1 * (gt l p6.1).Value))).coins + p16.1) ≤ (gt p16.2 p12.1).coins)) then (ag16 ((p16.1 + 1), (st p16.2 p12.1 ({ ok := true, coins := ((gt (gt p6.2 p6.1) (p12.1 - (p16.1 * (gt l p6.1).Value))).coins + p16.1), last := p16.1 } : S_denom_way)))) else (ag16 ((p16.1 + 1), p16.2))))) else (if (decide ((gt l p6.1).Value > 0)) then (if (!(gt (gt p6.2 p6.1) (p12.1 - (p16.1 * (gt l p6.1).Value))).ok) then (ag16 ((p16.1 + 1), p16.2)) else (if (!(gt p16.2 p12.1).ok) then (ag16 ((p16.1 + 1), (st p16.2 p12.1 ({ ok := true, coins := ((gt (gt p6.2 p6.1) (p12.1 - (p16.1 * (gt l p6.1).Value))).coins + p16.1), last := p16.1 } : S_denom_way)))) else (if (decide (((gt (gt p6.2 p6.1) (p12.1 - (p16.1 * (gt l p6.1).Value))).coins + p16.1) ≤ (gt p16.2 p12.1).coins)) then (ag16 ((p16.1 + 1), (st p16.2 p12.1 ({ ok := true, coins := ((gt (gt p6.2 p6.1) (p12.1 - (p16.1 * (gt l p6.1).Value))).coins + p16.1), last := p16.1 } : S_denom_way)))) else (ag16 ((p16.1 + 1), p16.2))))) else (ag12 ((p12.1 + 1), p16.2)))) else (ag12 ((p12.1 + 1), p16.2))) else (ag12 ((p12.1 + 1), p16.2)))) (fun _ => default) (0, p12.2)) else (ag6 ((p6.1 + 1), (st p6.2 (p6.1 + 1) p12.2))))) (fun _ => default) (0, (rep (amount + 1).toNat z_denom_way))) else (if (!(gt (gt p6.2 (l.length : Int)) amount).ok) then (([] : List Int), false) else (iter ((((l.length : Int) - 1) + 1).toNat + 1) (fun (ag53 : (Int × Int × List Int) → ((List Int) × Bool)) (p53 : Int × Int × List Int) => (if (decide (p53.2.1 ≥ 0)) then (ag53 ((p53.1 - ((gt (st p53.2.2 p53.2.1 (gt (gt p6.2 (p53.2.1 + 1)) p53.1).last) p53.2.1) * (gt l p53.2.1).Value)), (p53.2.1 - 1), (st p53.2.2 p53.2.1 (gt (gt p6.2 (p53.2.1 + 1)) p53.1).last))) else (p53.2.2, true))) (fun _ => default) (amount, ((l.length : Int) - 1), (rep (l.length) (0 : Int))))))) (fun _ => default) (0, (st (rep ((l.length : Int) + 1).toNat []) 0 (st (rep (amount + 1).toNat z_denom_way) 0 ({ ok := true, coins := (gt (rep (amount + 1).toNat z_denom_way) 0).coins, last := (gt (rep (amount + 1).toNat z_denom_way) 0).last } : S_denom_way)))))
def denom_Pay (l : (List S_api_Denom)) (have_ : (List Int)) (amount : Int) : ((List Int) × Int) :=
 (letk (denom_Valid l) (fun (x1 : Bool) => (if (!x1) then (([] : List Int), 1) else (letk (denom_counted l have_) (fun (x5 : Bool) => (if (!x5) then (([] : List Int), 1) else (if (decide (amount < 0)) then (([] : List Int), 2) else (if (decide (amount > 1000)) then (([] : List Int), 2) else (letk (denom_change l have_ amount) (fun (x11 : ((List Int) × Bool)) => (if (!x11.2) then (([] : List Int), 7) else (x11.1, 0))))))))))))
def denom_Fewest (l : (List S_api_Denom)) (amount : Int) : ((List Int) × Int) :=
 (letk (denom_Valid l) (fun (x1 : Bool) => (if (!x1) then (([] : List Int), 1) else (letk (slices_Repeat_int_int ([1000] : List Int) (l.length : Int)) (fun (x5 : (List Int)) => (letk (denom_Pay l x5 amount) (fun (x8 : ((List Int) × Int)) => (x8.1, x8.2))))))))
def slices_Equal_int_int (s1 : (List Int)) (s2 : (List Int)) : Bool :=
 (if ((s1.length : Int) != (s2.length : Int)) then false else (iter (((s1.length : Int) - 0).toNat + 1) (fun (ag2 : Int → Bool) (p2 : Int) => (if (decide (p2 < (s1.length : Int))) then (if ((gt s1 p2) != (gt s2 p2)) then false else (ag2 (p2 + 1))) else true)) (fun _ => default) 0))
def specielaw28_awake  : Bool :=
 (letk (denom_Fewest ([({ Value := 1, Depth := 0 } : S_api_Denom), ({ Value := 2, Depth := 1 } : S_api_Denom), ({ Value := 5, Depth := 0 } : S_api_Denom)] : List S_api_Denom) 8) (fun (x1 : ((List Int) × Int)) => (letk (denom_Fewest ([({ Value := 4, Depth := 0 } : S_api_Denom), ({ Value := 5, Depth := 0 } : S_api_Denom), ({ Value := 6, Depth := 0 } : S_api_Denom)] : List S_api_Denom) 10) (fun (x4 : ((List Int) × Int)) => (letk (denom_Fewest ([({ Value := 4, Depth := 0 } : S_api_Denom), ({ Value := 5, Depth := 0 } : S_api_Denom), ({ Value := 6, Depth := 0 } : S_api_Denom)] : List S_api_Denom) 3) (fun (x7 : ((List Int) × Int)) => (if (x1.2 == 0) then (letk (slices_Equal_int_int (x1.1) ([1, 1, 1] : List Int)) (fun (x11 : Bool) => (if x11 then (if (x4.2 == 0) then (letk (slices_Equal_int_int (x4.1) ([1, 0, 1] : List Int)) (fun (x16 : Bool) => (if x16 then (x7.2 == 7) else false))) else false) else false))) else false)))))))
def specielaw28_great (l : (List S_api_Denom)) : Bool :=
 (decide ((l.length : Int) > 40))
def specieref28_One (d_ : S_api_Denom) : Bool :=
 (if (d_.Value == 0) then (d_.Depth == 0) else (if (decide (d_.Value ≥ 1)) then (if (decide (d_.Value ≤ 1099511627776)) then (if (decide (d_.Depth ≥ 0)) then (if (decide (d_.Depth ≤ 5)) then ((remI .i64 d_.Value (shlI .i64 1 (convI .u64 d_.Depth))) == 0) else false) else false) else false) else false))
def specieref28_Valid (l : (List S_api_Denom)) : Bool :=
 (if (decide ((l.length : Int) < 1)) then false else (if (decide ((l.length : Int) > 16)) then false else (iter (((l.length : Int) - 0).toNat + 1) (fun (ag3 : Int → Bool) (p3 : Int) => (if (decide (p3 < (l.length : Int))) then (letk (specieref28_One (gt l p3)) (fun (x6 : Bool) => (if (!x6) then false else (if (decide (p3 > 0)) then (if (decide ((gt l p3).Value < (gt l (p3 - 1)).Value)) then false else (if ((gt l p3).Value == (gt l (p3 - 1)).Value) then (if (decide ((gt l p3).Depth ≤ (gt l (p3 - 1)).Depth)) then false else (ag3 (p3 + 1))) else (ag3 (p3 + 1)))) else (ag3 (p3 + 1)))))) else true)) (fun _ => default) 0)))
def specieref28_Counts (l : (List S_api_Denom)) (counts : (List Int)) : Bool :=
 (if ((counts.length : Int) != (l.length : Int)) then false else (iter (((counts.length : Int) - 0).toNat + 1) (fun (ag2 : Int → Bool) (p2 : Int) => (if (decide (p2 < (counts.length : Int))) then (if (decide ((gt counts p2) < 0)) then false else (if (decide ((gt counts p2) > 1000)) then false else (ag2 (p2 + 1)))) else true)) (fun _ => default) 0))
def specieref28_coins (counts : (List Int)) : Int :=
 (iter (((counts.length : Int) - 0).toNat + 1) (fun (ag1 : (Int × Int) → Int) (p1 : Int × Int) => (if (decide (p1.2 < (counts.length : Int))) then (ag1 ((addI .i64 p1.1 (gt counts p1.2)), (p1.2 + 1))) else p1.1)) (fun _ => default) (0, 0))
def specieref28_Better (a_ : (List Int)) (b : (List Int)) : Bool :=
 (letk (specieref28_coins a_) (fun (x1 : Int) => (letk (specieref28_coins b) (fun (x4 : Int) => (if (x1 != x4) then (letk (specieref28_coins a_) (fun (x8 : Int) => (letk (specieref28_coins b) (fun (x11 : Int) => (decide (x8 < x11)))))) else (iter ((((a_.length : Int) - 1) + 1).toNat + 1) (fun (ag15 : Int → Bool) (p15 : Int) => (if (decide (p15 ≥ 0)) then (if ((gt a_ p15) != (gt b p15)) then (decide ((gt a_ p15) > (gt b p15))) else (ag15 (p15 - 1))) else false)) (fun _ => default) ((a_.length : Int) - 1)))))))
def specieref28_Pay (l : (List S_api_Denom)) (have_ : (List Int)) (amount : Int) : (List Int) :=
 (iter (((l.length : Int) - 0).toNat + 1) (fun (ag4 : (Int × List (List Int)) → (List Int)) (p4 : Int × List (List Int)) => (if (decide (p4.1 < (l.length : Int))) then (iter ((amount + 1 - 0).toNat + 1) (fun (ag7 : (Int × List (List Int)) → (List Int)) (p7 : Int × List (List Int)) => (if (decide (p7.1 ≤ amount)) then (iter ((gt have_ p4.1 + 1 - 0).toNat + 1) (fun (ag9 : (Int × List (List Int)) → (List Int)) (p9 : Int × List (List Int)) => (if (decide (p9.1 ≤ (gt have_ p4.1))) then (if (decide ((p9.1 * (gt l p4.1).Value) ≤ p7.1)) then (if ((gt p4.2 (p7.1 - (p9.1 * (gt l p4.1).Value))).isEmpty) then (ag9 ((p9.1 + 1), p9.2)) else (if ((gt p9.2 p7.1).isEmpty) then (ag9 ((p9.1 + 1), (st p9.2 p7.1 (st (([] : List Int) ++ (gt p4.2 (p7.1 - (p9.1 * (gt l p4.1).Value)))) p4.1 p9.1)))) else (letk (specieref28_Better (st (([] : List Int) ++ (gt p4.2 (p7.1 - (p9.1 * (gt l p4.1).Value)))) p4.1 p9.1) (gt p9.2 p7.1)) (fun (x23 : Bool) => (if x23 then (ag9 ((p9.1 + 1), (st p9.2 p7.1 (st (([] : List Int) ++ (gt p4.2 (p7.1 - (p9.1 * (gt l p4.1).Value)))) p4.1 p9.1)))) else (ag9 ((p9.1 + 1), p9.2))))))) else (ag7 ((p7.1 + 1), p9.2))) else (ag7 ((p7.1 + 1), p9.2)))) (fun _ => default) (0, p7.2)) else (ag4 ((p4.1 + 1), p7.2)))) (fun _ => default) (0, (rep (amount + 1).toNat []))) else (gt p4.2 amount))) (fun _ => default) (0, (st (rep (amount + 1).toNat []) 0 (rep (l.length) (0 : Int)))))
def specielaw28_DenomPays_1 (c : (List Int)) (e_ : Int) (ok : Bool) (most : (List Int)) (c0 : Int) (c1 : (List S_api_Denom)) : Bool :=
 (if (!ok) then (if (e_ == 1) then ((c.length : Int) == 0) else false) else (if (decide (c0 < 0)) then (if (e_ == 2) then ((c.length : Int) == 0) else false) else (if (decide (c0 > 1000)) then (if (e_ == 2) then ((c.length : Int) == 0) else false) else (letk (specieref28_Pay c1 most c0) (fun (x6 : (List Int)) => (if (x6.isEmpty) then (if (e_ == 7) then ((c.length : Int) == 0) else false) else (if (e_ == 0) then (letk (slices_Equal_int_int c x6) (fun (x12 : Bool) => x12)) else false)))))))
def specielaw28_one (b : Bool) : Int :=
 (if b then 1 else 0)
def specieref28_Most (l : (List S_api_Denom)) (amount : Int) : (List Int) :=
 (iter (((l.length : Int) - 0).toNat + 1) (fun (ag1 : (Int × List Int) → (List Int)) (p1 : Int × List Int) => (if (decide (p1.1 < (l.length : Int))) then (if ((gt l p1.1).Value == 0) then (ag1 ((p1.1 + 1), (p1.2 ++ ([0] : List Int)))) else (ag1 ((p1.1 + 1), (p1.2 ++ ([(quoI .i64 amount (gt l p1.1).Value)] : List Int))))) else p1.2)) (fun _ => default) (0, ([] : List Int)))
def specielaw28_DenomPays (l : (List S_api_Denom)) (have_ : (List Int)) (amount : Int) : Bool :=
 (letk (specielaw28_awake) (fun (x1 : Bool) => (if (!x1) then false else (letk (specielaw28_great l) (fun (x5 : Bool) => (if x5 then true else (if (decide ((have_.length : Int) > 40)) then true else (if (decide (amount > 200)) then (if (decide (amount ≤ 1000)) then true else (letk (denom_Fewest l amount) (fun (x12 : ((List Int) × Int)) => (letk (denom_Pay l have_ amount) (fun (x15 : ((List Int) × Int)) => (letk (specieref28_Valid l) (fun (x18 : Bool) => (letk (specielaw28_one x18) (fun (x21 : Int) => (letk (specieref28_Most (sl l 0 (minI (l.length : Int) (40 * x21))) (maxI 0 (minI amount 1000))) (fun (x25 : (List Int)) => (letk (specielaw28_DenomPays_1 (x12.1) (x12.2) x18 x25 amount l) (fun (x27 : Bool) => (if x27 then (if x18 then (letk (specieref28_Counts l have_) (fun (x31 : Bool) => (letk (specielaw28_DenomPays_1 (x15.1) (x15.2) x31 have_ amount l) (fun (x33 : Bool) => x33)))) else (letk (specielaw28_DenomPays_1 (x15.1) (x15.2) false have_ amount l) (fun (x36 : Bool) => x36))) else false)))))))))))))) else (letk (denom_Fewest l amount) (fun (x39 : ((List Int) × Int)) => (letk (denom_Pay l have_ amount) (fun (x42 : ((List Int) × Int)) => (letk (specieref28_Valid l) (fun (x45 : Bool) => (letk (specielaw28_one x45) (fun (x48 : Int) => (letk (specieref28_Most (sl l 0 (minI (l.length : Int) (40 * x48))) (maxI 0 (minI amount 1000))) (fun (x52 : (List Int)) => (letk (specielaw28_DenomPays_1 (x39.1) (x39.2) x45 x52 amount l) (fun (x54 : Bool) => (if x54 then (if x45 then (letk (specieref28_Counts l have_) (fun (x58 : Bool) => (letk (specielaw28_DenomPays_1 (x42.1) (x42.2) x58 have_ amount l) (fun (x60 : Bool) => x60)))) else (letk (specielaw28_DenomPays_1 (x42.1) (x42.2) false have_ amount l) (fun (x63 : Bool) => x63))) else false)))))))))))))))))))))
end Go.Proofs.Yteolfhljhnplpaa
namespace Go.Proofs.Yteolfhljhnplpaa
open Go.RowKit
theorem iter_all {C : Int → Bool} {n : Int} {F : (Int → Bool) → Int → Bool} (hF : ∀ ag p, F ag p = if p < n then (if C p = true then ag (p + 1) else false) else true) {d : Int → Bool} :
  ∀ (fuel : Nat) (i : Int), (n - i).toNat < fuel → (iter fuel F d i = true ↔ ∀ j, i ≤ j → j < n → C j = true) := by
 intro fuel
 induction fuel with
 | zero => intro i h; omega
 | succ k ih =>
  intro i h
  rw [iter, hF]
  by_cases hi : i < n
  ·rw [if_pos hi]
   by_cases hc : C i = true
   ·rw [if_pos hc, ih (i + 1) (by omega)]
    constructor
    ·intro H j h1 h2
     by_cases e : j = i
     ·subst e; exact hc
     ·exact H j (by omega) h2
    ·intro H j h1 h2; exact H j (by omega) h2
   ·rw [if_neg hc]
    constructor
    ·intro H; cases H
    ·intro H; exact absurd (H i (Int.le_refl _) hi) hc
  ·rw [if_neg hi]
   exact ⟨fun _ j h1 h2 => by omega, fun _ => rfl⟩
theorem iter_find {C : Int → Bool} {n : Int} {F : (Int → Int) → Int → Int} (hF : ∀ ag p, F ag p = if p < n then (if C p = true then p else ag (p + 1)) else -1) {d : Int → Int} :
  ∀ (fuel : Nat) (i : Int), 0 ≤ i → (n - i).toNat < fuel → (iter fuel F d i = -1 ∧ ∀ j, i ≤ j → j < n → C j = false) ∨ (i ≤ iter fuel F d i ∧ iter fuel F d i < n ∧ C (iter fuel F d i) = true ∧ ∀ j, i ≤ j → j < iter fuel F d i → C j = false) := by
 intro fuel
 induction fuel with
 | zero => intro i _ h; omega
 | succ k ih =>
  intro i h0 h
  rw [iter, hF]
  by_cases hi : i < n
  ·rw [if_pos hi]
   by_cases hc : C i = true
   ·rw [if_pos hc]
    exact .inr ⟨Int.le_refl _, hi, hc, fun j h1 h2 => by omega⟩
   ·rw [if_neg hc]
    have hc' : C i = false := by simpa using hc
    rcases ih (i + 1) (by omega) (by omega) with ⟨h1, h2⟩ | ⟨h1, h2, h3, h4⟩
    ·refine .inl ⟨h1, fun j g1 g2 => ?_⟩
     by_cases e : j = i
     ·subst e; exact hc'
     ·exact h2 j (by omega) g2
    ·refine .inr ⟨by omega, h2, h3, fun j g1 g2 => ?_⟩
     by_cases e : j = i
     ·subst e; exact hc'
     ·exact h4 j (by omega) g2
  ·rw [if_neg hi]
   exact .inl ⟨rfl, fun j h1 h2 => by omega⟩
theorem iter_rule {α R : Type} {P : α → Prop} {Q : R → Prop} {meas : α → Nat} {F : (α → R) → α → R} {d : α → R}
  (hs : ∀ ag p, P p → (∀ q, P q → meas q < meas p → Q (ag q)) → Q (F ag p)) : ∀ (fuel : Nat) (p : α), P p → meas p < fuel → Q (iter fuel F d p) := by
 intro fuel
 induction fuel with
 | zero => intro p _ h; omega
 | succ k ih =>
  intro p hp hm
  rw [iter]
  exact hs _ p hp fun q hq hlt => ih q hq (by omega)
def remA {β : Type} (i : Nat) : List (Nat × β) → List (Nat × β)
 | [] => []
 | (k, b) :: l => if k = i then remA i l else (k, b) :: remA i l
attribute [go_sem] remA
theorem getA_remA {β : Type} {i t : Nat} {b : β} : ∀ {l : List (Nat × β)}, getA (remA i l) t = some b → t ≠ i ∧ getA l t = some b
 | [], h => by cases h
 | (k, x) :: l, h => by
  simp only [remA] at h
  split at h
  ·rename_i e
   obtain ⟨h1, h2⟩ := getA_remA h
   exact ⟨h1, by simp only [getA]; rw [if_neg (by omega)]; exact h2⟩
  ·rename_i e
   simp only [getA] at h ⊢
   split at h
   ·rename_i e2; exact ⟨by omega, by rw [if_pos e2]; exact h⟩
   ·rename_i e2
    obtain ⟨h1, h2⟩ := getA_remA h
    exact ⟨h1, by rw [if_neg e2]; exact h2⟩
theorem weak_ren {E : Env} {S : St} (t i j : Nat) {T n : Nat} {g : Bool} {z : Option Bool} {l : List V} (h : getA S.F t = some (.own j)) (h2 : getA S.H j = some (.own T n g z l)) (hi : i < S.nx) (hij : i ≠ j) :
  Weak E S ⟨(t, .own i) :: purgeF i S.F, (i, .own T n g z l) :: remA j (purgeH i S.H), S.nx⟩ := by
 intro c0 c ρ F hs
 obtain ⟨v, hv, hown, hge, hone, a, cap, es, hz⟩ := hs.1.heap _ _ h2
 have hro : ∀ k, k ≠ i → roSet ρ i v k = ρ k := fun k hk => roSet_ne hk
 have hbi : blkOf (roSet ρ i v) i = blkOf ρ j := by unfold blkOf; rw [roSet_same, hv]
 have hbk : ∀ k, k ≠ i → blkOf (roSet ρ i v) k = blkOf ρ k := fun k hk => by unfold blkOf; rw [hro k hk]
 have hold : ∀ k b, i ≠ k → getA (remA j (purgeH i S.H)) k = some b → k ≠ j ∧ ∃ b0, getA S.H k = some b0 ∧ b = purgeB i b0 := by
  intro k b hk hb
  obtain ⟨h3, h4⟩ := getA_remA hb
  rw [getA_purgeH] at h4
  cases h5 : getA S.H k with
  | none => rw [h5] at h4; cases h4
  | some b0 => rw [h5] at h4; cases h4; exact ⟨h3, b0, rfl, rfl⟩
 refine ⟨c, roSet ρ i v, rfl, ⟨hs.1.since, hs.1.gl, fun t' x ht => ?_, ?_, ?_⟩, fun k hk => ?_⟩
 ·simp only [getA] at ht
  split at ht
  ·rename_i e; subst e; cases ht
   have h3 := hs.1.slot _ _ h
   simp only [rd] at h3 ⊢
   rw [hv] at h3
   exact ⟨by rw [roSet_same]; exact h3.1, h3.2⟩
  ·rw [getA_purgeF] at ht
   cases h5 : getA S.F t' with
   | none => rw [h5] at ht; cases ht
   | some y => rw [h5] at ht; cases ht; exact purge_rd hro (hs.1.slot _ _ h5)
 ·intro k b hb
  simp only [getA] at hb
  split at hb
  ·rename_i e; subst e; cases hb
   exact ⟨v, roSet_same, hown, hge, hone, a, cap, es, hz⟩
  ·rename_i hk
   obtain ⟨_, b0, h6, rfl⟩ := hold k b hk hb
   exact purgeB_ok hro (Ne.symm hk) (hs.1.heap _ _ h6)
 ·intro x y bx bb k hxy hx hy hpx hpy hbx
  simp only [getA] at hx hy
  split at hx
  ·rename_i e; subst e
   rw [if_neg hxy] at hy
   obtain ⟨hyj, b0, h6, rfl⟩ := hold y bb hxy hy
   rw [privB_purge] at hpy
   rw [hbk y (Ne.symm hxy)]
   rw [hbi] at hbx
   exact hs.1.sep j y _ b0 k (Ne.symm hyj) h2 h6 rfl hpy hbx
  ·rename_i hix
   obtain ⟨hxj, b0, h6, rfl⟩ := hold x bx hix hx
   rw [privB_purge] at hpx
   rw [hbk x (Ne.symm hix)] at hbx
   split at hy
   ·rename_i e; subst e
    rw [hbi]
    exact hs.1.sep x j b0 _ k hxj h6 h2 hpx rfl hbx
   ·rename_i hiy
    obtain ⟨hyj, b1, h7, rfl⟩ := hold y bb hiy hy
    rw [privB_purge] at hpy
    rw [hbk y (Ne.symm hiy)]
    exact hs.1.sep x y b0 b1 k hxy h6 h7 hpx hpy hbx
 ·have hk' : S.nx ≤ k := hk
  rw [hro k (by omega)]; exact hs.2 k hk
end Go.Proofs.Yteolfhljhnplpaa
namespace Go.Proofs.Yteolfhljhnplpaa
open Go.RowKit
theorem mul64_one_all : ((List.range 1001).all fun n => math_bits_Mul64 1 (n : Int) == (0, (n : Int))) = true := by kernel_rfl
theorem mul_one {a b : Int} (ha : a = 1) (h0 : 0 ≤ b) (h1 : b ≤ 1000) : math_bits_Mul a b = (0, b) := by
 subst ha
 have h := List.all_eq_true.1 mul64_one_all b.toNat (List.mem_range.2 (by omega))
 have e : ((b.toNat : Nat) : Int) = b := by omega
 rw [e] at h
 have h' : math_bits_Mul64 1 b = (0, b) := by simpa using h
 simp only [math_bits_Mul, letk, h']
def RowOk (v : Int) (r : List S_denom_way) (am k : Int) : Prop := ∀ a : Int, 0 ≤ a → a ≤ am → (0 ≤ (gt r a).last ∧ (gt r a).last ≤ 1000 ∧ (gt r a).last * v ≤ a) ∧ (0 ≤ (gt r a).coins ∧ (gt r a).coins ≤ 1000 * k)
theorem RowOk.zero {v am k : Int} (hk : 0 ≤ k) {n : Nat} : RowOk v (rep n z_denom_way) am k := by
 intro a h0 h1
 have e : gt (rep n z_denom_way) a = z_denom_way := by rw [gt_repl]; split <;> rfl
 rw [e]
 refine ⟨⟨Int.le_refl _, by decide, ?_⟩, Int.le_refl _, ?_⟩
 ·show 0 * v ≤ a
  rw [Int.zero_mul]; exact h0
 ·show (0 : Int) ≤ 1000 * k
  omega
theorem RowOk.set {v am a k : Int} {r : List S_denom_way} {x : S_denom_way} (h : RowOk v r am k) (ha : 0 ≤ a) (h0 : 0 ≤ x.last) (h1 : x.last ≤ 1000) (h2 : x.last * v ≤ a) (h3 : 0 ≤ x.coins) (h4 : x.coins ≤ 1000 * k) : RowOk v (st r a x) am k := by
 intro b hb0 hb1
 rw [gt_st]
 split
 ·rename_i hc
  have : a = b := by omega
  subst this
  exact ⟨⟨h0, h1, h2⟩, h3, h4⟩
 ·exact h b hb0 hb1
theorem RowOk.init {v am : Int} {n : Nat} {x : S_denom_way} (h1 : x.last = 0) (h2 : x.coins = 0) : RowOk v (st (rep n z_denom_way) 0 x) am 0 :=
 (RowOk.zero (Int.le_refl _)).set (Int.le_refl _) (by omega) (by omega) (by rw [h1, Int.zero_mul]; exact Int.le_refl _) (by omega) (by omega)
theorem gt_rep0 {n : Nat} : gt (rep n z_denom_way) 0 = z_denom_way := by rw [gt_repl]; split <;> rfl
theorem q_den (d : S_api_Denom) : q_api_Denom d z_api_Denom = (d.Value == 0 && d.Depth == 0) := rfl
theorem single_spec {d : S_api_Denom} (h : denom_single d = true) : 0 ≤ d.Value ∧ d.Value ≤ 1099511627776 ∧ 0 ≤ d.Depth ∧ d.Depth ≤ 5 := by
 unfold denom_single at h
 rw [q_den] at h
 by_cases h0 : (d.Value == 0 && d.Depth == 0) = true
 ·simp at h0; omega
 ·by_cases a1 : d.Value ≥ 1 <;> by_cases a2 : d.Value ≤ 1099511627776 <;> by_cases a3 : d.Depth ≥ 0 <;> by_cases a4 : d.Depth ≤ 5 <;> simp [h0, a1, a2, a3, a4] at h
  omega
def ordB (l : List S_api_Denom) (p : Int) : Bool := !decide (p > 0) || (!decide ((gt l p).Value < (gt l (p - 1)).Value) && (!((gt l p).Value == (gt l (p - 1)).Value) || !decide ((gt l p).Depth ≤ (gt l (p - 1)).Depth)))
theorem Valid_iff {l : List S_api_Denom} : denom_Valid l = true ↔ (1 ≤ l.length ∧ l.length ≤ 16 ∧ ∀ j : Int, 0 ≤ j → j < l.length → (denom_single (gt l j) && ordB l j) = true) := by
 unfold denom_Valid
 by_cases h1 : (l.length : Int) < 1
 ·simp [h1]; intro h; omega
 by_cases h2 : (l.length : Int) > 16
 ·simp [h2]; omega
 simp only [h1, h2, decide_false, Bool.false_eq_true, if_false]
 rw [iter_all (n := (l.length : Int)) (C := fun p => denom_single (gt l p) && ordB l p) (fun ag p => ?_) _ _ (by omega)]
 ·exact ⟨fun h => ⟨by omega, by omega, h⟩, fun h => h.2.2⟩
 ·simp only [letk, ordB]
  by_cases hp : p < (l.length : Int)
  ·simp only [hp, decide_true, if_true]
   cases denom_single (gt l p) <;> by_cases a1 : p > 0 <;> by_cases a2 : (gt l p).Value < (gt l (p - 1)).Value <;> by_cases a3 : (gt l p).Value = (gt l (p - 1)).Value <;> by_cases a4 : (gt l p).Depth ≤ (gt l (p - 1)).Depth <;> simp [a1, a2, a3, a4]
  ·simp [hp]
theorem refValid_iff {l : List S_api_Denom} : specieref28_Valid l = true ↔ (1 ≤ l.length ∧ l.length ≤ 16 ∧ ∀ j : Int, 0 ≤ j → j < l.length → (specieref28_One (gt l j) && ordB l j) = true) := by
 unfold specieref28_Valid
 by_cases h1 : (l.length : Int) < 1
 ·simp [h1]; intro h; omega
 by_cases h2 : (l.length : Int) > 16
 ·simp [h2]; omega
 simp only [h1, h2, decide_false, Bool.false_eq_true, if_false]
 rw [iter_all (n := (l.length : Int)) (C := fun p => specieref28_One (gt l p) && ordB l p) (fun ag p => ?_) _ _ (by omega)]
 ·exact ⟨fun h => ⟨by omega, by omega, h⟩, fun h => h.2.2⟩
 ·simp only [letk, ordB]
  by_cases hp : p < (l.length : Int)
  ·simp only [hp, decide_true, if_true]
   cases specieref28_One (gt l p) <;> by_cases a1 : p > 0 <;> by_cases a2 : (gt l p).Value < (gt l (p - 1)).Value <;> by_cases a3 : (gt l p).Value = (gt l (p - 1)).Value <;> by_cases a4 : (gt l p).Depth ≤ (gt l (p - 1)).Depth <;> simp [a1, a2, a3, a4]
  ·simp [hp]
theorem single_eq (d : S_api_Denom) : denom_single d = specieref28_One d := by
 unfold denom_single specieref28_One
 rw [q_den]
 by_cases h0 : d.Value = 0
 ·by_cases h1 : d.Depth = 0 <;> simp [h0, h1]
 ·by_cases h1 : 0 ≤ d.Depth <;> by_cases h2 : d.Depth ≤ 5 <;> simp [h0, h1, h2]
  rw [conv_u64 h1 (by omega)]
theorem Valid_eq (l : List S_api_Denom) : denom_Valid l = specieref28_Valid l := by
 rw [Bool.eq_iff_iff, Valid_iff, refValid_iff]
 simp only [single_eq]
theorem Valid_len {l : List S_api_Denom} (h : denom_Valid l = true) : 1 ≤ l.length ∧ l.length ≤ 16 := ⟨(Valid_iff.1 h).1, (Valid_iff.1 h).2.1⟩
theorem Valid_val {l : List S_api_Denom} (h : denom_Valid l = true) : ∀ j : Int, 0 ≤ j → j.toNat < l.length → 0 ≤ (gt l j).Value ∧ (gt l j).Value ≤ 1099511627776 := by
 intro j h0 h1
 have := (Valid_iff.1 h).2.2 j h0 (by omega)
 simp only [Bool.and_eq_true] at this
 have := single_spec this.1
 exact ⟨this.1, this.2.1⟩
theorem counted1 (n : Int) : denom_counted_1 n = !decide (0 ≤ n ∧ n ≤ 1000) := by
 unfold denom_counted_1
 by_cases h0 : n < 0 <;> by_cases h1 : n > 1000 <;> simp [h0, h1] <;> omega
theorem counted_iff {l : List S_api_Denom} {c : List Int} : denom_counted l c = true ↔ (c.length = l.length ∧ ∀ j : Int, 0 ≤ j → j < c.length → 0 ≤ gt c j ∧ gt c j ≤ 1000) := by
 unfold denom_counted slices_ContainsFunc_int_int_at_denom_counted_1 slices_IndexFunc_int_int_at_denom_counted_1
 by_cases h : c.length = l.length
 ·simp only [h, beq_self_eq_true, if_true, letk, Bool.not_eq_true', decide_eq_false_iff_not, true_and, ge_iff_le, Int.not_le]
  rcases iter_find (n := (l.length : Int)) (C := fun p => denom_counted_1 (gt c p)) (F := fun ag1 p1 => if decide (p1 < (l.length : Int)) then (if denom_counted_1 (gt c p1) then p1 else ag1 (p1 + 1)) else -1) (d := fun _ => default) (fun ag p => by by_cases hp : p < (l.length : Int) <;> simp [hp]) (((l.length : Int) - 0).toNat + 1) 0 (by omega) (by omega) with ⟨h1, h2⟩ | ⟨h1, h2, h3, h4⟩
  ·rw [h1]
   refine ⟨fun _ j g0 g1 => ?_, fun _ => by decide⟩
   have := h2 j g0 g1
   rw [counted1] at this
   simpa using this
  ·refine ⟨fun g => by omega, fun g => ?_⟩
   have := g _ h1 h2
   rw [counted1] at h3
   simp only [Bool.not_eq_true', decide_eq_false_iff_not] at h3
   exact absurd this h3
 ·have : ((c.length : Int) == (l.length : Int)) = false := by simp; omega
  simp [this, h]
theorem counted_len {l : List S_api_Denom} {c : List Int} (h : denom_counted l c = true) : c.length = l.length := (counted_iff.1 h).1
theorem counted_val {l : List S_api_Denom} {c : List Int} (h : denom_counted l c = true) : ∀ j : Int, 0 ≤ j → j.toNat < c.length → 0 ≤ gt c j ∧ gt c j ≤ 1000 := fun j h0 h1 => (counted_iff.1 h).2 j h0 (by omega)
theorem Counts_iff {l : List S_api_Denom} {c : List Int} : specieref28_Counts l c = true ↔ (c.length = l.length ∧ ∀ j : Int, 0 ≤ j → j < c.length → 0 ≤ gt c j ∧ gt c j ≤ 1000) := by
 unfold specieref28_Counts
 by_cases h : c.length = l.length
 ·simp only [h, bne_self_eq_false, Bool.false_eq_true, if_false, true_and]
  rw [iter_all (n := (l.length : Int)) (C := fun p => decide (0 ≤ gt c p ∧ gt c p ≤ 1000)) (fun ag p => ?_) _ _ (by omega)]
  ·simp only [decide_eq_true_eq]
  ·by_cases hp : p < (l.length : Int) <;> by_cases a1 : gt c p < 0 <;> by_cases a2 : gt c p > 1000 <;> simp [hp, a1, a2] <;> omega
 ·have : ((c.length : Int) != (l.length : Int)) = true := by simp; omega
  simp [this, h]
theorem Counts_eq (l : List S_api_Denom) (c : List Int) : specieref28_Counts l c = denom_counted l c := by
 rw [Bool.eq_iff_iff, Counts_iff, counted_iff]
def RW (n : Nat) (am : Int) (b : List (List Int)) : Prop := b.length = (am + 1).toNat ∧ ∀ j : Int, 0 ≤ j → j ≤ am → (gt b j).length = 0 ∨ (gt b j).length = n
theorem RW.zero {n : Nat} {am : Int} : RW n am (rep (am + 1).toNat []) := by
 refine ⟨rep_len, fun j _ _ => .inl ?_⟩
 rw [gt_repl]
 split <;> rfl
theorem RW.set {n : Nat} {am j : Int} {b : List (List Int)} {x : List Int} (h : RW n am b) (hx : x.length = n) : RW n am (st b j x) := by
 refine ⟨by rw [st_len]; exact h.1, fun i h0 h1 => ?_⟩
 rw [gt_st]
 split
 ·exact .inr hx
 ·exact h.2 i h0 h1
theorem ne_emp {l : List Int} (h : l.isEmpty = false) : 0 < l.length := List.length_pos_iff.2 (by simpa using h)
theorem rep_ne {n : Nat} (h : 1 ≤ n) : (rep n (0 : Int)).isEmpty = false := by
 have h1 : (rep n (0 : Int)).length = n := rep_len
 cases hr : rep n (0 : Int) with
 | nil => rw [hr] at h1; simp at h1; omega
 | cons a l => rfl
theorem z_app {l c : List Int} (h : 0 < l.length) (hc : 0 < c.length) : zApp (l.map (V.int .i64)) = some c.isEmpty := by
 cases l with
 | nil => simp at h
 | cons a l =>
  cases c with
  | nil => simp at hc
  | cons b c => rfl
theorem mtZ_eq {z : Option Bool} {b : Bool} (h : z = some b) : mtZ z (some b) := by subst h; rfl
theorem rep_map {α β : Type} {f : α → β} {n : Nat} {x : α} : (rep n x).map f = List.replicate n (f x) := by simp [rep]
def PayOk (l : List S_api_Denom) (m : List Int) : Prop := m.length = l.length ∧ (1 ≤ l.length ∧ l.length ≤ 16) ∧ (∀ j : Int, 0 ≤ j → j.toNat < l.length → 0 ≤ (gt l j).Value ∧ (gt l j).Value ≤ 1099511627776) ∧ (∀ j : Int, 0 ≤ j → j.toNat < m.length → 0 ≤ gt m j ∧ gt m j ≤ 1000)
theorem gt_snoc {l : List Int} {x : Int} {j : Int} (h0 : 0 ≤ j) (h : j.toNat < (l ++ [x]).length) : gt (l ++ [x]) j = if j < (l.length : Int) then gt l j else x := by
 rw [List.length_append, List.length_singleton] at h
 unfold gt
 split
 ·rw [List.getD_eq_getElem?_getD, List.getD_eq_getElem?_getD, List.getElem?_append_left (by omega)]
 ·rw [List.getD_eq_getElem?_getD, List.getElem?_append_right (by omega), show j.toNat - l.length = 0 by omega]; rfl
def mostOf (a v : Int) : Int := if v = 0 then 0 else a.tdiv v
theorem mostOf_rng {a v : Int} (ha : 0 ≤ a) (h1 : a ≤ 1000) (hv : 0 ≤ v) : 0 ≤ mostOf a v ∧ mostOf a v ≤ 1000 := by
 unfold mostOf
 split
 ·exact ⟨Int.le_refl _, by decide⟩
 ·have h2 := Int.tdiv_nonneg ha hv
  have h3 : a.tdiv v = a / v := Int.tdiv_eq_ediv_of_nonneg ha
  have h4 : a / v ≤ a := Int.ediv_le_self v ha
  omega
theorem quo_most {a v : Int} (ha : 0 ≤ a) (h1 : a ≤ 1000) (hv : 0 ≤ v) (h0 : v ≠ 0) : quoI .i64 a v = mostOf a v := by
 have h := mostOf_rng ha h1 hv
 unfold mostOf at h ⊢
 rw [if_neg h0] at h ⊢
 unfold quoI
 rw [IntKind.wrap_i64]; omega
theorem most_spec {l : List S_api_Denom} {a : Int} (ha : 0 ≤ a) (h1 : a ≤ 1000) (hv : ∀ j : Int, 0 ≤ j → j.toNat < l.length → 0 ≤ (gt l j).Value) :
  (specieref28_Most l a).length = l.length ∧ ∀ j : Int, 0 ≤ j → j.toNat < l.length → gt (specieref28_Most l a) j = mostOf a (gt l j).Value := by
 unfold specieref28_Most
 refine iter_rule (P := fun p : Int × List Int => 0 ≤ p.1 ∧ p.1 ≤ (l.length : Int) ∧ (p.2.length : Int) = p.1 ∧ ∀ j : Int, 0 ≤ j → j < p.1 → gt p.2 j = mostOf a (gt l j).Value) (Q := fun r : List Int => r.length = l.length ∧ ∀ j : Int, 0 ≤ j → j.toNat < l.length → gt r j = mostOf a (gt l j).Value) (meas := fun p => ((l.length : Int) - p.1).toNat) ?_ _ _ ⟨Int.le_refl _, by show (0 : Int) ≤ _; omega, rfl, fun j h0 h1 => by have : j < 0 := h1; omega⟩ (by show ((l.length : Int) - 0).toNat < _; omega)
 rintro ag ⟨i, r⟩ ⟨e1, e2, e3, e4⟩ ih
 simp only at e1 e2 e3 e4 ih ⊢
 by_cases hi : i < (l.length : Int)
 ·rw [if_pos (by simpa using hi)]
  have hm : ((l.length : Int) - (i + 1)).toNat < ((l.length : Int) - i).toNat := by omega
  have step : ∀ x, x = mostOf a (gt l i).Value → (ag (i + 1, r ++ [x])).length = l.length ∧ ∀ j : Int, 0 ≤ j → j.toNat < l.length → gt (ag (i + 1, r ++ [x])) j = mostOf a (gt l j).Value := fun x hx =>
   ih _ ⟨by show 0 ≤ i + 1; omega, by show i + 1 ≤ _; omega, by show ((r ++ [x]).length : Int) = i + 1; rw [List.length_append, List.length_singleton]; omega, fun j h0 h1 => by
    have h1 : j < i + 1 := h1
    show gt (r ++ [x]) j = _
    rw [gt_snoc h0 (by rw [List.length_append, List.length_singleton]; omega)]
    split
    ·exact e4 j h0 (by omega)
    ·have : j = i := by omega
     rw [this]; exact hx⟩ hm
  have hvi := hv i e1 (by omega)
  by_cases h0 : (gt l i).Value = 0
  ·rw [if_pos (by simpa using h0)]
   exact step 0 (by unfold mostOf; rw [if_pos h0])
  ·rw [if_neg (by simpa using h0)]
   exact step _ (quo_most ha h1 hvi h0)
 ·rw [if_neg (by simpa using hi)]
  exact ⟨by omega, fun j h0 h1 => e4 j h0 (by omega)⟩
theorem minI_rng {n : Nat} {b : Int} (h : 0 ≤ b) : 0 ≤ minI (n : Int) b ∧ minI (n : Int) b ≤ (n : Int) := by
 unfold minI
 split <;> omega
theorem one_rng {b : Bool} {x : Int} (h : x = specielaw28_one b) : 0 ≤ x ∧ x ≤ 1 := by
 subst h
 cases b <;> exact ⟨by decide, by decide⟩
theorem one_min {l : List S_api_Denom} {b : Bool} {x : Int} (h : x = specielaw28_one b) : 0 ≤ minI (l.length : Int) (40 * x) ∧ minI (l.length : Int) (40 * x) ≤ (l.length : Int) := by
 have h1 := one_rng h
 exact minI_rng (by omega)
theorem sl_all {l : List S_api_Denom} {o : Int} (ho : o = 1) (hl : l.length ≤ 16) : sl l 0 (minI (l.length : Int) (40 * o)) = l := by
 subst ho
 have e : minI (l.length : Int) (40 * 1) = (l.length : Int) := by
  unfold minI
  split <;> omega
 rw [e]
 unfold sl
 simp
theorem clamp {a : Int} : 0 ≤ maxI 0 (minI a 1000) ∧ maxI 0 (minI a 1000) ≤ 1000 := by
 unfold maxI minI
 split <;> split <;> omega
theorem valid_pay {l : List S_api_Denom} (h : specieref28_Valid l = true) : (1 ≤ l.length ∧ l.length ≤ 16) ∧ ∀ j : Int, 0 ≤ j → j.toNat < l.length → 0 ≤ (gt l j).Value ∧ (gt l j).Value ≤ 1099511627776 := by
 rw [← Valid_eq] at h
 exact ⟨Valid_len h, Valid_val h⟩
theorem pay_most {l : List S_api_Denom} {x : Bool} {o am : Int} {m : List Int} (hv : x = specieref28_Valid l) (h1 : o = specielaw28_one x) (hm : m = specieref28_Most (sl l 0 (minI (l.length : Int) (40 * o))) (maxI 0 (minI am 1000))) : x = true → PayOk l m := by
 intro hx
 subst hx
 obtain ⟨g1, g2⟩ := valid_pay hv.symm
 have ho : o = 1 := h1
 rw [sl_all ho g1.2] at hm
 obtain ⟨k1, k2⟩ := most_spec (l := l) (a := maxI 0 (minI am 1000)) clamp.1 clamp.2 (fun j h0 hj => (g2 j h0 hj).1)
 rw [← hm] at k1 k2
 refine ⟨k1, g1, g2, fun j h0 hj => ?_⟩
 rw [k2 j h0 (by omega)]
 exact mostOf_rng clamp.1 clamp.2 (g2 j h0 (by omega)).1
theorem pay_have {l : List S_api_Denom} {x y : Bool} {m : List Int} (hv : x = specieref28_Valid l) (hc : y = specieref28_Counts l m) (hx : x = true) : y = true → PayOk l m := by
 intro hy
 rw [hx] at hv
 rw [hy] at hc
 obtain ⟨g1, g2⟩ := valid_pay hv.symm
 obtain ⟨c1, c2⟩ := Counts_iff.1 hc.symm
 exact ⟨c1, g1, g2, fun j h0 hj => c2 j h0 (by omega)⟩
end Go.Proofs.Yteolfhljhnplpaa
