/- DenomSums: the model of the law answers true. -/
import Derived.Test.YtndjbfdbngkkiaaH1
namespace Go.Proofs.Ytndjbfdbngkkiaa
open Go.RowKit
theorem awake_true : specielaw28_awake = true := by kernel_rfl
theorem refSum_eq (l : List S_api_Denom) (c : List Int) : specieref28_Sum l c = rounds (fun i s => addI .i64 s (mulI .i64 (gt c i) (gt l i).Value)) ((l.length : Int) - 0).toNat 0 0 := by
  unfold specieref28_Sum
  rw [iter_fold (g := fun i s => addI .i64 s (mulI .i64 (gt c i) (gt l i).Value)) (e := fun s => s) (n := (l.length : Int)) (fun ag a p => ?_) _ _ _ (by omega)]
  have : mulI .i64 (gt l p).Value (gt c p) = mulI .i64 (gt c p) (gt l p).Value := by unfold mulI; rw [Int.mul_comm]
  by_cases hp : p < (l.length : Int) <;> simp [hp, this]
theorem Sum_eq {l : List S_api_Denom} {c : List Int} (hv : denom_Valid l = true) (hc : denom_counted l c = true) : denom_Sum l c = if specieref28_Sum l c > 1099511627776 then (0, 9) else (specieref28_Sum l c, 0) := by
  have hl := counted_len hc
  unfold denom_Sum
  simp only [letk, hv, hc, Bool.not_true, Bool.false_eq_true, if_false]
  rw [iter_fold (g := fun i s => addI .i64 s (mulI .i64 (gt c i) (gt l i).Value)) (e := fun s => if s > 1099511627776 then ((0, 9) : Int × Int) else (s, 0)) (n := (c.length : Int)) (fun ag a p => ?_) _ _ _ (by omega)]
  · rw [refSum_eq, hl]
  · by_cases hp : p < (c.length : Int) <;> simp [hp]
theorem Sum_bad1 {l : List S_api_Denom} {c : List Int} (hv : denom_Valid l = false) : denom_Sum l c = (0, 1) := by
  unfold denom_Sum; simp [letk, hv]
theorem Sum_bad2 {l : List S_api_Denom} {c : List Int} (hc : denom_counted l c = false) : denom_Sum l c = (0, 1) := by
  unfold denom_Sum; cases h : denom_Valid l <;> simp [letk, hc]
theorem specielaw28_DenomSums_true (l : List S_api_Denom) (d : S_api_Denom) (counts : List Int) : specielaw28_DenomSums l d counts = true := by
  unfold specielaw28_DenomSums specielaw28_great denom_Leaf
  simp only [letk, letj, awake_true, ← Valid_eq, Counts_eq, ← single_eq, Bool.not_true, Bool.false_eq_true, if_false]
  by_cases h1 : (l.length : Int) > 40
  · simp [h1]
  by_cases h2 : (counts.length : Int) > 40
  · simp [h1, h2]
  have key : (if denom_Valid l != denom_Valid l then false else if (!denom_Valid l) = true then (if ((denom_Sum l counts).2 == 1) = true then (denom_Sum l counts).1 == 0 else false)
      else if (!denom_counted l counts) = true then (if ((denom_Sum l counts).2 == 1) = true then (denom_Sum l counts).1 == 0 else false)
      else if decide (specieref28_Sum l counts ≤ 1099511627776) = true then (if ((denom_Sum l counts).2 == 0) = true then (denom_Sum l counts).1 == specieref28_Sum l counts else false)
      else (if ((denom_Sum l counts).2 == 9) = true then (denom_Sum l counts).1 == 0 else false)) = true := by
    cases hv : denom_Valid l
    · simp [Sum_bad1 hv]
    · cases hc : denom_counted l counts
      · simp [Sum_bad2 hc]
      · rw [Sum_eq hv hc]
        by_cases h3 : specieref28_Sum l counts ≤ 1099511627776
        · have : ¬ specieref28_Sum l counts > 1099511627776 := by omega
          simp [h3, this]
        · have : specieref28_Sum l counts > 1099511627776 := by omega
          simp [h3, this]
  simp only [h1, h2, decide_false, Bool.false_eq_true, if_false]
  rw [key]
  cases denom_single d <;> simp
end Go.Proofs.Ytndjbfdbngkkiaa
