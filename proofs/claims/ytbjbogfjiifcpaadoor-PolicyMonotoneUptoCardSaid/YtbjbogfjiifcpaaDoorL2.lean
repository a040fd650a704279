/- Accepts and Limit return what is specified (plain law). -/
import Derived.Test.YtbjbogfjiifcpaaDoorL1
namespace Go.Proofs.YtbjbogfjiifcpaaDoor
open Go.RowKit
theorem specielaw46_PolicyAccepts_true (p : S_api_Policy) (a n t h s : Int) : specielaw46_PolicyAccepts p a n t h s = true := by
  unfold specielaw46_PolicyAccepts
  simp only [letk, awake_true]
  rw [if_neg (by decide)]
  split
  · rfl
  cases hp : specieref46_Valid p
  · rw [accepts_invalid hp, limit_invalid hp]; rfl
  simp only [Bool.not_true, Bool.false_eq_true, if_false]
  have rest : (if (!specieref46_Payment 0 0 0 h s) = true then (if ((policy_Limit p h s).2 == 2) = true then ((policy_Limit p h s).1 == 0) else false) else (if (!(specieref46_Limit p h s).2) = true then (if ((policy_Limit p h s).2 == 16) = true then ((policy_Limit p h s).1 == 0) else false) else (if ((policy_Limit p h s).2 == 0) = true then ((policy_Limit p h s).1 == (specieref46_Limit p h s).1) else false))) = true := by
    by_cases hr : inR 0 0 0 h s
    · rw [payment_iff.2 hr, Limit_eq hp hr.2.2.2.1.1 hr.2.2.2.1.2 hr.2.2.2.2.1 hr.2.2.2.2.2]
      cases (specieref46_Limit p h s).2 <;> simp
    · rw [Bool.eq_false_iff.2 fun e => hr (payment_iff.1 e), limit_out hp hr]; rfl
  refine letj_rule (P := fun _ : Unit => True) (fun _ _ => rest) fun J hJ => ?_
  by_cases hr : inR a n t h s
  · rw [payment_iff.2 hr, accepts_in hp hr]
    simp [hJ () trivial]
  · rw [Bool.eq_false_iff.2 fun e => hr (payment_iff.1 e), accepts_out hr]
    simp [hJ () trivial]
end Go.Proofs.YtbjbogfjiifcpaaDoor
