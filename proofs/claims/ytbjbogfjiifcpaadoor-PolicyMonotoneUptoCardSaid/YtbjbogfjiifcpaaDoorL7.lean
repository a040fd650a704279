/- More is never easier (plain law). -/
import Derived.Test.YtbjbogfjiifcpaaDoorL5
namespace Go.Proofs.YtbjbogfjiifcpaaDoor
open Go.RowKit
theorem rule_mono {r : S_api_Rule} {a n t h s a' n' t' s' : Int} (ha : a ≤ a') (hn : n ≤ n') (ht : t ≤ t') (hs : s ≤ s') (a0 : 0 ≤ a) (s0 : 0 ≤ s) (a1 : a' ≤ 1099511627776) (s1 : s' ≤ 1099511627776)
    (H : specieref46_Accepts r a' n' t' h s' = true) : specieref46_Accepts r a n t h s = true := by
  unfold specieref46_Accepts at H ⊢
  rw [add_ok (by omega) (by omega)] at H ⊢
  by_cases k1 : r.Kind = 1
  · simp [k1] at H ⊢; omega
  by_cases k2 : r.Kind = 2
  · simp [k2] at H ⊢; omega
  by_cases k3 : r.Kind = 3
  · simp [k3] at H ⊢; omega
  by_cases k4 : r.Kind = 4
  · simp [k4] at H ⊢; omega
  simp only [beq_eq_false_iff_ne.2 k1, beq_eq_false_iff_ne.2 k2, beq_eq_false_iff_ne.2 k3, beq_eq_false_iff_ne.2 k4, Bool.false_eq_true, if_false] at H ⊢
  exact H
/-- What an answer always is. -/
theorem accepts_shape (p : S_api_Policy) (a n t h s : Int) : -1 ≤ (policy_Accepts p a n t h s).2 ∧ (policy_Accepts p a n t h s).2 < p.Rules.length ∧ ((policy_Accepts p a n t h s).1 = true → (policy_Accepts p a n t h s).2 = -1) := by
  have l0 : (-1 : Int) < (p.Rules.length : Int) := by omega
  cases hp : specieref46_Valid p
  · rw [accepts_invalid hp]; exact ⟨by decide, l0, fun _ => rfl⟩
  by_cases g : inR a n t h s
  · rw [accepts_in hp g]
    have f := first_ge (p := p) (a := a) (n := n) (t := t) (h := h) (s := s)
    exact ⟨f.1, f.2, fun e => by have := of_decide_eq_true e; show specieref46_First p a n t h s = -1; omega⟩
  · rw [accepts_out g]; exact ⟨by decide, l0, fun _ => rfl⟩
theorem accepts_mono {p : S_api_Policy} {a n t h s a' n' t' s' : Int} (ha : a ≤ a') (hn : n ≤ n') (ht : t ≤ t') (hs : s ≤ s') (a0 : 0 ≤ a) (n0 : 0 ≤ n) (t0 : 0 ≤ t) (s0 : 0 ≤ s)
    (H : (policy_Accepts p a' n' t' h s').1 = true) : (policy_Accepts p a n t h s).1 = true := by
  cases hp : specieref46_Valid p
  · rw [accepts_invalid hp] at H; cases H
  by_cases g : inR a' n' t' h s'
  · have g' : inR a n t h s := ⟨⟨a0, by have := g.1.2; omega⟩, ⟨n0, by have := g.2.1.2; omega⟩, ⟨t0, by have := g.2.2.1.2; omega⟩, g.2.2.2.1, ⟨s0, by have := g.2.2.2.2.2; omega⟩⟩
    rw [accepts_in hp g] at H
    rw [accepts_in hp g']
    have H1 := first_lt.1 (of_decide_eq_true H)
    exact decide_eq_true (first_lt.2 fun r hr => rule_mono ha hn ht hs a0 s0 g.1.2 g.2.2.2.2.2 (H1 r hr))
  · rw [accepts_out g] at H; cases H
theorem specielaw46_PolicyMonotone_true (p : S_api_Policy) (am co ho op : List Int) (h : Int) : specielaw46_PolicyMonotone p am co ho op h = true := by
  unfold specielaw46_PolicyMonotone
  simp only [letk, awake_true]
  rw [if_neg (by decide)]
  split
  · rfl
  split
  · rfl
  rename_i hneg
  simp only [minI_eq, maxI_eq, decide_eq_true_eq] at hneg ⊢
  generalize gt am 0 = a0 at *
  generalize gt am 1 = a1 at *
  generalize gt co 0 = c0 at *
  generalize gt co 1 = c1 at *
  generalize gt ho 0 = h0 at *
  generalize gt ho 1 = h1 at *
  generalize gt op 0 = o0 at *
  generalize gt op 1 = o1 at *
  have hm := accepts_mono (p := p) (h := h) (a := min a0 a1) (a' := max a0 a1) (n := min c0 c1) (n' := max c0 c1) (t := min h0 h1) (t' := max h0 h1) (s := min o0 o1) (s' := max o0 o1) (by omega) (by omega) (by omega) (by omega) (by omega) (by omega) (by omega) (by omega)
  obtain ⟨u1, u2, u3⟩ := accepts_shape p (min a0 a1) (min c0 c1) (min h0 h1) h (min o0 o1)
  obtain ⟨_, _, w3⟩ := accepts_shape p (max a0 a1) (max c0 c1) (max h0 h1) h (max o0 o1)
  generalize policy_Accepts p (min a0 a1) (min c0 c1) (min h0 h1) h (min o0 o1) = A at *
  generalize policy_Accepts p (max a0 a1) (max c0 c1) (max h0 h1) h (max o0 o1) = B at *
  obtain ⟨A1, A2⟩ := A
  obtain ⟨B1, B2⟩ := B
  simp only at u1 u2
  cases A1 <;> cases B1
  · simp; omega
  · exact absurd (hm rfl) (by simp)
  · have e1 : A2 = -1 := u3 rfl
    subst e1
    simp; omega
  · have e1 : A2 = -1 := u3 rfl
    have e2 : B2 = -1 := w3 rfl
    subst e1; subst e2
    simp; omega
end Go.Proofs.YtbjbogfjiifcpaaDoor
