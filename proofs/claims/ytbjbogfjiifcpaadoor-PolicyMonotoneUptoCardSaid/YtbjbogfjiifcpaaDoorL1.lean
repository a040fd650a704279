/- Policies: what the program reckons of a policy is what is specified (plain law). -/
import Derived.Test.YtbjbogfjiifcpaaDoorH1
namespace Go.Proofs.YtbjbogfjiifcpaaDoor
open Go.RowKit
theorem awake_true : specielaw46_awake = true := by kernel_rfl
theorem valid_eq (r : S_api_Rule) : policy_valid r = specieref46_Rule r := by
  unfold policy_valid specieref46_Rule
  by_cases h1 : r.Kind = 1 <;> by_cases h2 : r.Kind = 2 <;> by_cases h3 : r.Kind = 3 <;> by_cases h4 : r.Kind = 4 <;> by_cases h5 : r.Kind = 5 <;> simp [letk, letj, h1, h2, h3, h4, h5, policy_within, specieref46_in]
theorem polAny (l : List S_api_Rule) : slices_ContainsFunc_api_Rule_api_Rule_at_policy_Valid_1 l = l.any policy_Valid_1 := by
  unfold slices_ContainsFunc_api_Rule_api_Rule_at_policy_Valid_1 slices_IndexFunc_api_Rule_api_Rule_at_policy_Valid_1
  exact iter_any (fun ag p => rfl)
theorem polValid_eq (p : S_api_Policy) : policy_Valid p = specieref46_Valid p := by
  unfold policy_Valid specieref46_Valid
  by_cases h : p.Rules.length ≤ 20
  · have h1 : decide ((p.Rules.length : Int) ≤ 20) = true := decide_eq_true (by omega)
    have h2 : decide ((p.Rules.length : Int) > 20) = false := decide_eq_false (by omega)
    rw [h1, h2, if_pos rfl, if_neg (by decide)]
    simp only [letk, notF]
    rw [iter_allL (c := specieref46_Rule) (fun ag p => rfl)]
    rw [polAny]
    have e : policy_Valid_1 = fun x => !specieref46_Rule x := funext fun x => by simp [policy_Valid_1, letk, valid_eq]
    rw [e]
    simp [List.all_eq_not_any_not]
  · have h1 : decide ((p.Rules.length : Int) ≤ 20) = false := decide_eq_false (by omega)
    have h2 : decide ((p.Rules.length : Int) > 20) = true := decide_eq_true (by omega)
    rw [h1, h2, if_pos rfl, if_neg (by decide)]
theorem first_eq (p : S_api_Policy) (a b c d e : Int) : slices_IndexFunc_api_Rule_api_Rule_at_policy_Accepts_1 p.Rules a b c d e = specieref46_First p a b c d e := rfl
theorem Limit_eq {p : S_api_Policy} {h t : Int} (hp : specieref46_Valid p = true) (h0 : 0 ≤ h) (h1 : h ≤ 23) (t0 : 0 ≤ t) (t1 : t ≤ 1099511627776) :
    policy_Limit p h t = if (specieref46_Limit p h t).2 = true then ((specieref46_Limit p h t).1, 0) else (0, 16) := by
  have w : ∀ x lo hi : Int, lo ≤ x → x ≤ hi → policy_within x lo hi = true := fun x lo hi g1 g2 => by unfold policy_within; simp [g1, g2]
  generalize hL : specieref46_Limit p h t = L
  unfold specieref46_Limit at hL
  simp only [letk] at hL
  rw [← first_eq] at hL
  generalize hX : slices_IndexFunc_api_Rule_api_Rule_at_policy_Accepts_1 p.Rules 0 0 0 h t = X at hL
  unfold policy_Limit policy_Accepts
  simp only [letk, polValid_eq, hp, w _ _ _ h0 h1, w _ _ _ t0 t1, w 0 0 1099511627776 (by decide) (by decide), w 0 0 1000 (by decide) (by decide), w 0 0 8 (by decide) (by decide), hX]
  simp only [Bool.not_true, Bool.false_eq_true, if_false]
  by_cases hf : X ≥ 0
  · rw [if_pos (decide_eq_true hf)] at hL
    subst hL
    rw [decide_eq_false (show ¬ X < 0 by omega)]; rfl
  · rw [if_neg (by simpa using hf)] at hL
    rw [decide_eq_true (show X < 0 by omega), if_neg (by decide)]
    have key := iter_simR (Q := fun (r : Int × Int) (s : Int × Bool) => s.2 = true ∧ r = (s.1, 0)) (Rl := fun (a b : Int × Int) => a = b) (ma := fun q : Int × Int => ((p.Rules.length : Int) - q.2).toNat)
      (F := fun (ag17 : (Int × Int) → (Int × Int)) (p17 : Int × Int) => (if (decide (p17.2 < (p.Rules.length : Int))) then (if ((gt p.Rules p17.2).Kind == 1) then (ag17 ((minI p17.1 (gt p.Rules p17.2).A), (p17.2 + 1))) else (if ((gt p.Rules p17.2).Kind == 4) then (ag17 ((minI p17.1 (subI .i64 (gt p.Rules p17.2).A t)), (p17.2 + 1))) else (ag17 (p17.1, (p17.2 + 1))))) else (p17.1, 0)))
      (G := fun (ag5 : (Int × Int) → (Int × Bool)) (p5 : Int × Int) => (if (decide (p5.2 < (p.Rules.length : Int))) then (letj (fun (p8 : Int) => (if ((gt p.Rules p5.2).Kind == 4) then (if (decide ((subI .i64 (gt p.Rules p5.2).A t) < p8)) then (ag5 ((subI .i64 (gt p.Rules p5.2).A t), (p5.2 + 1))) else (ag5 (p8, (p5.2 + 1)))) else (ag5 (p8, (p5.2 + 1))))) (fun j8 => (if ((gt p.Rules p5.2).Kind == 1) then (if (decide ((gt p.Rules p5.2).A < p5.1)) then (j8 (gt p.Rules p5.2).A) else (j8 p5.1)) else (j8 p5.1)))) else (p5.1, true)))
      (d := fun _ => default) (d' := fun _ => default) (fun ag ag' a b e hag => ?_) (((p.Rules.length : Int) - 0).toNat + 1) (((p.Rules.length : Int) - 0).toNat + 1) (1099511627776, 0) (1099511627776, 0) rfl (by show ((p.Rules.length : Int) - 0).toNat < _; omega) (by show ((p.Rules.length : Int) - 0).toNat < _; omega)
    · rw [hL] at key
      rw [if_pos key.1]; exact key.2
    · subst e
      obtain ⟨m, i⟩ := a
      by_cases hi : i < (p.Rules.length : Int)
      · simp only [decide_eq_true hi, if_true]
        have hm : ∀ x : Int, ((p.Rules.length : Int) - (x, i + 1).2).toNat < ((p.Rules.length : Int) - (m, i).2).toNat := fun x => by
          show ((p.Rules.length : Int) - (i + 1)).toNat < ((p.Rules.length : Int) - i).toNat
          omega
        by_cases k1 : (gt p.Rules i).Kind = 1
        · simp only [k1, beq_self_eq_true, if_true, letj, minI]
          by_cases c : (gt p.Rules i).A < m
          · simp only [c, decide_true, if_true]
            exact hag _ _ rfl (hm _)
          · simp only [c, decide_false, Bool.false_eq_true, if_false]
            exact hag _ _ rfl (hm _)
        · by_cases k4 : (gt p.Rules i).Kind = 4
          · simp only [k4, beq_self_eq_true, if_true, letj, minI]
            by_cases c : subI .i64 (gt p.Rules i).A t < m
            · simp only [c, decide_true, if_true]
              exact hag _ _ rfl (hm _)
            · simp only [c, decide_false, Bool.false_eq_true, if_false]
              exact hag _ _ rfl (hm _)
          · simp only [beq_eq_false_iff_ne.2 k1, beq_eq_false_iff_ne.2 k4, Bool.false_eq_true, if_false, letj]
            exact hag _ _ rfl (hm _)
      · simp only [decide_eq_false hi, Bool.false_eq_true, if_false]
        exact ⟨trivial, trivial⟩

theorem in_iff {x lo hi : Int} : specieref46_in x lo hi = true ↔ lo ≤ x ∧ x ≤ hi := by
  unfold specieref46_in
  by_cases a : x ≥ lo <;> simp [a] <;> omega
theorem within_eq (x lo hi : Int) : policy_within x lo hi = specieref46_in x lo hi := Eq.trans rfl rfl
/-- A payment in range. -/
def inR (a n t h s : Int) : Prop := (0 ≤ a ∧ a ≤ 1099511627776) ∧ (0 ≤ n ∧ n ≤ 1000) ∧ (0 ≤ t ∧ t ≤ 8) ∧ (0 ≤ h ∧ h ≤ 23) ∧ (0 ≤ s ∧ s ≤ 1099511627776)
instance (a n t h s : Int) : Decidable (inR a n t h s) := by unfold inR; exact inferInstance
theorem payment_iff {a n t h s : Int} : specieref46_Payment a n t h s = true ↔ inR a n t h s := by
  unfold specieref46_Payment inR
  simp only [letk]
  rw [← in_iff, ← in_iff, ← in_iff, ← in_iff, ← in_iff]
  cases specieref46_in a 0 1099511627776 <;> cases specieref46_in n 0 1000 <;> cases specieref46_in t 0 8 <;> cases specieref46_in h 0 23 <;> cases specieref46_in s 0 1099511627776 <;> simp
theorem accepts_in {p : S_api_Policy} {a n t h s : Int} (hp : specieref46_Valid p = true) (hr : inR a n t h s) : policy_Accepts p a n t h s = (decide (specieref46_First p a n t h s < 0), specieref46_First p a n t h s) := by
  have w : ∀ x lo hi : Int, lo ≤ x ∧ x ≤ hi → policy_within x lo hi = true := fun x lo hi h => by rw [within_eq]; exact in_iff.2 h
  have hX := first_eq p a n t h s
  generalize specieref46_First p a n t h s = X at hX ⊢
  unfold policy_Accepts
  simp only [letk, polValid_eq, hp, w _ _ _ hr.1, w _ _ _ hr.2.1, w _ _ _ hr.2.2.1, w _ _ _ hr.2.2.2.1, w _ _ _ hr.2.2.2.2, hX]
  rfl
theorem accepts_invalid {p : S_api_Policy} {a n t h s : Int} (hp : specieref46_Valid p = false) : policy_Accepts p a n t h s = (false, -1) := by
  unfold policy_Accepts
  simp only [letk, polValid_eq, hp]
  rfl
theorem accepts_out {p : S_api_Policy} {a n t h s : Int} (hr : ¬ inR a n t h s) : policy_Accepts p a n t h s = (false, -1) := by
  unfold inR at hr
  rw [← in_iff, ← in_iff, ← in_iff, ← in_iff, ← in_iff] at hr
  unfold policy_Accepts
  simp only [letk, within_eq]
  cases policy_Valid p <;> cases e1 : specieref46_in a 0 1099511627776 <;> cases e2 : specieref46_in n 0 1000 <;> cases e3 : specieref46_in t 0 8 <;> cases e4 : specieref46_in h 0 23 <;> cases e5 : specieref46_in s 0 1099511627776 <;> first | rfl | (exact absurd ⟨e1, e2, e3, e4, e5⟩ hr)
theorem limit_invalid {p : S_api_Policy} {h s : Int} (hp : specieref46_Valid p = false) : policy_Limit p h s = (0, 1) := by
  unfold policy_Limit
  simp only [letk, polValid_eq, hp]
  rfl
theorem limit_out {p : S_api_Policy} {h s : Int} (hp : specieref46_Valid p = true) (hr : ¬ inR 0 0 0 h s) : policy_Limit p h s = (0, 2) := by
  have hr' : ¬ ((0 ≤ h ∧ h ≤ 23) ∧ (0 ≤ s ∧ s ≤ 1099511627776)) := fun e => hr ⟨by decide, by decide, by decide, e.1, e.2⟩
  rw [← in_iff, ← in_iff] at hr'
  unfold policy_Limit
  simp only [letk, polValid_eq, hp, within_eq]
  cases e4 : specieref46_in h 0 23 <;> cases e5 : specieref46_in s 0 1099511627776 <;> first | rfl | (exact absurd ⟨e4, e5⟩ hr')
theorem great1 (l : List S_api_Policy) : specielaw46_great l = l.any specielaw46_great_1 := by
  unfold specielaw46_great slices_ContainsFunc_api_Policy_api_Policy_at_specielaw46_great_1 slices_IndexFunc_api_Policy_api_Policy_at_specielaw46_great_1
  exact iter_any (fun ag p => rfl)
end Go.Proofs.YtbjbogfjiifcpaaDoor
