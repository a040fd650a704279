/- The merge of two policies accepts what both accept (plain law). -/
import Derived.Test.YtbjbogfjiifcpaaDoorL4
namespace Go.Proofs.YtbjbogfjiifcpaaDoor
open Go.RowKit
theorem mem_addAll {x : S_api_Rule} : ∀ (q l : List S_api_Rule), x ∈ addAll l q ↔ x ∈ l ∨ x ∈ q
  | [], l => by simp [addAll]
  | r :: q, l => by
    have e : addAll l (r :: q) = addAll (if r ∈ l then l else l ++ [r]) q := rfl
    rw [e, mem_addAll q]
    by_cases h : r ∈ l
    · rw [if_pos h, List.mem_cons]
      exact ⟨fun a => a.elim Or.inl fun b => Or.inr (Or.inr b), fun a => a.elim Or.inl fun b => b.elim (fun c => Or.inl (by rw [c]; exact h)) Or.inr⟩
    · rw [if_neg h, List.mem_append, List.mem_singleton, List.mem_cons, or_assoc]
theorem valid_of {p : S_api_Policy} (h : ¬ (p.Rules.length : Int) > 20) (hr : ∀ r ∈ p.Rules, specieref46_Rule r = true) : specieref46_Valid p = true := by
  unfold specieref46_Valid
  rw [if_neg (by simpa using h)]
  simp only [letk, notF]
  rw [iter_allL (c := specieref46_Rule) (fun ag p => rfl)]
  simpa using hr
/-- What a merge that succeeds is. -/
theorem merge_ok {p q : S_api_Policy} (h : (policy_Merge p q).2 = 0) : specieref46_Valid p = true ∧ specieref46_Valid q = true ∧ specieref46_Valid (policy_Merge p q).1 = true ∧ ∀ r, r ∈ (policy_Merge p q).1.Rules ↔ r ∈ p.Rules ∨ r ∈ q.Rules := by
  rw [Merge_eq] at h ⊢
  cases hp : specieref46_Valid p
  · rw [hp] at h; exact absurd h (by simp)
  cases hq : specieref46_Valid q
  · rw [hp, hq] at h; exact absurd h (by simp)
  rw [hp, hq] at h
  by_cases hn : ((addAll p.Rules q.Rules).length : Int) > 20
  · rw [if_neg (by decide), if_neg (by decide), if_pos hn] at h; exact absurd h (by decide)
  rw [if_neg (by decide), if_neg (by decide), if_neg hn]
  refine ⟨rfl, rfl, valid_of hn fun r hr => ?_, fun r => mem_addAll _ _⟩
  rcases (mem_addAll _ _).1 hr with g | g
  · exact valid_rules hp r g
  · exact valid_rules hq r g
/-- It accepts what both accept. -/
theorem both_accept {p q m : S_api_Policy} (hp : specieref46_Valid p = true) (hq : specieref46_Valid q = true) (hm : specieref46_Valid m = true) (hr : ∀ r, r ∈ m.Rules ↔ r ∈ p.Rules ∨ r ∈ q.Rules) (a n t h s : Int) :
    (policy_Accepts m a n t h s).1 = ((policy_Accepts p a n t h s).1 && (policy_Accepts q a n t h s).1) := by
  by_cases g : inR a n t h s
  · rw [accepts_in hp g, accepts_in hq g, accepts_in hm g, ← Bool.decide_and]
    refine decide_eq_decide.2 ?_
    rw [first_lt, first_lt, first_lt]
    exact ⟨fun H => ⟨fun r k => H r ((hr r).2 (Or.inl k)), fun r k => H r ((hr r).2 (Or.inr k))⟩, fun H r k => ((hr r).1 k).elim (H.1 r) (H.2 r)⟩
  · rw [accepts_out g, accepts_out g, accepts_out g]; rfl
theorem capL_both {p q m : S_api_Policy} (hr : ∀ r, r ∈ m.Rules ↔ r ∈ p.Rules ∨ r ∈ q.Rules) (s x : Int) : capL s m.Rules x = minI (capL s p.Rules x) (capL s q.Rules x) := by
  have key : ∀ y, y ≤ capL s m.Rules x ↔ y ≤ capL s p.Rules x ∧ y ≤ capL s q.Rules x := by
    intro y
    rw [capL_le, capL_le, capL_le]
    exact ⟨fun H => ⟨⟨H.1, fun r k => H.2 r ((hr r).2 (Or.inl k))⟩, H.1, fun r k => H.2 r ((hr r).2 (Or.inr k))⟩, fun H => ⟨H.1.1, fun r k => ((hr r).1 k).elim (H.1.2 r) (H.2.2 r)⟩⟩
  have h1 := (key _).1 (Int.le_refl _)
  have h2 := key (minI (capL s p.Rules x) (capL s q.Rules x))
  rw [minI_eq] at h2 ⊢
  have h3 := h2.2 ⟨Int.min_le_left _ _, Int.min_le_right _ _⟩
  omega
/-- Its limit is the lesser limit. -/
theorem both_limit {p q m : S_api_Policy} (hp : specieref46_Valid p = true) (hq : specieref46_Valid q = true) (hm : specieref46_Valid m = true) (hr : ∀ r, r ∈ m.Rules ↔ r ∈ p.Rules ∨ r ∈ q.Rules) (h s : Int) :
    (if ((policy_Limit p h s).2 != 0) = true then (if ((policy_Limit m h s).2 != 0) = true then ((policy_Limit m h s).1 == 0) else false) else (if ((policy_Limit q h s).2 != 0) = true then (if ((policy_Limit m h s).2 != 0) = true then ((policy_Limit m h s).1 == 0) else false) else (if ((policy_Limit m h s).2 == 0) = true then ((policy_Limit m h s).1 == (minI (policy_Limit p h s).1 (policy_Limit q h s).1)) else false))) = true := by
  by_cases g : inR 0 0 0 h s
  · have hh := g.2.2.2.1
    have hs := g.2.2.2.2
    rw [Limit_eq hp hh.1 hh.2 hs.1 hs.2, Limit_eq hq hh.1 hh.2 hs.1 hs.2, Limit_eq hm hh.1 hh.2 hs.1 hs.2, limit_cap hp hs.1 hs.2, limit_cap hq hs.1 hs.2, limit_cap hm hs.1 hs.2]
    have e : specieref46_First m 0 0 0 h s < 0 ↔ specieref46_First p 0 0 0 h s < 0 ∧ specieref46_First q 0 0 0 h s < 0 := by
      rw [first_lt, first_lt, first_lt]
      exact ⟨fun H => ⟨fun r k => H r ((hr r).2 (Or.inl k)), fun r k => H r ((hr r).2 (Or.inr k))⟩, fun H r k => ((hr r).1 k).elim (H.1 r) (H.2 r)⟩
    by_cases fp : specieref46_First p 0 0 0 h s < 0
    · by_cases fq : specieref46_First q 0 0 0 h s < 0
      · rw [if_pos fp, if_pos fq, if_pos (e.2 ⟨fp, fq⟩), capL_both hr]
        simp
      · rw [if_pos fp, if_neg fq, if_neg fun c => fq (e.1 c).2]
        simp
    · rw [if_neg fp, if_neg (c := specieref46_First m 0 0 0 h s < 0) fun c => fp (e.1 c).1]
      simp
  · rw [limit_out hp g, limit_out hq g, limit_out hm g]; rfl
theorem specielaw46_PolicyBoth_true (p q : S_api_Policy) (a n t h s : Int) : specielaw46_PolicyBoth p q a n t h s = true := by
  unfold specielaw46_PolicyBoth
  simp only [letk, awake_true]
  rw [if_neg (by decide)]
  split
  · rfl
  by_cases h1 : (policy_Merge p q).2 = 0
  case neg => rw [if_pos (by simpa using h1)]
  rw [if_neg (by simpa using h1)]
  by_cases h2 : (policy_Merge q p).2 = 0
  case neg => rw [if_pos (by simpa using h2)]
  rw [if_neg (by simpa using h2)]
  obtain ⟨hp, hq, hm, hr⟩ := merge_ok h1
  obtain ⟨_, _, hm', hr'⟩ := merge_ok h2
  have A1 := both_accept hp hq hm hr a n t h s
  have A2 := both_accept hq hp hm' hr' a n t h s
  have Lm := both_limit hp hq hm hr h s
  rw [Lm, A1, A2]
  cases (policy_Accepts p a n t h s).1 <;> cases (policy_Accepts q a n t h s).1 <;> rfl
end Go.Proofs.YtbjbogfjiifcpaaDoor
