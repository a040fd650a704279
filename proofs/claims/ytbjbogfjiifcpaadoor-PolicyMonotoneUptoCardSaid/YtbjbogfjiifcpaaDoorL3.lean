/- The limit is exact; each hour is inside or outside (plain law). -/
import Derived.Test.YtbjbogfjiifcpaaDoorL2
namespace Go.Proofs.YtbjbogfjiifcpaaDoor
open Go.RowKit
theorem first_lt {p : S_api_Policy} {a n t h s : Int} : specieref46_First p a n t h s < 0 ↔ ∀ r ∈ p.Rules, specieref46_Accepts r a n t h s = true := by
  have hF : decide (specieref46_First p a n t h s ≥ 0) = p.Rules.any fun r => !specieref46_Accepts r a n t h s := by
    unfold specieref46_First
    exact iter_any (C := fun r => !specieref46_Accepts r a n t h s) (fun ag q => rfl)
  constructor
  · intro hl r hr
    have : decide (specieref46_First p a n t h s ≥ 0) = false := decide_eq_false (by omega)
    rw [this] at hF
    have := List.any_eq_false.1 hF.symm r hr
    simpa using this
  · intro hall
    have : (p.Rules.any fun r => !specieref46_Accepts r a n t h s) = false := List.any_eq_false.2 fun r hr => by simp [hall r hr]
    rw [this] at hF
    have := of_decide_eq_false hF
    omega
theorem first_ge {p : S_api_Policy} {a n t h s : Int} : -1 ≤ specieref46_First p a n t h s ∧ specieref46_First p a n t h s < p.Rules.length := by
  unfold specieref46_First
  rcases iter_find (C := fun j => !specieref46_Accepts (gt p.Rules j) a n t h s) (n := (p.Rules.length : Int)) (F := fun (ag1 : Int → Int) (p1 : Int) => (if (decide (p1 < (p.Rules.length : Int))) then (letk (specieref46_Accepts (gt p.Rules p1) a n t h s) (fun (x4 : Bool) => (if (!x4) then p1 else (ag1 (p1 + 1))))) else (-1))) (d := fun _ => default) (fun ag q => by by_cases hq : q < (p.Rules.length : Int) <;> simp [hq, letk]) (((p.Rules.length : Int) - 0).toNat + 1) 0 (by omega) (by omega) with ⟨h1, _⟩ | ⟨h1, h2, _⟩
  · rw [h1]; omega
  · exact ⟨by omega, h2⟩
/-- What limits the amount. -/
def capOf (r : S_api_Rule) (s m : Int) : Int := if r.Kind = 1 then min m r.A else if r.Kind = 4 then min m (r.A - s) else m
def capL (s : Int) (l : List S_api_Rule) (m : Int) : Int := l.foldl (fun m r => capOf r s m) m
theorem capL_le (s : Int) : ∀ (l : List S_api_Rule) (m x : Int), x ≤ capL s l m ↔ x ≤ m ∧ ∀ r ∈ l, (r.Kind = 1 → x ≤ r.A) ∧ (r.Kind = 4 → x ≤ r.A - s)
  | [], m, x => by simp [capL]
  | r :: l, m, x => by
    have ih := capL_le s l (capOf r s m) x
    have e : capL s (r :: l) m = capL s l (capOf r s m) := rfl
    rw [e, ih]
    have : x ≤ capOf r s m ↔ x ≤ m ∧ (r.Kind = 1 → x ≤ r.A) ∧ (r.Kind = 4 → x ≤ r.A - s) := by
      unfold capOf
      split
      · rename_i h; simp [h]; omega
      · rename_i h; split
        · rename_i h'; simp [h']; omega
        · rename_i h'; simp [h, h']
    rw [this]
    simp only [List.mem_cons, forall_eq_or_imp]
    exact ⟨fun ⟨⟨a, b, c⟩, d⟩ => ⟨a, ⟨b, c⟩, d⟩, fun ⟨a, ⟨b, c⟩, d⟩ => ⟨⟨a, b, c⟩, d⟩⟩
theorem rule_range {r : S_api_Rule} (h : specieref46_Rule r = true) : 0 ≤ r.A ∧ r.A ≤ 1099511627776 := by
  unfold specieref46_Rule at h
  simp only [letk] at h
  by_cases h1 : r.Kind = 1
  · simp only [h1, beq_self_eq_true, if_true] at h; obtain ⟨h, _⟩ := ifT h; exact in_iff.1 h
  by_cases h4 : r.Kind = 4
  · simp only [h4, beq_self_eq_true, if_true] at h; simp at h; exact in_iff.1 h.1
  by_cases h2 : r.Kind = 2
  · simp only [h2] at h; simp at h; have := in_iff.1 h.1; omega
  by_cases h3 : r.Kind = 3
  · simp only [h3] at h; simp at h; have := in_iff.1 h.1; omega
  by_cases h5 : r.Kind = 5
  · simp only [h5] at h; simp at h; have := in_iff.1 h.1; omega
  · simp [h1, h2, h3, h4, h5] at h
theorem valid_rules {p : S_api_Policy} (h : specieref46_Valid p = true) : ∀ r ∈ p.Rules, specieref46_Rule r = true := by
  unfold specieref46_Valid at h
  obtain ⟨_, h⟩ := ifF h
  simp only [letk, notF] at h
  rw [iter_allL (c := specieref46_Rule) (fun ag p => rfl)] at h
  simpa using h
/-- What the limit is. -/
theorem limit_cap {p : S_api_Policy} {h s : Int} (hp : specieref46_Valid p = true) (s0 : 0 ≤ s) (s1 : s ≤ 1099511627776) : specieref46_Limit p h s = if specieref46_First p 0 0 0 h s < 0 then (capL s p.Rules 1099511627776, true) else (0, false) := by
  have hv := valid_rules hp
  unfold specieref46_Limit
  simp only [letk]
  by_cases hf : specieref46_First p 0 0 0 h s < 0
  · rw [if_neg (by simpa using hf), if_pos hf]
    have key : ∀ (F : ((Int × Int) → (Int × Bool)) → Int × Int → Int × Bool), (∀ ag5 p5, F ag5 p5 = (if (decide (p5.2 < (p.Rules.length : Int))) then (letj (fun (p8 : Int) => (if ((gt p.Rules p5.2).Kind == 4) then (if (decide ((subI .i64 (gt p.Rules p5.2).A s) < p8)) then (ag5 ((subI .i64 (gt p.Rules p5.2).A s), (p5.2 + 1))) else (ag5 (p8, (p5.2 + 1)))) else (ag5 (p8, (p5.2 + 1))))) (fun j8 => (if ((gt p.Rules p5.2).Kind == 1) then (if (decide ((gt p.Rules p5.2).A < p5.1)) then (j8 (gt p.Rules p5.2).A) else (j8 p5.1)) else (j8 p5.1)))) else (p5.1, true))) → ∀ (fuel k : Nat) (m : Int), k ≤ p.Rules.length → p.Rules.length - k < fuel → iter fuel F (fun _ => default) (m, (k : Int)) = (capL s (p.Rules.drop k) m, true) := by
      intro F hF fuel
      induction fuel with
      | zero => intro k m _ h; omega
      | succ n ih =>
        intro k m hk h
        rw [iter, hF]
        by_cases hlt : k < p.Rules.length
        · rw [if_pos (decide_eq_true (show (k : Int) < (p.Rules.length : Int) by omega))]
          dsimp only [letj]
          rw [gt_at hlt]
          have hr := rule_range (hv p.Rules[k] (List.getElem_mem hlt))
          rw [List.drop_eq_getElem_cons hlt]
          have nx : ∀ m', iter n F (fun _ => default) (m', (k : Int) + 1) = (capL s (p.Rules.drop (k + 1)) m', true) := fun m' => by
            have := ih (k + 1) m' hlt (by omega)
            rw [show ((k + 1 : Nat) : Int) = (k : Int) + 1 by omega] at this
            exact this
          have es : subI .i64 p.Rules[k].A s = p.Rules[k].A - s := sub_ok (by omega) (by omega)
          rw [es]
          show _ = (capL s (p.Rules.drop (k + 1)) (capOf p.Rules[k] s m), true)
          by_cases k1 : p.Rules[k].Kind = 1
          · simp only [k1, beq_self_eq_true, if_true, show ((1 : Int) == 4) = false by decide, Bool.false_eq_true, if_false, capOf]
            by_cases c : p.Rules[k].A < m
            · simp only [c, decide_true, if_true]; rw [nx, Int.min_eq_right (by omega)]
            · simp only [c, decide_false, Bool.false_eq_true, if_false]; rw [nx, Int.min_eq_left (by omega)]
          · simp only [beq_eq_false_iff_ne.2 k1, Bool.false_eq_true, if_false, capOf, k1]
            by_cases k4 : p.Rules[k].Kind = 4
            · simp only [k4, beq_self_eq_true, if_true]
              by_cases c : p.Rules[k].A - s < m
              · simp only [c, decide_true, if_true]; rw [nx, Int.min_eq_right (by omega)]
              · simp only [c, decide_false, Bool.false_eq_true, if_false]; rw [nx, Int.min_eq_left (by omega)]
            · simp only [beq_eq_false_iff_ne.2 k4, Bool.false_eq_true, if_false, k4]; rw [nx]
        · obtain rfl : k = p.Rules.length := by omega
          simp only [Int.lt_irrefl, decide_false, Bool.false_eq_true, if_false]
          rw [List.drop_length]; rfl
    exact key _ (fun _ _ => rfl) _ 0 _ (Nat.zero_le _) (by omega)
  · rw [if_pos (by simp; omega), if_neg hf]
/-- Which amounts are accepted without coins and hops. -/
theorem accept_amount {p : S_api_Policy} {x h s : Int} (hp : specieref46_Valid p = true) (x0 : 0 ≤ x) (x1 : x ≤ 1099511627776) (s0 : 0 ≤ s) (s1 : s ≤ 1099511627776) :
    specieref46_First p x 0 0 h s < 0 ↔ specieref46_First p 0 0 0 h s < 0 ∧ x ≤ capL s p.Rules 1099511627776 := by
  rw [first_lt, first_lt, capL_le]
  have hv := valid_rules hp
  have key : ∀ r ∈ p.Rules, (specieref46_Accepts r x 0 0 h s = true ↔ specieref46_Accepts r 0 0 0 h s = true ∧ (r.Kind = 1 → x ≤ r.A) ∧ (r.Kind = 4 → x ≤ r.A - s)) := by
    intro r hr
    have hA := rule_range (hv r hr)
    unfold specieref46_Accepts
    rw [add_ok (by omega) (by omega), add_ok (by omega) (by omega)]
    by_cases k1 : r.Kind = 1
    · simp [k1]; omega
    by_cases k4 : r.Kind = 4
    · simp [k4]; omega
    simp [k1, k4]
  constructor
  · intro H
    exact ⟨fun r hr => ((key r hr).1 (H r hr)).1, x1, fun r hr => ((key r hr).1 (H r hr)).2⟩
  · rintro ⟨H, _, H2⟩ r hr
    exact (key r hr).2 ⟨H r hr, H2 r hr⟩
theorem specielaw46_PolicyLimited_true (p : S_api_Policy) (h s a : Int) : specielaw46_PolicyLimited p h s a = true := by
  unfold specielaw46_PolicyLimited
  simp only [letk, awake_true]
  rw [if_neg (by decide)]
  split
  · rfl
  cases hp : specieref46_Valid p
  · rw [limit_invalid hp, accepts_invalid hp, accepts_invalid hp]; rfl
  by_cases hr : inR 0 0 0 h s
  case neg =>
    have hra : ∀ x, ¬ inR x 0 0 h s := fun x e => hr ⟨by decide, by decide, by decide, e.2.2.2⟩
    rw [limit_out hp hr, accepts_out (hra _), accepts_out (hra _)]; rfl
  have hs := hr.2.2.2.2
  have hh := hr.2.2.2.1
  rw [Limit_eq hp hh.1 hh.2 hs.1 hs.2, limit_cap hp hs.1 hs.2]
  have acc : ∀ x, (policy_Accepts p x 0 0 h s).1 = decide (inR x 0 0 h s ∧ specieref46_First p 0 0 0 h s < 0 ∧ x ≤ capL s p.Rules 1099511627776) := by
    intro x
    by_cases hx : inR x 0 0 h s
    · rw [accepts_in hp hx]
      exact decide_eq_decide.2 ((accept_amount hp hx.1.1 hx.1.2 hs.1 hs.2).trans ⟨fun e => ⟨hx, e⟩, fun e => e.2⟩)
    · rw [accepts_out hx]; symm; exact decide_eq_false fun e => hx e.1
  by_cases hf : specieref46_First p 0 0 0 h s < 0
  · rw [if_pos hf]
    simp only [if_true, bne_self_eq_false, Bool.false_eq_true, if_false]
    generalize hN : capL s p.Rules 1099511627776 = N at acc ⊢
    have N1 : N ≤ 1099511627776 := ((capL_le s p.Rules 1099511627776 N).1 (by rw [hN]; exact Int.le_refl _)).1
    have N0 : 0 ≤ N := by
      have := (accept_amount (x := 0) (h := h) hp (by decide) (by decide) hs.1 hs.2).1 hf
      rw [hN] at this; exact this.2
    have inN : ∀ x, 0 ≤ x → x ≤ 1099511627776 → inR x 0 0 h s := fun x h0 h1 => ⟨⟨h0, h1⟩, hr.2⟩
    have aN : policy_Accepts p N 0 0 h s = (true, -1) := by
      have h1 := accepts_in hp (inN N N0 N1)
      have h2 : specieref46_First p N 0 0 h s < 0 := (accept_amount hp N0 N1 hs.1 hs.2).2 ⟨hf, by rw [hN]; exact Int.le_refl _⟩
      have h3 := first_ge (p := p) (a := N) (n := 0) (t := 0) (h := h) (s := s)
      rw [h1, decide_eq_true h2, show specieref46_First p N 0 0 h s = -1 by omega]
    rw [aN, add_ok (by omega) (by omega)]
    have a1 : (policy_Accepts p (N + 1) 0 0 h s).1 = false := by rw [acc]; exact decide_eq_false fun e => by have := e.2.2; omega
    rw [a1, acc a, decide_eq_false (show ¬ N < 0 by omega), decide_eq_false (show ¬ N > 1099511627776 by omega)]
    simp only [Bool.false_eq_true, if_false, Bool.not_true, bne_self_eq_false, Bool.not_false, if_true]
    by_cases ha : a ≥ 0
    · rw [decide_eq_true ha]
      simp only [if_true]
      rw [beq_iff_eq]
      exact decide_eq_decide.2 ⟨fun e => e.2.2, fun e => ⟨inN a ha (by omega), hf, e⟩⟩
    · rw [decide_eq_false ha]
      simp only [Bool.false_eq_true, if_false]
      rw [beq_iff_eq]
      exact decide_eq_false fun e => ha e.1.1.1
  · rw [if_neg hf]
    simp only [Bool.false_eq_true, if_false]
    rw [acc, acc, decide_eq_false fun e => hf e.2.1, decide_eq_false fun e => hf e.2.1]
    rfl
end Go.Proofs.YtbjbogfjiifcpaaDoor
