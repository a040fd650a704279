/- MerchantForms: New, Valid, Block, and Go return what is specified (plain law). -/
import Derived.Test.YtdidhdgdklkgeaaH2
namespace Go.Proofs.Ytdidhdgdklkgeaa
open Go.RowKit
theorem valid_eq (r : S_api_Rule) : policy_valid r = specieref46_Rule r := by
  unfold policy_valid specieref46_Rule
  by_cases h1 : r.Kind = 1 <;> by_cases h2 : r.Kind = 2 <;> by_cases h3 : r.Kind = 3 <;> by_cases h4 : r.Kind = 4 <;> by_cases h5 : r.Kind = 5 <;> simp [letk, letj, h1, h2, h3, h4, h5, policy_within, specieref46_in]
theorem polAny (l : List S_api_Rule) : slices_ContainsFunc_api_Rule_api_Rule_at_policy_Valid_1 l = l.any policy_Valid_1 := by
  unfold slices_ContainsFunc_api_Rule_api_Rule_at_policy_Valid_1 slices_IndexFunc_api_Rule_api_Rule_at_policy_Valid_1
  exact iter_any (fun ag p => rfl)
theorem polValid_eq (p : S_api_Policy) : policy_Valid p = specieref46_Valid p := by
  unfold policy_Valid specieref46_Valid
  by_cases h : p.Rules.length ≤ 20
  · have h1 : decide ((p.Rules.length : Int) ≤ 20) = true := decide_eq_true (by omega)
    have h2 : decide ((p.Rules.length : Int) > 20) = false := decide_eq_false (by omega)
    rw [h1, h2, if_pos rfl, if_neg (by decide)]
    simp only [letk, notF]
    rw [iter_allL (c := specieref46_Rule) (fun ag p => rfl)]
    rw [polAny]
    have e : policy_Valid_1 = fun x => !specieref46_Rule x := funext fun x => by simp [policy_Valid_1, letk, valid_eq]
    rw [e]
    simp [List.all_eq_not_any_not]
  · have h1 : decide ((p.Rules.length : Int) ≤ 20) = false := decide_eq_false (by omega)
    have h2 : decide ((p.Rules.length : Int) > 20) = true := decide_eq_true (by omega)
    rw [h1, h2, if_pos rfl, if_neg (by decide)]
theorem payValid_eq (v : S_api_Invoice) : payment_valid v = specieref38_Valid v := by
  unfold payment_valid specieref38_Valid specieref38_in
  simp only [letk]
  by_cases a1 : v.Amount ≥ 1 <;> by_cases a2 : v.Amount ≤ 1099511627776 <;> by_cases a3 : v.Time ≥ 0 <;> by_cases a4 : v.Time ≤ 1099511627776 <;> by_cases a5 : v.Number ≥ 0 <;> simp [a1, a2, a3, a4, a5]
theorem invoice_eq (m : S_api_Merchant) (v : S_api_Invoice) : merchant_invoice m v = specieref47_invoice m v := by
  unfold merchant_invoice specieref47_invoice payment_Context
  simp only [letk, payValid_eq]
  cases specieref38_Valid v <;> simp
theorem payValid_iff {v : S_api_Invoice} : specieref38_Valid v = true ↔ 1 ≤ v.Amount ∧ v.Amount ≤ 1099511627776 ∧ 0 ≤ v.Time ∧ v.Time ≤ 1099511627776 ∧ 0 ≤ v.Number ∧ v.Number ≤ 1073741824 := by
  unfold specieref38_Valid specieref38_in
  simp only [letk]
  by_cases a1 : v.Amount ≥ 1 <;> by_cases a2 : v.Amount ≤ 1099511627776 <;> by_cases a3 : v.Time ≥ 0 <;> by_cases a4 : v.Time ≤ 1099511627776 <;> by_cases a5 : v.Number ≥ 0 <;> simp [a1, a2, a3, a4, a5] <;> omega
theorem q23_refl (a : List Int) : q_arr23 a a = true := by simp [q_arr23]
theorem invoice_iff {m : S_api_Merchant} {v : S_api_Invoice} : specieref47_invoice m v = true ↔ specieref38_Valid v = true ∧ q_arr23 v.Payee m.Name = true ∧ v.Time ≤ m.Now ∧ v.Number < m.Next := by
  unfold specieref47_invoice
  simp only [letk]
  cases specieref38_Valid v <;> cases q_arr23 v.Payee m.Name <;> by_cases a : v.Time ≤ m.Now <;> simp [a]
/-- Numbers that ascend. -/
def asc (l : List Int) : Prop := ∀ j : Int, 1 ≤ j → j < l.length → gt l (j - 1) < gt l j
theorem ascends_iff {l : List Int} : merchant_ascends l = true ↔ asc l := by
  unfold merchant_ascends asc
  rw [iter_allX (n := (l.length : Int)) (C := fun p => !decide (gt l p ≤ gt l (p - 1))) (X := true) (fun ag p => by cases h : decide (gt l p ≤ gt l (p - 1)) <;> simp [h]) _ _ (by omega)]
  simp only [Bool.not_eq_true', decide_eq_false_iff_not, Int.not_le, and_true]
theorem contains_eq (l : List Int) (v : Int) : slices_Contains_int_int l v = l.any fun y => v == y := by
  unfold slices_Contains_int_int slices_Index_int_int
  exact iter_any (fun ag p => rfl)
theorem find_eq (l : List S_api_Invoice) (n : Int) : decide (specieref47_Find l n ≥ 0) = l.any fun v => v.Number == n := by
  unfold specieref47_Find
  exact iter_any (fun ag p => rfl)
theorem sl0 {α : Type} {l : List α} {k : Nat} : sl l 0 (k : Int) = l.take k := by simp [sl]
def fin (m : S_api_Merchant) (t : Int) : Bool := if (t == m.Total) = true then decide (t ≤ 1099511627776) else false
def paidM (m : S_api_Merchant) (nums : List Int) : Bool :=
  iter (((m.Paid.length : Int) - 0).toNat + 1) (fun (ag31 : (Int × Int × List Int) → Bool) (p31 : Int × Int × List Int) => (if (decide (p31.2.1 < (m.Paid.length : Int))) then (if (!(merchant_invoice m (gt m.Paid p31.2.1))) then false else (if ((gt m.Queue p31.2.1).Number != (gt m.Paid p31.2.1).Number) then false else (if (slices_Contains_int_int (p31.2.2) ((gt m.Paid p31.2.1).Number)) then false else (ag31 ((addI .i64 p31.1 (gt m.Paid p31.2.1).Amount), (p31.2.1 + 1), (p31.2.2 ++ ([(gt m.Paid p31.2.1).Number] : List Int))))))) else fin m p31.1)) (fun _ => default) (0, 0, nums)
def paidR (m : S_api_Merchant) (E : Int → Bool) : Bool :=
  iter (((m.Paid.length : Int) - 0).toNat + 1) (fun (ag23 : (Int × Int) → Bool) (p23 : Int × Int) => (if (decide (p23.2 < (m.Paid.length : Int))) then (if (!(specieref47_invoice m (gt m.Paid p23.2))) then false else (if ((gt m.Queue p23.2).Number != (gt m.Paid p23.2).Number) then false else (if (decide ((specieref47_Find (m.Open) ((gt m.Paid p23.2).Number)) ≥ 0)) then false else (if (decide ((specieref47_Find (sl m.Paid 0 p23.2) ((gt m.Paid p23.2).Number)) ≥ 0)) then false else (ag23 ((addI .i64 p23.1 (gt m.Paid p23.2).Amount), (p23.2 + 1))))))) else E p23.1)) (fun _ => default) (0, 0)
theorem paid_sim (m : S_api_Merchant) : paidM m (m.Open.map (·.Number)) = paidR m (fin m) := by
  unfold paidM paidR
  refine iter_sim (Rl := fun p q => p.1 = q.1 ∧ ∃ k : Nat, p.2.1 = (k : Int) ∧ q.2 = (k : Int) ∧ k ≤ m.Paid.length ∧ p.2.2 = m.Open.map (·.Number) ++ (m.Paid.take k).map (·.Number)) (ma := fun p => ((m.Paid.length : Int) - p.2.1).toNat) ?_ _ _ _ _ ⟨rfl, 0, rfl, rfl, Nat.zero_le _, by simp⟩ (by show ((m.Paid.length : Int) - 0).toNat < _; omega) (by show ((m.Paid.length : Int) - 0).toNat < _; omega)
  rintro ag ag' ⟨t, i, nums⟩ ⟨t', i'⟩ ⟨h1, k, h2, h3, h4, h5⟩ hag
  simp only at h1 h2 h3 h5 ⊢
  subst h1 h2 h3 h5
  by_cases hk : k < m.Paid.length
  · rw [if_pos (decide_eq_true (by omega)), if_pos (decide_eq_true (by omega)), invoice_eq]
    cases specieref47_invoice m (gt m.Paid (k : Int))
    · rfl
    · simp only [Bool.not_true, Bool.false_eq_true, if_false]
      cases (gt m.Queue (k : Int)).Number != (gt m.Paid (k : Int)).Number
      · simp only [Bool.false_eq_true, if_false]
        rw [contains_eq, find_eq, find_eq, sl0, List.any_append, List.any_map, List.any_map]
        have e : ∀ l : List S_api_Invoice, l.any ((fun y => (gt m.Paid (k : Int)).Number == y) ∘ fun x => x.Number) = l.any fun v => v.Number == (gt m.Paid (k : Int)).Number := fun l => by
          exact congrArg (fun f => l.any f) (funext fun v => Bool.eq_iff_iff.2 (by simp only [Function.comp_apply, beq_iff_eq]; exact eq_comm))
        rw [e, e]
        cases m.Open.any fun v => v.Number == (gt m.Paid (k : Int)).Number
        · cases (m.Paid.take k).any fun v => v.Number == (gt m.Paid (k : Int)).Number
          · simp only [Bool.or_false, Bool.false_eq_true, if_false]
            refine hag _ _ ⟨rfl, k + 1, by show (k : Int) + 1 = _; omega, by show (k : Int) + 1 = _; omega, hk, ?_⟩ (by show ((m.Paid.length : Int) - ((k : Int) + 1)).toNat < ((m.Paid.length : Int) - (k : Int)).toNat; omega)
            show _ ++ [(gt m.Paid (k : Int)).Number] = _
            rw [List.take_succ_eq_append_getElem hk, gt_at hk, List.map_append, List.append_assoc]
            rfl
          · rfl
        · rfl
      · rfl
  · rw [if_neg (by simp; omega), if_neg (by simp; omega)]
/-- What is blocked is as it must be. -/
def blk1 (m : S_api_Merchant) : Prop := ∀ j : Int, 0 ≤ j → j < m.Blocked.length → 0 < gt m.Blocked j ∧ (0 < j → gt m.Blocked (j - 1) < gt m.Blocked j)
theorem blk1_iff {m : S_api_Merchant} : blk1 m ↔ asc m.Blocked ∧ (0 < m.Blocked.length → 0 < gt m.Blocked 0) := by
  refine ⟨fun h => ⟨fun j h1 h2 => (h j (by omega) h2).2 (by omega), fun h0 => (h 0 (Int.le_refl _) (by omega)).1⟩, fun ⟨h1, h2⟩ => ?_⟩
  have key : ∀ k : Nat, k < m.Blocked.length → 0 < gt m.Blocked (k : Int) := by
    intro k
    induction k with
    | zero => intro h; exact h2 h
    | succ k ih =>
      intro h
      have h3 := ih (by omega)
      have h4 := h1 ((k + 1 : Nat) : Int) (by omega) (by omega)
      rw [show ((k + 1 : Nat) : Int) - 1 = k by omega] at h4
      omega
  intro j h0 hj
  obtain ⟨k, rfl⟩ : ∃ k : Nat, j = k := ⟨j.toNat, by omega⟩
  exact ⟨key k (by omega), fun hp => h1 _ (by omega) hj⟩
def refEnd (m : S_api_Merchant) (t : Int) : Bool :=
  iter (((m.Blocked.length : Int) - 0).toNat + 1) (fun (ag38 : Int → Bool) (p38 : Int) => (if (decide (p38 < (m.Blocked.length : Int))) then (if (decide ((gt m.Blocked p38) ≤ 0)) then false else (if (decide (p38 > 0)) then (if (decide ((gt m.Blocked p38) ≤ (gt m.Blocked (p38 - 1)))) then false else (ag38 (p38 + 1))) else (ag38 (p38 + 1)))) else fin m t)) (fun _ => default) 0
theorem refEnd_iff {m : S_api_Merchant} {t : Int} : refEnd m t = true ↔ blk1 m ∧ fin m t = true := by
  unfold refEnd blk1
  rw [iter_allX (n := (m.Blocked.length : Int)) (C := fun p => decide (0 < gt m.Blocked p ∧ (0 < p → gt m.Blocked (p - 1) < gt m.Blocked p))) (X := fin m t) (fun ag p => ?_) _ _ (by omega)]
  · simp only [decide_eq_true_eq]
  · by_cases h0 : p < (m.Blocked.length : Int)
    · rw [if_pos (decide_eq_true h0), if_pos (decide_eq_true h0)]
      by_cases h1 : gt m.Blocked p ≤ 0 <;> by_cases h2 : p > 0 <;> by_cases h3 : gt m.Blocked p ≤ gt m.Blocked (p - 1) <;> simp [h1, h2, h3] <;> omega
    · rw [if_neg (by simpa using h0), if_neg (by simpa using h0)]
theorem paidR_false {m : S_api_Merchant} {E : Int → Bool} (h : ∀ t, E t = false) : paidR m E = false := by
  unfold paidR
  refine iter_rule (P := fun q : Int × Int => True) (meas := fun q => ((m.Paid.length : Int) - q.2).toNat) (Q := fun r => r = false) (fun ag q _ hag => ?_) _ _ trivial (by show ((m.Paid.length : Int) - 0).toNat < _; omega)
  by_cases hk : q.2 < (m.Paid.length : Int)
  · rw [if_pos (decide_eq_true hk)]
    split
    · rfl
    · split
      · rfl
      · split
        · rfl
        · split
          · rfl
          · exact hag _ trivial (by show ((m.Paid.length : Int) - (q.2 + 1)).toNat < _; omega)
  · rw [if_neg (by simpa using hk)]; exact h _
/-- What both ask of a merchant. -/
structure Valid (m : S_api_Merchant) : Prop where
  pol : specieref46_Valid m.Policy = true
  now : 0 ≤ m.Now ∧ m.Now ≤ 1099511627776
  next : 0 ≤ m.Next ∧ m.Next ≤ 1073741824
  len : m.Open.length ≤ 50 ∧ m.Queue.length ≤ 50 ∧ m.Paid.length = m.Queue.length ∧ m.Blocked.length ≤ 100
  blk : blk1 m
  inv : ∀ j : Int, 0 ≤ j → j < m.Open.length → specieref47_invoice m (gt m.Open j) = true
  ord : asc (m.Open.map (·.Number))
  paid : paidR m (fin m) = true
theorem mValid_iff {m : S_api_Merchant} : merchant_Valid m = true ↔ Valid m := by
  have main : ∀ b : Bool, (b = true ↔ (∀ j : Int, 0 ≤ j → j < m.Open.length → specieref47_invoice m (gt m.Open j) = true) ∧ asc (m.Open.map (·.Number)) ∧ paidR m (fin m) = true) → specieref46_Valid m.Policy = true → (0 ≤ m.Now ∧ m.Now ≤ 1099511627776) → (0 ≤ m.Next ∧ m.Next ≤ 1073741824) → (m.Open.length ≤ 50 ∧ m.Queue.length ≤ 50 ∧ m.Paid.length = m.Queue.length ∧ m.Blocked.length ≤ 100) → blk1 m → (b = true ↔ Valid m) :=
    fun b hb h1 h2 h3 h4 h5 => ⟨fun h => ⟨h1, h2, h3, h4, h5, (hb.1 h).1, (hb.1 h).2.1, (hb.1 h).2.2⟩, fun h => hb.2 ⟨h.inv, h.ord, h.paid⟩⟩
  -- the loop over the open invoices
  have loop : ∀ (F : (Int × List Int → Bool) → Int × List Int → Bool) d, (∀ ag p, F ag p = if decide (p.1 < (m.Open.length : Int)) = true then (if (!merchant_invoice m (gt m.Open p.1)) = true then false else ag (p.1 + 1, p.2 ++ [(gt m.Open p.1).Number])) else (if (!merchant_ascends p.2) = true then false else paidM m p.2)) →
      (iter (((m.Open.length : Int) - 0).toNat + 1) F d (0, []) = true ↔ (∀ j : Int, 0 ≤ j → j < m.Open.length → specieref47_invoice m (gt m.Open j) = true) ∧ asc (m.Open.map (·.Number)) ∧ paidR m (fin m) = true) := by
    intro F d hF
    have key : ∀ (fuel k : Nat), k ≤ m.Open.length → m.Open.length - k < fuel → (iter fuel F d ((k : Int), (m.Open.take k).map (·.Number)) = true ↔ (∀ j : Int, (k : Int) ≤ j → j < m.Open.length → specieref47_invoice m (gt m.Open j) = true) ∧ asc (m.Open.map (·.Number)) ∧ paidR m (fin m) = true) := by
      intro fuel
      induction fuel with
      | zero => intro k _ h; omega
      | succ n ih =>
        intro k hk h
        rw [iter, hF]
        by_cases hlt : k < m.Open.length
        · rw [if_pos (decide_eq_true (show (k : Int) < _ by omega)), invoice_eq]
          have e : (m.Open.take k).map (·.Number) ++ [(gt m.Open (k : Int)).Number] = (m.Open.take (k + 1)).map (·.Number) := by
            rw [List.take_succ_eq_append_getElem hlt, gt_at hlt, List.map_append]; rfl
          cases hi : specieref47_invoice m (gt m.Open (k : Int))
          · refine ⟨fun h => Bool.noConfusion h, fun h => ?_⟩
            have := h.1 (k : Int) (Int.le_refl _) (by omega)
            rw [hi] at this; cases this
          · simp only [Bool.not_true, Bool.false_eq_true, if_false]
            rw [e, show (k : Int) + 1 = ((k + 1 : Nat) : Int) by omega, ih (k + 1) hlt (by omega)]
            refine and_congr_left fun _ => ⟨fun h j h1 h2 => ?_, fun h j h1 h2 => h j (by omega) h2⟩
            by_cases ej : j = k
            · subst ej; exact hi
            · exact h j (by omega) h2
        · obtain rfl : k = m.Open.length := by omega
          rw [if_neg (by simp), List.take_length, notF]
          by_cases ha : asc (m.Open.map (·.Number))
          · rw [if_pos (ascends_iff.2 ha), paid_sim]
            exact ⟨fun h => ⟨fun j h1 h2 => by omega, ha, h⟩, fun h => h.2.2⟩
          · rw [if_neg (fun h => ha (ascends_iff.1 h))]
            exact ⟨fun h => Bool.noConfusion h, fun h => absurd h.2.1 ha⟩
    exact key _ 0 (Nat.zero_le _) (by omega)
  unfold merchant_Valid
  simp only [letk]
  rw [polValid_eq]
  cases hp : specieref46_Valid m.Policy
  · exact ⟨fun h => Bool.noConfusion h, fun h => by have := h.pol; rw [hp] at this; cases this⟩
  simp only [Bool.not_true, Bool.false_eq_true, if_false]
  by_cases c1 : m.Now < 0
  · rw [if_pos (decide_eq_true c1)]; exact ⟨fun h => Bool.noConfusion h, fun h => by have := h.now; omega⟩
  by_cases c2 : m.Now > 1099511627776
  · rw [if_neg (by simpa using c1), if_pos (decide_eq_true c2)]; exact ⟨fun h => Bool.noConfusion h, fun h => by have := h.now; omega⟩
  by_cases c3 : m.Next < 0
  · rw [if_neg (by simpa using c1), if_neg (by simpa using c2), if_pos (decide_eq_true c3)]; exact ⟨fun h => Bool.noConfusion h, fun h => by have := h.next; omega⟩
  by_cases c4 : m.Next > 1073741824
  · rw [if_neg (by simpa using c1), if_neg (by simpa using c2), if_neg (by simpa using c3), if_pos (decide_eq_true c4)]; exact ⟨fun h => Bool.noConfusion h, fun h => by have := h.next; omega⟩
  rw [if_neg (by simpa using c1), if_neg (by simpa using c2), if_neg (by simpa using c3), if_neg (by simpa using c4)]
  by_cases c5 : (m.Open.length : Int) > 50
  · rw [if_pos (decide_eq_true c5)]; exact ⟨fun h => Bool.noConfusion h, fun h => by have := h.len; omega⟩
  by_cases c6 : (m.Queue.length : Int) > 50
  · rw [if_neg (by simpa using c5), if_pos (decide_eq_true c6)]; exact ⟨fun h => Bool.noConfusion h, fun h => by have := h.len; omega⟩
  rw [if_neg (by simpa using c5), if_neg (by simpa using c6)]
  by_cases c7 : m.Paid.length = m.Queue.length
  case neg => rw [if_pos (by simp only [bne_iff_ne, ne_eq]; omega)]; exact ⟨fun h => Bool.noConfusion h, fun h => absurd h.len.2.2.1 c7⟩
  rw [if_neg (by simp [c7])]
  by_cases c8 : (m.Blocked.length : Int) > 100
  · rw [if_pos (decide_eq_true c8)]; exact ⟨fun h => Bool.noConfusion h, fun h => by have := h.len; omega⟩
  rw [if_neg (by simpa using c8)]
  by_cases c9 : asc m.Blocked
  case neg => rw [notF, if_neg (fun h => c9 (ascends_iff.1 h))]; exact ⟨fun h => Bool.noConfusion h, fun h => absurd (blk1_iff.1 h.blk).1 c9⟩
  rw [notF, if_pos (ascends_iff.2 c9)]
  by_cases c10 : (m.Blocked.length : Int) > 0
  · rw [if_pos (decide_eq_true c10)]
    by_cases c11 : gt m.Blocked 0 ≤ 0
    · rw [if_pos (decide_eq_true c11)]; exact ⟨fun h => Bool.noConfusion h, fun h => by have := (blk1_iff.1 h.blk).2 (by omega); omega⟩
    · rw [if_neg (by simpa using c11)]
      exact main _ (loop _ _ fun ag p => rfl) hp (by omega) (by omega) (by omega) (blk1_iff.2 ⟨c9, fun _ => by omega⟩)
  · rw [if_neg (by simpa using c10)]
    exact main _ (loop _ _ fun ag p => rfl) hp (by omega) (by omega) (by omega) (blk1_iff.2 ⟨c9, fun h => by omega⟩)
theorem rValid_iff {m : S_api_Merchant} : specieref47_Valid m = true ↔ Valid m := by
  have hE : paidR m (refEnd m) = true ↔ blk1 m ∧ paidR m (fin m) = true := by
    by_cases hb : blk1 m
    · have : refEnd m = fin m := funext fun t => Bool.eq_iff_iff.2 (refEnd_iff.trans ⟨fun h => h.2, fun h => ⟨hb, h⟩⟩)
      rw [this]; exact ⟨fun h => ⟨hb, h⟩, fun h => h.2⟩
    · rw [paidR_false fun t => Bool.eq_false_iff.2 fun h => hb (refEnd_iff.1 h).1]
      exact ⟨fun h => Bool.noConfusion h, fun h => absurd h.1 hb⟩
  have loop : ∀ (F : (Int → Bool) → Int → Bool) d, (∀ ag p, F ag p = if decide (p < (m.Open.length : Int)) = true then (if (!specieref47_invoice m (gt m.Open p)) = true then false else (if decide (p > 0) = true then (if decide ((gt m.Open p).Number ≤ (gt m.Open (p - 1)).Number) = true then false else ag (p + 1)) else ag (p + 1))) else paidR m (refEnd m)) →
      (iter (((m.Open.length : Int) - 0).toNat + 1) F d 0 = true ↔ ((∀ j : Int, 0 ≤ j → j < m.Open.length → specieref47_invoice m (gt m.Open j) = true) ∧ asc (m.Open.map (·.Number))) ∧ blk1 m ∧ paidR m (fin m) = true) := by
    intro F d hF
    rw [iter_allX (n := (m.Open.length : Int)) (C := fun p => specieref47_invoice m (gt m.Open p) && decide (0 < p → (gt m.Open (p - 1)).Number < (gt m.Open p).Number)) (X := paidR m (refEnd m)) (fun ag p => ?_) _ _ (by omega), hE]
    · refine and_congr_left fun _ => ⟨fun h => ⟨fun j h1 h2 => ?_, fun j h1 h2 => ?_⟩, fun h j h1 h2 => ?_⟩
      · have := h j h1 h2; simp only [Bool.and_eq_true] at this; exact this.1
      · rw [List.length_map] at h2
        have := h j (by omega) h2; simp only [Bool.and_eq_true, decide_eq_true_eq] at this
        rw [gt_map (by omega), gt_map (by omega)]
        exact this.2 (by omega)
      · simp only [Bool.and_eq_true, decide_eq_true_eq]
        refine ⟨h.1 j h1 h2, fun hp => ?_⟩
        have := h.2 j (by omega) (by rw [List.length_map]; exact h2)
        rw [gt_map (by omega), gt_map (by omega)] at this
        exact this
    · rw [hF]
      by_cases h0 : p < (m.Open.length : Int)
      · rw [if_pos (decide_eq_true h0), if_pos (decide_eq_true h0)]
        cases specieref47_invoice m (gt m.Open p) <;> by_cases h2 : p > 0 <;> by_cases h3 : (gt m.Open p).Number ≤ (gt m.Open (p - 1)).Number <;> simp [h2, h3] <;> omega
      · rw [if_neg (by simpa using h0), if_neg (by simpa using h0)]
  unfold specieref47_Valid
  simp only [letk]
  cases hp : specieref46_Valid m.Policy
  · exact ⟨fun h => Bool.noConfusion h, fun h => by have := h.pol; rw [hp] at this; cases this⟩
  simp only [Bool.not_true, Bool.false_eq_true, if_false]
  by_cases c1 : m.Now < 0
  · rw [if_pos (decide_eq_true c1)]; exact ⟨fun h => Bool.noConfusion h, fun h => by have := h.now; omega⟩
  by_cases c2 : m.Now > 1099511627776
  · rw [if_neg (by simpa using c1), if_pos (decide_eq_true c2)]; exact ⟨fun h => Bool.noConfusion h, fun h => by have := h.now; omega⟩
  by_cases c3 : m.Next < 0
  · rw [if_neg (by simpa using c1), if_neg (by simpa using c2), if_pos (decide_eq_true c3)]; exact ⟨fun h => Bool.noConfusion h, fun h => by have := h.next; omega⟩
  by_cases c4 : m.Next > 1073741824
  · rw [if_neg (by simpa using c1), if_neg (by simpa using c2), if_neg (by simpa using c3), if_pos (decide_eq_true c4)]; exact ⟨fun h => Bool.noConfusion h, fun h => by have := h.next; omega⟩
  rw [if_neg (by simpa using c1), if_neg (by simpa using c2), if_neg (by simpa using c3), if_neg (by simpa using c4)]
  by_cases c5 : (m.Open.length : Int) > 50
  · rw [if_pos (decide_eq_true c5)]; exact ⟨fun h => Bool.noConfusion h, fun h => by have := h.len; omega⟩
  by_cases c6 : (m.Queue.length : Int) > 50
  · rw [if_neg (by simpa using c5), if_pos (decide_eq_true c6)]; exact ⟨fun h => Bool.noConfusion h, fun h => by have := h.len; omega⟩
  rw [if_neg (by simpa using c5), if_neg (by simpa using c6)]
  by_cases c7 : m.Paid.length = m.Queue.length
  case neg => rw [if_pos (by simp only [bne_iff_ne, ne_eq]; omega)]; exact ⟨fun h => Bool.noConfusion h, fun h => absurd h.len.2.2.1 c7⟩
  rw [if_neg (by simp [c7])]
  by_cases c8 : (m.Blocked.length : Int) > 100
  · rw [if_pos (decide_eq_true c8)]; exact ⟨fun h => Bool.noConfusion h, fun h => by have := h.len; omega⟩
  rw [if_neg (by simpa using c8)]
  refine (loop _ _ fun ag p => rfl).trans ?_
  exact ⟨fun h => ⟨hp, by omega, by omega, by omega, h.2.1, h.1.1, h.1.2, h.2.2⟩, fun h => ⟨⟨h.inv, h.ord⟩, h.blk, h.paid⟩⟩
theorem mValid_eq (m : S_api_Merchant) : merchant_Valid m = specieref47_Valid m := Bool.eq_iff_iff.2 (mValid_iff.trans rValid_iff.symm)
theorem awake_true : specielaw47_awake = true := by kernel_rfl
theorem q_inv_refl (v : S_api_Invoice) : q_api_Invoice v v = true := by simp [q_api_Invoice]
theorem New_eq (name : List Int) (p : S_api_Policy) : merchant_New name p = if specieref46_Valid p = true then (⟨name, p, [], 0, [], [], 0, [], 0⟩, 0) else (z_api_Merchant, 1) := by
  unfold merchant_New
  rw [polValid_eq]
  cases specieref46_Valid p <;> rfl
/-! What is compared with itself is the same. -/
theorem q_coin_refl (a : S_api_Coin) : q_api_Coin a a = true := by simp [q_api_Coin]
theorem q_node_refl (a : S_api_Node) : q_api_Node a a = true := by simp [q_api_Node]
theorem q_context_refl (a : S_api_Context) : q_api_Context a a = true := by simp [q_api_Context]
theorem q_leaf_refl (a : S_api_Leaf) : q_api_Leaf a a = true := by simp [q_api_Leaf]
theorem q_rule_refl (a : S_api_Rule) : q_api_Rule a a = true := by simp [q_api_Rule]
theorem same27 (a : S_api_Path) : specieref27_Same a a = true := by
  unfold specieref27_Same
  simp only [bne_self_eq_false, Bool.false_eq_true, if_false, notF]
  exact iter_trueX (C := fun p => q_arr23 (gt a.L p) (gt a.L p)) (fun ag p => rfl) (fun p => q23_refl _) _ _ (by omega)
theorem same32 (a : S_api_Spend) : specieref32_Same a a = true := by
  unfold specieref32_Same
  simp only [letk, q_coin_refl, q_node_refl, q_context_refl, same27, bne_self_eq_false, Bool.not_true, Bool.false_eq_true, if_false, notF]
  exact iter_trueX (C := fun p => q_api_Leaf (gt a.Leaves p) (gt a.Leaves p)) (fun ag p => rfl) (fun p => q_leaf_refl _) _ _ (by omega)
theorem same35 (a : S_api_Chain) : specieref35_Same a a = true := by
  unfold specieref35_Same
  simp only [letk, bne_self_eq_false, Bool.false_eq_true, if_false, notF]
  exact iter_trueX (C := fun p => specieref32_Same (gt (specieref35_Spends a) p) (gt (specieref35_Spends a) p)) (fun ag p => rfl) (fun p => same32 _) _ _ (by omega)
theorem same17 (a : List Int) : specieref17_Same a a = true := by
  unfold specieref17_Same
  simp only [bne_self_eq_false, Bool.false_eq_true, if_false]
  exact iter_trueX (C := fun _ => true) (fun ag p => rfl) (fun p => rfl) _ _ (by omega)
theorem same36 (a : S_api_Escrow) : specieref36_Same a a = true := by
  unfold specieref36_Same specieref17_SameProof
  simp [letk, same17]
theorem same38 (a : S_api_Payment) : specieref38_Same a a = true := by
  unfold specieref38_Same
  simp only [letk, bne_self_eq_false, Bool.false_eq_true, if_false, notF]
  rw [iter_trueX (C := fun p => specieref32_Same (gt a.Spends p) (gt a.Spends p)) (fun ag p => rfl) (fun p => same32 _) _ _ (by omega)]
  rw [iter_trueX (C := fun p => specieref35_Same (gt a.Chains p) (gt a.Chains p)) (fun ag p => rfl) (fun p => same35 _) _ _ (by omega)]
  exact iter_trueX (C := fun p => specieref36_Same (gt a.Escrow p) (gt a.Escrow p)) (fun ag p => rfl) (fun p => same36 _) _ _ (by omega)
theorem invoices_refl (a : List S_api_Invoice) : specieref47_invoices a a = true := by
  unfold specieref47_invoices
  simp only [bne_self_eq_false, Bool.false_eq_true, if_false, notF]
  exact iter_trueX (C := fun p => q_api_Invoice (gt a p) (gt a p)) (fun ag p => rfl) (fun p => q_inv_refl _) _ _ (by omega)
theorem same47 (a : S_api_Merchant) : specieref47_Same a a = true := by
  unfold specieref47_Same
  simp only [letk, q23_refl, invoices_refl, bne_self_eq_false, Bool.not_true, Bool.false_eq_true, if_false, notF]
  rw [iter_trueX (C := fun p => q_api_Rule (gt a.Policy.Rules p) (gt a.Policy.Rules p)) (fun ag p => rfl) (fun p => q_rule_refl _) _ _ (by omega)]
  rw [iter_trueX (C := fun p => specieref38_Same (gt a.Queue p) (gt a.Queue p)) (fun ag p => rfl) (fun p => same38 _) _ _ (by omega)]
  exact iter_trueX (C := fun _ => true) (fun ag p => rfl) (fun p => rfl) _ _ (by omega)
theorem none_zero : specielaw47_none z_api_Merchant = true := by
  unfold specielaw47_none
  exact same47 _
theorem Copy_eq (m : S_api_Merchant) : specieref47_Copy m = m := by
  unfold specieref47_Copy
  simp
theorem letj_tt {f : Unit → Bool} {g : (Unit → Bool) → Bool} (h1 : f () = true) (h2 : ∀ j : Unit → Bool, j () = true → g j = true) : letj f g = true := h2 f h1
theorem specielaw47_MerchantForms_true (m : S_api_Merchant) (a n : Int) : specielaw47_MerchantForms m a n = true := by
  unfold specielaw47_MerchantForms
  simp only [letk, awake_true]
  rw [if_neg (by decide)]
  split
  · rfl
  refine letj_tt ?_ fun j hj => ?_
  case isFalse.refine_2 =>
    rw [New_eq]
    cases specieref46_Valid m.Policy
    · simp [none_zero, hj]
    · simp [same47, hj]
  cases hv : specieref47_Valid m
  · have hm := (mValid_eq m).trans hv
    have e1 : merchant_Block m a = (z_api_Merchant, 1) := by unfold merchant_Block; simp only [letk, hm]; rfl
    have e2 : merchant_Go m n = (z_api_Merchant, 1) := by unfold merchant_Go; simp only [letk, hm]; rfl
    rw [e1, e2]
    simp [hm, none_zero]
  · have hm := (mValid_eq m).trans hv
    simp only [hm, Copy_eq, Bool.not_true, Bool.false_eq_true, if_false]
    refine letj_tt ?_ fun j hj => ?_
    · unfold merchant_Go
      simp only [letk, hm, cloned_eq, Bool.not_true, Bool.false_eq_true, if_false]
      by_cases c1 : n < 0
      · simp [c1, none_zero]
      by_cases c2 : n > 1099511627776
      · simp [c1, c2, none_zero]
      by_cases c3 : n < m.Now
      · simp [c1, c2, c3, none_zero]
      · simp [c1, c2, c3, same47]
    unfold merchant_Block
    simp only [letk, hm, cloned_eq, Bool.not_true, Bool.false_eq_true, if_false]
    by_cases c1 : a ≤ 0
    · simp only [decide_eq_true c1, if_true, none_zero, bne_self_eq_false, Bool.not_true, Bool.false_eq_true, if_false]
      exact hj
    simp only [decide_eq_false c1, Bool.false_eq_true, if_false]
    cases (slices_BinarySearch_int_int m.Blocked a).2
    · simp only [Bool.false_eq_true, if_false]
      by_cases c2 : m.Blocked.length = 100
      · have d1 : ((m.Blocked.length : Int) == 100) = true := by simp [c2]
        have d2 : decide ((m.Blocked.length : Int) ≥ 100) = true := decide_eq_true (by omega)
        simp only [d1, d2, if_true, none_zero, bne_self_eq_false, Bool.not_true, Bool.false_eq_true, if_false]
        exact hj
      · have hl := (rValid_iff.1 hv).len
        have d1 : ((m.Blocked.length : Int) == 100) = false := beq_eq_false_iff_ne.2 (by omega)
        have d2 : decide ((m.Blocked.length : Int) ≥ 100) = false := decide_eq_false (by omega)
        simp only [d1, d2, same47, bne_self_eq_false, Bool.not_true, Bool.false_eq_true, if_false]
        exact hj
    · simp only [if_true, none_zero, bne_self_eq_false, Bool.not_true, Bool.false_eq_true, if_false]
      exact hj
end Go.Proofs.Ytdidhdgdklkgeaa
