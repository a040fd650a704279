/- Ask and Deposit return what is specified (plain law). -/
import Derived.Test.YtdidhdgdklkgeaaL2
namespace Go.Proofs.Ytdidhdgdklkgeaa
open Go.RowKit
/-! What is compared with itself is the same. -/
theorem q_coin_refl (a : S_api_Coin) : q_api_Coin a a = true := by simp [q_api_Coin]
theorem q_node_refl (a : S_api_Node) : q_api_Node a a = true := by simp [q_api_Node]
theorem q_context_refl (a : S_api_Context) : q_api_Context a a = true := by simp [q_api_Context]
theorem q_leaf_refl (a : S_api_Leaf) : q_api_Leaf a a = true := by simp [q_api_Leaf]
theorem q_rule_refl (a : S_api_Rule) : q_api_Rule a a = true := by simp [q_api_Rule]
theorem same27 (a : S_api_Path) : specieref27_Same a a = true := by
  unfold specieref27_Same
  simp only [bne_self_eq_false, Bool.false_eq_true, if_false, notF]
  exact iter_trueX (C := fun p => q_arr23 (gt a.L p) (gt a.L p)) (fun ag p => rfl) (fun p => q23_refl _) _ _ (by omega)
theorem same32 (a : S_api_Spend) : specieref32_Same a a = true := by
  unfold specieref32_Same
  simp only [letk, q_coin_refl, q_node_refl, q_context_refl, same27, bne_self_eq_false, Bool.not_true, Bool.false_eq_true, if_false, notF]
  exact iter_trueX (C := fun p => q_api_Leaf (gt a.Leaves p) (gt a.Leaves p)) (fun ag p => rfl) (fun p => q_leaf_refl _) _ _ (by omega)
theorem same35 (a : S_api_Chain) : specieref35_Same a a = true := by
  unfold specieref35_Same
  simp only [letk, bne_self_eq_false, Bool.false_eq_true, if_false, notF]
  exact iter_trueX (C := fun p => specieref32_Same (gt (specieref35_Spends a) p) (gt (specieref35_Spends a) p)) (fun ag p => rfl) (fun p => same32 _) _ _ (by omega)
theorem same17 (a : List Int) : specieref17_Same a a = true := by
  unfold specieref17_Same
  simp only [bne_self_eq_false, Bool.false_eq_true, if_false]
  exact iter_trueX (C := fun _ => true) (fun ag p => rfl) (fun p => rfl) _ _ (by omega)
theorem same36 (a : S_api_Escrow) : specieref36_Same a a = true := by
  unfold specieref36_Same specieref17_SameProof
  simp [letk, same17]
theorem same38 (a : S_api_Payment) : specieref38_Same a a = true := by
  unfold specieref38_Same
  simp only [letk, bne_self_eq_false, Bool.false_eq_true, if_false, notF]
  rw [iter_trueX (C := fun p => specieref32_Same (gt a.Spends p) (gt a.Spends p)) (fun ag p => rfl) (fun p => same32 _) _ _ (by omega)]
  rw [iter_trueX (C := fun p => specieref35_Same (gt a.Chains p) (gt a.Chains p)) (fun ag p => rfl) (fun p => same35 _) _ _ (by omega)]
  exact iter_trueX (C := fun p => specieref36_Same (gt a.Escrow p) (gt a.Escrow p)) (fun ag p => rfl) (fun p => same36 _) _ _ (by omega)
theorem invoices_refl (a : List S_api_Invoice) : specieref47_invoices a a = true := by
  unfold specieref47_invoices
  simp only [bne_self_eq_false, Bool.false_eq_true, if_false, notF]
  exact iter_trueX (C := fun p => q_api_Invoice (gt a p) (gt a p)) (fun ag p => rfl) (fun p => q_inv_refl _) _ _ (by omega)
theorem same47 (a : S_api_Merchant) : specieref47_Same a a = true := by
  unfold specieref47_Same
  simp only [letk, q23_refl, invoices_refl, bne_self_eq_false, Bool.not_true, Bool.false_eq_true, if_false, notF]
  rw [iter_trueX (C := fun p => q_api_Rule (gt a.Policy.Rules p) (gt a.Policy.Rules p)) (fun ag p => rfl) (fun p => q_rule_refl _) _ _ (by omega)]
  rw [iter_trueX (C := fun p => specieref38_Same (gt a.Queue p) (gt a.Queue p)) (fun ag p => rfl) (fun p => same38 _) _ _ (by omega)]
  exact iter_trueX (C := fun _ => true) (fun ag p => rfl) (fun p => rfl) _ _ (by omega)
theorem none_zero : specielaw47_none z_api_Merchant = true := by
  unfold specielaw47_none
  exact same47 _
/-! Limits. -/
theorem first_eq (p : S_api_Policy) (a b c d e : Int) : slices_IndexFunc_api_Rule_api_Rule_at_policy_Accepts_1 p.Rules a b c d e = specieref46_First p a b c d e := rfl
theorem Limit_eq {p : S_api_Policy} {h t : Int} (hp : specieref46_Valid p = true) (h0 : 0 ≤ h) (h1 : h ≤ 23) (t0 : 0 ≤ t) (t1 : t ≤ 1099511627776) :
    policy_Limit p h t = if (specieref46_Limit p h t).2 = true then ((specieref46_Limit p h t).1, 0) else (0, 16) := by
  have w : ∀ x lo hi : Int, lo ≤ x → x ≤ hi → policy_within x lo hi = true := fun x lo hi g1 g2 => by unfold policy_within; simp [g1, g2]
  generalize hL : specieref46_Limit p h t = L
  unfold specieref46_Limit at hL
  simp only [letk] at hL
  rw [← first_eq] at hL
  generalize hX : slices_IndexFunc_api_Rule_api_Rule_at_policy_Accepts_1 p.Rules 0 0 0 h t = X at hL
  unfold policy_Limit policy_Accepts
  simp only [letk, polValid_eq, hp, w _ _ _ h0 h1, w _ _ _ t0 t1, w 0 0 1099511627776 (by decide) (by decide), w 0 0 1000 (by decide) (by decide), w 0 0 8 (by decide) (by decide), hX]
  simp only [Bool.not_true, Bool.false_eq_true, if_false]
  by_cases hf : X ≥ 0
  · rw [if_pos (decide_eq_true hf)] at hL
    subst hL
    rw [decide_eq_false (show ¬ X < 0 by omega)]; rfl
  · rw [if_neg (by simpa using hf)] at hL
    rw [decide_eq_true (show X < 0 by omega), if_neg (by decide)]
    have key := iter_simR (Q := fun (r : Int × Int) (s : Int × Bool) => s.2 = true ∧ r = (s.1, 0)) (Rl := fun (a b : Int × Int) => a = b) (ma := fun q : Int × Int => ((p.Rules.length : Int) - q.2).toNat)
      (F := fun (ag17 : (Int × Int) → (Int × Int)) (p17 : Int × Int) => (if (decide (p17.2 < (p.Rules.length : Int))) then (if ((gt p.Rules p17.2).Kind == 1) then (ag17 ((minI p17.1 (gt p.Rules p17.2).A), (p17.2 + 1))) else (if ((gt p.Rules p17.2).Kind == 4) then (ag17 ((minI p17.1 (subI .i64 (gt p.Rules p17.2).A t)), (p17.2 + 1))) else (ag17 (p17.1, (p17.2 + 1))))) else (p17.1, 0)))
      (G := fun (ag5 : (Int × Int) → (Int × Bool)) (p5 : Int × Int) => (if (decide (p5.2 < (p.Rules.length : Int))) then (letj (fun (p8 : Int) => (if ((gt p.Rules p5.2).Kind == 4) then (if (decide ((subI .i64 (gt p.Rules p5.2).A t) < p8)) then (ag5 ((subI .i64 (gt p.Rules p5.2).A t), (p5.2 + 1))) else (ag5 (p8, (p5.2 + 1)))) else (ag5 (p8, (p5.2 + 1))))) (fun j8 => (if ((gt p.Rules p5.2).Kind == 1) then (if (decide ((gt p.Rules p5.2).A < p5.1)) then (j8 (gt p.Rules p5.2).A) else (j8 p5.1)) else (j8 p5.1)))) else (p5.1, true)))
      (d := fun _ => default) (d' := fun _ => default) (fun ag ag' a b e hag => ?_) (((p.Rules.length : Int) - 0).toNat + 1) (((p.Rules.length : Int) - 0).toNat + 1) (1099511627776, 0) (1099511627776, 0) rfl (by show ((p.Rules.length : Int) - 0).toNat < _; omega) (by show ((p.Rules.length : Int) - 0).toNat < _; omega)
    · rw [hL] at key
      rw [if_pos key.1]; exact key.2
    · subst e
      obtain ⟨m, i⟩ := a
      by_cases hi : i < (p.Rules.length : Int)
      · simp only [decide_eq_true hi, if_true]
        have hm : ∀ x : Int, ((p.Rules.length : Int) - (x, i + 1).2).toNat < ((p.Rules.length : Int) - (m, i).2).toNat := fun x => by
          show ((p.Rules.length : Int) - (i + 1)).toNat < ((p.Rules.length : Int) - i).toNat
          omega
        by_cases k1 : (gt p.Rules i).Kind = 1
        · simp only [k1, beq_self_eq_true, if_true, letj, minI]
          by_cases c : (gt p.Rules i).A < m
          · simp only [c, decide_true, if_true]
            exact hag _ _ rfl (hm _)
          · simp only [c, decide_false, Bool.false_eq_true, if_false]
            exact hag _ _ rfl (hm _)
        · by_cases k4 : (gt p.Rules i).Kind = 4
          · simp only [k4, beq_self_eq_true, if_true, letj, minI]
            by_cases c : subI .i64 (gt p.Rules i).A t < m
            · simp only [c, decide_true, if_true]
              exact hag _ _ rfl (hm _)
            · simp only [c, decide_false, Bool.false_eq_true, if_false]
              exact hag _ _ rfl (hm _)
          · simp only [beq_eq_false_iff_ne.2 k1, beq_eq_false_iff_ne.2 k4, Bool.false_eq_true, if_false, letj]
            exact hag _ _ rfl (hm _)
      · simp only [decide_eq_false hi, Bool.false_eq_true, if_false]
        exact ⟨trivial, trivial⟩
theorem Valid.total {m : S_api_Merchant} (h : Valid m) : 0 ≤ m.Total ∧ m.Total ≤ 1099511627776 := by
  have hp := h.paid
  have hl := h.len
  unfold paidR at hp
  refine iter_rule (P := fun q : Int × Int => ∃ i : Nat, q.2 = (i : Int) ∧ i ≤ m.Paid.length ∧ 0 ≤ q.1 ∧ q.1 ≤ 1099511627776 * i) (meas := fun q => ((m.Paid.length : Int) - q.2).toNat) (Q := fun r => r = true → 0 ≤ m.Total ∧ m.Total ≤ 1099511627776) (fun ag q hq hag => ?_) _ _ ⟨0, rfl, Nat.zero_le _, Int.le_refl _, Int.le_refl _⟩ (by show ((m.Paid.length : Int) - 0).toNat < _; omega) hp
  obtain ⟨t, i'⟩ := q
  obtain ⟨i, e, hi, t0, t1⟩ := hq
  simp only at e t0 t1 hag ⊢
  subst e
  by_cases hk : i < m.Paid.length
  · rw [if_pos (decide_eq_true (by omega)), notF]
    split
    · rename_i hv
      have ha := payValid_iff.1 (invoice_iff.1 hv).1
      split
      · exact fun h => Bool.noConfusion h
      · split
        · exact fun h => Bool.noConfusion h
        · split
          · exact fun h => Bool.noConfusion h
          · rw [add_ok (by omega) (by omega)]
            exact hag _ ⟨i + 1, by show (i : Int) + 1 = _; omega, hk, by show 0 ≤ t + _; omega, by show t + _ ≤ _; omega⟩ (by show ((m.Paid.length : Int) - ((i : Int) + 1)).toNat < ((m.Paid.length : Int) - (i : Int)).toNat; omega)
    · exact fun h => Bool.noConfusion h
  · rw [if_neg (by simp; omega)]
    intro hf
    unfold fin at hf
    split at hf
    · rename_i he
      have : t = m.Total := by simpa using he
      simp at hf
      omega
    · cases hf
theorem hour_range {t : Int} (h0 : 0 ≤ t) (h1 : t ≤ 1099511627776) : 0 ≤ remI .i64 (quoI .i64 t 3600) 24 ∧ remI .i64 (quoI .i64 t 3600) 24 ≤ 23 := by
  have e : quoI .i64 t 3600 = t / 3600 := by
    unfold quoI
    rw [Int.tdiv_eq_ediv_of_nonneg h0]
    exact conv_i64 (by omega) (by omega)
  rw [e]
  unfold remI
  rw [Int.tmod_eq_emod_of_nonneg (by omega)]
  omega
theorem Copy_eq (m : S_api_Merchant) : specieref47_Copy m = m := by
  unfold specieref47_Copy
  simp
theorem Ask_same {m : S_api_Merchant} {a : Int} (hv : Valid m) : merchant_Ask m a = specieref47_Ask m a := by
  have hn := hv.next
  have hl := hv.len
  have hr := hour_range hv.now.1 hv.now.2
  have ht := hv.total
  unfold merchant_Ask specieref47_Ask merchant_hour specieref47_Hour
  simp only [letk, mValid_iff.2 hv, cloned_eq, Copy_eq]
  rw [if_neg (by decide)]
  by_cases c1 : a < 1
  · rw [decide_eq_true c1]; rfl
  by_cases c2 : a > 1099511627776
  · rw [decide_eq_false c1, decide_eq_true c2]; rfl
  rw [decide_eq_false c1, decide_eq_false c2]
  simp only [Bool.false_eq_true, if_false]
  rw [Limit_eq hv.pol hr.1 hr.2 ht.1 ht.2]
  cases hs : (specieref46_Limit m.Policy (remI .i64 (quoI .i64 m.Now 3600) 24) m.Total).2
  · rfl
  · simp only [if_true, Bool.not_true, Bool.false_eq_true, if_false, bne_self_eq_false]
    by_cases c3 : a > (specieref46_Limit m.Policy (remI .i64 (quoI .i64 m.Now 3600) 24) m.Total).1
    · rw [decide_eq_true c3]; rfl
    · rw [decide_eq_false c3]
      simp only [Bool.false_eq_true, if_false]
      by_cases c4 : m.Open.length = 50
      · have d1 : ((m.Open.length : Int) == 50) = true := by simp [c4]
        have d2 : decide ((m.Open.length : Int) ≥ 50) = true := decide_eq_true (by omega)
        rw [d1, d2]; rfl
      · have d1 : ((m.Open.length : Int) == 50) = false := beq_eq_false_iff_ne.2 (by omega)
        have d2 : decide ((m.Open.length : Int) ≥ 50) = false := decide_eq_false (by omega)
        rw [d1, d2]
        by_cases c5 : m.Next = 1073741824
        · have d3 : (m.Next == 1073741824) = true := beq_iff_eq.2 c5
          have d4 : decide (m.Next ≥ 1073741824) = true := decide_eq_true (by omega)
          rw [d3, d4]
        · have d3 : (m.Next == 1073741824) = false := beq_eq_false_iff_ne.2 c5
          have d4 : decide (m.Next ≥ 1073741824) = false := decide_eq_false (by omega)
          rw [d3, d4]
theorem specielaw47_MerchantAsks_true (m : S_api_Merchant) (a : Int) : specielaw47_MerchantAsks m a = true := by
  unfold specielaw47_MerchantAsks
  simp only [letk, awake_true]
  rw [if_neg (by decide)]
  split
  · rfl
  cases hv : specieref47_Valid m
  · have hm := (mValid_eq m).trans hv
    have e1 : merchant_Ask m a = (z_api_Merchant, z_api_Invoice, 1) := by unfold merchant_Ask; simp only [letk, hm]; rfl
    have e2 : merchant_Deposit m = (z_api_Merchant, z_api_Invoice, z_api_Payment, 1) := by unfold merchant_Deposit; simp only [letk, hm]; rfl
    rw [e1, e2]
    simp only [none_zero, q_inv_refl, same38]
    rfl
  · have hV := rValid_iff.1 hv
    have hm := (mValid_eq m).trans hv
    rw [Ask_same hV]
    simp only [same47, q_inv_refl, bne_self_eq_false, Bool.not_true, Bool.false_eq_true, if_false]
    by_cases hq : m.Queue.length = 0
    · have e2 : merchant_Deposit m = (z_api_Merchant, z_api_Invoice, z_api_Payment, 7) := by
        unfold merchant_Deposit; simp only [letk, hm]; rw [if_neg (by decide), if_pos (by simp [hq])]
      rw [e2, if_pos (by simp [hq])]
      simp only [none_zero, q_inv_refl, same38]
      rfl
    · rw [if_neg (by simpa using hq)]
      have e2 : merchant_Deposit m = ({ m with Queue := sl m.Queue 1 (m.Queue.length : Int), Paid := sl m.Paid 1 (m.Paid.length : Int), Total := subI .i64 m.Total (gt m.Paid 0).Amount }, gt m.Paid 0, gt m.Queue 0, 0) := by
        unfold merchant_Deposit; simp only [letk, hm, cloned_eq]; rw [if_neg (by decide), if_neg (by simpa using hq)]
      rw [e2, Copy_eq]
      simp only [same47, q_inv_refl, same38]
      rfl
end Go.Proofs.Ytdidhdgdklkgeaa
