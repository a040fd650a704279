/- Invoices have numbers that were never used before, and are within the limit of the policy (plain law). -/
import Derived.Test.YtdidhdgdklkgeaaL1
namespace Go.Proofs.Ytdidhdgdklkgeaa
open Go.RowKit
theorem awake_true : specielaw47_awake = true := by kernel_rfl
theorem New_eq (name : List Int) (p : S_api_Policy) : merchant_New name p = if specieref46_Valid p = true then (⟨name, p, [], 0, [], [], 0, [], 0⟩, 0) else (z_api_Merchant, 1) := by
  unfold merchant_New
  rw [polValid_eq]
  cases specieref46_Valid p <;> rfl
/-- A merchant that has been asked only. -/
structure Inv (name : List Int) (p : S_api_Policy) (m : S_api_Merchant) (n : Nat) (T : Int) : Prop where
  nm : m.Name = name
  pol : m.Policy = p
  queue : m.Queue = []
  paid : m.Paid = []
  total : m.Total = 0
  blocked : m.Blocked = []
  now : 0 ≤ m.Now ∧ m.Now ≤ T
  next : m.Next = n
  len : m.Open.length = n
  inv : ∀ j : Int, 0 ≤ j → j < n → specieref38_Valid (gt m.Open j) = true ∧ (gt m.Open j).Payee = name ∧ (gt m.Open j).Time ≤ m.Now ∧ (gt m.Open j).Number = j
theorem Inv.valid {name : List Int} {p : S_api_Policy} {m : S_api_Merchant} {n : Nat} {T : Int} (h : Inv name p m n T) (hp : specieref46_Valid p = true) (hn : n ≤ 50) (hT : T ≤ 1099511627776) : Valid m := by
  refine ⟨by rw [h.pol]; exact hp, ⟨h.now.1, by have := h.now; omega⟩, by have := h.next; omega, ⟨by have := h.len; omega, by rw [h.queue]; decide, by rw [h.paid, h.queue]; rfl, by rw [h.blocked]; decide⟩, ?_, ?_, ?_, ?_⟩
  · intro j h0 h1
    rw [h.blocked] at h1
    exact absurd h1 (by show ¬ j < 0; omega)
  · intro j h0 h1
    obtain ⟨g1, g2, g3, g4⟩ := h.inv j h0 (by have := h.len; omega)
    refine invoice_iff.2 ⟨g1, ?_, g3, ?_⟩
    · rw [g2, h.nm]; exact q23_refl _
    · have := h.next; have := h.len; omega
  · intro j h0 h1
    rw [List.length_map] at h1
    have hl := h.len
    rw [gt_map (by omega), gt_map (by omega), (h.inv j (by omega) (by omega)).2.2.2, (h.inv (j - 1) (by omega) (by omega)).2.2.2]
    omega
  · unfold paidR
    rw [h.paid]
    rw [iter]
    rw [if_neg (by simp)]
    unfold fin
    rw [h.total]; rfl
theorem Inv.later {name : List Int} {p : S_api_Policy} {m : S_api_Merchant} {n : Nat} {T t T' : Int} (h : Inv name p m n T) (h1 : m.Now ≤ t) (h2 : t ≤ T') : Inv name p { m with Now := t } n T' :=
  ⟨h.nm, h.pol, h.queue, h.paid, h.total, h.blocked, ⟨by have := h.now; show 0 ≤ t; omega, h2⟩, h.next, h.len, fun j h3 h4 => by
    obtain ⟨g1, g2, g3, g4⟩ := h.inv j h3 h4
    exact ⟨g1, g2, Int.le_trans g3 h1, g4⟩⟩
theorem Go_eq {m : S_api_Merchant} {t : Int} (hv : Valid m) (h1 : m.Now ≤ t) (h2 : t ≤ 1099511627776) : merchant_Go m t = ({ m with Now := t }, 0) := by
  have h0 := hv.now
  unfold merchant_Go
  simp only [letk, mValid_iff.2 hv, cloned_eq]
  rw [if_neg (by decide), if_neg (by simp; omega), if_neg (by simp; omega), if_neg (by simp; omega)]
/-- What Ask says. -/
theorem Ask_eq {m : S_api_Merchant} {a : Int} (hv : Valid m) (h1 : 1 ≤ a) (h2 : a ≤ 1099511627776) (h3 : m.Open.length < 50) (h4 : m.Next < 1073741824) :
    merchant_Ask m a = if (policy_Limit m.Policy (remI .i64 (quoI .i64 m.Now 3600) 24) m.Total).2 = 0 ∧ a ≤ (policy_Limit m.Policy (remI .i64 (quoI .i64 m.Now 3600) 24) m.Total).1 then ({ m with Open := m.Open ++ [⟨m.Name, a, m.Now, m.Next⟩], Next := m.Next + 1 }, ⟨m.Name, a, m.Now, m.Next⟩, 0) else (z_api_Merchant, z_api_Invoice, 16) := by
  have hn := hv.next
  unfold merchant_Ask merchant_hour
  simp only [letk, mValid_iff.2 hv, cloned_eq]
  rw [if_neg (by decide), if_neg (by simp; omega), if_neg (by simp; omega)]
  by_cases e1 : (policy_Limit m.Policy (remI .i64 (quoI .i64 m.Now 3600) 24) m.Total).2 = 0
  · rw [if_neg (by simp [e1])]
    by_cases e2 : a ≤ (policy_Limit m.Policy (remI .i64 (quoI .i64 m.Now 3600) 24) m.Total).1
    · rw [if_neg (by simp; omega), if_neg (by simp; omega), if_neg (by simp; omega), if_pos ⟨e1, e2⟩, add_ok (by omega) (by omega)]
    · rw [if_pos (by simp; omega), if_neg (fun h => e2 h.2)]
  · rw [if_pos (by simp [e1]), if_neg (fun h => e1 h.1)]
theorem Inv.ask {name : List Int} {p : S_api_Policy} {m : S_api_Merchant} {n : Nat} {T a : Int} (h : Inv name p m n T) (h1 : 1 ≤ a) (h2 : a ≤ 1099511627776) (hT : T ≤ 1099511627776) (hn : n < 50) : Inv name p { m with Open := m.Open ++ [⟨m.Name, a, m.Now, m.Next⟩], Next := m.Next + 1 } (n + 1) T := by
  have hl := h.len
  have hx := h.next
  have ht := h.now
  refine ⟨h.nm, h.pol, h.queue, h.paid, h.total, h.blocked, h.now, by show m.Next + 1 = _; omega, by show (m.Open ++ _).length = _; rw [List.length_append]; show m.Open.length + 1 = n + 1; omega, fun j h3 h4 => ?_⟩
  show specieref38_Valid (gt (m.Open ++ _) j) = true ∧ _
  obtain ⟨i, rfl⟩ : ∃ i : Nat, j = i := ⟨j.toNat, by omega⟩
  by_cases hi : i < n
  · have e : gt (m.Open ++ [⟨m.Name, a, m.Now, m.Next⟩]) (i : Int) = gt m.Open (i : Int) := by
      rw [gt_at (by rw [List.length_append]; omega), gt_at (by omega), List.getElem_append_left (by omega)]
    rw [e]
    exact h.inv i (by omega) (by omega)
  · obtain rfl : i = n := by omega
    have e : gt (m.Open ++ [⟨m.Name, a, m.Now, m.Next⟩]) (i : Int) = ⟨m.Name, a, m.Now, m.Next⟩ := by
      rw [gt_at (by rw [List.length_append]; show i < m.Open.length + 1; omega), List.getElem_append_right (by omega)]
      simp [hl]
    rw [e]
    exact ⟨payValid_iff.2 ⟨h1, h2, ht.1, Int.le_trans ht.2 hT, by show 0 ≤ m.Next; omega, by show m.Next ≤ _; omega⟩, h.nm, Int.le_refl _, hx⟩
theorem rng_u16 {d : Int} : Rng .u16 d = (0 ≤ d ∧ d ≤ 65535) := by simp [Rng, IntKind.min, IntKind.max, IntKind.bits, IntKind.signed]
theorem u16_wf {l : List Int} (hw : wfL (l.map (V.int .u16))) : ∀ j : Int, 0 ≤ j → j < l.length → 0 ≤ gt l j ∧ gt l j ≤ 65535 := by
  intro j h0 h1
  have := wfL_iff.1 hw _ (List.mem_map_of_mem (gt_mem (l := l) (i := j) (by omega)))
  simpa only [wfV, rng_u16] using this
theorem letj_rule {α : Type} {P : α → Prop} {j : α → Bool} {f : (α → Bool) → Bool} (hj : ∀ a, P a → j a = true) (hf : ∀ J, (∀ a, P a → J a = true) → f J = true) : letj j f = true := hf j hj
theorem q_inv_refl (v : S_api_Invoice) : q_api_Invoice v v = true := by simp [q_api_Invoice]
theorem Invoices_true (name : List Int) (p : S_api_Policy) (am wt : List Int) (ha : ∀ j : Int, 0 ≤ j → j < am.length → 0 ≤ gt am j ∧ gt am j ≤ 65535) (hw : ∀ j : Int, 0 ≤ j → j < wt.length → 0 ≤ gt wt j ∧ gt wt j ≤ 65535) : specielaw47_MerchantInvoices name p am wt = true := by
  unfold specielaw47_MerchantInvoices
  simp only [letk, awake_true]
  rw [if_neg (by decide)]
  by_cases c1 : (am.length : Int) > 40
  · rw [if_pos (decide_eq_true c1)]
  by_cases c2 : (wt.length : Int) > 40
  · rw [if_neg (by simpa using c1), if_pos (decide_eq_true c2)]
  rw [if_neg (by simpa using c1), if_neg (by simpa using c2)]
  split
  · rfl
  rw [New_eq, polValid_eq]
  cases hp : specieref46_Valid p
  · rfl
  simp only [if_true]
  rw [if_neg (by decide)]
  refine iter_rule (P := fun q : Int × Int × S_api_Merchant => ∃ n i : Nat, q.1 = (n : Int) ∧ q.2.1 = (i : Int) ∧ n ≤ i ∧ i ≤ am.length ∧ Inv name p q.2.2 n (65535 * i)) (meas := fun q => ((am.length : Int) - q.2.1).toNat) (Q := fun r => r = true) (fun ag q hq hag => ?_) _ _ ⟨0, 0, rfl, rfl, Nat.le_refl _, Nat.zero_le _, ⟨rfl, rfl, rfl, rfl, rfl, rfl, ⟨Int.le_refl _, Int.le_refl _⟩, rfl, rfl, fun j h0 h1 => by omega⟩⟩ (by show ((am.length : Int) - 0).toNat < _; omega)
  obtain ⟨q1, q2, m0⟩ := q
  obtain ⟨n, i, e1, e2, hni, hia, hI0⟩ := hq
  simp only at e1 e2 hI0 hag ⊢
  subst e1 e2
  by_cases hi : (i : Int) < (am.length : Int)
  case neg =>
    rw [if_neg (by simpa using hi)]
    rw [if_pos (by simp [hI0.len]), if_pos (by simp [hI0.next]), hI0.total]; rfl
  rw [if_pos (decide_eq_true hi)]
  obtain ⟨a1, a2⟩ := ha i (by omega) hi
  have ec : convI .i64 (gt am (i : Int)) = gt am (i : Int) := conv_i64 (by omega) (by omega)
  rw [ec]
  have hm : ∀ n' m', ((am.length : Int) - (n', (i : Int) + 1, m').2.1).toNat < ((am.length : Int) - ((n : Int), (i : Int), m0).2.1).toNat := fun (n' : Int) (m' : S_api_Merchant) => by
    show ((am.length : Int) - ((i : Int) + 1)).toNat < ((am.length : Int) - (i : Int)).toNat
    omega
  -- what happens with the merchant of this round
  have round : ∀ m, Inv name p m n (65535 * (i + 1)) → (if (gt am (i : Int) == 0) = true then (if ((merchant_Ask m (gt am (i : Int))).2.2 != 2) = true then false else ag ((n : Int), (i : Int) + 1, m)) else (if ((policy_Limit p (remI .i64 (quoI .i64 m.Now 3600) 24) 0).2 != 0) = true then (if ((merchant_Ask m (gt am (i : Int))).2.2 != 16) = true then false else ag ((n : Int), (i : Int) + 1, m)) else (if decide (gt am (i : Int) > (policy_Limit p (remI .i64 (quoI .i64 m.Now 3600) 24) 0).1) = true then (if ((merchant_Ask m (gt am (i : Int))).2.2 != 16) = true then false else ag ((n : Int), (i : Int) + 1, m)) else (if ((merchant_Ask m (gt am (i : Int))).2.2 != 0) = true then false else (if (!q_api_Invoice (merchant_Ask m (gt am (i : Int))).2.1 { Payee := name, Amount := gt am (i : Int), Time := m.Now, Number := (n : Int) }) = true then false else (if (!merchant_Valid (merchant_Ask m (gt am (i : Int))).1) = true then false else (if (((merchant_Ask m (gt am (i : Int))).1.Open.length : Int) != addI .i64 (m.Open.length : Int) 1) = true then false else ag (addI .i64 (n : Int) 1, (i : Int) + 1, (merchant_Ask m (gt am (i : Int))).1)))))))) = true := by
    intro m hI
    have hv : Valid m := hI.valid hp (by omega) (by omega)
    have again : ag ((n : Int), (i : Int) + 1, m) = true := hag _ ⟨n, i + 1, rfl, by show (i : Int) + 1 = _; omega, by omega, by omega, hI⟩ (hm _ _)
    have hl := hI.len
    have hx := hI.next
    by_cases z : gt am (i : Int) = 0
    · rw [if_pos (by simp [z])]
      have : (merchant_Ask m (gt am (i : Int))).2.2 = 2 := by
        unfold merchant_Ask
        simp only [letk, mValid_iff.2 hv]
        rw [if_neg (by decide), if_pos (by simp; omega)]
      rw [this]
      exact again
    · rw [if_neg (by simpa using z)]
      have hA := Ask_eq (a := gt am (i : Int)) hv (by omega) (by omega) (by omega) (by omega)
      rw [hI.pol, hI.total] at hA
      by_cases l1 : (policy_Limit p (remI .i64 (quoI .i64 m.Now 3600) 24) 0).2 = 0
      · rw [if_neg (by simp [l1])]
        by_cases l2 : gt am (i : Int) ≤ (policy_Limit p (remI .i64 (quoI .i64 m.Now 3600) 24) 0).1
        · rw [if_pos ⟨l1, l2⟩] at hA
          rw [hA, if_neg (by simp; omega)]
          have hI' := hI.ask (a := gt am (i : Int)) (by omega) (by omega) (by omega) (by omega)
          have hv' := hI'.valid hp (by omega) (by omega)
          rw [show q_api_Invoice _ _ = true from by
            have : (⟨m.Name, gt am (i : Int), m.Now, m.Next⟩ : S_api_Invoice) = { Payee := name, Amount := gt am (i : Int), Time := m.Now, Number := (n : Int) } := by rw [hI.nm, hx]
            show q_api_Invoice (⟨m.Name, gt am (i : Int), m.Now, m.Next⟩ : S_api_Invoice) _ = true
            rw [this]; exact q_inv_refl _]
          have hv2 := mValid_iff.2 hv'
          simp only at hv2 ⊢
          rw [hI.pol, hI.total] at hv2
          rw [if_neg (by decide), if_neg (by decide), hv2, if_neg (by decide), add_ok (by omega) (by omega), add_ok (by omega) (by omega)]
          rw [if_neg (by rw [List.length_append]; simp)]
          have hI2 := hI'
          rw [hI.pol, hI.total] at hI2
          exact hag _ ⟨n + 1, i + 1, by show (n : Int) + 1 = _; omega, by show (i : Int) + 1 = _; omega, by omega, by omega, hI2⟩ (hm _ _)
        · rw [if_neg (fun h => l2 h.2)] at hA
          rw [hA, if_pos (by simp; omega)]
          exact again
      · rw [if_neg (fun h => l1 h.1)] at hA
        rw [hA, if_pos (by simp [l1])]
        exact again
  refine letj_rule (P := fun m => Inv name p m n (65535 * (i + 1))) round fun J hJ => ?_
  clear round
  by_cases hwt : (i : Int) < (wt.length : Int)
  · rw [if_pos (decide_eq_true hwt)]
    obtain ⟨w1, w2⟩ := hw i (by omega) hwt
    have hnow := hI0.now
    rw [conv_i64 (by omega) (by omega), add_ok (by omega) (by omega), Go_eq (hI0.valid hp (by omega) (by omega)) (by omega) (by omega)]
    exact hJ _ (hI0.later (by omega) (by omega))
  · rw [if_neg (by simpa using hwt)]
    exact hJ _ ⟨hI0.nm, hI0.pol, hI0.queue, hI0.paid, hI0.total, hI0.blocked, ⟨hI0.now.1, by have := hI0.now; omega⟩, hI0.next, hI0.len, hI0.inv⟩
theorem specielaw47_MerchantInvoices_true (name : List Int) (p : S_api_Policy) (am wt : List Int) {v0 v1 : V} (hw : wfL [v0, v1, .sl none 1 false (am.map (V.int .u16)), .sl none 1 false (wt.map (V.int .u16))]) : specielaw47_MerchantInvoices name p am wt = true :=
  Invoices_true name p am wt (u16_wf (by simp only [wfL, wfV] at hw; exact hw.2.2.1.2)) (u16_wf (by simp only [wfL, wfV] at hw; exact hw.2.2.2.1.2))
end Go.Proofs.Ytdidhdgdklkgeaa
