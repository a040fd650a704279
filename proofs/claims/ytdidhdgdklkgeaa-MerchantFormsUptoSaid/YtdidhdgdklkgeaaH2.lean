/- What callers must know of small functions. -/
import Derived.Test.YtdidhdgdklkgeaaM
import Derived.Test.YtdidhdgdklkgeaaL0
import Derived.KernelRfl
namespace Go.Proofs.Ytdidhdgdklkgeaa
open Go.RowKit
theorem spend_eq (s : S_api_Spend) : merchant_spend s = s := rfl
theorem spends_eq (l : List S_api_Spend) : merchant_spends l = l := by
  unfold merchant_spends
  simp only [letk, spend_eq]
  rw [iter_map0 (fun x => x) (fun ag p => rfl)]
  simp
theorem paid_eq (p : S_api_Payment) : merchant_paid p = p := by
  unfold merchant_paid
  simp only [letk, spends_eq, spend_eq, slices_Clone_int_int]
  rw [iter_map0 (fun x => x) (fun ag p => rfl), iter_map0 (fun x => x) (fun ag p => rfl)]
  simp
theorem cloned_eq (m : S_api_Merchant) : merchant_cloned m = m := by
  unfold merchant_cloned
  simp only [letk, paid_eq, slices_Clone_int_int, slices_Clone_api_Rule_api_Rule, slices_Clone_api_Invoice_api_Invoice]
  rw [iter_map0 (fun x => x) (fun ag p => rfl)]
  simp

theorem mValid_len {m : S_api_Merchant} (h : merchant_Valid m = true) : m.Open.length ≤ 50 ∧ m.Queue.length ≤ 50 ∧ m.Paid.length = m.Queue.length ∧ m.Blocked.length ≤ 100 := by
  unfold merchant_Valid at h
  simp only [letk] at h
  obtain ⟨_, h⟩ := ifF h
  obtain ⟨_, h⟩ := ifF h
  obtain ⟨_, h⟩ := ifF h
  obtain ⟨_, h⟩ := ifF h
  obtain ⟨_, h⟩ := ifF h
  obtain ⟨a1, h⟩ := ifF h
  obtain ⟨a2, h⟩ := ifF h
  obtain ⟨a3, h⟩ := ifF h
  obtain ⟨a4, h⟩ := ifF h
  simp at a1 a2 a3 a4
  omega
theorem refMax {h : S_api_Chain} : specieref35_Spends h = h.First :: h.L := rfl
theorem chains_any (l : List S_api_Chain) : slices_ContainsFunc_api_Chain_api_Chain_at_specielaw47_light_1 l = l.any specielaw47_light_1 := by
  unfold slices_ContainsFunc_api_Chain_api_Chain_at_specielaw47_light_1 slices_IndexFunc_api_Chain_api_Chain_at_specielaw47_light_1
  exact iter_any (fun ag p => rfl)
theorem chains_len {l : List S_api_Chain} (h : slices_ContainsFunc_api_Chain_api_Chain_at_specielaw47_light_1 l = false) : ∀ j : Int, 0 ≤ j → j.toNat < l.length → (gt l j).L.length ≤ 1000 := by
  intro j h0 h1
  rw [chains_any, List.any_eq_false] at h
  have := h _ (gt_mem h1)
  simp [specielaw47_light_1] at this
  omega
theorem refValid_len {m : S_api_Merchant} (h : specieref47_Valid m = true) : m.Open.length ≤ 50 ∧ m.Queue.length ≤ 50 ∧ m.Paid.length = m.Queue.length ∧ m.Blocked.length ≤ 100 := by
  unfold specieref47_Valid at h
  simp only [letk] at h
  obtain ⟨_, h⟩ := ifF h
  obtain ⟨_, h⟩ := ifF h
  obtain ⟨_, h⟩ := ifF h
  obtain ⟨_, h⟩ := ifF h
  obtain ⟨_, h⟩ := ifF h
  obtain ⟨a1, h⟩ := ifF h
  obtain ⟨a2, h⟩ := ifF h
  obtain ⟨a3, h⟩ := ifF h
  obtain ⟨a4, h⟩ := ifF h
  simp at a1 a2 a3 a4
  omega
/-- The chains are short. -/
def okP (p : S_api_Payment) : Prop := ∀ j : Int, 0 ≤ j → j.toNat < p.Chains.length → (gt p.Chains j).L.length ≤ 1000
def okQ (l : List S_api_Payment) : Prop := ∀ p, p ∈ l → okP p
theorem okP_zero : okP z_api_Payment := fun j _ h => absurd h (Nat.not_lt_zero _)
theorem okQ_nil : okQ [] := fun p h => absurd h (List.not_mem_nil)
theorem okQ_zero : okQ z_api_Merchant.Queue := okQ_nil
theorem okQ_at {l : List S_api_Payment} (h : okQ l) {j : Int} (hj : j.toNat < l.length) : okP (gt l j) := h _ (gt_mem hj)
theorem okQ_sl {l : List S_api_Payment} (h : okQ l) (i j : Int) : okQ (sl l i j) := fun p hp => h p (by unfold sl at hp; exact List.mem_of_mem_drop (List.mem_of_mem_take hp))
theorem few_any (l : List S_api_Payment) : slices_ContainsFunc_api_Payment_api_Payment_at_specielaw47_few_1 l = l.any specielaw47_few_1 := by
  unfold slices_ContainsFunc_api_Payment_api_Payment_at_specielaw47_few_1 slices_IndexFunc_api_Payment_api_Payment_at_specielaw47_few_1
  exact iter_any (fun ag p => rfl)
theorem light_ok {p : S_api_Payment} (h : specielaw47_light p = true) : okP p := by
  unfold specielaw47_light at h
  simp only [letk] at h
  obtain ⟨_, h⟩ := ifF h
  obtain ⟨_, h⟩ := ifF h
  obtain ⟨_, h⟩ := ifF h
  obtain ⟨h, _⟩ := ifF h
  exact chains_len h
theorem few_ok {m : S_api_Merchant} (h : specielaw47_few m = true) : okQ m.Queue := by
  unfold specielaw47_few at h
  simp only [letk] at h
  obtain ⟨_, h⟩ := ifT h
  obtain ⟨_, h⟩ := ifT h
  obtain ⟨_, h⟩ := ifT h
  obtain ⟨_, h⟩ := ifT h
  obtain ⟨_, h⟩ := ifT h
  rw [few_any] at h
  simp only [Bool.not_eq_true', List.any_eq_false] at h
  intro p hp
  have := h p hp
  simp [specielaw47_few_1, letk] at this
  exact light_ok this
theorem okQ_Ask {m : S_api_Merchant} {a : Int} (h : okQ m.Queue) : okQ (merchant_Ask m a).1.Queue := by
  unfold merchant_Ask
  simp only [letk, cloned_eq]
  repeat' split
  all_goals first | exact okQ_nil | exact h
theorem half_le (a b : Int) (h0 : 0 ≤ a) (h1 : a < b) (h2 : b ≤ 1073741824) : a ≤ convI .i64 (shrI .u64 (convI .u64 (a + b)) 1) ∧ convI .i64 (shrI .u64 (convI .u64 (a + b)) 1) < b := by
  have e1 : convI .u64 (a + b) = a + b := conv_u64 (by omega) (by omega)
  have e2 : shrI .u64 (a + b) 1 = (a + b) / 2 := by
    unfold shrI
    rw [Int.fdiv_eq_ediv_of_nonneg _ (by decide)]
    rfl
  rw [e1, e2, conv_i64 (by omega) (by omega)]
  omega
theorem bs_range {l : List Int} {t : Int} (hl : l.length ≤ 1073741824) : 0 ≤ (slices_BinarySearch_int_int l t).1 ∧ (slices_BinarySearch_int_int l t).1 ≤ l.length := by
  unfold slices_BinarySearch_int_int
  refine iter_rule (P := fun q : Int × Int => 0 ≤ q.1 ∧ q.1 ≤ q.2 ∧ q.2 ≤ (l.length : Int)) (meas := fun q => (q.2 - q.1).toNat) (Q := fun r : Int × Bool => 0 ≤ r.1 ∧ r.1 ≤ (l.length : Int)) (fun ag p hp hag => ?_) _ _ ⟨Int.le_refl _, by simp, Int.le_refl _⟩ (Nat.lt_succ_self _)
  obtain ⟨p1, p2⟩ := p
  simp only at hp hag ⊢
  by_cases hlt : p1 < p2
  · rw [if_pos (decide_eq_true hlt)]
    have hm := half_le p1 p2 hp.1 hlt (by omega)
    simp only [letk]
    generalize convI .i64 (shrI .u64 (convI .u64 (p1 + p2)) 1) = M at hm
    split
    · exact hag (M + 1, p2) ⟨by show 0 ≤ M + 1; omega, by show M + 1 ≤ p2; omega, hp.2.2⟩ (by show (p2 - (M + 1)).toNat < (p2 - p1).toNat; omega)
    · exact hag (p1, M) ⟨hp.1, by show p1 ≤ M; omega, by show M ≤ (l.length : Int); omega⟩ (by show (M - p1).toNat < (p2 - p1).toNat; omega)
  · rw [if_neg (by simpa using hlt)]
    simp only [letk]
    repeat' split
    all_goals exact ⟨hp.1, by omega⟩
theorem okQ_New {n : List Int} {p : S_api_Policy} : okQ (merchant_New n p).1.Queue := by
  unfold merchant_New
  simp only [letk]
  split <;> exact okQ_nil
theorem okQ_Block {m : S_api_Merchant} {a : Int} (h : okQ m.Queue) : okQ (merchant_Block m a).1.Queue := by
  unfold merchant_Block
  simp only [letk, cloned_eq]
  repeat' split
  all_goals first | exact okQ_nil | exact h
theorem okQ_Go {m : S_api_Merchant} {a : Int} (h : okQ m.Queue) : okQ (merchant_Go m a).1.Queue := by
  unfold merchant_Go
  simp only [letk, cloned_eq]
  repeat' split
  all_goals first | exact okQ_nil | exact h
end Go.Proofs.Ytdidhdgdklkgeaa
