/- What callers must know of small functions. -/
import Derived.Test.YtdidhdgdklkgeaaM
import Derived.Test.YtdidhdgdklkgeaaL0
import Derived.KernelRfl
namespace Go.Proofs.Ytdidhdgdklkgeaa
open Go.RowKit
theorem spend_eq (s : S_api_Spend) : merchant_spend s = s := rfl
theorem spends_eq (l : List S_api_Spend) : merchant_spends l = l := by
  unfold merchant_spends
  simp only [letk, spend_eq]
  rw [iter_map0 (fun x => x) (fun ag p => rfl)]
  simp
theorem paid_eq (p : S_api_Payment) : merchant_paid p = p := by
  unfold merchant_paid
  simp only [letk, spends_eq, spend_eq, slices_Clone_int_int]
  rw [iter_map0 (fun x => x) (fun ag p => rfl), iter_map0 (fun x => x) (fun ag p => rfl)]
  simp
theorem cloned_eq (m : S_api_Merchant) : merchant_cloned m = m := by
  unfold merchant_cloned
  simp only [letk, paid_eq, slices_Clone_int_int, slices_Clone_api_Rule_api_Rule, slices_Clone_api_Invoice_api_Invoice]
  rw [iter_map0 (fun x => x) (fun ag p => rfl)]
  simp

theorem mValid_len {m : S_api_Merchant} (h : merchant_Valid m = true) : m.Open.length ≤ 50 ∧ m.Queue.length ≤ 50 ∧ m.Paid.length = m.Queue.length ∧ m.Blocked.length ≤ 100 := by
  unfold merchant_Valid at h
  simp only [letk] at h
  obtain ⟨_, h⟩ := ifF h
  obtain ⟨_, h⟩ := ifF h
  obtain ⟨_, h⟩ := ifF h
  obtain ⟨_, h⟩ := ifF h
  obtain ⟨_, h⟩ := ifF h
  obtain ⟨a1, h⟩ := ifF h
  obtain ⟨a2, h⟩ := ifF h
  obtain ⟨a3, h⟩ := ifF h
  obtain ⟨a4, h⟩ := ifF h
  simp at a1 a2 a3 a4
  omega
theorem refMax {h : S_api_Chain} : specieref35_Spends h = h.First :: h.L := rfl
theorem chains_any (l : List S_api_Chain) : slices_ContainsFunc_api_Chain_api_Chain_at_specielaw47_light_1 l = l.any specielaw47_light_1 := by
  unfold slices_ContainsFunc_api_Chain_api_Chain_at_specielaw47_light_1 slices_IndexFunc_api_Chain_api_Chain_at_specielaw47_light_1
  exact iter_any (fun ag p => rfl)
theorem chains_len {l : List S_api_Chain} (h : slices_ContainsFunc_api_Chain_api_Chain_at_specielaw47_light_1 l = false) : ∀ j : Int, 0 ≤ j → j.toNat < l.length → (gt l j).L.length ≤ 1000 := by
  intro j h0 h1
  rw [chains_any, List.any_eq_false] at h
  have := h _ (gt_mem h1)
  simp [specielaw47_light_1] at this
  omega
theorem refValid_len {m : S_api_Merchant} (h : specieref47_Valid m = true) : m.Open.length ≤ 50 ∧ m.Queue.length ≤ 50 ∧ m.Paid.length = m.Queue.length ∧ m.Blocked.length ≤ 100 := by
  unfold specieref47_Valid at h
  simp only [letk] at h
  obtain ⟨_, h⟩ := ifF h
  obtain ⟨_, h⟩ := ifF h
  obtain ⟨_, h⟩ := ifF h
  obtain ⟨_, h⟩ := ifF h
  obtain ⟨_, h⟩ := ifF h
  obtain ⟨a1, h⟩ := ifF h
  obtain ⟨a2, h⟩ := ifF h
  obtain ⟨a3, h⟩ := ifF h
  obtain ⟨a4, h⟩ := ifF h
  simp at a1 a2 a3 a4
  omega
/-- The chains are short. -/
def okP (p : S_api_Payment) : Prop := ∀ j : Int, 0 ≤ j → j.toNat < p.Chains.length → (gt p.Chains j).L.length ≤ 1000
def okQ (l : List S_api_Payment) : Prop := ∀ p, p ∈ l → okP p
theorem okP_zero : okP z_api_Payment := fun j _ h => absurd h (Nat.not_lt_zero _)
theorem okQ_nil : okQ [] := fun p h => absurd h (List.not_mem_nil)
theorem okQ_zero : okQ z_api_Merchant.Queue := okQ_nil
theorem okQ_at {l : List S_api_Payment} (h : okQ l) {j : Int} (hj : j.toNat < l.length) : okP (gt l j) := h _ (gt_mem hj)
theorem okQ_sl {l : List S_api_Payment} (h : okQ l) (i j : Int) : okQ (sl l i j) := fun p hp => h p (by unfold sl at hp; exact List.mem_of_mem_drop (List.mem_of_mem_take hp))
theorem few_any (l : List S_api_Payment) : slices_ContainsFunc_api_Payment_api_Payment_at_specielaw47_few_1 l = l.any specielaw47_few_1 := by
  unfold slices_ContainsFunc_api_Payment_api_Payment_at_specielaw47_few_1 slices_IndexFunc_api_Payment_api_Payment_at_specielaw47_few_1
  exact iter_any (fun ag p => rfl)
theorem light_ok {p : S_api_Payment} (h : specielaw47_light p = true) : okP p := by
  unfold specielaw47_light at h
  simp only [letk] at h
  obtain ⟨_, h⟩ := ifF h
  obtain ⟨_, h⟩ := ifF h
  obtain ⟨_, h⟩ := ifF h
  obtain ⟨h, _⟩ := ifF h
  exact chains_len h
theorem few_ok {m : S_api_Merchant} (h : specielaw47_few m = true) : okQ m.Queue := by
  unfold specielaw47_few at h
  simp only [letk] at h
  obtain ⟨_, h⟩ := ifT h
  obtain ⟨_, h⟩ := ifT h
  obtain ⟨_, h⟩ := ifT h
  obtain ⟨_, h⟩ := ifT h
  obtain ⟨_, h⟩ := ifT h
  rw [few_any] at h
  simp only [Bool.not_eq_true', List.any_eq_false] at h
  intro p hp
  have := h p hp
  simp [specielaw47_few_1, letk] at this
  exact light_ok this
theorem okQ_Ask {m : S_api_Merchant} {a : Int} (h : okQ m.Queue) : okQ (merchant_Ask m a).1.Queue := by
  unfold merchant_Ask
  simp only [letk, cloned_eq]
  repeat' split
  all_goals first | exact okQ_nil | exact h
theorem okQ_refAsk {m : S_api_Merchant} {a : Int} (h : okQ m.Queue) : okQ (specieref47_Ask m a).1.Queue := by
  unfold specieref47_Ask
  simp only [letk, specieref47_Copy]
  repeat' split
  all_goals first | exact okQ_nil | exact h
theorem okQ_Deposit {m : S_api_Merchant} (h : okQ m.Queue) : okQ (merchant_Deposit m).1.Queue := by
  unfold merchant_Deposit
  simp only [letk, cloned_eq]
  repeat' split
  all_goals first | exact okQ_nil | exact okQ_sl h _ _
theorem okP_Deposit {m : S_api_Merchant} (h : okQ m.Queue) : okP (merchant_Deposit m).2.2.1 := by
  unfold merchant_Deposit
  simp only [letk, cloned_eq]
  split
  · exact okP_zero
  · split
    · exact okP_zero
    · rename_i hv hq
      have hq' : m.Queue.length ≠ 0 := fun e => hq (by simp [e])
      exact okQ_at h (show (0 : Int).toNat < _ by have : (0 : Int).toNat = 0 := rfl; omega)
end Go.Proofs.Ytdidhdgdklkgeaa
