/- What callers must know of small functions. -/
import Derived.Test.YtndjbfdbngkkiaaM
import Derived.Test.YtndjbfdbngkkiaaL0
import Derived.KernelRfl
namespace Go.Proofs.Ytndjbfdbngkkiaa
open Go.RowKit
theorem mul64_one_all : ((List.range 1001).all fun n => math_bits_Mul64 1 (n : Int) == (0, (n : Int))) = true := by kernel_rfl
theorem mul_one {a b : Int} (ha : a = 1) (h0 : 0 ≤ b) (h1 : b ≤ 1000) : math_bits_Mul a b = (0, b) := by
  subst ha
  have h := List.all_eq_true.1 mul64_one_all b.toNat (List.mem_range.2 (by omega))
  have e : ((b.toNat : Nat) : Int) = b := by omega
  rw [e] at h
  have h' : math_bits_Mul64 1 b = (0, b) := by simpa using h
  simp only [math_bits_Mul, letk, h']

/-- What the rows of the table of changes keep: the last count, and its value; how many coins there are at most. -/
def RowOk (v : Int) (r : List S_denom_way) (am k : Int) : Prop := ∀ a : Int, 0 ≤ a → a ≤ am → (0 ≤ (gt r a).last ∧ (gt r a).last ≤ 1000 ∧ (gt r a).last * v ≤ a) ∧ (0 ≤ (gt r a).coins ∧ (gt r a).coins ≤ 1000 * k)
theorem RowOk.zero {v am k : Int} (hk : 0 ≤ k) {n : Nat} : RowOk v (rep n z_denom_way) am k := by
  intro a h0 h1
  have e : gt (rep n z_denom_way) a = z_denom_way := by rw [gt_repl]; split <;> rfl
  rw [e]
  refine ⟨⟨Int.le_refl _, by decide, ?_⟩, Int.le_refl _, ?_⟩
  · show 0 * v ≤ a
    rw [Int.zero_mul]; exact h0
  · show (0 : Int) ≤ 1000 * k
    omega
theorem RowOk.set {v am a k : Int} {r : List S_denom_way} {x : S_denom_way} (h : RowOk v r am k) (ha : 0 ≤ a) (h0 : 0 ≤ x.last) (h1 : x.last ≤ 1000) (h2 : x.last * v ≤ a) (h3 : 0 ≤ x.coins) (h4 : x.coins ≤ 1000 * k) : RowOk v (st r a x) am k := by
  intro b hb0 hb1
  rw [gt_st]
  split
  · rename_i hc
    have : a = b := by omega
    subst this
    exact ⟨⟨h0, h1, h2⟩, h3, h4⟩
  · exact h b hb0 hb1
theorem RowOk.init {v am : Int} {n : Nat} {x : S_denom_way} (h1 : x.last = 0) (h2 : x.coins = 0) : RowOk v (st (rep n z_denom_way) 0 x) am 0 :=
  (RowOk.zero (Int.le_refl _)).set (Int.le_refl _) (by omega) (by omega) (by rw [h1, Int.zero_mul]; exact Int.le_refl _) (by omega) (by omega)
theorem gt_rep0 {n : Nat} : gt (rep n z_denom_way) 0 = z_denom_way := by rw [gt_repl]; split <;> rfl

/-! What is known of valid lists. -/
theorem single_spec {d : S_api_Denom} (h : denom_single d = true) : 0 ≤ d.Value ∧ d.Value ≤ 1099511627776 ∧ 0 ≤ d.Depth ∧ d.Depth ≤ 5 := by
  unfold denom_single at h
  by_cases h0 : (d.Value == 0 && d.Depth == 0) = true
  · simp at h0; omega
  · by_cases a1 : d.Value ≥ 1 <;> by_cases a2 : d.Value ≤ 1099511627776 <;> by_cases a3 : d.Depth ≥ 0 <;> by_cases a4 : d.Depth ≤ 5 <;> simp [h0, a1, a2, a3, a4] at h
    omega
theorem One_spec {d : S_api_Denom} (h : specieref28_One d = true) : 0 ≤ d.Value ∧ d.Value ≤ 1099511627776 ∧ 0 ≤ d.Depth ∧ d.Depth ≤ 5 := by
  unfold specieref28_One at h
  by_cases h0 : d.Value = 0
  · simp [h0] at h; omega
  · by_cases a1 : d.Value ≥ 1 <;> by_cases a2 : d.Value ≤ 1099511627776 <;> by_cases a3 : d.Depth ≥ 0 <;> by_cases a4 : d.Depth ≤ 5 <;> simp [h0, a1, a2, a3, a4] at h
    omega
/-- A pair of neighbours is in order. -/
def ordB (l : List S_api_Denom) (p : Int) : Bool := !decide (p > 0) || (!decide ((gt l p).Value < (gt l (p - 1)).Value) && (!((gt l p).Value == (gt l (p - 1)).Value) || !decide ((gt l p).Depth ≤ (gt l (p - 1)).Depth)))
theorem Valid_iff {l : List S_api_Denom} : denom_Valid l = true ↔ (1 ≤ l.length ∧ l.length ≤ 16 ∧ ∀ j : Int, 0 ≤ j → j < l.length → (denom_single (gt l j) && ordB l j) = true) := by
  unfold denom_Valid
  by_cases h1 : (l.length : Int) < 1
  · simp [h1]; intro h; omega
  by_cases h2 : (l.length : Int) > 16
  · simp [h2]; omega
  simp only [h1, h2, decide_false, Bool.false_eq_true, if_false]
  rw [iter_all (n := (l.length : Int)) (C := fun p => denom_single (gt l p) && ordB l p) (fun ag p => ?_) _ _ (by omega)]
  · exact ⟨fun h => ⟨by omega, by omega, h⟩, fun h => h.2.2⟩
  · simp only [letk, ordB]
    by_cases hp : p < (l.length : Int)
    · simp only [hp, decide_true, if_true]
      cases denom_single (gt l p) <;> by_cases a1 : p > 0 <;> by_cases a2 : (gt l p).Value < (gt l (p - 1)).Value <;> by_cases a3 : (gt l p).Value = (gt l (p - 1)).Value <;> by_cases a4 : (gt l p).Depth ≤ (gt l (p - 1)).Depth <;> simp [a1, a2, a3, a4]
    · simp [hp]
theorem refValid_iff {l : List S_api_Denom} : specieref28_Valid l = true ↔ (1 ≤ l.length ∧ l.length ≤ 16 ∧ ∀ j : Int, 0 ≤ j → j < l.length → (specieref28_One (gt l j) && ordB l j) = true) := by
  unfold specieref28_Valid
  by_cases h1 : (l.length : Int) < 1
  · simp [h1]; intro h; omega
  by_cases h2 : (l.length : Int) > 16
  · simp [h2]; omega
  simp only [h1, h2, decide_false, Bool.false_eq_true, if_false]
  rw [iter_all (n := (l.length : Int)) (C := fun p => specieref28_One (gt l p) && ordB l p) (fun ag p => ?_) _ _ (by omega)]
  · exact ⟨fun h => ⟨by omega, by omega, h⟩, fun h => h.2.2⟩
  · simp only [letk, ordB]
    by_cases hp : p < (l.length : Int)
    · simp only [hp, decide_true, if_true]
      cases specieref28_One (gt l p) <;> by_cases a1 : p > 0 <;> by_cases a2 : (gt l p).Value < (gt l (p - 1)).Value <;> by_cases a3 : (gt l p).Value = (gt l (p - 1)).Value <;> by_cases a4 : (gt l p).Depth ≤ (gt l (p - 1)).Depth <;> simp [a1, a2, a3, a4]
    · simp [hp]
theorem single_eq (d : S_api_Denom) : denom_single d = specieref28_One d := by
  unfold denom_single specieref28_One
  by_cases h0 : d.Value = 0
  · by_cases h1 : d.Depth = 0 <;> simp [h0, h1]
  · by_cases h1 : 0 ≤ d.Depth <;> by_cases h2 : d.Depth ≤ 5 <;> simp [h0, h1, h2]
    rw [conv_u64 h1 (by omega)]
theorem Valid_eq (l : List S_api_Denom) : denom_Valid l = specieref28_Valid l := by
  rw [Bool.eq_iff_iff, Valid_iff, refValid_iff]
  simp only [single_eq]
theorem Valid_len {l : List S_api_Denom} (h : denom_Valid l = true) : 1 ≤ l.length ∧ l.length ≤ 16 := ⟨(Valid_iff.1 h).1, (Valid_iff.1 h).2.1⟩
theorem Valid_val {l : List S_api_Denom} (h : denom_Valid l = true) : ∀ j : Int, 0 ≤ j → j.toNat < l.length → 0 ≤ (gt l j).Value ∧ (gt l j).Value ≤ 1099511627776 := by
  intro j h0 h1
  have := (Valid_iff.1 h).2.2 j h0 (by omega)
  simp only [Bool.and_eq_true] at this
  have := single_spec this.1
  exact ⟨this.1, this.2.1⟩
theorem counted1 (n : Int) : denom_counted_1 n = !decide (0 ≤ n ∧ n ≤ 1000) := by
  unfold denom_counted_1
  by_cases h0 : n < 0 <;> by_cases h1 : n > 1000 <;> simp [h0, h1] <;> omega
theorem counted_iff {l : List S_api_Denom} {c : List Int} : denom_counted l c = true ↔ (c.length = l.length ∧ ∀ j : Int, 0 ≤ j → j < c.length → 0 ≤ gt c j ∧ gt c j ≤ 1000) := by
  unfold denom_counted slices_ContainsFunc_int_int_at_denom_counted_1 slices_IndexFunc_int_int_at_denom_counted_1
  by_cases h : c.length = l.length
  · simp only [h, beq_self_eq_true, if_true, letk, Bool.not_eq_true', decide_eq_false_iff_not, true_and, ge_iff_le, Int.not_le]
    rcases iter_find (n := (l.length : Int)) (C := fun p => denom_counted_1 (gt c p)) (F := fun ag1 p1 => if decide (p1 < (l.length : Int)) then (if denom_counted_1 (gt c p1) then p1 else ag1 (p1 + 1)) else -1) (d := fun _ => default) (fun ag p => by by_cases hp : p < (l.length : Int) <;> simp [hp]) (((l.length : Int) - 0).toNat + 1) 0 (by omega) (by omega) with ⟨h1, h2⟩ | ⟨h1, h2, h3, h4⟩
    · rw [h1]
      refine ⟨fun _ j g0 g1 => ?_, fun _ => by decide⟩
      have := h2 j g0 g1
      rw [counted1] at this
      simpa using this
    · refine ⟨fun g => by omega, fun g => ?_⟩
      have := g _ h1 h2
      rw [counted1] at h3
      simp only [Bool.not_eq_true', decide_eq_false_iff_not] at h3
      exact absurd this h3
  · have : ((c.length : Int) == (l.length : Int)) = false := by simp; omega
    simp [this, h]
theorem counted_len {l : List S_api_Denom} {c : List Int} (h : denom_counted l c = true) : c.length = l.length := (counted_iff.1 h).1
theorem counted_val {l : List S_api_Denom} {c : List Int} (h : denom_counted l c = true) : ∀ j : Int, 0 ≤ j → j.toNat < c.length → 0 ≤ gt c j ∧ gt c j ≤ 1000 := fun j h0 h1 => (counted_iff.1 h).2 j h0 (by omega)
theorem Counts_iff {l : List S_api_Denom} {c : List Int} : specieref28_Counts l c = true ↔ (c.length = l.length ∧ ∀ j : Int, 0 ≤ j → j < c.length → 0 ≤ gt c j ∧ gt c j ≤ 1000) := by
  unfold specieref28_Counts
  by_cases h : c.length = l.length
  · simp only [h, bne_self_eq_false, Bool.false_eq_true, if_false, true_and]
    rw [iter_all (n := (l.length : Int)) (C := fun p => decide (0 ≤ gt c p ∧ gt c p ≤ 1000)) (fun ag p => ?_) _ _ (by omega)]
    · simp only [decide_eq_true_eq]
    · by_cases hp : p < (l.length : Int) <;> by_cases a1 : gt c p < 0 <;> by_cases a2 : gt c p > 1000 <;> simp [hp, a1, a2] <;> omega
  · have : ((c.length : Int) != (l.length : Int)) = true := by simp; omega
    simp [this, h]
theorem Counts_eq (l : List S_api_Denom) (c : List Int) : specieref28_Counts l c = denom_counted l c := by
  rw [Bool.eq_iff_iff, Counts_iff, counted_iff]
end Go.Proofs.Ytndjbfdbngkkiaa
