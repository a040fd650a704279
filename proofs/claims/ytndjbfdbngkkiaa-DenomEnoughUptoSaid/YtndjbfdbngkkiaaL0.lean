/-
  L 0: plain laws of loops in models.
-/
import Derived.Test.YtndjbfdbngkkiaaVO
namespace Go.Proofs.Ytndjbfdbngkkiaa
open Go.RowKit

/-- A loop that stops with 'false' at the first number that does not do. -/
theorem iter_all {C : Int → Bool} {n : Int} {F : (Int → Bool) → Int → Bool} (hF : ∀ ag p, F ag p = if p < n then (if C p = true then ag (p + 1) else false) else true) {d : Int → Bool} :
    ∀ (fuel : Nat) (i : Int), (n - i).toNat < fuel → (iter fuel F d i = true ↔ ∀ j, i ≤ j → j < n → C j = true) := by
  intro fuel
  induction fuel with
  | zero => intro i h; omega
  | succ k ih =>
    intro i h
    rw [iter, hF]
    by_cases hi : i < n
    · rw [if_pos hi]
      by_cases hc : C i = true
      · rw [if_pos hc, ih (i + 1) (by omega)]
        constructor
        · intro H j h1 h2
          by_cases e : j = i
          · subst e; exact hc
          · exact H j (by omega) h2
        · intro H j h1 h2; exact H j (by omega) h2
      · rw [if_neg hc]
        constructor
        · intro H; cases H
        · intro H; exact absurd (H i (Int.le_refl _) hi) hc
    · rw [if_neg hi]
      exact ⟨fun _ j h1 h2 => by omega, fun _ => rfl⟩
/-- A loop that looks for the first number that does. -/
theorem iter_find {C : Int → Bool} {n : Int} {F : (Int → Int) → Int → Int} (hF : ∀ ag p, F ag p = if p < n then (if C p = true then p else ag (p + 1)) else -1) {d : Int → Int} :
    ∀ (fuel : Nat) (i : Int), 0 ≤ i → (n - i).toNat < fuel → (iter fuel F d i = -1 ∧ ∀ j, i ≤ j → j < n → C j = false) ∨ (i ≤ iter fuel F d i ∧ iter fuel F d i < n ∧ C (iter fuel F d i) = true ∧ ∀ j, i ≤ j → j < iter fuel F d i → C j = false) := by
  intro fuel
  induction fuel with
  | zero => intro i _ h; omega
  | succ k ih =>
    intro i h0 h
    rw [iter, hF]
    by_cases hi : i < n
    · rw [if_pos hi]
      by_cases hc : C i = true
      · rw [if_pos hc]
        exact .inr ⟨Int.le_refl _, hi, hc, fun j h1 h2 => by omega⟩
      · rw [if_neg hc]
        have hc' : C i = false := by simpa using hc
        rcases ih (i + 1) (by omega) (by omega) with ⟨h1, h2⟩ | ⟨h1, h2, h3, h4⟩
        · refine .inl ⟨h1, fun j g1 g2 => ?_⟩
          by_cases e : j = i
          · subst e; exact hc'
          · exact h2 j (by omega) g2
        · refine .inr ⟨by omega, h2, h3, fun j g1 g2 => ?_⟩
          by_cases e : j = i
          · subst e; exact hc'
          · exact h4 j (by omega) g2
    · rw [if_neg hi]
      exact .inl ⟨rfl, fun j h1 h2 => by omega⟩
/-- k rounds, from i on. -/
def rounds {α : Type} (g : Int → α → α) : Nat → Int → α → α
  | 0, _, a => a
  | k + 1, i, a => rounds g k (i + 1) (g i a)
theorem rounds_succ {α : Type} {g : Int → α → α} : ∀ (k : Nat) (i : Int) (a : α), rounds g (k + 1) i a = g (i + k) (rounds g k i a)
  | 0, i, a => by simp [rounds]
  | k + 1, i, a => by
    rw [rounds, rounds_succ k (i + 1) (g i a), rounds]
    congr 1
    omega
/-- A loop that counts to n. -/
theorem iter_fold {α R : Type} {g : Int → α → α} {e : α → R} {n : Int} {F : (α × Int → R) → α × Int → R} (hF : ∀ ag a p, F ag (a, p) = if p < n then ag (g p a, p + 1) else e a) {d : α × Int → R} :
    ∀ (fuel : Nat) (a : α) (i : Int), (n - i).toNat < fuel → iter fuel F d (a, i) = e (rounds g (n - i).toNat i a) := by
  intro fuel
  induction fuel with
  | zero => intro a i h; omega
  | succ k ih =>
    intro a i h
    rw [iter, hF]
    by_cases hi : i < n
    · rw [if_pos hi, ih _ _ (by omega)]
      have : (n - i).toNat = (n - (i + 1)).toNat + 1 := by omega
      rw [this]; rfl
    · rw [if_neg hi]
      have : (n - i).toNat = 0 := by omega
      rw [this]; rfl
/-- What a property of the state survives. -/
theorem rounds_inv {α : Type} {g : Int → α → α} {P : Int → α → Prop} : ∀ (k : Nat) (i : Int) (a : α), P i a → (∀ j b, i ≤ j → j < i + k → P j b → P (j + 1) (g j b)) → P (i + k) (rounds g k i a)
  | 0, i, a, h, _ => by simpa [rounds] using h
  | k + 1, i, a, h, hs => by
    rw [rounds]
    have := rounds_inv k (i + 1) (g i a) (hs i a (Int.le_refl _) (by omega) h) (fun j b h1 h2 => hs j b (by omega) (by omega))
    have e : i + 1 + (k : Int) = i + ((k + 1 : Nat) : Int) := by omega
    rwa [e] at this
theorem letk_eq {α β : Type} {a : α} {f : α → β} : letk a f = f a := rfl
theorem letj_eq {α R : Type} {j : α → R} {f : (α → R) → R} : letj j f = f j := rfl
theorem gt_map {α β : Type} [Inhabited α] [Inhabited β] {l : List α} {f : α → β} {i : Int} (h : i.toNat < l.length) : gt (l.map f) i = f (gt l i) := by
  simp [gt, List.getD_eq_getElem?_getD, h]
theorem gt_mem {α : Type} [Inhabited α] {l : List α} {i : Int} (h : i.toNat < l.length) : gt l i ∈ l := by
  simp [gt, List.getD_eq_getElem?_getD, h]
theorem gt_ext {α : Type} [Inhabited α] {l m : List α} (hl : l.length = m.length) (h : ∀ i : Int, 0 ≤ i → i < l.length → gt l i = gt m i) : l = m := by
  refine List.ext_getElem hl fun i h1 h2 => ?_
  have := h i (by omega) (by omega)
  simpa [gt, List.getD_eq_getElem?_getD, h1, h2] using this
end Go.Proofs.Ytndjbfdbngkkiaa
