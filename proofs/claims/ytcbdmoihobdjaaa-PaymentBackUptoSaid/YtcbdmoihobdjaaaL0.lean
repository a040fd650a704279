/-
  L 0: plain laws of loops in models.
-/
import Derived.Test.YtcbdmoihobdjaaaVO
namespace Go.Proofs.Ytcbdmoihobdjaaa
open Go.RowKit

/-- A loop that stops with 'false' at the first number that does not do. -/
theorem iter_all {C : Int → Bool} {n : Int} {F : (Int → Bool) → Int → Bool} (hF : ∀ ag p, F ag p = if p < n then (if C p = true then ag (p + 1) else false) else true) {d : Int → Bool} :
    ∀ (fuel : Nat) (i : Int), (n - i).toNat < fuel → (iter fuel F d i = true ↔ ∀ j, i ≤ j → j < n → C j = true) := by
  intro fuel
  induction fuel with
  | zero => intro i h; omega
  | succ k ih =>
    intro i h
    rw [iter, hF]
    by_cases hi : i < n
    · rw [if_pos hi]
      by_cases hc : C i = true
      · rw [if_pos hc, ih (i + 1) (by omega)]
        constructor
        · intro H j h1 h2
          by_cases e : j = i
          · subst e; exact hc
          · exact H j (by omega) h2
        · intro H j h1 h2; exact H j (by omega) h2
      · rw [if_neg hc]
        constructor
        · intro H; cases H
        · intro H; exact absurd (H i (Int.le_refl _) hi) hc
    · rw [if_neg hi]
      exact ⟨fun _ j h1 h2 => by omega, fun _ => rfl⟩
/-- A loop that looks for the first number that does. -/
theorem iter_find {C : Int → Bool} {n : Int} {F : (Int → Int) → Int → Int} (hF : ∀ ag p, F ag p = if p < n then (if C p = true then p else ag (p + 1)) else -1) {d : Int → Int} :
    ∀ (fuel : Nat) (i : Int), 0 ≤ i → (n - i).toNat < fuel → (iter fuel F d i = -1 ∧ ∀ j, i ≤ j → j < n → C j = false) ∨ (i ≤ iter fuel F d i ∧ iter fuel F d i < n ∧ C (iter fuel F d i) = true ∧ ∀ j, i ≤ j → j < iter fuel F d i → C j = false) := by
  intro fuel
  induction fuel with
  | zero => intro i _ h; omega
  | succ k ih =>
    intro i h0 h
    rw [iter, hF]
    by_cases hi : i < n
    · rw [if_pos hi]
      by_cases hc : C i = true
      · rw [if_pos hc]
        exact .inr ⟨Int.le_refl _, hi, hc, fun j h1 h2 => by omega⟩
      · rw [if_neg hc]
        have hc' : C i = false := by simpa using hc
        rcases ih (i + 1) (by omega) (by omega) with ⟨h1, h2⟩ | ⟨h1, h2, h3, h4⟩
        · refine .inl ⟨h1, fun j g1 g2 => ?_⟩
          by_cases e : j = i
          · subst e; exact hc'
          · exact h2 j (by omega) g2
        · refine .inr ⟨by omega, h2, h3, fun j g1 g2 => ?_⟩
          by_cases e : j = i
          · subst e; exact hc'
          · exact h4 j (by omega) g2
    · rw [if_neg hi]
      exact .inl ⟨rfl, fun j h1 h2 => by omega⟩
/-- k rounds, from i on. -/
def rounds {α : Type} (g : Int → α → α) : Nat → Int → α → α
  | 0, _, a => a
  | k + 1, i, a => rounds g k (i + 1) (g i a)
theorem rounds_succ {α : Type} {g : Int → α → α} : ∀ (k : Nat) (i : Int) (a : α), rounds g (k + 1) i a = g (i + k) (rounds g k i a)
  | 0, i, a => by simp [rounds]
  | k + 1, i, a => by
    rw [rounds, rounds_succ k (i + 1) (g i a), rounds]
    congr 1
    omega
/-- A loop that counts to n. -/
theorem iter_fold {α R : Type} {g : Int → α → α} {e : α → R} {n : Int} {F : (α × Int → R) → α × Int → R} (hF : ∀ ag a p, F ag (a, p) = if p < n then ag (g p a, p + 1) else e a) {d : α × Int → R} :
    ∀ (fuel : Nat) (a : α) (i : Int), (n - i).toNat < fuel → iter fuel F d (a, i) = e (rounds g (n - i).toNat i a) := by
  intro fuel
  induction fuel with
  | zero => intro a i h; omega
  | succ k ih =>
    intro a i h
    rw [iter, hF]
    by_cases hi : i < n
    · rw [if_pos hi, ih _ _ (by omega)]
      have : (n - i).toNat = (n - (i + 1)).toNat + 1 := by omega
      rw [this]; rfl
    · rw [if_neg hi]
      have : (n - i).toNat = 0 := by omega
      rw [this]; rfl
/-- What a property of the state survives. -/
theorem rounds_inv {α : Type} {g : Int → α → α} {P : Int → α → Prop} : ∀ (k : Nat) (i : Int) (a : α), P i a → (∀ j b, i ≤ j → j < i + k → P j b → P (j + 1) (g j b)) → P (i + k) (rounds g k i a)
  | 0, i, a, h, _ => by simpa [rounds] using h
  | k + 1, i, a, h, hs => by
    rw [rounds]
    have := rounds_inv k (i + 1) (g i a) (hs i a (Int.le_refl _) (by omega) h) (fun j b h1 h2 => hs j b (by omega) (by omega))
    have e : i + 1 + (k : Int) = i + ((k + 1 : Nat) : Int) := by omega
    rwa [e] at this
theorem letk_eq {α β : Type} {a : α} {f : α → β} : letk a f = f a := rfl
theorem letj_eq {α R : Type} {j : α → R} {f : (α → R) → R} : letj j f = f j := rfl
theorem gt_map {α β : Type} [Inhabited α] [Inhabited β] {l : List α} {f : α → β} {i : Int} (h : i.toNat < l.length) : gt (l.map f) i = f (gt l i) := by
  simp [gt, List.getD_eq_getElem?_getD, h]
theorem gt_mem {α : Type} [Inhabited α] {l : List α} {i : Int} (h : i.toNat < l.length) : gt l i ∈ l := by
  simp [gt, List.getD_eq_getElem?_getD, h]
theorem gt_ext {α : Type} [Inhabited α] {l m : List α} (hl : l.length = m.length) (h : ∀ i : Int, 0 ≤ i → i < l.length → gt l i = gt m i) : l = m := by
  refine List.ext_getElem hl fun i h1 h2 => ?_
  have := h i (by omega) (by omega)
  simpa [gt, List.getD_eq_getElem?_getD, h1, h2] using this
/-- A loop that hands on what it makes of each. -/
theorem iter_map {α β R : Type} [Inhabited α] {f : α → β} {E : Int × List β → R} {l : List α} {F : (Int × List β → R) → Int × List β → R} {d : Int × List β → R}
    (hF : ∀ ag p, F ag p = if decide (p.1 < (l.length : Int)) = true then ag (p.1 + 1, p.2 ++ [f (gt l p.1)]) else E p) :
    ∀ (fuel k : Nat) (a : List β), k ≤ l.length → l.length - k < fuel → iter fuel F d ((k : Int), a) = E ((l.length : Int), a ++ (l.drop k).map f) := by
  intro fuel
  induction fuel with
  | zero => intro k a _ h; omega
  | succ n ih =>
    intro k a hl h
    rw [iter, hF]
    by_cases hk : k < l.length
    · rw [if_pos (decide_eq_true (show (k : Int) < _ by omega))]
      have := ih (k + 1) (a ++ [f (gt l k)]) (by omega) (by omega)
      rw [show ((k + 1 : Nat) : Int) = (k : Int) + 1 by omega] at this
      have hg : gt l (k : Int) = l[k] := by simp [gt, List.getD_eq_getElem?_getD, hk]
      show iter n F d ((k : Int) + 1, a ++ [f (gt l (k : Int))]) = _
      rw [this, List.drop_eq_getElem_cons hk, hg]
      simp only [List.map_cons, List.append_assoc, List.singleton_append]
    · obtain rfl : k = l.length := by omega
      rw [if_neg (by simp), List.drop_eq_nil_of_le (by omega)]
      simp
theorem iter_map0 {α β R : Type} [Inhabited α] (f : α → β) {E : Int × List β → R} {l : List α} {F : (Int × List β → R) → Int × List β → R} {d : Int × List β → R}
    (hF : ∀ ag p, F ag p = if decide (p.1 < (l.length : Int)) = true then ag (p.1 + 1, p.2 ++ [f (gt l p.1)]) else E p) :
    iter (((l.length : Int) - 0).toNat + 1) F d (0, []) = E ((l.length : Int), l.map f) := by
  have := iter_map (d := d) hF (((l.length : Int) - 0).toNat + 1) 0 [] (by omega) (by omega)
  simpa using this
theorem ifF {c b : Bool} (h : (if c = true then false else b) = true) : c = false ∧ b = true := by cases c <;> simp_all
theorem ifT {c b : Bool} (h : (if c = true then b else false) = true) : c = true ∧ b = true := by cases c <;> simp_all
/-- Whether one does. -/
theorem iter_any {α : Type} [Inhabited α] {l : List α} {C : α → Bool} {F : (Int → Int) → Int → Int} {d : Int → Int}
    (hF : ∀ ag p, F ag p = if decide (p < (l.length : Int)) = true then (if C (gt l p) = true then p else ag (p + 1)) else -1) :
    decide (iter (((l.length : Int) - 0).toNat + 1) F d 0 ≥ 0) = l.any C := by
  have hg : ∀ (j : Int), 0 ≤ j → j < l.length → gt l j ∈ l := fun j h0 h1 => gt_mem (by omega)
  rcases iter_find (C := fun p => C (gt l p)) (n := (l.length : Int)) (F := F) (d := d) (fun ag p => by rw [hF]; by_cases hp : p < (l.length : Int) <;> simp [hp]) (((l.length : Int) - 0).toNat + 1) 0 (by omega) (by omega) with ⟨h1, h2⟩ | ⟨h1, h2, h3, _⟩
  · rw [h1]
    symm
    rw [show decide ((-1 : Int) ≥ 0) = false by decide, List.any_eq_false]
    intro x hx
    obtain ⟨i, hi, rfl⟩ := List.mem_iff_getElem.1 hx
    have := h2 (i : Int) (by omega) (by omega)
    simpa [gt, List.getD_eq_getElem?_getD, hi] using this
  · rw [decide_eq_true h1]
    symm
    exact List.any_eq_true.2 ⟨_, hg _ h1 h2, h3⟩
/-- A loop, by what it keeps, and what its end yields. -/
theorem iter_rule {α R : Type} {P : α → Prop} {Q : R → Prop} {meas : α → Nat} {F : (α → R) → α → R} {d : α → R}
    (hs : ∀ ag p, P p → (∀ q, P q → meas q < meas p → Q (ag q)) → Q (F ag p)) : ∀ (fuel : Nat) (p : α), P p → meas p < fuel → Q (iter fuel F d p) := by
  intro fuel
  induction fuel with
  | zero => intro p _ h; omega
  | succ k ih =>
    intro p hp hm
    rw [iter]
    exact hs _ p hp fun q hq hlt => ih q hq (by omega)
/-- Two loops that go side by side. -/
theorem iter_sim {α β R : Type} {Rl : α → β → Prop} {ma : α → Nat} {F : (α → R) → α → R} {G : (β → R) → β → R} {d : α → R} {d' : β → R}
    (hs : ∀ ag ag' p q, Rl p q → (∀ p' q', Rl p' q' → ma p' < ma p → ag p' = ag' q') → F ag p = G ag' q) :
    ∀ (f f' : Nat) (p : α) (q : β), Rl p q → ma p < f → ma p < f' → iter f F d p = iter f' G d' q := by
  intro f
  induction f with
  | zero => intro f' p q _ h; omega
  | succ k ih =>
    intro f' p q hr h h'
    cases f' with
    | zero => omega
    | succ k' =>
      rw [iter, iter]
      exact hs _ _ p q hr fun p' q' hr' hlt => ih k' p' q' hr' (by omega) (by omega)
/-- A loop that stops with 'false' at the first that does not do, and goes on to X. -/
theorem iter_allX {C : Int → Bool} {n : Int} {X : Bool} {F : (Int → Bool) → Int → Bool} (hF : ∀ ag p, F ag p = if decide (p < n) = true then (if C p = true then ag (p + 1) else false) else X) {d : Int → Bool} :
    ∀ (fuel : Nat) (i : Int), (n - i).toNat < fuel → (iter fuel F d i = true ↔ (∀ j, i ≤ j → j < n → C j = true) ∧ X = true) := by
  intro fuel
  induction fuel with
  | zero => intro i h; omega
  | succ k ih =>
    intro i h
    rw [iter, hF]
    by_cases hi : i < n
    · rw [if_pos (decide_eq_true hi)]
      by_cases hc : C i = true
      · rw [if_pos hc, ih (i + 1) (by omega)]
        refine ⟨fun H => ⟨fun j h1 h2 => ?_, H.2⟩, fun H => ⟨fun j h1 h2 => H.1 j (by omega) h2, H.2⟩⟩
        by_cases e : j = i
        · subst e; exact hc
        · exact H.1 j (by omega) h2
      · rw [if_neg hc]
        exact ⟨fun H => Bool.noConfusion H, fun H => absurd (H.1 i (Int.le_refl _) hi) hc⟩
    · rw [if_neg (by simpa using hi)]
      exact ⟨fun H => ⟨fun j h1 h2 => by omega, H⟩, fun H => H.2⟩
/-- The same, over a list. -/
theorem iter_allL {α : Type} [Inhabited α] {l : List α} {c : α → Bool} {X : Bool} {F : (Int → Bool) → Int → Bool} {d : Int → Bool}
    (hF : ∀ ag p, F ag p = if decide (p < (l.length : Int)) = true then (if c (gt l p) = true then ag (p + 1) else false) else X) :
    iter (((l.length : Int) - 0).toNat + 1) F d 0 = (l.all c && X) := by
  rw [Bool.eq_iff_iff, iter_allX (C := fun p => c (gt l p)) hF _ _ (by omega), Bool.and_eq_true, List.all_eq_true]
  refine and_congr_left fun _ => ⟨fun h x hx => ?_, fun h j h0 h1 => h _ (gt_mem (by omega))⟩
  obtain ⟨i, hi, rfl⟩ := List.mem_iff_getElem.1 hx
  have := h (i : Int) (by omega) (by omega)
  simpa [gt, List.getD_eq_getElem?_getD, hi] using this
/-- Two loops that go side by side to results that belong together. -/
theorem iter_simR {α β R S : Type} {Q : R → S → Prop} {Rl : α → β → Prop} {ma : α → Nat} {F : (α → R) → α → R} {G : (β → S) → β → S} {d : α → R} {d' : β → S}
    (hs : ∀ ag ag' p q, Rl p q → (∀ p' q', Rl p' q' → ma p' < ma p → Q (ag p') (ag' q')) → Q (F ag p) (G ag' q)) :
    ∀ (f f' : Nat) (p : α) (q : β), Rl p q → ma p < f → ma p < f' → Q (iter f F d p) (iter f' G d' q) := by
  intro f
  induction f with
  | zero => intro f' p q _ h; omega
  | succ k ih =>
    intro f' p q hr h h'
    cases f' with
    | zero => omega
    | succ k' =>
      rw [iter, iter]
      exact hs _ _ p q hr fun p' q' hr' hlt => ih k' p' q' hr' (by omega) (by omega)
/-- A loop in which all do. -/
theorem iter_trueX {C : Int → Bool} {n : Int} {X : Bool} {F : (Int → Bool) → Int → Bool} (hF : ∀ ag p, F ag p = if decide (p < n) = true then (if C p = true then ag (p + 1) else false) else X) (hC : ∀ p, C p = true) {d : Int → Bool}
    (fuel : Nat) (i : Int) (h : (n - i).toNat < fuel) : iter fuel F d i = X :=
  Bool.eq_iff_iff.2 ((iter_allX hF fuel i h).trans ⟨fun h => h.2, fun h => ⟨fun j _ _ => hC j, h⟩⟩)
theorem notF {b c : Bool} : (if (!b) = true then false else c) = (if b = true then c else false) := by cases b <;> rfl
theorem gt_at {α : Type} [Inhabited α] {l : List α} {i : Nat} (h : i < l.length) : gt l (i : Int) = l[i] := by
  simp [gt, List.getD_eq_getElem?_getD, h]
theorem letj_rule {α : Type} {P : α → Prop} {j : α → Bool} {f : (α → Bool) → Bool} (hj : ∀ a, P a → j a = true) (hf : ∀ J, (∀ a, P a → J a = true) → f J = true) : letj j f = true := hf j hj
/-! Loops over a list, with a state; a round may end the loop. -/
def foldE {α σ R : Type} (st : α → σ → σ ⊕ R) (E : σ → R) : List α → σ → R
  | [], s => E s
  | a :: l, s => match st a s with
    | .inl s' => foldE st E l s'
    | .inr r => r
theorem iter_run_aux {α σ R : Type} [Inhabited α] {l : List α} {st : α → σ → σ ⊕ R} {E : σ → R} {F : (Int × σ → R) → Int × σ → R} {d : Int × σ → R}
    (hF : ∀ ag i s, F ag (i, s) = if i < (l.length : Int) then (match st (gt l i) s with | .inl s' => ag (i + 1, s') | .inr r => r) else E s) :
    ∀ (fuel k : Nat) (s : σ), k ≤ l.length → l.length - k < fuel → iter fuel F d ((k : Int), s) = foldE st E (l.drop k) s := by
  intro fuel
  induction fuel with
  | zero => intro k s _ h; omega
  | succ n ih =>
    intro k s hl h
    rw [iter, hF]
    by_cases hk : k < l.length
    · rw [if_pos (by omega), List.drop_eq_getElem_cons hk]
      have hg : gt l (k : Int) = l[k] := by simp [gt, List.getD_eq_getElem?_getD, hk]
      rw [hg]
      simp only [foldE]
      cases st l[k] s with
      | inl s' =>
        have := ih (k + 1) s' (by omega) (by omega)
        rw [show ((k + 1 : Nat) : Int) = (k : Int) + 1 by omega] at this
        exact this
      | inr r => rfl
    · obtain rfl : k = l.length := by omega
      rw [if_neg (by simp), List.drop_eq_nil_of_le (by omega)]; rfl
theorem iter_run {α σ R : Type} [Inhabited α] {l : List α} (st : α → σ → σ ⊕ R) (E : σ → R) {F : (Int × σ → R) → Int × σ → R} {d : Int × σ → R} {s : σ}
    (hF : ∀ ag i s, F ag (i, s) = if i < (l.length : Int) then (match st (gt l i) s with | .inl s' => ag (i + 1, s') | .inr r => r) else E s) :
    iter (((l.length : Int) - 0).toNat + 1) F d (0, s) = foldE st E l s := by
  have := iter_run_aux (d := d) hF (((l.length : Int) - 0).toNat + 1) 0 s (by omega) (by omega)
  simpa using this
theorem iter_runR_aux {α σ R : Type} [Inhabited α] {l : List α} {st : α → σ → σ ⊕ R} {E : σ → R} {F : (σ × Int → R) → σ × Int → R} {d : σ × Int → R}
    (hF : ∀ ag i s, F ag (s, i) = if i < (l.length : Int) then (match st (gt l i) s with | .inl s' => ag (s', i + 1) | .inr r => r) else E s) :
    ∀ (fuel k : Nat) (s : σ), k ≤ l.length → l.length - k < fuel → iter fuel F d (s, (k : Int)) = foldE st E (l.drop k) s := by
  intro fuel
  induction fuel with
  | zero => intro k s _ h; omega
  | succ n ih =>
    intro k s hl h
    rw [iter, hF]
    by_cases hk : k < l.length
    · rw [if_pos (by omega), List.drop_eq_getElem_cons hk]
      have hg : gt l (k : Int) = l[k] := by simp [gt, List.getD_eq_getElem?_getD, hk]
      rw [hg]
      simp only [foldE]
      cases st l[k] s with
      | inl s' =>
        have := ih (k + 1) s' (by omega) (by omega)
        rw [show ((k + 1 : Nat) : Int) = (k : Int) + 1 by omega] at this
        exact this
      | inr r => rfl
    · obtain rfl : k = l.length := by omega
      rw [if_neg (by simp), List.drop_eq_nil_of_le (by omega)]; rfl
theorem iter_runR {α σ R : Type} [Inhabited α] {l : List α} (st : α → σ → σ ⊕ R) (E : σ → R) {F : (σ × Int → R) → σ × Int → R} {d : σ × Int → R} {s : σ}
    (hF : ∀ ag i s, F ag (s, i) = if i < (l.length : Int) then (match st (gt l i) s with | .inl s' => ag (s', i + 1) | .inr r => r) else E s) :
    iter (((l.length : Int) - 0).toNat + 1) F d (s, 0) = foldE st E l s := by
  have := iter_runR_aux (d := d) hF (((l.length : Int) - 0).toNat + 1) 0 s (by omega) (by omega)
  simpa using this
theorem foldE_l {α σ R : Type} {g : α → σ → σ} {E : σ → R} : ∀ {l : List α} {s : σ}, foldE (fun a s => .inl (g a s)) E l s = E (l.foldl (fun s a => g a s) s)
  | [], _ => rfl
  | a :: l, s => by simp only [foldE, List.foldl_cons]; exact foldE_l
theorem arrF_full {α : Type} [Inhabited α] : ∀ {k : Nat} {i : Nat} {l : List α}, l.length = i + k → arrF l k i = l.drop i
  | 0, i, l, h => by simp [arrF, h]
  | k + 1, i, l, h => by
    have hi : i < l.length := by omega
    rw [List.drop_eq_getElem_cons hi]
    simp only [arrF]
    have := arrF_full (k := k) (i := i + 1) (l := l) (by omega)
    rw [show ((i + 1 : Nat) : Int) = (i : Int) + 1 by omega] at this
    rw [this]
    simp [gt, List.getD_eq_getElem?_getD, hi]
theorem arrN_full {α : Type} [Inhabited α] {l : List α} {n : Nat} (h : l.length = n) : arrN n l = l := by
  have := arrF_full (k := n) (i := 0) (l := l) (by omega)
  simpa [arrN] using this
theorem spl_arrN {f : Int → V} {n : Nat} {A l : List Int} (h : A.length = n) : spl (A.map f) 0 (min n l.length) (l.map f) = (arrN n (spl A 0 (min n l.length) l)).map f := by
  rw [spl_map, arrN_full (by simp only [spl, List.length_append, List.length_take, List.length_drop]; omega)]
end Go.Proofs.Ytcbdmoihobdjaaa
