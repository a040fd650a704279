/- Change is exact, and no change has fewer coins: plain law of the table. -/
import Derived.Test.YtndjbfdbngkkiaaL1
namespace Go.Proofs.Ytndjbfdbngkkiaa
open Go.RowKit
/-- A loop, by what it keeps, and what its end yields. -/
theorem iter_rule {α R : Type} {P : α → Prop} {Q : R → Prop} {meas : α → Nat} {F : (α → R) → α → R} {d : α → R}
    (hs : ∀ ag p, P p → (∀ q, P q → meas q < meas p → Q (ag q)) → Q (F ag p)) : ∀ (fuel : Nat) (p : α), P p → meas p < fuel → Q (iter fuel F d p) := by
  intro fuel
  induction fuel with
  | zero => intro p _ h; omega
  | succ k ih =>
    intro p hp hm
    rw [iter]
    exact hs _ p hp fun q hq hlt => ih q hq (by omega)

def sumV (c v : Nat → Int) : Nat → Int
  | 0 => 0
  | k + 1 => sumV c v k + c k * v k
def sumC (c : Nat → Int) : Nat → Int
  | 0 => 0
  | k + 1 => sumC c k + c k
/-- Counts that may be used: not more than there are, and no blank coin. -/
def Ok (v m c : Nat → Int) (k : Nat) : Prop := ∀ j, j < k → 0 ≤ c j ∧ c j ≤ m j ∧ (v j = 0 → c j = 0)
theorem Ok.less {v m c : Nat → Int} {k : Nat} (h : Ok v m c (k + 1)) : Ok v m c k := fun j hj => h j (by omega)
theorem sumV_nn {v m c : Nat → Int} {k : Nat} (hv : ∀ j, j < k → 0 ≤ v j) (h : Ok v m c k) : 0 ≤ sumV c v k := by
  induction k with
  | zero => exact Int.le_refl _
  | succ k ih =>
    have h1 := ih (fun j hj => hv j (by omega)) h.less
    have h2 := Int.mul_nonneg (h k (by omega)).1 (hv k (by omega))
    rw [sumV]; omega
theorem sumC_nn {v m c : Nat → Int} {k : Nat} (h : Ok v m c k) : 0 ≤ sumC c k := by
  induction k with
  | zero => exact Int.le_refl _
  | succ k ih =>
    have h1 := ih h.less
    have h2 := (h k (by omega)).1
    rw [sumC]; omega
theorem sumV_congr {c c' v : Nat → Int} {k : Nat} (h : ∀ j, j < k → c j = c' j) : sumV c v k = sumV c' v k := by
  induction k with
  | zero => rfl
  | succ k ih => rw [sumV, sumV, ih (fun j hj => h j (by omega)), h k (by omega)]
theorem sumC_congr {c c' : Nat → Int} {k : Nat} (h : ∀ j, j < k → c j = c' j) : sumC c k = sumC c' k := by
  induction k with
  | zero => rfl
  | succ k ih => rw [sumC, sumC, ih (fun j hj => h j (by omega)), h k (by omega)]
theorem Ok.congr {v m c c' : Nat → Int} {k : Nat} (h : ∀ j, j < k → c j = c' j) (hc : Ok v m c k) : Ok v m c' k := fun j hj => h j hj ▸ hc j hj
/-- Another count at one place. -/
def put (c : Nat → Int) (k : Nat) (x : Int) : Nat → Int := fun j => if j = k then x else c j
theorem put_lt {c : Nat → Int} {k : Nat} {x : Int} : ∀ j, j < k → c j = put c k x j := fun j hj => by simp [put, show ¬ j = k by omega]
theorem put_at {c : Nat → Int} {k : Nat} {x : Int} : put c k x k = x := by simp [put]
/-- The best way to an amount with the first denominations. -/
structure Right (v m : Nat → Int) (k : Nat) (a : Int) (w : S_denom_way) : Prop where
  sound : w.ok = true → ∃ c, Ok v m c k ∧ sumV c v k = a ∧ sumC c k = w.coins ∧ ∀ k', k = k' + 1 → c k' = w.last
  best : ∀ c, Ok v m c k → sumV c v k = a → w.ok = true ∧ (w.coins < sumC c k ∨ (w.coins = sumC c k ∧ ∀ k', k = k' + 1 → c k' ≤ w.last))
/-- The best way with fewer than n of the next denomination. -/
structure Part (v m : Nat → Int) (k : Nat) (a n : Int) (w : S_denom_way) : Prop where
  sound : w.ok = true → ∃ c, Ok v m c (k + 1) ∧ sumV c v (k + 1) = a ∧ sumC c (k + 1) = w.coins ∧ c k = w.last ∧ c k < n
  best : ∀ c, Ok v m c (k + 1) → sumV c v (k + 1) = a → c k < n → w.ok = true ∧ (w.coins < sumC c (k + 1) ∨ (w.coins = sumC c (k + 1) ∧ c k ≤ w.last))
variable {v m : Nat → Int} {k : Nat} {a n : Int} {w b : S_denom_way}
theorem Part.zero (h : w.ok = false) : Part v m k a 0 w :=
  ⟨fun g => (by rw [h] at g; cases g), fun c hc _ hk => by have := (hc k (by omega)).1; omega⟩
theorem Part.right (h : Part v m k a n w) (hn : ∀ c, Ok v m c (k + 1) → sumV c v (k + 1) = a → c k < n) : Right v m (k + 1) a w := by
  refine ⟨fun g => ?_, fun c hc hs => ?_⟩
  · obtain ⟨c, h1, h2, h3, h4, _⟩ := h.sound g
    exact ⟨c, h1, h2, h3, fun k' e => by cases e; exact h4⟩
  · obtain ⟨h1, h2⟩ := h.best c hc hs (hn c hc hs)
    refine ⟨h1, h2.imp id fun ⟨g1, g2⟩ => ⟨g1, fun k' e => by cases e; exact g2⟩⟩
theorem Part.skip (h : Part v m k a n w) (hb : Right v m k (a - n * v k) b) (ho : b.ok = false) : Part v m k a (n + 1) w := by
  refine ⟨fun g => ?_, fun c hc hs hk => ?_⟩
  · obtain ⟨c, h1, h2, h3, h4, h5⟩ := h.sound g
    exact ⟨c, h1, h2, h3, h4, by omega⟩
  · by_cases e : c k = n
    · exfalso
      rw [sumV, e] at hs
      have := (hb.best c hc.less (by omega)).1
      rw [ho] at this; cases this
    · exact h.best c hc hs (by omega)
theorem Part.keep (h : Part v m k a n w) (hb : Right v m k (a - n * v k) b) (hw : w.ok = true) (ho : b.ok = true) (hc : ¬ b.coins + n ≤ w.coins) : Part v m k a (n + 1) w := by
  refine ⟨fun g => ?_, fun c hc' hs hk => ?_⟩
  · obtain ⟨c, h1, h2, h3, h4, h5⟩ := h.sound g
    exact ⟨c, h1, h2, h3, h4, by omega⟩
  · by_cases e : c k = n
    · rw [sumV, e] at hs
      obtain ⟨_, g⟩ := hb.best c hc'.less (by omega)
      refine ⟨hw, .inl ?_⟩
      rw [sumC, e]
      rcases g with g | ⟨g, _⟩ <;> omega
    · exact h.best c hc' hs (by omega)
theorem Part.take (h : Part v m k a n w) (hb : Right v m k (a - n * v k) b) (ho : b.ok = true) (hc : w.ok = false ∨ b.coins + n ≤ w.coins) (h0 : 0 ≤ n) (h1 : n ≤ m k) (h2 : v k = 0 → n = 0) :
    Part v m k a (n + 1) ⟨true, b.coins + n, n⟩ := by
  refine ⟨fun _ => ?_, fun c hc' hs hk => ⟨rfl, ?_⟩⟩
  · obtain ⟨c, g1, g2, g3, _⟩ := hb.sound ho
    refine ⟨put c k n, fun j hj => ?_, ?_, ?_, put_at, by rw [put_at]; omega⟩
    · by_cases e : j = k
      · subst e; rw [put_at]; exact ⟨h0, h1, h2⟩
      · rw [← put_lt j (by omega)]; exact g1 j (by omega)
    · rw [sumV, ← sumV_congr put_lt, put_at]; omega
    · rw [sumC, ← sumC_congr put_lt, put_at]; show _ = b.coins + n; omega
  · by_cases e : c k = n
    · rw [sumV, e] at hs
      obtain ⟨_, g⟩ := hb.best c hc'.less (by omega)
      rw [sumC, e]
      rcases g with g | ⟨g, _⟩
      · exact .inl (by show b.coins + n < _; omega)
      · exact .inr ⟨by show b.coins + n = _; omega, Int.le_refl _⟩
    · obtain ⟨g1, g2⟩ := h.best c hc' hs (by omega)
      rcases hc with hc | hc
      · rw [hc] at g1; cases g1
      · rcases g2 with g2 | ⟨g2, g3⟩
        · exact .inl (by show b.coins + n < _; omega)
        · rcases Int.lt_or_eq_of_le hc with h5 | h5
          · exact .inl (by show b.coins + n < _; omega)
          · exact .inr ⟨by show b.coins + n = _; omega, by show c k ≤ n; omega⟩
theorem Right.start (hw : w.ok = decide (a = 0)) (hc : w.coins = 0) : Right v m 0 a w := by
  refine ⟨fun g => ?_, fun c _ hs => ?_⟩
  · rw [hw] at g
    exact ⟨fun _ => 0, fun j hj => by omega, by simpa [sumV] using (of_decide_eq_true g).symm, by rw [hc]; rfl, fun k' e => by cases e⟩
  · rw [sumV] at hs
    exact ⟨by rw [hw]; exact decide_eq_true hs.symm, .inr ⟨by rw [hc]; rfl, fun k' e => by cases e⟩⟩
/-- One is preferred to the other: more of the greatest denominations. -/
def lexGe (c c' : Nat → Int) : Nat → Prop
  | 0 => True
  | k + 1 => c' k < c k ∨ (c' k = c k ∧ lexGe c c' k)
theorem lexGe_congr {c d c' : Nat → Int} {k : Nat} (h : ∀ j, j < k → c j = d j) (hl : lexGe c c' k) : lexGe d c' k := by
  induction k with
  | zero => trivial
  | succ k ih =>
    rw [lexGe, ← h k (by omega)]
    exact hl.imp id fun ⟨g1, g2⟩ => ⟨g1, ih (fun j hj => h j (by omega)) g2⟩
theorem lexGe_anti {c c' : Nat → Int} {k : Nat} (h : lexGe c c' k) (h' : lexGe c' c k) : ∀ j, j < k → c j = c' j := by
  induction k with
  | zero => intro j hj; omega
  | succ k ih =>
    rw [lexGe] at h h'
    have e : c k = c' k := by rcases h with h | ⟨h, _⟩ <;> rcases h' with h' | ⟨h', _⟩ <;> omega
    intro j hj
    by_cases hk : j = k
    · subst hk; exact e
    · refine ih ?_ ?_ j (by omega)
      · rcases h with h | ⟨_, h⟩
        · omega
        · exact h
      · rcases h' with h' | ⟨_, h'⟩
        · omega
        · exact h'
/-- The change that is preferred. -/
structure Best (v m : Nat → Int) (k : Nat) (a : Int) (c : Nat → Int) : Prop where
  ok : Ok v m c k
  sum : sumV c v k = a
  best : ∀ c', Ok v m c' k → sumV c' v k = a → sumC c k < sumC c' k ∨ (sumC c k = sumC c' k ∧ lexGe c c' k)
theorem Best.congr {c d : Nat → Int} (h : ∀ j, j < k → c j = d j) (hb : Best v m k a c) : Best v m k a d :=
  ⟨hb.ok.congr h, by rw [← sumV_congr h]; exact hb.sum, fun c' h1 h2 => by
    rw [← sumC_congr h]
    exact (hb.best c' h1 h2).imp id fun ⟨g1, g2⟩ => ⟨g1, lexGe_congr h g2⟩⟩
theorem Best.zero {c : Nat → Int} : Best v m 0 0 c := ⟨fun j hj => by omega, rfl, fun c' _ _ => .inr ⟨rfl, trivial⟩⟩
/-- Where the way leads, the rest of the way is the best, too. -/
theorem Right.down {w' : S_denom_way} (h : Right v m (k + 1) a w) (ho : w.ok = true) (h' : Right v m k (a - w.last * v k) w') : w'.ok = true ∧ w.coins = w'.coins + w.last ∧ 0 ≤ w.last ∧ w.last ≤ m k ∧ (v k = 0 → w.last = 0) := by
  obtain ⟨c, h1, h2, h3, h4⟩ := h.sound ho
  have h4 := h4 k rfl
  obtain ⟨g1, g2⟩ := h'.best c h1.less (by rw [sumV, h4] at h2; omega)
  have g3 := h1 k (by omega)
  rw [h4] at g3
  refine ⟨g1, ?_, g3⟩
  rw [sumC, h4] at h3
  obtain ⟨c', f1, f2, f3, _⟩ := h'.sound g1
  have hput : Ok v m (put c' k w.last) (k + 1) := fun j hj => by
    by_cases e : j = k
    · subst e; rw [put_at]; exact g3
    · rw [← put_lt j (by omega)]; exact f1 j (by omega)
  have := (h.best (put c' k w.last) hput (by rw [sumV, ← sumV_congr put_lt, put_at]; omega)).2
  rw [sumC, ← sumC_congr put_lt, put_at] at this
  rcases g2 with g2 | ⟨g2, _⟩
  · rcases this with this | ⟨this, _⟩ <;> omega
  · omega
theorem Best.step {c : Nat → Int} {w' : S_denom_way} (h : Right v m (k + 1) a w) (ho : w.ok = true) (h' : Right v m k (a - w.last * v k) w') (hb : Best v m k (a - w.last * v k) c) (hc : sumC c k = w'.coins) :
    Best v m (k + 1) a (put c k w.last) ∧ sumC (put c k w.last) (k + 1) = w.coins := by
  obtain ⟨_, h2, h3⟩ := h.down ho h'
  have hsc : sumC (put c k w.last) (k + 1) = w.coins := by rw [sumC, ← sumC_congr put_lt, put_at]; omega
  refine ⟨⟨fun j hj => ?_, ?_, fun c' g1 g2 => ?_⟩, hsc⟩
  · by_cases e : j = k
    · subst e; rw [put_at]; exact h3
    · rw [← put_lt j (by omega)]; exact hb.ok j (by omega)
  · rw [sumV, ← sumV_congr put_lt, put_at, hb.sum]; omega
  · rw [hsc]
    refine (h.best c' g1 g2).2.imp id fun ⟨f1, f2⟩ => ⟨f1, ?_⟩
    have f2 := f2 k rfl
    rw [lexGe, put_at]
    rcases Int.lt_or_eq_of_le f2 with f2 | f2
    · exact .inl f2
    · refine .inr ⟨f2, lexGe_congr put_lt ?_⟩
      rw [sumV, f2] at g2
      rw [sumC, f2] at f1
      rcases hb.best c' g1.less (by omega) with e | ⟨_, e⟩
      · omega
      · exact e
end Go.Proofs.Ytndjbfdbngkkiaa
