/- DenomExact: the model of the law answers true. -/
import Derived.Test.YtndjbfdbngkkiaaL3
namespace Go.Proofs.Ytndjbfdbngkkiaa
open Go.RowKit
theorem repeat_all : ((List.range 17).all fun n => slices_Repeat_int_int [1000] (n : Int) == List.replicate n 1000) = true := by kernel_rfl
theorem repeat_eq {n : Nat} (h : n ≤ 16) : slices_Repeat_int_int [1000] (n : Int) = List.replicate n 1000 := by
  have := List.all_eq_true.1 repeat_all n (List.mem_range.2 (by omega))
  simpa using this
theorem gt_repli {n : Nat} {i : Int} (h : i.toNat < n) : gt (List.replicate n (1000 : Int)) i = 1000 := by
  have : gt (rep n (1000 : Int)) i = 1000 := by rw [gt_repl, if_pos h]
  exact this
/-- As many as one may have. -/
def full (l : List S_api_Denom) : List Int := List.replicate l.length 1000
theorem full_counted {l : List S_api_Denom} : denom_counted l (full l) = true := by
  refine counted_iff.2 ⟨by simp [full], fun j h0 h1 => ?_⟩
  have : gt (full l) j = 1000 := gt_repli (by simp [full] at h1; omega)
  rw [this]; decide
theorem Fewest_eq {l : List S_api_Denom} {am : Int} (hv : denom_Valid l = true) : denom_Fewest l am = denom_Pay l (full l) am := by
  unfold denom_Fewest
  simp only [letk, hv, Bool.not_true, Bool.false_eq_true, if_false]
  rw [repeat_eq (Valid_len hv).2]
  rfl
theorem Pay_eq {l : List S_api_Denom} {h : List Int} {am : Int} (hv : denom_Valid l = true) (hc : denom_counted l h = true) (h0 : 0 ≤ am) (h1 : am ≤ 1000) :
    denom_Pay l h am = if !(denom_change l h am).2 then ([], 7) else ((denom_change l h am).1, 0) := by
  unfold denom_Pay
  have e1 : ¬ am < 0 := by omega
  have e2 : ¬ am > 1000 := by omega
  simp only [letk, hv, hc, e1, e2, Bool.not_true, Bool.false_eq_true, if_false, decide_false]
theorem Vl_nn {l : List S_api_Denom} (hv : denom_Valid l = true) : ∀ j, j < l.length → 0 ≤ Vl l j ∧ Vl l j ≤ 1099511627776 := fun j hj => Valid_val hv j (by omega) (by omega)
theorem Cn_nn {l : List S_api_Denom} {h : List Int} (hc : denom_counted l h = true) : ∀ j, j < l.length → 0 ≤ Cn h j ∧ Cn h j ≤ 1000 := fun j hj => counted_val hc j (by omega) (by rw [counted_len hc]; omega)
/-- What is paid, or that nothing can be paid. -/
theorem Pay_spec {l : List S_api_Denom} {h : List Int} {am : Int} (hv : denom_Valid l = true) (hc : denom_counted l h = true) (h0 : 0 ≤ am) (h1 : am ≤ 1000) :
    (denom_Pay l h am = ([], 7) ∧ ∀ c, Ok (Vl l) (Cn h) c l.length → sumV c (Vl l) l.length ≠ am) ∨ ∃ c, denom_Pay l h am = (c, 0) ∧ c.length = l.length ∧ Best (Vl l) (Cn h) l.length am (Cn c) := by
  rw [Pay_eq hv hc h0 h1]
  rcases change_spec (l := l) (most := h) h0 (fun j hj => (Vl_nn hv j hj).1) (fun j hj => (Cn_nn hc j hj).1) with ⟨e, h2⟩ | ⟨e, h2, h3⟩
  · exact .inl ⟨by rw [e]; rfl, h2⟩
  · exact .inr ⟨_, by rw [e]; rfl, h2, h3⟩
/-- The sum in the machine's numbers. -/
theorem Sum_val {l : List S_api_Denom} {c : List Int} (hv : denom_Valid l = true) (hc : denom_counted l c = true) : specieref28_Sum l c = sumV (Cn c) (Vl l) l.length := by
  rw [refSum_eq]
  have key : ∀ k : Nat, k ≤ l.length → rounds (fun i s => addI .i64 s (mulI .i64 (gt c i) (gt l i).Value)) k 0 0 = sumV (Cn c) (Vl l) k ∧ 0 ≤ sumV (Cn c) (Vl l) k ∧ sumV (Cn c) (Vl l) k ≤ k * 1099511627776000 := by
    intro k
    induction k with
    | zero => intro _; exact ⟨rfl, Int.le_refl _, by rw [sumV]; omega⟩
    | succ k ih =>
      intro hk
      obtain ⟨h1, h2, h3⟩ := ih (by omega)
      have g1 := Vl_nn hv k (by omega)
      have g2 := Cn_nn hc k (by omega)
      have g3 : 0 ≤ Cn c k * Vl l k := Int.mul_nonneg g2.1 g1.1
      have g4 : Cn c k * Vl l k ≤ 1000 * 1099511627776 := Int.mul_le_mul g2.2 g1.2 g1.1 (by decide)
      have hl := (Valid_len hv).2
      have e : (0 : Int) + (k : Int) = (k : Int) := Int.zero_add _
      rw [rounds_succ, h1, sumV, e]
      have m1 : mulI .i64 (gt c (k : Int)) (gt l (k : Int)).Value = Cn c k * Vl l k := by
        show mulI .i64 (Cn c k) (Vl l k) = _
        unfold mulI; rw [IntKind.wrap_i64]; omega
      rw [m1, add_ok (by omega) (by omega)]
      refine ⟨rfl, by omega, by omega⟩
  have := (key l.length (Nat.le_refl _)).1
  rw [show ((l.length : Int) - 0).toNat = l.length by omega]
  exact this
theorem Sum_spec {l : List S_api_Denom} {c : List Int} (hv : denom_Valid l = true) (hc : denom_counted l c = true) : denom_Sum l c = if sumV (Cn c) (Vl l) l.length > 1099511627776 then (0, 9) else (sumV (Cn c) (Vl l) l.length, 0) := by
  rw [Sum_eq hv hc, Sum_val hv hc]
/-- Counts without blank coins. -/
def noBlank (v c : Nat → Int) : Nat → Int := fun j => if v j = 0 then 0 else c j
theorem noBlank_ok {v m c : Nat → Int} {k : Nat} (h : ∀ j, j < k → 0 ≤ c j ∧ c j ≤ m j) : Ok v m (noBlank v c) k := by
  intro j hj
  have := h j hj
  unfold noBlank
  split
  · exact ⟨Int.le_refl _, by omega, fun _ => rfl⟩
  · rename_i e; exact ⟨this.1, this.2, fun g => absurd g e⟩
theorem noBlank_sum {v c : Nat → Int} {k : Nat} : sumV (noBlank v c) v k = sumV c v k := by
  induction k with
  | zero => rfl
  | succ k ih =>
    rw [sumV, sumV, ih]
    unfold noBlank
    split
    · rename_i e; rw [e, Int.mul_zero, Int.mul_zero]
    · rfl
theorem sumC_mono {c c' : Nat → Int} {k : Nat} (h : ∀ j, j < k → c j ≤ c' j) : sumC c k ≤ sumC c' k := by
  induction k with
  | zero => exact Int.le_refl _
  | succ k ih =>
    have := ih fun j hj => h j (by omega)
    have := h k (by omega)
    rw [sumC, sumC]; omega
theorem sumC_bound {c : Nat → Int} {k : Nat} (h : ∀ j, j < k → 0 ≤ c j ∧ c j ≤ 1000) : 0 ≤ sumC c k ∧ sumC c k ≤ 1000 * k := by
  induction k with
  | zero => exact ⟨Int.le_refl _, Int.le_refl _⟩
  | succ k ih =>
    have := ih fun j hj => h j (by omega)
    have := h k (by omega)
    rw [sumC]; omega
theorem Cn_full {l : List S_api_Denom} {j : Nat} (h : j < l.length) : Cn (full l) j = 1000 := gt_repli (by omega)
/-- What change yields may be counted. -/
theorem Best.counted {l : List S_api_Denom} {h c : List Int} {am : Int} (hc : denom_counted l h = true) (hl : c.length = l.length) (hb : Best (Vl l) (Cn h) l.length am (Cn c)) : denom_counted l c = true := by
  refine counted_iff.2 ⟨hl, fun j h0 h1 => ?_⟩
  obtain ⟨k, rfl⟩ : ∃ k : Nat, j = k := ⟨j.toNat, by omega⟩
  have g1 := hb.ok k (by omega)
  have g2 := Cn_nn hc k (by omega)
  exact ⟨g1.1, Int.le_trans g1.2.1 g2.2⟩
theorem specielaw28_DenomExact_true (l : List S_api_Denom) (other : List Int) : specielaw28_DenomExact l other = true := by
  unfold specielaw28_DenomExact
  simp only [letk, awake_true, ← Valid_eq, Counts_eq, Bool.not_true, Bool.false_eq_true, if_false]
  rcases Bool.eq_false_or_eq_true (specielaw28_great l) with hg | hg
  · simp [hg]
  rcases Bool.eq_false_or_eq_true (!denom_Valid l) with hv | hv
  · simp [hg, hv]
  rw [Bool.not_eq_false'] at hv
  rcases Bool.eq_false_or_eq_true (!denom_counted l other) with hc | hc
  · simp [hg, hv, hc]
  rw [Bool.not_eq_false'] at hc
  simp only [hg, hv, hc, Bool.not_true, Bool.false_eq_true, if_false]
  have hS := Sum_spec hv hc
  by_cases hbig : sumV (Cn other) (Vl l) l.length > 1099511627776
  · rw [if_pos hbig] at hS
    rw [hS]; rfl
  rw [if_neg hbig] at hS
  rw [hS]
  generalize ham : sumV (Cn other) (Vl l) l.length = am at *
  by_cases h1000 : am > 1000
  · simp [h1000]
  have hV := Vl_nn hv
  have hO := Cn_nn hc
  have ham0 : 0 ≤ am := by rw [← ham, ← noBlank_sum]; exact sumV_nn (m := Cn other) (fun j hj => (hV j hj).1) (noBlank_ok fun j hj => ⟨(hO j hj).1, Int.le_refl _⟩)
  simp only [h1000, decide_false, Bool.false_eq_true, if_false, bne_self_eq_false]
  rw [Fewest_eq hv]
  obtain ⟨c, hc1, hc2, hc3⟩ : ∃ c, denom_Pay l (full l) am = (c, 0) ∧ c.length = l.length ∧ Best (Vl l) (Cn (full l)) l.length am (Cn c) := by
    rcases Pay_spec hv (full_counted (l := l)) ham0 (by omega) with ⟨_, h⟩ | h
    · exact absurd (noBlank_sum.trans ham) (h _ (noBlank_ok fun j hj => ⟨(hO j hj).1, by rw [Cn_full hj]; exact (hO j hj).2⟩))
    · exact h
  obtain ⟨p, hp1, hp2, hp3⟩ : ∃ c, denom_Pay l other am = (c, 0) ∧ c.length = l.length ∧ Best (Vl l) (Cn other) l.length am (Cn c) := by
    rcases Pay_spec hv hc ham0 (by omega) with ⟨_, h⟩ | h
    · exact absurd (noBlank_sum.trans ham) (h _ (noBlank_ok fun j hj => ⟨(hO j hj).1, Int.le_refl _⟩))
    · exact h
  rw [hc1, hp1]
  have hol := counted_len hc
  simp only [hc2, hp2, bne_self_eq_false, Bool.false_eq_true, if_false]
  have hcc := Best.counted full_counted hc2 hc3
  have hpc := Best.counted hc hp2 hp3
  have hcn := Cn_nn hcc
  have hpn := Cn_nn hpc
  have hl16 := (Valid_len hv).2
  refine iter_rule (P := fun q : Int × Int × Int × Int => ∃ k : Nat, k ≤ l.length ∧ q = (sumC (Cn c) k, sumC (Cn p) k, sumC (Cn other) k, (k : Int))) (meas := fun p => ((other.length : Int) - p.2.2.2).toNat) (Q := fun r => r = true) (fun ag q hq hag => ?_) _ _ ⟨0, by omega, rfl⟩ (by show ((other.length : Int) - 0).toNat < _; omega)
  obtain ⟨k, hk, rfl⟩ := hq
  simp only at hag ⊢
  by_cases hk' : (k : Int) < (other.length : Int)
  · have hkl : k < l.length := by omega
    rw [if_pos (decide_eq_true hk')]
    have a1 : ¬ gt c (k : Int) < 0 := by have : 0 ≤ gt c (k : Int) := (hcn k hkl).1; omega
    have a2 : ¬ gt p (k : Int) < 0 := by have : 0 ≤ gt p (k : Int) := (hpn k hkl).1; omega
    have a3 : ¬ gt p (k : Int) > gt other (k : Int) := by have : gt p (k : Int) ≤ gt other (k : Int) := (hp3.ok k hkl).2.1; omega
    rw [if_neg (by simpa using a1), if_neg (by simpa using a2), if_neg (by simpa using a3)]
    have b1 := sumC_bound (k := k) fun j hj => hcn j (by omega)
    have b2 := sumC_bound (k := k) fun j hj => hpn j (by omega)
    have b3 := sumC_bound (k := k) fun j hj => hO j (by omega)
    have c1 : 0 ≤ gt c (k : Int) ∧ gt c (k : Int) ≤ 1000 := hcn k hkl
    have c2 : 0 ≤ gt p (k : Int) ∧ gt p (k : Int) ≤ 1000 := hpn k hkl
    have c3 : 0 ≤ gt other (k : Int) ∧ gt other (k : Int) ≤ 1000 := hO k hkl
    rw [add_ok (by omega) (by omega), add_ok (by omega) (by omega), add_ok (by omega) (by omega)]
    exact hag _ ⟨k + 1, hkl, by simp only [sumC, Prod.mk.injEq, true_and]; exact ⟨rfl, rfl, rfl, by omega⟩⟩ (by show ((other.length : Int) - ((k : Int) + 1)).toNat < ((other.length : Int) - (k : Int)).toNat; omega)
  · rw [if_neg (by simpa using hk')]
    obtain rfl : k = l.length := by omega
    have s1 := Sum_spec hv hcc
    have s2 := Sum_spec hv hpc
    rw [hc3.sum, if_neg hbig] at s1
    rw [hp3.sum, if_neg hbig] at s2
    have d1 : sumC (Cn c) l.length ≤ sumC (Cn p) l.length := by
      rcases hc3.best (Cn p) (fun j hj => ⟨(hp3.ok j hj).1, by rw [Cn_full hj]; exact (hpn j hj).2, (hp3.ok j hj).2.2⟩) hp3.sum with h | ⟨h, _⟩ <;> omega
    have d2 : sumC (Cn p) l.length ≤ sumC (Cn other) l.length := sumC_mono fun j hj => (hp3.ok j hj).2.1
    rw [s1, s2]
    simp [d1, d2]
end Go.Proofs.Ytndjbfdbngkkiaa
