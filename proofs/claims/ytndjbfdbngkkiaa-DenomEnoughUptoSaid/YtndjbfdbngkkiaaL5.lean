/- DenomEnough: the model of the law answers true. -/
import Derived.Test.YtndjbfdbngkkiaaL4
namespace Go.Proofs.Ytndjbfdbngkkiaa
open Go.RowKit
theorem Equal_refl {s : List Int} : slices_Equal_int_int s s = true := by
  unfold slices_Equal_int_int
  rw [if_neg (by simp)]
  rw [iter_all (n := (s.length : Int)) (C := fun _ => true) (fun ag p => ?_) _ _ (by omega)]
  · exact fun _ _ _ => rfl
  · by_cases hp : p < (s.length : Int) <;> simp [hp]
/-- There is only one best change. -/
theorem Best.uniq {v m m' c c' : Nat → Int} {k : Nat} {a : Int} (h : Best v m k a c) (h' : Best v m' k a c') (hok : Ok v m c' k) (hok' : Ok v m' c k) : ∀ j, j < k → c j = c' j := by
  have h1 := h.best c' hok h'.sum
  have h2 := h'.best c hok' h.sum
  refine lexGe_anti ?_ ?_
  · rcases h1 with h1 | ⟨_, h1⟩
    · rcases h2 with h2 | ⟨h2, _⟩ <;> omega
    · exact h1
  · rcases h2 with h2 | ⟨_, h2⟩
    · rcases h1 with h1 | ⟨h1, _⟩ <;> omega
    · exact h2
theorem list_eq {n : Nat} {c c' : List Int} (h1 : c.length = n) (h2 : c'.length = n) (h : ∀ j, j < n → Cn c j = Cn c' j) : c = c' := by
  refine gt_ext (h1.trans h2.symm) fun i h0 hi => ?_
  have := h i.toNat (by omega)
  unfold Cn at this
  rwa [show ((i.toNat : Nat) : Int) = i by omega] at this
theorem sumC_st {c : List Int} {n k : Nat} (hc : c.length = n) (hk : k < n) {x : Int} : ∀ m, m ≤ n → sumC (Cn (st c (k : Int) x)) m = if k < m then sumC (Cn c) m + x - Cn c k else sumC (Cn c) m
  | 0, _ => by rw [if_neg (by omega)]; rfl
  | m + 1, hm => by
    have hs : Cn (st c (k : Int) x) m = if k = m then x else Cn c m := by
      show gt (st c (k : Int) x) (m : Int) = _
      rw [gt_st]
      by_cases e : k = m
      · rw [if_pos ⟨by omega, by omega⟩, if_pos e]
      · rw [if_neg (by omega), if_neg e]; rfl
    rw [sumC, sumC, sumC_st hc hk m (by omega), hs]
    by_cases e : k = m
    · subst e; rw [if_neg (by omega), if_pos rfl, if_pos (by omega)]; omega
    · rw [if_neg e]
      by_cases g : k < m
      · rw [if_pos g, if_pos (by omega)]; omega
      · rw [if_neg g, if_neg (by omega)]
theorem u8_wf {more : List Int} (hw : wfL (more.map (V.int .u8))) : ∀ j : Int, 0 ≤ j → j < more.length → 0 ≤ gt more j ∧ gt more j ≤ 255 := by
  intro j h0 h1
  have := wfL_iff.1 hw _ (List.mem_map_of_mem (gt_mem (l := more) (i := j) (by omega)))
  simpa only [wfV, rng_u8] using this
/-- What one has: at least the change, at most a thousand of each. -/
structure Has (c have_ : List Int) (n : Nat) : Prop where
  len : have_.length = n
  val : ∀ j, j < n → Cn c j ≤ Cn have_ j ∧ Cn have_ j ≤ 1000
theorem DenomEnough_true (l : List S_api_Denom) (amount : Int) (more : List Int) (hmore : ∀ j : Int, 0 ≤ j → j < more.length → 0 ≤ gt more j ∧ gt more j ≤ 255) : specielaw28_DenomEnough l amount more = true := by
  unfold specielaw28_DenomEnough
  simp only [letk, awake_true, ← Valid_eq, Bool.not_true, Bool.false_eq_true, if_false]
  rcases Bool.eq_false_or_eq_true (specielaw28_great l) with hg | hg
  · simp [hg]
  rcases Bool.eq_false_or_eq_true (!denom_Valid l) with hv | hv
  · simp [hg, hv]
  rw [Bool.not_eq_false'] at hv
  by_cases h0 : amount < 0
  · simp [hg, hv, h0]
  by_cases h1 : amount > 1000
  · simp [hg, hv, h0, h1]
  simp only [hg, hv, h0, h1, Bool.not_true, Bool.false_eq_true, if_false, decide_false]
  rw [Fewest_eq hv]
  rcases Pay_spec hv (full_counted (l := l)) (am := amount) (by omega) (by omega) with ⟨e, _⟩ | ⟨c, e, hcl, hb⟩
  · rw [e]; rfl
  rw [e]
  have hcl' : (c.length : Int) = (l.length : Int) := by omega
  have hcc := Best.counted full_counted hcl hb
  have hcn := Cn_nn hcc
  have hl16 := Valid_len hv
  simp only [hcl', bne_self_eq_false, Bool.false_eq_true, if_false]
  have hclone : slices_Clone_int_int c = c := rfl
  rw [hclone]
  refine iter_rule (P := fun q : Int × List Int => ∃ k : Nat, k ≤ l.length ∧ q.1 = k ∧ q.2.length = l.length ∧ (∀ j, j < k → Cn c j ≤ Cn q.2 j ∧ Cn q.2 j ≤ 1000) ∧ ∀ j, k ≤ j → j < l.length → Cn q.2 j = Cn c j) (meas := fun q => ((c.length : Int) - q.1).toNat) (Q := fun r => r = true) (fun ag q hq hag => ?_) _ _ ⟨0, by omega, rfl, hcl, fun j hj => by omega, fun j _ _ => rfl⟩ (by show ((c.length : Int) - 0).toNat < _; omega)
  obtain ⟨q1, have_⟩ := q
  obtain ⟨k, hk, g1, g2, g3, g4⟩ := hq
  simp only at g1 g2 g3 g4 hag ⊢
  subst g1
  by_cases hk' : (k : Int) < (c.length : Int)
  · have hkl : k < l.length := by omega
    rw [if_pos (decide_eq_true hk')]
    have gv : gt have_ (k : Int) = Cn c k := g4 k (Nat.le_refl _) hkl
    have c1 := hcn k hkl
    rw [if_neg (by rw [gv]; simp; omega), if_neg (by rw [gv]; simp; omega)]
    have hm : ((c.length : Int) - ((k : Int) + 1)).toNat < ((c.length : Int) - (k : Int)).toNat := by omega
    by_cases hmo : (k : Int) < (more.length : Int)
    · rw [if_pos (decide_eq_true hmo)]
      have m1 := hmore k (by omega) hmo
      have e1 : convI .i64 (gt more (k : Int)) = gt more (k : Int) := conv_i64 (by omega) (by omega)
      refine hag _ ⟨k + 1, hkl, by show (k : Int) + 1 = _; omega, by show (st have_ _ _).length = _; rw [st_len]; exact g2, fun j hj => ?_, fun j g5 g6 => ?_⟩ hm
      · show Cn c j ≤ gt (st have_ (k : Int) _) (j : Int) ∧ gt (st have_ (k : Int) _) (j : Int) ≤ 1000
        rw [gt_st]
        by_cases e : j = k
        · subst e
          rw [if_pos ⟨rfl, by omega⟩, e1, gv, add_ok (by omega) (by omega)]
          unfold minI
          split <;> omega
        · rw [if_neg (by omega)]; exact g3 j (by omega)
      · show gt (st have_ (k : Int) _) (j : Int) = _
        rw [gt_st, if_neg (by omega)]; exact g4 j (by omega) g6
    · rw [if_neg (by simpa using hmo)]
      refine hag _ ⟨k + 1, hkl, by show (k : Int) + 1 = _; omega, g2, fun j hj => ?_, fun j g5 g6 => g4 j (by omega) g6⟩ hm
      by_cases e : j = k
      · subst e
        have := g4 j (Nat.le_refl _) hkl
        show Cn c j ≤ Cn have_ j ∧ Cn have_ j ≤ 1000
        omega
      · exact g3 j (by omega)
  · rw [if_neg (by simpa using hk')]
    obtain rfl : k = l.length := by omega
    have hhc : denom_counted l have_ = true := counted_iff.2 ⟨g2, fun j f0 f1 => by
      obtain ⟨i, rfl⟩ : ∃ i : Nat, j = i := ⟨j.toNat, by omega⟩
      have f2 : Cn c i ≤ gt have_ (i : Int) ∧ gt have_ (i : Int) ≤ 1000 := g3 i (by omega)
      have := hcn i (by omega)
      omega⟩
    have hok : Ok (Vl l) (Cn have_) (Cn c) l.length := fun j hj => ⟨(hb.ok j hj).1, (g3 j hj).1, (hb.ok j hj).2.2⟩
    obtain ⟨p, hp1, hp2, hp3⟩ : ∃ p, denom_Pay l have_ amount = (p, 0) ∧ p.length = l.length ∧ Best (Vl l) (Cn have_) l.length amount (Cn p) := by
      rcases Pay_spec hv hhc (am := amount) (by omega) (by omega) with ⟨_, h⟩ | h
      · exact absurd hb.sum (h _ hok)
      · exact h
    have hpc : p = c := (list_eq hcl hp2 (hb.uniq hp3 (fun j hj => ⟨(hp3.ok j hj).1, by rw [Cn_full hj]; exact Int.le_trans (hp3.ok j hj).2.1 (g3 j hj).2, (hp3.ok j hj).2.2⟩) hok)).symm
    subst hpc
    rw [hp1]
    simp only [Equal_refl, bne_self_eq_false, Bool.not_true, Bool.false_eq_true, if_false]
    -- one coin less
    refine iter_rule (P := fun q : Int × Int × List Int => ∃ k i : Nat, i ≤ l.length ∧ k < l.length ∧ q.1 = k ∧ q.2.1 = i ∧ q.2.2.length = l.length ∧ (∀ j, j < i → Cn q.2.2 j = Cn p j) ∧ (∀ j, i ≤ j → j < l.length → Cn q.2.2 j = 0) ∧ (k < i ∨ (i = 0 ∧ k = 0)) ∧ ∀ j, j < i → Cn p k = 0 → Cn p j = 0) (meas := fun q => ((l.length : Int) - q.2.1).toNat) (Q := fun r => r = true) (fun ag q hq hag => ?_) _ _ ⟨0, 0, by omega, by omega, rfl, rfl, by show (rep _ _).length = _; rw [rep_len], fun j hj => by omega, fun j _ hj => by show gt (rep _ (0 : Int)) (j : Int) = 0; rw [gt_repl]; split <;> rfl, .inr ⟨rfl, rfl⟩, fun j hj => by omega⟩ (by show ((l.length : Int) - 0).toNat < _; omega)
    obtain ⟨q1, q2, few⟩ := q
    obtain ⟨k, i, f1, f2, f3, f4, f5, f6, f7, f8, f9⟩ := hq
    simp only at f3 f4 f5 f6 f7 f8 f9 hag ⊢
    subst f3 f4
    by_cases hi : (i : Int) < (l.length : Int)
    · rw [if_pos (decide_eq_true hi)]
      have hil : i < l.length := by omega
      have hm : ((l.length : Int) - ((i : Int) + 1)).toNat < ((l.length : Int) - (i : Int)).toNat := by omega
      have e1 : ∀ j, j < i + 1 → Cn (st few (i : Int) (gt p (i : Int))) j = Cn p j := fun j hj => by
        show gt (st few (i : Int) _) (j : Int) = _
        rw [gt_st]
        by_cases e : j = i
        · subst e; rw [if_pos ⟨rfl, by omega⟩]; rfl
        · rw [if_neg (by omega)]; exact f6 j (by omega)
      have e2 : ∀ j, i + 1 ≤ j → j < l.length → Cn (st few (i : Int) (gt p (i : Int))) j = 0 := fun j hj hj' => by
        show gt (st few (i : Int) _) (j : Int) = _
        rw [gt_st, if_neg (by omega)]; exact f7 j (by omega) hj'
      by_cases hpos : gt p (i : Int) > 0
      · rw [if_pos (decide_eq_true hpos)]
        exact hag _ ⟨i, i + 1, hil, hil, rfl, by show (i : Int) + 1 = _; omega, by show (st few _ _).length = _; rw [st_len]; exact f5, e1, e2, .inl (by omega), fun j hj h => by have : gt p (i : Int) = 0 := h; omega⟩ hm
      · rw [if_neg (by simpa using hpos)]
        have hz : Cn p i = 0 := by have := (hcn i hil).1; have : ¬ Cn p i > 0 := hpos; omega
        refine hag _ ⟨k, i + 1, hil, f2, rfl, by show (i : Int) + 1 = _; omega, by show (st few _ _).length = _; rw [st_len]; exact f5, e1, e2, ?_, fun j hj h => ?_⟩ hm
        · rcases f8 with f8 | f8
          · exact .inl (by omega)
          · exact .inl (by omega)
        · by_cases e : j = i
          · subst e; exact hz
          · exact f9 j (by omega) h
    · rw [if_neg (by simpa using hi)]
      obtain rfl : i = l.length := by omega
      have hfp : few = p := list_eq f5 hcl f6
      subst hfp
      by_cases hz : gt few (k : Int) = 0
      · rw [if_pos (by simpa using hz)]
        have hall : ∀ j, j < l.length → Cn few j = (fun _ => 0) j := fun j hj => f9 j hj hz
        have hsum := hb.sum
        rw [sumV_congr hall] at hsum
        have h00 : ∀ m, sumV (fun _ => 0) (Vl l) m = 0 := fun m => by
          induction m with
          | zero => rfl
          | succ m ih => rw [sumV, ih]; simp
        rw [h00] at hsum
        simp [← hsum]
      · rw [if_neg (by simpa using hz)]
        have hkn := hcn k f2
        have hk0 : Cn few k ≠ 0 := hz
        have hsub : subI .i64 (gt few (k : Int)) 1 = Cn few k - 1 := by
          show subI .i64 (Cn few k) 1 = _
          exact sub_ok (by omega) (by omega)
        rw [hsub]
        have hcl2 : (st few (k : Int) (Cn few k - 1)).length = l.length := by rw [st_len]; exact hcl
        have hle : ∀ j, j < l.length → 0 ≤ Cn (st few (k : Int) (Cn few k - 1)) j ∧ Cn (st few (k : Int) (Cn few k - 1)) j ≤ 1000 := fun j hj => by
          show 0 ≤ gt (st few (k : Int) _) (j : Int) ∧ gt (st few (k : Int) _) (j : Int) ≤ 1000
          have := hcn j hj
          rw [gt_st]
          split
          · omega
          · exact this
        have hcc2 : denom_counted l (st few (k : Int) (Cn few k - 1)) = true := counted_iff.2 ⟨hcl2, fun j f0 f1' => by
          obtain ⟨i, rfl⟩ : ∃ i : Nat, j = i := ⟨j.toNat, by omega⟩
          exact hle i (by omega)⟩
        rcases Pay_spec hv hcc2 (am := amount) (by omega) (by omega) with ⟨e, _⟩ | ⟨d, _, _, hd⟩
        · rw [e]; rfl
        · exfalso
          have h1 := hd.ok
          have h2 : sumC (Cn d) l.length ≤ sumC (Cn (st few (k : Int) (Cn few k - 1))) l.length := sumC_mono fun j hj => (h1 j hj).2.1
          rw [sumC_st hcl f2 l.length (Nat.le_refl _), if_pos f2] at h2
          have h3 := hb.best (Cn d) (fun j hj => ⟨(h1 j hj).1, by rw [Cn_full hj]; exact Int.le_trans (h1 j hj).2.1 (hle j hj).2, (h1 j hj).2.2⟩) hd.sum
          rcases h3 with h3 | ⟨h3, _⟩ <;> omega
theorem specielaw28_DenomEnough_true (l : List S_api_Denom) (amount : Int) (more : List Int) (hw : wfL [.sl none 2 true (l.map e_api_Denom), .int .i64 amount, .sl none 1 false (more.map (V.int .u8))]) : specielaw28_DenomEnough l amount more = true :=
  DenomEnough_true l amount more (u8_wf (by simp only [wfL, wfV] at hw; exact hw.2.2.1.2))
end Go.Proofs.Ytndjbfdbngkkiaa
