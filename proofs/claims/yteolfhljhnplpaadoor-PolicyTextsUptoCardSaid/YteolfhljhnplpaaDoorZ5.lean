/- Texts of this proof, one after the other: L2, L3, L4, L5. -/
import Derived.Test.YteolfhljhnplpaaDoorZ4
import Derived.KernelRfl
set_option linter.unusedVariables false
set_option linter.unusedSimpArgs false
namespace Go.Proofs.YteolfhljhnplpaaDoor
open Go.RowKit Go.Lib
theorem digs_isD (b : UInt8) : digs.contains b = isD b := by
 have key : ((List.range 256).all fun n => digs.contains (UInt8.ofNat n) == isD (UInt8.ofNat n)) = true := by kernel_rfl
 have h := List.all_eq_true.1 key b.toNat (List.mem_range.2 b.toNat_lt)
 have e : UInt8.ofNat b.toNat = b := UInt8.toNat.inj (by rw [UInt8.toNat_ofNat']; have := b.toNat_lt; omega)
 rw [e, beq_iff_eq] at h
 exact h
theorem dw_nil {p : UInt8 → Bool} : ∀ {l : List UInt8}, l.dropWhile p = [] ↔ l.all p = true
 | [] => by simp
 | a :: l => by
  by_cases ha : p a = true
  ·rw [List.dropWhile_cons_of_pos ha, dw_nil, List.all_cons, ha, Bool.true_and]
  ·rw [List.dropWhile_cons_of_neg ha]
   simp [ha]
theorem dw_head {p : UInt8 → Bool} : ∀ {l : List UInt8} {a : UInt8} {r : List UInt8}, l.dropWhile p = a :: r → p a = false
 | [], a, r, h => by cases h
 | x :: l, a, r, h => by
  by_cases hx : p x = true
  ·rw [List.dropWhile_cons_of_pos hx] at h; exact dw_head h
  ·rw [List.dropWhile_cons_of_neg hx] at h; cases h; simpa using hx
theorem trim_all (s : List UInt8) : strings_Trim s digs = [] ↔ s.all isD = true := by
 have e : (fun x => digs.contains x) = isD := funext digs_isD
 unfold strings_Trim Lib.trimS Lib.trimLeftS Lib.trimRightS
 rw [e]
 have hr : s.reverse.all isD = s.all isD := by rw [List.all_reverse]
 cases hd : s.reverse.dropWhile isD with
 | nil =>
  have h1 := dw_nil.1 hd
  rw [hr] at h1
  simp [h1]
 | cons a l =>
  have h1 := dw_head hd
  have h2 : ¬ s.all isD = true := fun h => by
   rw [← hr] at h
   rw [dw_nil.2 h] at hd; cases hd
  refine ⟨fun h => ?_, fun h => absurd h h2⟩
  have h3 := dw_nil.1 h
  rw [List.all_reverse] at h3
  simp [h1] at h3
theorem atoi_gd {s : List UInt8} (h : gd s) (hl : s.length ≤ 15) : strconv_Atoi s = (((nv s : Nat) : Int), true) := by
 have h1 := gd_okn h hl
 have h2 := atoi_itoa h1.1 (Int.lt_of_lt_of_le h1.2 (by decide))
 rw [itoa_dec h1.1, Int.toNat_natCast, dec_nv h] at h2
 exact h2
open Classical in
theorem pnum_eq (s : List UInt8) : policy_number s = if gd s ∧ s.length ≤ 15 then (((nv s : Nat) : Int), true) else (0, false) := by
 have tail : ¬ (1 < s.length ∧ s.getD 0 0 = 48) → s ≠ [] → s.length ≤ 15 → (if (!(strings_Trim s digs == [])) = true then ((0 : Int), false) else ((strconv_Atoi s).1, (strconv_Atoi s).2)) = if gd s ∧ s.length ≤ 15 then (((nv s : Nat) : Int), true) else (0, false) := by
  intro h1 h0 hl
  by_cases ha : s.all isD = true
  ·have hg : gd s := ⟨h0, ha, h1⟩
   rw [(trim_all s).2 ha, if_neg (by decide), if_pos ⟨hg, hl⟩, atoi_gd hg hl]
  ·have ht : ¬ strings_Trim s digs = [] := fun h => ha ((trim_all s).1 h)
   rw [if_pos (by simpa using ht), if_neg (fun h => ha h.1.2.1)]
 unfold policy_number
 by_cases h0 : s = []
 ·rw [if_pos (by rw [h0]; rfl), if_neg (fun h => h.1.1 h0)]
 rw [if_neg (show ¬ (s == []) = true by simpa using h0)]
 by_cases h1 : 15 < s.length
 ·rw [if_pos (show decide ((s.length : Int) > 15) = true by simp only [decide_eq_true_eq]; omega), if_neg (fun h => by omega)]
 rw [if_neg (show ¬ decide ((s.length : Int) > 15) = true by simp only [decide_eq_true_eq]; omega)]
 by_cases h2 : 1 < s.length
 ·rw [if_pos (show decide ((s.length : Int) > 1) = true by simp only [decide_eq_true_eq]; omega)]
  by_cases h3 : s.getD 0 0 = 48
  ·rw [if_pos (head48.2 h3), if_neg (fun h => h.1.2.2 ⟨h2, h3⟩)]
  ·rw [if_neg (fun h => h3 (head48.1 h))]
   exact tail (fun h => h3 h.2) h0 (by omega)
 ·rw [if_neg (show ¬ decide ((s.length : Int) > 1) = true by simp only [decide_eq_true_eq]; omega)]
  exact tail (fun h => h2 h.1) h0 (by omega)
theorem pnum_dg {n : Int} (h : okn n) : policy_number (dg n) = (n, true) := by
 rw [pnum_eq, if_pos ⟨dg_gd n, dg_len h⟩, dg_nv h.1]
theorem pnum_ok {s : List UInt8} (h : (policy_number s).2 = true) : okn (policy_number s).1 ∧ s = dg (policy_number s).1 := by
 rw [pnum_eq] at h ⊢
 split
 ·rename_i hg
  exact ⟨gd_okn hg.1 hg.2, gd_dg hg.1⟩
 ·rename_i hg
  rw [if_neg hg] at h; cases h
theorem idx_eq (v : List UInt8) : slices_Index_string_string policy_names v = if v = wd 1 then 0 else if v = wd 2 then 1 else if v = wd 3 then 2 else if v = wd 4 then 3 else if v = wd 5 then 4 else -1 := by
 have h : slices_Index_string_string policy_names v = if (v == wd 1) = true then 0 else if (v == wd 2) = true then 1 else if (v == wd 3) = true then 2 else if (v == wd 4) = true then 3 else if (v == wd 5) = true then 4 else -1 := rfl
 rw [h]
 simp only [beq_iff_eq]
theorem idx_wd {k : Int} (h : 1 ≤ k ∧ k ≤ 5) : slices_Index_string_string policy_names (wd k) = k - 1 := by
 rcases kinds h with rfl | rfl | rfl | rfl | rfl <;> rfl
theorem idx_cases (v : List UInt8) : slices_Index_string_string policy_names v = -1 ∨ ∃ k : Int, (1 ≤ k ∧ k ≤ 5) ∧ v = wd k ∧ slices_Index_string_string policy_names v = k - 1 := by
 rw [idx_eq]
 split
 ·exact .inr ⟨1, by decide, by assumption, rfl⟩
 split
 ·exact .inr ⟨2, by decide, by assumption, rfl⟩
 split
 ·exact .inr ⟨3, by decide, by assumption, rfl⟩
 split
 ·exact .inr ⟨4, by decide, by assumption, rfl⟩
 split
 ·exact .inr ⟨5, by decide, by assumption, rfl⟩
 ·exact .inl rfl
theorem add1 {k : Int} (h : 1 ≤ k ∧ k ≤ 5) : addI .i64 (k - 1) 1 = k := by
 unfold addI
 rw [IntKind.wrap_i64]; omega
theorem prule_of {r : S_api_Rule} (h : okr r) : policy_rule (ltx r) = (r, true) := by
 obtain ⟨hk, hA, hB⟩ := h
 unfold policy_rule
 simp only [letk]
 unfold ltx
 rw [cut_at (wd_no _).1]
 simp only
 rw [idx_wd hk, add1 hk]
 have n0 : ¬ (r.Kind == 0) = true := by simp; omega
 rw [if_neg (by decide), if_neg n0]
 unfold tl
 by_cases h5 : r.Kind = 5
 ·rw [if_pos h5] at hB
  rw [if_pos (by simpa using h5), if_pos h5, cut_at (gd_no (dg_gd _) isD32)]
  simp only
  rw [pnum_dg hA, pnum_dg hB]
  simp only [Bool.not_true, Bool.false_eq_true, if_false]
 ·rw [if_neg h5] at hB
  rw [if_neg (by simpa using h5), if_neg h5, pnum_dg hA]
  cases r
  simp only at hB
  subst hB
  rfl
theorem prule_sound {w : List UInt8} (h : (policy_rule w).2 = true) : okr (policy_rule w).1 ∧ w = ltx (policy_rule w).1 := by
 generalize hR : policy_rule w = R at h
 unfold policy_rule at hR
 simp only [letk] at hR
 rcases cut_cases 32 w with ⟨_, hc⟩ | ⟨a, b, _, hw, hc⟩
 ·rw [hc] at hR
  simp only [Bool.not_false, if_true] at hR
  rw [← hR] at h; cases h
 rw [hc] at hR
 simp only [Bool.not_true, Bool.false_eq_true, if_false] at hR
 rcases idx_cases a with hi | ⟨k, hk, ha, hi⟩
 ·rw [hi] at hR
  rw [if_pos (by decide)] at hR
  rw [← hR] at h; cases h
 rw [hi, add1 hk, if_neg (show ¬ (k == 0) = true by simp; omega)] at hR
 by_cases h5 : k = 5
 ·rw [if_pos (by simpa using h5)] at hR
  rcases cut_cases 32 b with ⟨_, hc2⟩ | ⟨x, y, _, hb, hc2⟩
  ·rw [hc2] at hR
   simp only [Bool.not_false, if_true] at hR
   rw [← hR] at h; cases h
  rw [hc2] at hR
  simp only [Bool.not_true, Bool.false_eq_true, if_false] at hR
  cases hy : (policy_number y).2 with
  | false =>
   rw [hy] at hR
   simp only [Bool.not_false, if_true] at hR
   rw [← hR] at h; cases h
  | true =>
   rw [hy] at hR
   simp only [Bool.not_true, Bool.false_eq_true, if_false] at hR
   rw [← hR] at h
   obtain ⟨oy, ey⟩ := pnum_ok hy
   obtain ⟨ox, ex⟩ := pnum_ok h
   rw [← hR]
   refine ⟨⟨hk, ox, by simp only [h5, if_true]; exact oy⟩, ?_⟩
   unfold ltx tl
   simp only [h5, if_true]
   rw [hw, ha, h5, hb, ← ex, ← ey]
 ·rw [if_neg (by simpa using h5)] at hR
  rw [← hR] at h
  obtain ⟨ox, ex⟩ := pnum_ok h
  rw [← hR]
  refine ⟨⟨hk, ox, by simp only [h5, if_false]⟩, ?_⟩
  unfold ltx tl
  simp only [h5, if_false]
  rw [hw, ha, ← ex]
theorem rn_step {v d : Nat} (hv : v < 1000000000000000) (hd : d < 10) : addI .i64 (mulI .i64 10 (v : Int)) (d : Int) = ((v * 10 + d : Nat) : Int) := by
 unfold addI mulI
 rw [IntKind.wrap_i64, IntKind.wrap_i64]
 omega
theorem nv_lt15 {a : List UInt8} (h : a.all isD = true) (hl : a.length ≤ 15) : nv a < 1000000000000000 := by
 have h1 := nv_lt a h
 have h2 : 10 ^ a.length ≤ 10 ^ 15 := Nat.pow_le_pow_right (by decide) hl
 rw [show (10 : Nat) ^ 15 = 1000000000000000 by decide] at h2
 omega
set_option maxHeartbeats 1000000 in
theorem rnum_eq {a r : List UInt8} (ha : a.all isD = true) (hr : ∀ c u, r = c :: u → isD c = false) :
  specieref46_number (a ++ r) = if 15 < a.length ∨ (1 < a.length ∧ (a ++ r).getD 0 0 = 48) then (0, 0) else (((nv a : Nat) : Int), (a.length : Int)) := by
 generalize hT : (if 15 < a.length ∨ (1 < a.length ∧ (a ++ r).getD 0 0 = 48) then ((0 : Int), (0 : Int)) else (((nv a : Nat) : Int), (a.length : Int))) = T
 have done : ∀ x n : Int, n = (a.length : Int) → x = ((nv a : Nat) : Int) → (if decide (n > 15) = true then ((0 : Int), (0 : Int)) else (if decide (n > 1) = true then (if ((((a ++ r).getD 0 0).toNat : Int) == 48) = true then (0, 0) else (x, n)) else (x, n))) = T := by
  intro x n hn hx
  rw [← hT, hn, hx]
  by_cases c0 : 15 < a.length
  ·rw [if_pos (show decide ((a.length : Int) > 15) = true by simp only [decide_eq_true_eq]; omega), if_pos (.inl c0)]
  rw [if_neg (show ¬ decide ((a.length : Int) > 15) = true by simp only [decide_eq_true_eq]; omega)]
  by_cases c1 : 1 < a.length
  ·rw [if_pos (show decide ((a.length : Int) > 1) = true by simp only [decide_eq_true_eq]; omega)]
   by_cases c2 : (a ++ r).getD 0 0 = 48
   ·rw [if_pos (head48.2 c2), if_pos (.inr ⟨c1, c2⟩)]
   ·rw [if_neg (fun h => c2 (head48.1 h)), if_neg (fun h => h.elim c0 fun h => c2 h.2)]
  ·rw [if_neg (show ¬ decide ((a.length : Int) > 1) = true by simp only [decide_eq_true_eq]; omega), if_neg (fun h => h.elim c0 fun h => c1 h.1)]
 have long : 15 < a.length → ∀ x n : Int, n > 15 → (if decide (n > 15) = true then ((0 : Int), (0 : Int)) else (if decide (n > 1) = true then (if ((((a ++ r).getD 0 0).toNat : Int) == 48) = true then (0, 0) else (x, n)) else (x, n))) = T := by
  intro c0 x n hn
  rw [if_pos (by simpa using hn), ← hT, if_pos (.inl c0)]
 unfold specieref46_number
 refine iter_rule (P := fun p : Int × Int => ∃ k : Nat, p.2 = k ∧ k ≤ a.length ∧ k ≤ 16 ∧ p.1 = ((nv (a.take k) : Nat) : Int)) (Q := fun q => q = T) (meas := fun p => (a ++ r).length - p.2.toNat) ?_ _ _ ⟨0, rfl, Nat.zero_le _, by omega, rfl⟩ (by show (a ++ r).length - (0 : Int).toNat < _; omega)
 rintro ag ⟨x, n⟩ ⟨k, e1, e2, e4, e3⟩ ih
 simp only at e1 e3 ih
 subst e1
 have hL : (a ++ r).length = a.length + r.length := List.length_append
 have stop : ¬ k < a.length ∨ 16 ≤ k → (if decide ((k : Int) > 15) = true then ((0 : Int), (0 : Int)) else (if decide ((k : Int) > 1) = true then (if ((((a ++ r).getD 0 0).toNat : Int) == 48) = true then (0, 0) else (x, (k : Int))) else (x, (k : Int)))) = T := by
  intro h
  rcases h with h | h
  ·have ek : k = a.length := by omega
   rw [ek, List.take_length] at e3
   exact done _ _ (by rw [ek]) e3
  ·exact long (by omega) _ _ (by omega)
 by_cases hk : k < (a ++ r).length
 ·rw [if_pos (show decide ((k : Int) < ((a ++ r).length : Int)) = true by simp only [decide_eq_true_eq]; omega)]
  by_cases h16 : k < 16
  ·rw [if_pos (show decide ((k : Int) < 16) = true by simp only [decide_eq_true_eq]; omega)]
   simp only [getD_at hk]
   by_cases hka : k < a.length
   ·have hc : (a ++ r)[k] = a[k] := List.getElem_append_left hka
    have hd : isD a[k] = true := List.all_eq_true.1 ha _ (List.getElem_mem hka)
    have hd2 := isD_iff.1 hd
    rw [hc, if_pos (show decide ((a[k].toNat : Int) ≥ 48) = true by simp only [decide_eq_true_eq]; omega), if_pos (show decide ((a[k].toNat : Int) ≤ 57) = true by simp only [decide_eq_true_eq]; omega), e3, dig_sub hd]
    have hall : (a.take k).all isD = true := List.all_eq_true.2 fun y hy => List.all_eq_true.1 ha y (List.mem_of_mem_take hy)
    have hlt := nv_lt15 hall (by rw [List.length_take]; omega)
    refine ih _ ⟨k + 1, by push_cast; rfl, by omega, by omega, ?_⟩ (by show (a ++ r).length - ((k : Int) + 1).toNat < (a ++ r).length - (k : Int).toNat; omega)
    show addI .i64 (mulI .i64 10 ((nv (a.take k) : Nat) : Int)) ((a[k].toNat - 48 : Nat) : Int) = _
    rw [take_at hka, nv_app]
    exact rn_step hlt (by omega)
   ·match r, hr, hk with
    | [], _, hk => rw [List.append_nil] at hk; omega
    | c :: u, hr, hk =>
     have ek : k = a.length := by omega
     have hc : (a ++ c :: u)[k] = c := by simp [ek]
     have hb := hr c u rfl
     have hb2 : ¬ (48 ≤ c.toNat ∧ c.toNat ≤ 57) := fun h => by rw [isD_iff.2 h] at hb; cases hb
     rw [hc]
     by_cases c1 : 48 ≤ c.toNat
     ·rw [if_pos (show decide ((c.toNat : Int) ≥ 48) = true by simp only [decide_eq_true_eq]; omega), if_neg (show ¬ decide ((c.toNat : Int) ≤ 57) = true by simp only [decide_eq_true_eq]; omega)]
      exact stop (.inl hka)
     ·rw [if_neg (show ¬ decide ((c.toNat : Int) ≥ 48) = true by simp only [decide_eq_true_eq]; omega)]
      exact stop (.inl hka)
  ·rw [if_neg (show ¬ decide ((k : Int) < 16) = true by simp only [decide_eq_true_eq]; omega)]
   exact stop (.inr (by omega))
 ·rw [if_neg (show ¬ decide ((k : Int) < ((a ++ r).length : Int)) = true by simp only [decide_eq_true_eq]; omega)]
  exact stop (.inl (by omega))
theorem rnum_gd {a r : List UInt8} (ha : a.all isD = true) (hr : ∀ c u, r = c :: u → isD c = false) :
  ((gd a ∧ a.length ≤ 15) ∧ specieref46_number (a ++ r) = (((nv a : Nat) : Int), (a.length : Int)) ∧ 0 < a.length) ∨ (¬ (gd a ∧ a.length ≤ 15) ∧ (specieref46_number (a ++ r)).2 = 0) := by
 rw [rnum_eq ha hr]
 by_cases h0 : a = []
 ·subst h0
  refine .inr ⟨fun h => h.1.1 rfl, ?_⟩
  rw [if_neg (by rintro (h | ⟨h, _⟩) <;> simp at h)]; rfl
 ·rw [getD_app h0]
  by_cases hl : 15 < a.length
  ·exact .inr ⟨fun h => by omega, by rw [if_pos (.inl hl)]⟩
  by_cases h1 : 1 < a.length ∧ a.getD 0 0 = 48
  ·exact .inr ⟨fun h => h.1.2.2 h1, by rw [if_pos (.inr h1)]⟩
  ·exact .inl ⟨⟨⟨h0, ha, h1⟩, by omega⟩, by rw [if_neg (fun h => h.elim hl h1)], List.length_pos_iff.2 h0⟩
end Go.Proofs.YteolfhljhnplpaaDoor
namespace Go.Proofs.YteolfhljhnplpaaDoor
open Go.RowKit Go.Lib
theorem tl_ne (r : S_api_Rule) : tl r ≠ [] := by
  unfold tl
  split
  · simp
  · exact (dg_gd r.A).1
theorem word_wd {k : Int} (h : 1 ≤ k ∧ k ≤ 5) : specieref46_word k = wd k := by
  rcases kinds h with rfl | rfl | rfl | rfl | rfl <;> rfl
theorem drop_all {l : List UInt8} {n : Nat} : (l.drop n).take (l.length - n) = l.drop n := List.take_of_length_le (by rw [List.length_drop]; exact Nat.le_refl _)
theorem pre_iff {s w : List UInt8} (hs : ¬ s.length ≤ (w ++ [32]).length) (h : s.take (w ++ [32]).length = w ++ [32]) : ∃ t, t ≠ [] ∧ s = w ++ 32 :: t ∧ s.drop (w ++ [32]).length = t := by
  refine ⟨s.drop (w ++ [32]).length, fun e => ?_, ?_, rfl⟩
  · have := congrArg List.length e
    rw [List.length_drop, List.length_nil] at this
    omega
  · conv => lhs; rw [← List.take_append_drop (w ++ [32]).length s, h]
    simp
def rrest (k : Int) (t : List UInt8) : S_api_Rule × Bool :=
  if ((specieref46_number t).2 == 0) = true then (z_api_Rule, false) else
  if (k == 5) = true then
    (if decide (((t.drop (specieref46_number t).2.toNat).length : Int) < 2) = true then (z_api_Rule, false) else
     if ((((t.drop (specieref46_number t).2.toNat).getD 0 0).toNat : Int) != 32) = true then (z_api_Rule, false) else
     if ((specieref46_number ((t.drop (specieref46_number t).2.toNat).drop 1)).2 == 0) = true then (z_api_Rule, false) else
     ({ Kind := k, A := (specieref46_number t).1, B := (specieref46_number ((t.drop (specieref46_number t).2.toNat).drop 1)).1 }, ((t.drop (specieref46_number t).2.toNat).drop (1 + (specieref46_number ((t.drop (specieref46_number t).2.toNat).drop 1)).2).toNat) == []))
  else ({ Kind := k, A := (specieref46_number t).1, B := 0 }, (t.drop (specieref46_number t).2.toNat) == [])
theorem tl_mk {r : S_api_Rule} (h : r.Kind ≠ 5) : tl r = dg r.A := by unfold tl; rw [if_neg h]
theorem tl_mk5 {r : S_api_Rule} (h : r.Kind = 5) : tl r = dg r.A ++ 32 :: dg r.B := by unfold tl; rw [if_pos h]
theorem dg_all (n : Int) : (dg n).all isD = true := (dg_gd n).2.1
theorem no_head {c : UInt8} {u : List UInt8} (hc : isD c = false) : ∀ d v, c :: u = d :: v → isD d = false := fun d v h => by rw [← (List.cons.inj h).1]; exact hc
theorem nil_head : ∀ (c : UInt8) (u : List UInt8), [] = c :: u → isD c = false := fun c u h => by cases h
theorem rnum_dg {n : Int} (h : okn n) {r : List UInt8} (hr : ∀ c u, r = c :: u → isD c = false) : specieref46_number (dg n ++ r) = (n, ((dg n).length : Int)) ∧ 0 < (dg n).length := by
  rcases rnum_gd (dg_all n) hr with ⟨_, h1, h2⟩ | ⟨h1, _⟩
  · rw [dg_nv h.1] at h1; exact ⟨h1, h2⟩
  · exact absurd ⟨dg_gd n, dg_len h⟩ h1
theorem rrest_of {r : S_api_Rule} (h : okr r) : rrest r.Kind (tl r) = (r, true) := by
  obtain ⟨hk, hA, hB⟩ := h
  unfold rrest
  by_cases h5 : r.Kind = 5
  · rw [if_pos h5] at hB
    rw [tl_mk5 h5]
    obtain ⟨e1, l1⟩ := rnum_dg hA (r := 32 :: dg r.B) (no_head isD32)
    obtain ⟨e2, l2⟩ := rnum_dg hB (r := []) nil_head
    rw [List.append_nil] at e2
    rw [e1]
    simp only [Int.toNat_natCast, List.drop_left]
    rw [if_neg (show ¬ ((((dg r.A).length : Nat) : Int) == 0) = true by simp; intro h; rw [h] at l1; simp at l1), if_pos (by simpa using h5)]
    rw [if_neg (show ¬ decide (((32 :: dg r.B).length : Int) < 2) = true by simp only [decide_eq_true_eq, List.length_cons]; omega)]
    have ed : (32 :: dg r.B : List UInt8).drop 1 = dg r.B := rfl
    have eh : ¬ ((((32 :: dg r.B : List UInt8).getD 0 0).toNat : Int) != 32) = true := (by decide : ¬ ((((32 : UInt8).toNat : Nat) : Int) != 32) = true)
    rw [if_neg eh, ed, e2]
    simp only
    rw [if_neg (show ¬ ((((dg r.B).length : Nat) : Int) == 0) = true by simp; intro h; rw [h] at l2; simp at l2)]
    have e3 : ((32 :: dg r.B).drop (1 + (((dg r.B).length : Nat) : Int)).toNat) = [] := List.drop_eq_nil_of_le (by rw [List.length_cons]; omega)
    rw [e3]
    rfl
  · rw [if_neg h5] at hB
    rw [tl_mk h5]
    obtain ⟨e1, l1⟩ := rnum_dg hA (r := []) nil_head
    rw [List.append_nil] at e1
    rw [e1]
    simp only [Int.toNat_natCast, List.drop_length]
    rw [if_neg (show ¬ ((((dg r.A).length : Nat) : Int) == 0) = true by simp; intro h; rw [h] at l1; simp at l1), if_neg (by simpa using h5)]
    cases r
    simp only at hB
    subst hB
    rfl
theorem rrest_sound {k : Int} (hk : 1 ≤ k ∧ k ≤ 5) {t : List UInt8} (h : (rrest k t).2 = true) : okr (rrest k t).1 ∧ (rrest k t).1.Kind = k ∧ t = tl (rrest k t).1 := by
  obtain ⟨a, u, ht, ha, hu⟩ := spn t
  generalize hR : rrest k t = R at h
  unfold rrest at hR
  rw [ht] at hR
  rcases rnum_gd ha hu with ⟨ga, e1, l1⟩ | ⟨_, e1⟩
  rotate_left
  · rw [if_pos (by rw [e1]; rfl)] at hR
    rw [← hR] at h; cases h
  rw [e1] at hR
  simp only [Int.toNat_natCast, List.drop_left] at hR
  rw [if_neg (show ¬ (((a.length : Nat) : Int) == 0) = true by simp; intro h; rw [h] at l1; simp at l1)] at hR
  by_cases h5 : k = 5
  · rw [if_pos (by simpa using h5)] at hR
    by_cases c1 : (u.length : Int) < 2
    · rw [if_pos (by simpa using c1)] at hR
      rw [← hR] at h; cases h
    rw [if_neg (by simpa using c1)] at hR
    match u, hu, ht, c1, hR with
    | [], _, _, c1, _ => exact absurd (show (([] : List UInt8).length : Int) < 2 by decide) c1
    | c :: v, _, ht, _, hR =>
      by_cases hc : ((((c :: v).getD 0 0).toNat : Int) != 32) = true
      · rw [if_pos hc] at hR
        rw [← hR] at h; cases h
      rw [if_neg hc] at hR
      have hc32 : c = 32 := by
        have h1 : (c.toNat : Int) = 32 := by simpa using hc
        exact UInt8.toNat.inj (by have : c.toNat = 32 := by omega
                                  rw [this]; rfl)
      obtain ⟨b, q, hv, hb, hq⟩ := spn v
      change (if ((specieref46_number v).2 == 0) = true then (z_api_Rule, false) else (({ Kind := k, A := ((nv a : Nat) : Int), B := (specieref46_number v).1 } : S_api_Rule), ((c :: v).drop (1 + (specieref46_number v).2).toNat) == [])) = R at hR
      rw [hv] at hR
      rcases rnum_gd hb hq with ⟨gb, e2, l2⟩ | ⟨_, e2⟩
      rotate_left
      · rw [if_pos (by rw [e2]; rfl)] at hR
        rw [← hR] at h; cases h
      rw [e2] at hR
      simp only at hR
      rw [if_neg (show ¬ (((b.length : Nat) : Int) == 0) = true by simp; intro h; rw [h] at l2; simp at l2)] at hR
      have e3 : ((c :: (b ++ q)).drop (1 + ((b.length : Nat) : Int)).toNat) = q := by
        have e4 : (1 + ((b.length : Nat) : Int)).toNat = b.length + 1 := by omega
        rw [e4, List.drop_succ_cons, List.drop_left]
      rw [e3] at hR
      rw [← hR] at h
      have hq0 : q = [] := by simpa using h
      rw [← hR]
      refine ⟨⟨hk, gd_okn ga.1 ga.2, by simp only [h5, if_true]; exact gd_okn gb.1 gb.2⟩, rfl, ?_⟩
      rw [tl_mk5 (r := ({ Kind := k, A := ((nv a : Nat) : Int), B := ((nv b : Nat) : Int) } : S_api_Rule)) h5]
      simp only
      rw [← gd_dg ga.1, ← gd_dg gb.1, ht, hc32, hv, hq0, List.append_nil]
  · rw [if_neg (by simpa using h5)] at hR
    rw [← hR] at h
    have hu0 : u = [] := by simpa using h
    rw [← hR]
    refine ⟨⟨hk, gd_okn ga.1 ga.2, by simp only [h5, if_false]⟩, rfl, ?_⟩
    rw [tl_mk (r := ({ Kind := k, A := ((nv a : Nat) : Int), B := 0 } : S_api_Rule)) h5]
    simp only
    rw [← gd_dg ga.1, ht, hu0, List.append_nil]
theorem rrule_step {s : List UInt8} {ag : Int × S_api_Rule → S_api_Rule × Bool} {k : Int} {x : S_api_Rule} {T : S_api_Rule × Bool} (hk : 1 ≤ k ∧ k ≤ 5)
    (hc : (¬ ∃ t, t ≠ [] ∧ s = wd k ++ 32 :: t) → ag (k + 1, x) = T) (hr : ∀ t, t ≠ [] → s = wd k ++ 32 :: t → rrest k t = T) :
    (if decide ((s.length : Int) ≤ ((wd k ++ [32]).length : Int)) = true then ag (k + 1, x) else if (!(s.take (wd k ++ [32]).length == wd k ++ [32])) = true then ag (k + 1, x) else rrest k (s.drop (wd k ++ [32]).length)) = T := by
  split
  · rename_i h1
    rw [decide_eq_true_eq] at h1
    have h1 : s.length ≤ (wd k ++ [32]).length := by omega
    refine hc ?_
    rintro ⟨t, ht, hs⟩
    have h2 := congrArg List.length hs
    rw [List.length_append, List.length_cons] at h2
    rw [List.length_append, List.length_singleton] at h1
    have h3 := List.length_pos_iff.2 ht
    omega
  rename_i h1
  rw [decide_eq_true_eq] at h1
  have h1 : ¬ s.length ≤ (wd k ++ [32]).length := by omega
  by_cases h2 : s.take (wd k ++ [32]).length = wd k ++ [32]
  · rw [if_neg (by rw [h2]; simp)]
    obtain ⟨t, h3, h4, h5⟩ := pre_iff h1 h2
    rw [h5]
    exact hr t h3 h4
  · rw [if_pos (by simpa using h2)]
    refine hc ?_
    rintro ⟨t, _, hs⟩
    apply h2
    have e : wd k ++ 32 :: t = (wd k ++ [32]) ++ t := by simp
    rw [hs, e, List.take_left]
theorem rrule_eq (s : List UInt8) : specieref46_rule s = iter (6 - (1 : Int).toNat + 1) (fun (ag1 : (Int × S_api_Rule) → (S_api_Rule × Bool)) (p1 : Int × S_api_Rule) => if decide (p1.1 ≤ 5) = true then letk (specieref46_word p1.1) (fun w => (if decide ((s.length : Int) ≤ ((w ++ [32]).length : Int)) = true then ag1 (p1.1 + 1, p1.2) else if (!(s.take (w ++ [32]).length == w ++ [32])) = true then ag1 (p1.1 + 1, p1.2) else rrest p1.1 (s.drop (w ++ [32]).length))) else (z_api_Rule, false)) (fun _ => default) (1, z_api_Rule) := by
  unfold specieref46_rule
  simp only [drop_all, letk]
  rfl
end Go.Proofs.YteolfhljhnplpaaDoor
namespace Go.Proofs.YteolfhljhnplpaaDoor
open Go.RowKit Go.Lib
theorem cut_two {a b : List UInt8} {j k : Int} (h : wd j ++ 32 :: a = wd k ++ 32 :: b) : wd j = wd k ∧ a = b := by
  have h1 := cut_at (b := a) (wd_no j).1
  have h2 := cut_at (b := b) (wd_no k).1
  rw [h, h2] at h1
  have e := Prod.mk.inj h1
  exact ⟨e.1.symm, (Prod.mk.inj e.2).1.symm⟩
theorem rrule_of {r : S_api_Rule} (h : okr r) : specieref46_rule (ltx r) = (r, true) := by
  rw [rrule_eq]
  refine iter_rule (P := fun p : Int × S_api_Rule => 1 ≤ p.1 ∧ p.1 ≤ r.Kind) (Q := fun x => x = (r, true)) (meas := fun p => 6 - p.1.toNat) ?_ _ _ ⟨by decide, h.1.1⟩ (by decide)
  rintro ag ⟨k, x⟩ ⟨h1, h2⟩ ih
  simp only at h1 h2 ih ⊢
  have hk : 1 ≤ k ∧ k ≤ 5 := ⟨h1, Int.le_trans h2 h.1.2⟩
  rw [if_pos (by simpa using hk.2)]
  simp only [letk]
  rw [word_wd hk]
  refine rrule_step hk (fun hn => ih _ ⟨by show 1 ≤ k + 1; omega, ?_⟩ (by show 6 - (k + 1).toNat < 6 - k.toNat; omega)) (fun t _ hs => ?_)
  · show k + 1 ≤ r.Kind
    by_cases e : k = r.Kind
    · exact absurd ⟨tl r, tl_ne r, by rw [e]; rfl⟩ hn
    · omega
  · have hc := cut_two (show wd r.Kind ++ 32 :: tl r = wd k ++ 32 :: t from hs)
    rw [← wd_inj h.1 hk hc.1, ← hc.2]
    exact rrest_of h
theorem rrule_sound {s : List UInt8} (h : (specieref46_rule s).2 = true) : okr (specieref46_rule s).1 ∧ s = ltx (specieref46_rule s).1 := by
  revert h
  rw [rrule_eq]
  refine iter_rule (P := fun p : Int × S_api_Rule => 1 ≤ p.1 ∧ p.1 ≤ 6) (Q := fun x : S_api_Rule × Bool => x.2 = true → okr x.1 ∧ s = ltx x.1) (meas := fun p => 6 - p.1.toNat) ?_ _ _ ⟨by decide, by decide⟩ (by decide)
  rintro ag ⟨k, x⟩ ⟨h1, h2⟩ ih
  simp only at h1 h2 ih ⊢
  by_cases h5 : k ≤ 5
  · have hk : 1 ≤ k ∧ k ≤ 5 := ⟨h1, h5⟩
    rw [if_pos (by simpa using h5)]
    simp only [letk]
    rw [word_wd hk]
    by_cases hx : ∃ t, t ≠ [] ∧ s = wd k ++ 32 :: t
    · obtain ⟨t, ht, hs⟩ := hx
      rw [rrule_step (T := rrest k t) hk (fun hn => absurd ⟨t, ht, hs⟩ hn) (fun t' _ hs' => by rw [(cut_two (hs.symm.trans hs')).2])]
      intro h
      obtain ⟨g1, g2, g3⟩ := rrest_sound hk h
      refine ⟨g1, ?_⟩
      unfold ltx
      rw [g2, ← g3]
      exact hs
    · rw [rrule_step (T := ag (k + 1, x)) hk (fun _ => rfl) (fun t ht hs => absurd ⟨t, ht, hs⟩ hx)]
      exact ih _ ⟨by show 1 ≤ k + 1; omega, by show k + 1 ≤ 6; omega⟩ (by show 6 - (k + 1).toNat < 6 - k.toNat; omega)
  · rw [if_neg (by simpa using h5)]
    intro h
    cases h
def lnO (w : List UInt8) : Option S_api_Rule := if (policy_rule w).2 = true then some (policy_rule w).1 else none
theorem lnO_some {w : List UInt8} {r : S_api_Rule} (h : lnO w = some r) : okr r ∧ w = ltx r := by
  unfold lnO at h
  split at h
  · rename_i h1
    have e := Option.some.inj h
    have := prule_sound h1
    rw [e] at this
    exact this
  · cases h
theorem lnO_of {r : S_api_Rule} (h : okr r) : lnO (ltx r) = some r := by
  unfold lnO
  rw [prule_of h]; rfl
theorem pr_some {w : List UInt8} {r : S_api_Rule} (h : lnO w = some r) : policy_rule w = (r, true) := by
  obtain ⟨h1, rfl⟩ := lnO_some h
  exact prule_of h1
theorem pr_none {w : List UInt8} (h : lnO w = none) : (policy_rule w).2 = false := by
  unfold lnO at h
  split at h
  · cases h
  · rename_i h1; simpa using h1
theorem rr_some {w : List UInt8} {r : S_api_Rule} (h : lnO w = some r) : specieref46_rule w = (r, true) := by
  obtain ⟨h1, rfl⟩ := lnO_some h
  exact rrule_of h1
theorem rr_none {w : List UInt8} (h : lnO w = none) : (specieref46_rule w).2 = false := by
  cases hb : (specieref46_rule w).2 with
  | false => rfl
  | true =>
    obtain ⟨h1, h2⟩ := rrule_sound hb
    rw [h2, lnO_of h1] at h
    cases h
def finP (L : List S_api_Rule) : S_api_Policy × Int := if 20 < L.length then (z_api_Policy, 5) else if rulesOk L = true then (⟨L⟩, 0) else (z_api_Policy, 2)
def outP : List S_api_Rule → List (List UInt8) → S_api_Policy × Int
  | _, [] => (z_api_Policy, 3)
  | acc, w :: ws => match ws with
    | [] => if w = [] then finP acc else (z_api_Policy, 3)
    | _ :: _ => match lnO w with
      | none => (z_api_Policy, 3)
      | some r => outP (acc ++ [r]) ws
theorem outP_end (acc : List S_api_Rule) : outP acc [[]] = finP acc := by simp [outP]
theorem outP_one {acc : List S_api_Rule} {w : List UInt8} (h : w ≠ []) : outP acc [w] = (z_api_Policy, 3) := by simp [outP, h]
theorem outP_bad {acc : List S_api_Rule} {w : List UInt8} {ws : List (List UInt8)} (hw : ws ≠ []) (h : lnO w = none) : outP acc (w :: ws) = (z_api_Policy, 3) := by
  cases ws with
  | nil => exact absurd rfl hw
  | cons v ws => simp [outP, h]
theorem outP_cons {acc : List S_api_Rule} {w : List UInt8} {ws : List (List UInt8)} {r : S_api_Rule} (hw : ws ≠ []) (h : lnO w = some r) : outP acc (w :: ws) = outP (acc ++ [r]) ws := by
  cases ws with
  | nil => exact absurd rfl hw
  | cons v ws => rw [outP]; simp [h]
theorem parse_eq {s : List UInt8} (hs : s.length ≤ 16384) : policy_Parse s = outP [] (cutAll 10 s) := by
  unfold policy_Parse
  rw [if_neg (show ¬ decide ((s.length : Int) > 16384) = true by simp only [decide_eq_true_eq]; omega)]
  generalize hT : outP [] (cutAll 10 s) = T
  refine iter_rule (P := fun p : List UInt8 × S_api_Policy × List S_api_Rule => outP p.2.2 (cutAll 10 p.1) = T) (Q := fun r => r = T) (meas := fun p => p.1.length) ?_ _ _ hT (Nat.lt_succ_self _)
  rintro ag ⟨u, z, acc⟩ e3 ih
  simp only at e3 ih ⊢
  by_cases hu : u = []
  · subst hu
    rw [if_neg (by decide)]
    have e4 : cutAll 10 ([] : List UInt8) = [[]] := rfl
    rw [e4, outP_end] at e3
    rw [← e3]
    unfold finP
    simp only [letk]
    by_cases h20 : 20 < acc.length
    · rw [if_pos (show decide ((acc.length : Int) > 20) = true by simp only [decide_eq_true_eq]; omega), if_pos h20]
    · rw [if_neg (show ¬ decide ((acc.length : Int) > 20) = true by simp only [decide_eq_true_eq]; omega), if_neg h20, polValid_ok]
      cases rulesOk acc <;> rfl
  · rw [if_pos (by simpa using hu)]
    simp only [letk]
    rcases cut_cases 10 u with ⟨hn, hc⟩ | ⟨a, b, hn, hw, hc⟩
    · rw [hc]
      simp only [Bool.not_false, if_true]
      rw [cutAll_one 10 u hn, outP_one hu] at e3
      exact e3
    · rw [hc]
      simp only [Bool.not_true, Bool.false_eq_true, if_false]
      rw [hw, cutAll_app 10 a b hn] at e3
      cases hl : lnO a with
      | none =>
        rw [outP_bad (cutAll_ne 10 b) hl] at e3
        rw [pr_none hl]
        exact e3
      | some r =>
        rw [outP_cons (cutAll_ne 10 b) hl] at e3
        rw [pr_some hl]
        simp only [Bool.not_true, Bool.false_eq_true, if_false]
        refine ih _ e3 ?_
        show b.length < u.length
        rw [hw, List.length_append, List.length_cons]
        omega
theorem getD_ne {s : List UInt8} {i : Nat} : (((((s.getD i 0).toNat : Nat) : Int) != 10) = true) ↔ s.getD i 0 ≠ 10 := by
  rw [bne_iff_ne]
  constructor
  · intro h e; apply h; rw [e]; rfl
  · intro h e
    exact h (UInt8.toNat.inj (by have : (s.getD i 0).toNat = 10 := by omega
                                 rw [this]; rfl))
theorem rparse_eq (s : List UInt8) : specieref46_Parse s = outP [] (cutAll 10 s) := by
  unfold specieref46_Parse
  generalize hT : outP [] (cutAll 10 s) = T
  refine iter_rule (P := fun p : Int × Int × S_api_Policy × List S_api_Rule => ∃ f i : Nat, p.1 = f ∧ p.2.1 = i ∧ f ≤ i ∧ i ≤ s.length ∧ (10 : UInt8) ∉ (s.drop f).take (i - f) ∧ outP p.2.2.2 (cutAll 10 (s.drop f)) = T) (Q := fun r => r = T) (meas := fun p => ((s.length : Int) - p.2.1).toNat) ?_ _ _ ⟨0, 0, rfl, rfl, Nat.le_refl _, Nat.zero_le _, by simp, hT⟩ (by show ((s.length : Int) - 0).toNat < _; omega)
  rintro ag ⟨f', i', z, acc⟩ ⟨f, i, e1, e2, hfi, hi, hno, e3⟩ ih
  simp only at e1 e2 e3 ih
  subst e1 e2
  by_cases hlt : i < s.length
  · rw [if_pos (show decide ((i : Int) < (s.length : Int)) = true by simp only [decide_eq_true_eq]; omega)]
    simp only [Int.toNat_natCast]
    have hm : ((s.length : Int) - ((i : Int) + 1)).toNat < ((s.length : Int) - (i : Int)).toNat := by omega
    have hsi : s.getD i 0 = s[i] := by rw [List.getD_eq_getElem?_getD, List.getElem?_eq_getElem hlt]; rfl
    have hd : s.drop f = (s.drop f).take (i - f) ++ s[i] :: s.drop (i + 1) := by
      have h1 := List.take_append_drop (i - f) (s.drop f)
      rw [List.drop_drop, show f + (i - f) = i by omega, List.drop_eq_getElem_cons hlt] at h1
      exact h1.symm
    by_cases hc : s.getD i 0 = 10
    · rw [if_neg (fun h => getD_ne.1 h hc)]
      rw [hsi] at hc
      rw [hc] at hd
      simp only [letk]
      rw [hd, cutAll_app 10 _ _ hno] at e3
      cases hl : lnO ((s.drop f).take (i - f)) with
      | none =>
        rw [outP_bad (cutAll_ne 10 _) hl] at e3
        rw [rr_none hl]
        exact e3
      | some r =>
        rw [outP_cons (cutAll_ne 10 _) hl] at e3
        rw [rr_some hl]
        simp only [Bool.not_true, Bool.false_eq_true, if_false]
        exact ih _ ⟨i + 1, i + 1, by push_cast; rfl, by push_cast; rfl, Nat.le_refl _, hlt, by simp, e3⟩ hm
    · rw [if_pos (getD_ne.2 hc)]
      refine ih _ ⟨f, i + 1, rfl, by push_cast; rfl, by omega, hlt, ?_, e3⟩ hm
      have h2 : (s.drop f).take (i + 1 - f) = (s.drop f).take (i - f) ++ [s[i]] := by
        rw [show i + 1 - f = (i - f) + 1 by omega, List.take_add_one, List.getElem?_drop, show f + (i - f) = i by omega, List.getElem?_eq_getElem hlt]
        rfl
      rw [h2, List.mem_append]
      rintro (h | h)
      · exact hno h
      · rw [List.mem_singleton] at h
        exact hc (hsi.trans h.symm)
  · rw [if_neg (show ¬ decide ((i : Int) < (s.length : Int)) = true by simp only [decide_eq_true_eq]; omega)]
    have ei : i = s.length := by omega
    have hall : (s.drop f).take (i - f) = s.drop f := List.take_of_length_le (by rw [List.length_drop]; omega)
    rw [hall] at hno
    by_cases hf : f < s.length
    · rw [if_pos (show decide ((f : Int) < (s.length : Int)) = true by simp only [decide_eq_true_eq]; omega)]
      rw [cutAll_one 10 _ hno, outP_one (by intro h; have := congrArg List.length h; rw [List.length_drop, List.length_nil] at this; omega)] at e3
      exact e3
    · rw [if_neg (show ¬ decide ((f : Int) < (s.length : Int)) = true by simp only [decide_eq_true_eq]; omega)]
      have h0 : s.drop f = [] := List.drop_eq_nil_of_le (by omega)
      have e4 : cutAll 10 ([] : List UInt8) = [[]] := rfl
      rw [h0, e4, outP_end] at e3
      rw [← e3]
      unfold finP
      simp only [letk]
      by_cases h20 : 20 < acc.length
      · rw [if_pos (show decide ((acc.length : Int) > 20) = true by simp only [decide_eq_true_eq]; omega), if_pos h20]
      · rw [if_neg (show ¬ decide ((acc.length : Int) > 20) = true by simp only [decide_eq_true_eq]; omega), if_neg h20, refValid_ok]
        cases rulesOk acc <;> rfl
end Go.Proofs.YteolfhljhnplpaaDoor
namespace Go.Proofs.YteolfhljhnplpaaDoor
open Go.RowKit Go.Lib
theorem awake_true : specielaw46_awake = true := by kernel_rfl
theorem okr_of {r : S_api_Rule} (h : ruleOk r = true) : okr r := by
 unfold ruleOk at h
 rw [decide_eq_true_eq] at h
 refine ⟨by omega, ⟨by omega, by omega⟩, ?_⟩
 split
 ·exact ⟨by omega, by omega⟩
 ·omega
theorem itoa_dg {n : Int} (h : 0 ≤ n) : Lib.itoa n = dg n := itoa_dec h
theorem ltxI_eq {r : S_api_Rule} (h : ruleOk r = true) : ltxI r = ltx r := by
 have h1 := (ruleOk_spec h).2.1
 have h2 := (ruleOk_spec h).2.2
 unfold ltxI headI ltx tl
 rw [itoa_dg h1.1, itoa_dg h2.1]
 split <;> simp
theorem txtI_eq {l : List S_api_Rule} (h : rulesOk l = true) : txtI l = txt l := by
 unfold txtI txt
 congr 1
 refine List.map_congr_left fun r hr => ?_
 rw [ltxI_eq ((rulesOk_spec h).2 r hr)]
theorem text_ok {p : S_api_Policy} (h : rulesOk p.Rules = true) : policy_Text p = (txt p.Rules, 0) := by
 unfold policy_Text
 rw [if_pos h, txtI_eq h]
theorem text_no {p : S_api_Policy} (h : rulesOk p.Rules = false) : policy_Text p = ([], 1) := by
 unfold policy_Text
 rw [if_neg (by rw [h]; decide)]
theorem line_eq {r : S_api_Rule} (h : 1 ≤ r.Kind ∧ r.Kind ≤ 5) : specieref46_Line r = ltx r ++ [10] := by
 unfold specieref46_Line ltx tl
 simp only [letk]
 rw [word_wd h]
 by_cases h5 : r.Kind = 5
 ·rw [if_pos (by simpa using h5), if_pos h5]
  show _ = (wd r.Kind ++ 32 :: (decM r.A ++ 32 :: decM r.B)) ++ [10]
  simp
 ·rw [if_neg (by simpa using h5), if_neg h5]
  show _ = (wd r.Kind ++ 32 :: decM r.A) ++ [10]
  simp
theorem take_gt {α : Type} [Inhabited α] {l : List α} {k : Nat} (h : k < l.length) : l.take (k + 1) = l.take k ++ [gt l (k : Int)] := by
 rw [List.take_add_one, List.getElem?_eq_getElem h, gt_nat, List.getD_eq_getElem?_getD, List.getElem?_eq_getElem h]; rfl
theorem rtext_eq {p : S_api_Policy} (h : rulesOk p.Rules = true) : specieref46_Text p = txt p.Rules := by
 unfold specieref46_Text
 generalize p.Rules = l at h
 refine iter_rule (P := fun q : List UInt8 × Int => ∃ k : Nat, q.2 = k ∧ k ≤ l.length ∧ q.1 = txt (l.take k)) (Q := fun r => r = txt l) (meas := fun q => ((l.length : Int) - q.2).toNat) ?_ _ _ ⟨0, rfl, Nat.zero_le _, rfl⟩ (by show ((l.length : Int) - 0).toNat < _; omega)
 rintro ag ⟨acc, i⟩ ⟨k, e1, e2, e3⟩ ih
 simp only at e1 e3 ih ⊢
 subst e1
 by_cases hi : k < l.length
 ·rw [if_pos (show decide ((k : Int) < (l.length : Int)) = true by simp only [decide_eq_true_eq]; omega)]
  simp only [letk]
  refine ih _ ⟨k + 1, by push_cast; rfl, hi, ?_⟩ (by show ((l.length : Int) - ((k : Int) + 1)).toNat < ((l.length : Int) - (k : Int)).toNat; omega)
  rw [take_gt hi, txt_snoc, e3, line_eq (okr_of ((rulesOk_spec h).2 _ (gt_mem (by omega)))).1]
 ·rw [if_neg (show ¬ decide ((k : Int) < (l.length : Int)) = true by simp only [decide_eq_true_eq]; omega)]
  have ek : k = l.length := by omega
  rw [ek, List.take_length] at e3
  exact e3
theorem outP_txt : ∀ (l acc : List S_api_Rule), (∀ r ∈ l, okr r) → outP acc (l.map ltx ++ [[]]) = finP (acc ++ l)
 | [], acc, _ => by rw [List.map_nil, List.nil_append, outP_end, List.append_nil]
 | r :: l, acc, h => by
  rw [List.map_cons, List.cons_append, outP_cons (by simp) (lnO_of (h r (by simp))), outP_txt l _ (fun x hx => h x (by simp [hx]))]
  simp
theorem parse_txt {l : List S_api_Rule} (h : rulesOk l = true) : policy_Parse (txt l) = (⟨l⟩, 0) := by
 have hs := rulesOk_spec h
 have ho : ∀ r ∈ l, okr r := fun r hr => okr_of (hs.2 r hr)
 have hl := txt_len l ho
 rw [parse_eq (by omega), cut_txt, outP_txt l [] ho, List.nil_append]
 unfold finP
 rw [if_neg (by omega), if_pos h]
theorem outP_back : ∀ (ws : List (List UInt8)) (acc : List S_api_Rule) (q : S_api_Policy), outP acc ws = (q, 0) → ∃ L, q.Rules = acc ++ L ∧ ws = L.map ltx ++ [[]] ∧ rulesOk q.Rules = true
 | [], acc, q, h => by simp [outP] at h
 | [w], acc, q, h => by
  by_cases hw : w = []
  ·subst hw
   rw [outP_end] at h
   unfold finP at h
   split at h
   ·simp at h
   ·split at h
    ·rename_i h1
     have e := (Prod.mk.inj h).1
     subst e
     exact ⟨[], by simp, rfl, h1⟩
    ·simp at h
  ·rw [outP_one hw] at h
   simp at h
 | w :: v :: ws, acc, q, h => by
  cases hl : lnO w with
  | none => rw [outP_bad (by simp) hl] at h; simp at h
  | some r =>
   rw [outP_cons (by simp) hl] at h
   obtain ⟨L, h1, h2, h3⟩ := outP_back (v :: ws) _ q h
   refine ⟨r :: L, by rw [h1]; simp, ?_, h3⟩
   rw [h2, (lnO_some hl).2]; rfl
theorem txt_parse {s : List UInt8} (hs : s.length ≤ 16384) {q : S_api_Policy} (h : policy_Parse s = (q, 0)) : policy_Text q = (s, 0) := by
 rw [parse_eq hs] at h
 obtain ⟨L, h1, h2, h3⟩ := outP_back _ _ _ h
 rw [List.nil_append] at h1
 have h4 := join_cutAll 10 s
 rw [h2, join_txt] at h4
 rw [text_ok h3, h1, h4]
theorem parse_big {s : List UInt8} (h : 16384 < s.length) : policy_Parse s = (z_api_Policy, 5) := by
 unfold policy_Parse
 rw [if_pos (show decide ((s.length : Int) > 16384) = true by simp only [decide_eq_true_eq]; omega)]
theorem q_self (r : S_api_Rule) : q_api_Rule r r = true := by simp [q_api_Rule]
theorem same_self (p : S_api_Policy) : specielaw46_same p p = true := by
 unfold specielaw46_same slices_Equal_api_Rule_api_Rule
 simp only [letk]
 rw [if_neg (by simp)]
 generalize p.Rules = l
 refine iter_rule (P := fun q : Int => ∃ k : Nat, q = k ∧ k ≤ l.length) (Q := fun r => r = true) (meas := fun q => ((l.length : Int) - q).toNat) ?_ _ _ ⟨0, rfl, Nat.zero_le _⟩ (by show ((l.length : Int) - 0).toNat < _; omega)
 rintro ag i ⟨k, e1, e2⟩ ih
 subst e1
 by_cases hi : k < l.length
 ·rw [if_pos (show decide ((k : Int) < (l.length : Int)) = true by simp only [decide_eq_true_eq]; omega), q_self, if_neg (by decide)]
  exact ih _ ⟨k + 1, by push_cast; rfl, hi⟩ (by show ((l.length : Int) - ((k : Int) + 1)).toNat < ((l.length : Int) - (k : Int)).toNat; omega)
 ·rw [if_neg (show ¬ decide ((k : Int) < (l.length : Int)) = true by simp only [decide_eq_true_eq]; omega)]
theorem specielaw46_PolicyTexts_true (p : S_api_Policy) (s : List UInt8) : specielaw46_PolicyTexts p s = true := by
 obtain ⟨q, c, hP⟩ : ∃ q c, policy_Parse s = (q, c) := ⟨_, _, rfl⟩
 have hz : (z_api_Policy.Rules.length : Int) = 0 := rfl
 unfold specielaw46_PolicyTexts
 simp only [letk, letj, awake_true, Bool.not_true, Bool.false_eq_true, if_false]
 by_cases hg : specielaw46_great [p] = true
 ·rw [if_pos hg]
 rw [if_neg hg]
 by_cases hs : s.length ≤ 16384
 ·have hR : specieref46_Parse s = policy_Parse s := by rw [rparse_eq, parse_eq hs]
  have hT : c = 0 → policy_Text q = (s, 0) := fun h => txt_parse hs (by rw [hP, h])
  have hb : decide ((s.length : Int) > 16384) = false := decide_eq_false (by omega)
  have hb2 : decide ((s.length : Int) ≤ 16384) = true := decide_eq_true (by omega)
  simp only [hR, hP, hb, hb2, refValid_ok, polValid_ok, same_self, bne_self_eq_false, Bool.not_true, Bool.false_eq_true, if_false, if_true]
  have tail : (if (c != 0) = true then true else if ((policy_Text q).2 == 0) = true then ((policy_Text q).1 == s) else false) = true := by
   by_cases hc : c = 0
   ·rw [hT hc]; simp [hc]
   ·rw [if_pos (by simpa using hc)]
  simp only [tail]
  by_cases h2 : decide ((s.length : Int) > 2000) = true
  ·rw [if_pos h2]
  rw [if_neg h2]
  cases hv : rulesOk p.Rules with
  | true =>
   rw [text_ok hv, rtext_eq hv, parse_txt hv]
   have e : (⟨p.Rules⟩ : S_api_Policy) = p := rfl
   simp [same_self, e]
  | false =>
   rw [text_no hv]
   simp
 ·have hPb := parse_big (s := s) (by omega)
  have hb : decide ((s.length : Int) > 16384) = true := decide_eq_true (by omega)
  have hb2 : decide ((s.length : Int) ≤ 16384) = false := decide_eq_false (by omega)
  have hb3 : decide ((s.length : Int) > 2000) = true := decide_eq_true (by omega)
  simp only [hPb, hb, hb2, hb3, refValid_ok, polValid_ok, if_true, Bool.false_eq_true, if_false]
  cases hv : rulesOk p.Rules with
  | true =>
   rw [text_ok hv, rtext_eq hv, parse_txt hv]
   have e : (⟨p.Rules⟩ : S_api_Policy) = p := rfl
   simp [same_self, e, hz]
  | false =>
   rw [text_no hv]
   simp [hz]
end Go.Proofs.YteolfhljhnplpaaDoor
