/- The merge of two policies (plain laws). -/
import Derived.Test.YtbjbogfjiifcpaaDoorL3
namespace Go.Proofs.YtbjbogfjiifcpaaDoor
open Go.RowKit
theorem q_iff {a b : S_api_Rule} : q_api_Rule a b = true ↔ a = b := by
  unfold q_api_Rule
  cases a; cases b
  simp only [Bool.and_eq_true, beq_iff_eq, S_api_Rule.mk.injEq]
instance : DecidableEq S_api_Rule := fun a b => decidable_of_iff _ (q_iff (a := a) (b := b))
/-- The rules of the second that the first lacks, one after another. -/
def addAll (l : List S_api_Rule) (q : List S_api_Rule) : List S_api_Rule := q.foldl (fun l r => if r ∈ l then l else l ++ [r]) l
theorem contains_eq (l : List S_api_Rule) (v : S_api_Rule) : slices_Contains_api_Rule_api_Rule l v = decide (v ∈ l) := by
  have : slices_Contains_api_Rule_api_Rule l v = l.any fun r => q_api_Rule v r := by
    unfold slices_Contains_api_Rule_api_Rule slices_Index_api_Rule_api_Rule
    exact iter_any (C := fun r => q_api_Rule v r) (fun ag q => rfl)
  rw [this, Bool.eq_iff_iff, List.any_eq_true, decide_eq_true_iff]
  exact ⟨fun ⟨x, hx, h⟩ => by rw [q_iff.1 h]; exact hx, fun h => ⟨v, h, q_iff.2 rfl⟩⟩
theorem merge_iter {R : Type} {q : List S_api_Rule} {E : List S_api_Rule → R} {F : (Int × List S_api_Rule → R) → Int × List S_api_Rule → R} {d : Int × List S_api_Rule → R}
    (hF : ∀ ag p, F ag p = if decide (p.1 < (q.length : Int)) = true then ag (p.1 + 1, if gt q p.1 ∈ p.2 then p.2 else p.2 ++ [gt q p.1]) else E p.2) :
    ∀ (fuel k : Nat) (l : List S_api_Rule), k ≤ q.length → q.length - k < fuel → iter fuel F d ((k : Int), l) = E (addAll l (q.drop k)) := by
  intro fuel
  induction fuel with
  | zero => intro k l _ h; omega
  | succ n ih =>
    intro k l hk h
    rw [iter, hF]
    by_cases hlt : k < q.length
    · rw [if_pos (decide_eq_true (show (k : Int) < (q.length : Int) by omega))]
      dsimp only
      rw [gt_at hlt, List.drop_eq_getElem_cons hlt]
      have := ih (k + 1) (if q[k] ∈ l then l else l ++ [q[k]]) hlt (by omega)
      rw [show ((k + 1 : Nat) : Int) = (k : Int) + 1 by omega] at this
      exact this
    · obtain rfl : k = q.length := by omega
      rw [if_neg (by simp), List.drop_length]; rfl
theorem Merge_eq (p q : S_api_Policy) : policy_Merge p q = if specieref46_Valid p = false then (z_api_Policy, 1) else if specieref46_Valid q = false then (z_api_Policy, 1) else if ((addAll p.Rules q.Rules).length : Int) > 20 then (z_api_Policy, 5) else ({ Rules := addAll p.Rules q.Rules }, 0) := by
  unfold policy_Merge
  simp only [letk, polValid_eq, slices_Clone_api_Rule_api_Rule]
  cases specieref46_Valid p
  · rfl
  cases specieref46_Valid q
  · rfl
  simp only [Bool.not_true, Bool.false_eq_true, if_false]
  have := merge_iter (q := q.Rules) (E := fun l => if decide ((l.length : Int) > 20) = true then (z_api_Policy, (5 : Int)) else (({ Rules := l } : S_api_Policy), 0)) (d := fun _ => default)
    (F := (fun (ag13 : (Int × List S_api_Rule) → (S_api_Policy × Int)) (p13 : Int × List S_api_Rule) => (if (decide (p13.1 < (q.Rules.length : Int))) then (if (!(slices_Contains_api_Rule_api_Rule (p13.2) (gt q.Rules p13.1))) then (ag13 ((p13.1 + 1), (p13.2 ++ ([(gt q.Rules p13.1)] : List S_api_Rule)))) else (ag13 ((p13.1 + 1), p13.2))) else (if (decide ((p13.2.length : Int) > 20)) then (z_api_Policy, 5) else (({ Rules := p13.2 } : S_api_Policy), 0)))))
    (fun ag r => by
      rw [contains_eq]
      by_cases h : gt q.Rules r.1 ∈ r.2 <;> simp [h]) (((q.Rules.length : Int) - 0).toNat + 1) 0 p.Rules (Nat.zero_le _) (by omega)
  refine Eq.trans this ?_
  rw [List.drop_zero]
  by_cases h : ((addAll p.Rules q.Rules).length : Int) > 20 <;> simp [h]
theorem inner_iter {R : Type} {l : List S_api_Rule} {v : S_api_Rule} {Y N : R} {F : (Bool × Int → R) → Bool × Int → R} {d : Bool × Int → R}
    (hF : ∀ ag p, F ag p = if decide (p.2 < (l.length : Int)) = true then (if p.1 = true then ag (true, p.2 + 1) else ag (q_api_Rule (gt l p.2) v, p.2 + 1)) else (if (!p.1) = true then N else Y)) :
    ∀ (fuel k : Nat) (b : Bool), k ≤ l.length → l.length - k < fuel → iter fuel F d (b, (k : Int)) = if b = true ∨ v ∈ l.drop k then Y else N := by
  intro fuel
  induction fuel with
  | zero => intro k b _ h; omega
  | succ n ih =>
    intro k b hk h
    rw [iter, hF]
    by_cases hlt : k < l.length
    · rw [if_pos (decide_eq_true (show (k : Int) < (l.length : Int) by omega))]
      dsimp only
      rw [gt_at hlt, List.drop_eq_getElem_cons hlt]
      have := fun b => ih (k + 1) b hlt (by omega)
      rw [show ((k + 1 : Nat) : Int) = (k : Int) + 1 by omega] at this
      rw [this, this]
      cases b
      · rw [if_neg (by decide)]
        congr 1
        rw [List.mem_cons, q_iff]
        simp only [Bool.false_eq_true, false_or]
        exact propext (or_congr_left eq_comm)
      · simp
    · obtain rfl : k = l.length := by omega
      rw [if_neg (by simp), List.drop_length]
      cases b <;> simp
theorem refMerge_eq (p q : S_api_Policy) : specieref46_Merge p q = { Rules := addAll p.Rules q.Rules } := by
  unfold specieref46_Merge
  have := merge_iter (q := q.Rules) (E := fun l => ({ Rules := l } : S_api_Policy)) (d := fun _ => default)
    (F := (fun (ag1 : (Int × List S_api_Rule) → S_api_Policy) (p1 : Int × List S_api_Rule) => (if (decide (p1.1 < (q.Rules.length : Int))) then (iter (((p1.2.length : Int) - 0).toNat + 1) (fun (ag3 : (Bool × Int) → S_api_Policy) (p3 : Bool × Int) => (if (decide (p3.2 < (p1.2.length : Int))) then (if p3.1 then (ag3 (true, (p3.2 + 1))) else (ag3 ((q_api_Rule (gt p1.2 p3.2) (gt q.Rules p1.1)), (p3.2 + 1)))) else (if (!p3.1) then (ag1 ((p1.1 + 1), (p1.2 ++ ([(gt q.Rules p1.1)] : List S_api_Rule)))) else (ag1 ((p1.1 + 1), p1.2))))) (fun _ => default) (false, 0)) else ({ Rules := p1.2 } : S_api_Policy))))
    (fun ag r => by
      split
      · have h := inner_iter (l := r.2) (v := gt q.Rules r.1) (Y := ag (r.1 + 1, r.2)) (N := ag (r.1 + 1, r.2 ++ [gt q.Rules r.1])) (d := fun _ => default) (F := fun ag3 p3 => (if (decide (p3.2 < (r.2.length : Int))) then (if p3.1 then (ag3 (true, (p3.2 + 1))) else (ag3 ((q_api_Rule (gt r.2 p3.2) (gt q.Rules r.1)), (p3.2 + 1)))) else (if (!p3.1) then (ag ((r.1 + 1), (r.2 ++ ([(gt q.Rules r.1)] : List S_api_Rule)))) else (ag ((r.1 + 1), r.2))))) (fun _ _ => rfl) (((r.2.length : Int) - 0).toNat + 1) 0 false (Nat.zero_le _) (by omega)
        refine Eq.trans h ?_
        rw [List.drop_zero]
        by_cases hm : gt q.Rules r.1 ∈ r.2 <;> simp [hm]
      · rfl) (((q.Rules.length : Int) - 0).toNat + 1) 0 p.Rules (Nat.zero_le _) (by omega)
  rw [List.nil_append]
  refine Eq.trans this ?_
  rw [List.drop_zero]
theorem same_self (p : S_api_Policy) : specielaw46_same p p = true := by
  unfold specielaw46_same slices_Equal_api_Rule_api_Rule
  simp only [letk]
  rw [if_neg (by simp)]
  exact iter_trueX (C := fun j => q_api_Rule (gt p.Rules j) (gt p.Rules j)) (n := (p.Rules.length : Int)) (X := true) (fun ag j => by rw [notF]) (fun j => q_iff.2 rfl) _ _ (by omega)
theorem specielaw46_PolicyMerges_true (p q : S_api_Policy) : specielaw46_PolicyMerges p q = true := by
  unfold specielaw46_PolicyMerges
  simp only [letk, awake_true]
  rw [if_neg (by decide)]
  split
  · rfl
  rw [Merge_eq, refMerge_eq]
  cases specieref46_Valid p
  · rfl
  cases specieref46_Valid q
  · rfl
  simp only [Bool.not_true, Bool.false_eq_true, if_false]
  by_cases h : ((addAll p.Rules q.Rules).length : Int) > 20
  · simp [h]; rfl
  · simp [h, same_self]
end Go.Proofs.YtbjbogfjiifcpaaDoor
