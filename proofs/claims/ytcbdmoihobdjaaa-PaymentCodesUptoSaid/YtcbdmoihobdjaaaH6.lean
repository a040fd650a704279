import Derived.Test.YtcbdmoihobdjaaaH5
namespace Go.Proofs.Ytcbdmoihobdjaaa
open Go.RowKit
theorem hash_loop {B : List Int} (hB : B.length = 32) {F : (Int × List Int → List Int × Bool) → Int × List Int → List Int × Bool} {d : Int × List Int → List Int × Bool}
  (hF : ∀ ag p, F ag p = if decide (p.1 < 32) = true then ag (p.1 + 1, arrN 32 (st (arrN 32 p.2) p.1 (gt B p.1))) else (p.2, true)) :
  ∀ (m fuel k : Nat), k + m = 32 → m < fuel → ∀ a : List Int, a.length = 32 → a.take k = B.take k → iter fuel F d ((k : Int), a) = (B, true)
 | 0, fuel, k, hk, hf, a, ha, he => by
  obtain ⟨f, rfl⟩ : ∃ f, fuel = f + 1 := ⟨fuel - 1, by omega⟩
  have : ¬ (k : Int) < 32 := by omega
  rw [iter, hF]
  rw [List.take_of_length_le (by omega), List.take_of_length_le (by omega)] at he
  simp [this, he]
 | m + 1, fuel, k, hk, hf, a, ha, he => by
  obtain ⟨f, rfl⟩ : ∃ f, fuel = f + 1 := ⟨fuel - 1, by omega⟩
  have : (k : Int) < 32 := by omega
  rw [iter, hF, if_pos (by simpa using this)]
  have e : arrN 32 (st (arrN 32 a) (k : Int) (gt B (k : Int))) = a.set k (gt B (k : Int)) := by
   rw [arrN_full ha, arrN_full (by rw [st_len]; exact ha)]; rfl
  simp only [e]
  rw [show ((k : Int) + 1) = ((k + 1 : Nat) : Int) from rfl]
  refine hash_loop hB hF m f (k + 1) (by omega) (by omega) _ (by simp [ha]) ?_
  have hkB : k < B.length := by omega
  have hka : k < a.length := by omega
  rw [List.take_succ_eq_append_getElem hkB, List.take_succ_eq_append_getElem (by simp [hka])]
  rw [List.take_set_of_le (Nat.le_refl k), he]
  simp [gt, List.getD_eq_getElem?_getD, hkB]
theorem rHash_eq (i : S_api_Item) : specieref31_Hash i = spend_hash i := by
 rw [spend_hash_eq]
 unfold specieref31_Hash
 by_cases h1 : i.Kind = 2
 ·by_cases h2 : i.B.length = 32
  ·have h3 : ¬ ((i.B.length : Int) != 32) = true := by simp [h2]
   rw [if_neg (by simp [h1]), if_neg h3]
   have := hash_loop (d := fun _ => default) h2 (fun ag p => rfl) 32 33 0 rfl (by omega) [0, 0, 0, 0, 0, 0, 0, 0, 0, 0, 0, 0, 0, 0, 0, 0, 0, 0, 0, 0, 0, 0, 0, 0, 0, 0, 0, 0, 0, 0, 0, 0] rfl (by simp)
   rw [show (((32 : Int) - 0).toNat + 1) = 33 from rfl]
   refine Eq.trans this ?_
   simp [h1, h2, arrN_full h2]
  ·have : ¬ (i.B.length : Int) = 32 := by omega
   simp [h1, h2, this]
 ·simp [h1]
theorem rNumbers_eq (i : S_api_Item) (n : Int) : specieref31_Numbers i n = if i.Kind ≠ 3 ∨ (i.L.length : Int) ≠ n then ([], false) else foldE (fun x o => if x.Kind ≠ 1 then .inr ([], false) else .inl (o ++ [x.N])) (fun o => (o, true)) i.L [] := by
 unfold specieref31_Numbers
 by_cases h1 : i.Kind = 3
 ·by_cases h2 : (i.L.length : Int) = n
  ·subst h2
   have := iter_run (l := i.L) (d := fun _ => default) (fun x o => if x.Kind ≠ 1 then .inr (([] : List Int), false) else .inl (o ++ [x.N])) (fun o => (o, true)) (F := fun (ag3 : (Int × List Int) → ((List Int) × Bool)) (p3 : Int × List Int) => (if (decide (p3.1 < (i.L.length : Int))) then (if ((gt i.L p3.1).Kind != 1) then (([] : List Int), false) else (ag3 ((p3.1 + 1), (p3.2 ++ ([(gt i.L p3.1).N] : List Int))))) else (p3.2, true))) (s := []) (fun ag j s => by
    simp only [decide_eq_true_eq, bne_iff_ne, ne_eq]
    by_cases hj : j < (i.L.length : Int)
    ·by_cases hk : (gt i.L j).Kind = 1 <;> simp [hj, hk]
    ·simp [hj])
   simp only [h1, bne_self_eq_false, Bool.false_eq_true, if_false]
   rw [this]; simp
  ·simp [h1, h2]
 ·simp [h1]
theorem rNum_fold : ∀ {l : List S_api_Item} {o : List Int}, (foldE (fun x o => if x.Kind ≠ 1 then .inr (([] : List Int), false) else .inl (o ++ [x.N])) (fun o => (o, true)) l o).2 = false ∨ (foldE (fun x o => if x.Kind ≠ 1 then .inr (([] : List Int), false) else .inl (o ++ [x.N])) (fun o => (o, true)) l o).1.length = o.length + l.length
 | [], o => .inr (by simp [foldE])
 | x :: l, o => by
  by_cases h : x.Kind = 1
  ·have := rNum_fold (l := l) (o := o ++ [x.N])
   simp only [foldE, h, ne_eq, not_true_eq_false, if_false]
   rcases this with h1 | h1
   ·exact .inl h1
   ·exact .inr (by rw [h1]; simp; omega)
  ·exact .inl (by simp [foldE, h])
theorem rNum_len {i : S_api_Item} {n : Int} {x : List Int × Bool} (h : x = specieref31_Numbers i n) : x.2 = false ∨ (x.1.length : Int) = n := by
 rw [rNumbers_eq] at h
 split at h
 ·rw [h]; exact .inl rfl
 ·rename_i hc
  have h2 : (i.L.length : Int) = n := by
   by_cases h3 : (i.L.length : Int) = n
   ·exact h3
   ·exact absurd (.inr h3) hc
  rcases rNum_fold (l := i.L) (o := []) with h1 | h1
  ·rw [h]; exact .inl h1
  ·rw [h]; right; rw [h1]; simp; omega
theorem wf_sub : ∀ {l : List S_api_Item}, wfL (l.map e_api_Item) → ∀ j : Int, (gt l j).L.length ≤ 1073741824 := by
 intro l h j
 have key : ∀ x ∈ l, x.L.length ≤ 1073741824 := by
  induction l with
  | nil => intro x hx; cases hx
  | cons a l ih =>
   intro x hx
   simp only [List.map_cons, wfL] at h
   rcases List.mem_cons.1 hx with rfl | hx
   ·have h1 := h.1
    rw [e_api_Item] at h1
    simp only [wfV, wfL, List.length_map, LEN_eq] at h1
    omega
   ·exact ih h.2 x hx
 by_cases hj : j.toNat < l.length
 ·exact key _ (gt_mem hj)
 ·have h0 : l[j.toNat]? = none := List.getElem?_eq_none (by omega)
  have : gt l j = default := by simp [gt, List.getD_eq_getElem?_getD, h0]
  rw [this]
  decide
instance rNum_cf {i : S_api_Item} {n : Int} : CF (specieref31_Numbers i n) (fun x => x.2 = true → (x.1.length : Int) = n) := ⟨fun h => (rNum_len rfl).resolve_left (by rw [h]; decide)⟩
end Go.Proofs.Ytcbdmoihobdjaaa
