import Derived.Test.YtcbdmoihobdjaaaVO
namespace Go.Proofs.Ytcbdmoihobdjaaa
open Go.RowKit
theorem iter_find {C : Int → Bool} {n : Int} {F : (Int → Int) → Int → Int} (hF : ∀ ag p, F ag p = if p < n then (if C p = true then p else ag (p + 1)) else -1) {d : Int → Int} :
  ∀ (fuel : Nat) (i : Int), 0 ≤ i → (n - i).toNat < fuel → (iter fuel F d i = -1 ∧ ∀ j, i ≤ j → j < n → C j = false) ∨ (i ≤ iter fuel F d i ∧ iter fuel F d i < n ∧ C (iter fuel F d i) = true ∧ ∀ j, i ≤ j → j < iter fuel F d i → C j = false) := by
 intro fuel
 induction fuel with
 | zero => intro i _ h; omega
 | succ k ih =>
  intro i h0 h
  rw [iter, hF]
  by_cases hi : i < n
  ·rw [if_pos hi]
   by_cases hc : C i = true
   ·rw [if_pos hc]
    exact .inr ⟨Int.le_refl _, hi, hc, fun j h1 h2 => by omega⟩
   ·rw [if_neg hc]
    have hc' : C i = false := by simpa using hc
    rcases ih (i + 1) (by omega) (by omega) with ⟨h1, h2⟩ | ⟨h1, h2, h3, h4⟩
    ·refine .inl ⟨h1, fun j g1 g2 => ?_⟩
     by_cases e : j = i
     ·subst e; exact hc'
     ·exact h2 j (by omega) g2
    ·refine .inr ⟨by omega, h2, h3, fun j g1 g2 => ?_⟩
     by_cases e : j = i
     ·subst e; exact hc'
     ·exact h4 j (by omega) g2
  ·rw [if_neg hi]
   exact .inl ⟨rfl, fun j h1 h2 => by omega⟩
theorem gt_mem {α : Type} [Inhabited α] {l : List α} {i : Int} (h : i.toNat < l.length) : gt l i ∈ l := by
 simp [gt, List.getD_eq_getElem?_getD, h]
theorem iter_map {α β R : Type} [Inhabited α] {f : α → β} {E : Int × List β → R} {l : List α} {F : (Int × List β → R) → Int × List β → R} {d : Int × List β → R}
  (hF : ∀ ag p, F ag p = if decide (p.1 < (l.length : Int)) = true then ag (p.1 + 1, p.2 ++ [f (gt l p.1)]) else E p) :
  ∀ (fuel k : Nat) (a : List β), k ≤ l.length → l.length - k < fuel → iter fuel F d ((k : Int), a) = E ((l.length : Int), a ++ (l.drop k).map f) := by
 intro fuel
 induction fuel with
 | zero => intro k a _ h; omega
 | succ n ih =>
  intro k a hl h
  rw [iter, hF]
  by_cases hk : k < l.length
  ·rw [if_pos (decide_eq_true (show (k : Int) < _ by omega))]
   have := ih (k + 1) (a ++ [f (gt l k)]) (by omega) (by omega)
   rw [show ((k + 1 : Nat) : Int) = (k : Int) + 1 by omega] at this
   have hg : gt l (k : Int) = l[k] := by simp [gt, List.getD_eq_getElem?_getD, hk]
   show iter n F d ((k : Int) + 1, a ++ [f (gt l (k : Int))]) = _
   rw [this, List.drop_eq_getElem_cons hk, hg]
   simp only [List.map_cons, List.append_assoc, List.singleton_append]
  ·obtain rfl : k = l.length := by omega
   rw [if_neg (by simp), List.drop_eq_nil_of_le (by omega)]
   simp
theorem iter_map0 {α β R : Type} [Inhabited α] (f : α → β) {E : Int × List β → R} {l : List α} {F : (Int × List β → R) → Int × List β → R} {d : Int × List β → R}
  (hF : ∀ ag p, F ag p = if decide (p.1 < (l.length : Int)) = true then ag (p.1 + 1, p.2 ++ [f (gt l p.1)]) else E p) :
  iter (((l.length : Int) - 0).toNat + 1) F d (0, []) = E ((l.length : Int), l.map f) := by
 have := iter_map (d := d) hF (((l.length : Int) - 0).toNat + 1) 0 [] (by omega) (by omega)
 simpa using this
theorem iter_any {α : Type} [Inhabited α] {l : List α} {C : α → Bool} {F : (Int → Int) → Int → Int} {d : Int → Int}
  (hF : ∀ ag p, F ag p = if decide (p < (l.length : Int)) = true then (if C (gt l p) = true then p else ag (p + 1)) else -1) :
  decide (iter (((l.length : Int) - 0).toNat + 1) F d 0 ≥ 0) = l.any C := by
 have hg : ∀ (j : Int), 0 ≤ j → j < l.length → gt l j ∈ l := fun j h0 h1 => gt_mem (by omega)
 rcases iter_find (C := fun p => C (gt l p)) (n := (l.length : Int)) (F := F) (d := d) (fun ag p => by rw [hF]; by_cases hp : p < (l.length : Int) <;> simp [hp]) (((l.length : Int) - 0).toNat + 1) 0 (by omega) (by omega) with ⟨h1, h2⟩ | ⟨h1, h2, h3, _⟩
 ·rw [h1]
  symm
  rw [show decide ((-1 : Int) ≥ 0) = false by decide, List.any_eq_false]
  intro x hx
  obtain ⟨i, hi, rfl⟩ := List.mem_iff_getElem.1 hx
  have := h2 (i : Int) (by omega) (by omega)
  simpa [gt, List.getD_eq_getElem?_getD, hi] using this
 ·rw [decide_eq_true h1]
  symm
  exact List.any_eq_true.2 ⟨_, hg _ h1 h2, h3⟩
theorem iter_allX {C : Int → Bool} {n : Int} {X : Bool} {F : (Int → Bool) → Int → Bool} (hF : ∀ ag p, F ag p = if decide (p < n) = true then (if C p = true then ag (p + 1) else false) else X) {d : Int → Bool} :
  ∀ (fuel : Nat) (i : Int), (n - i).toNat < fuel → (iter fuel F d i = true ↔ (∀ j, i ≤ j → j < n → C j = true) ∧ X = true) := by
 intro fuel
 induction fuel with
 | zero => intro i h; omega
 | succ k ih =>
  intro i h
  rw [iter, hF]
  by_cases hi : i < n
  ·rw [if_pos (decide_eq_true hi)]
   by_cases hc : C i = true
   ·rw [if_pos hc, ih (i + 1) (by omega)]
    refine ⟨fun H => ⟨fun j h1 h2 => ?_, H.2⟩, fun H => ⟨fun j h1 h2 => H.1 j (by omega) h2, H.2⟩⟩
    by_cases e : j = i
    ·subst e; exact hc
    ·exact H.1 j (by omega) h2
   ·rw [if_neg hc]
    exact ⟨fun H => Bool.noConfusion H, fun H => absurd (H.1 i (Int.le_refl _) hi) hc⟩
  ·rw [if_neg (by simpa using hi)]
   exact ⟨fun H => ⟨fun j h1 h2 => by omega, H⟩, fun H => H.2⟩
theorem iter_allL {α : Type} [Inhabited α] {l : List α} {c : α → Bool} {X : Bool} {F : (Int → Bool) → Int → Bool} {d : Int → Bool}
  (hF : ∀ ag p, F ag p = if decide (p < (l.length : Int)) = true then (if c (gt l p) = true then ag (p + 1) else false) else X) :
  iter (((l.length : Int) - 0).toNat + 1) F d 0 = (l.all c && X) := by
 rw [Bool.eq_iff_iff, iter_allX (C := fun p => c (gt l p)) hF _ _ (by omega), Bool.and_eq_true, List.all_eq_true]
 refine and_congr_left fun _ => ⟨fun h x hx => ?_, fun h j h0 h1 => h _ (gt_mem (by omega))⟩
 obtain ⟨i, hi, rfl⟩ := List.mem_iff_getElem.1 hx
 have := h (i : Int) (by omega) (by omega)
 simpa [gt, List.getD_eq_getElem?_getD, hi] using this
def foldE {α σ R : Type} (st : α → σ → σ ⊕ R) (E : σ → R) : List α → σ → R
 | [], s => E s
 | a :: l, s => match st a s with
  | .inl s' => foldE st E l s'
  | .inr r => r
theorem iter_run_aux {α σ R : Type} [Inhabited α] {l : List α} {st : α → σ → σ ⊕ R} {E : σ → R} {F : (Int × σ → R) → Int × σ → R} {d : Int × σ → R}
  (hF : ∀ ag i s, F ag (i, s) = if i < (l.length : Int) then (match st (gt l i) s with | .inl s' => ag (i + 1, s') | .inr r => r) else E s) :
  ∀ (fuel k : Nat) (s : σ), k ≤ l.length → l.length - k < fuel → iter fuel F d ((k : Int), s) = foldE st E (l.drop k) s := by
 intro fuel
 induction fuel with
 | zero => intro k s _ h; omega
 | succ n ih =>
  intro k s hl h
  rw [iter, hF]
  by_cases hk : k < l.length
  ·rw [if_pos (by omega), List.drop_eq_getElem_cons hk]
   have hg : gt l (k : Int) = l[k] := by simp [gt, List.getD_eq_getElem?_getD, hk]
   rw [hg]
   simp only [foldE]
   cases st l[k] s with
   | inl s' =>
    have := ih (k + 1) s' (by omega) (by omega)
    rw [show ((k + 1 : Nat) : Int) = (k : Int) + 1 by omega] at this
    exact this
   | inr r => rfl
  ·obtain rfl : k = l.length := by omega
   rw [if_neg (by simp), List.drop_eq_nil_of_le (by omega)]; rfl
theorem iter_run {α σ R : Type} [Inhabited α] {l : List α} (st : α → σ → σ ⊕ R) (E : σ → R) {F : (Int × σ → R) → Int × σ → R} {d : Int × σ → R} {s : σ}
  (hF : ∀ ag i s, F ag (i, s) = if i < (l.length : Int) then (match st (gt l i) s with | .inl s' => ag (i + 1, s') | .inr r => r) else E s) :
  iter (((l.length : Int) - 0).toNat + 1) F d (0, s) = foldE st E l s := by
 have := iter_run_aux (d := d) hF (((l.length : Int) - 0).toNat + 1) 0 s (by omega) (by omega)
 simpa using this
theorem iter_runR_aux {α σ R : Type} [Inhabited α] {l : List α} {st : α → σ → σ ⊕ R} {E : σ → R} {F : (σ × Int → R) → σ × Int → R} {d : σ × Int → R}
  (hF : ∀ ag i s, F ag (s, i) = if i < (l.length : Int) then (match st (gt l i) s with | .inl s' => ag (s', i + 1) | .inr r => r) else E s) :
  ∀ (fuel k : Nat) (s : σ), k ≤ l.length → l.length - k < fuel → iter fuel F d (s, (k : Int)) = foldE st E (l.drop k) s := by
 intro fuel
 induction fuel with
 | zero => intro k s _ h; omega
 | succ n ih =>
  intro k s hl h
  rw [iter, hF]
  by_cases hk : k < l.length
  ·rw [if_pos (by omega), List.drop_eq_getElem_cons hk]
   have hg : gt l (k : Int) = l[k] := by simp [gt, List.getD_eq_getElem?_getD, hk]
   rw [hg]
   simp only [foldE]
   cases st l[k] s with
   | inl s' =>
    have := ih (k + 1) s' (by omega) (by omega)
    rw [show ((k + 1 : Nat) : Int) = (k : Int) + 1 by omega] at this
    exact this
   | inr r => rfl
  ·obtain rfl : k = l.length := by omega
   rw [if_neg (by simp), List.drop_eq_nil_of_le (by omega)]; rfl
theorem iter_runR {α σ R : Type} [Inhabited α] {l : List α} (st : α → σ → σ ⊕ R) (E : σ → R) {F : (σ × Int → R) → σ × Int → R} {d : σ × Int → R} {s : σ}
  (hF : ∀ ag i s, F ag (s, i) = if i < (l.length : Int) then (match st (gt l i) s with | .inl s' => ag (s', i + 1) | .inr r => r) else E s) :
  iter (((l.length : Int) - 0).toNat + 1) F d (s, 0) = foldE st E l s := by
 have := iter_runR_aux (d := d) hF (((l.length : Int) - 0).toNat + 1) 0 s (by omega) (by omega)
 simpa using this
theorem foldE_l {α σ R : Type} {g : α → σ → σ} {E : σ → R} : ∀ {l : List α} {s : σ}, foldE (fun a s => .inl (g a s)) E l s = E (l.foldl (fun s a => g a s) s)
 | [], _ => rfl
 | a :: l, s => by simp only [foldE, List.foldl_cons]; exact foldE_l
theorem arrF_full {α : Type} [Inhabited α] : ∀ {k : Nat} {i : Nat} {l : List α}, l.length = i + k → arrF l k i = l.drop i
 | 0, i, l, h => by simp [arrF, h]
 | k + 1, i, l, h => by
  have hi : i < l.length := by omega
  rw [List.drop_eq_getElem_cons hi]
  simp only [arrF]
  have := arrF_full (k := k) (i := i + 1) (l := l) (by omega)
  rw [show ((i + 1 : Nat) : Int) = (i : Int) + 1 by omega] at this
  rw [this]
  simp [gt, List.getD_eq_getElem?_getD, hi]
theorem arrN_full {α : Type} [Inhabited α] {l : List α} {n : Nat} (h : l.length = n) : arrN n l = l := by
 have := arrF_full (k := n) (i := 0) (l := l) (by omega)
 simpa [arrN] using this
theorem spl_arrN {f : Int → V} {n : Nat} {A l : List Int} (h : A.length = n) : spl (A.map f) 0 (min n l.length) (l.map f) = (arrN n (spl A 0 (min n l.length) l)).map f := by
 rw [spl_map, arrN_full (by simp only [spl, List.length_append, List.length_take, List.length_drop]; omega)]
theorem arrF_get {α : Type} [Inhabited α] {l : List α} : ∀ {k : Nat} {i j : Nat}, j < k → (arrF l k i).getD j default = gt l ((i + j : Nat) : Int)
 | k + 1, i, 0, _ => by simp [arrF]
 | k + 1, i, j + 1, h => by
  have := arrF_get (l := l) (k := k) (i := i + 1) (j := j) (by omega)
  simp only [arrF, List.getD_cons_succ]
  rw [show ((i : Int) + 1) = ((i + 1 : Nat) : Int) from rfl, this]
  congr 1; omega
theorem arr_get {α : Type} [Inhabited α] {f : α → V} {n : Nat} {l : List α} {i : Int} (h : 0 ≤ i ∧ i.toNat < n) : ((arrN n l).map f).getD (0 + i.toNat * 1) .un = f (gt l i) := by
 have h1 : (arrN n l).length = n := arrN_len
 have h2 := arrF_get (l := l) (k := n) (i := 0) (j := i.toNat) h.2
 have h3 : gt (arrN n l) i = gt l i := by
  rw [show gt (arrN n l) i = (arrF l n ((0 : Nat) : Int)).getD i.toNat default from rfl, h2]
  congr 1; omega
 rw [← h3]
 simp [gt, List.getD_eq_getElem?_getD, h1, h.2]
theorem arr_put {α : Type} [Inhabited α] {f : α → V} {n : Nat} {l : List α} {i : Int} {v : α} (hl : l.length = n) (h : 0 ≤ i ∧ i.toNat < n) : (l.map f).take (0 + i.toNat * 1) ++ [f v] ++ (l.map f).drop (0 + i.toNat * 1 + 1) = (arrN n (st l i v)).map f := by
 rw [arrN_full (by rw [st_len]; exact hl)]
 unfold st
 rw [List.set_eq_take_append_cons_drop, if_pos (by omega)]
 simp [List.map_take, List.map_drop]
def remA {β : Type} (i : Nat) : List (Nat × β) → List (Nat × β)
 | [] => []
 | (k, b) :: l => if k = i then remA i l else (k, b) :: remA i l
attribute [go_sem] remA
theorem getA_remA {β : Type} {i t : Nat} {b : β} : ∀ {l : List (Nat × β)}, getA (remA i l) t = some b → t ≠ i ∧ getA l t = some b
 | [], h => by cases h
 | (k, x) :: l, h => by
  simp only [remA] at h
  split at h
  ·rename_i e
   obtain ⟨h1, h2⟩ := getA_remA h
   exact ⟨h1, by simp only [getA]; rw [if_neg (by omega)]; exact h2⟩
  ·rename_i e
   simp only [getA] at h ⊢
   split at h
   ·rename_i e2; exact ⟨by omega, by rw [if_pos e2]; exact h⟩
   ·rename_i e2
    obtain ⟨h1, h2⟩ := getA_remA h
    exact ⟨h1, by rw [if_neg e2]; exact h2⟩
theorem weak_ren {E : Env} {S : St} (t i j : Nat) {T n : Nat} {g : Bool} {z : Option Bool} {l : List V} (h : getA S.F t = some (.own j)) (h2 : getA S.H j = some (.own T n g z l)) (hi : i < S.nx) (hij : i ≠ j) :
  Weak E S ⟨(t, .own i) :: purgeF i S.F, (i, .own T n g z l) :: remA j (purgeH i S.H), S.nx⟩ := by
 intro c0 c ρ F hs
 obtain ⟨v, hv, hown, hge, hone, a, cap, es, hz⟩ := hs.1.heap _ _ h2
 have hro : ∀ k, k ≠ i → roSet ρ i v k = ρ k := fun k hk => roSet_ne hk
 have hbi : blkOf (roSet ρ i v) i = blkOf ρ j := by unfold blkOf; rw [roSet_same, hv]
 have hbk : ∀ k, k ≠ i → blkOf (roSet ρ i v) k = blkOf ρ k := fun k hk => by unfold blkOf; rw [hro k hk]
 have hold : ∀ k b, i ≠ k → getA (remA j (purgeH i S.H)) k = some b → k ≠ j ∧ ∃ b0, getA S.H k = some b0 ∧ b = purgeB i b0 := by
  intro k b hk hb
  obtain ⟨h3, h4⟩ := getA_remA hb
  rw [getA_purgeH] at h4
  cases h5 : getA S.H k with
  | none => rw [h5] at h4; cases h4
  | some b0 => rw [h5] at h4; cases h4; exact ⟨h3, b0, rfl, rfl⟩
 refine ⟨c, roSet ρ i v, rfl, ⟨hs.1.since, hs.1.gl, fun t' x ht => ?_, ?_, ?_⟩, fun k hk => ?_⟩
 ·simp only [getA] at ht
  split at ht
  ·rename_i e; subst e; cases ht
   have h3 := hs.1.slot _ _ h
   simp only [rd] at h3 ⊢
   rw [hv] at h3
   exact ⟨by rw [roSet_same]; exact h3.1, h3.2⟩
  ·rw [getA_purgeF] at ht
   cases h5 : getA S.F t' with
   | none => rw [h5] at ht; cases ht
   | some y => rw [h5] at ht; cases ht; exact purge_rd hro (hs.1.slot _ _ h5)
 ·intro k b hb
  simp only [getA] at hb
  split at hb
  ·rename_i e; subst e; cases hb
   exact ⟨v, roSet_same, hown, hge, hone, a, cap, es, hz⟩
  ·rename_i hk
   obtain ⟨_, b0, h6, rfl⟩ := hold k b hk hb
   exact purgeB_ok hro (Ne.symm hk) (hs.1.heap _ _ h6)
 ·intro x y bx bb k hxy hx hy hpx hpy hbx
  simp only [getA] at hx hy
  split at hx
  ·rename_i e; subst e
   rw [if_neg hxy] at hy
   obtain ⟨hyj, b0, h6, rfl⟩ := hold y bb hxy hy
   rw [privB_purge] at hpy
   rw [hbk y (Ne.symm hxy)]
   rw [hbi] at hbx
   exact hs.1.sep j y _ b0 k (Ne.symm hyj) h2 h6 rfl hpy hbx
  ·rename_i hix
   obtain ⟨hxj, b0, h6, rfl⟩ := hold x bx hix hx
   rw [privB_purge] at hpx
   rw [hbk x (Ne.symm hix)] at hbx
   split at hy
   ·rename_i e; subst e
    rw [hbi]
    exact hs.1.sep x j b0 _ k hxj h6 h2 hpx rfl hbx
   ·rename_i hiy
    obtain ⟨hyj, b1, h7, rfl⟩ := hold y bb hiy hy
    rw [privB_purge] at hpy
    rw [hbk y (Ne.symm hiy)]
    exact hs.1.sep x y b0 b1 k hxy h6 h7 hpx hpy hbx
 ·have hk' : S.nx ≤ k := hk
  rw [hro k (by omega)]; exact hs.2 k hk
theorem notif {b x : Bool} : (if (!b) = true then false else x) = (if b = true then x else false) := by cases b <;> rfl
end Go.Proofs.Ytcbdmoihobdjaaa
