import Derived.Test.YtcbdmoihobdjaaaVW
namespace Go.Proofs.Ytcbdmoihobdjaaa
open Go.RowKit
def mtZ : Option Bool → Option Bool → Prop
 | _, none => True
 | some a, some b => a = b
 | none, some _ => False
def leV (a b : V) : Prop := ∀ ρ c v, rd ρ c a v → rd ρ c b v
mutual
def mt : V → V → Prop
 | .int k n, .int k' n' => k = k' ∧ n = n'
 | .bool a, .bool b => a = b
 | .str a, .str b => a = b
 | .agg l, .agg m => mtL l m
 | .sl z n g l, .sl z' n' g' m => mtZ z z' ∧ ((l = [] ∧ m = []) ∨ (n = n' ∧ g = g' ∧ mtL l m))
 | .pp n g d, .pp n' g' d' => n = n' ∧ g = g' ∧ mt d d'
 | .own i, .own j => i = j
 | .ptr i o, .ptr j p => i = j ∧ o = p
 | .optr i m k o, .optr i' m' k' o' => i = i' ∧ m = m' ∧ k = k' ∧ o = o'
 | .osub i m k o, .osub i' m' k' o' => i = i' ∧ m = m' ∧ k = k' ∧ o = o'
 | .tup l, .tup m => mtL l m
 | .fn f l, .fn f' m => f = f' ∧ mtL l m
 | a, .opq p => leV a (.opq p)
 | _, .un => True
 | _, _ => False
def mtL : List V → List V → Prop
 | [], [] => True
 | a :: l, b :: m => mt a b ∧ mtL l m
 | _, _ => False
end
theorem mtZ_ok {z z' : Option Bool} {a : Option Addr} {cap : Nat} (h : mtZ z z') (k : zOk z a cap) : zOk z' a cap := by
 cases z' with
 | none => exact zOk_none k
 | some b =>
  cases z with
  | none => exact h.elim
  | some b' =>
   have e : b' = b := h
   subst e; exact k
theorem mtL_len : ∀ {l m : List V}, mtL l m → l.length = m.length
 | [], [], _ => rfl
 | a :: l, b :: m, h => by simp only [mtL] at h; simp [mtL_len h.2]
 | [], _ :: _, h => by simp [mtL] at h
 | _ :: _, [], h => by simp [mtL] at h
mutual
theorem mt_rd {ρ : Ro} {c : Cx} : ∀ {a b : V} {v : Value}, mt a b → rd ρ c a v → rd ρ c b v
 | .int k n, b, v, h, hr => by
  cases b <;> simp only [mt] at h <;> try exact h.elim
  ·obtain ⟨rfl, rfl⟩ := h; exact hr
  ·exact h _ _ _ hr
  ·trivial
 | .bool a, b, v, h, hr => by
  cases b <;> simp only [mt] at h <;> try exact h.elim
  ·subst h; exact hr
  ·exact h _ _ _ hr
  ·trivial
 | .str a, b, v, h, hr => by
  cases b <;> simp only [mt] at h <;> try exact h.elim
  ·subst h; exact hr
  ·exact h _ _ _ hr
  ·trivial
 | .agg l, b, v, h, hr => by
  cases b <;> simp only [mt] at h <;> try exact h.elim
  ·simp only [rd] at hr ⊢
   obtain ⟨cs, e, hr⟩ := hr
   exact ⟨cs, e, mt_rdC h hr⟩
  ·exact h _ _ _ hr
  ·trivial
 | .sl z n g l, b, v, h, hr => by
  cases b <;> simp only [mt] at h <;> try exact h.elim
  ·rename_i z' n' g' m
   obtain ⟨hz, h⟩ := h
   simp only [rd] at hr ⊢
   obtain ⟨a, cap, e, hl, hz', hr⟩ := hr
   rcases h with ⟨rfl, rfl⟩ | ⟨rfl, rfl, hm⟩
   ·exact ⟨a, cap, e, hl, mtZ_ok hz hz', .inl rfl⟩
   ·have hlen := mtL_len hm
    rw [hlen] at hl e
    refine ⟨a, cap, e, hl, mtZ_ok hz hz', ?_⟩
    rcases hr with h | ⟨b, o, cs, e, h1, h2, h3, h4⟩
    ·subst h
     exact .inl (List.eq_nil_of_length_eq_zero hlen.symm)
    ·exact .inr ⟨b, o, cs, e, h1, h2, h3, mt_rdE hm h4⟩
  ·exact h _ _ _ hr
  ·trivial
 | .pp n g d, b, v, h, hr => by
  cases b <;> simp only [mt] at h <;> try exact h.elim
  ·obtain ⟨rfl, rfl, hm⟩ := h
   simp only [rd] at hr ⊢
   obtain ⟨b, o, cs, e, h1, h2, h3, h4, h5⟩ := hr
   exact ⟨b, o, cs, e, h1, h2, h3, h4, mt_rd hm h5⟩
  ·exact h _ _ _ hr
  ·trivial
 | .own i, b, v, h, hr => by
  cases b <;> simp only [mt] at h <;> try exact h.elim
  ·subst h; exact hr
  ·exact h _ _ _ hr
  ·trivial
 | .ptr i o, b, v, h, hr => by
  cases b <;> simp only [mt] at h <;> try exact h.elim
  ·obtain ⟨rfl, rfl⟩ := h; exact hr
  ·exact h _ _ _ hr
  ·trivial
 | .optr i m k o, b, v, h, hr => by
  cases b <;> simp only [mt] at h <;> try exact h.elim
  ·obtain ⟨rfl, rfl, rfl, rfl⟩ := h; exact hr
  ·exact h _ _ _ hr
  ·trivial
 | .osub i m k o, b, v, h, hr => by
  cases b <;> simp only [mt] at h <;> try exact h.elim
  ·obtain ⟨rfl, rfl, rfl, rfl⟩ := h; exact hr
  ·exact h _ _ _ hr
  ·trivial
 | .tup l, b, v, h, hr => by
  cases b <;> simp only [mt] at h <;> try exact h.elim
  ·simp only [rd] at hr ⊢
   obtain ⟨cs, e, hr⟩ := hr
   exact ⟨cs, e, mt_rdT h hr⟩
  ·exact h _ _ _ hr
  ·trivial
 | .fn f l, b, v, h, hr => by
  cases b <;> simp only [mt] at h <;> try exact h.elim
  ·obtain ⟨rfl, h⟩ := h
   simp only [rd] at hr ⊢
   obtain ⟨cs, e, hr⟩ := hr
   exact ⟨cs, e, mt_rdT h hr⟩
  ·exact h _ _ _ hr
  ·trivial
 | .opq p, b, v, h, hr => by
  cases b <;> simp only [mt] at h <;> try exact h.elim
  ·exact h _ _ _ hr
  ·trivial
 | .un, b, v, h, hr => by
  cases b <;> simp only [mt] at h <;> try exact h.elim
  ·exact h _ _ _ hr
  ·trivial
theorem mt_rdC {ρ : Ro} {c : Cx} : ∀ {l m : List V} {cs : List Value}, mtL l m → rdC ρ c l cs → rdC ρ c m cs
 | [], [], _, _, h => h
 | a :: l, b :: m, cs, hm, h => by
  simp only [rdC, mtL] at h hm ⊢
  obtain ⟨u, c2, e, h1, h2, h3⟩ := h
  exact ⟨u, c2, e, h1, mt_rd hm.1 h2, mt_rdC hm.2 h3⟩
 | [], _ :: _, _, hm, _ => by simp [mtL] at hm
 | _ :: _, [], _, hm, _ => by simp [mtL] at hm
theorem mt_rdT {ρ : Ro} {c : Cx} : ∀ {l m : List V} {cs : List Value}, mtL l m → rdT ρ c l cs → rdT ρ c m cs
 | [], [], _, _, h => h
 | a :: l, b :: m, cs, hm, h => by
  simp only [rdT, mtL] at h hm ⊢
  obtain ⟨u, c2, e, h2, h3⟩ := h
  exact ⟨u, c2, e, mt_rd hm.1 h2, mt_rdT hm.2 h3⟩
 | [], _ :: _, _, hm, _ => by simp [mtL] at hm
 | _ :: _, [], _, hm, _ => by simp [mtL] at hm
theorem mt_rdE {c : Cx} {n : Nat} {g : Bool} : ∀ {l m : List V} {cs : List Value}, mtL l m → rdE c n g l cs → rdE c n g m cs
 | [], [], _, _, h => h
 | a :: l, b :: m, cs, hm, h => by
  simp only [rdE, mtL] at h hm ⊢
  obtain ⟨c1, c2, e, ⟨h1, h2⟩, h3⟩ := h
  exact ⟨c1, c2, e, ⟨h1, mt_rd hm.1 h2⟩, mt_rdE hm.2 h3⟩
 | [], _ :: _, _, hm, _ => by simp [mtL] at hm
 | _ :: _, [], _, hm, _ => by simp [mtL] at hm
end
mutual
theorem mt_refl : ∀ (a : V), mt a a
 | .int _ _ => ⟨rfl, rfl⟩
 | .bool _ => rfl
 | .str _ => rfl
 | .agg l => by simp only [mt]; exact mtL_refl l
 | .sl z n g l => by
  simp only [mt]
  exact ⟨by rcases z with _ | _ <;> simp [mtZ], .inr ⟨trivial, trivial, mtL_refl l⟩⟩
 | .pp n g d => by simp only [mt]; exact ⟨trivial, trivial, mt_refl d⟩
 | .own _ => rfl
 | .ptr _ _ => ⟨rfl, rfl⟩
 | .optr _ _ _ _ => ⟨rfl, rfl, rfl, rfl⟩
 | .osub _ _ _ _ => ⟨rfl, rfl, rfl, rfl⟩
 | .tup l => by simp only [mt]; exact mtL_refl l
 | .fn f l => by simp only [mt]; exact ⟨trivial, mtL_refl l⟩
 | .opq p => by simp only [mt]; exact fun _ _ _ h => h
 | .un => trivial
theorem mtL_refl : ∀ (l : List V), mtL l l
 | [] => trivial
 | a :: l => by simp only [mtL]; exact ⟨mt_refl a, mtL_refl l⟩
end
theorem mt_self {a : V} : mt a a = True := eq_true (mt_refl a)
theorem mtL_self {l : List V} : mtL l l = True := eq_true (mtL_refl l)
theorem mtL_append {a b a' b' : List V} (h1 : mtL a a') (h2 : mtL b b') : mtL (a ++ b) (a' ++ b') := by
 induction a generalizing a' with
 | nil => cases a' with
  | nil => exact h2
  | cons x l => simp [mtL] at h1
 | cons y a ih => cases a' with
  | nil => simp [mtL] at h1
  | cons x l =>
   simp only [mtL] at h1
   simp only [List.cons_append, mtL]
   exact ⟨h1.1, ih h1.2⟩
theorem mtL_drop {a b b' : List V} (h : mtL (a ++ b) (a ++ b')) : mtL b b' := by
 induction a with
 | nil => exact h
 | cons x a ih => simp only [List.cons_append, mtL] at h; exact ih h.2
theorem mtL_same {a b b' : List V} : mtL (a ++ b) (a ++ b') = mtL b b' := propext ⟨mtL_drop, fun h => mtL_append (mtL_refl a) h⟩
mutual
def ltV (n : Nat) : V → Prop
 | .own i => i < n
 | .ptr i _ => i < n
 | .optr i _ _ _ => i < n
 | .osub i _ _ _ => i < n
 | .agg l => ltL n l
 | .tup l => ltL n l
 | .fn _ l => ltL n l
 | _ => True
def ltL (n : Nat) : List V → Prop
 | [] => True
 | d :: l => ltV n d ∧ ltL n l
end
def mtO (v : V) : Option V → Prop
 | some u => mt u v
 | none => False
def subF (F : List (Nat × V)) (n : Nat) : List (Nat × V) → Prop
 | [] => True
 | (t, v) :: l => mtO v (getA F t) ∧ ltV n v ∧ subF F n l
def mtB (b : Blk) : Option Blk → Prop
 | some a => match a, b with
  | .var n g d, .var n' g' d' => n = n' ∧ g = g' ∧ mt d d'
  | .own E n g z l, .own E' n' g' z' m => E = E' ∧ n = n' ∧ g = g' ∧ mtZ z z' ∧ mtL l m
  | .ownI E n g z l, .ownI E' n' g' z' m => E = E' ∧ n = n' ∧ g = g' ∧ mtZ z z' ∧ mtL l m
  | .pvar n g d, .pvar n' g' d' => n = n' ∧ g = g' ∧ mt d d'
  | .pown n g z l, .pown n' g' z' m => n = n' ∧ g = g' ∧ mtZ z z' ∧ mtL l m
  | .lent k n g d, .lent k' n' g' d' => k = k' ∧ n = n' ∧ g = g' ∧ mt d d'
  | _, _ => False
 | none => False
def ltB (n : Nat) : Blk → Prop
 | .var _ _ d => ltV n d
 | .lent _ _ _ d => ltV n d
 | .ownI _ _ _ _ l => ltL n l
 | _ => True
def subH (H : List (Nat × Blk)) (n : Nat) : List (Nat × Blk) → Prop
 | [] => True
 | (i, b) :: l => mtB b (getA H i) ∧ i < n ∧ ltB n b ∧ subH H n l
section
variable {E : Env} {c0 c : Cx} {ρ : Ro} {S S1 : St} {F : Fm}
def roCut (n : Nat) (ρ : Ro) : Ro := fun i => if i < n then ρ i else none
theorem roCut_lt {n i : Nat} (h : i < n) : roCut n ρ i = ρ i := by simp [roCut, h]
mutual
theorem cut_rd {n : Nat} : ∀ {d : V} {v : Value}, ltV n d → rd ρ c d v → rd (roCut n ρ) c d v
 | .int _ _, _, _, h => h
 | .bool _, _, _, h => h
 | .str _, _, _, h => h
 | .agg l, v, hp, h => by
  simp only [rd, ltV] at h hp ⊢
  obtain ⟨cs, e, h⟩ := h
  exact ⟨cs, e, cut_rdC hp h⟩
 | .sl z n g l, v, _, h => h
 | .pp n g d, v, _, h => h
 | .own i, _, hp, h => by
  simp only [ltV] at hp
  exact ⟨(roCut_lt hp).trans h.1, h.2⟩
 | .ptr i o, _, hp, h => by
  simp only [ltV, rd] at hp h ⊢
  obtain ⟨b, h1, h2⟩ := h
  exact ⟨b, (roCut_lt hp).trans h1, h2⟩
 | .optr i m k o, _, hp, h => by
  simp only [ltV, rd] at hp h ⊢
  obtain ⟨b, h1, h2⟩ := h
  exact ⟨b, (roCut_lt hp).trans h1, h2⟩
 | .osub i m k o, _, hp, h => by
  simp only [ltV, rd] at hp h ⊢
  obtain ⟨b, h1, h2⟩ := h
  exact ⟨b, (roCut_lt hp).trans h1, h2⟩
 | .tup l, v, hp, h => by
  simp only [rd, ltV] at h hp ⊢
  obtain ⟨cs, e, h⟩ := h
  exact ⟨cs, e, cut_rdT hp h⟩
 | .fn f l, v, hp, h => by
  simp only [rd, ltV] at h hp ⊢
  obtain ⟨cs, e, h⟩ := h
  exact ⟨cs, e, cut_rdT hp h⟩
 | .opq p, v, _, h => h
 | .un, _, _, _ => trivial
theorem cut_rdC {n : Nat} : ∀ {l : List V} {cs : List Value}, ltL n l → rdC ρ c l cs → rdC (roCut n ρ) c l cs
 | [], _, _, h => h
 | d :: l, cs, hp, h => by
  simp only [rdC, ltL] at h hp ⊢
  obtain ⟨u, c2, e, h1, h2, h3⟩ := h
  exact ⟨u, c2, e, h1, cut_rd hp.1 h2, cut_rdC hp.2 h3⟩
theorem cut_rdT {n : Nat} : ∀ {l : List V} {cs : List Value}, ltL n l → rdT ρ c l cs → rdT (roCut n ρ) c l cs
 | [], _, _, h => h
 | d :: l, cs, hp, h => by
  simp only [rdT, ltL] at h hp ⊢
  obtain ⟨u, c2, e, h2, h3⟩ := h
  exact ⟨u, c2, e, cut_rd hp.1 h2, cut_rdT hp.2 h3⟩
end
theorem subF_get {G : List (Nat × V)} {n : Nat} : ∀ {l : List (Nat × V)}, subF G n l → ∀ {t : Nat} {v : V}, getA l t = some v → ∃ u, getA G t = some u ∧ mt u v ∧ ltV n v
 | [], _, t, v, h => by simp [getA] at h
 | (k, x) :: l, hs, t, v, h => by
  simp only [subF] at hs
  simp only [getA] at h
  split at h
  ·rename_i e; subst e; cases h
   obtain ⟨h1, h2, _⟩ := hs
   unfold mtO at h1
   split at h1
   ·rename_i u hu; exact ⟨u, hu, h1, h2⟩
   ·exact h1.elim
  ·exact subF_get hs.2.2 h
theorem subH_get {G : List (Nat × Blk)} {n : Nat} : ∀ {l : List (Nat × Blk)}, subH G n l → ∀ {i : Nat} {b : Blk}, getA l i = some b → ∃ a, getA G i = some a ∧ mtB b (some a) ∧ i < n ∧ ltB n b
 | [], _, t, v, h => by simp [getA] at h
 | (k, x) :: l, hs, t, v, h => by
  simp only [subH] at hs
  simp only [getA] at h
  split at h
  ·rename_i e; subst e; cases h
   obtain ⟨h1, h2, h3, _⟩ := hs
   cases hu : getA G k with
   | none => rw [hu] at h1; exact h1.elim
   | some a => rw [hu] at h1; exact ⟨a, rfl, h1, h2, h3⟩
  ·exact subH_get hs.2.2.2 h
theorem mtI_arr {n k : Nat} {g : Bool} : ∀ {l m : List V} {cs : List Value}, mtL l m → ltL k m → arrIs (rV ρ n g) c cs l → arrIs (rV (roCut k ρ) n g) c cs m
 | [], [], cs, _, _, h => h
 | a :: l, b :: m, cs, hm, hl, h => by
  simp only [mtL, ltL, arrIs] at hm hl h ⊢
  obtain ⟨c1, c2, e, ⟨h1, h2⟩, h3⟩ := h
  exact ⟨c1, c2, e, ⟨h1, cut_rd hl.1 (mt_rd hm.1 h2)⟩, mtI_arr hm.2 hl.2 h3⟩
 | [], _ :: _, _, hm, _, _ => by simp [mtL] at hm
 | _ :: _, [], _, hm, _, _ => by simp [mtL] at hm
theorem mt_arr {n : Nat} {g : Bool} {l m : List V} {cs : List Value} (h : mtL l m) (ha : arrIs (rV ro0 n g) c cs l) : arrIs (rV ro0 n g) c cs m := rdE_arr.1 (mt_rdE h (rdE_arr.2 ha))
theorem mtB_ok {n i : Nat} {a b : Blk} (h : mtB b (some a)) (hi : i < n) (hl : ltB n b) (hb : blkOk c0 c ρ i a) : blkOk c0 c (roCut n ρ) i b ∧ privB b = privB a := by
 cases a <;> cases b <;> simp only [mtB] at h <;> try exact h.elim
 ·obtain ⟨rfl, rfl, hm⟩ := h
  obtain ⟨b, h1, h2, h3, T, cs, h4, h5, h6⟩ := hb
  exact ⟨⟨b, (roCut_lt hi).trans h1, h2, h3, T, cs, h4, h5, cut_rd hl (mt_rd hm h6)⟩, rfl⟩
 ·obtain ⟨rfl, rfl, rfl, hz, hm⟩ := h
  obtain ⟨v, h1, h2, h3, h4, a, cap, e, h5⟩ := hb
  have hlen := mtL_len hm
  refine ⟨⟨v, (roCut_lt hi).trans h1, ⟨hlen ▸ h2.1, ?_⟩, h3, h4, a, cap, hlen ▸ e, mtZ_ok hz h5⟩, rfl⟩
  rcases h2.2 with ⟨a', e9, rfl⟩ | ⟨g', cp, cur, e, k1, k2, k3, k4, k5, k6⟩
  ·exact .inl ⟨a', e9, List.eq_nil_of_length_eq_zero hlen.symm⟩
  ·rw [hlen] at e k3 k6
   exact .inr ⟨g', cp, cur, e, k1, k2, k3, k4, k5, mt_arr hm k6⟩
 ·obtain ⟨rfl, rfl, rfl, hz, hm⟩ := h
  obtain ⟨v, h1, h2, h3, h4, a, cap, e, h5⟩ := hb
  have hlen := mtL_len hm
  simp only [ltB] at hl
  refine ⟨⟨v, (roCut_lt hi).trans h1, ⟨hlen ▸ h2.1, ?_⟩, h3, h4, a, cap, hlen ▸ e, mtZ_ok hz h5⟩, rfl⟩
  rcases h2.2 with ⟨a', e9, rfl⟩ | ⟨g', cp, cur, e, k1, k2, k3, k4, k5, k6⟩
  ·exact .inl ⟨a', e9, List.eq_nil_of_length_eq_zero hlen.symm⟩
  ·rw [hlen] at e k3 k6
   exact .inr ⟨g', cp, cur, e, k1, k2, k3, k4, k5, mtI_arr hm hl k6⟩
 ·obtain ⟨rfl, rfl, hm⟩ := h
  obtain ⟨b, h1, b', o, cs, e, h2, h3, h4, h5, h6⟩ := hb
  exact ⟨⟨b, (roCut_lt hi).trans h1, b', o, cs, e, h2, h3, h4, h5, mt_rd hm h6⟩, rfl⟩
 ·obtain ⟨rfl, rfl, hz, hm⟩ := h
  obtain ⟨v, h1, h2⟩ := hb
  refine ⟨⟨v, (roCut_lt hi).trans h1, mt_rd ?_ h2⟩, rfl⟩
  simp only [mt]
  exact ⟨hz, .inr ⟨trivial, trivial, hm⟩⟩
 ·obtain ⟨rfl, rfl, rfl, hm⟩ := h
  obtain ⟨h1, h2, h3, T, cs, h4, h5, h6⟩ := hb
  exact ⟨⟨(roCut_lt hi).trans h1, h2, h3, T, cs, h4, h5, cut_rd hl (mt_rd hm h6)⟩, rfl⟩
theorem weak_of (h1 : subF S.F S1.nx S1.F) (h2 : subH S.H S1.nx S1.H) : Weak E S S1 := by
 intro c0 c ρ F h
 refine ⟨c, roCut S1.nx ρ, rfl, ⟨h.1.since, h.1.gl, ?_, ?_, ?_⟩, fun i hi => by simp [roCut, Nat.not_lt.2 hi]⟩
 ·intro t v ht
  obtain ⟨u, hu, hm, hl⟩ := subF_get h1 ht
  exact cut_rd hl (mt_rd hm (h.1.slot t u hu))
 ·intro i b hb
  obtain ⟨a, ha, hm, hi, hl⟩ := subH_get h2 hb
  exact (mtB_ok hm hi hl (h.1.heap i a ha)).1
 ·intro i j bi bj k hij hbi hbj hpi hpj hk hk'
  obtain ⟨ai, hai, hmi, hi, hli⟩ := subH_get h2 hbi
  obtain ⟨aj, haj, hmj, hj, hlj⟩ := subH_get h2 hbj
  have e1 := (mtB_ok hmi hi hli (h.1.heap i ai hai)).2
  have e2 := (mtB_ok hmj hj hlj (h.1.heap j aj haj)).2
  rw [blkOf_eq (roCut_lt hi)] at hk
  rw [blkOf_eq (roCut_lt hj)] at hk'
  exact h.1.sep i j ai aj k hij hai haj (e1 ▸ hpi) (e2 ▸ hpj) hk hk'
def ownV : Option Blk → V
 | some (.own _ n g z l) => .sl z n g l
 | some (.pown n g z l) => .sl z n g l
 | _ => .un
mutual
def view0 (H : List (Nat × Blk)) : V → V
 | .own i => ownV (getA H i)
 | .ptr _ _ => .un
 | .optr _ _ _ _ => .un
 | .osub _ _ _ _ => .un
 | .agg l => .agg (view0L H l)
 | .tup l => .tup (view0L H l)
 | .fn f l => .fn f (view0L H l)
 | v => v
def view0L (H : List (Nat × Blk)) : List V → List V
 | [] => []
 | d :: l => view0 H d :: view0L H l
end
def ptrV (H : List (Nat × Blk)) (off : Nat) : Option Blk → V
 | some (.var n g d) => if off = 0 then .pp n g (view0 H d) else .un
 | some (.lent _ n g d) => if off = 0 then .pp n g (view0 H d) else .un
 | some (.pvar n g d) => if off = 0 then .pp n g d else .un
 | _ => .un
mutual
def view (H : List (Nat × Blk)) : V → V
 | .own i => ownV (getA H i)
 | .ptr i o => ptrV H o (getA H i)
 | .optr _ _ _ _ => .un
 | .osub _ _ _ _ => .un
 | .agg l => .agg (view0L H l)
 | .tup l => .tup (viewL H l)
 | .fn f l => .fn f (viewL H l)
 | v => v
def viewL (H : List (Nat × Blk)) : List V → List V
 | [] => []
 | d :: l => view H d :: viewL H l
end
theorem base_notX (h : Sim E c0 c ρ S F) {k : Nat} (hk : c0.mine k) : k ∉ (c0.base c h.since.size).X := fun hm => by
 obtain ⟨h1, h2⟩ := base_X.1 hm
 rcases hk with hk | hk
 ·have := c0.ok k h1; omega
 ·exact h2 hk
theorem own_base (h : Sim E c0 c ρ S F) {i : Nat} {b : Blk} {v : Value} (hb : getA S.H i = some b) (hv : ρ i = some v) : rd ro0 (c0.base c h.since.size) (ownV (some b)) v := by
 have hblk := h.heap i b hb
 have hpb := pub_base h
 cases b with
 | own T n g z l =>
  obtain ⟨v', h1, h2, h3, h4, a, cap, e, hz⟩ := hblk
  rw [hv] at h1; cases h1
  simp only [ownV]
  refine rd_sl.2 ⟨a, cap, e, ⟨h2.1, ?_⟩, hz, ?_⟩
  ·rcases h2.2 with ⟨a', _, rfl⟩ | ⟨g', cp, cur, e2, _, _, k3, _⟩
   ·simp
   ·rw [e] at e2; cases e2; exact k3
  ·rcases h2.2 with ⟨a', _, rfl⟩ | ⟨g', cp, cur, e2, k1, k2, k3, k4, k5, k6⟩
   ·exact .inl rfl
   ·rw [e] at e2; cases e2
    refine .inr ⟨g', 0, _, rfl, c.ok g' k1, base_notX h (h3 g' (by rw [e]; rfl)), ?_, arrIs_mono hpb k6⟩
    intro j u hj
    rw [List.getElem?_take] at hj
    split at hj
    ·simp only [Nat.zero_add]
     show (c0.base c h.since.size).w.cell? _ = _
     simp only [Cx.base, World.cell?, k2]
     simpa using hj
    ·cases hj
 | pown n g z l =>
  obtain ⟨v', h1, h2⟩ := hblk
  rw [hv] at h1; cases h1
  exact rd_mono hpb h2
 | _ => trivial
mutual
theorem view0_rd (h : Sim E c0 c ρ S F) : ∀ {d : V} {v : Value}, rd ρ c d v → rd ro0 (c0.base c h.since.size) (view0 S.H d) v
 | .int _ _, _, hr => hr
 | .bool _, _, hr => hr
 | .str _, _, hr => hr
 | .agg l, v, hr => by
  simp only [rd, view0] at hr ⊢
  obtain ⟨cs, e, hr⟩ := hr
  exact ⟨cs, e, view0_rdC h hr⟩
 | .sl z n g l, v, hr => rd_mono (pub_base h) (show rd ro0 c (.sl z n g l) v from hr)
 | .pp n g d, v, hr => rd_mono (pub_base h) (show rd ro0 c (.pp n g d) v from hr)
 | .own i, v, hr => by
  simp only [rd] at hr
  simp only [view0]
  cases hb : getA S.H i with
  | none => trivial
  | some b => exact own_base h hb hr.1
 | .ptr _ _, _, _ => trivial
 | .optr _ _ _ _, _, _ => trivial
 | .osub _ _ _ _, _, _ => trivial
 | .tup l, v, hr => by
  simp only [rd, view0] at hr ⊢
  obtain ⟨cs, e, hr⟩ := hr
  exact ⟨cs, e, view0_rdT h hr⟩
 | .fn f l, v, hr => by
  simp only [rd, view0] at hr ⊢
  obtain ⟨cs, e, hr⟩ := hr
  exact ⟨cs, e, view0_rdT h hr⟩
 | .opq p, v, hr => rd_mono (pub_base h) (show rd ro0 c (.opq p) v from hr)
 | .un, _, _ => trivial
theorem view0_rdC (h : Sim E c0 c ρ S F) : ∀ {l : List V} {cs : List Value}, rdC ρ c l cs → rdC ro0 (c0.base c h.since.size) (view0L S.H l) cs
 | [], _, hr => hr
 | d :: l, cs, hr => by
  simp only [rdC, view0L] at hr ⊢
  obtain ⟨u, c2, e, h1, h2, h3⟩ := hr
  exact ⟨u, c2, e, h1, view0_rd h h2, view0_rdC h h3⟩
theorem view0_rdT (h : Sim E c0 c ρ S F) : ∀ {l : List V} {cs : List Value}, rdT ρ c l cs → rdT ro0 (c0.base c h.since.size) (view0L S.H l) cs
 | [], _, hr => hr
 | d :: l, cs, hr => by
  simp only [rdT, view0L] at hr ⊢
  obtain ⟨u, c2, e, h2, h3⟩ := hr
  exact ⟨u, c2, e, view0_rd h h2, view0_rdT h h3⟩
end
theorem ptr_base (h : Sim E c0 c ρ S F) {i off : Nat} {b : Blk} {v : Value} (hb : getA S.H i = some b) (hv : rd ρ c (.ptr i off) v) : rd ro0 (c0.base c h.since.size) (ptrV S.H off (some b)) v := by
 have hblk := h.heap i b hb
 have hpb := pub_base h
 simp only [rd] at hv
 obtain ⟨b0, hv, rfl⟩ := hv
 cases b with
 | var n g d =>
  obtain ⟨b', h1, h2, h3, T, cs, h4, h5, h6⟩ := hblk
  rw [hv] at h1; cases h1
  simp only [ptrV]
  split
  ·rename_i e; subst e
   simp only [rd]
   refine ⟨b0, 0, cs.toList, rfl, c.ok b0 h3, base_notX h h2, ?_, h5, view0_rd h h6⟩
   intro j u hj
   show c.w.cell? _ = _
   simp only [Nat.zero_add, World.cell?, h4]
   simpa using hj
  ·trivial
 | pvar n g d =>
  obtain ⟨b', h1, h2⟩ := hblk
  rw [hv] at h1; cases h1
  simp only [ptrV]
  split
  ·rename_i e; subst e
   exact rd_mono hpb (rd_pp.2 h2)
  ·trivial
 | lent k' n g d =>
  obtain ⟨h1, h2, h3, T, cs, h4, h5, h6⟩ := hblk
  rw [hv] at h1; cases h1
  simp only [ptrV]
  split
  ·rename_i e; subst e
   simp only [rd]
   refine ⟨b0, 0, cs.toList, rfl, c.ok b0 h3, base_notX h h2, ?_, h5, view0_rd h h6⟩
   intro j u hj
   show c.w.cell? _ = _
   simp only [Nat.zero_add, World.cell?, h4]
   simpa using hj
  ·trivial
 | _ => trivial
mutual
theorem view_rd (h : Sim E c0 c ρ S F) : ∀ {d : V} {v : Value}, rd ρ c d v → rd ro0 (c0.base c h.since.size) (view S.H d) v
 | .int _ _, _, hr => hr
 | .bool _, _, hr => hr
 | .str _, _, hr => hr
 | .agg l, v, hr => by
  simp only [rd, view] at hr ⊢
  obtain ⟨cs, e, hr⟩ := hr
  exact ⟨cs, e, view0_rdC h hr⟩
 | .sl z n g l, v, hr => rd_mono (pub_base h) (show rd ro0 c (.sl z n g l) v from hr)
 | .pp n g d, v, hr => rd_mono (pub_base h) (show rd ro0 c (.pp n g d) v from hr)
 | .own i, v, hr => by
  simp only [rd] at hr
  simp only [view]
  cases hb : getA S.H i with
  | none => trivial
  | some b => exact own_base h hb hr.1
 | .ptr i o, v, hr => by
  simp only [view]
  cases hb : getA S.H i with
  | none => trivial
  | some b => exact ptr_base h hb hr
 | .optr _ _ _ _, _, _ => trivial
 | .osub _ _ _ _, _, _ => trivial
 | .tup l, v, hr => by
  simp only [rd, view] at hr ⊢
  obtain ⟨cs, e, hr⟩ := hr
  exact ⟨cs, e, viewL_rd h hr⟩
 | .fn f l, v, hr => by
  simp only [rd, view] at hr ⊢
  obtain ⟨cs, e, hr⟩ := hr
  exact ⟨cs, e, viewL_rd h hr⟩
 | .opq p, v, hr => rd_mono (pub_base h) (show rd ro0 c (.opq p) v from hr)
 | .un, _, _ => trivial
theorem viewL_rd (h : Sim E c0 c ρ S F) : ∀ {l : List V} {cs : List Value}, rdT ρ c l cs → rdT ro0 (c0.base c h.since.size) (viewL S.H l) cs
 | [], _, hr => hr
 | d :: l, cs, hr => by
  simp only [rdT, viewL] at hr ⊢
  obtain ⟨u, c2, e, h2, h3⟩ := hr
  exact ⟨u, c2, e, view_rd h h2, viewL_rd h h3⟩
end
theorem give_pure {vs ws : List V} (hp : pureL vs) (hm : mtL vs ws) : giveOk E S vs S ws :=
 fun _ c ρ _ _ h hr => ⟨c, ρ, rfl, Cx.pub.refl _, h, mt_rdT hm (pure_rdT hp hr)⟩
theorem look_view {vs ws : List V} (hm : mtL (viewL S.H vs) ws) : lookOk E S vs ws :=
 fun _ _ _ _ _ h hr => mt_rdT hm (viewL_rd h hr)
theorem head_pure {vs ws : List V} (hp : pureL vs) (hm : mtL vs ws) : ∀ (c : Cx) (ρ : Ro) (us : List Value), rdT ρ c vs us → rdT ro0 c ws us :=
 fun _ _ _ hr => mt_rdT hm (pure_rdT hp hr)
theorem out_view {v r : V} (hm : mt (view S.H v) r) : outOk E S v r [] := by
 intro c0 c ρ F u hY h hr
 refine ⟨c0.base c h.1.since.size, ro0, rfl, ?_, mt_rd hm (view_rd h.1 hr), HOk.nil⟩
 refine (Cx.leY.le ⟨h.1.since.below, fun k hk hy => ?_⟩ hY)
 rw [base_X]
 exact ⟨fun h => h.1, fun h => ⟨h, hy⟩⟩
end
end Go.Proofs.Ytcbdmoihobdjaaa
