import Derived.Test.YtcbdmoihobdjaaaB4
namespace Go.Proofs.Ytcbdmoihobdjaaa
open Go.RowKit
def addI (k : IntKind) (a b : Int) : Int := k.wrap (a + b)
def subI (k : IntKind) (a b : Int) : Int := k.wrap (a - b)
def mulI (k : IntKind) (a b : Int) : Int := k.wrap (a * b)
def quoI (k : IntKind) (a b : Int) : Int := k.wrap (a.tdiv b)
def remI (_ : IntKind) (a b : Int) : Int := a.tmod b
def negI (k : IntKind) (a : Int) : Int := k.wrap (0 - a)
def convI (k : IntKind) (a : Int) : Int := k.wrap a
def gt {α : Type} [Inhabited α] (l : List α) (i : Int) : α := l.getD i.toNat default
theorem gt_nat {α : Type} [Inhabited α] (l : List α) (i : Nat) : gt l (i : Int) = l.getD i default := rfl
theorem rng_addI (k : IntKind) (a b : Int) : Rng k (addI k a b) := rng_wrap _ _
theorem rng_subI (k : IntKind) (a b : Int) : Rng k (subI k a b) := rng_wrap _ _
theorem rng_mulI (k : IntKind) (a b : Int) : Rng k (mulI k a b) := rng_wrap _ _
theorem rng_quoI (k : IntKind) (a b : Int) : Rng k (quoI k a b) := rng_wrap _ _
theorem rng_negI (k : IntKind) (a : Int) : Rng k (negI k a) := rng_wrap _ _
theorem rng_convI (k : IntKind) (a : Int) : Rng k (convI k a) := rng_wrap _ _
theorem rng_shlI (k : IntKind) (a b : Int) : Rng k (shlI k a b) := rng_wrap _ _
theorem rng_andI (k : IntKind) (a b : Int) : Rng k (andI k a b) := rng_wrap _ _
theorem rng_orI (k : IntKind) (a b : Int) : Rng k (orI k a b) := rng_wrap _ _
theorem rng_xorI (k : IntKind) (a b : Int) : Rng k (xorI k a b) := rng_wrap _ _
theorem rng_andNotI (k : IntKind) (a b : Int) : Rng k (andNotI k a b) := rng_wrap _ _
theorem rng_notI (k : IntKind) (a : Int) : Rng k (notI k a) := rng_wrap _ _
theorem rng_len {n : Nat} (h : n ≤ LEN) : Rng .i64 (n : Int) := by
 unfold LEN at h
 simp only [Rng, IntKind.min, IntKind.max, IntKind.bits, IntKind.signed, if_true]
 omega
theorem natAbs_tmod_le (a b : Int) : (a.tmod b).natAbs ≤ a.natAbs := by
 rw [Int.natAbs_tmod]; exact Nat.mod_le _ _
theorem rng_remI {k : IntKind} {a : Int} (b : Int) (h : Rng k a) : Rng k (remI k a b) := by
 have h1 := natAbs_tmod_le a b
 have h2 : 0 ≤ a → 0 ≤ a.tmod b := fun h => Int.tmod_nonneg b h
 have h3 : a ≤ 0 → a.tmod b ≤ 0 := fun h => by
  have := Int.tmod_nonneg b (show 0 ≤ -a by omega)
  rw [Int.neg_tmod] at this
  omega
 unfold Rng at *
 unfold remI
 have hm : k.min ≤ 0 := by cases k <;> decide
 have hx : 0 ≤ k.max := by cases k <;> decide
 rcases Int.le_total 0 a with h4 | h4
 ·have := h2 h4; omega
 ·have := h3 h4; omega
theorem rng_shrI {k : IntKind} {a : Int} (b : Int) (h : Rng k a) : Rng k (shrI k a b) := by
 unfold shrI
 have hp : (1 : Int) ≤ 2 ^ (min b.toNat k.bits) := by
  have : (1 : Nat) ≤ 2 ^ (min b.toNat k.bits) := Nat.one_le_two_pow
  exact_mod_cast this
 have hm : k.min ≤ 0 := by cases k <;> decide
 have hx : 0 ≤ k.max := by cases k <;> decide
 unfold Rng at *
 generalize (2 : Int) ^ (min b.toNat k.bits) = p at *
 rw [Int.fdiv_eq_ediv_of_nonneg _ (by omega)]
 constructor
 ·refine (Int.le_ediv_iff_mul_le (by omega)).2 ?_
  have : k.min * p ≤ k.min * 1 := Int.mul_le_mul_of_nonpos_left hm hp
  omega
 ·rcases Int.le_total 0 a with h4 | h4
  ·have := Int.ediv_le_self p h4; omega
  ·have : a / p ≤ 0 := by
    have h5 : a / p ≤ 0 / p := Int.ediv_le_ediv (by omega) h4
    simpa using h5
   omega
def letk {α β : Type} (a : α) (f : α → β) : β := f a
theorem ne_true {b : Bool} (h : b = false) : ¬ (b = true) := by simp [h]
structure Since (c0 c : Cx) : Prop where
 below : BelowY c0.Y c0.w.heap.size c0.w c.w
 X : ∀ k, k ∈ c0.X → k ∉ c0.Y → k ∈ c.X
theorem Since.refl (c : Cx) : Since c c := ⟨BelowY.refl _ _ _, fun _ h _ => h⟩
theorem Since.le {c0 c c' : Cx} (h : Since c0 c) (k : c.le c') : Since c0 c' :=
 ⟨h.below.step k.below h.below.size, fun i hi hy => (k.old i (c.ok i (h.X i hi hy))).2 (h.X i hi hy)⟩
theorem Since.size {c0 c : Cx} (h : Since c0 c) : c0.w.heap.size ≤ c.w.heap.size := h.below.size
section
variable {P : Program}
theorem wp_if {x y : Code} {Q : Exit → Act → World → Prop} {n : Nat} {F : Fm} {a : Act} {w : World} {t : Operand} {b : Bool} (hf : Fr n F a) (hs : ev F t = .bool b) (h1 : b = true → x.wp P Q a w) (h2 : b = false → y.wp P Q a w) : (Code.cond t x y).wp P Q a w :=
 wp_cond_split (by rw [hf.eval]; exact hs) h1 h2
theorem wp_rounds {c : Code} {Q : Exit → Act → World → Prop} {a : Act} {w : World} (I : Nat → Act → World → Prop) (k0 : Nat) (h0 : I k0 a w)
  (round : ∀ k a w, I k a w → c.wp P (Exit.then (fun a' w' => ∃ k', k' < k ∧ I k' a' w') Q) a w) : (Code.loop c).wp P Q a w := by
 intro b ks cs
 have key : ∀ n a w, I n a w → ∃ e a' w', Q e a' w' ∧ Arrives P (lone (b.at a (.code c :: .inLoop c :: ks)) cs w) b ks cs e a' w' := by
  intro n
  induction n using Nat.strongRecOn with
  | _ n ih =>
   intro a w hI
   obtain ⟨e, a₁, w₁, hq, harr⟩ := round n a w hI b (.inLoop c :: ks) cs
   cases e with
   | normal =>
    obtain ⟨k', hlt, hI₁⟩ := hq
    obtain ⟨e₂, a₂, w₂, hq₂, harr₂⟩ := ih k' hlt a₁ w₁ hI₁
    exact ⟨e₂, a₂, w₂, hq₂, .of_steps (Steps.trans harr (.one step_inLoop)) harr₂⟩
   | exit id => exact ⟨_, a₁, w₁, hq, .pass (x := .inLoop c) rfl (fun _ _ => .inl (by simp)) harr⟩
   | goto l => exact ⟨_, a₁, w₁, hq, .pass (x := .inLoop c) rfl (fun _ _ => .inl (by simp)) harr⟩
   | ret => exact ⟨_, a₁, w₁, hq, .pass (x := .inLoop c) rfl (fun _ _ => .inl (by simp)) harr⟩
   | panic ch => exact ⟨_, a₁, w₁, hq, .pass (x := .inLoop c) rfl (fun _ _ => .inl (by simp)) harr⟩
   | outgrown => exact ⟨_, a₁, w₁, hq, .pass (x := .inLoop c) rfl (fun _ _ => .inl (by simp)) harr⟩
 obtain ⟨e, a', w', hq, harr⟩ := key k0 a w h0
 exact ⟨e, a', w', hq, .of_steps (.one step_loop) harr⟩
def Ph.newVar {α : Type} (c0 : Cx) (r : Rep α) (d : α) : Ph :=
 ⟨fun v c => ∃ b, v = .pointer (some ⟨b, 0, none⟩) ∧ c0.w.heap.size ≤ b ∧ Var c b r d, fun ⟨b, h1, h2, h3⟩ k => ⟨b, h1, h2, h3.le k⟩⟩
def FnIs {α β : Type} (P : Program) (c : Cx) (v : Value) (r : Rep α) (s : RV β) (p : α → β) : Prop :=
 ∃ f cap, v = .func (.func f) #[] (List.toArray cap) ∧ (∀ as w, (callFunc f as).run P w = .ok (.enter f as) w) ∧ ∀ c' x u, c.le c' → r.val c' u x → Calls P f (u :: cap).toArray c'.w (Post c' s (p x))
theorem FnIs.le {α β : Type} {c c' : Cx} {v v' : Value} {r : Rep α} {s : RV β} {p : α → β} (h : FnIs P c v r s p) (e : v' = v) (k : c.le c') : FnIs P c' v' r s p := by
 subst e
 obtain ⟨f, cap, h1, h2, h3⟩ := h
 exact ⟨f, cap, h1, h2, fun c'' x u hle hx => h3 c'' x u (k.trans hle) hx⟩
def Ph.fn {α β : Type} (P : Program) (r : Rep α) (s : RV β) (p : α → β) : Ph := ⟨fun v c => FnIs P c v r s p, fun h k => h.le rfl k⟩
theorem slice_rng {α : Type} {r : Rep α} {c : Cx} {v : Value} {l : List α} (h : (rSlice r).val c v l) : l.length ≤ LEN := by
 obtain ⟨_, _, _, h1, _⟩ := slice_val.1 h; exact h1.1
instance (k : IntKind) (d : Int) : Decidable (Rng k d) := inferInstanceAs (Decidable (_ ∧ _))
def sl {α : Type} (l : List α) (i j : Int) : List α := (l.drop i.toNat).take (j.toNat - i.toNat)
def st {α : Type} (l : List α) (i : Int) (x : α) : List α := l.set i.toNat x
theorem arrIs_replicate {α : Type} {r : Rep α} {c : Cx} {cz : List Value} {z : α} (n : Nat) (h : r.is c cz z) : arrIs r c (List.replicate n cz).flatten (List.replicate n z) := by
 induction n with
 | zero => simp [arrIs]
 | succ n ih => exact ⟨cz, _, by simp [List.replicate_succ], h, ih⟩
section
variable {K : Value → World → Prop} {F : Fm} {o : Oper} {c : Cx} {w : World}
end
end
end Go.Proofs.Ytcbdmoihobdjaaa
