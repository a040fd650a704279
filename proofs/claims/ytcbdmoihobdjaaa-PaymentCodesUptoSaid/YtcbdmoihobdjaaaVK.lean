import Derived.Test.YtcbdmoihobdjaaaVS
import Derived.Test.YtcbdmoihobdjaaaVJ
namespace Go.Proofs.Ytcbdmoihobdjaaa
open Go.RowKit
attribute [go_sem] St.afterI prF prV prL prH prB ownIds ownIds.ownI1 sg setIds backB renBs renB ren renL lentL lentB heapA insB inO outsB outB inV inVL retKI_ret retKI_normal shiftH cond_true cond_false Nat.sub_self List.getElem?_nil Nat.reduceSub
theorem rdT_nil {c : Cx} {ρ : Ro} {n : Nat} {g : Bool} {post : List V} (h0 : ρ 0 = some (.slice none 0 0)) : ∀ {pre : List V} {us : List Value}, rdT ro0 c (pre ++ .sl (some true) n g [] :: post) us → rdT ρ c (pre ++ .own 0 :: post) us
 | [], us, h => by
  simp only [List.nil_append, rdT] at h ⊢
  obtain ⟨u, c2, e, h1, h2⟩ := h
  have e2 : u = .slice none 0 0 := by
   simp only [rd, zOk] at h1
   obtain ⟨a, cap, e, _, ⟨rfl, rfl⟩, _⟩ := h1
   exact e
  subst e2
  refine ⟨_, c2, e, ?_, ?_⟩
  ·simp only [rd]; exact ⟨h0, rfl⟩
  ·exact rdT_ro (fun i v hi => (ro0_some hi).elim) h2
 | d :: pre, us, h => by
  simp only [List.cons_append, rdT] at h ⊢
  obtain ⟨u, c2, e, h1, h2⟩ := h
  exact ⟨u, c2, e, rd_ro (fun i v hi => (ro0_some hi).elim) h1, rdT_nil h0 h2⟩
theorem callIn_nil {E : Env} {f : FuncId} {pre post : List V} {T n : Nat} {g : Bool} {r : V} {Hout Hnew : List Blk} (h : CallIn E f (pre ++ .own 0 :: post) [.own T n g (some true) []] r Hout Hnew) (hone : g = false → n = 1) : CallOk E f (pre ++ .sl (some true) n g [] :: post) r (Hout ++ Hnew) := by
 refine ⟨h.1, fun c us hY hg hus => ?_⟩
 have hk := h.2.1
 simp only [Bool.and_eq_true] at hk
 obtain ⟨hkl, hkk⟩ := kndB_spec hk.1
 have hall : ∀ (q : Nat) (b : Blk), Hout[q]? = some b → isOwnB b := by
  intro q b hb
  have hq : q < 1 := by have := (List.getElem?_eq_some_iff.1 hb).1; simp at hkl; omega
  have e : q = 0 := by omega
  subst e
  rcases hkk 0 _ b rfl hb with ⟨h1, _⟩ | ⟨_, h1⟩
  ·exact h1.elim
  ·exact h1
 have hlent : ∀ {l : List Blk} {i : Nat}, (∀ (q : Nat) (b : Blk), l[q]? = some b → isOwnB b) → lentL (fun _ => 0) i l = l := by
  intro l
  induction l with
  | nil => intro i _; rfl
  | cons b l ih =>
   intro i hb
   have h1 := hb 0 b rfl
   simp only [lentL]
   rw [ih fun q b hq => hb (q + 1) b (by simpa using hq)]
   cases b <;> simp only [isOwnB] at h1 <;> rfl
 refine (h.2.2 c us (fun i => if i = 0 then some (.slice none 0 0) else none) (fun _ => 0) hg ?_ (rdT_nil (by simp) hus)).mono ?_
 ·refine ⟨fun i b hb => ?_, fun i hi => ?_, fun i j bi bj k hij hi hj => ?_⟩
  ·cases i with
   | zero =>
    simp [lentL, lentB] at hb; subst hb
    exact ⟨.slice none 0 0, by simp, Own.nil, fun k hk => by simp [blk] at hk, hone, none, 0, rfl, rfl, rfl⟩
   | succ i => simp [lentL] at hb
  ·have : i ≠ 0 := by simp [lentL] at hi; omega
   simp [this]
  ·cases i with
   | zero => cases j with
    | zero => exact absurd rfl hij
    | succ j => simp [lentL] at hj
   | succ i => simp [lentL] at hi
 ·rintro e w' ⟨v, c', ρ, rfl, rfl, hle, hr, hH⟩
  rw [hlent hall] at hH
  refine ⟨v, c', ρ, rfl, rfl, hle.le hY, hr, fun i b hb => ⟨?_, hH.1 i b hb⟩, hH.2.1, hH.2.2⟩
  have hb' : isOwnB b := by
   rcases Nat.lt_or_ge i Hout.length with h1 | h1
   ·rw [List.getElem?_append_left h1] at hb; exact hall i b hb
   ·rw [List.getElem?_append_right h1] at hb; exact ownsB_spec hk.2 _ b hb
  cases b <;> simp only [isOwnB] at hb'
  exact ⟨_, _, _, _, _, rfl⟩
end Go.Proofs.Ytcbdmoihobdjaaa
