/- Texts of this proof, one after the other: L0, R0, RT. -/
import Derived.Test.YtjnikknlcmbcmaaGreatDoorZ4
set_option linter.unusedVariables false
set_option linter.unusedSimpArgs false
namespace Go.Proofs.YtjnikknlcmbcmaaGreatDoor
open Go.RowKit
theorem iter_find {C : Int → Bool} {n : Int} {F : (Int → Int) → Int → Int} (hF : ∀ ag p, F ag p = if p < n then (if C p = true then p else ag (p + 1)) else -1) {d : Int → Int} :
  ∀ (fuel : Nat) (i : Int), 0 ≤ i → (n - i).toNat < fuel → (iter fuel F d i = -1 ∧ ∀ j, i ≤ j → j < n → C j = false) ∨ (i ≤ iter fuel F d i ∧ iter fuel F d i < n ∧ C (iter fuel F d i) = true ∧ ∀ j, i ≤ j → j < iter fuel F d i → C j = false) := by
 intro fuel
 induction fuel with
 | zero => intro i _ h; omega
 | succ k ih =>
  intro i h0 h
  rw [iter, hF]
  by_cases hi : i < n
  ·rw [if_pos hi]
   by_cases hc : C i = true
   ·rw [if_pos hc]
    exact .inr ⟨Int.le_refl _, hi, hc, fun j h1 h2 => by omega⟩
   ·rw [if_neg hc]
    have hc' : C i = false := by simpa using hc
    rcases ih (i + 1) (by omega) (by omega) with ⟨h1, h2⟩ | ⟨h1, h2, h3, h4⟩
    ·refine .inl ⟨h1, fun j g1 g2 => ?_⟩
     by_cases e : j = i
     ·subst e; exact hc'
     ·exact h2 j (by omega) g2
    ·refine .inr ⟨by omega, h2, h3, fun j g1 g2 => ?_⟩
     by_cases e : j = i
     ·subst e; exact hc'
     ·exact h4 j (by omega) g2
  ·rw [if_neg hi]
   exact .inl ⟨rfl, fun j h1 h2 => by omega⟩
theorem gt_mem {α : Type} [Inhabited α] {l : List α} {i : Int} (h : i.toNat < l.length) : gt l i ∈ l := by
 simp [gt, List.getD_eq_getElem?_getD, h]
theorem iter_any {α : Type} [Inhabited α] {l : List α} {C : α → Bool} {F : (Int → Int) → Int → Int} {d : Int → Int}
  (hF : ∀ ag p, F ag p = if decide (p < (l.length : Int)) = true then (if C (gt l p) = true then p else ag (p + 1)) else -1) :
  decide (iter (((l.length : Int) - 0).toNat + 1) F d 0 ≥ 0) = l.any C := by
 have hg : ∀ (j : Int), 0 ≤ j → j < l.length → gt l j ∈ l := fun j h0 h1 => gt_mem (by omega)
 rcases iter_find (C := fun p => C (gt l p)) (n := (l.length : Int)) (F := F) (d := d) (fun ag p => by rw [hF]; by_cases hp : p < (l.length : Int) <;> simp [hp]) (((l.length : Int) - 0).toNat + 1) 0 (by omega) (by omega) with ⟨h1, h2⟩ | ⟨h1, h2, h3, _⟩
 ·rw [h1]
  symm
  rw [show decide ((-1 : Int) ≥ 0) = false by decide, List.any_eq_false]
  intro x hx
  obtain ⟨i, hi, rfl⟩ := List.mem_iff_getElem.1 hx
  have := h2 (i : Int) (by omega) (by omega)
  simpa [gt, List.getD_eq_getElem?_getD, hi] using this
 ·rw [decide_eq_true h1]
  symm
  exact List.any_eq_true.2 ⟨_, hg _ h1 h2, h3⟩
theorem iter_rule {α R : Type} {P : α → Prop} {Q : R → Prop} {meas : α → Nat} {F : (α → R) → α → R} {d : α → R}
  (hs : ∀ ag p, P p → (∀ q, P q → meas q < meas p → Q (ag q)) → Q (F ag p)) : ∀ (fuel : Nat) (p : α), P p → meas p < fuel → Q (iter fuel F d p) := by
 intro fuel
 induction fuel with
 | zero => intro p _ h; omega
 | succ k ih =>
  intro p hp hm
  rw [iter]
  exact hs _ p hp fun q hq hlt => ih q hq (by omega)
def foldE {α σ R : Type} (st : α → σ → σ ⊕ R) (E : σ → R) : List α → σ → R
 | [], s => E s
 | a :: l, s => match st a s with
  | .inl s' => foldE st E l s'
  | .inr r => r
theorem iter_run_aux {α σ R : Type} [Inhabited α] {l : List α} {st : α → σ → σ ⊕ R} {E : σ → R} {F : (Int × σ → R) → Int × σ → R} {d : Int × σ → R}
  (hF : ∀ ag i s, F ag (i, s) = if i < (l.length : Int) then (match st (gt l i) s with | .inl s' => ag (i + 1, s') | .inr r => r) else E s) :
  ∀ (fuel k : Nat) (s : σ), k ≤ l.length → l.length - k < fuel → iter fuel F d ((k : Int), s) = foldE st E (l.drop k) s := by
 intro fuel
 induction fuel with
 | zero => intro k s _ h; omega
 | succ n ih =>
  intro k s hl h
  rw [iter, hF]
  by_cases hk : k < l.length
  ·rw [if_pos (by omega), List.drop_eq_getElem_cons hk]
   have hg : gt l (k : Int) = l[k] := by simp [gt, List.getD_eq_getElem?_getD, hk]
   rw [hg]
   simp only [foldE]
   cases st l[k] s with
   | inl s' =>
    have := ih (k + 1) s' (by omega) (by omega)
    rw [show ((k + 1 : Nat) : Int) = (k : Int) + 1 by omega] at this
    exact this
   | inr r => rfl
  ·obtain rfl : k = l.length := by omega
   rw [if_neg (by simp), List.drop_eq_nil_of_le (by omega)]; rfl
theorem iter_run {α σ R : Type} [Inhabited α] {l : List α} (st : α → σ → σ ⊕ R) (E : σ → R) {F : (Int × σ → R) → Int × σ → R} {d : Int × σ → R} {s : σ}
  (hF : ∀ ag i s, F ag (i, s) = if i < (l.length : Int) then (match st (gt l i) s with | .inl s' => ag (i + 1, s') | .inr r => r) else E s) :
  iter (((l.length : Int) - 0).toNat + 1) F d (0, s) = foldE st E l s := by
 have := iter_run_aux (d := d) hF (((l.length : Int) - 0).toNat + 1) 0 s (by omega) (by omega)
 simpa using this
theorem foldE_l {α σ R : Type} {g : α → σ → σ} {E : σ → R} : ∀ {l : List α} {s : σ}, foldE (fun a s => .inl (g a s)) E l s = E (l.foldl (fun s a => g a s) s)
 | [], _ => rfl
 | a :: l, s => by simp only [foldE, List.foldl_cons]; exact foldE_l
theorem arrF_full {α : Type} [Inhabited α] : ∀ {k : Nat} {i : Nat} {l : List α}, l.length = i + k → arrF l k i = l.drop i
 | 0, i, l, h => by simp [arrF, h]
 | k + 1, i, l, h => by
  have hi : i < l.length := by omega
  rw [List.drop_eq_getElem_cons hi]
  simp only [arrF]
  have := arrF_full (k := k) (i := i + 1) (l := l) (by omega)
  rw [show ((i + 1 : Nat) : Int) = (i : Int) + 1 by omega] at this
  rw [this]
  simp [gt, List.getD_eq_getElem?_getD, hi]
theorem arrN_full {α : Type} [Inhabited α] {l : List α} {n : Nat} (h : l.length = n) : arrN n l = l := by
 have := arrF_full (k := n) (i := 0) (l := l) (by omega)
 simpa [arrN] using this
theorem arrF_get {α : Type} [Inhabited α] {l : List α} : ∀ {k : Nat} {i j : Nat}, j < k → (arrF l k i).getD j default = gt l ((i + j : Nat) : Int)
 | k + 1, i, 0, _ => by simp [arrF]
 | k + 1, i, j + 1, h => by
  have := arrF_get (l := l) (k := k) (i := i + 1) (j := j) (by omega)
  simp only [arrF, List.getD_cons_succ]
  rw [show ((i : Int) + 1) = ((i + 1 : Nat) : Int) from rfl, this]
  congr 1; omega
theorem arr_get {α : Type} [Inhabited α] {f : α → V} {n : Nat} {l : List α} {i : Int} (h : 0 ≤ i ∧ i.toNat < n) : ((arrN n l).map f).getD (0 + i.toNat * 1) .un = f (gt l i) := by
 have h1 : (arrN n l).length = n := arrN_len
 have h2 := arrF_get (l := l) (k := n) (i := 0) (j := i.toNat) h.2
 have h3 : gt (arrN n l) i = gt l i := by
  rw [show gt (arrN n l) i = (arrF l n ((0 : Nat) : Int)).getD i.toNat default from rfl, h2]
  congr 1; omega
 rw [← h3]
 simp [gt, List.getD_eq_getElem?_getD, h1, h.2]
theorem arr_get1 {α : Type} [Inhabited α] {f : α → V} {n : Nat} {l : List α} {i : Int} (h : 0 ≤ i ∧ i.toNat < n) : ((arrN n l).map f).getD (i.toNat * 1) .un = f (gt l i) := by
 have := arr_get (f := f) (n := n) (l := l) (i := i) h
 rwa [Nat.zero_add] at this
theorem pp_get {α : Type} [Inhabited α] {f : α → V} {l : List α} {n : Nat} {i : Int} (hl : l.length = n) (h : 0 ≤ i ∧ i.toNat < n) : (l.map f).getD (i.toNat * 1) .un = f (gt l i) := by
 subst hl
 simp [gt, List.getD_eq_getElem?_getD, h.2]
theorem arr_put {α : Type} [Inhabited α] {f : α → V} {n : Nat} {l : List α} {i : Int} {v : α} (hl : l.length = n) (h : 0 ≤ i ∧ i.toNat < n) : (l.map f).take (0 + i.toNat * 1) ++ [f v] ++ (l.map f).drop (0 + i.toNat * 1 + 1) = (arrN n (st l i v)).map f := by
 rw [arrN_full (by rw [st_len]; exact hl)]
 unfold st
 rw [List.set_eq_take_append_cons_drop, if_pos (by omega)]
 simp [List.map_take, List.map_drop]
def remA {β : Type} (i : Nat) : List (Nat × β) → List (Nat × β)
 | [] => []
 | (k, b) :: l => if k = i then remA i l else (k, b) :: remA i l
attribute [go_sem] remA
end Go.Proofs.YtjnikknlcmbcmaaGreatDoor
namespace Go.Proofs.YtjnikknlcmbcmaaGreatDoor
open Go.RowKit
set_option linter.unusedVariables false
set_option linter.unusedSimpArgs false
def be : Nat → Int → List Int
 | 0, _ => []
 | k + 1, n => be k (n / 256) ++ [n % 256]
theorem be_len : ∀ {k : Nat} {n : Int}, (be k n).length = k
 | 0, _ => rfl
 | k + 1, n => by simp [be, be_len (k := k)]
theorem mod_step (n m : Int) (h : 0 < m) : n % (256 * m) = 256 * (n / 256 % m) + n % 256 := by
 have h1 := Int.mul_ediv_add_emod n 256
 have h2 := Int.mul_ediv_add_emod (n / 256) m
 have h3 := Int.emod_nonneg (n / 256) (show m ≠ 0 by omega)
 have h4 := Int.emod_lt_of_pos (n / 256) h
 generalize n / 256 % m = s at *
 generalize hq : n / 256 / m = t at *
 have e : n = (256 * s + n % 256) + 256 * m * t := by
  have : 256 * m * t = 256 * (m * t) := by rw [Int.mul_assoc]
  omega
 have e2 : n % (256 * m) = (256 * s + n % 256) % (256 * m) := by
  conv => lhs; rw [e]
  rw [Int.add_mul_emod_self_left]
 rw [e2]
 exact Int.emod_eq_of_lt (by omega) (by omega)
theorem be_mod : ∀ {k : Nat} {n m : Int}, n % 256 ^ k = m % 256 ^ k → be k n = be k m
 | 0, _, _, _ => rfl
 | k + 1, n, m, h => by
  have hp : (0 : Int) < 256 ^ k := Int.pow_pos (by omega)
  rw [show (256 : Int) ^ (k + 1) = 256 * 256 ^ k by rw [Int.pow_succ, Int.mul_comm], mod_step _ _ hp, mod_step _ _ hp] at h
  have h1 := Int.emod_nonneg (n / 256) (show (256 : Int) ^ k ≠ 0 by omega)
  have h2 := Int.emod_nonneg (m / 256) (show (256 : Int) ^ k ≠ 0 by omega)
  simp only [be]
  rw [show n % 256 = m % 256 by omega, be_mod (k := k) (show n / 256 % 256 ^ k = m / 256 % 256 ^ k by omega)]
mutual
def hgt : S_api_Item → Nat
 | ⟨_, _, b, l⟩ => 1 + b.length + hgtL l
def hgtL : List S_api_Item → Nat
 | [] => 0
 | x :: l => hgt x + hgtL l
end
theorem hgt_mem : ∀ {l : List S_api_Item} {x : S_api_Item}, x ∈ l → hgt x ≤ hgtL l
 | y :: l, x, h => by
  simp only [hgtL]
  rcases List.mem_cons.1 h with rfl | h
  ·omega
  ·have := hgt_mem h; omega
theorem hgt_eq (i : S_api_Item) : hgt i = 1 + i.B.length + hgtL i.L := by cases i; rfl
theorem hgt_L {i x : S_api_Item} (h : x ∈ i.L) : hgt x < hgt i := by
 have := hgt_mem h
 rw [hgt_eq i]; omega
mutual
def withinM : S_api_Item → Int → Bool
 | ⟨k, n, b, l⟩, d => if k == 1 then b.isEmpty && l.isEmpty else if k == 2 then n == 0 && l.isEmpty else if k == 3 then n == 0 && (b.isEmpty && (decide (0 < d) && (decide (l.length ≤ 1000) && withinL l (d - 1)))) else false
def withinL : List S_api_Item → Int → Bool
 | [], _ => true
 | x :: l, d => withinM x d && withinL l d
end
theorem withinL_all : ∀ {l : List S_api_Item} {d : Int}, withinL l d = l.all (fun x => withinM x d)
 | [], _ => rfl
 | x :: l, d => by simp only [withinL, List.all_cons, withinL_all (l := l)]
theorem wrap_u64 {a : Int} (h0 : 0 ≤ a) (h1 : a < 18446744073709551616) : IntKind.wrap .u64 a = a := by
 simp only [IntKind.wrap, IntKind.bits, IntKind.signed]; simp; omega
mutual
def writeM : List Int → S_api_Item → List Int
 | out, ⟨k, n, b, l⟩ => if out.length > 16384 then out else if k == 1 then out ++ (1 :: be 8 n) else if k == 2 then out ++ (2 :: be 4 b.length) ++ b else writeL (out ++ (k % 256 :: be 4 l.length)) l
def writeL : List Int → List S_api_Item → List Int
 | out, [] => out
 | out, x :: l => writeL (writeM out x) l
end
end Go.Proofs.YtjnikknlcmbcmaaGreatDoor
namespace Go.Proofs.YtjnikknlcmbcmaaGreatDoor
open Go.RowKit
def pairM (I : List Int → List Int → List Int) : List (List Int) → List (List Int)
 | a :: b :: l => I a b :: pairM I l
 | _ => []
def lenOk (l : List (List Int)) : Prop := ∃ d : Nat, d ≤ 10 ∧ l.length = 2 ^ d
theorem shl_one {v : Int} (h0 : 0 ≤ v) (h1 : v ≤ 10) : shlI .i64 1 v = 2 ^ v.toNat := by
 have : v = 0 ∨ v = 1 ∨ v = 2 ∨ v = 3 ∨ v = 4 ∨ v = 5 ∨ v = 6 ∨ v = 7 ∨ v = 8 ∨ v = 9 ∨ v = 10 := by omega
 rcases this with rfl | rfl | rfl | rfl | rfl | rfl | rfl | rfl | rfl | rfl | rfl <;> decide
theorem pow_le {v : Nat} (h : v ≤ 10) : (2 : Int) ^ v ≤ 1024 := by
 have : v = 0 ∨ v = 1 ∨ v = 2 ∨ v = 3 ∨ v = 4 ∨ v = 5 ∨ v = 6 ∨ v = 7 ∨ v = 8 ∨ v = 9 ∨ v = 10 := by omega
 rcases this with rfl | rfl | rfl | rfl | rfl | rfl | rfl | rfl | rfl | rfl | rfl <;> decide
def chunk2 {α : Type} : List α → List (List α)
 | a :: b :: l => [a, b] :: chunk2 l
 | _ => []
theorem chunk2_len {α : Type} {y : List α} : ∀ {l : List α}, y ∈ chunk2 l → y.length = 2
 | a :: b :: l, h => by
  simp only [chunk2, List.mem_cons] at h
  rcases h with rfl | h
  ·rfl
  ·exact chunk2_len h
 | [], h => by simp [chunk2] at h
 | [_], h => by simp [chunk2] at h
theorem chunk2_length {α : Type} : ∀ {k : Nat} {l : List α}, l.length = 2 * k → (chunk2 l).length = k
 | 0, l, h => by
  have : l = [] := List.length_eq_zero_iff.1 (by omega)
  subst this; rfl
 | k + 1, a :: b :: l, h => by
  simp only [chunk2, List.length_cons] at h ⊢
  rw [chunk2_length (k := k) (by omega)]
 | k + 1, [], h => by simp at h
 | k + 1, [a], h => by simp at h; omega
theorem pair_half {l : List (List Int)} (h : lenOk l) (h1 : 1 < l.length) : ∃ d : Nat, d + 1 ≤ 10 ∧ l.length = 2 * 2 ^ d := by
 obtain ⟨d, hd, e⟩ := h
 cases d with
 | zero => rw [e] at h1; simp at h1
 | succ d => exact ⟨d, hd, by rw [e, Nat.pow_succ]; omega⟩
theorem pair_even {l : List (List Int)} (h : lenOk l) (h1 : 1 < l.length) : ∃ m, l.length = 2 * m := by
 obtain ⟨d, _, e⟩ := pair_half h h1
 exact ⟨_, e⟩
theorem pair_ok {l p : List (List Int)} (h : lenOk l) (h1 : 1 < l.length) (hp : p.length = (chunk2 l).length) : lenOk p := by
 obtain ⟨d, hd, e⟩ := pair_half h h1
 exact ⟨d, by omega, by rw [hp, chunk2_length e]⟩
theorem pair_lt {l p : List (List Int)} (h : lenOk l) (h1 : 1 < l.length) (hp : p.length = (chunk2 l).length) : p.length < l.length := by
 obtain ⟨d, hd, e⟩ := pair_half h h1
 have : 0 < 2 ^ d := Nat.pow_pos (by decide)
 rw [hp, chunk2_length e]; omega
end Go.Proofs.YtjnikknlcmbcmaaGreatDoor
