/- Texts of this proof, one after the other: A1, S3, S4, A2, L1, L2, L3, L4, L5. -/
import Derived.Test.YtjnikknlcmbcmaaGreatDoorZ8
import Derived.Test.YtjnikknlcmbcmaaGreatDoorZ6
import Derived.Lib.TrailingZeros
import Derived.KernelRfl
set_option linter.unusedVariables false
set_option linter.unusedSimpArgs false
namespace Go.Proofs.YtjnikknlcmbcmaaGreatDoor
open Go.RowKit
theorem and1u {e : Int} (h0 : 0 ≤ e) (h1 : e ≤ 18446744073709551615) : andI .u64 e 1 = e % 2 := by
 obtain ⟨k, rfl⟩ := Int.eq_ofNat_of_zero_le h0
 unfold andI
 have e1 : (BitVec.ofInt IntKind.u64.bits (k : Int)).toNat = k := by
  show (BitVec.ofInt 64 (k : Int)).toNat = k
  rw [BitVec.toNat_ofInt]; omega
 have e2 : (BitVec.ofInt IntKind.u64.bits 1).toNat = 2 ^ 1 - 1 := by decide
 rw [BitVec.toNat_and, e1, e2, Nat.and_two_pow_sub_one_eq_mod, w64]
 omega
theorem and1i {e : Int} (h0 : 0 ≤ e) (h1 : e ≤ 9223372036854775807) : andI .i64 e 1 = e % 2 := by
 obtain ⟨k, rfl⟩ := Int.eq_ofNat_of_zero_le h0
 unfold andI
 have e1 : (BitVec.ofInt IntKind.i64.bits (k : Int)).toNat = k := by
  show (BitVec.ofInt 64 (k : Int)).toNat = k
  rw [BitVec.toNat_ofInt]; omega
 have e2 : (BitVec.ofInt IntKind.i64.bits 1).toNat = 2 ^ 1 - 1 := by decide
 rw [BitVec.toNat_and, e1, e2, Nat.and_two_pow_sub_one_eq_mod, IntKind.wrap_i64]
 omega
theorem rem_one {m : Int} (h : 1 < m) : remI .i64 1 m = 1 := by
 rw [rem_nn (by decide)]; exact Int.emod_eq_of_lt (by decide) h
theorem mod_rng {x m : Int} (h : 0 < m) : 0 ≤ x % m ∧ x % m < m := ⟨Int.emod_nonneg _ (by omega), Int.emod_lt_of_pos _ h⟩
theorem pow_rel {m : Int} (hm : 0 < m) {M1 M2 : Int → Int → Int} (h1 : ∀ a b, 0 ≤ a → a < m → 0 ≤ b → b < m → M1 a b = a * b % m) (h2 : ∀ a b, 0 ≤ a → a < m → 0 ≤ b → b < m → M2 a b = a * b % m)
  {A H : Int → Int} {U : Int} (hA : ∀ e, 0 ≤ e → e ≤ U → A e = e % 2) (hH : ∀ e, 0 ≤ e → e ≤ U → H e = e / 2) {R : Type} {out : Int → R}
  {F : (Int × Int × Int → R) → Int × Int × Int → R} {G : (Int × Int × Int → Int) → Int × Int × Int → Int} {d1 : Int × Int × Int → R} {d2 : Int × Int × Int → Int}
  (hF : ∀ ag p, F ag p = if decide (p.2.1 > 0) = true then (if (A p.2.1 == 1) = true then ag (M1 p.1 p.1, H p.2.1, M1 p.2.2 p.1) else ag (M1 p.1 p.1, H p.2.1, p.2.2)) else out p.2.2)
  (hG : ∀ ag p, G ag p = if decide (p.2.1 > 0) = true then (if (p.2.1 % 2 == 1) = true then ag (M2 p.1 p.1, p.2.1 / 2, M2 p.2.2 p.1) else ag (M2 p.1 p.1, p.2.1 / 2, p.2.2)) else p.2.2)
  {a e o : Int} (ha : 0 ≤ a ∧ a < m) (he : 0 ≤ e ∧ e ≤ U) (ho : 0 ≤ o ∧ o < m) {n k : Nat} (hn : e.toNat < n) (hk : e.toNat < k) :
  iter n F d1 (a, e, o) = out (iter k G d2 (a, e, o)) := by
 refine iter_rel (fun p q : Int × Int × Int => p = q ∧ (0 ≤ p.1 ∧ p.1 < m) ∧ (0 ≤ p.2.1 ∧ p.2.1 ≤ U) ∧ 0 ≤ p.2.2 ∧ p.2.2 < m) (fun r s => r = out s) (fun p => p.2.1.toNat) ?_ n k _ _ ⟨rfl, ha, he, ho⟩ hn hk
 rintro ag bg ⟨a, e, o⟩ q ⟨rfl, p1, p2, p3⟩ ih
 simp only at p1 p2 p3 ih
 rw [hF, hG]
 simp only
 by_cases hc : e > 0
 ·have hd : decide (e > 0) = true := by simpa using hc
  rw [if_pos hd, if_pos hd]
  have e1 := h1 a a p1.1 p1.2 p1.1 p1.2
  have e2 := h2 a a p1.1 p1.2 p1.1 p1.2
  have e3 := h1 o a p3.1 p3.2 p1.1 p1.2
  have e4 := h2 o a p3.1 p3.2 p1.1 p1.2
  rw [hA e p2.1 p2.2, hH e p2.1 p2.2, e1, e2, e3, e4]
  have hr : 0 ≤ e / 2 ∧ e / 2 ≤ U := by omega
  split
  ·exact ih _ _ ⟨rfl, mod_rng hm, hr, mod_rng hm⟩ (by show (e / 2).toNat < e.toNat; omega)
  ·exact ih _ _ ⟨rfl, mod_rng hm, hr, p3⟩ (by show (e / 2).toNat < e.toNat; omega)
 ·have hd : ¬ decide (e > 0) = true := by simpa using hc
  rw [if_neg hd, if_neg hd]
theorem ppow_eq {a e n : Int} (ha : 0 ≤ a) (hn : a < n) (h1 : 1 < n) (hn1 : n < 2305843009213693952) (he : 0 ≤ e ∧ e ≤ 18446744073709551615) : prime_pow a e n = specieref01_Pow a e n := by
 unfold prime_pow specieref01_Pow
 rw [rem_one h1]
 exact pow_rel (m := n) (by omega) (M1 := fun a b => prime_mul a b n) (M2 := fun a b => specieref01_Mul a b n) (A := fun e => andI .u64 e 1) (H := fun e => shrI .u64 e 1) (U := 18446744073709551615) (out := fun x => x)
  (fun a b x1 x2 x3 x4 => prime_mul_eq x1 x2 x3 (by omega) (by omega)) (fun a b x1 x2 x3 x4 => rmul_eq x1 x2 x3)
  (fun e x1 x2 => and1u x1 x2) (fun e x1 x2 => shr1 e) (fun ag p => rfl) (fun ag p => rfl) ⟨ha, hn⟩ he ⟨by decide, h1⟩ (Nat.lt_succ_self _) (Nat.lt_succ_self _)
theorem word_check_self {a m : Int} (h0 : 0 ≤ a) (h1 : a < m) (h2 : m < 2305843009213693952) : word_check a a m = 0 := by
 unfold word_check word_residue letk
 rw [if_neg (by simp; omega), if_neg (by simp; omega), if_pos (by simpa using h0)]
 simp [h1]
theorem wpow_eq {a e m : Int} (ha : 0 ≤ a) (hm : a < m) (hm1 : m < 2305843009213693952) (he : 0 ≤ e ∧ e ≤ 9223372036854775807) : word_Pow a e m = (specieref01_Pow a e m, 0) := by
 unfold word_Pow specieref01_Pow
 refine letk_go fun x1 h1 => ?_
 rw [word_check_self ha hm hm1] at h1
 subst h1
 rw [if_neg (by decide), if_neg (by simp; omega)]
 exact pow_rel (m := m) (by omega) (M1 := fun a b => word_mul a b m) (M2 := fun a b => specieref01_Mul a b m) (A := fun e => andI .i64 e 1) (H := fun e => shrI .i64 e 1) (U := 9223372036854775807) (out := fun x => (x, 0))
  (fun a b x1 x2 x3 x4 => word_mul_eq x1 x2 x3 (by omega) (by omega)) (fun a b x1 x2 x3 x4 => rmul_eq x1 x2 x3)
  (fun e x1 x2 => and1i x1 x2) (fun e x1 x2 => shr1i e) (fun ag p => rfl) (fun ag p => rfl) ⟨ha, hm⟩ he (rem1_rng (by omega)) (Nat.lt_succ_self _) (Nat.lt_succ_self _)
theorem getD_cast {l : List Nat} {i : Nat} : (l.map (fun n : Nat => (n : Int))).getD i default = ((l.getD i 0 : Nat) : Int) := by
 simp only [List.getD_eq_getElem?_getD, List.getElem?_map]
 cases l[i]? <;> rfl
theorem tz_eq {x : Nat} (h0 : x ≠ 0) (h1 : x < 18446744073709551616) : math_bits_TrailingZeros64 (x : Int) = (Lib.ctz 64 x : Int) := by
 obtain ⟨hlow, hk⟩ := Lib.lowest_bit 64 x h0 h1
 obtain ⟨hi, htab⟩ := Lib.deBruijn64_at _ hk
 rw [show (2 : Nat) ^ 64 = 18446744073709551616 by decide] at hlow
 unfold math_bits_TrailingZeros64
 generalize Lib.ctz 64 x = c at hlow hk hi htab
 rw [if_neg (by simp; omega)]
 have e0 : negI .u64 (x : Int) = ((18446744073709551616 - x : Nat) : Int) := by unfold negI; rw [w64]; omega
 have e1 : andI .u64 (x : Int) (negI .u64 (x : Int)) = ((2 ^ c : Nat) : Int) := by
  rw [e0, ← hlow]
  unfold andI
  have a1 : (BitVec.ofInt IntKind.u64.bits (x : Int)).toNat = x := by
   show (BitVec.ofInt 64 (x : Int)).toNat = x
   rw [BitVec.toNat_ofInt]; omega
  have a2 : (BitVec.ofInt IntKind.u64.bits ((18446744073709551616 - x : Nat) : Int)).toNat = 18446744073709551616 - x := by
   show (BitVec.ofInt 64 ((18446744073709551616 - x : Nat) : Int)).toNat = _
   rw [BitVec.toNat_ofInt]; omega
  rw [BitVec.toNat_and, a1, a2]
  have := Nat.and_le_left (n := x) (m := 18446744073709551616 - x)
  exact w_id (by omega) (by omega)
 have e2 : shrI .u64 (mulI .u64 (andI .u64 (x : Int) (negI .u64 (x : Int))) 285870213051353865) 58 = ((2 ^ c * 285870213051353865 % 18446744073709551616 / 288230376151711744 : Nat) : Int) := by
  rw [e1, shr58]
  unfold mulI
  rw [w64]
  generalize 2 ^ c = t
  omega
 rw [e2, gt_nat]
 have e3 : kg_4.getD (2 ^ c * 285870213051353865 % 18446744073709551616 / 288230376151711744) default = ((Lib.deBruijn64tab.getD (2 ^ c * 285870213051353865 % 18446744073709551616 / 288230376151711744) 0 : Nat) : Int) := by
  have hm : kg_4 = Lib.deBruijn64tab.map (fun n : Nat => (n : Int)) := by decide +kernel
  rw [hm, getD_cast]
 rw [e3]
 have e4 : Lib.deBruijn64tab.getD (2 ^ c * 285870213051353865 % 18446744073709551616 / 288230376151711744) 0 = c := htab
 rw [e4]
 clear hlow hi htab e0 e1 e2 e3 e4
 exact conv_i64 (by omega) (by omega)
def mrTail (n a d s : Int) : Bool :=
 if specieref01_Pow a d n == 1 then true else if specieref01_Pow a d n == n - 1 then true else
  iter ((s - 1).toNat + 1) (fun (ag : Int × Int → Bool) (p : Int × Int) => if decide (p.2 < s) = true then (if (specieref01_Mul p.1 p.1 n == n - 1) = true then true else ag (specieref01_Mul p.1 p.1 n, p.2 + 1)) else false) (fun _ => default) (specieref01_Pow a d n, 1)
theorem strong_loop {n a : Int} {F : (Int × Int → Bool) → Int × Int → Bool} {d : Int × Int → Bool} (hF : ∀ ag p, F ag p = if (p.1 % 2 == 0) = true then ag (p.1 / 2, p.2 + 1) else mrTail n a p.1 p.2) (m : Int) (hm : 0 ≤ m) :
  ∀ (k fuel : Nat) (s : Int), k < fuel → iter fuel F d (2 ^ k * (2 * m + 1), s) = mrTail n a (2 * m + 1) (s + k)
 | 0, fuel, s, hf => by
  obtain ⟨f, rfl⟩ : ∃ f, fuel = f + 1 := ⟨fuel - 1, by omega⟩
  rw [iter, hF]
  simp only [Int.pow_zero, Int.one_mul]
  have hd : ¬ ((2 * m + 1) % 2 == 0) = true := by
   rw [beq_iff_eq]; omega
  rw [if_neg hd]
  simp
 | k + 1, fuel, s, hf => by
  obtain ⟨f, rfl⟩ : ∃ f, fuel = f + 1 := ⟨fuel - 1, by omega⟩
  have e : (2 : Int) ^ (k + 1) * (2 * m + 1) = 2 * (2 ^ k * (2 * m + 1)) := by rw [Int.pow_succ, Int.mul_comm (2 ^ k) 2, Int.mul_assoc]
  rw [iter, hF, e]
  generalize hT : (2 : Int) ^ k * (2 * m + 1) = T
  simp only
  rw [if_pos (by rw [beq_iff_eq]; omega), show 2 * T / 2 = T by omega, ← hT, strong_loop hF m hm k f (s + 1) (by omega)]
  congr 1
  push_cast
  omega
theorem two_pow_ge (k : Nat) : k < 2 ^ k := Nat.lt_two_pow_self
theorem strong_eq {n a : Int} {k : Nat} {m : Int} (hm : 0 ≤ m) (hn : n - 1 = 2 ^ k * (2 * m + 1)) : specieref05_strong n a = mrTail n a (2 * m + 1) k := by
 unfold specieref05_strong
 rw [hn]
 have h := strong_loop (n := n) (a := a) (F := fun (ag2 : (Int × Int) → Bool) (p2 : Int × Int) => (if ((p2.1 % 2) == 0) then (ag2 ((p2.1 / 2), (p2.2 + 1))) else mrTail n a p2.1 p2.2)) (d := fun _ => default) (fun ag p => rfl) m hm k ((2 ^ k * (2 * m + 1)).toNat + 1) 0 (by
  have h1 : (2 : Int) ^ k * 1 ≤ 2 ^ k * (2 * m + 1) := Int.mul_le_mul_of_nonneg_left (by omega) (Int.le_of_lt (Int.pow_pos (by decide)))
  have h2 := two_pow_ge k
  have h3 : ((2 ^ k : Nat) : Int) = 2 ^ k := by push_cast; rfl
  omega)
 rw [Int.zero_add] at h
 rw [← h, ← hn]
 rfl
theorem comp_eq {n a d s : Int} (ha : 0 ≤ a) (han : a < n) (h1 : 1 < n) (hn : n < 2305843009213693952) (hd : 0 ≤ d ∧ d ≤ 18446744073709551615) (hs : 0 ≤ s ∧ s ≤ 64) : prime_composite a n d s = !(mrTail n a d s) := by
 unfold prime_composite mrTail
 have e1 : subI .u64 n 1 = n - 1 := by unfold subI; rw [w_id (by omega) (by omega)]
 rw [ppow_eq ha han h1 hn hd, e1, si64 hs.1 hs.2]
 simp only [letk]
 have hx := rpow_rng (x := specieref01_Pow a d n) rfl ha han (e := d)
 generalize specieref01_Pow a d n = x at hx
 by_cases c1 : (x == 1) = true
 ·rw [if_pos c1, if_pos c1]; rfl
 rw [if_neg c1, if_neg c1]
 by_cases c2 : (x == n - 1) = true
 ·rw [if_pos c2, if_pos c2]; rfl
 rw [if_neg c2, if_neg c2]
 refine iter_rel (fun p q : Int × Int => q = (p.1, p.2 + 1) ∧ (0 ≤ p.1 ∧ p.1 < n) ∧ 0 ≤ p.2) (fun r s : Bool => r = !s) (fun p => (s - 1 - p.2).toNat) ?_ _ _ _ _ ⟨rfl, hx, Int.le_refl 0⟩ (by show (s - 1 - 0).toNat < _; omega) (by show (s - 1 - 0).toNat < _; omega)
 rintro ag bg ⟨x, i⟩ q ⟨rfl, p1, p2⟩ ih
 simp only at p1 p2 ih ⊢
 by_cases hi : i < s - 1
 ·rw [if_pos (show decide (i < s - 1) = true by simpa using hi), if_pos (show decide (i + 1 < s) = true by simp only [decide_eq_true_eq]; omega)]
  have e2 := prime_mul_eq p1.1 p1.2 p1.1 (by omega) (show n ≤ 18446744073709551615 by omega)
  have e3 := rmul_eq p1.1 p1.2 p1.1
  rw [e2, e3]
  split
  ·rfl
  ·exact ih _ _ ⟨rfl, mod_rng (by omega), by show 0 ≤ i + 1; omega⟩ (by show (s - 1 - (i + 1)).toNat < (s - 1 - i).toNat; omega)
 ·rw [if_neg (show ¬ decide (i < s - 1) = true by simpa using hi), if_neg (show ¬ decide (i + 1 < s) = true by simp only [decide_eq_true_eq]; omega)]
  rfl
theorem base_at {p : Int} : gt kg_0 p = gt ([2, 3, 5, 7, 11, 13, 17, 19, 23, 29, 31, 37] : List Int) p := rfl
theorem is_eq {n : Int} (hn : n < 2305843009213693952) : prime_Is n = specieref05_Is n := by
 unfold prime_Is specieref05_Is
 by_cases h2 : n < 2
 ·rw [if_pos (by simpa using h2), if_pos (by simpa using h2)]
 rw [if_neg (by simpa using h2), if_neg (by simpa using h2)]
 have ec : convI .u64 n = n := conv_u64 (by omega) (by omega)
 rw [ec]
 refine iter_rel (fun p q : Int => p = q ∧ 0 ≤ p ∧ p ≤ 12 ∧ NoDiv n p) (fun r s : Bool => r = s) (fun p => (12 - p).toNat) ?_ _ _ _ _ ⟨rfl, by decide, by decide, NoDiv_zero⟩ (by decide) (by decide)
 rintro ag bg p q ⟨rfl, p1, p2, p3⟩ ih
 by_cases hp : p < 12
 ·rw [if_pos (show decide (p < 12) = true by simpa using hp), if_pos (show decide (p < 12) = true by simpa using hp), ← base_at]
  by_cases hr : (remI .u64 n (gt kg_0 p) == 0) = true
  ·rw [if_pos hr, if_pos (show (remI .i64 n (gt kg_0 p) == 0) = true from hr)]
  ·rw [if_neg hr, if_neg (show ¬ (remI .i64 n (gt kg_0 p) == 0) = true from hr)]
   exact ih _ _ ⟨rfl, by omega, by omega, NoDiv_step p3 (by omega) p1 hp (by simpa using hr)⟩ (by omega)
 ·rw [if_neg (show ¬ decide (p < 12) = true by simpa using hp), if_neg (show ¬ decide (p < 12) = true by simpa using hp), if_neg (show ¬ decide (n ≥ 2305843009213693952) = true by simp only [decide_eq_true_eq]; omega)]
  have h37 := NoDiv_all p3 (by omega) (by omega)
  have es : subI .u64 n 1 = n - 1 := by unfold subI; rw [w_id (by omega) (by omega)]
  rw [es]
  obtain ⟨x, hx⟩ := Int.eq_ofNat_of_zero_le (show 0 ≤ n - 1 by omega)
  obtain ⟨m, hm, hk⟩ := Lib.ctzFrom_spec 64 x (by omega) (by omega)
  have ez : math_bits_TrailingZeros64 (n - 1) = (Lib.ctzFrom 64 x : Nat) := by
   rw [hx, tz_eq (by omega) (by omega)]
   unfold Lib.ctz
   rw [if_neg (by omega)]
  simp only [letk, ez]
  generalize Lib.ctzFrom 64 x = k at hm hk
  have hxi : n - 1 = 2 ^ k * (2 * (m : Int) + 1) := by rw [hx, hm]; push_cast; rfl
  have esh : shrI .u64 (n - 1) (k : Int) = 2 * (m : Int) + 1 := by
   rw [shr_eq (m := k) (by rw [Int.toNat_natCast]; show min k 64 = k; omega), hxi]
   exact Int.mul_ediv_cancel_left _ (Int.ne_of_gt (Int.pow_pos (by decide)))
  have hpk : (1 : Int) ≤ 2 ^ k := by
   have h3 : ((2 ^ k : Nat) : Int) = 2 ^ k := by push_cast; rfl
   have := two_pow_ge k
   omega
  have hd : 2 * (m : Int) + 1 ≤ n - 1 := by
   have h1 : (1 : Int) * (2 * m + 1) ≤ 2 ^ k * (2 * m + 1) := Int.mul_le_mul_of_nonneg_right hpk (by omega)
   omega
  rw [esh]
  refine iter_rel (fun p q : Int => p = q ∧ 0 ≤ p) (fun r s : Bool => r = s) (fun p => (12 - p).toNat) ?_ _ _ _ _ ⟨rfl, by decide⟩ (by decide) (by decide)
  rintro ag bg p q ⟨rfl, p1⟩ ih
  by_cases hp : p < 12
  ·rw [if_pos (show decide (p < 12) = true by simpa using hp), if_pos (show decide (p < 12) = true by simpa using hp), ← base_at]
   obtain ⟨b0, b1⟩ := kg2_rng p1 hp
   rw [comp_eq (by omega) (by omega) (by omega) hn (by omega) (by omega), strong_eq (by omega) hxi]
   split
   ·rfl
   ·exact ih _ _ ⟨rfl, by omega⟩ (by omega)
  ·rw [if_neg (show ¬ decide (p < 12) = true by simpa using hp), if_neg (show ¬ decide (p < 12) = true by simpa using hp)]
end Go.Proofs.YtjnikknlcmbcmaaGreatDoor
namespace Go.Proofs.YtjnikknlcmbcmaaGreatDoor
open Go.RowKit
theorem isB_rep (n : Nat) : isB (List.replicate n 0) := fun x hx => by
 rw [(List.mem_replicate.1 hx).2]; decide
theorem count_eq (n : Int) : digest_count n = specieref06_bytes n := by kernel_rfl
theorem bytes_isB (n : Int) : isB (specieref06_bytes n) := by
 rw [bytes_list]
 have key : ∀ a, 0 ≤ convI .u8 a ∧ convI .u8 a ≤ 255 := fun a => by have := rng_convI .u8 a; rwa [rng_u8] at this
 intro x hx
 simp only [List.mem_cons, List.not_mem_nil, or_false] at hx
 rcases hx with rfl | rfl | rfl | rfl | rfl | rfl | rfl | rfl <;> exact key _
theorem mul8 {n : Nat} (h : n ≤ 1000000000) : mulI .u64 8 (convI .u64 (n : Int)) = mulI .i64 8 (n : Int) := by
 unfold mulI convI
 rw [w64, w64, IntKind.wrap_i64]
 omega
theorem padded_isB {b : List Int} (hb : isB b) : isB (specieref06_padded b) := by
 rw [padded_eq]
 exact isB_app (isB_app (isB_app hb (fun x hx => by simp at hx; subst hx; decide)) (isB_rep _)) (bytes_isB _)
theorem mix_len {h b : List Int} (hl : h.length = 8) : (digest_mix h b).length = 8 := by
 unfold digest_mix
 simp only [letk]
 generalize digest_schedule b = w
 refine iter_inv (fun (a : Int × Int × Int × Int × Int × Int × Int × Int × Int) => a.2.2.2.2.2.2.2.2 ≤ 64) (fun r : List Int => r.length = 8) (fun a => (64 - a.2.2.2.2.2.2.2.2).toNat) ?_ _ _ (show (0 : Int) ≤ 64 by decide) (show ((64 : Int) - 0).toNat < ((64 : Int) - 0).toNat + 1 by decide)
 rintro ag ⟨a0, a1, a2, a3, a4, a5, a6, a7, t⟩ g0 hag
 simp only at g0 hag
 by_cases ht : t < 64
 ·simp only [ht, decide_true, if_true]
  exact hag _ (by simp only; omega) (by simp only; omega)
 ·simp only [ht, decide_false, Bool.false_eq_true, if_false]
  refine iter_inv (fun (a : Int × List Int) => a.2.length = 8) (fun r : List Int => r.length = 8) (fun a => (8 - a.1).toNat) ?_ _ _ hl (show ((8 : Int) - 0).toNat < ((8 : Int) - 0).toNat + 1 by decide)
  rintro ag2 ⟨i, s⟩ k0 hag2
  simp only at k0 hag2
  by_cases hi : i < 8
  ·simp only [hi, decide_true, if_true]
   exact hag2 _ arrN_len (by simp only; omega)
  ·simp only [hi, decide_false, Bool.false_eq_true, if_false]
   exact k0
theorem sl_drop {l : List Int} {n : Nat} : sl (l.drop n) 0 64 = sl l (n : Int) ((n : Int) + 64) := by
 unfold sl
 rw [show ((n : Int) + 64).toNat - (n : Int).toNat = 64 by omega]
 simp
theorem sl_rest {l : List Int} {n : Nat} : sl (l.drop n) 64 ((l.drop n).length : Int) = l.drop (n + 64) := by
 unfold sl
 rw [show (64 : Int).toNat = 64 from rfl, List.drop_drop, List.take_of_length_le (by simp; omega)]
theorem sum_eq {b : List Int} (hb : isB b) (hl : b.length ≤ 1000000000) : digest_Sum b = specieref06_Sum b := by
 unfold digest_Sum specieref06_Sum
 simp only [letk, bytes_Clone]
 refine (pad_run (fun ag p => rfl)).trans ?_
 have hX := padded_isB hb
 have hX64 := padded_len b
 have e : (b ++ [128]) ++ List.replicate ((56 - ((b ++ [(128 : Int)]).length : Int)) % 64).toNat 0 ++ digest_count (mulI .u64 8 (convI .u64 (b.length : Int))) = specieref06_padded b := by
  rw [padded_eq, count_eq, mul8 hl]; rfl
 simp only [e]
 generalize specieref06_padded b = X at hX hX64
 refine iter_rel (fun (a : List Int × List Int) (c : Int × List Int) => ∃ n : Nat, c.1 = (n : Int) ∧ a.1 = X.drop n ∧ a.2 = c.2 ∧ c.2.length = 8 ∧ n ≤ X.length ∧ n % 64 = 0) (fun r s => r = s) (fun a => a.1.length) ?_ _ _ _ _ ⟨0, rfl, rfl, rfl, rfl, Nat.zero_le _, rfl⟩ (Nat.lt_succ_self _) (show X.length < ((X.length : Int) - 0).toNat + 1 by omega)
 rintro ag bg ⟨r, s⟩ ⟨at', s'⟩ ⟨n, rfl, rfl, rfl, g1, g2, g3⟩ hag
 simp only at g1 hag
 by_cases hn : n < X.length
 ·have c1 : ((X.drop n).length : Int) > 0 := by rw [List.length_drop]; omega
  have c2 : (n : Int) < (X.length : Int) := by omega
  have hlen : (sl X (n : Int) ((n : Int) + 64)).length = 64 := by rw [sl_len]; omega
  simp only [c1, c2, decide_true, if_true]
  rw [← words_eq hlen (isB_sl hX), sl_drop, sl_rest]
  have hrel : ∃ k : Nat, ((n : Int) + 64) = (k : Int) ∧ X.drop (n + 64) = X.drop k ∧ k ≤ X.length ∧ k % 64 = 0 := by
   generalize hk : n + 64 = k
   exact ⟨k, by omega, rfl, by omega, by omega⟩
  obtain ⟨k, k1, k2, k3, k4⟩ := hrel
  have hmu : (X.drop (n + 64)).length < (X.drop n).length := by rw [List.length_drop, List.length_drop]; omega
  have hm := mix_len (b := sl X (n : Int) ((n : Int) + 64)) g1
  have h1 := hag (X.drop (n + 64), digest_mix s (sl X (n : Int) ((n : Int) + 64))) ((n : Int) + 64, digest_mix s (sl X (n : Int) ((n : Int) + 64)))
  simp only at h1
  have h2 := h1 ⟨k, k1, k2, trivial, hm, k3, k4⟩ hmu
  refine Eq.trans h2 ?_
  exact (rnd_eq (fun z => bg ((n : Int) + 64, z)) g1).symm
 ·have c1 : ¬ ((X.drop n).length : Int) > 0 := by rw [List.length_drop]; omega
  have c2 : ¬ (n : Int) < (X.length : Int) := by omega
  simp only [c1, c2, decide_false, Bool.false_eq_true, if_false]
  show (_ : List Int) = _
  kernel_rfl
end Go.Proofs.YtjnikknlcmbcmaaGreatDoor
namespace Go.Proofs.YtjnikknlcmbcmaaGreatDoor
open Go.RowKit
theorem arr_range (h : List Int) : arrN 32 h = (List.range 32).map fun k : Nat => gt h (k : Int) := by kernel_rfl
theorem isB_arr {l : List Int} (h : isB l) : isB (arrN 32 l) := by
 rw [arr_range]
 intro x hx
 obtain ⟨k, _, rfl⟩ := List.mem_map.1 hx
 exact gt_isB h _
theorem isB_nat8 (t : List UInt8) : isB (nat8 t) := fun x hx => by
 obtain ⟨b, _, rfl⟩ := List.mem_map.1 hx
 have := UInt8.toNat_lt b
 omega
theorem isB_st {l : List Int} {i x : Int} (h : isB l) (hx : 0 ≤ x ∧ x ≤ 255) : isB (st l i x) := fun y hy => by
 rcases List.mem_or_eq_of_mem_set hy with h1 | h1
 ·exact h y h1
 ·rw [h1]; exact hx
theorem rsum_ok (b : List Int) : (specieref06_Sum b).length = 32 ∧ isB (specieref06_Sum b) := by
 have key : ∀ a, 0 ≤ convI .u8 a ∧ convI .u8 a ≤ 255 := fun a => by have := rng_convI .u8 a; rwa [rng_u8] at this
 unfold specieref06_Sum
 simp only [letk]
 generalize specieref06_padded b = X
 refine iter_inv (fun (_ : Int × List Int) => True) (fun r : List Int => r.length = 32 ∧ isB r) (fun a => ((X.length : Int) - a.1).toNat) ?_ _ _ trivial (show ((X.length : Int) - 0).toNat < ((X.length : Int) - 0).toNat + 1 by omega)
 rintro ag ⟨n, s⟩ _ hag
 simp only at hag
 by_cases hn : n < (X.length : Int)
 ·simp only [hn, decide_true, if_true]
  refine iter_inv (fun (_ : Int × List Int) => True) (fun r : List Int => r.length = 32 ∧ isB r) (fun a => (64 - a.1).toNat) ?_ _ _ trivial (show ((64 : Int) - 0).toNat < ((64 : Int) - 0).toNat + 1 by decide)
  rintro ag2 ⟨t, v⟩ _ hag2
  simp only at hag2
  by_cases ht : t < 64
  ·simp only [ht, decide_true, if_true]
   exact hag2 _ trivial (by simp only; omega)
  ·simp only [ht, decide_false, Bool.false_eq_true, if_false]
   refine iter_inv (fun (_ : Int × List Int) => True) (fun r : List Int => r.length = 32 ∧ isB r) (fun a => (8 - a.1).toNat) ?_ _ _ trivial (show ((8 : Int) - 0).toNat < ((8 : Int) - 0).toNat + 1 by decide)
   rintro ag3 ⟨i, h⟩ _ hag3
   simp only at hag3
   by_cases hi : i < 8
   ·simp only [hi, decide_true, if_true]
    exact hag3 _ trivial (by simp only; omega)
   ·simp only [hi, decide_false, Bool.false_eq_true, if_false]
    exact hag _ trivial (by simp only; omega)
 ·simp only [hn, decide_false, Bool.false_eq_true, if_false]
  refine iter_inv (fun (a : Int × List Int) => a.2.length = 32 ∧ isB a.2) (fun r : List Int => r.length = 32 ∧ isB r) (fun a => (32 - a.1).toNat) ?_ _ _ ⟨rfl, isB_rep 32⟩ (show ((32 : Int) - 0).toNat < ((32 : Int) - 0).toNat + 1 by decide)
  rintro ag2 ⟨t, v⟩ hv hag2
  simp only at hv hag2
  by_cases ht : t < 32
  ·simp only [ht, decide_true, if_true]
   exact hag2 _ ⟨arrN_len, isB_arr (isB_st (isB_arr hv.2) (key _))⟩ (by simp only; omega)
  ·simp only [ht, decide_false, Bool.false_eq_true, if_false]
   exact hv
theorem join_eq (b h : List Int) : specieref06_Join b h = b ++ arrN 32 h := by
 rw [arr_range]
 unfold specieref06_Join
 refine iter_inv (fun (a : Int × List Int) => ∃ k : Nat, a.1 = (k : Int) ∧ k ≤ 32 ∧ a.2 = b ++ (List.range k).map fun j : Nat => gt h (j : Int)) (fun r : List Int => r = b ++ (List.range 32).map fun k : Nat => gt h (k : Int)) (fun a => (32 - a.1).toNat) ?_ _ _ ⟨0, rfl, by decide, by simp⟩ (show ((32 : Int) - 0).toNat < ((32 : Int) - 0).toNat + 1 by decide)
 rintro ag ⟨i, q⟩ ⟨k, e1, e2, e3⟩ hag
 simp only at e1 e3 hag
 subst e1
 subst e3
 by_cases hi : k < 32
 ·have : (k : Int) < 32 := by omega
  simp only [this, decide_true, if_true]
  exact hag _ ⟨k + 1, rfl, hi, by rw [List.range_succ]; simp⟩ (by simp only; omega)
 ·have : ¬ (k : Int) < 32 := by omega
  have e : k = 32 := by omega
  simp only [this, decide_false, Bool.false_eq_true, if_false]
  rw [e]
theorem tagged_eq {tag : List UInt8} {b : List Int} (h1 : 1 ≤ tag.length) (h2 : tag.length ≤ 100) (hb : isB b) (hl : b.length ≤ 900000000) : digest_Tagged tag b = (specieref06_Tagged tag b, 0) := by
 unfold digest_Tagged specieref06_Tagged
 have c1 : ¬ (tag.length : Int) < 1 := by omega
 have c2 : ¬ (tag.length : Int) > 100 := by omega
 simp only [c1, c2, decide_false, Bool.false_eq_true, if_false, letk, bytes_Clone, join_eq, List.nil_append]
 have e1 := sum_eq (isB_nat8 tag) (by rw [nat8_len]; omega)
 obtain ⟨l1, l2⟩ := rsum_ok (nat8 tag)
 rw [e1]
 generalize specieref06_Sum (nat8 tag) = t at l1 l2
 have e2 : arrN 32 t = t := arrN_full l1
 rw [e2, sum_eq (isB_app (isB_app l2 l2) hb) (by simp only [List.length_append]; omega)]
theorem tagged_ok (tag : List UInt8) (b : List Int) : (specieref06_Tagged tag b).length = 32 ∧ isB (specieref06_Tagged tag b) := by
 unfold specieref06_Tagged
 simp only [letk]
 exact rsum_ok _
end Go.Proofs.YtjnikknlcmbcmaaGreatDoor
namespace Go.Proofs.YtjnikknlcmbcmaaGreatDoor
open Go.RowKit
theorem iteF {c : Prop} [Decidable c] {a : Bool} : ((if c then false else a) = true) ↔ (¬ c ∧ a = true) := by
 by_cases h : c <;> simp [h]
theorem iteA {c : Prop} [Decidable c] {a : Bool} : ((if c then a else false) = true) ↔ (c ∧ a = true) := by
 by_cases h : c <;> simp [h]
theorem lk {α β : Type} {a : α} {f : α → β} : letk a f = f a := rfl
theorem is_ge {n : Int} (h : prime_Is n = true) : 2 ≤ n := by
 unfold prime_Is at h
 rw [iteF] at h
 have := h.1
 simp only [decide_eq_true_eq] at this
 omega
theorem group_eq (g : S_api_Group) : group_Valid g = specieref10_Valid g := by
 rw [Bool.eq_iff_iff]
 unfold group_Valid specieref10_Valid
 simp only [lk, iteF, iteA, decide_eq_true_eq, beq_iff_eq, bne_iff_ne, ne_eq, Bool.not_eq_true', Bool.not_eq_false, Decidable.not_not]
 constructor
 ·rintro ⟨h1, h2, h3, h4, h5, h6, h7, h8, h9, h10⟩
  have hp := is_ge h4
  have hq := q_le (p := g.P) (by omega) (by omega) (show 3 ≤ g.Q by omega) h6
  rw [wpow_eq (by omega) (by omega) (by omega) (by omega)] at h10
  rw [is_eq (by omega)] at h4
  rw [is_eq (by omega)] at h5
  exact ⟨by omega, h1, h2, h3, h6, h7, h8, h4, h5, h10⟩
 ·rintro ⟨h0, h1, h2, h3, h6, h7, h8, h4, h5, h10⟩
  have hq := q_le (p := g.P) (by omega) (by omega) (show 3 ≤ g.Q by omega) h6
  have hw := wpow_eq (a := g.G) (e := g.Q) (m := g.P) (by omega) (by omega) (by omega) (by omega)
  exact ⟨h1, h2, h3, by rw [is_eq (by omega)]; exact h4, by rw [is_eq (by omega)]; exact h5, h6, h7, h8, by rw [hw], by rw [hw]; exact h10⟩
theorem okG_of {g : S_api_Group} (h : specieref10_Valid g = true) : okG g := (rvalid_cf g).1 h
theorem elem_eq {g : S_api_Group} (h : okG g) (x : Int) : group_element g x = specieref10_Member g x := by
 obtain ⟨h1, h2, h3, h4, h5, h6⟩ := h
 rw [Bool.eq_iff_iff]
 unfold group_element specieref10_Member
 simp only [lk, iteF, iteA, decide_eq_true_eq, beq_iff_eq]
 constructor
 ·rintro ⟨a1, a2, a3⟩
  rw [wpow_eq (by omega) (by omega) (by omega) (by omega)] at a3
  exact ⟨by omega, by omega, a3⟩
 ·rintro ⟨a1, a2, a3⟩
  exact ⟨by omega, by omega, by rw [wpow_eq (by omega) (by omega) (by omega) (by omega)]; exact a3⟩
theorem contains_eq {g : S_api_Group} (h : specieref10_Valid g = true) (x : Int) : group_Contains g x = specieref10_Member g x := by
 unfold group_Contains
 simp only [lk, group_eq, h, if_true]
 exact elem_eq (okG_of h) x
theorem base_eq (b : S_api_Bases) : base_Valid b = specieref11_Valid b := by
 rw [Bool.eq_iff_iff]
 unfold base_Valid specieref11_Valid
 rw [show ((3 : Int) - 0).toNat + 1 = 4 from rfl]
 simp only [lk, group_eq]
 by_cases h : specieref10_Valid b.Group = true
 ·simp only [iter, h, iteF, iteA, contains_eq h, decide_eq_true_eq, beq_iff_eq, bne_iff_ne, ne_eq, Bool.not_eq_true', Bool.not_eq_false, Int.reduceLT, Int.reduceAdd, gt, Int.reduceToNat, List.getD_cons_zero, List.getD_cons_succ, if_true, Bool.not_true, Bool.false_eq_true, not_false_eq_true, true_and, and_true, if_false, Decidable.not_not]
  constructor
  ·rintro ⟨a1, a2, a3, a4, a5, a6⟩; exact ⟨a1, a3, a5, a2, a4, a6⟩
  ·rintro ⟨a1, a3, a5, a2, a4, a6⟩; exact ⟨a1, a2, a3, a4, a5, a6⟩
 ·simp only [h, Bool.not_false, if_true, if_false, Bool.false_eq_true]
theorem base_ok {b : S_api_Bases} (h : specieref11_Valid b = true) : specieref10_Valid b.Group = true ∧ okG b.Group := by
 have h0 := h
 unfold specieref11_Valid at h
 have h1 := (letB h rfl).1
 exact ⟨h1, okG_of h1⟩
theorem wmul_eq {a b m : Int} (ha : 0 ≤ a ∧ a < m) (hb : 0 ≤ b ∧ b < m) (hm : m < 2305843009213693952) : word_Mul a b m = (a * b % m, 0) := by
 unfold word_Mul word_check word_residue
 simp only [lk]
 rw [if_neg (show ¬ decide (m < 1) = true by simp only [decide_eq_true_eq]; omega), if_neg (show ¬ decide (m ≥ 2305843009213693952) = true by simp only [decide_eq_true_eq]; omega)]
 simp [ha.1, ha.2, hb.1, hb.2, word_mul_eq ha.1 ha.2 hb.1 (by omega) (by omega)]
end Go.Proofs.YtjnikknlcmbcmaaGreatDoor
namespace Go.Proofs.YtjnikknlcmbcmaaGreatDoor
open Go.RowKit
set_option linter.unusedVariables false
set_option linter.unusedSimpArgs false
theorem pow_md (a m : Int) : ∀ n : Nat, (a % m) ^ n % m = a ^ n % m
 | 0 => by rw [Int.pow_zero, Int.pow_zero]
 | n + 1 => by rw [Int.pow_succ, Int.pow_succ, Int.mul_emod, pow_md a m n, Int.emod_emod_of_dvd _ (Int.dvd_refl m), ← Int.mul_emod]
theorem mul_md (a b m : Int) : a % m * (b % m) % m = a * b % m := (Int.mul_emod a b m).symm
theorem mul_mdl (a b m : Int) : a % m * b % m = a * b % m := by rw [Int.mul_emod, Int.emod_emod_of_dvd _ (Int.dvd_refl m), ← Int.mul_emod]
theorem pow_ad (a : Int) (i : Nat) : ∀ j : Nat, a ^ (i + j) = a ^ i * a ^ j
 | 0 => by rw [Int.pow_zero, Int.mul_one, Nat.add_zero]
 | j + 1 => by rw [← Nat.add_assoc, Int.pow_succ, Int.pow_succ, pow_ad a i j, Int.mul_assoc]
theorem pow_mu (a : Int) (i : Nat) : ∀ j : Nat, a ^ (i * j) = (a ^ i) ^ j
 | 0 => by rw [Int.pow_zero, Nat.mul_zero, Int.pow_zero]
 | j + 1 => by rw [Nat.mul_succ, pow_ad, Int.pow_succ, pow_mu a i j]
theorem mul_pw (a b : Int) : ∀ j : Nat, (a * b) ^ j = a ^ j * b ^ j
 | 0 => by simp
 | j + 1 => by
  rw [Int.pow_succ, Int.pow_succ, Int.pow_succ, mul_pw a b j]
  simp only [Int.mul_assoc]
  congr 1
  rw [Int.mul_left_comm]
theorem one_pw : ∀ j : Nat, (1 : Int) ^ j = 1
 | 0 => rfl
 | j + 1 => by rw [Int.pow_succ, one_pw j]; rfl
theorem rpow_spec {a e m : Int} (ha : 0 ≤ a) (hm : a < m) (h1 : 1 < m) (he : 0 ≤ e) : specieref01_Pow a e m = a ^ e.toNat % m := by
 unfold specieref01_Pow
 rw [rem_one h1]
 refine iter_rule (P := fun p : Int × Int × Int => (0 ≤ p.1 ∧ p.1 < m) ∧ 0 ≤ p.2.1 ∧ (0 ≤ p.2.2 ∧ p.2.2 < m) ∧ p.2.2 * p.1 ^ p.2.1.toNat % m = a ^ e.toNat % m) (Q := fun r => r = a ^ e.toNat % m) (meas := fun p => p.2.1.toNat) ?_ _ _ ⟨⟨ha, hm⟩, he, ⟨by show (0 : Int) ≤ 1; decide, h1⟩, by show 1 * a ^ e.toNat % m = _; rw [Int.one_mul]⟩ (by show e.toNat < e.toNat + 1; omega)
 rintro ag ⟨x, k, o⟩ ⟨p1, p2, p3, p4⟩ ih
 simp only at p1 p2 p3 p4 ih
 simp only [lk]
 by_cases hk : k > 0
 ·rw [if_pos (by simpa using hk)]
  have hx := rmul_eq p1.1 p1.2 p1.1
  have ho := rmul_eq p3.1 p3.2 p1.1
  have r1 := mod_rng (x := x * x) (show 0 < m by omega)
  have r2 := mod_rng (x := o * x) (show 0 < m by omega)
  have hk2 : k.toNat = k.toNat / 2 + k.toNat / 2 + k.toNat % 2 := by omega
  have hk3 : (k / 2).toNat = k.toNat / 2 := by omega
  have hpw : (x * x % m) ^ (k / 2).toNat % m = x ^ (k.toNat / 2 + k.toNat / 2) % m := by rw [pow_md, hk3, mul_pw, ← pow_ad]
  rw [hx, ho]
  by_cases hc : k % 2 = 1
  ·rw [if_pos (by simpa using hc)]
   refine ih _ ⟨r1, by show 0 ≤ k / 2; omega, r2, ?_⟩ (by show (k / 2).toNat < k.toNat; omega)
   show o * x % m * (x * x % m) ^ (k / 2).toNat % m = _
   rw [Int.mul_emod, hpw, mul_mdl, mul_md, ← p4, Int.mul_assoc]
   have e9 : k.toNat = k.toNat / 2 + k.toNat / 2 + 1 := by omega
   have e8 : x ^ k.toNat = x * x ^ (k.toNat / 2 + k.toNat / 2) := by
    conv => lhs; rw [e9]
    rw [Int.pow_succ, Int.mul_comm]
   rw [e8]
  ·rw [if_neg (by simpa using hc)]
   refine ih _ ⟨r1, by show 0 ≤ k / 2; omega, p3, ?_⟩ (by show (k / 2).toNat < k.toNat; omega)
   show o * (x * x % m) ^ (k / 2).toNat % m = _
   rw [Int.mul_emod, hpw, mul_md, ← p4]
   congr 3
   omega
 ·rw [if_neg (by simpa using hk)]
  have : k = 0 := by omega
  subst this
  rw [show ((0 : Int)).toNat = 0 from rfl, Int.pow_zero, Int.mul_one, Int.emod_eq_of_lt p3.1 p3.2] at p4
  exact p4
def El (g : S_api_Group) (x : Int) : Prop := 1 ≤ x ∧ x < g.P ∧ x ^ g.Q.toNat % g.P = 1
theorem mem_iff {g : S_api_Group} (h : okG g) (x : Int) : specieref10_Member g x = true ↔ El g x := by
 obtain ⟨h1, h2, h3, h4, h5, h6⟩ := h
 unfold specieref10_Member El
 simp only [lk, iteA, decide_eq_true_eq, beq_iff_eq]
 constructor
 ·rintro ⟨a1, a2, a3⟩
  rw [rpow_spec (by omega) a2 (by omega) (by omega)] at a3
  exact ⟨a1, a2, a3⟩
 ·rintro ⟨a1, a2, a3⟩
  exact ⟨a1, a2, by rw [rpow_spec (by omega) a2 (by omega) (by omega)]; exact a3⟩
theorem el_of {g : S_api_Group} (h : okG g) {x : Int} (hx : x ^ g.Q.toNat % g.P = 1) : El g (x % g.P) := by
 obtain ⟨h1, h2, h3, h4, h5, h6⟩ := h
 have hr := mod_rng (x := x) (show 0 < g.P by omega)
 have hp := pow_md x g.P g.Q.toNat
 rw [hx] at hp
 refine ⟨?_, hr.2, hp⟩
 rcases Int.lt_or_eq_of_le hr.1 with h | h
 ·omega
 ·exfalso
  rw [← h] at hp
  obtain ⟨n, hn⟩ : ∃ n, g.Q.toNat = n + 1 := ⟨g.Q.toNat - 1, by omega⟩
  rw [hn, Int.pow_succ, Int.mul_zero, Int.zero_emod] at hp
  cases hp
theorem el_one {g : S_api_Group} (h : okG g) : El g 1 := by
 obtain ⟨h1, h2, h3, h4, h5, h6⟩ := h
 exact ⟨by decide, by omega, by rw [one_pw]; exact Int.emod_eq_of_lt (by decide) (by omega)⟩
theorem el_pow {g : S_api_Group} (h : okG g) {x : Int} (hx : El g x) (n : Nat) : El g (x ^ n % g.P) := by
 refine el_of h ?_
 have h1 : (1 : Int) < g.P := by have := h.2.1; omega
 rw [← pow_mu, Nat.mul_comm, pow_mu, ← pow_md, hx.2.2, one_pw]
 exact Int.emod_eq_of_lt (by decide) h1
theorem el_mul {g : S_api_Group} (h : okG g) {x y : Int} (hx : El g x) (hy : El g y) : El g (x * y % g.P) := by
 refine el_of h ?_
 have h1 : (1 : Int) < g.P := by have := h.2.1; omega
 rw [mul_pw, Int.mul_emod, hx.2.2, hy.2.2]
 exact Int.emod_eq_of_lt (by decide) h1
end Go.Proofs.YtjnikknlcmbcmaaGreatDoor
namespace Go.Proofs.YtjnikknlcmbcmaaGreatDoor
open Go.RowKit
set_option linter.unusedVariables false
set_option linter.unusedSimpArgs false
theorem wred_eq {e m : Int} (h0 : 0 ≤ e) (h1 : e < m) (hm : m < 2305843009213693952) : word_Reduce e m = (e, 0) := by
 unfold word_Reduce word_check word_residue
 simp only [lk]
 rw [if_neg (show ¬ decide (m < 1) = true by simp only [decide_eq_true_eq]; omega), if_neg (show ¬ decide (m ≥ 2305843009213693952) = true by simp only [decide_eq_true_eq]; omega)]
 have e1 : e % m = e := Int.emod_eq_of_lt h0 h1
 have hm0 : 0 < m := by omega
 have hn : ¬ e < 0 := by omega
 simp [rem_nn h0, e1, hm0, hn]
theorem gel_iff {g : S_api_Group} (h : okG g) (x : Int) : group_element g x = true ↔ El g x := by rw [elem_eq h]; exact mem_iff h x
theorem chk1 {g : S_api_Group} (hv : specieref10_Valid g = true) {a : Int} (ha : El g a) : group_check g [a] = 0 := by
 have h9 := (gel_iff (okG_of hv) a).2 ha
 unfold group_check
 simp only [lk, group_eq, hv]
 rw [if_neg (by decide)]
 show iter 2 _ _ 0 = 0
 simp [iter, gt, h9]
theorem chk2 {g : S_api_Group} (hv : specieref10_Valid g = true) {a b : Int} (ha : El g a) (hb : El g b) : group_check g [a, b] = 0 := by
 have h9 := (gel_iff (okG_of hv) a).2 ha
 have h8 := (gel_iff (okG_of hv) b).2 hb
 unfold group_check
 simp only [lk, group_eq, hv]
 rw [if_neg (by decide)]
 show iter 3 _ _ 0 = 0
 simp [iter, gt, h9, h8]
theorem gpow_eq {g : S_api_Group} (hv : specieref10_Valid g = true) {a e : Int} (ha : El g a) (h0 : 0 ≤ e) (h1 : e < g.Q) : group_Power g a e = (a ^ e.toNat % g.P, 0) := by
 obtain ⟨k1, k2, k3, k4, k5, k6⟩ := okG_of hv
 have h5 := ha.1
 unfold group_Power
 rw [letk_x, chk1 hv ha, if_neg (by decide), letk_x, wred_eq h0 h1 (by omega), letk_x, wpow_eq (by omega) ha.2.1 (by omega) (by omega), rpow_spec (by omega) ha.2.1 (by omega) h0]
theorem gmul_eq {g : S_api_Group} (hv : specieref10_Valid g = true) {a b : Int} (ha : El g a) (hb : El g b) : group_Mul g a b = (a * b % g.P, 0) := by
 obtain ⟨k1, k2, k3, k4, k5, k6⟩ := okG_of hv
 have h5 := ha.1
 have h6 := hb.1
 unfold group_Mul
 rw [letk_x, chk2 hv ha hb, if_neg (by decide), letk_x, wmul_eq ⟨by omega, ha.2.1⟩ ⟨by omega, hb.2.1⟩ (by omega)]
theorem rpw_eq {g : S_api_Group} (hv : specieref10_Valid g = true) {a e : Int} (ha : El g a) (h0 : 0 ≤ e) (h1 : e < g.Q) : specieref10_Power g a e = a ^ e.toNat % g.P := by
 obtain ⟨k1, k2, k3, k4, k5, k6⟩ := okG_of hv
 have h5 := ha.1
 unfold specieref10_Power
 rw [letk_x, letk_x, rred_eq (by omega) (by omega), Int.emod_eq_of_lt h0 h1, rpow_spec (by omega) ha.2.1 (by omega) h0]
theorem base_el {b : S_api_Bases} (h : specieref11_Valid b = true) : specieref10_Valid b.Group = true ∧ El b.Group b.G1 ∧ El b.Group b.G2 := by
 obtain ⟨h1, h2⟩ := base_ok h
 unfold specieref11_Valid at h
 obtain ⟨h1', h⟩ := letB h rfl
 obtain ⟨_, h⟩ := ifB (ifB h).2
 obtain ⟨_, h⟩ := ifB h
 obtain ⟨_, h⟩ := ifB h
 obtain ⟨h3, h⟩ := letB h rfl
 obtain ⟨h4, h⟩ := letB (ifB h).2 rfl
 exact ⟨h1, (mem_iff h2 _).1 h3, (mem_iff h2 _).1 h4⟩
def Sc (b : S_api_Bases) (x : Int) : Prop := 0 ≤ x ∧ x < b.Group.Q
theorem pair_eq {b : S_api_Bases} (h : specieref11_Valid b = true) {x y : Int} (hx : Sc b x) (hy : Sc b y) : specieref31_pair b x y = (b.G1 ^ x.toNat % b.Group.P) * (b.G2 ^ y.toNat % b.Group.P) % b.Group.P := by
 obtain ⟨hv, e1, e2⟩ := base_el h
 have p1 := el_pow (okG_of hv) e1 x.toNat
 have p2 := el_pow (okG_of hv) e2 y.toNat
 have q1 := p1.1
 have q2 := p2.1
 unfold specieref31_pair specieref10_Mul
 rw [letk_x, letk_x, letk_x, letk_x, rpw_eq hv e1 hx.1 hx.2, rpw_eq hv e2 hy.1 hy.2, rmul_eq (by omega) p1.2.1 (by omega)]
theorem pair_el {b : S_api_Bases} (h : specieref11_Valid b = true) {x y : Int} (hx : Sc b x) (hy : Sc b y) : El b.Group (specieref31_pair b x y) := by
 obtain ⟨hv, e1, e2⟩ := base_el h
 rw [pair_eq h hx hy]
 exact el_mul (okG_of hv) (el_pow (okG_of hv) e1 _) (el_pow (okG_of hv) e2 _)
theorem prod_eq {b : S_api_Bases} (h : specieref11_Valid b = true) {x y : Int} (hx : Sc b x) (hy : Sc b y) : product_Product b.Group [b.G1, b.G2] [x, y] = (specieref31_pair b x y, 0) := by
 obtain ⟨hv, e1, e2⟩ := base_el h
 have hg := okG_of hv
 have p1 := el_pow hg e1 x.toNat
 have p2 := el_pow hg e2 y.toNat
 have c1 : group_Contains b.Group b.G1 = true := by rw [contains_eq hv]; exact (mem_iff hg _).2 e1
 have c2 : group_Contains b.Group b.G2 = true := by rw [contains_eq hv]; exact (mem_iff hg _).2 e2
 have a1 : product_elements b.Group [b.G1, b.G2] = true := by
  unfold product_elements slices_ContainsFunc_int_int_at_product_elements_1 slices_IndexFunc_int_int_at_product_elements_1 product_elements_1
  simp only [lk]
  show (!(decide (iter 3 _ _ 0 ≥ 0))) = true
  simp [iter, gt, c1, c2]
 have n1 : ¬ x < 0 := by have := hx.1; omega
 have n2 : ¬ y < 0 := by have := hy.1; omega
 have n3 : ¬ b.Group.Q ≤ x := by have := hx.2; omega
 have n4 : ¬ b.Group.Q ≤ y := by have := hy.2; omega
 have a2 : product_exponents b.Group [x, y] = true := by
  unfold product_exponents slices_ContainsFunc_int_int_at_product_exponents_1 slices_IndexFunc_int_int_at_product_exponents_1 product_exponents_1
  simp only [lk]
  show (!(decide (iter 3 _ _ 0 ≥ 0))) = true
  simp [iter, gt, n1, n2, n3, n4]
 have m1 : (1 : Int) * (b.G1 ^ x.toNat % b.Group.P) % b.Group.P = b.G1 ^ x.toNat % b.Group.P := by rw [Int.one_mul, Int.emod_emod_of_dvd _ (Int.dvd_refl _)]
 have a3 : product_powers b.Group [b.G1, b.G2] [x, y] = (specieref31_pair b x y, 0) := by
  have w1 := gpow_eq hv e1 hx.1 hx.2
  have w2 := gpow_eq hv e2 hy.1 hy.2
  have w3 := gmul_eq hv (el_one hg) p1
  have w4 := gmul_eq hv p1 p2
  rw [m1] at w3
  unfold product_powers
  simp only [lk]
  show iter 3 _ _ (1, 0) = _
  simp [iter, gt, w1, w2, w3, w4, pair_eq h hx hy]
 unfold product_Product
 rw [letk_x, group_eq, hv, if_neg (by decide), if_neg (by simp), if_neg (by simp), letk_x, a1, if_neg (by decide), letk_x, a2, if_neg (by decide), letk_x, a3]
theorem leaf_eq {b : S_api_Bases} (h : specieref11_Valid b = true) {l : List Int} (hx : Sc b (gt l 0)) (hy : Sc b (gt l 1)) : coin_leaf b l = specieref31_pair b (gt l 0) (gt l 1) := by
 unfold coin_leaf
 rw [letk_x, show arrN 2 l = [gt l 0, gt l 1] from rfl, prod_eq h hx hy]
theorem cmsg_eq {b : S_api_Bases} (h : specieref11_Valid b = true) {u : Int} (hx : Sc b u) : coin_message b u = specieref31_Message b u := by
 obtain ⟨hv, e1, e2⟩ := base_el h
 have := (okG_of hv).1
 unfold coin_message specieref31_Message
 rw [letk_x, letk_x, prod_eq h hx ⟨by decide, by omega⟩]
theorem msg_el {b : S_api_Bases} (h : specieref11_Valid b = true) {u : Int} (hx : Sc b u) : El b.Group (specieref31_Message b u) := by
 obtain ⟨hv, e1, e2⟩ := base_el h
 have := (okG_of hv).1
 unfold specieref31_Message
 rw [letk_x]
 exact pair_el h hx ⟨by decide, by omega⟩
end Go.Proofs.YtjnikknlcmbcmaaGreatDoor
namespace Go.Proofs.YtjnikknlcmbcmaaGreatDoor
open Go.RowKit
set_option linter.unusedVariables false
set_option linter.unusedSimpArgs false
theorem gtm {α β : Type} [Inhabited α] [Inhabited β] (f : α → β) {l : List α} {k : Nat} (h : k < l.length) : gt (l.map f) (k : Int) = f (gt l (k : Int)) := by
 simp [gt, List.getD, h]
theorem map_iterG {α β R : Type} [Inhabited α] [Inhabited R] (F : α → β) (out : List β → R) (l : List α) : iter (((l.length : Int) - 0).toNat + 1) (fun (ag : (Int × List β) → R) (p : Int × List β) => if (decide (p.1 < (l.length : Int))) then ag ((p.1 + 1), (p.2 ++ ([F (gt l p.1)] : List β))) else out p.2) (fun _ => default) (0, ([] : List β)) = out (l.map F) := by
 refine (iter_rule (P := fun p : Int × List β => 0 ≤ p.1 ∧ p.1 ≤ l.length ∧ p.2 = (l.take p.1.toNat).map F) (Q := fun x => x = out (l.map F)) (meas := fun p => ((l.length : Int) - p.1).toNat) ?_ _ _ ⟨by simp, by simp, by simp⟩ (by simp))
 rintro ag ⟨i, o⟩ ⟨h0, h1, h2⟩ ih
 dsimp only at h0 h1 h2
 subst h2
 by_cases hi : i < (l.length : Int)
 ·rw [if_pos (by simpa using hi)]
  refine ih _ ⟨by dsimp only; omega, by dsimp only; omega, ?_⟩ (by dsimp only; omega)
  dsimp only
  obtain ⟨k, rfl⟩ : ∃ k : Nat, i = k := ⟨i.toNat, by omega⟩
  have hk : k < l.length := by omega
  rw [show ((k : Int) + 1).toNat = k + 1 by omega, List.take_succ_eq_append_getElem hk, List.map_append]
  congr 1
  simp [gt, List.getD, hk]
 ·rw [if_neg (by simpa using hi)]
  dsimp only
  rw [List.take_of_length_le (by omega)]
def prs (b : S_api_Bases) (X : List (List Int)) : List Int := X.map fun l => specieref31_pair b (gt l 0) (gt l 1)
theorem rleaves_eq (b : S_api_Bases) (X : List (List Int)) : specieref31_Leaves b X = prs b X := map_iterG (fun l => specieref31_pair b (gt l 0) (gt l 1)) (fun x => x) X
theorem has_iff {l : List Int} {x : Int} : specieref31_has l x = true ↔ ∃ j : Nat, j < l.length ∧ gt l (j : Int) = x := by
 unfold specieref31_has
 refine iter_rule (P := fun p : Int => ∃ k : Nat, p = k ∧ ∀ j : Nat, j < k → gt l (j : Int) ≠ x) (Q := fun r => r = true ↔ ∃ j : Nat, j < l.length ∧ gt l (j : Int) = x) (meas := fun p => ((l.length : Int) - p).toNat) ?_ _ _ ⟨0, rfl, fun j h => absurd h (by omega)⟩ (by simp)
 rintro ag p ⟨k, rfl, h⟩ ih
 by_cases hk : k < l.length
 ·rw [if_pos (by simpa using hk)]
  by_cases he : gt l (k : Int) = x
  ·rw [if_pos (by simpa using he)]
   exact ⟨fun _ => ⟨k, hk, he⟩, fun _ => rfl⟩
  ·rw [if_neg (by simpa using he)]
   refine ih _ ⟨k + 1, by push_cast; rfl, fun j hj => ?_⟩ (by omega)
   rcases Nat.lt_succ_iff_lt_or_eq.1 hj with h1 | rfl
   ·exact h j h1
   ·exact he
 ·rw [if_neg (by simpa using hk)]
  exact ⟨fun e => absurd e (by decide), fun ⟨j, hj, e⟩ => absurd e (h j (by omega))⟩
def Df (L : List Int) (j : Nat) : Prop := ∀ k : Nat, k < j → gt L (k : Int) ≠ gt L (j : Int)
theorem has_take {L : List Int} {j : Nat} (hj : j < L.length) : specieref31_has (sl L 0 (j : Int)) (gt L (j : Int)) = false ↔ Df L j := by
 have hl : (sl L 0 (j : Int)).length = j := by rw [sl_len]; simp; omega
 have hg : ∀ k : Nat, k < j → gt (sl L 0 (j : Int)) (k : Int) = gt L (k : Int) := fun k hk => by
  simp [sl, gt, List.getD, hk]
 rw [← Bool.not_eq_true, has_iff, hl]
 constructor
 ·intro h k hk he
  exact h ⟨k, hk, by rw [hg k hk]; exact he⟩
 ·rintro h ⟨k, hk, he⟩
  rw [hg k hk] at he
  exact h k hk he
def ScN (b : S_api_Bases) (X : List (List Int)) (j : Nat) : Prop := Sc b (gt (gt X (j : Int)) 0) ∧ Sc b (gt (gt X (j : Int)) 1)
theorem cscal_iff {b : S_api_Bases} {x : Int} : coin_scalar b x = true ↔ Sc b x := by
 unfold coin_scalar Sc
 rw [iteA]; simp
theorem rscal_iff {b : S_api_Bases} {x : Int} : specieref31_Scalar b.Group x = true ↔ Sc b x := by
 unfold specieref31_Scalar Sc
 rw [iteA]; simp
def Pairs (b : S_api_Bases) (X : List (List Int)) : Prop := ∀ j : Nat, j < X.length → ScN b X j ∧ Df (prs b X) j
theorem rloop {b : S_api_Bases} {X : List (List Int)} : (iter (((X.length : Int) - 0).toNat + 1) (fun (ag25 : Int → Bool) (p25 : Int) => (if (decide (p25 < (X.length : Int))) then (letk (specieref31_Scalar (b.Group) (gt (gt X p25) 0)) (fun (x29 : Bool) => (if (!x29) then false else (letk (specieref31_Scalar (b.Group) (gt (gt X p25) 1)) (fun (x33 : Bool) => (if (!x33) then false else (ag25 (p25 + 1)))))))) else (letk (specieref31_Leaves b X) (fun (x41 : (List Int)) => (iter (((x41.length : Int) - 0).toNat + 1) (fun (ag44 : Int → Bool) (p44 : Int) => (if (decide (p44 < (x41.length : Int))) then (letk (specieref31_has (sl x41 0 p44) (gt x41 p44)) (fun (x48 : Bool) => (if x48 then false else (ag44 (p44 + 1))))) else true)) (fun _ => default) 0))))) (fun _ => default) 0) = true ↔ Pairs b X := by
 simp only [lk]
 refine iter_rule (P := fun p : Int => ∃ k : Nat, p = k ∧ k ≤ X.length ∧ ∀ j : Nat, j < k → ScN b X j) (Q := fun r => r = true ↔ Pairs b X) (meas := fun p => ((X.length : Int) - p).toNat) ?_ _ _ ⟨0, rfl, Nat.zero_le _, fun j h => absurd h (by omega)⟩ (by simp)
 rintro ag p ⟨k, rfl, hk9, h⟩ ih
 by_cases hk : k < X.length
 ·rw [if_pos (by simpa using hk)]
  have no : ¬ ScN b X k → (false = true ↔ Pairs b X) := fun hn => ⟨fun e => absurd e (by decide), fun hp => absurd (hp k hk).1 hn⟩
  by_cases h1 : Sc b (gt (gt X (k : Int)) 0)
  ·rw [if_neg (by rw [rscal_iff.2 h1]; decide)]
   by_cases h2 : Sc b (gt (gt X (k : Int)) 1)
   ·rw [if_neg (by rw [rscal_iff.2 h2]; decide)]
    refine ih _ ⟨k + 1, by push_cast; rfl, hk, fun j hj => ?_⟩ (by omega)
    rcases Nat.lt_succ_iff_lt_or_eq.1 hj with h3 | rfl
    ·exact h j h3
    ·exact ⟨h1, h2⟩
   ·rw [if_pos (by rw [Bool.not_eq_true', ← Bool.not_eq_true, rscal_iff]; exact h2)]
    exact no fun x => h2 x.2
  ·rw [if_pos (by rw [Bool.not_eq_true', ← Bool.not_eq_true, rscal_iff]; exact h1)]
   exact no fun x => h1 x.1
 ·rw [if_neg (by simpa using hk)]
  have hk' : k = X.length := by omega
  have hall : ∀ j : Nat, j < X.length → ScN b X j := hk' ▸ h
  rw [rleaves_eq]
  have hL : (prs b X).length = X.length := List.length_map ..
  refine iter_rule (P := fun p : Int => ∃ k : Nat, p = k ∧ k ≤ X.length ∧ ∀ j : Nat, j < k → Df (prs b X) j) (Q := fun r => r = true ↔ Pairs b X) (meas := fun p => (((prs b X).length : Int) - p).toNat) ?_ _ _ ⟨0, rfl, Nat.zero_le _, fun j h => absurd h (by omega)⟩ (by simp)
  rintro ag p ⟨m, rfl, hm9, h8⟩ ih
  by_cases hm : m < (prs b X).length
  ·rw [if_pos (by simpa using hm)]
   by_cases hd : Df (prs b X) m
   ·rw [if_neg (by rw [(has_take hm).2 hd]; decide)]
    refine ih _ ⟨m + 1, by push_cast; rfl, by omega, fun j hj => ?_⟩ (by omega)
    rcases Nat.lt_succ_iff_lt_or_eq.1 hj with h3 | rfl
    ·exact h8 j h3
    ·exact hd
   ·rw [if_pos (by rw [← Bool.not_eq_false, has_take hm]; exact hd)]
    exact ⟨fun e => absurd e (by decide), fun hp => absurd (hp m (by omega)).2 hd⟩
  ·rw [if_neg (by simpa using hm)]
   exact ⟨fun _ j hj => ⟨hall j hj, h8 j (by omega)⟩, fun _ => rfl⟩
theorem ploop {b : S_api_Bases} (hv : specieref11_Valid b = true) {X : List (List Int)} : (iter (((X.length : Int) - 0).toNat + 1) (fun (ag27 : (Int × List (List Int)) → Bool) (p27 : Int × List (List Int)) => (if (decide (p27.1 < (X.length : Int))) then (letk (coin_scalar b (gt (gt X p27.1) 0)) (fun (x31 : Bool) => (if (!x31) then false else (letk (coin_scalar b (gt (gt X p27.1) 1)) (fun (x36 : Bool) => (if (!x36) then false else (letk (coin_leaf b (gt X p27.1)) (fun (x41 : Int) => (if (List.contains p27.2 [x41]) then false else (letk (coin_leaf b (gt X p27.1)) (fun (x47 : Int) => (ag27 ((p27.1 + 1), (addK p27.2 [x47])))))))))))))) else true)) (fun _ => default) (0, ([] : List (List Int)))) = true ↔ Pairs b X := by
 simp only [lk]
 refine iter_rule (P := fun p : Int × List (List Int) => ∃ k : Nat, p.1 = k ∧ k ≤ X.length ∧ (∀ v, p.2.contains [v] = true ↔ ∃ j : Nat, j < k ∧ gt (prs b X) (j : Int) = v) ∧ ∀ j : Nat, j < k → ScN b X j ∧ Df (prs b X) j) (Q := fun r => r = true ↔ Pairs b X) (meas := fun p => ((X.length : Int) - p.1).toNat) ?_ _ _ ⟨0, rfl, Nat.zero_le _, fun v => ⟨fun e => by simp at e, fun ⟨j, hj, _⟩ => absurd hj (by omega)⟩, fun j h => absurd h (by omega)⟩ (by simp)
 rintro ag ⟨p, S⟩ ⟨k, e, hk9, hS, h⟩ ih
 dsimp only at e hS ih ⊢
 subst e
 by_cases hk : k < X.length
 ·rw [if_pos (by simpa using hk)]
  have no : ¬ (ScN b X k ∧ Df (prs b X) k) → (false = true ↔ Pairs b X) := fun hn => ⟨fun e => absurd e (by decide), fun hp => absurd (hp k hk) hn⟩
  by_cases h1 : Sc b (gt (gt X (k : Int)) 0)
  ·rw [if_neg (by rw [cscal_iff.2 h1]; decide)]
   by_cases h2 : Sc b (gt (gt X (k : Int)) 1)
   ·rw [if_neg (by rw [cscal_iff.2 h2]; decide)]
    have el : coin_leaf b (gt X (k : Int)) = gt (prs b X) (k : Int) := by
     rw [leaf_eq hv h1 h2]
     exact (gtm (fun l => specieref31_pair b (gt l 0) (gt l 1)) hk).symm
    rw [el]
    by_cases hd : S.contains [gt (prs b X) (k : Int)] = true
    ·rw [if_pos hd]
     obtain ⟨j, hj, he⟩ := (hS _).1 hd
     exact no fun x => x.2 j hj he
    ·rw [if_neg hd]
     have hD : Df (prs b X) k := fun j hj he => hd ((hS _).2 ⟨j, hj, he⟩)
     refine ih _ ⟨k + 1, by push_cast; rfl, hk, fun v => ?_, fun j hj => ?_⟩ (by dsimp only; omega)
     ·dsimp only
      unfold addK
      rw [if_neg hd, List.contains_iff_mem, List.mem_append, ← List.contains_iff_mem, hS]
      constructor
      ·rintro (⟨j, hj, he⟩ | h9)
       ·exact ⟨j, by omega, he⟩
       ·simp at h9
        exact ⟨k, by omega, h9.symm⟩
      ·rintro ⟨j, hj, he⟩
       rcases Nat.lt_succ_iff_lt_or_eq.1 hj with h3 | rfl
       ·exact .inl ⟨j, h3, he⟩
       ·exact .inr (by simp [he])
     ·rcases Nat.lt_succ_iff_lt_or_eq.1 hj with h3 | rfl
      ·exact h j h3
      ·exact ⟨⟨h1, h2⟩, hD⟩
   ·rw [if_pos (by rw [Bool.not_eq_true', ← Bool.not_eq_true, cscal_iff]; exact h2)]
    exact no fun x => h2 x.1.2
  ·rw [if_pos (by rw [Bool.not_eq_true', ← Bool.not_eq_true, cscal_iff]; exact h1)]
   exact no fun x => h1 x.1.1
 ·rw [if_neg (by simpa using hk)]
  exact ⟨fun _ j hj => h j (by omega), fun _ => rfl⟩
noncomputable def pB (b : S_api_Bases) (X : List (List Int)) : Bool := @decide (Pairs b X) (Classical.propDecidable _)
theorem pB_iff {b : S_api_Bases} {X : List (List Int)} : pB b X = true ↔ Pairs b X := @decide_eq_true_iff (Pairs b X) (Classical.propDecidable _)
theorem ploopB {b : S_api_Bases} (hv : specieref11_Valid b = true) {X : List (List Int)} : (iter (((X.length : Int) - 0).toNat + 1) (fun (ag27 : (Int × List (List Int)) → Bool) (p27 : Int × List (List Int)) => (if (decide (p27.1 < (X.length : Int))) then (letk (coin_scalar b (gt (gt X p27.1) 0)) (fun (x31 : Bool) => (if (!x31) then false else (letk (coin_scalar b (gt (gt X p27.1) 1)) (fun (x36 : Bool) => (if (!x36) then false else (letk (coin_leaf b (gt X p27.1)) (fun (x41 : Int) => (if (List.contains p27.2 [x41]) then false else (letk (coin_leaf b (gt X p27.1)) (fun (x47 : Int) => (ag27 ((p27.1 + 1), (addK p27.2 [x47])))))))))))))) else true)) (fun _ => default) (0, ([] : List (List Int)))) = pB b X := Bool.eq_iff_iff.2 ((ploop hv).trans pB_iff.symm)
theorem rloopB {b : S_api_Bases} {X : List (List Int)} : (iter (((X.length : Int) - 0).toNat + 1) (fun (ag25 : Int → Bool) (p25 : Int) => (if (decide (p25 < (X.length : Int))) then (letk (specieref31_Scalar (b.Group) (gt (gt X p25) 0)) (fun (x29 : Bool) => (if (!x29) then false else (letk (specieref31_Scalar (b.Group) (gt (gt X p25) 1)) (fun (x33 : Bool) => (if (!x33) then false else (ag25 (p25 + 1)))))))) else (letk (specieref31_Leaves b X) (fun (x41 : (List Int)) => (iter (((x41.length : Int) - 0).toNat + 1) (fun (ag44 : Int → Bool) (p44 : Int) => (if (decide (p44 < (x41.length : Int))) then (letk (specieref31_has (sl x41 0 p44) (gt x41 p44)) (fun (x48 : Bool) => (if x48 then false else (ag44 (p44 + 1))))) else true)) (fun _ => default) 0))))) (fun _ => default) 0) = pB b X := Bool.eq_iff_iff.2 (rloop.trans pB_iff.symm)
theorem cdep_iff {n : Int} : coin_leaves n = true ↔ ∃ d : Nat, d ≤ 5 ∧ n = 2 ^ d := by
 unfold coin_leaves slices_ContainsFunc_int_int_at_coin_leaves_1 slices_IndexFunc_int_int_at_coin_leaves_1 coin_leaves_1
 simp only [lk]
 show decide (iter 7 _ _ 0 ≥ 0) = true ↔ _
 have s0 : shlI .i64 1 0 = 1 := by decide
 have s1 : shlI .i64 1 1 = 2 := by decide
 have s2 : shlI .i64 1 2 = 4 := by decide
 have s3 : shlI .i64 1 3 = 8 := by decide
 have s4 : shlI .i64 1 4 = 16 := by decide
 have s5 : shlI .i64 1 5 = 32 := by decide
 simp only [iter, gt, List.length_cons, List.length_nil, Int.reduceToNat, List.getD_cons_zero, List.getD_cons_succ, Int.reduceAdd, s0, s1, s2, s3, s4, s5]
 constructor
 ·intro h
  by_cases h0 : n = 1
  ·exact ⟨0, by decide, h0⟩
  by_cases h1 : n = 2
  ·exact ⟨1, by decide, h1⟩
  by_cases h2 : n = 4
  ·exact ⟨2, by decide, h2⟩
  by_cases h3 : n = 8
  ·exact ⟨3, by decide, h3⟩
  by_cases h4 : n = 16
  ·exact ⟨4, by decide, h4⟩
  by_cases h5 : n = 32
  ·exact ⟨5, by decide, h5⟩
  exfalso
  simp [h0, h1, h2, h3, h4, h5] at h
 ·rintro ⟨d, hd, rfl⟩
  match d, hd with
  | 0, _ => rfl
  | 1, _ => rfl
  | 2, _ => rfl
  | 3, _ => rfl
  | 4, _ => rfl
  | 5, _ => rfl
  | d + 6, h => omega
theorem rdep_iff {n : Int} : specieref31_Depth (specieref27_Depth n) = true ↔ ∃ d : Nat, d ≤ 5 ∧ n = 2 ^ d := by
 unfold specieref31_Depth
 rw [iteA]
 simp only [decide_eq_true_eq]
 rcases rdepth_spec n with ⟨k, hk, e, e2⟩ | ⟨e2, h⟩
 ·rw [e2]
  constructor
  ·rintro ⟨_, h⟩; exact ⟨k, by omega, e⟩
  ·rintro ⟨d, hd, e3⟩
   have : (2 : Nat) ^ k = 2 ^ d := by have := e.symm.trans e3; exact_mod_cast this
   have := pow2_inj this
   omega
 ·rw [e2]
  constructor
  ·rintro ⟨h0, _⟩; exact absurd h0 (by decide)
  ·rintro ⟨d, hd, e3⟩; exact absurd e3 (h d (by omega))
theorem secret_eq (b : S_api_Bases) (s : S_api_CoinSecret) : coin_ValidSecret b s = specieref31_Secret b s := by
 rw [Bool.eq_iff_iff]
 unfold coin_ValidSecret specieref31_Secret
 by_cases hv : specieref11_Valid b = true
 ·rw [ploopB hv, rloopB]
  have hq := (base_ok hv).2.1
  have hl := cdep_iff (n := (s.X.length : Int))
  rw [← rdep_iff] at hl
  simp only [letk_x, base_eq, hv, iteF, Bool.not_eq_true', Bool.not_eq_false, Bool.not_true, Bool.false_eq_true, not_false_eq_true, true_and]
  rw [hl]
  unfold coin_nonzero specieref31_User
  simp only [letk_x, iteA, decide_eq_true_eq, beq_iff_eq, bne_iff_ne, ne_eq]
  constructor
  ·rintro ⟨⟨a1, a2⟩, ⟨a3, a4⟩, a5, a6, a7⟩
   rw [cmsg_eq hv ⟨by omega, a2⟩] at a5
   exact ⟨⟨a1, a2, a5⟩, by omega, by omega, a6, a7⟩
  ·rintro ⟨⟨a1, a2, a5⟩, a3, a4, a6, a7⟩
   refine ⟨⟨a1, a2⟩, ⟨by omega, by omega⟩, ?_, a6, a7⟩
   rw [cmsg_eq hv ⟨by omega, a2⟩]
   exact a5
 ·have hv' : specieref11_Valid b = false := by simpa using hv
  simp only [letk_x, base_eq, hv', Bool.not_false, if_true]
theorem secret_ok {b : S_api_Bases} {s : S_api_CoinSecret} (h : specieref31_Secret b s = true) : specieref11_Valid b = true ∧ Sc b s.U ∧ Sc b s.S ∧ Pairs b s.X := by
 unfold specieref31_Secret at h
 rw [rloopB] at h
 simp only [letk_x, iteF, Bool.not_eq_true', Bool.not_eq_false] at h
 obtain ⟨h1, h2, h3, h4, h5, h6⟩ := h
 unfold specieref31_User at h2
 simp only [letk_x, iteA, decide_eq_true_eq] at h2 h3 h4
 exact ⟨h1, ⟨by omega, h2.2.1⟩, ⟨by omega, by omega⟩, pB_iff.1 h6⟩
theorem pseu_eq {b : S_api_Bases} {s : S_api_CoinSecret} (h : specieref31_Secret b s = true) : coin_Pseudonym b s = (specieref31_Pseudonym b s, 0) := by
 obtain ⟨hv, hu, hs, _⟩ := secret_ok h
 have he := msg_el hv hu
 have hg := (base_el hv).1
 unfold coin_Pseudonym specieref31_Pseudonym
 simp only [letk_x, secret_eq, h, Bool.not_true, Bool.false_eq_true, if_false, cmsg_eq hv hu, gpow_eq hg he hs.1 hs.2, rpw_eq hg he hs.1 hs.2]
theorem pseu_no {b : S_api_Bases} {s : S_api_CoinSecret} (h : specieref31_Secret b s = false) : coin_Pseudonym b s = (0, 1) := by
 unfold coin_Pseudonym
 simp only [letk_x, secret_eq, h, Bool.not_false, if_true]
theorem leaves_no {b : S_api_Bases} {s : S_api_CoinSecret} (h : specieref31_Secret b s = false) : coin_Leaves b s = ([], 1) := by
 unfold coin_Leaves
 simp only [letk_x, secret_eq, h, Bool.not_false, if_true]
theorem mem_gt {l : List (List Int)} {x : List Int} (h : x ∈ l) : ∃ j : Nat, j < l.length ∧ gt l (j : Int) = x := by
 obtain ⟨j, hj, e⟩ := List.getElem_of_mem h
 exact ⟨j, hj, by simp [gt, List.getD, hj, e]⟩
theorem leaves_eq {b : S_api_Bases} {s : S_api_CoinSecret} (h : specieref31_Secret b s = true) : coin_Leaves b s = (specieref31_Leaves b s.X, 0) := by
 obtain ⟨hv, hu, hs, hp⟩ := secret_ok h
 have key := map_iterG (fun l => coin_leaf b l) (fun x => (x, (0 : Int))) s.X
 have hm : (s.X.map fun l => coin_leaf b l) = prs b s.X := List.map_congr_left fun l hl => by
  obtain ⟨j, hj, rfl⟩ := mem_gt hl
  obtain ⟨⟨h1, h2⟩, _⟩ := hp j hj
  exact leaf_eq hv h1 h2
 rw [hm] at key
 unfold coin_Leaves
 simp only [letk_x, secret_eq, h, Bool.not_true, Bool.false_eq_true, if_false]
 rw [rleaves_eq]
 exact key
end Go.Proofs.YtjnikknlcmbcmaaGreatDoor
namespace Go.Proofs.YtjnikknlcmbcmaaGreatDoor
open Go.RowKit
set_option linter.unusedVariables false
set_option linter.unusedSimpArgs false
def hF (n : Int) : List Int := specieref27_Leaf (encI ⟨1, n, [], []⟩)
theorem hF_ok (n : Int) : (hF n).length = 32 ∧ isB (hF n) := by
 unfold hF specieref27_Leaf
 rw [letk_x]
 exact tagged_ok _ _
theorem tleaf_eq {n : Int} (h0 : -9223372036854775808 ≤ n) (h1 : n ≤ 9223372036854775807) : (tree_Leaf (encode_Encode ⟨1, n, [], []⟩).1).1 = hF n := by
 have hw : withinM ⟨1, n, [], []⟩ 8 = true := by unfold withinM; rfl
 have hl := enc_int (n := n) rfl
 have hb : isB (encI ⟨1, n, [], []⟩) := encI_isB _ (by
  unfold okI
  exact ⟨⟨h0, h1⟩, fun x h => (by cases h), by decide, by unfold okL; trivial⟩)
 rw [encode_Encode_eq, hw, if_neg (by decide), if_neg (by omega)]
 unfold tree_Leaf hF specieref27_Leaf
 dsimp only
 rw [if_neg (by rw [decide_eq_true_eq]; omega), letk_x, letk_x, tagged_eq (by decide) (by decide) hb (by omega)]
def Mem (b : S_api_Bases) (l : List Int) : Prop := ∀ j : Nat, j < l.length → specieref10_Member b.Group (gt l (j : Int)) = true
theorem ploopH {b : S_api_Bases} (hv : specieref11_Valid b = true) {l : List Int} {r : List (List Int) × Int} {E : Int → List Int} (hE : ∀ n : Int, -9223372036854775808 ≤ n → n ≤ 9223372036854775807 → (tree_Leaf (encode_Encode ⟨1, n, [], []⟩).1).1 = E n) (hr : (Mem b l → r = (l.map E, 0)) ∧ (¬ Mem b l → r = ([], 2))) : (iter (((l.length : Int) - 0).toNat + 1) (fun (ag12 : (Int × List (List Int)) → ((List (List Int)) × Int)) (p12 : Int × List (List Int)) => (if (decide (p12.1 < (l.length : Int))) then (letk (group_Contains (b.Group) (gt l p12.1)) (fun (x16 : Bool) => (if (!x16) then (([] : List (List Int)), 2) else (letk (encode_Encode ({ Kind := 1, N := (gt l p12.1), B := ([] : List Int), L := ([] : List S_api_Item) } : S_api_Item)) (fun (x22 : ((List Int) × Int)) => (letk (tree_Leaf (x22.1)) (fun (x26 : ((List Int) × Int)) => (ag12 ((p12.1 + 1), (p12.2 ++ ([x26.1] : List (List Int)))))))))))) else (p12.2, 0))) (fun _ => default) (0, ([] : List (List Int)))) = r := by
 obtain ⟨hg, ho⟩ := base_ok hv
 refine iter_rule (P := fun p : Int × List (List Int) => ∃ k : Nat, p.1 = k ∧ k ≤ l.length ∧ p.2 = (l.take k).map E ∧ ∀ j : Nat, j < k → specieref10_Member b.Group (gt l (j : Int)) = true) (Q := fun x => x = r) (meas := fun p => ((l.length : Int) - p.1).toNat) ?_ _ _ ⟨0, rfl, Nat.zero_le _, rfl, fun j h => absurd h (by omega)⟩ (by simp)
 rintro ag ⟨p, S⟩ ⟨k, e, hk9, hS, h⟩ ih
 dsimp only at e hS ih ⊢
 subst e
 by_cases hk : k < l.length
 ·rw [if_pos (by simpa using hk), letk_x, contains_eq hg]
  by_cases hm : specieref10_Member b.Group (gt l (k : Int)) = true
  ·rw [hm, if_neg (by decide), letk_x, letk_x]
   have he := (mem_iff ho _).1 hm
   obtain ⟨k1, k2, k3, k4, k5, k6⟩ := ho
   simp only [hE (gt l (k : Int)) (by have := he.1; omega) (by have := he.2.1; omega)]
   refine ih _ ⟨k + 1, by push_cast; rfl, hk, ?_, fun j hj => ?_⟩ (by dsimp only; omega)
   ·dsimp only
    rw [hS, List.take_succ_eq_append_getElem hk, List.map_append]
    congr 1
    simp [gt, List.getD, hk]
   ·rcases Nat.lt_succ_iff_lt_or_eq.1 hj with h3 | rfl
    ·exact h j h3
    ·exact hm
  ·have hm' : specieref10_Member b.Group (gt l (k : Int)) = false := by simpa using hm
   rw [hm', if_pos (by decide)]
   exact (hr.2 fun x => hm (x k hk)).symm
 ·rw [if_neg (by simpa using hk)]
  have hk' : k = l.length := by omega
  rw [hr.1 fun j hj => h j (by omega), hS, hk', List.take_length]
theorem rhash_eq (l : List Int) : specieref31_Hashes l = l.map hF := rhashes_eq l
theorem hashes_dep {b : S_api_Bases} {l : List Int} (h : (specieref11_Valid b && specieref31_Depth (specieref27_Depth (l.length : Int))) = false) : coin_Hashes b l = ([], 1) := by
 unfold coin_Hashes
 rw [letk_x, base_eq]
 by_cases hv : specieref11_Valid b = true
 ·rw [hv, if_neg (by decide), letk_x]
  rw [hv, Bool.true_and] at h
  have hl : coin_leaves (l.length : Int) = false := by
   rw [← Bool.not_eq_true, cdep_iff, ← rdep_iff, h]; decide
  rw [hl, if_pos (by decide)]
 ·rw [show specieref11_Valid b = false by simpa using hv, if_pos (by decide)]
theorem hashes_eq {b : S_api_Bases} {l : List Int} (hv : specieref11_Valid b = true) (hd : specieref31_Depth (specieref27_Depth (l.length : Int)) = true) {r : List (List Int) × Int} (hr : (Mem b l → r = (l.map hF, 0)) ∧ (¬ Mem b l → r = ([], 2))) : coin_Hashes b l = r := by
 unfold coin_Hashes
 have hl : coin_leaves (l.length : Int) = true := cdep_iff.2 (rdep_iff.1 hd)
 rw [letk_x, base_eq, hv, if_neg (by decide), letk_x, hl, if_neg (by decide)]
 exact ploopH hv (fun n => tleaf_eq) hr
theorem arr_iter {R : Type} [Inhabited R] (l z : List Int) (out : List Int → R) : iter (((32 : Int) - 0).toNat + 1) (fun (ag : (Int × List Int) → R) (p : Int × List Int) => (if (decide (p.1 < 32)) then (ag ((p.1 + 1), (p.2 ++ ([(gt l p.1)] : List Int)))) else out p.2)) (fun _ => default) (0, z) = out (z ++ arrN 32 l) := by
 have ha : arrN 32 l = (List.range 32).map fun k => gt l ((k : Nat) : Int) := rfl
 rw [ha]
 refine iter_rule (P := fun p : Int × List Int => ∃ k : Nat, p.1 = k ∧ k ≤ 32 ∧ p.2 = z ++ (List.range k).map fun j => gt l ((j : Nat) : Int)) (Q := fun x => x = out (z ++ (List.range 32).map fun k => gt l ((k : Nat) : Int))) (meas := fun p => ((32 : Int) - p.1).toNat) ?_ _ _ ⟨0, rfl, by decide, by simp⟩ (by simp)
 rintro ag ⟨p, S⟩ ⟨k, e, hk9, hS⟩ ih
 dsimp only at e hS ih ⊢
 subst e hS
 by_cases hk : k < 32
 ·rw [if_pos (by rw [decide_eq_true_eq]; omega)]
  refine ih _ ⟨k + 1, by push_cast; rfl, hk, ?_⟩ (by dsimp only; omega)
  dsimp only
  rw [List.range_succ, List.map_append, List.append_assoc]
  rfl
 ·rw [if_neg (by simp; omega), show k = 32 by omega]
theorem inner_unf (l r : List Int) : specieref27_Inner l r = specieref06_Tagged [115, 112, 101, 99, 105, 101, 47, 110, 111, 100, 101] (arrN 32 l ++ arrN 32 r) := by
 unfold specieref27_Inner
 refine (arr_iter l [] (fun z => iter (((32 : Int) - 0).toNat + 1) (fun (ag7 : (Int × List Int) → (List Int)) (p7 : Int × List Int) => (if (decide (p7.1 < 32)) then (ag7 ((p7.1 + 1), (p7.2 ++ ([(gt r p7.1)] : List Int)))) else (letk (specieref06_Tagged ([115, 112, 101, 99, 105, 101, 47, 110, 111, 100, 101]) (p7.2)) (fun (x13 : (List Int)) => x13)))) (fun _ => default) (0, z))).trans ?_
 refine (arr_iter r _ (fun z => letk (specieref06_Tagged ([115, 112, 101, 99, 105, 101, 47, 110, 111, 100, 101]) z) (fun (x13 : (List Int)) => x13))).trans ?_
 rw [letk_x, List.nil_append]
theorem inner_eq {l r : List Int} (hl : isB (arrN 32 l)) (hr : isB (arrN 32 r)) : tree_inner l r = specieref27_Inner l r := by
 rw [inner_unf]
 unfold tree_inner
 rw [letk_x, letk_x, concat_two, tagged_eq (by decide) (by decide) (isB_app hl hr) (by rw [List.length_append, arrN_len, arrN_len]; decide)]
def Gd (l : List (List Int)) : Prop := ∀ x ∈ l, isB (arrN 32 x)
theorem inner_gd (l r : List Int) : isB (arrN 32 (specieref27_Inner l r)) := by
 rw [inner_unf, arrN_full (tagged_ok _ _).1]
 exact (tagged_ok _ _).2
section
variable {I J : List Int → List Int → List Int} (hIJ : ∀ {a b}, isB (arrN 32 a) → isB (arrN 32 b) → I a b = J a b) (hJ : ∀ a b, isB (arrN 32 (J a b)))
include hIJ hJ
theorem pair_gd : ∀ {l : List (List Int)}, Gd l → pairM I l = pairM J l ∧ Gd (pairM J l)
 | a :: b :: l, h => by
  obtain ⟨h1, h2⟩ := pair_gd (l := l) fun x hx => h x (by simp [hx])
  rw [pairM, pairM, h1, hIJ (h a (by simp)) (h b (by simp))]
  refine ⟨rfl, fun x hx => ?_⟩
  rcases List.mem_cons.1 hx with rfl | hx
  ·exact hJ a b
  ·exact h2 x hx
 | [], h => ⟨rfl, h⟩
 | [_], h => ⟨rfl, fun x hx => by simp [pairM] at hx⟩
theorem up_gdG : ∀ {k : Nat} {l : List (List Int)}, Gd l → upL I k l = upL J k l
 | 0, _, _ => rfl
 | k + 1, l, h => by
  obtain ⟨h1, h2⟩ := pair_gd hIJ hJ h
  rw [upL, upL, h1, up_gdG h2]
end
theorem up_gd {k : Nat} {l : List (List Int)} (h : Gd l) : upL tree_inner k l = upL specieref27_Inner k l := up_gdG (fun h1 h2 => inner_eq h1 h2) inner_gd h
theorem upL_succ {I : List Int → List Int → List Int} : ∀ {k : Nat} {l : List (List Int)}, upL I (k + 1) l = pairM I (upL I k l)
 | 0, _ => rfl
 | k + 1, l => by rw [upL, upL_succ (k := k), upL]
theorem gt_pair {I : List Int → List Int → List Int} : ∀ {i : Nat} {l : List (List Int)}, 2 * i + 1 < l.length → gt (pairM I l) (i : Int) = I (gt l ((2 * i : Nat) : Int)) (gt l ((2 * i + 1 : Nat) : Int))
 | 0, a :: b :: l, h => rfl
 | i + 1, a :: b :: l, h => by
  have e := gt_pair (I := I) (i := i) (l := l) (by simp only [List.length_cons] at h; omega)
  simp only [gt_nat] at e ⊢
  rw [pairM, show 2 * (i + 1) = 2 * i + 1 + 1 by omega]
  simp only [List.getD_cons_succ]
  exact e
 | _, [], h => by simp at h
 | _, [_], h => by simp at h
theorem node_eq {I : List Int → List Int → List Int} {l : List (List Int)} {d : Nat} (hl : l.length = 2 ^ d) (hd : d ≤ 10) : ∀ (m n v i : Nat), v + m = d → m < n → i < 2 ^ v → rnodeG I n l (v : Int) (i : Int) = gt (upL I m l) (i : Int)
 | 0, n + 1, v, i, hv, hn, hi => by
  have e := shl_one (v := (v : Int)) (by omega) (by omega)
  rw [rnodeG, if_pos (by rw [e, hl]; simp; congr 1), upL]
 | m + 1, n + 1, v, i, hv, hn, hi => by
  have e := shl_one (v := (v : Int)) (by omega) (by omega)
  have hne : (2 : Nat) ^ v ≠ 2 ^ d := fun h => by have := pow2_inj h; omega
  rw [rnodeG, if_neg (by rw [e, hl, beq_iff_eq]; intro h; exact hne (by exact_mod_cast h))]
  have h1 := node_eq hl hd (I := I) m n (v + 1) (2 * i) (by omega) (by omega) (by rw [Nat.pow_succ]; omega)
  have h2 := node_eq hl hd (I := I) m n (v + 1) (2 * i + 1) (by omega) (by omega) (by rw [Nat.pow_succ]; omega)
  rw [show ((v : Int) + 1) = ((v + 1 : Nat) : Int) by push_cast; rfl, show (2 * (i : Int)) = ((2 * i : Nat) : Int) by push_cast; rfl, h1, show (((2 * i : Nat) : Int) + 1) = ((2 * i + 1 : Nat) : Int) by push_cast; rfl, h2, upL_succ, gt_pair]
  rw [upL_len hl (by omega), show d - m = v + 1 by omega, Nat.pow_succ]
  omega
theorem root_eq {l : List (List Int)} {d : Nat} (hl : l.length = 2 ^ d) (hd : d ≤ 10) (hg : Gd l) : tree_Root l = (rnodeM l 0 0, 0) := by
 have hr : rnodeM l 0 0 = gt (upL specieref27_Inner d l) (0 : Int) := node_eq hl hd d 12 0 0 (by omega) (by omega) (by decide)
 rw [hr, ← up_gd hg]
 have ho : tree_open l 0 0 = (tree_levels l, 0) := by
  unfold tree_open
  rcases depth_spec (l.length : Int) with ⟨k, h1, h2, h3⟩ | ⟨_, h⟩
  ·rw [letk_x, h3, if_neg (show ¬ ((0 : Int) != 0) = true by decide), if_neg (by decide), if_neg (by rw [decide_eq_true_eq]; dsimp only; omega), if_neg (by decide), if_neg (by decide), letk_x]
  ·exact absurd (by rw [hl]; push_cast; rfl) (h d hd)
 have hv : gt (tree_levels l) (0 : Int) = upL tree_inner d l := by
  rw [levels_eq hl hd, show (0 : Int) = ((0 : Nat) : Int) from rfl, gtm _ (by simp)]
  simp [gt]
 unfold tree_Root tree_Node
 rw [letk_x, letk_x, ho, if_neg (show ¬ ((0 : Int) != 0) = true by decide), hv]
end Go.Proofs.YtjnikknlcmbcmaaGreatDoor
namespace Go.Proofs.YtjnikknlcmbcmaaGreatDoor
open Go.RowKit
set_option linter.unusedVariables false
set_option linter.unusedSimpArgs false
theorem coin_awake : specielaw31_awake = true := by decide +kernel
theorem q40_refl (a : List Int) : q_arr40 a a = true := by unfold q_arr40; simp
theorem Equal_refl (s : List Int) : slices_Equal_int_int s s = true := by
 unfold slices_Equal_int_int
 rw [if_neg (by simp)]
 refine iter_rule (P := fun p : Int => 0 ≤ p) (Q := fun r => r = true) (meas := fun p => ((s.length : Int) - p).toNat) ?_ _ _ (Int.le_refl 0) (by omega)
 intro ag p h0 ih
 by_cases hp : p < (s.length : Int)
 ·rw [if_pos (by simpa using hp), if_neg (by simp)]
  exact ih _ (by omega) (by omega)
 ·rw [if_neg (by simpa using hp)]
theorem EqualH_refl (s : List (List Int)) : slices_Equal_api_Hash_api_Hash s s = true := by
 unfold slices_Equal_api_Hash_api_Hash
 rw [if_neg (by simp)]
 refine iter_rule (P := fun p : Int => 0 ≤ p) (Q := fun r => r = true) (meas := fun p => ((s.length : Int) - p).toNat) ?_ _ _ (Int.le_refl 0) (by omega)
 intro ag p h0 ih
 by_cases hp : p < (s.length : Int)
 ·rw [if_pos (by simpa using hp), q40_refl, if_neg (by decide)]
  exact ih _ (by omega) (by omega)
 ·rw [if_neg (by simpa using hp)]
theorem idx_iff {b : S_api_Bases} {l : List Int} : slices_ContainsFunc_int_int_at_specielaw31_CoinParts_1 l b = false ↔ Mem b l := by
 unfold slices_ContainsFunc_int_int_at_specielaw31_CoinParts_1 slices_IndexFunc_int_int_at_specielaw31_CoinParts_1 specielaw31_CoinParts_1
 simp only [letk_x]
 refine iter_rule (P := fun p : Int => ∃ k : Nat, p = k ∧ k ≤ l.length ∧ ∀ j : Nat, j < k → specieref10_Member b.Group (gt l (j : Int)) = true) (Q := fun r => decide (r ≥ 0) = false ↔ Mem b l) (meas := fun p => ((l.length : Int) - p).toNat) ?_ _ _ ⟨0, rfl, Nat.zero_le _, fun j h => absurd h (by omega)⟩ (by omega)
 rintro ag p ⟨k, rfl, hk9, h⟩ ih
 by_cases hk : k < l.length
 ·rw [if_pos (by rw [decide_eq_true_eq]; omega)]
  by_cases hm : specieref10_Member b.Group (gt l (k : Int)) = true
  ·rw [hm, if_neg (by decide)]
   refine ih _ ⟨k + 1, by push_cast; rfl, hk, fun j hj => ?_⟩ (by omega)
   rcases Nat.lt_succ_iff_lt_or_eq.1 hj with h3 | rfl
   ·exact h j h3
   ·exact hm
  ·have hm' : specieref10_Member b.Group (gt l (k : Int)) = false := by simpa using hm
   rw [hm', if_pos (by decide)]
   constructor
   ·intro e
    rw [decide_eq_false_iff_not] at e
    omega
   ·intro e; exact absurd (e k hk) hm
 ·rw [if_neg (by rw [decide_eq_true_eq]; omega)]
  exact ⟨fun _ j hj => h j (by omega), fun _ => by decide⟩
theorem croot_err {b : S_api_Bases} {l : List Int} {e : Int} (h : coin_Hashes b l = ([], e)) (he : e ≠ 0) : coin_Root b l = ([0, 0, 0, 0, 0, 0, 0, 0, 0, 0, 0, 0, 0, 0, 0, 0, 0, 0, 0, 0, 0, 0, 0, 0, 0, 0, 0, 0, 0, 0, 0, 0], e) := by
 unfold coin_Root
 rw [letk_x, h, if_pos (by simpa using he)]
theorem croot_eq {b : S_api_Bases} {l : List Int} (hd : specieref31_Depth (specieref27_Depth (l.length : Int)) = true) (h : coin_Hashes b l = (specieref31_Hashes l, 0)) : coin_Root b l = (specieref31_Root l, 0) := by
 obtain ⟨d, hd5, e⟩ := rdep_iff.1 hd
 have hl : (specieref31_Hashes l).length = 2 ^ d := by rw [rhash_eq, List.length_map]; exact_mod_cast e
 have hg : Gd (specieref31_Hashes l) := by
  intro x hx
  rw [rhash_eq] at hx
  obtain ⟨n, _, rfl⟩ := List.mem_map.1 hx
  rw [arrN_full (hF_ok n).1]
  exact (hF_ok n).2
 unfold coin_Root specieref31_Root
 rw [letk_x, h, if_neg (show ¬ ((0 : Int) != 0) = true by decide), letk_x, root_eq hl (by omega) hg, letk_x, letk_x]
theorem part2 (b : S_api_Bases) (l : List Int) :
  (∃ e : Int, e ≠ 0 ∧ coin_Hashes b l = ([], e) ∧ coin_Root b l = ([0, 0, 0, 0, 0, 0, 0, 0, 0, 0, 0, 0, 0, 0, 0, 0, 0, 0, 0, 0, 0, 0, 0, 0, 0, 0, 0, 0, 0, 0, 0, 0], e) ∧ ((specieref11_Valid b = false ∧ e = 1) ∨ (specieref11_Valid b = true ∧ specieref31_Depth (specieref27_Depth (l.length : Int)) = false ∧ e = 1) ∨ (specieref11_Valid b = true ∧ specieref31_Depth (specieref27_Depth (l.length : Int)) = true ∧ slices_ContainsFunc_int_int_at_specielaw31_CoinParts_1 l b = true ∧ e = 2))) ∨
  (specieref11_Valid b = true ∧ specieref31_Depth (specieref27_Depth (l.length : Int)) = true ∧ slices_ContainsFunc_int_int_at_specielaw31_CoinParts_1 l b = false ∧ coin_Hashes b l = (specieref31_Hashes l, 0) ∧ coin_Root b l = (specieref31_Root l, 0)) := by
 by_cases hv : specieref11_Valid b = true
 ·by_cases hd : specieref31_Depth (specieref27_Depth (l.length : Int)) = true
  ·by_cases hm : Mem b l
   ·have h := hashes_eq hv hd (r := (specieref31_Hashes l, 0)) ⟨fun _ => by rw [rhash_eq], fun h => absurd hm h⟩
    exact .inr ⟨hv, hd, idx_iff.2 hm, h, croot_eq hd h⟩
   ·have h := hashes_eq hv hd (r := ([], 2)) ⟨fun h => absurd h hm, fun _ => rfl⟩
    have hc : slices_ContainsFunc_int_int_at_specielaw31_CoinParts_1 l b = true := by rw [← Bool.not_eq_false, idx_iff]; exact hm
    exact .inl ⟨2, by decide, h, croot_err h (by decide), .inr (.inr ⟨hv, hd, hc, rfl⟩)⟩
  ·have hd' : specieref31_Depth (specieref27_Depth (l.length : Int)) = false := by simpa using hd
   have h := hashes_dep (b := b) (l := l) (by rw [hd', Bool.and_false])
   exact .inl ⟨1, by decide, h, croot_err h (by decide), .inr (.inl ⟨hv, hd', rfl⟩)⟩
 ·have hv' : specieref11_Valid b = false := by simpa using hv
  have h := hashes_dep (b := b) (l := l) (by rw [hv', Bool.false_and])
  exact .inl ⟨1, by decide, h, croot_err h (by decide), .inl ⟨hv', rfl⟩⟩
theorem letj_x {α β : Type} (f : α → β) (k : (α → β) → β) : letj f k = k f := by rw [letj]
theorem letj_true {α : Type} {f : α → Bool} {k : (α → Bool) → Bool} (hf : ∀ a, f a = true) (hk : ∀ g : α → Bool, (∀ a, g a = true) → k g = true) : letj f k = true := by rw [letj_x]; exact hk f hf
theorem specielaw31_CoinParts_true (b : S_api_Bases) (s : S_api_CoinSecret) (leaves : List Int) : specielaw31_CoinParts b s leaves = true := by
 unfold specielaw31_CoinParts
 rw [letk_x, coin_awake, if_neg (by decide)]
 by_cases c1 : decide ((s.X.length : Int) > 100) = true
 ·rw [if_pos c1, letk_x]
 rw [if_neg c1]
 by_cases c2 : decide ((leaves.length : Int) > 100) = true
 ·rw [if_pos c2, letk_x]
 rw [if_neg c2, letk_x, letk_x, letk_x, letk_x]
 refine letj_true (fun _ => ?_) fun j hj => ?_
 ·rw [letj_x]
  rcases part2 b leaves with ⟨e, he, h1, h2, ⟨hv, rfl⟩ | ⟨hv, hd, rfl⟩ | ⟨hv, hd, hc, rfl⟩⟩ | ⟨hv, hd, hc, h1, h2⟩
  ·simp only [letk_x, h1, h2, hv, q40_refl, Bool.not_false, if_true]
   simp
  ·simp only [letk_x, h1, h2, hv, hd, q40_refl, Bool.not_false, Bool.not_true, Bool.false_eq_true, if_false, if_true]
   simp
  ·simp only [letk_x, h1, h2, hv, hd, hc, q40_refl, Bool.not_false, Bool.not_true, Bool.false_eq_true, if_false, if_true]
   simp
  ·simp only [letk_x, h1, h2, hv, hd, hc, q40_refl, EqualH_refl, Bool.not_false, Bool.not_true, Bool.false_eq_true, if_false, if_true]
   simp
 ·rw [letk_x]
  by_cases h : specieref31_Secret b s = true
  ·rw [h, if_neg (by decide), pseu_eq h, leaves_eq h]
   simp only [letk_x, Equal_refl, Bool.not_true, Bool.false_eq_true, if_false, bne_self_eq_false, hj]
  ·have h' : specieref31_Secret b s = false := by simpa using h
   rw [h', if_pos (by decide), pseu_no h', leaves_no h']
   simp only [bne_self_eq_false, Bool.false_eq_true, if_false, List.length_nil, hj]
   rfl
end Go.Proofs.YtjnikknlcmbcmaaGreatDoor
