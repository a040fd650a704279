/- Texts of this proof, one after the other: S1, S2, S3, S4, L1. -/
import Derived.Test.YtcbdmoihobdjaaaDoorZ5
import Derived.KernelRfl
set_option linter.unusedVariables false
set_option linter.unusedSimpArgs false
namespace Go.Proofs.YtcbdmoihobdjaaaDoor
open Go.RowKit
theorem iter_eq {α β R : Type} {F : (α → R) → α → R} {G : (β → R) → β → R} {x : R} (Rel : α → β → Prop)
  (h : ∀ ag bg, (∀ a b, Rel a b → ag a = bg b) → ∀ a b, Rel a b → F ag a = G bg b) : ∀ (n : Nat) (a : α) (b : β), Rel a b → iter n F (fun _ => x) a = iter n G (fun _ => x) b
 | 0, a, b, _ => rfl
 | n + 1, a, b, hr => by
  rw [iter, iter]
  exact h _ _ (fun a b hr => iter_eq Rel h n a b hr) a b hr
theorem orI_comm (k : IntKind) (a b : Int) : orI k a b = orI k b a := by unfold orI; rw [BitVec.or_comm]
theorem right_eq (x : Int) {n : Int} (h : n ∈ [(2 : Int), 3, 6, 7, 11, 13, 17, 18, 19, 22, 25]) : digest_right x n = specieref06_right x n := by
 unfold digest_right math_bits_RotateLeft32 specieref06_right
 simp only [letk]
 rw [orI_comm]
 simp only [List.mem_cons, List.not_mem_nil, or_false] at h
 rcases h with rfl | rfl | rfl | rfl | rfl | rfl | rfl | rfl | rfl | rfl | rfl <;> rfl
theorem w32 (a : Int) : IntKind.wrap .u32 a = a % 4294967296 := by simp [IntKind.wrap, IntKind.bits, IntKind.signed]
theorem w64 (a : Int) : IntKind.wrap .u64 a = a % 18446744073709551616 := by simp [IntKind.wrap, IntKind.bits, IntKind.signed]
theorem or_nat (a c : Nat) (hc : c < 256) : (BitVec.ofInt 32 (((a * 256 : Nat) : Int) % 4294967296) ||| BitVec.ofInt 32 (c : Int)).toNat = (a * 256) % 4294967296 + c := by
 have e1 : (BitVec.ofInt 32 (((a * 256 : Nat) : Int) % 4294967296)).toNat = (a % 16777216) <<< 8 := by
  rw [BitVec.toNat_ofInt, Nat.shiftLeft_eq]
  omega
 have e2 : (BitVec.ofInt 32 (c : Int)).toNat = c := by rw [BitVec.toNat_ofInt]; omega
 rw [BitVec.toNat_or, e1, e2, ← Nat.shiftLeft_add_eq_or_of_lt (show c < 2 ^ 8 by omega), Nat.shiftLeft_eq]
 omega
theorem or_shl8 {x c : Int} (hx : 0 ≤ x ∧ x ≤ 4294967295) (hc : 0 ≤ c ∧ c ≤ 255) : orI .u32 (shlI .u32 x 8) (convI .u32 c) = addI .u32 (mulI .u32 x 256) (convI .u32 c) := by
 obtain ⟨a, rfl⟩ := Int.eq_ofNat_of_zero_le hx.1
 obtain ⟨d, rfl⟩ := Int.eq_ofNat_of_zero_le hc.1
 have h1 : shlI .u32 (a : Int) 8 = ((a * 256 : Nat) : Int) % 4294967296 := by
  unfold shlI; rw [w32]; simp [IntKind.bits]
 have h2 : convI .u32 (d : Int) = (d : Int) := by unfold convI; rw [w32]; omega
 have h3 : mulI .u32 (a : Int) 256 = ((a * 256 : Nat) : Int) % 4294967296 := by
  unfold mulI; rw [w32]; simp
 have h4 := or_nat a d (by omega)
 rw [h1, h2, h3]
 have key : orI .u32 (((a * 256 : Nat) : Int) % 4294967296) (d : Int) = IntKind.wrap .u32 ((BitVec.ofInt 32 (((a * 256 : Nat) : Int) % 4294967296) ||| BitVec.ofInt 32 (d : Int)).toNat : Int) := rfl
 rw [key, h4]
 unfold addI
 rw [w32, w32]
 omega
theorem st_app {q : List Int} {z : List Int} {a x : Int} {t : Int} (h : (q.length : Int) = t) : st (q ++ a :: z) t x = q ++ x :: z := by
 unfold st
 rw [show t.toNat = q.length by omega]
 simp
theorem gt_app {q z : List Int} {t : Int} (h : 0 ≤ t) (h1 : t < (q.length : Int)) : gt (q ++ z) t = gt q t := by
 unfold gt
 have : t.toNat < q.length := by omega
 simp [List.getD_eq_getElem?_getD, List.getElem?_append_left this]
theorem gt_app0 {q z : List Int} {a t : Int} (h : (q.length : Int) = t) : gt (q ++ a :: z) t = a := by
 unfold gt
 rw [show t.toNat = q.length by omega]
 simp [List.getD_eq_getElem?_getD]
theorem arr64 {l : List Int} (h : l.length = 64) : arrN 64 l = l := arrN_full h
theorem sl_get {b : List Int} {i k : Int} (h0 : 0 ≤ i) (hk : 0 ≤ k) (hk4 : k < 4) (h : i + 4 ≤ (b.length : Int)) : gt (sl b i (i + 4)) k = gt b (i + k) := by
 unfold gt sl
 have e : (i + k).toNat = i.toNat + k.toNat := by omega
 simp only [List.getD_eq_getElem?_getD]
 rw [List.getElem?_take_of_lt (by omega), List.getElem?_drop, e]
theorem gt_isB {b : List Int} (hb : ∀ x ∈ b, 0 ≤ x ∧ x ≤ 255) (i : Int) : 0 ≤ gt b i ∧ gt b i ≤ 255 := by
 unfold gt
 rw [List.getD_eq_getElem?_getD]
 cases h : b[i.toNat]? with
 | none => exact ⟨by decide, by decide⟩
 | some x => exact hb x (List.mem_of_getElem? h)
theorem words_eq {b : List Int} (hl : b.length = 64) (hb : ∀ x ∈ b, 0 ≤ x ∧ x ≤ 255) : digest_schedule b = specieref06_words b := by
 unfold digest_schedule specieref06_words
 refine iter_eq (fun (a : Int × List Int) (c : Int × List Int) => a.1 = c.1 ∧ 0 ≤ a.1 ∧ a.1 ≤ 16 ∧ (c.2.length : Int) = a.1 ∧ a.2 = c.2 ++ List.replicate (64 - a.1).toNat 0) ?_ _ _ _ ⟨rfl, by decide, by decide, rfl, rfl⟩
 rintro ag bg hag ⟨i, w⟩ ⟨i', q⟩ ⟨e1, h0, h1, h2, h3⟩
 simp only at e1 h0 h1 h2 h3
 subst e1
 subst h3
 by_cases hi : i < 16
 ·simp only [hi, decide_true, if_true]
  have hz : List.replicate (64 - i).toNat (0 : Int) = 0 :: List.replicate (63 - i).toNat 0 := by
   rw [show (64 - i).toNat = (63 - i).toNat + 1 by omega]; rfl
  have hsl : ((sl b (4 * i) (4 * i + 4)).length : Int) = 4 := by rw [sl_len]; omega
  rw [hsl, hz]
  refine iter_eq (fun (a : Int × List Int) (c : Int × Int) => a.1 = c.2 ∧ 0 ≤ a.1 ∧ a.1 ≤ 4 ∧ (0 ≤ c.1 ∧ c.1 ≤ 4294967295) ∧ a.2 = q ++ c.1 :: List.replicate (63 - i).toNat 0) ?_ _ _ _ ⟨rfl, show (0 : Int) ≤ 0 by decide, show (0 : Int) ≤ 4 by decide, show (0 : Int) ≤ 0 ∧ (0 : Int) ≤ 4294967295 by decide, rfl⟩
  rintro ag2 bg2 hag2 ⟨k, w⟩ ⟨x, k'⟩ ⟨e1, g0, g1, g2, g3⟩
  simp only at e1 g0 g1 g2 g3
  subst e1
  subst g3
  by_cases hk : k < 4
  ·simp only [hk, decide_true, if_true]
   have hlen : (q ++ x :: List.replicate (63 - i).toNat 0).length = 64 := by simp; omega
   have hg := gt_isB hb (4 * i + k)
   rw [gt_app0 h2, sl_get (by omega) g0 hk (by omega), arr64 hlen, st_app h2, arr64 (by simp; omega), or_shl8 g2 hg]
   refine hag2 _ _ ⟨rfl, by omega, by omega, ?_, rfl⟩
   have := rng_addI .u32 (mulI .u32 x 256) (convI .u32 (gt b (4 * i + k)))
   rw [rng_u32] at this
   exact this
  ·simp only [hk, decide_false, Bool.false_eq_true, if_false]
   refine hag _ _ ⟨rfl, by omega, by omega, by simp; omega, ?_⟩
   rw [show (64 - (i + 1)).toNat = (63 - i).toNat by omega]
   simp
 ·simp only [hi, decide_false, Bool.false_eq_true, if_false]
  have e16 : i = 16 := by omega
  subst e16
  refine iter_eq (fun (a : Int × List Int) (c : Int × List Int) => a.1 = c.1 ∧ 16 ≤ a.1 ∧ a.1 ≤ 64 ∧ (c.2.length : Int) = a.1 ∧ a.2 = c.2 ++ List.replicate (64 - a.1).toNat 0) ?_ _ _ _ ⟨rfl, show (16 : Int) ≤ 16 by decide, show (16 : Int) ≤ 64 by decide, h2, rfl⟩
  rintro ag2 bg2 hag2 ⟨t, w⟩ ⟨t', p⟩ ⟨e1, g0, g1, g2, g3⟩
  simp only at e1 g0 g1 g2 g3
  subst e1
  subst g3
  by_cases ht : t < 64
  ·simp only [ht, decide_true, if_true, letk]
   have hz : List.replicate (64 - t).toNat (0 : Int) = 0 :: List.replicate (63 - t).toNat 0 := by
    rw [show (64 - t).toNat = (63 - t).toNat + 1 by omega]; rfl
   rw [hz, gt_app (t := t - 15) (by omega) (by omega), gt_app (t := t - 2) (by omega) (by omega), gt_app (t := t - 16) (by omega) (by omega), gt_app (t := t - 7) (by omega) (by omega)]
   rw [right_eq _ (by decide), right_eq _ (by decide), right_eq _ (by decide), right_eq _ (by decide)]
   have hlen : ∀ y : Int, (p ++ y :: List.replicate (63 - t).toNat 0).length = 64 := fun y => by simp; omega
   rw [arr64 (hlen 0), st_app g2, arr64 (hlen _)]
   refine hag2 _ _ ⟨rfl, by omega, by omega, by simp; omega, ?_⟩
   rw [show (64 - (t + 1)).toNat = (63 - t).toNat by omega]
   simp
  ·simp only [ht, decide_false, Bool.false_eq_true, if_false]
   rw [show (64 - t).toNat = 0 by omega]
   simp
end Go.Proofs.YtcbdmoihobdjaaaDoor
namespace Go.Proofs.YtcbdmoihobdjaaaDoor
open Go.RowKit
theorem iter_rel {α β R S : Type} {F : (α → R) → α → R} {G : (β → S) → β → S} {d : α → R} {e : β → S} (Rel : α → β → Prop) (Q : R → S → Prop) (mu : α → Nat)
  (h : ∀ ag bg a b, Rel a b → (∀ a' b', Rel a' b' → mu a' < mu a → Q (ag a') (bg b')) → Q (F ag a) (G bg b)) : ∀ (n m : Nat) (a : α) (b : β), Rel a b → mu a < n → mu a < m → Q (iter n F d a) (iter m G e b)
 | 0, _, _, _, _, h1, _ => absurd h1 (Nat.not_lt_zero _)
 | _, 0, _, _, _, _, h1 => absurd h1 (Nat.not_lt_zero _)
 | n + 1, m + 1, a, b, hr, h1, h2 => by
  rw [iter, iter]
  exact h _ _ a b hr fun a' b' hr' hm => iter_rel Rel Q mu h n m a' b' hr' (by omega) (by omega)
def rnd (K : List Int → List Int) (h w : List Int) : List Int := (iter (((64 : Int) - 0).toNat + 1) (fun (ag17 : (Int × List Int) → (List Int)) (p17 : Int × List Int) => (if (decide (p17.1 < 64)) then (letk (specieref06_right (gt p17.2 4) 6) (fun (x22 : Int) => (letk (specieref06_right (gt p17.2 4) 11) (fun (x24 : Int) => (letk (specieref06_right (gt p17.2 4) 25) (fun (x26 : Int) => (letk (specieref06_right (gt p17.2 0) 2) (fun (x33 : Int) => (letk (specieref06_right (gt p17.2 0) 13) (fun (x35 : Int) => (letk (specieref06_right (gt p17.2 0) 22) (fun (x37 : Int) => (ag17 ((p17.1 + 1), ([(addI .u32 (addI .u32 (addI .u32 (addI .u32 (addI .u32 (gt p17.2 7) (xorI .u32 (xorI .u32 x22 x24) x26)) (xorI .u32 (andI .u32 (gt p17.2 4) (gt p17.2 5)) (andI .u32 (notI .u32 (gt p17.2 4)) (gt p17.2 6)))) (gt specieref06_constants p17.1)) (gt w p17.1)) (addI .u32 (xorI .u32 (xorI .u32 x33 x35) x37) (xorI .u32 (xorI .u32 (andI .u32 (gt p17.2 0) (gt p17.2 1)) (andI .u32 (gt p17.2 0) (gt p17.2 2))) (andI .u32 (gt p17.2 1) (gt p17.2 2))))), (gt p17.2 0), (gt p17.2 1), (gt p17.2 2), (addI .u32 (gt p17.2 3) (addI .u32 (addI .u32 (addI .u32 (addI .u32 (gt p17.2 7) (xorI .u32 (xorI .u32 x22 x24) x26)) (xorI .u32 (andI .u32 (gt p17.2 4) (gt p17.2 5)) (andI .u32 (notI .u32 (gt p17.2 4)) (gt p17.2 6)))) (gt specieref06_constants p17.1)) (gt w p17.1))), (gt p17.2 4), (gt p17.2 5), (gt p17.2 6)] : List Int))))))))))))))) else (iter (((8 : Int) - 0).toNat + 1) (fun (ag43 : (Int × List Int) → (List Int)) (p43 : Int × List Int) => (if (decide (p43.1 < 8)) then (ag43 ((p43.1 + 1), (st p43.2 p43.1 (addI .u32 (gt p43.2 p43.1) (gt p17.2 p43.1))))) else (K p43.2))) (fun _ => default) (0, h)))) (fun _ => default) (0, (([] : List Int) ++ h)))
theorem list8 {l : List Int} (h : l.length = 8) : l = [gt l 0, gt l 1, gt l 2, gt l 3, gt l 4, gt l 5, gt l 6, gt l 7] := by
 match l, h with
 | [a, b, c, d, e, f, g, i], _ => rfl
theorem arr8 {l : List Int} (h : l.length = 8) : arrN 8 l = l := arrN_full h
theorem kg_eq : kg_1 = specieref06_constants := rfl
theorem rnd_eq (K : List Int → List Int) {h b : List Int} (hl : h.length = 8) : rnd K h (digest_schedule b) = K (digest_mix h b) := by
 unfold rnd digest_mix
 simp only [letk]
 generalize digest_schedule b = w
 refine iter_rel (fun (a : Int × Int × Int × Int × Int × Int × Int × Int × Int) (c : Int × List Int) => a.2.2.2.2.2.2.2.2 = c.1 ∧ 0 ≤ c.1 ∧ c.1 ≤ 64 ∧ c.2 = [a.1, a.2.1, a.2.2.1, a.2.2.2.1, a.2.2.2.2.1, a.2.2.2.2.2.1, a.2.2.2.2.2.2.1, a.2.2.2.2.2.2.2.1]) (fun r s => s = K r) (fun a => (64 - a.2.2.2.2.2.2.2.2).toNat) ?_ _ _ _ _ ⟨rfl, show (0 : Int) ≤ 0 by decide, show (0 : Int) ≤ 64 by decide, list8 hl⟩ (show ((64 : Int) - 0).toNat < ((64 : Int) - 0).toNat + 1 by decide) (show ((64 : Int) - 0).toNat < ((64 : Int) - 0).toNat + 1 by decide)
 rintro ag bg ⟨a0, a1, a2, a3, a4, a5, a6, a7, t⟩ ⟨t', v⟩ ⟨e1, g0, g1, g2⟩ hag
 simp only at e1 g0 g1 g2 hag
 subst e1
 subst g2
 by_cases ht : t < 64
 ·simp only [ht, decide_true, if_true]
  rw [right_eq _ (by decide), right_eq _ (by decide), right_eq _ (by decide), right_eq _ (by decide), right_eq _ (by decide), right_eq _ (by decide), kg_eq]
  refine hag _ _ ⟨rfl, by omega, by omega, ?_⟩ (by simp only; omega)
  rfl
 ·simp only [ht, decide_false, Bool.false_eq_true, if_false]
  refine iter_rel (fun (a : Int × List Int) (c : Int × List Int) => a = c ∧ 0 ≤ a.1 ∧ a.1 ≤ 8 ∧ a.2.length = 8) (fun r s => s = K r) (fun a => (8 - a.1).toNat) ?_ _ _ _ _ ⟨rfl, show (0 : Int) ≤ 0 by decide, show (0 : Int) ≤ 8 by decide, hl⟩ (show ((8 : Int) - 0).toNat < ((8 : Int) - 0).toNat + 1 by decide) (show ((8 : Int) - 0).toNat < ((8 : Int) - 0).toNat + 1 by decide)
  rintro ag2 bg2 ⟨i, s⟩ ⟨i', s'⟩ ⟨e1, k0, k1, k2⟩ hag2
  cases e1
  simp only at k0 k1 k2 hag2
  by_cases hi : i < 8
  ·simp only [hi, decide_true, if_true]
   rw [arr8 k2, arr8 (by rw [st_len]; exact k2)]
   exact hag2 _ _ ⟨rfl, by simp only; omega, by simp only; omega, by simp only [st_len]; exact k2⟩ (by simp only; omega)
  ·simp only [hi, decide_false, Bool.false_eq_true, if_false]
end Go.Proofs.YtcbdmoihobdjaaaDoor
namespace Go.Proofs.YtcbdmoihobdjaaaDoor
open Go.RowKit
theorem isB_rep (n : Nat) : isB (List.replicate n 0) := fun x hx => by
 rw [(List.mem_replicate.1 hx).2]; decide
theorem count_eq (n : Int) : digest_count n = specieref06_bytes n := by kernel_rfl
theorem bytes_isB (n : Int) : isB (specieref06_bytes n) := by
 rw [bytes_list]
 have key : ∀ a, 0 ≤ convI .u8 a ∧ convI .u8 a ≤ 255 := fun a => by have := rng_convI .u8 a; rwa [rng_u8] at this
 intro x hx
 simp only [List.mem_cons, List.not_mem_nil, or_false] at hx
 rcases hx with rfl | rfl | rfl | rfl | rfl | rfl | rfl | rfl <;> exact key _
theorem mul8 {n : Nat} (h : n ≤ 1000000000) : mulI .u64 8 (convI .u64 (n : Int)) = mulI .i64 8 (n : Int) := by
 unfold mulI convI
 rw [w64, w64, IntKind.wrap_i64]
 omega
theorem padded_isB {b : List Int} (hb : isB b) : isB (specieref06_padded b) := by
 rw [padded_eq]
 exact isB_app (isB_app (isB_app hb (fun x hx => by simp at hx; subst hx; decide)) (isB_rep _)) (bytes_isB _)
theorem mix_len {h b : List Int} (hl : h.length = 8) : (digest_mix h b).length = 8 := by
 unfold digest_mix
 simp only [letk]
 generalize digest_schedule b = w
 refine iter_inv (fun (a : Int × Int × Int × Int × Int × Int × Int × Int × Int) => a.2.2.2.2.2.2.2.2 ≤ 64) (fun r : List Int => r.length = 8) (fun a => (64 - a.2.2.2.2.2.2.2.2).toNat) ?_ _ _ (show (0 : Int) ≤ 64 by decide) (show ((64 : Int) - 0).toNat < ((64 : Int) - 0).toNat + 1 by decide)
 rintro ag ⟨a0, a1, a2, a3, a4, a5, a6, a7, t⟩ g0 hag
 simp only at g0 hag
 by_cases ht : t < 64
 ·simp only [ht, decide_true, if_true]
  exact hag _ (by simp only; omega) (by simp only; omega)
 ·simp only [ht, decide_false, Bool.false_eq_true, if_false]
  refine iter_inv (fun (a : Int × List Int) => a.2.length = 8) (fun r : List Int => r.length = 8) (fun a => (8 - a.1).toNat) ?_ _ _ hl (show ((8 : Int) - 0).toNat < ((8 : Int) - 0).toNat + 1 by decide)
  rintro ag2 ⟨i, s⟩ k0 hag2
  simp only at k0 hag2
  by_cases hi : i < 8
  ·simp only [hi, decide_true, if_true]
   exact hag2 _ arrN_len (by simp only; omega)
  ·simp only [hi, decide_false, Bool.false_eq_true, if_false]
   exact k0
theorem sl_drop {l : List Int} {n : Nat} : sl (l.drop n) 0 64 = sl l (n : Int) ((n : Int) + 64) := by
 unfold sl
 rw [show ((n : Int) + 64).toNat - (n : Int).toNat = 64 by omega]
 simp
theorem sl_rest {l : List Int} {n : Nat} : sl (l.drop n) 64 ((l.drop n).length : Int) = l.drop (n + 64) := by
 unfold sl
 rw [show (64 : Int).toNat = 64 from rfl, List.drop_drop, List.take_of_length_le (by simp; omega)]
theorem sum_eq {b : List Int} (hb : isB b) (hl : b.length ≤ 1000000000) : digest_Sum b = specieref06_Sum b := by
 unfold digest_Sum specieref06_Sum
 simp only [letk, bytes_Clone]
 refine (pad_run (fun ag p => rfl)).trans ?_
 have hX := padded_isB hb
 have hX64 := padded_len b
 have e : (b ++ [128]) ++ List.replicate ((56 - ((b ++ [(128 : Int)]).length : Int)) % 64).toNat 0 ++ digest_count (mulI .u64 8 (convI .u64 (b.length : Int))) = specieref06_padded b := by
  rw [padded_eq, count_eq, mul8 hl]; rfl
 simp only [e]
 generalize specieref06_padded b = X at hX hX64
 refine iter_rel (fun (a : List Int × List Int) (c : Int × List Int) => ∃ n : Nat, c.1 = (n : Int) ∧ a.1 = X.drop n ∧ a.2 = c.2 ∧ c.2.length = 8 ∧ n ≤ X.length ∧ n % 64 = 0) (fun r s => r = s) (fun a => a.1.length) ?_ _ _ _ _ ⟨0, rfl, rfl, rfl, rfl, Nat.zero_le _, rfl⟩ (Nat.lt_succ_self _) (show X.length < ((X.length : Int) - 0).toNat + 1 by omega)
 rintro ag bg ⟨r, s⟩ ⟨at', s'⟩ ⟨n, rfl, rfl, rfl, g1, g2, g3⟩ hag
 simp only at g1 hag
 by_cases hn : n < X.length
 ·have c1 : ((X.drop n).length : Int) > 0 := by rw [List.length_drop]; omega
  have c2 : (n : Int) < (X.length : Int) := by omega
  have hlen : (sl X (n : Int) ((n : Int) + 64)).length = 64 := by rw [sl_len]; omega
  simp only [c1, c2, decide_true, if_true]
  rw [← words_eq hlen (isB_sl hX), sl_drop, sl_rest]
  have hrel : ∃ k : Nat, ((n : Int) + 64) = (k : Int) ∧ X.drop (n + 64) = X.drop k ∧ k ≤ X.length ∧ k % 64 = 0 := by
   generalize hk : n + 64 = k
   exact ⟨k, by omega, rfl, by omega, by omega⟩
  obtain ⟨k, k1, k2, k3, k4⟩ := hrel
  have hmu : (X.drop (n + 64)).length < (X.drop n).length := by rw [List.length_drop, List.length_drop]; omega
  have hm := mix_len (b := sl X (n : Int) ((n : Int) + 64)) g1
  have h1 := hag (X.drop (n + 64), digest_mix s (sl X (n : Int) ((n : Int) + 64))) ((n : Int) + 64, digest_mix s (sl X (n : Int) ((n : Int) + 64)))
  simp only at h1
  have h2 := h1 ⟨k, k1, k2, trivial, hm, k3, k4⟩ hmu
  refine Eq.trans h2 ?_
  exact (rnd_eq (fun z => bg ((n : Int) + 64, z)) g1).symm
 ·have c1 : ¬ ((X.drop n).length : Int) > 0 := by rw [List.length_drop]; omega
  have c2 : ¬ (n : Int) < (X.length : Int) := by omega
  simp only [c1, c2, decide_false, Bool.false_eq_true, if_false]
  show (_ : List Int) = _
  kernel_rfl
end Go.Proofs.YtcbdmoihobdjaaaDoor
namespace Go.Proofs.YtcbdmoihobdjaaaDoor
open Go.RowKit
theorem arr_range (h : List Int) : arrN 32 h = (List.range 32).map fun k : Nat => gt h (k : Int) := by kernel_rfl
theorem isB_arr {l : List Int} (h : isB l) : isB (arrN 32 l) := by
 rw [arr_range]
 intro x hx
 obtain ⟨k, _, rfl⟩ := List.mem_map.1 hx
 exact gt_isB h _
theorem isB_nat8 (t : List UInt8) : isB (nat8 t) := fun x hx => by
 obtain ⟨b, _, rfl⟩ := List.mem_map.1 hx
 have := UInt8.toNat_lt b
 omega
theorem isB_st {l : List Int} {i x : Int} (h : isB l) (hx : 0 ≤ x ∧ x ≤ 255) : isB (st l i x) := fun y hy => by
 rcases List.mem_or_eq_of_mem_set hy with h1 | h1
 ·exact h y h1
 ·rw [h1]; exact hx
theorem rsum_ok (b : List Int) : (specieref06_Sum b).length = 32 ∧ isB (specieref06_Sum b) := by
 have key : ∀ a, 0 ≤ convI .u8 a ∧ convI .u8 a ≤ 255 := fun a => by have := rng_convI .u8 a; rwa [rng_u8] at this
 unfold specieref06_Sum
 simp only [letk]
 generalize specieref06_padded b = X
 refine iter_inv (fun (_ : Int × List Int) => True) (fun r : List Int => r.length = 32 ∧ isB r) (fun a => ((X.length : Int) - a.1).toNat) ?_ _ _ trivial (show ((X.length : Int) - 0).toNat < ((X.length : Int) - 0).toNat + 1 by omega)
 rintro ag ⟨n, s⟩ _ hag
 simp only at hag
 by_cases hn : n < (X.length : Int)
 ·simp only [hn, decide_true, if_true]
  refine iter_inv (fun (_ : Int × List Int) => True) (fun r : List Int => r.length = 32 ∧ isB r) (fun a => (64 - a.1).toNat) ?_ _ _ trivial (show ((64 : Int) - 0).toNat < ((64 : Int) - 0).toNat + 1 by decide)
  rintro ag2 ⟨t, v⟩ _ hag2
  simp only at hag2
  by_cases ht : t < 64
  ·simp only [ht, decide_true, if_true]
   exact hag2 _ trivial (by simp only; omega)
  ·simp only [ht, decide_false, Bool.false_eq_true, if_false]
   refine iter_inv (fun (_ : Int × List Int) => True) (fun r : List Int => r.length = 32 ∧ isB r) (fun a => (8 - a.1).toNat) ?_ _ _ trivial (show ((8 : Int) - 0).toNat < ((8 : Int) - 0).toNat + 1 by decide)
   rintro ag3 ⟨i, h⟩ _ hag3
   simp only at hag3
   by_cases hi : i < 8
   ·simp only [hi, decide_true, if_true]
    exact hag3 _ trivial (by simp only; omega)
   ·simp only [hi, decide_false, Bool.false_eq_true, if_false]
    exact hag _ trivial (by simp only; omega)
 ·simp only [hn, decide_false, Bool.false_eq_true, if_false]
  refine iter_inv (fun (a : Int × List Int) => a.2.length = 32 ∧ isB a.2) (fun r : List Int => r.length = 32 ∧ isB r) (fun a => (32 - a.1).toNat) ?_ _ _ ⟨rfl, isB_rep 32⟩ (show ((32 : Int) - 0).toNat < ((32 : Int) - 0).toNat + 1 by decide)
  rintro ag2 ⟨t, v⟩ hv hag2
  simp only at hv hag2
  by_cases ht : t < 32
  ·simp only [ht, decide_true, if_true]
   exact hag2 _ ⟨arrN_len, isB_arr (isB_st (isB_arr hv.2) (key _))⟩ (by simp only; omega)
  ·simp only [ht, decide_false, Bool.false_eq_true, if_false]
   exact hv
theorem join_eq (b h : List Int) : specieref06_Join b h = b ++ arrN 32 h := by
 rw [arr_range]
 unfold specieref06_Join
 refine iter_inv (fun (a : Int × List Int) => ∃ k : Nat, a.1 = (k : Int) ∧ k ≤ 32 ∧ a.2 = b ++ (List.range k).map fun j : Nat => gt h (j : Int)) (fun r : List Int => r = b ++ (List.range 32).map fun k : Nat => gt h (k : Int)) (fun a => (32 - a.1).toNat) ?_ _ _ ⟨0, rfl, by decide, by simp⟩ (show ((32 : Int) - 0).toNat < ((32 : Int) - 0).toNat + 1 by decide)
 rintro ag ⟨i, q⟩ ⟨k, e1, e2, e3⟩ hag
 simp only at e1 e3 hag
 subst e1
 subst e3
 by_cases hi : k < 32
 ·have : (k : Int) < 32 := by omega
  simp only [this, decide_true, if_true]
  exact hag _ ⟨k + 1, rfl, hi, by rw [List.range_succ]; simp⟩ (by simp only; omega)
 ·have : ¬ (k : Int) < 32 := by omega
  have e : k = 32 := by omega
  simp only [this, decide_false, Bool.false_eq_true, if_false]
  rw [e]
theorem tagged_eq {tag : List UInt8} {b : List Int} (h1 : 1 ≤ tag.length) (h2 : tag.length ≤ 100) (hb : isB b) (hl : b.length ≤ 900000000) : digest_Tagged tag b = (specieref06_Tagged tag b, 0) := by
 unfold digest_Tagged specieref06_Tagged
 have c1 : ¬ (tag.length : Int) < 1 := by omega
 have c2 : ¬ (tag.length : Int) > 100 := by omega
 simp only [c1, c2, decide_false, Bool.false_eq_true, if_false, letk, bytes_Clone, join_eq, List.nil_append]
 have e1 := sum_eq (isB_nat8 tag) (by rw [nat8_len]; omega)
 obtain ⟨l1, l2⟩ := rsum_ok (nat8 tag)
 rw [e1]
 generalize specieref06_Sum (nat8 tag) = t at l1 l2
 have e2 : arrN 32 t = t := arrN_full l1
 rw [e2, sum_eq (isB_app (isB_app l2 l2) hb) (by simp only [List.length_append]; omega)]
theorem tagged_ok (tag : List UInt8) (b : List Int) : (specieref06_Tagged tag b).length = 32 ∧ isB (specieref06_Tagged tag b) := by
 unfold specieref06_Tagged
 simp only [letk]
 exact rsum_ok _
end Go.Proofs.YtcbdmoihobdjaaaDoor
namespace Go.Proofs.YtcbdmoihobdjaaaDoor
open Go.RowKit
theorem inv_awake : specielaw38_awake = true := by decide +kernel
def invI (v : S_api_Invoice) : S_api_Item := listI [bytI (arrN 32 v.Payee), intI v.Amount, intI v.Time, intI v.Number]
theorem within_inv (v : S_api_Invoice) : withinM (invI v) 8 = true := by
 simp [invI, listI, intI, bytI, withinM, withinL]
theorem hgt_inv (v : S_api_Invoice) : hgt (invI v) ≤ 100 := by
 simp [invI, listI, intI, bytI, hgt, hgtL, arrN_len]
theorem inv_short (v : S_api_Invoice) : (encI (invI v)).length ≤ 900 := by
 have := encI_len (invI v); have := hgt_inv v; omega
theorem valid_inv (v : S_api_Invoice) : specieref38_Valid v = payment_valid v := by
 unfold specieref38_Valid specieref38_in payment_valid
 simp only [letk]
 by_cases h1 : v.Amount ≥ 1 <;> by_cases h2 : v.Amount ≤ 1099511627776 <;> by_cases h3 : v.Time ≥ 0 <;> by_cases h4 : v.Time ≤ 1099511627776 <;> by_cases h5 : v.Number ≥ 0 <;> simp [h1, h2, h3, h4, h5]
theorem rinvI (v : S_api_Invoice) : specieref38_Invoice v = encI (invI v) := by
 rw [rinv_eq, rBytes_eq]; rfl
theorem encode_inv (v : S_api_Invoice) : encode_Encode (invI v) = (encI (invI v), 0) := by
 have hl := inv_short v
 unfold encode_Encode
 simp only [letk, valid_eq, within_inv, Bool.not_true, Bool.false_eq_true, if_false]
 rcases writeM_enc (invI v) [] 8 (within_inv v) with e | ⟨_, e2⟩
 ·rw [e]
  have : ¬ (([] ++ encI (invI v)).length : Int) > 16384 := by rw [List.nil_append]; omega
  rw [if_neg (by simpa using this), List.nil_append]
 ·rw [List.nil_append] at e2; omega
theorem inv_bad {v : S_api_Invoice} (h : payment_valid v = false) : payment_Invoice v = ([], 1) := by
 unfold payment_Invoice
 refine letk_go fun x1 h1 => ?_
 rw [if_pos (by rw [h1, h]; decide)]
theorem inv_ok {v : S_api_Invoice} (h : payment_valid v = true) : payment_Invoice v = (encI (invI v), 0) := by
 unfold payment_Invoice
 refine letk_go fun x1 h1 => ?_
 rw [if_neg (by rw [h1, h]; decide)]
 refine letk_go fun x7 h7 => ?_
 refine letk_go fun x10 h10 => ?_
 refine letk_go fun x13 h13 => ?_
 refine letk_go fun x16 h16 => ?_
 have e : x16 = encode_Encode (invI v) := by rw [h16, h7, h10, h13]; rfl
 rw [e, encode_inv]
theorem ok_inv {v : S_api_Invoice} (h : wfV (e_api_Invoice v)) : okI (invI v) := by
 have ha : wfV (e_arr23 v.Payee) := by
  simp only [e_api_Invoice, e_arr23, wfV, wfL] at h ⊢
  simp only [h, and_self]
 simp only [e_api_Invoice, wfV, wfL, rng_i64] at h
 refine ok_list (fun x hx => ?_)
 simp only [List.mem_cons, List.not_mem_nil, or_false] at hx
 rcases hx with rfl | rfl | rfl | rfl
 ·exact ok_byt (ok_arr ha) arrN_len
 ·exact ok_int (by simp only [r64, h, and_self])
 ·exact ok_int (by simp only [r64, h, and_self])
 ·exact ok_int (by simp only [r64, h, and_self])
theorem arr_gt {x y : List Int} (h : arrN 32 x = arrN 32 y) : ∀ i : Int, 0 ≤ i → i.toNat < 32 → gt x i = gt y i := fun i h0 h1 => by
 rw [← gt_arrN h0 h1, h, gt_arrN h0 h1]
theorem foldr_and {p : Nat → Bool} {R : Bool} : ∀ l : List Nat, l.foldr (fun k b => p k && b) R = (l.all p && R)
 | [] => rfl
 | a :: l => by rw [List.foldr_cons, foldr_and l, List.all_cons, Bool.and_assoc]
theorem arr_all (x y : List Int) : ((List.range 32).all fun k : Nat => gt x (k : Int) == gt y (k : Int)) = true ↔ arrN 32 x = arrN 32 y := by
 rw [List.all_eq_true]
 constructor
 ·intro h
  rw [arr_range, arr_range]
  exact List.map_congr_left fun k hk => by simpa using h k hk
 ·intro h k hk
  have hk' := List.mem_range.1 hk
  have := arr_gt h (k : Int) (by omega) (by omega)
  simpa using this
theorem q_inv_fold (a b : S_api_Invoice) : q_api_Invoice a b = (List.range 32).foldr (fun (k : Nat) r => (gt a.Payee (k : Int) == gt b.Payee (k : Int)) && r) (a.Amount == b.Amount && (a.Time == b.Time && a.Number == b.Number)) := by kernel_rfl
theorem q_inv_refl (a : S_api_Invoice) : q_api_Invoice a a = true := by
 rw [q_inv_fold, foldr_and]; simp
theorem q_ctx_fold (a b : S_api_Context) : q_api_Context a b = (List.range 32).foldr (fun (k : Nat) r => (gt a.Payee (k : Int) == gt b.Payee (k : Int)) && r) (a.Time == b.Time && a.Number == b.Number) := by kernel_rfl
theorem q_ctx_refl (a : S_api_Context) : q_api_Context a a = true := by
 rw [q_ctx_fold, foldr_and]; simp
def normV (v : S_api_Invoice) : S_api_Invoice := { v with Payee := arrN 32 v.Payee }
theorem q_norm (v : S_api_Invoice) : q_api_Invoice (normV v) v = true := by
 rw [q_inv_fold, foldr_and, (arr_all _ _).2 (by simp only [normV, arrN_arrN])]
 simp [normV]
theorem within_mk {l : List S_api_Item} (hl : l.length ≤ 1000) (h : ∀ x ∈ l, withinM x 7 = true) : withinM (listI l) 8 = true := by
 simp only [listI, withinM, withinL_all]
 simp [hl]
 exact h
theorem tail_valid {i : S_api_Item} (hv : withinM i 8 = true) (h1 : i.Kind = 3) : withinM (listI (i.L.drop 1)) 8 = true := by
 have ei := within_kind3 hv h1
 obtain ⟨h2, h3⟩ := within_list (ei ▸ hv)
 exact within_mk (by rw [List.length_drop]; omega) (fun x hx => h3 x (List.mem_of_mem_drop hx))
theorem from_both {x : List Int} (hb : isB x) : specieref38_FromInvoice x = ((payment_FromInvoice x).1, decide ((payment_FromInvoice x).2 = 0)) ∧ ((payment_FromInvoice x).2 = 0 ∨ payment_FromInvoice x = (z_api_Invoice, 3)) := by
 unfold specieref38_FromInvoice payment_FromInvoice
 rcases rDecode7 hb with ⟨i, d1, d2, hv⟩ | ⟨d1, d2⟩
 ·simp only [letk, d1, d2, bne_self_eq_false, Bool.false_eq_true, if_false, rHash_eq, spend_hash_eq]
  by_cases h1 : i.Kind = 3
  ·by_cases h2 : (i.L.length : Int) = 4
   ·have hn := tail_valid hv h1
    have hl : (sl i.L 1 (i.L.length : Int)) = i.L.drop 1 := sl_tail
    have e1 : specieref38_list (sl i.L 1 (i.L.length : Int)) = listI (i.L.drop 1) := by rw [hl]; rfl
    have e2 : ({ Kind := 3, N := 0, B := ([] : List Int), L := (sl i.L 1 (i.L.length : Int)) } : S_api_Item) = listI (i.L.drop 1) := by rw [hl]; rfl
    rw [e1, e2, rNum 3 hn]
    have hlen := Numbers_len (i := listI (i.L.drop 1)) rfl
    generalize encode_Numbers (listI (i.L.drop 1)) = p at hlen
    obtain ⟨p, e⟩ := p
    simp only [listI, List.length_drop] at hlen
    by_cases a1 : (gt i.L 0).Kind = 2
    ·by_cases a2 : (gt i.L 0).B.length = 32
     ·by_cases a3 : e = 0
      ·have a4 : (p.length : Int) = 3 := by rcases hlen with h | h <;> simp_all <;> omega
       cases hq : payment_valid ({ Payee := arrN 32 (gt i.L 0).B, Amount := gt p 0, Time := gt p 1, Number := gt p 2 } : S_api_Invoice) <;> simp [h1, h2, a1, a2, a3, a4, valid_inv, hq]
      ·simp [h1, h2, a1, a2, a3]
     ·have : ¬ ((gt i.L 0).B.length : Int) = 32 := by omega
      by_cases a3 : e = 0 <;> simp [h1, h2, a1, a2, a3, this]
    ·by_cases a3 : e = 0 <;> simp [h1, h2, a1, a3]
   ·simp [h1, h2]
  ·simp [h1]
 ·simp only [letk]
  generalize encode_Decode x = P at d1
  generalize specieref07_Decode x = R at d2
  obtain ⟨P1, P2⟩ := P
  obtain ⟨R1, R2⟩ := R
  simp only at d1 d2
  simp [d1, d2]
theorem inv_fwd {v : S_api_Invoice} (hw : wfV (e_api_Invoice v)) (hv : payment_valid v = true) : payment_FromInvoice (encI (invI v)) = (normV v, 0) := by
 have ho := ok_inv hw
 have e1 : encode_Decode (encI (invI v)) = (invI v, 0) := by
  have hr := rdI_full (within_inv v) ho
  rcases encode_Decode_eq (encI_isB _ ho) with ⟨i, g1, g2, _⟩ | ⟨_, g2⟩
  ·rw [hr] at g2; cases g2; exact g1
  ·exact absurd hr (g2 (by have := inv_short v; omega) _)
 have e2 : ({ Kind := 3, N := 0, B := ([] : List Int), L := (sl (invI v).L 1 ((invI v).L.length : Int)) } : S_api_Item) = intsI [v.Amount, v.Time, v.Number] := rfl
 have e3 := Numbers_ints (l := [v.Amount, v.Time, v.Number]) (by simp [intsI, intI, withinM, withinL])
 unfold payment_FromInvoice
 refine letk_go fun x1 h1 => ?_
 rw [e1] at h1
 subst h1
 rw [if_neg (by show ¬ ((0 : Int) != 0) = true; decide), if_neg (by show ¬ ((3 : Int) != 3) = true; decide), if_neg (by show ¬ ((4 : Int) != 4) = true; decide), if_neg (by show ¬ ((2 : Int) != 2) = true; decide), if_neg (by show ¬ ((((arrN 32 v.Payee).length : Nat) : Int) != 32) = true; rw [arrN_len]; decide)]
 refine letk_go fun x16 h16 => ?_
 rw [e2, e3] at h16
 subst h16
 rw [if_neg (by show ¬ ((0 : Int) != 0) = true; decide)]
 refine letk_go fun x27 h27 => ?_
 have h28 : x27 = payment_valid v := h27
 rw [if_neg (by rw [h28, hv]; decide)]
 show (({ Payee := arrN 32 (arrN 32 v.Payee), Amount := v.Amount, Time := v.Time, Number := v.Number } : S_api_Invoice), (0 : Int)) = _
 rw [arrN_arrN]; rfl
theorem u8N_nat (b : UInt8) : u8N (b.toNat : Int) = b := by
 unfold u8N
 rw [Int.toNat_natCast]
 exact UInt8.toNat.inj (by rw [UInt8.toNat_ofNat']; have := UInt8.toNat_lt b; omega)
theorem hex_eq {h : List Int} (hb : ∀ k : Nat, k < 32 → 0 ≤ gt h (k : Int) ∧ gt h (k : Int) ≤ 255) : specieref06_Hex h = digest_Hex h := by
 unfold specieref06_Hex digest_Hex
 refine iter_inv (fun a : Int × List Int => ∃ k : Nat, a.1 = (k : Int) ∧ k ≤ 32 ∧ a.2 = (hexOf (fun k => gt h (k : Int)) k).map fun b => (b.toNat : Int)) (fun r : List UInt8 => r = hexOf (fun k => gt h (k : Int)) 32) (fun a => (32 - a.1).toNat) ?_ _ _ ⟨0, rfl, by decide, rfl⟩ (show ((32 : Int) - 0).toNat < ((32 : Int) - 0).toNat + 1 by decide)
 rintro ag ⟨i, q⟩ ⟨k, g0, g1, g2⟩ hag
 simp only at g0 g2 hag ⊢
 subst g0; subst g2
 by_cases hi : k < 32
 ·have hi' : (k : Int) < 32 := by omega
  rw [if_pos (by simpa using hi')]
  refine hag _ ⟨k + 1, rfl, hi, ?_⟩ (by simp only; omega)
  obtain ⟨b0, b1⟩ := hb k hi
  have e1 : quoI .u8 (gt h (k : Int)) 16 = gt h (k : Int) / 16 := by
   unfold quoI; rw [Int.tdiv_eq_ediv_of_nonneg b0]
   simp [IntKind.wrap, IntKind.bits, IntKind.signed]
   omega
  have e2 : remI .u8 (gt h (k : Int)) 16 = gt h (k : Int) % 16 := Int.tmod_eq_emod_of_nonneg b0
  simp only [e1, e2, hexOf, List.map_append, List.map_cons, List.map_nil, hexDig]
 ·have hi' : ¬ (k : Int) < 32 := by omega
  rw [if_neg (by simpa using hi')]
  rw [List.map_map, show k = 32 by omega]
  exact (List.map_congr_left fun b _ => u8N_nat b).trans (List.map_id _)
def invTag : List UInt8 := [115, 112, 101, 99, 105, 101, 47, 105, 110, 118, 111, 105, 99, 101]
theorem label_bad {v : S_api_Invoice} (h : payment_valid v = false) : payment_Label v = ([], 1) := by
 unfold payment_Label
 refine letk_go fun x1 h1 => ?_
 rw [inv_bad h] at h1
 subst h1
 rw [if_pos (by decide)]
theorem label_ok {v : S_api_Invoice} (hw : wfV (e_api_Invoice v)) (h : payment_valid v = true) : payment_Label v = (specieref38_Label v, 0) := by
 have ht := tagged_eq (tag := invTag) (b := encI (invI v)) (by decide) (by decide) (encI_isB _ (ok_inv hw)) (by have := inv_short v; omega)
 obtain ⟨t1, t2⟩ := tagged_ok invTag (encI (invI v))
 have hr : specieref38_Label v = [112, 97, 121, 58] ++ (((specieref06_Hex (specieref06_Tagged invTag (encI (invI v)))).drop (0 : Int).toNat).take ((16 : Int).toNat - (0 : Int).toNat)) := by
  unfold specieref38_Label
  refine letk_go fun x1 h1 => ?_
  rw [rinvI] at h1
  refine letk_go fun x4 h4 => ?_
  refine letk_go fun x7 h7 => ?_
  have h8 : x4 = specieref06_Tagged invTag (encI (invI v)) := by rw [h4, h1]; rfl
  rw [h7, h8]
 rw [hr, hex_eq (fun k _ => gt_isB t2 _)]
 unfold payment_Label
 refine letk_go fun x1 h1 => ?_
 rw [inv_ok h] at h1
 rw [if_neg (by rw [h1]; show ¬ ((0 : Int) != 0) = true; decide)]
 refine letk_go fun x7 h7 => ?_
 have h8 : x7 = digest_Tagged invTag (encI (invI v)) := by rw [h7, h1]; rfl
 rw [ht] at h8
 rw [if_neg (by rw [h8]; show ¬ ((0 : Int) != 0) = true; decide)]
 refine letk_go fun x13 h13 => ?_
 rw [h13, h8]
theorem specielaw38_PaymentInvoices_true (v : S_api_Invoice) (x : List Int) (hw : wfL [e_api_Invoice v, .sl none 1 false (x.map (V.int .u8))]) : specielaw38_PaymentInvoices v x = true := by
 simp only [wfL] at hw
 have hb : isB x := isB_wf (by have := hw.2.1; simp only [wfV] at this; exact this.2)
 obtain ⟨f1, f2⟩ := from_both hb
 unfold specielaw38_PaymentInvoices
 refine letk_go fun x1 h1 => ?_
 rw [inv_awake] at h1
 rw [if_neg (by rw [h1]; decide)]
 by_cases hl : decide ((x.length : Int) > 200) = true
 ·rw [if_pos hl]
 rw [if_neg hl]
 refine letk_go fun x10 h10 => ?_
 refine letk_go fun x13 h13 => ?_
 refine letk_go fun x16 h16 => ?_
 refine letk_go fun x19 h19 => ?_
 refine letk_go fun x22 h22 => ?_
 rw [f1, ← h19] at h22
 rw [← h19] at f2
 rw [if_neg (by rw [h22]; cases h : decide (x19.2 = 0) <;> simp_all), if_neg (by rw [h22, q_inv_refl]; decide)]
 have hx : (x19.2 = 0 ∧ x22.2 = true) ∨ (x19.2 = 3 ∧ x22.2 = false) := by
  rcases f2 with e | e
  ·exact .inl ⟨e, by rw [h22, e]; rfl⟩
  ·exact .inr ⟨by rw [e], by rw [h22, e]; rfl⟩
 have done : ∀ y, y = specieref38_Valid v → y = payment_valid v := fun y hy => by rw [hy, valid_inv]
 rcases hx with ⟨e1, e2⟩ | ⟨e1, e2⟩
 ·rw [if_neg (by rw [e2]; decide)]
  refine letk_go fun x34 h34 => ?_
  have h35 := done _ h34
  cases hv : payment_valid v with
  | false =>
   rw [if_pos (by rw [h35, hv]; decide)]
   have c1 : x10 = (z_api_Context, 1) := by rw [h10]; unfold payment_Context; refine letk_go fun y hy => ?_; rw [if_pos (by rw [hy, hv]; decide)]
   rw [label_bad hv] at h13
   rw [inv_bad hv] at h16
   rw [if_pos (by rw [c1]; exact beq_self_eq_true (1 : Int)), if_pos (by rw [c1]; exact q_ctx_refl _), if_pos (by rw [h13]; exact beq_self_eq_true (1 : Int)), if_pos (by rw [h13]; rfl), if_pos (by rw [h16]; exact beq_self_eq_true (1 : Int)), h16]
   rfl
  | true =>
   rw [if_neg (by rw [h35, hv]; decide)]
   refine letk_go fun x55 h55 => ?_
   have c1 : x10 = ({ Payee := v.Payee, Time := v.Time, Number := v.Number }, 0) := by rw [h10]; unfold payment_Context; refine letk_go fun y hy => ?_; rw [if_neg (by rw [hy, hv]; decide)]
   rw [label_ok hw.1 hv] at h13
   rw [inv_ok hv] at h16
   rw [h16] at h55
   have h56 : x55 = (normV v, 0) := by rw [h55]; exact inv_fwd hw.1 hv
   rw [if_pos (by rw [c1]; exact beq_self_eq_true (0 : Int))]
   refine letk_go fun x60 h60 => ?_
   rw [if_pos (by rw [c1, h60]; exact q_ctx_refl _), if_pos (by rw [h13]; exact beq_self_eq_true (0 : Int))]
   refine letk_go fun x66 h66 => ?_
   rw [if_pos (by rw [h13, h66]; exact beq_self_eq_true _), if_pos (by rw [h16]; exact beq_self_eq_true (0 : Int))]
   refine letk_go fun x72 h72 => ?_
   refine letk_go fun x74 h74 => ?_
   rw [rinvI] at h72
   rw [if_pos (by rw [h74, h16, h72]; exact beq_self_eq_true _), if_pos (by rw [h56]; exact beq_self_eq_true (0 : Int)), h56]
   exact q_norm v
 ·rw [if_pos (by rw [e2]; decide), if_neg (by rw [e1]; decide)]
  refine letk_go fun x34 h34 => ?_
  have h35 := done _ h34
  cases hv : payment_valid v with
  | false =>
   rw [if_pos (by rw [h35, hv]; decide)]
   have c1 : x10 = (z_api_Context, 1) := by rw [h10]; unfold payment_Context; refine letk_go fun y hy => ?_; rw [if_pos (by rw [hy, hv]; decide)]
   rw [label_bad hv] at h13
   rw [inv_bad hv] at h16
   rw [if_pos (by rw [c1]; exact beq_self_eq_true (1 : Int)), if_pos (by rw [c1]; exact q_ctx_refl _), if_pos (by rw [h13]; exact beq_self_eq_true (1 : Int)), if_pos (by rw [h13]; rfl), if_pos (by rw [h16]; exact beq_self_eq_true (1 : Int)), h16]
   rfl
  | true =>
   rw [if_neg (by rw [h35, hv]; decide)]
   refine letk_go fun x55 h55 => ?_
   have c1 : x10 = ({ Payee := v.Payee, Time := v.Time, Number := v.Number }, 0) := by rw [h10]; unfold payment_Context; refine letk_go fun y hy => ?_; rw [if_neg (by rw [hy, hv]; decide)]
   rw [label_ok hw.1 hv] at h13
   rw [inv_ok hv] at h16
   rw [h16] at h55
   have h56 : x55 = (normV v, 0) := by rw [h55]; exact inv_fwd hw.1 hv
   rw [if_pos (by rw [c1]; exact beq_self_eq_true (0 : Int))]
   refine letk_go fun x60 h60 => ?_
   rw [if_pos (by rw [c1, h60]; exact q_ctx_refl _), if_pos (by rw [h13]; exact beq_self_eq_true (0 : Int))]
   refine letk_go fun x66 h66 => ?_
   rw [if_pos (by rw [h13, h66]; exact beq_self_eq_true _), if_pos (by rw [h16]; exact beq_self_eq_true (0 : Int))]
   refine letk_go fun x72 h72 => ?_
   refine letk_go fun x74 h74 => ?_
   rw [rinvI] at h72
   rw [if_pos (by rw [h74, h16, h72]; exact beq_self_eq_true _), if_pos (by rw [h56]; exact beq_self_eq_true (0 : Int)), h56]
   exact q_norm v
end Go.Proofs.YtcbdmoihobdjaaaDoor
