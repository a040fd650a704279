/- Texts of this proof, one after the other: U1. -/
import Derived.Test.YteolfhljhnplpaaZ4
set_option linter.unusedVariables false
set_option linter.unusedSimpArgs false
namespace Go.Proofs.Yteolfhljhnplpaa
open Go.RowKit
set_option linter.unusedSimpArgs false
set_option maxHeartbeats 2000000 in
set_option maxRecDepth 100000 in
instance denom_single_ok   (d_ : S_api_Denom)  : CM En (denom_single d_) 21 [.agg [.int .i64 d_.Value, .int .i64 d_.Depth]] (fun y => .bool y) (fun _ => []) := by
 refine cmQ fun r hM => ?_
 rw [denom_single.eq_1] at hM
 refine enterV En_ok En_mo noJ Try.func21 rfl Try.ntmps21 (by kernel_rfl) fun hw => ct_start ?_
 refine spQ ?_
 replace hw := nzQ hw
 refine condC_intro (fun h1 => ?_) (fun h1 => ?_)
 ·have kh1 : (q_api_Denom d_ z_api_Denom) = true := h1
  rw [if_pos kh1] at hM
  refine spQA h1 ?_
  have nh1 := nzQ kh1
  subst hM
  exact retC_view (lfQA h1)
 ·have kh1 : (q_api_Denom d_ z_api_Denom) = false := h1
  rw [if_neg (ne_true kh1)] at hM
  refine spQA h1 ?_
  have nh1 := nzQ kh1
  refine ct_draw 33 24 [6, 7, 8, 9, 10, 11, 12, 13, 14, 15, 16, 17, 18, 19, 20, 21, 22, 23, 24, 25, 26, 27, 28, 29] [] ([[], [0], [0, 1], [0, 1, 2], [0, 1, 2, 3], [0, 1, 2, 3, 4], [0, 1, 2, 3, 4, 5], [0, 1, 2, 3, 4, 5, 6], [0, 1, 2, 3, 4, 5, 6, 7], [0, 1, 2, 3, 4, 5, 6, 7, 8], [0, 1, 2, 3, 4, 5, 6, 7, 8, 9], [0, 1, 2, 3, 4, 5, 6, 7, 8, 9, 10], [0, 1, 2, 3, 4, 5, 6, 7, 8, 9, 10, 11], [0, 1, 2, 3, 4, 5, 6, 7, 8, 9, 10, 11, 12], [0, 1, 2, 3, 4, 5, 6, 7, 8, 9, 10, 11, 12, 13], [0, 1, 2, 3, 4, 5, 6, 7, 8, 9, 10, 11, 12, 13, 14], [0, 1, 2, 3, 4, 5, 6, 7, 8, 9, 10, 11, 12, 13, 14, 15], [0, 1, 2, 3, 4, 5, 6, 7, 8, 9, 10, 11, 12, 13, 14, 15, 16], [0, 1, 2, 3, 4, 5, 6, 7, 8, 9, 10, 11, 12, 13, 14, 15, 16, 17], [0, 1, 2, 3, 4, 5, 6, 7, 8, 9, 10, 11, 12, 13, 14, 15, 16, 17, 18], [0, 1, 2, 3, 4, 5, 6, 7, 8, 9, 10, 11, 12, 13, 14, 15, 16, 17, 18, 19], [0, 1, 2, 3, 4, 5, 6, 7, 8, 9, 10, 11, 12, 13, 14, 15, 16, 17, 18], [0, 1, 2, 3, 4, 5, 6, 7, 8, 9, 10, 11, 12, 13, 14, 15, 16, 17, 18, 21], [0, 1, 2, 3, 4, 5, 6, 7, 8, 9, 10, 11, 12, 13, 14, 15, 16, 17, 18, 21, 22]] ++ [List.range 24, List.range 25, List.range 26, List.range 27]) [] (by kernel_rfl) (by exact alQ) ?_
  refine spQ ?_
  refine hguardC_t (fun h2 => ?_) (fun h2 => ?_)
  ·rw [if_pos h2] at hM
   refine spQA h2 ?_
   have nh2 := nzQ h2
   refine hguardC_t (fun h3 => ?_) (fun h3 => ?_)
   ·rw [if_pos h3] at hM
    refine spQA h3 ?_
    have nh3 := nzQ h3
    refine hguardC_t (fun h4 => ?_) (fun h4 => ?_)
    ·rw [if_pos h4] at hM
     refine spQA h4 ?_
     have nh4 := nzQ h4
     refine hguardC_t (fun h5 => ?_) (fun h5 => ?_)
     ·rw [if_pos h5] at hM
      refine spQA h5 ?_
      have nh5 := nzQ h5
      refine hbindC_intro omQ ?_
      refine spQ ?_
      refine bindC_intro (by (clear hM; simp only [decide_eq_true_eq] at *; rcases (show d_.Depth = 0 ∨ d_.Depth = 1 ∨ d_.Depth = 2 ∨ d_.Depth = 3 ∨ d_.Depth = 4 ∨ d_.Depth = 5 by omega) with h | h | h | h | h | h <;> rw [h] <;> decide)) ?_
      refine spQ ?_
      subst hM
      exact retC_view (lfQA (And.intro h1 (And.intro h2 (And.intro h3 (And.intro h4 h5)))))
     ·rw [if_neg (ne_true h5)] at hM
      refine spQA h5 ?_
      have nh5 := nzQ h5
      subst hM
      exact retC_view (lfQA (And.intro h1 (And.intro h2 (And.intro h3 (And.intro h4 h5)))))
    ·rw [if_neg (ne_true h4)] at hM
     refine spQA h4 ?_
     have nh4 := nzQ h4
     subst hM
     exact retC_view (lfQA (And.intro h1 (And.intro h2 (And.intro h3 h4))))
   ·rw [if_neg (ne_true h3)] at hM
    refine spQA h3 ?_
    have nh3 := nzQ h3
    subst hM
    exact retC_view (lfQA (And.intro h1 (And.intro h2 h3)))
  ·rw [if_neg (ne_true h2)] at hM
   refine spQA h2 ?_
   have nh2 := nzQ h2
   subst hM
   exact retC_view (lfQA (And.intro h1 h2))
set_option maxHeartbeats 2000000 in
set_option maxRecDepth 100000 in
instance denom_Valid_ok   (l : (List S_api_Denom))  : CM En (denom_Valid l) 15 [.sl none 2 true (l.map e_api_Denom)] (fun y => .bool y) (fun _ => []) := by
 refine cmQ fun r hM => ?_
 rw [denom_Valid.eq_1] at hM
 refine enterV En_ok En_mo noJ Try.func15 rfl Try.ntmps15 (by kernel_rfl) fun hw => ct_start ?_
 refine spQ ?_
 replace hw := nzQ hw
 refine guardC_f (fun h1 => ?_) (fun h1 => ?_)
 ·rw [if_neg (ne_true h1)] at hM
  refine spQA h1 ?_
  have nh1 := nzQ h1
  refine condC_intro (fun h2 => ?_) (fun h2 => ?_)
  ·rw [if_pos h2] at hM
   refine spQA h2 ?_
   have nh2 := nzQ h2
   subst hM
   exact retC_view (lfQA (And.intro h1 h2))
  ·rw [if_neg (ne_true h2)] at hM
   refine spQA h2 ?_
   have nh2 := nzQ h2
   have hM0 := hM; clear hM; obtain ⟨f3, d3, hf3, hd3, hM⟩ := iter_opn hM0; clear hM0
   refine ct_loop (fun n S => ∃ p : Int, S = (⟨[(0, .sl none 2 true (l.map e_api_Denom)), (13, .sl none 2 true (l.map e_api_Denom)), (14, .int .i64 (l.length : Int)), (15, .int .i64 p)], [], 0⟩ : St) ∧ ((0 ≤ p) ∧ (p ≤ (l.length : Int))) ∧ ((l.length : Int) - p).toNat < n ∧ iter n f3 d3 p = r) (((l.length : Int) - 0).toNat + 1) _ sbQ sbQ ⟨0, rfl, ⟨omQ, omQ⟩, (Nat.lt_succ_self _), hM⟩ ?_
   clear hM
   rintro n3 S ⟨p3, rfl, hfa3, hm3, hM⟩
   have hM0 := hM; clear hM; obtain ⟨ag3, hag3, hM⟩ := iter_step hM0 (by omega) hf3; clear hM0
   replace hfa3 := nzQ hfa3
   replace hm3 := nzQ hm3
   have ha3 : addI .i64 p3 1 = p3 + 1 := add_one omQ omQ
   refine spQA ha3 ?_
   refine condC_intro (fun h4 => ?_) (fun h4 => ?_)
   ·rw [if_pos h4] at hM
    refine spQA (And.intro ha3 h4) ?_
    have nh4 := nzQ h4
    refine bindC_intro omQ ?_
    have he5 := fun d => elt_mp (l := l) (f := e_api_Denom) (i := p3) omQ d
    refine spQA (And.intro ha3 he5) ?_
    have hM0 := hM; clear hM; obtain ⟨x6, hx7, hM⟩ := letk_opn hM0; clear hM0
    have hcx6 := cmU hx7
    refine callC_give hcx6 (clQA (And.intro ha3 he5)) (clQA (And.intro ha3 he5)) (fun hw8 => ?_)
    replace hw8 := nzQ hw8
    refine spQA (And.intro ha3 he5) ?_
    refine condC_intro (fun h9 => ?_) (fun h9 => ?_)
    ·rw [if_pos h9] at hM
     refine spQA (And.intro ha3 (And.intro he5 h9)) ?_
     have nh9 := nzQ h9
     subst hM
     exact retC_view (lfQA (And.intro ha3 (And.intro he5 (And.intro h1 (And.intro h2 (And.intro h4 h9))))))
    ·rw [if_neg (ne_true h9)] at hM
     refine spQA (And.intro ha3 (And.intro he5 h9)) ?_
     have nh9 := nzQ h9
     refine ct_draw 59 31 [23, 24, 25, 26, 27, 28, 29, 30, 31, 32, 33, 34, 35, 36, 37, 38, 39, 40, 41, 42, 43, 44, 45, 46, 47, 48, 49, 50, 51, 52, 53] [] ([[], [0], [0, 1], [0, 1, 2], [0, 1, 2, 3], [0, 1, 2], [0, 1, 2], [0, 1, 2, 6], [0, 1, 2, 5, 6, 7], [0, 1, 2, 5, 6, 7, 8], [0, 1, 2, 5, 6, 7, 8, 9], [0, 1, 2, 3, 4, 5, 6, 7, 8, 9, 10], [0, 1, 2, 3, 4, 5, 6, 7, 8, 9, 10, 11], [0, 1, 2, 3, 4, 5, 6, 7, 8, 9, 10, 11, 12], [0, 1, 2, 3, 4, 5, 6, 7, 8, 9, 10, 11, 12, 13], [0, 1, 2, 3, 4, 5, 6, 7, 8, 9, 10, 11, 12], [0, 1, 2, 3, 4, 5, 6, 7, 8, 9, 10, 11, 12], [0, 1, 2, 3, 4, 5, 6, 7, 8, 9, 10, 11, 12, 16], [0, 1, 2, 3, 4, 5, 6, 7, 8, 9, 10, 11, 12, 15, 16, 17], [0, 1, 2, 3, 4, 5, 6, 7, 8, 9, 10, 11, 12, 15, 16, 17, 18], [0, 1, 2, 3, 4, 5, 6, 7, 8, 9, 10, 11, 12, 15, 16, 17, 18, 19], [0, 1, 2, 3, 4, 5, 6, 7, 8, 9, 10, 11, 12, 13, 14, 15, 16, 17, 18, 19, 20], [0, 1, 2, 3, 4, 5, 6, 7, 8, 9, 10, 11, 12, 13, 14, 15, 16, 17, 18, 19, 20, 21], [0, 1, 2, 3, 4, 5, 6, 7, 8, 9, 10, 11, 12, 13, 14, 15, 16, 17, 18, 19, 20, 21, 22], [0, 1, 2, 3, 4, 5, 6, 7, 8, 9, 10, 11, 12, 13, 14, 15, 16, 17, 18, 19, 20, 21, 22, 23], [0, 1, 2, 3, 4, 5, 6, 7, 8, 9, 10, 11, 12, 13, 14, 15, 16, 17, 18, 19, 20, 21, 22], [0, 1, 2, 3, 4, 5, 6, 7, 8, 9, 10, 11, 12, 13, 14, 15, 16, 17, 18, 19, 20, 21, 22], [0, 1, 2, 3, 4, 5, 6, 7, 8, 9, 10, 11, 12, 13, 14, 15, 16, 17, 18, 19, 20, 21, 22, 26], [0, 1, 2, 3, 4, 5, 6, 7, 8, 9, 10, 11, 12, 13, 14, 15, 16, 17, 18, 19, 20, 21, 22, 25, 26, 27], [0, 1, 2, 3, 4, 5, 6, 7, 8, 9, 10, 11, 12, 13, 14, 15, 16, 17, 18, 19, 20, 21, 22, 25, 26, 27, 28], [0, 1, 2, 3, 4, 5, 6, 7, 8, 9, 10, 11, 12, 13, 14, 15, 16, 17, 18, 19, 20, 21, 22, 25, 26, 27, 28, 29]] ++ [List.range 31, List.range 32, List.range 33, List.range 34]) [] (by kernel_rfl) (by exact alQ) ?_
     refine spQA (And.intro ha3 he5) ?_
     refine hguardC_t (fun h10 => ?_) (fun h10 => ?_)
     ·rw [if_pos h10] at hM
      refine spQA (And.intro ha3 (And.intro he5 h10)) ?_
      have nh10 := nzQ h10
      have ha11 : subI .i64 p3 1 = (p3 - 1) := sub_ok omQ omQ
      try simp only [ha11]
      have hF := (And.intro h1 (And.intro h2 (And.intro ha3 (And.intro h4 (And.intro he5 (And.intro h9 (And.intro h10 ha11)))))))
      exact auQ
     ·rw [if_neg (ne_true h10)] at hM
      refine spQA (And.intro ha3 (And.intro he5 h10)) ?_
      have nh10 := nzQ h10
      refine lp_intro (n3 - 1) _ (by omega) sbQ sbQ ⟨(p3 + 1), rfl, ⟨omQ, omQ⟩, omQ, iter_again hM hag3⟩
   ·rw [if_neg (ne_true h4)] at hM
    refine spQA (And.intro ha3 h4) ?_
    have nh4 := nzQ h4
    subst hM
    exact retC_view (lfQA (And.intro ha3 (And.intro h1 (And.intro h2 h4))))
 ·rw [if_pos h1] at hM
  refine spQA h1 ?_
  have nh1 := nzQ h1
  subst hM
  exact retC_view (lfQA h1)
set_option maxHeartbeats 2000000 in
set_option maxRecDepth 100000 in
instance math_bits_Mul64_ok   (x_ : Int) (y : Int)  : CM En (math_bits_Mul64 x_ y) 27 [.int .u64 x_, .int .u64 y] (fun y => .tup [.int .u64 y.1, .int .u64 y.2]) (fun _ => []) := by
 refine cmQ fun r hM => ?_
 rw [math_bits_Mul64.eq_1] at hM
 refine enterV En_ok En_mo noJ Try.func27 rfl Try.ntmps27 (by kernel_rfl) fun hw => ct_start ?_
 refine spQ ?_
 replace hw := nzQ hw
 subst hM
 exact retC_view lfQ
set_option maxHeartbeats 2000000 in
set_option maxRecDepth 100000 in
instance math_bits_Mul_ok   (x_ : Int) (y : Int)  : CM En (math_bits_Mul x_ y) 22 [.int .u64 x_, .int .u64 y] (fun y => .tup [.int .u64 y.1, .int .u64 y.2]) (fun _ => []) := by
 refine cmQ fun r hM => ?_
 rw [math_bits_Mul.eq_1] at hM
 refine enterV En_ok En_mo noJ Try.func22 rfl Try.ntmps22 (by kernel_rfl) fun hw => ct_start ?_
 refine spQ ?_
 replace hw := nzQ hw
 have hF := trueQ
 exact auQ
set_option maxHeartbeats 2000000 in
set_option maxRecDepth 100000 in
theorem slices_Repeat_int_int_ok   (x_ : (List Int)) (count : Int) (hp0 : 0 ≤ count) (hp1 : count ≤ 1000) (hp2 : x_.length = 1) : CM En (slices_Repeat_int_int x_ count) 16 [.sl none 1 false (x_.map (V.int .i64)), .int .i64 count] (fun y => .sl none 1 false (y.map (V.int .i64))) (fun _ => []) := by
 refine cmQ fun r hM => ?_
 rw [slices_Repeat_int_int.eq_1] at hM
 refine enterV En_ok En_mo [7] Try.func16 rfl Try.ntmps16 (by kernel_rfl) fun hw => ct_start ?_
 refine spQ ?_
 replace hw := nzQ hw
 refine condC_intro (fun h1 => ?_) (fun h1 => ?_)
 ·rw [if_pos h1] at hM
  refine spQA h1 ?_
  have nh1 := nzQ h1
  exact False.elim omQ
 ·rw [if_neg (ne_true h1)] at hM
  refine spQA h1 ?_
  have nh1 := nzQ h1
  have hM0 := hM; clear hM; obtain ⟨x2, hx3, hM⟩ := letk_opn hM0; clear hM0
  have hcx2 := cmU hx3
  refine callC_give hcx2 clQ clQ (fun hw4 => ?_)
  replace hw4 := nzQ hw4
  refine spQ ?_
  have hq5 : x2.1 = 0 ∧ x2.2 = count ∧ convI .i64 x2.2 = count := by
     have e1 : convI .u64 (x_.length : Int) = 1 := by rw [hp2]; exact conv_u64 (by decide) (by decide)
     have e2 : convI .u64 count = count := conv_u64 hp0 (by omega)
     rw [e1, e2, mul_one rfl hp0 hp1] at hx3
     rw [hx3]; exact ⟨rfl, rfl, conv_i64 (by omega) (by omega)⟩
  replace hq5 := nzQ hq5
  refine guardC_f (fun h6 => ?_) (fun h6 => ?_)
  ·rw [if_neg (ne_true h6)] at hM
   refine spQA h6 ?_
   have nh6 := nzQ h6
   refine condC_intro (fun h7 => ?_) (fun h7 => ?_)
   ·rw [if_pos h7] at hM
    refine spQA h7 ?_
    have nh7 := nzQ h7
    exact False.elim omQ
   ·rw [if_neg (ne_true h7)] at hM
    refine spQA h7 ?_
    have nh7 := nzQ h7
    refine seqC_pass ?_
    try refine spQ ?_
    refine bindC_intro omQ ?_
    refine spQ ?_
    refine cut_weak (⟨[(0, .sl none 1 false (x_.map (V.int .i64))), (7, .own 0)], [(0, .own 3 1 false (some false) ((rep (convI .i64 x2.2).toNat (0 : Int)).map (V.int .i64)))], 1⟩ : St) sbQ sbQ ?_
    try refine spQ ?_
    have hM0 := hM; clear hM; obtain ⟨f8, d8, hf8, hd8, hM⟩ := iter_opn hM0; clear hM0
    refine ct_loop (fun n S => ∃ p : Int × List Int, S = (⟨[(7, .own 0), (8, .int .i64 p.1)], [(0, .own 3 1 false none (p.2.map (V.int .i64)))], 1⟩ : St) ∧ ((0 ≤ p.1) ∧ (p.1 ≤ (p.2.length : Int)) ∧ (1 ≤ p.1 ∨ p.2.length = 0) ∧ ((p.2).length = ((spl (rep (convI .i64 x2.2).toNat (0 : Int)) 0 (min (convI .i64 x2.2).toNat x_.length) x_)).length)) ∧ ((p.2.length : Int) - p.1).toNat < n ∧ iter n f8 d8 p = r) ((((spl (rep (convI .i64 x2.2).toNat (0 : Int)) 0 (min (convI .i64 x2.2).toNat x_.length) x_).length : Int) - ((min (convI .i64 x2.2).toNat x_.length : Nat) : Int)).toNat + 1) _ sbQ sbQ ⟨(((min (convI .i64 x2.2).toNat x_.length : Nat) : Int), (spl (rep (convI .i64 x2.2).toNat (0 : Int)) 0 (min (convI .i64 x2.2).toNat x_.length) x_)), rfl, ⟨omQ, omQ, omQ, omQ⟩, (Nat.lt_succ_self _), hM⟩ ?_
    clear hM
    rintro n8 S ⟨p8, rfl, hfa8, hm8, hM⟩
    have hM0 := hM; clear hM; obtain ⟨ag8, hag8, hM⟩ := iter_step hM0 (by omega) hf8; clear hM0
    replace hfa8 := nzQ hfa8
    replace hm8 := nzQ hm8
    have ha8 : addI .i64 p8.1 1 = p8.1 + 1 := add_one omQ omQ
    refine spQA ha8 ?_
    refine condC_intro (fun h9 => ?_) (fun h9 => ?_)
    ·rw [if_pos h9] at hM
     refine spQA (And.intro ha8 h9) ?_
     have nh9 := nzQ h9
     refine ct_draw 48 8 [38, 39, 40, 41, 42, 43, 44, 45] [] ([[], [], [], [1, 2], [], [], [4, 5], [1, 2, 3, 4, 5, 6]] ++ [List.range 8, List.range 9]) [(7, 0)] (by kernel_rfl) (by exact alQ) ?_
     refine spQA ha8 ?_
     refine hbindC_intro omQ ?_
     refine spQA ha8 ?_
     refine hbindC_intro omQ ?_
     refine spQA ha8 ?_
     have ha10 : addI .i64 p8.1 ((min (p8.2.length - (p8.1).toNat) (cutN p8.2 0 (p8.1).toNat).length : Nat) : Int) = (p8.1 + ((min (p8.2.length - (p8.1).toNat) (cutN p8.2 0 (p8.1).toNat).length : Nat) : Int)) := add_ok omQ omQ
     try simp only [ha10]
     refine lp_intro (n8 - 1) _ (by omega) sbQ sbQ ⟨((p8.1 + ((min (p8.2.length - (p8.1).toNat) (cutN p8.2 0 (p8.1).toNat).length : Nat) : Int)), (spl p8.2 (p8.1).toNat (min (p8.2.length - (p8.1).toNat) (cutN p8.2 0 (p8.1).toNat).length) (cutN p8.2 0 (p8.1).toNat))), rfl, ⟨omQ, omQ, omQ, omQ⟩, omQ, iter_again hM hag8⟩
    ·rw [if_neg (ne_true h9)] at hM
     refine spQA (And.intro ha8 h9) ?_
     have nh9 := nzQ h9
     subst hM
     exact retC_view (lfQA (And.intro ha8 (And.intro h1 (And.intro h6 (And.intro h7 h9)))))
  ·rw [if_pos h6] at hM
   refine spQA h6 ?_
   have nh6 := nzQ h6
   exact False.elim omQ
set_option maxHeartbeats 2000000 in
set_option maxRecDepth 100000 in
instance denom_counted_1_ok   (n_ : Int)  : CM En (denom_counted_1 n_) 24 [.int .i64 n_] (fun y => .bool y) (fun _ => []) := by
 refine cmQ fun r hM => ?_
 rw [denom_counted_1.eq_1] at hM
 refine enterV En_ok En_mo noJ Try.func24 rfl Try.ntmps24 (by kernel_rfl) fun hw => ct_start ?_
 refine spQ ?_
 replace hw := nzQ hw
 have hF := trueQ
 exact auQ
set_option maxHeartbeats 2000000 in
set_option maxRecDepth 100000 in
instance slices_IndexFunc_int_int_at_denom_counted_1_ok   (s : (List Int))  : CM En (slices_IndexFunc_int_int_at_denom_counted_1 s) 28 [.sl none 1 false (s.map (V.int .i64)), .fn 24 []] (fun y => .int .i64 y) (fun _ => []) := by
 refine cmQ fun r hM => ?_
 rw [slices_IndexFunc_int_int_at_denom_counted_1.eq_1] at hM
 refine enterV En_ok En_mo noJ Try.func28 rfl Try.ntmps28 (by kernel_rfl) fun hw => ct_start ?_
 refine spQ ?_
 replace hw := nzQ hw
 have hM0 := hM; clear hM; obtain ⟨f1, d1, hf1, hd1, hM⟩ := iter_opn hM0; clear hM0
 refine ct_loop (fun n S => ∃ p : Int, S = (⟨[(0, .sl none 1 false (s.map (V.int .i64))), (1, .fn 24 []), (7, .int .i64 (s.length : Int)), (8, .int .i64 p)], [], 0⟩ : St) ∧ ((0 ≤ p) ∧ (p ≤ (s.length : Int))) ∧ ((s.length : Int) - p).toNat < n ∧ iter n f1 d1 p = r) (((s.length : Int) - 0).toNat + 1) _ sbQ sbQ ⟨0, rfl, ⟨omQ, omQ⟩, (Nat.lt_succ_self _), hM⟩ ?_
 clear hM
 rintro n1 S ⟨p1, rfl, hfa1, hm1, hM⟩
 have hM0 := hM; clear hM; obtain ⟨ag1, hag1, hM⟩ := iter_step hM0 (by omega) hf1; clear hM0
 replace hfa1 := nzQ hfa1
 replace hm1 := nzQ hm1
 have ha1 : addI .i64 p1 1 = p1 + 1 := add_one omQ omQ
 refine spQA ha1 ?_
 have hF := ha1
 exact auQ
set_option maxHeartbeats 2000000 in
set_option maxRecDepth 100000 in
instance slices_ContainsFunc_int_int_at_denom_counted_1_ok   (s : (List Int))  : CM En (slices_ContainsFunc_int_int_at_denom_counted_1 s) 23 [.sl none 1 false (s.map (V.int .i64)), .fn 24 []] (fun y => .bool y) (fun _ => []) := by
 refine cmQ fun r hM => ?_
 rw [slices_ContainsFunc_int_int_at_denom_counted_1.eq_1] at hM
 refine enterV En_ok En_mo noJ Try.func23 rfl Try.ntmps23 (by kernel_rfl) fun hw => ct_start ?_
 refine spQ ?_
 replace hw := nzQ hw
 have hF := trueQ
 exact auQ
set_option maxHeartbeats 2000000 in
set_option maxRecDepth 100000 in
instance denom_counted_ok   (l : (List S_api_Denom)) (counts : (List Int))  : CM En (denom_counted l counts) 17 [.sl none 2 true (l.map e_api_Denom), .sl none 1 false (counts.map (V.int .i64))] (fun y => .bool y) (fun _ => []) := by
 refine cmQ fun r hM => ?_
 rw [denom_counted.eq_1] at hM
 refine enterV En_ok En_mo noJ Try.func17 rfl Try.ntmps17 (by kernel_rfl) fun hw => ct_start ?_
 refine spQ ?_
 replace hw := nzQ hw
 have hF := trueQ
 exact auQ
set_option maxHeartbeats 4000000 in
set_option maxRecDepth 100000 in
theorem denom_change_ok   (l : (List S_api_Denom)) (most : (List Int)) (amount : Int) (hp0 : 0 ≤ amount) (hp1 : amount ≤ 1000) (hp2 : most.length = l.length) (hp3 : l.length ≤ 16) (hpl : ∀ j : Int, 0 ≤ j → j.toNat < l.length → 0 ≤ (gt l j).Value ∧ (gt l j).Value ≤ 1099511627776) (hpm : ∀ j : Int, 0 ≤ j → j.toNat < most.length → 0 ≤ gt most j ∧ gt most j ≤ 1000) : CM En (denom_change l most amount) 18 [.sl none 2 true (l.map e_api_Denom), .sl none 1 false (most.map (V.int .i64)), .int .i64 amount] (fun y => .tup [.sl none 1 false (y.1.map (V.int .i64)), .bool y.2]) (fun _ => []) := by
 refine cmQ fun r hM => ?_
 rw [denom_change.eq_1] at hM
 refine enterV En_ok En_mo [2, 3, 29] Try.func18 rfl Try.ntmps18 (by kernel_rfl) fun hw => ct_start ?_
 refine spQ ?_
 replace hw := nzQ hw
 refine seqC_pass ?_
 try refine spQ ?_
 have ha1 : addI .i64 (l.length : Int) 1 = ((l.length : Int) + 1) := add_ok (by (first | exact omQ | (clear hM; first | (have hr := hF13_0.1; exact omQ') | (have hr := hF9_0.1; exact omQ') | (have hr := hF5_0 (l.length : Int) (by omega) (by omega); exact omQ')))) (by (first | exact omQ | (clear hM; first | (have hr := hF13_0.1; exact omQ') | (have hr := hF9_0.1; exact omQ') | (have hr := hF5_0 (l.length : Int) (by omega) (by omega); exact omQ'))))
 try simp only [ha1]
 refine bindC_intro (by (first | exact omQ | (clear hM; first | (have hr := hF13_0.1; exact omQ') | (have hr := hF9_0.1; exact omQ') | (have hr := hF5_0 (l.length : Int) (by omega) (by omega); exact omQ')))) ?_
 refine spQA ha1 ?_
 refine cut_weak (⟨[(0, .sl none 2 true (l.map e_api_Denom)), (1, .sl none 1 false (most.map (V.int .i64))), (2, .int .i64 amount), (8, .own 0)], [(0, .own 50 1 false (some false) ((rep ((l.length : Int) + 1).toNat []).map (fun (l : List S_denom_way) => V.sl none 3 true (l.map e_denom_way))))], 1⟩ : St) sbQ sbQ ?_
 try refine spQA ha1 ?_
 refine seqC_pass ?_
 try refine spQA ha1 ?_
 have ha2 : addI .i64 amount 1 = (amount + 1) := add_ok (by (first | exact omQ | (clear hM; first | (have hr := hF13_0.1; exact omQ') | (have hr := hF9_0.1; exact omQ') | (have hr := hF5_0 (l.length : Int) (by omega) (by omega); exact omQ')))) (by (first | exact omQ | (clear hM; first | (have hr := hF13_0.1; exact omQ') | (have hr := hF9_0.1; exact omQ') | (have hr := hF5_0 (l.length : Int) (by omega) (by omega); exact omQ'))))
 try simp only [ha2]
 refine bindC_intro (by (first | exact omQ | (clear hM; first | (have hr := hF13_0.1; exact omQ') | (have hr := hF9_0.1; exact omQ') | (have hr := hF5_0 (l.length : Int) (by omega) (by omega); exact omQ')))) ?_
 refine spQA (And.intro ha1 ha2) ?_
 refine bindC_intro (by (first | exact omQ | (clear hM; first | (have hr := hF13_0.1; exact omQ') | (have hr := hF9_0.1; exact omQ') | (have hr := hF5_0 (l.length : Int) (by omega) (by omega); exact omQ')))) ?_
 have he3 : ∀ d, elt ((rep ((l.length : Int) + 1).toNat []).map (fun (l : List S_denom_way) => V.sl none 3 true (l.map e_denom_way))) 0 d = (fun (l : List S_denom_way) => V.sl none 3 true (l.map e_denom_way)) (gt (rep ((l.length : Int) + 1).toNat []) 0) := fun d => elt_mp (l := (rep ((l.length : Int) + 1).toNat [])) (f := (fun (l : List S_denom_way) => V.sl none 3 true (l.map e_denom_way))) (i := 0) (by (first | exact omQ | (clear hM; first | (have hr := hF13_0.1; exact omQ') | (have hr := hF9_0.1; exact omQ') | (have hr := hF5_0 (l.length : Int) (by omega) (by omega); exact omQ')))) d
 refine spQA (And.intro ha1 (And.intro ha2 he3)) ?_
 refine bindC_intro (by (first | exact omQ | (clear hM; first | (have hr := hF13_0.1; exact omQ') | (have hr := hF9_0.1; exact omQ') | (have hr := hF5_0 (l.length : Int) (by omega) (by omega); exact omQ')))) ?_
 refine spQA (And.intro ha1 (And.intro ha2 he3)) ?_
 refine cut_weak (⟨[(0, .sl none 2 true (l.map e_api_Denom)), (1, .sl none 1 false (most.map (V.int .i64))), (2, .int .i64 amount), (8, .own 0)], [(0, .ownI 50 1 false (some false) (rowV (fun (l : List S_denom_way) => V.sl none 3 true (l.map e_denom_way)) (rep ((l.length : Int) + 1).toNat []) 0 1)), (1, .own 52 3 true (some false) ((rep (amount + 1).toNat z_denom_way).map e_denom_way))], 2⟩ : St) (by simp only [go_sem, rowV_eq, rowV_eq0, List.length_replicate, rep_len, Int.toNat_natCast, ↓reduceIte, Nat.reduceEqDiff, Nat.reduceAdd, Int.reduceAdd, Nat.reduceMul, Nat.reduceLeDiff, Nat.reduceLT, Int.reduceLE, Int.reduceLT, Int.reduceNeg, Int.reduceToNat, List.isEmpty_nil, map_st, mtL_repE, mtL_repM, subF, subH, mtO, mtB, mt, mtL, mtL_self, mt_self, ltV, ltL, ltB, eq_self, or_true, true_or, or_self, and_self, z_denom_way, rowV_ltE (f := (fun (l : List S_denom_way) => V.sl none 3 true (l.map e_denom_way))) (fun _ => by simp only [go_sem])]) (by simp only [go_sem, rowV_eq, rowV_eq0, List.length_replicate, rep_len, Int.toNat_natCast, ↓reduceIte, Nat.reduceEqDiff, Nat.reduceAdd, Int.reduceAdd, Nat.reduceMul, Nat.reduceLeDiff, Nat.reduceLT, Int.reduceLE, Int.reduceLT, Int.reduceNeg, Int.reduceToNat, List.isEmpty_nil, map_st, mtL_repE, mtL_repM, subF, subH, mtO, mtB, mt, mtL, mtL_self, mt_self, ltV, ltL, ltB, eq_self, or_true, true_or, or_self, and_self, z_denom_way, rowV_ltE (f := (fun (l : List S_denom_way) => V.sl none 3 true (l.map e_denom_way))) (fun _ => by simp only [go_sem])]) ?_
 try refine spQA (And.intro ha1 (And.intro ha2 he3)) ?_
 refine bindC_intro (by (first | exact omQ | (clear hM; first | (have hr := hF13_0.1; exact omQ') | (have hr := hF9_0.1; exact omQ') | (have hr := hF5_0 (l.length : Int) (by omega) (by omega); exact omQ')))) ?_
 refine spQA (And.intro ha1 (And.intro ha2 he3)) ?_
 refine bindC_intro (by (first | exact omQ | (clear hM; first | (have hr := hF13_0.1; exact omQ') | (have hr := hF9_0.1; exact omQ') | (have hr := hF5_0 (l.length : Int) (by omega) (by omega); exact omQ')))) ?_
 have he4 : ∀ d, elt (rowV (fun (l : List S_denom_way) => V.sl none 3 true (l.map e_denom_way)) (rep ((l.length : Int) + 1).toNat []) 0 1) 0 d = .own 1 := rowV_same (f := (fun (l : List S_denom_way) => V.sl none 3 true (l.map e_denom_way))) (l := (rep ((l.length : Int) + 1).toNat [])) (i := 1) (q := 0) (by (first | exact omQ | (clear hM; first | (have hr := hF13_0.1; exact omQ') | (have hr := hF9_0.1; exact omQ') | (have hr := hF5_0 (l.length : Int) (by omega) (by omega); exact omQ'))))
 refine spQA (And.intro ha1 (And.intro ha2 (And.intro he3 he4))) ?_
 refine bindC_intro (by (first | exact omQ | (clear hM; first | (have hr := hF13_0.1; exact omQ') | (have hr := hF9_0.1; exact omQ') | (have hr := hF5_0 (l.length : Int) (by omega) (by omega); exact omQ')))) ?_
 have he5 : ∀ d, elt ((rep (amount + 1).toNat z_denom_way).map e_denom_way) 0 d = e_denom_way (gt (rep (amount + 1).toNat z_denom_way) 0) := fun d => elt_mp (l := (rep (amount + 1).toNat z_denom_way)) (f := e_denom_way) (i := 0) (by (first | exact omQ | (clear hM; first | (have hr := hF13_0.1; exact omQ') | (have hr := hF9_0.1; exact omQ') | (have hr := hF5_0 (l.length : Int) (by omega) (by omega); exact omQ')))) d
 refine spQA (And.intro ha1 (And.intro ha2 (And.intro he3 (And.intro he4 he5)))) ?_
 refine bindC_intro (by (first | exact omQ | (clear hM; first | (have hr := hF13_0.1; exact omQ') | (have hr := hF9_0.1; exact omQ') | (have hr := hF5_0 (l.length : Int) (by omega) (by omega); exact omQ')))) ?_
 refine spQA (And.intro ha1 (And.intro ha2 (And.intro he3 (And.intro he4 he5)))) ?_
 have hM0 := hM; clear hM; obtain ⟨f6, d6, hf6, hd6, hM⟩ := iter_opn hM0; clear hM0
 refine ct_loopW (fun n S => ∃ p : Int × List (List S_denom_way), S = (⟨[(0, .sl none 2 true (l.map e_api_Denom)), (1, .sl none 1 false (most.map (V.int .i64))), (2, .int .i64 amount), (8, .own 0), (32, .sl none 2 true (l.map e_api_Denom)), (33, .int .i64 (l.length : Int)), (34, .int .i64 p.1)], [(0, .own 50 1 false none (p.2.map (fun (l : List S_denom_way) => V.sl none 3 true (l.map e_denom_way))))], 2⟩ : St) ∧ (((0 ≤ p.1) ∧ (p.1 ≤ (l.length : Int)) ∧ ((p.2).length = ((st (rep ((l.length : Int) + 1).toNat []) 0 (st (rep (amount + 1).toNat z_denom_way) 0 ({ ok := true, coins := (gt (rep (amount + 1).toNat z_denom_way) 0).coins, last := (gt (rep (amount + 1).toNat z_denom_way) 0).last } : S_denom_way)))).length)) ∧ (∀ j : Int, 0 ≤ j → j ≤ p.1 → (gt p.2 j).length = (amount + 1).toNat) ∧ (∀ j : Int, 0 ≤ j → j ≤ p.1 → RowOk (gt l (j - 1)).Value (gt p.2 j) amount j)) ∧ ((l.length : Int) - p.1).toNat < n ∧ iter n f6 d6 p = r) (((l.length : Int) - 0).toNat + 1) _ _ (weak_rows (T' := 50) (n' := 1) (g' := false) (z' := (some false)) (T := 52) (n := 3) (g := true) (z := (some false)) (l := (st (rep (amount + 1).toNat z_denom_way) 0 ({ ok := true, coins := (gt (rep (amount + 1).toNat z_denom_way) 0).coins, last := (gt (rep (amount + 1).toNat z_denom_way) 0).last } : S_denom_way)).map e_denom_way) 0 1 (fun (l : List S_denom_way) => V.sl none 3 true (l.map e_denom_way)) (rep ((l.length : Int) + 1).toNat []) 0 (st (rep (amount + 1).toNat z_denom_way) 0 ({ ok := true, coins := (gt (rep (amount + 1).toNat z_denom_way) 0).coins, last := (gt (rep (amount + 1).toNat z_denom_way) 0).last } : S_denom_way)) stQ stQ (by decide) (fun _ => by simp only [go_sem, rowV_eq, rowV_eq0, List.length_replicate, rep_len, Int.toNat_natCast, ↓reduceIte, Nat.reduceEqDiff, Nat.reduceAdd, Int.reduceAdd, Nat.reduceMul, Nat.reduceLeDiff, Nat.reduceLT, Int.reduceLE, Int.reduceLT, Int.reduceNeg, Int.reduceToNat]) (by simp only [go_sem, rowV_eq, rowV_eq0, List.length_replicate, rep_len, Int.toNat_natCast, ↓reduceIte, Nat.reduceEqDiff, Nat.reduceAdd, Int.reduceAdd, Nat.reduceMul, Nat.reduceLeDiff, Nat.reduceLT, Int.reduceLE, Int.reduceLT, Int.reduceNeg, Int.reduceToNat, List.isEmpty_nil, map_st, mtL_repE, mtL_repM, subF, subH, mtO, mtB, mt, mtL, mtL_self, mt_self, ltV, ltL, ltB, eq_self, or_true, true_or, or_self, and_self, z_denom_way, rowV_ltE (f := (fun (l : List S_denom_way) => V.sl none 3 true (l.map e_denom_way))) (fun _ => by simp only [go_sem])])) (by simp only [go_sem, rowV_eq, rowV_eq0, List.length_replicate, rep_len, Int.toNat_natCast, ↓reduceIte, Nat.reduceEqDiff, Nat.reduceAdd, Int.reduceAdd, Nat.reduceMul, Nat.reduceLeDiff, Nat.reduceLT, Int.reduceLE, Int.reduceLT, Int.reduceNeg, Int.reduceToNat, List.isEmpty_nil, map_st, mtL_repE, mtL_repM, subF, subH, mtO, mtB, mt, mtL, mtL_self, mt_self, ltV, ltL, ltB, eq_self, or_true, true_or, or_self, and_self, z_denom_way, rowV_ltE (f := (fun (l : List S_denom_way) => V.sl none 3 true (l.map e_denom_way))) (fun _ => by simp only [go_sem])]) (by simp only [go_sem, rowV_eq, rowV_eq0, List.length_replicate, rep_len, Int.toNat_natCast, ↓reduceIte, Nat.reduceEqDiff, Nat.reduceAdd, Int.reduceAdd, Nat.reduceMul, Nat.reduceLeDiff, Nat.reduceLT, Int.reduceLE, Int.reduceLT, Int.reduceNeg, Int.reduceToNat, List.isEmpty_nil, map_st, mtL_repE, mtL_repM, subF, subH, mtO, mtB, mt, mtL, mtL_self, mt_self, ltV, ltL, ltB, eq_self, or_true, true_or, or_self, and_self, z_denom_way, rowV_ltE (f := (fun (l : List S_denom_way) => V.sl none 3 true (l.map e_denom_way))) (fun _ => by simp only [go_sem])]) ⟨(0, (st (rep ((l.length : Int) + 1).toNat []) 0 (st (rep (amount + 1).toNat z_denom_way) 0 ({ ok := true, coins := (gt (rep (amount + 1).toNat z_denom_way) 0).coins, last := (gt (rep (amount + 1).toNat z_denom_way) 0).last } : S_denom_way)))), rfl, ⟨⟨by (first | exact omQ | (clear hM; first | (have hr := hF13_0.1; exact omQ') | (have hr := hF9_0.1; exact omQ') | (have hr := hF5_0 (l.length : Int) (by omega) (by omega); exact omQ'))), by (first | exact omQ | (clear hM; first | (have hr := hF13_0.1; exact omQ') | (have hr := hF9_0.1; exact omQ') | (have hr := hF5_0 (l.length : Int) (by omega) (by omega); exact omQ'))), by (first | exact omQ | (clear hM; first | (have hr := hF13_0.1; exact omQ') | (have hr := hF9_0.1; exact omQ') | (have hr := hF5_0 (l.length : Int) (by omega) (by omega); exact omQ')))⟩, by (clear hM; intro j h0 h1; rw [gt_st, if_pos ⟨by omega, by simp only [rep_len]; omega⟩]; simp only [st_len, rep_len]), by (clear hM; intro j h0 h1; have e : j = 0 := (by omega); subst e; rw [gt_st, if_pos ⟨rfl, by simp only [rep_len]; omega⟩]; exact RowOk.init (by simp only [gt_rep0]; rfl) (by simp only [gt_rep0]; rfl))⟩, (Nat.lt_succ_self _), hM⟩ ?_
 clear hM
 rintro n6 S ⟨p6, rfl, ⟨hfa6, hF5_0, hF5_1⟩, hm6, hM⟩
 have hM0 := hM; clear hM; obtain ⟨ag6, hag6, hM⟩ := iter_step hM0 (by omega) hf6; clear hM0
 replace hfa6 := nzQ hfa6
 replace hm6 := nzQ hm6
 have ha6 : addI .i64 p6.1 1 = p6.1 + 1 := add_one (by (first | exact omQ | (clear hM; first | (have hr := hF13_0.1; exact omQ') | (have hr := hF9_0.1; exact omQ') | (have hr := hF5_0 (l.length : Int) (by omega) (by omega); exact omQ')))) (by (first | exact omQ | (clear hM; first | (have hr := hF13_0.1; exact omQ') | (have hr := hF9_0.1; exact omQ') | (have hr := hF5_0 (l.length : Int) (by omega) (by omega); exact omQ'))))
 refine spQA (And.intro ha1 (And.intro ha2 (And.intro he3 (And.intro he4 (And.intro he5 ha6))))) ?_
 refine condC_intro (fun h7 => ?_) (fun h7 => ?_)
 ·rw [if_pos h7] at hM
  refine spQA (And.intro ha1 (And.intro ha2 (And.intro he3 (And.intro he4 (And.intro he5 (And.intro ha6 h7)))))) ?_
  have nh7 := nzQ h7
  refine bindC_intro (by (first | exact omQ | (clear hM; first | (have hr := hF13_0.1; exact omQ') | (have hr := hF9_0.1; exact omQ') | (have hr := hF5_0 (l.length : Int) (by omega) (by omega); exact omQ')))) ?_
  have he8 := fun d => elt_mp (l := l) (f := e_api_Denom) (i := p6.1) (by (first | exact omQ | (clear hM; first | (have hr := hF13_0.1; exact omQ') | (have hr := hF9_0.1; exact omQ') | (have hr := hF5_0 (l.length : Int) (by omega) (by omega); exact omQ')))) d
  refine spQA (And.intro ha1 (And.intro ha2 (And.intro he3 (And.intro he4 (And.intro he5 (And.intro ha6 he8)))))) ?_
  refine bindC_intro (by (first | exact omQ | (clear hM; first | (have hv := hpl p6.1 (by omega) (by omega); have hm := hpm p6.1 (by omega) (by omega); exact omQ') | (have hr := hF5_0 p6.1 (by omega) (by omega); exact omQ') | (have hr := hF13_0.1; exact omQ') | (have hr := hF9_0.1; exact omQ') | (have hr := hF5_0 (l.length : Int) (by omega) (by omega); exact omQ')))) ?_
  refine spQA (And.intro ha1 (And.intro ha2 (And.intro he3 (And.intro he4 (And.intro he5 (And.intro ha6 he8)))))) ?_
  refine bindC_intro (by (first | exact omQ | (clear hM; first | (have hv := hpl p6.1 (by omega) (by omega); have hm := hpm p6.1 (by omega) (by omega); exact omQ') | (have hr := hF5_0 p6.1 (by omega) (by omega); exact omQ') | (have hr := hF13_0.1; exact omQ') | (have hr := hF9_0.1; exact omQ') | (have hr := hF5_0 (l.length : Int) (by omega) (by omega); exact omQ')))) ?_
  have he10 := fun d => elt_mp (l := p6.2) (f := (fun (l : List S_denom_way) => V.sl none 3 true (l.map e_denom_way))) (i := (p6.1 + 1)) (by (first | exact omQ | (clear hM; first | (have hv := hpl p6.1 (by omega) (by omega); have hm := hpm p6.1 (by omega) (by omega); exact omQ') | (have hr := hF5_0 p6.1 (by omega) (by omega); exact omQ') | (have hr := hF13_0.1; exact omQ') | (have hr := hF9_0.1; exact omQ') | (have hr := hF5_0 (l.length : Int) (by omega) (by omega); exact omQ')))) d
  refine spQA (And.intro ha1 (And.intro ha2 (And.intro he3 (And.intro he4 (And.intro he5 (And.intro ha6 (And.intro he8 he10))))))) ?_
  refine bindC_intro (by (first | exact omQ | (clear hM; first | (have hv := hpl p6.1 (by omega) (by omega); have hm := hpm p6.1 (by omega) (by omega); exact omQ') | (have hr := hF5_0 p6.1 (by omega) (by omega); exact omQ') | (have hr := hF13_0.1; exact omQ') | (have hr := hF9_0.1; exact omQ') | (have hr := hF5_0 (l.length : Int) (by omega) (by omega); exact omQ')))) ?_
  refine spQA (And.intro ha1 (And.intro ha2 (And.intro he3 (And.intro he4 (And.intro he5 (And.intro ha6 (And.intro he8 he10))))))) ?_
  have hM0 := hM; clear hM; obtain ⟨f12, d12, hf12, hd12, hM⟩ := iter_opn hM0; clear hM0
  refine ct_loop (fun n S => ∃ p : Int × List S_denom_way, S = (⟨[(0, .sl none 2 true (l.map e_api_Denom)), (1, .sl none 1 false (most.map (V.int .i64))), (2, .int .i64 amount), (8, .own 0), (9, .int .i64 p6.1), (10, .ptr 2 0), (32, .sl none 2 true (l.map e_api_Denom)), (33, .int .i64 (l.length : Int)), (34, .int .i64 p6.1), (47, .int .i64 (amount + 1)), (48, .int .i64 p.1)], [(0, .ownI 50 1 false none (rowV (fun (l : List S_denom_way) => V.sl none 3 true (l.map e_denom_way)) p6.2 (p6.1 + 1) 3)), (2, .var 2 true (.agg [.int .i64 (gt l p6.1).Value, .int .i64 (gt l p6.1).Depth])), (3, .own 52 3 true none (p.2.map e_denom_way))], 4⟩ : St) ∧ (((0 ≤ p.1) ∧ (p.1 ≤ (amount + 1)) ∧ ((p.2).length = ((rep (amount + 1).toNat z_denom_way)).length)) ∧ (p.2.length = (amount + 1).toNat ∧ RowOk (gt l p6.1).Value p.2 amount (p6.1 + 1))) ∧ ((amount + 1) - p.1).toNat < n ∧ iter n f12 d12 p = r) (((amount + 1) - 0).toNat + 1) _ (by simp only [go_sem, rowV_eq, rowV_eq0, List.length_replicate, rep_len, Int.toNat_natCast, ↓reduceIte, Nat.reduceEqDiff, Nat.reduceAdd, Int.reduceAdd, Nat.reduceMul, Nat.reduceLeDiff, Nat.reduceLT, Int.reduceLE, Int.reduceLT, Int.reduceNeg, Int.reduceToNat, List.isEmpty_nil, map_st, mtL_repE, mtL_repM, subF, subH, mtO, mtB, mt, mtL, mtL_self, mt_self, ltV, ltL, ltB, eq_self, or_true, true_or, or_self, and_self, z_denom_way, rowV_ltE (f := (fun (l : List S_denom_way) => V.sl none 3 true (l.map e_denom_way))) (fun _ => by simp only [go_sem])]) (by simp only [go_sem, rowV_eq, rowV_eq0, List.length_replicate, rep_len, Int.toNat_natCast, ↓reduceIte, Nat.reduceEqDiff, Nat.reduceAdd, Int.reduceAdd, Nat.reduceMul, Nat.reduceLeDiff, Nat.reduceLT, Int.reduceLE, Int.reduceLT, Int.reduceNeg, Int.reduceToNat, List.isEmpty_nil, map_st, mtL_repE, mtL_repM, subF, subH, mtO, mtB, mt, mtL, mtL_self, mt_self, ltV, ltL, ltB, eq_self, or_true, true_or, or_self, and_self, z_denom_way, rowV_ltE (f := (fun (l : List S_denom_way) => V.sl none 3 true (l.map e_denom_way))) (fun _ => by simp only [go_sem])]) ⟨(0, (rep (amount + 1).toNat z_denom_way)), rfl, ⟨⟨by (first | exact omQ | (clear hM; first | (have hv := hpl p6.1 (by omega) (by omega); have hm := hpm p6.1 (by omega) (by omega); exact omQ') | (have hr := hF5_0 p6.1 (by omega) (by omega); exact omQ') | (have hr := hF13_0.1; exact omQ') | (have hr := hF9_0.1; exact omQ') | (have hr := hF5_0 (l.length : Int) (by omega) (by omega); exact omQ'))), by (first | exact omQ | (clear hM; first | (have hv := hpl p6.1 (by omega) (by omega); have hm := hpm p6.1 (by omega) (by omega); exact omQ') | (have hr := hF5_0 p6.1 (by omega) (by omega); exact omQ') | (have hr := hF13_0.1; exact omQ') | (have hr := hF9_0.1; exact omQ') | (have hr := hF5_0 (l.length : Int) (by omega) (by omega); exact omQ'))), by (first | exact omQ | (clear hM; first | (have hv := hpl p6.1 (by omega) (by omega); have hm := hpm p6.1 (by omega) (by omega); exact omQ') | (have hr := hF5_0 p6.1 (by omega) (by omega); exact omQ') | (have hr := hF13_0.1; exact omQ') | (have hr := hF9_0.1; exact omQ') | (have hr := hF5_0 (l.length : Int) (by omega) (by omega); exact omQ')))⟩, by (clear hM; exact ⟨by simp only [rep_len], RowOk.zero (by omega)⟩)⟩, (Nat.lt_succ_self _), hM⟩ ?_
  clear hM
  rintro n12 S ⟨p12, rfl, ⟨hfa12, hF9_0⟩, hm12, hM⟩
  have hM0 := hM; clear hM; obtain ⟨ag12, hag12, hM⟩ := iter_step hM0 (by omega) hf12; clear hM0
  replace hfa12 := nzQ hfa12
  replace hm12 := nzQ hm12
  have ha12 : addI .i64 p12.1 1 = p12.1 + 1 := add_one (by (first | exact omQ | (clear hM; first | (have hv := hpl p6.1 (by omega) (by omega); have hm := hpm p6.1 (by omega) (by omega); exact omQ') | (have hr := hF5_0 p6.1 (by omega) (by omega); exact omQ') | (have hr := hF13_0.1; exact omQ') | (have hr := hF9_0.1; exact omQ') | (have hr := hF5_0 (l.length : Int) (by omega) (by omega); exact omQ')))) (by (first | exact omQ | (clear hM; first | (have hv := hpl p6.1 (by omega) (by omega); have hm := hpm p6.1 (by omega) (by omega); exact omQ') | (have hr := hF5_0 p6.1 (by omega) (by omega); exact omQ') | (have hr := hF13_0.1; exact omQ') | (have hr := hF9_0.1; exact omQ') | (have hr := hF5_0 (l.length : Int) (by omega) (by omega); exact omQ'))))
  refine spQA (And.intro ha1 (And.intro ha2 (And.intro he3 (And.intro he4 (And.intro he5 (And.intro ha6 (And.intro he8 (And.intro he10 ha12)))))))) ?_
  refine condC_intro (fun h13 => ?_) (fun h13 => ?_)
  ·rw [if_pos h13] at hM
   refine spQA (And.intro ha1 (And.intro ha2 (And.intro he3 (And.intro he4 (And.intro he5 (And.intro ha6 (And.intro he8 (And.intro he10 (And.intro ha12 h13))))))))) ?_
   have nh13 := nzQ h13
   refine bindC_intro (by (first | exact omQ | (clear hM; first | (have hv := hpl p6.1 (by omega) (by omega); have hm := hpm p6.1 (by omega) (by omega); exact omQ') | (have hr := hF5_0 p6.1 (by omega) (by omega); exact omQ') | (have hr := hF13_0.1; exact omQ') | (have hr := hF9_0.1; exact omQ') | (have hr := hF5_0 (l.length : Int) (by omega) (by omega); exact omQ')))) ?_
   refine spQA (And.intro ha1 (And.intro ha2 (And.intro he3 (And.intro he4 (And.intro he5 (And.intro ha6 (And.intro he8 (And.intro he10 ha12)))))))) ?_
   refine bindC_intro (by (first | exact omQ | (clear hM; first | (have hv := hpl p6.1 (by omega) (by omega); have hm := hpm p6.1 (by omega) (by omega); exact omQ') | (have hr := hF5_0 p6.1 (by omega) (by omega); exact omQ') | (have hr := hF13_0.1; exact omQ') | (have hr := hF9_0.1; exact omQ') | (have hr := hF5_0 (l.length : Int) (by omega) (by omega); exact omQ')))) ?_
   have he14 := rowV_same (f := (fun (l : List S_denom_way) => V.sl none 3 true (l.map e_denom_way))) (l := p6.2) (i := 3) (q := (p6.1 + 1)) (by (first | exact omQ | (clear hM; first | (have hv := hpl p6.1 (by omega) (by omega); have hm := hpm p6.1 (by omega) (by omega); exact omQ') | (have hr := hF5_0 p6.1 (by omega) (by omega); exact omQ') | (have hr := hF13_0.1; exact omQ') | (have hr := hF9_0.1; exact omQ') | (have hr := hF5_0 (l.length : Int) (by omega) (by omega); exact omQ'))))
   refine spQA (And.intro ha1 (And.intro ha2 (And.intro he3 (And.intro he4 (And.intro he5 (And.intro ha6 (And.intro he8 (And.intro he10 (And.intro ha12 he14))))))))) ?_
   refine bindC_intro (by (first | exact omQ | (clear hM; first | (have hv := hpl p6.1 (by omega) (by omega); have hm := hpm p6.1 (by omega) (by omega); exact omQ') | (have hr := hF5_0 p6.1 (by omega) (by omega); exact omQ') | (have hr := hF13_0.1; exact omQ') | (have hr := hF9_0.1; exact omQ') | (have hr := hF5_0 (l.length : Int) (by omega) (by omega); exact omQ')))) ?_
   have he15 := fun d => elt_mp (l := p12.2) (f := e_denom_way) (i := p12.1) (by (first | exact omQ | (clear hM; first | (have hv := hpl p6.1 (by omega) (by omega); have hm := hpm p6.1 (by omega) (by omega); exact omQ') | (have hr := hF5_0 p6.1 (by omega) (by omega); exact omQ') | (have hr := hF13_0.1; exact omQ') | (have hr := hF9_0.1; exact omQ') | (have hr := hF5_0 (l.length : Int) (by omega) (by omega); exact omQ')))) d
   refine spQA (And.intro ha1 (And.intro ha2 (And.intro he3 (And.intro he4 (And.intro he5 (And.intro ha6 (And.intro he8 (And.intro he10 (And.intro ha12 (And.intro he14 he15)))))))))) ?_
   have hM0 := hM; clear hM; obtain ⟨f16, d16, hf16, hd16, hM⟩ := iter_opn hM0; clear hM0
   refine ct_loop (fun n S => ∃ p : Int × List S_denom_way, S = (⟨[(0, .sl none 2 true (l.map e_api_Denom)), (1, .sl none 1 false (most.map (V.int .i64))), (2, .int .i64 amount), (8, .own 0), (9, .int .i64 p6.1), (10, .ptr 2 0), (11, .int .i64 p12.1), (12, .optr 3 3 (p12.1).toNat 0), (13, .int .i64 p.1), (32, .sl none 2 true (l.map e_api_Denom)), (33, .int .i64 (l.length : Int)), (34, .int .i64 p6.1), (47, .int .i64 (amount + 1)), (48, .int .i64 p12.1)], [(0, .ownI 50 1 false none (rowV (fun (l : List S_denom_way) => V.sl none 3 true (l.map e_denom_way)) p6.2 (p6.1 + 1) 3)), (2, .var 2 true (.agg [.int .i64 (gt l p6.1).Value, .int .i64 (gt l p6.1).Depth])), (3, .own 52 3 true none (p.2.map e_denom_way))], 4⟩ : St) ∧ (((0 ≤ p.1) ∧ (p.1 ≤ gt most p6.1 + 1) ∧ ((p.2).length = (p12.2).length)) ∧ (p.2.length = (amount + 1).toNat ∧ RowOk (gt l p6.1).Value p.2 amount (p6.1 + 1))) ∧ (gt most p6.1 + 1 - p.1).toNat < n ∧ iter n f16 d16 p = r) ((gt most p6.1 + 1 - 0).toNat + 1) _ (by simp only [go_sem, rowV_eq, rowV_eq0, List.length_replicate, rep_len, Int.toNat_natCast, ↓reduceIte, Nat.reduceEqDiff, Nat.reduceAdd, Int.reduceAdd, Nat.reduceMul, Nat.reduceLeDiff, Nat.reduceLT, Int.reduceLE, Int.reduceLT, Int.reduceNeg, Int.reduceToNat, List.isEmpty_nil, map_st, mtL_repE, mtL_repM, subF, subH, mtO, mtB, mt, mtL, mtL_self, mt_self, ltV, ltL, ltB, eq_self, or_true, true_or, or_self, and_self, z_denom_way, rowV_ltE (f := (fun (l : List S_denom_way) => V.sl none 3 true (l.map e_denom_way))) (fun _ => by simp only [go_sem])]) (by simp only [go_sem, rowV_eq, rowV_eq0, List.length_replicate, rep_len, Int.toNat_natCast, ↓reduceIte, Nat.reduceEqDiff, Nat.reduceAdd, Int.reduceAdd, Nat.reduceMul, Nat.reduceLeDiff, Nat.reduceLT, Int.reduceLE, Int.reduceLT, Int.reduceNeg, Int.reduceToNat, List.isEmpty_nil, map_st, mtL_repE, mtL_repM, subF, subH, mtO, mtB, mt, mtL, mtL_self, mt_self, ltV, ltL, ltB, eq_self, or_true, true_or, or_self, and_self, z_denom_way, rowV_ltE (f := (fun (l : List S_denom_way) => V.sl none 3 true (l.map e_denom_way))) (fun _ => by simp only [go_sem])]) ⟨(0, p12.2), rfl, ⟨⟨by (first | exact omQ | (clear hM; first | (have hv := hpl p6.1 (by omega) (by omega); have hm := hpm p6.1 (by omega) (by omega); exact omQ') | (have hr := hF5_0 p6.1 (by omega) (by omega); exact omQ') | (have hv := hpl p6.1 (by omega) (by omega); have hm := hpm p6.1 (by omega) (by omega); have hq := hF5_1 p6.1 (by omega) (by omega) (p12.1 - 0 * (gt l p6.1).Value) (by omega) (by omega); exact omQ') | (have hr := hF13_0.1; exact omQ') | (have hr := hF9_0.1; exact omQ') | (have hr := hF5_0 (l.length : Int) (by omega) (by omega); exact omQ'))), by (first | exact omQ | (clear hM; first | (have hv := hpl p6.1 (by omega) (by omega); have hm := hpm p6.1 (by omega) (by omega); exact omQ') | (have hr := hF5_0 p6.1 (by omega) (by omega); exact omQ') | (have hv := hpl p6.1 (by omega) (by omega); have hm := hpm p6.1 (by omega) (by omega); have hq := hF5_1 p6.1 (by omega) (by omega) (p12.1 - 0 * (gt l p6.1).Value) (by omega) (by omega); exact omQ') | (have hr := hF13_0.1; exact omQ') | (have hr := hF9_0.1; exact omQ') | (have hr := hF5_0 (l.length : Int) (by omega) (by omega); exact omQ'))), by (first | exact omQ | (clear hM; first | (have hv := hpl p6.1 (by omega) (by omega); have hm := hpm p6.1 (by omega) (by omega); exact omQ') | (have hr := hF5_0 p6.1 (by omega) (by omega); exact omQ') | (have hv := hpl p6.1 (by omega) (by omega); have hm := hpm p6.1 (by omega) (by omega); have hq := hF5_1 p6.1 (by omega) (by omega) (p12.1 - 0 * (gt l p6.1).Value) (by omega) (by omega); exact omQ') | (have hr := hF13_0.1; exact omQ') | (have hr := hF9_0.1; exact omQ') | (have hr := hF5_0 (l.length : Int) (by omega) (by omega); exact omQ')))⟩, by (clear hM; exact hF9_0)⟩, (Nat.lt_succ_self _), hM⟩ ?_
   clear hM
   rintro n16 S ⟨p16, rfl, ⟨hfa16, hF13_0⟩, hm16, hM⟩
   have hM0 := hM; clear hM; obtain ⟨ag16, hag16, hM⟩ := iter_step hM0 (by omega) hf16; clear hM0
   replace hfa16 := nzQ hfa16
   replace hm16 := nzQ hm16
   refine spQA (And.intro ha1 (And.intro ha2 (And.intro he3 (And.intro he4 (And.intro he5 (And.intro ha6 (And.intro he8 (And.intro he10 (And.intro ha12 (And.intro he14 he15)))))))))) ?_
   refine bindC_intro (by (first | exact omQ | (clear hM; first | (have hv := hpl p6.1 (by omega) (by omega); have hm := hpm p6.1 (by omega) (by omega); exact omQ') | (have hr := hF5_0 p6.1 (by omega) (by omega); exact omQ') | (have hv := hpl p6.1 (by omega) (by omega); have hm := hpm p6.1 (by omega) (by omega); have hq := hF5_1 p6.1 (by omega) (by omega) (p12.1 - p16.1 * (gt l p6.1).Value) (by omega) (by omega); exact omQ') | (have hr := hF13_0.1; exact omQ') | (have hr := hF9_0.1; exact omQ') | (have hr := hF5_0 (l.length : Int) (by omega) (by omega); exact omQ')))) ?_
   have he17 := fun d => elt_mp (l := most) (f := (V.int .i64)) (i := p6.1) (by (first | exact omQ | (clear hM; first | (have hv := hpl p6.1 (by omega) (by omega); have hm := hpm p6.1 (by omega) (by omega); exact omQ') | (have hr := hF5_0 p6.1 (by omega) (by omega); exact omQ') | (have hv := hpl p6.1 (by omega) (by omega); have hm := hpm p6.1 (by omega) (by omega); have hq := hF5_1 p6.1 (by omega) (by omega) (p12.1 - p16.1 * (gt l p6.1).Value) (by omega) (by omega); exact omQ') | (have hr := hF13_0.1; exact omQ') | (have hr := hF9_0.1; exact omQ') | (have hr := hF5_0 (l.length : Int) (by omega) (by omega); exact omQ')))) d
   refine spQA (And.intro ha1 (And.intro ha2 (And.intro he3 (And.intro he4 (And.intro he5 (And.intro ha6 (And.intro he8 (And.intro he10 (And.intro ha12 (And.intro he14 (And.intro he15 he17))))))))))) ?_
   refine guardC_t (fun h18 => ?_) (fun h18 => ?_)
   ·rw [if_pos h18] at hM
    refine spQA (And.intro ha1 (And.intro ha2 (And.intro he3 (And.intro he4 (And.intro he5 (And.intro ha6 (And.intro he8 (And.intro he10 (And.intro ha12 (And.intro he14 (And.intro he15 (And.intro he17 h18)))))))))))) ?_
    have nh18 := nzQ h18
    obtain ⟨ha19, hbha19⟩ := mul_pos_ok (a := p16.1) (b := (gt l p6.1).Value) 1001 1099511627776 1100611139403776 (by (first | exact omQ | (clear hM; first | (have hv := hpl p6.1 (by omega) (by omega); have hm := hpm p6.1 (by omega) (by omega); exact omQ') | (have hr := hF5_0 p6.1 (by omega) (by omega); exact omQ') | (have hv := hpl p6.1 (by omega) (by omega); have hm := hpm p6.1 (by omega) (by omega); have hq := hF5_1 p6.1 (by omega) (by omega) (p12.1 - p16.1 * (gt l p6.1).Value) (by omega) (by omega); exact omQ') | (have hr := hF13_0.1; exact omQ') | (have hr := hF9_0.1; exact omQ') | (have hr := hF5_0 (l.length : Int) (by omega) (by omega); exact omQ')))) (by (first | exact omQ | (clear hM; first | (have hv := hpl p6.1 (by omega) (by omega); have hm := hpm p6.1 (by omega) (by omega); exact omQ') | (have hr := hF5_0 p6.1 (by omega) (by omega); exact omQ') | (have hv := hpl p6.1 (by omega) (by omega); have hm := hpm p6.1 (by omega) (by omega); have hq := hF5_1 p6.1 (by omega) (by omega) (p12.1 - p16.1 * (gt l p6.1).Value) (by omega) (by omega); exact omQ') | (have hr := hF13_0.1; exact omQ') | (have hr := hF9_0.1; exact omQ') | (have hr := hF5_0 (l.length : Int) (by omega) (by omega); exact omQ')))) (by (first | exact omQ | (clear hM; first | (have hv := hpl p6.1 (by omega) (by omega); have hm := hpm p6.1 (by omega) (by omega); exact omQ') | (have hr := hF5_0 p6.1 (by omega) (by omega); exact omQ') | (have hv := hpl p6.1 (by omega) (by omega); have hm := hpm p6.1 (by omega) (by omega); have hq := hF5_1 p6.1 (by omega) (by omega) (p12.1 - p16.1 * (gt l p6.1).Value) (by omega) (by omega); exact omQ') | (have hr := hF13_0.1; exact omQ') | (have hr := hF9_0.1; exact omQ') | (have hr := hF5_0 (l.length : Int) (by omega) (by omega); exact omQ')))) (by (first | exact omQ | (clear hM; first | (have hv := hpl p6.1 (by omega) (by omega); have hm := hpm p6.1 (by omega) (by omega); exact omQ') | (have hr := hF5_0 p6.1 (by omega) (by omega); exact omQ') | (have hv := hpl p6.1 (by omega) (by omega); have hm := hpm p6.1 (by omega) (by omega); have hq := hF5_1 p6.1 (by omega) (by omega) (p12.1 - p16.1 * (gt l p6.1).Value) (by omega) (by omega); exact omQ') | (have hr := hF13_0.1; exact omQ') | (have hr := hF9_0.1; exact omQ') | (have hr := hF5_0 (l.length : Int) (by omega) (by omega); exact omQ')))) (by decide) (by decide)
    try simp only [ha19]
    refine guardC_t (fun h20 => ?_) (fun h20 => ?_)
    ·rw [if_pos h20] at hM
     refine spQA (And.intro ha1 (And.intro ha2 (And.intro he3 (And.intro he4 (And.intro he5 (And.intro ha6 (And.intro he8 (And.intro he10 (And.intro ha12 (And.intro he14 (And.intro he15 (And.intro he17 (And.intro ha19 h20))))))))))))) ?_
     have nh20 := nzQ h20
     refine guardC_f (fun h21 => ?_) (fun h21 => ?_)
     ·rw [if_neg (ne_true h21)] at hM
      refine spQA (And.intro ha1 (And.intro ha2 (And.intro he3 (And.intro he4 (And.intro he5 (And.intro ha6 (And.intro he8 (And.intro he10 (And.intro ha12 (And.intro he14 (And.intro he15 (And.intro he17 (And.intro ha19 h21))))))))))))) ?_
      have nh21 := nzQ h21
      refine condC_intro (fun h22 => ?_) (fun h22 => ?_)
      ·rw [if_pos h22] at hM
       refine spQA (And.intro ha1 (And.intro ha2 (And.intro he3 (And.intro he4 (And.intro he5 (And.intro ha6 (And.intro he8 (And.intro he10 (And.intro ha12 (And.intro he14 (And.intro he15 (And.intro he17 (And.intro ha19 h22))))))))))))) ?_
       have nh22 := nzQ h22
       refine ct_draw 167 13 [14, 83, 84, 85, 86, 87, 88, 89, 90, 91, 92, 93, 94] [] ([[], [], [0, 1], [0, 1, 2], [], [], [], [6], [5, 6, 7], [4, 5, 6, 7, 8], [0, 1, 2, 3, 4, 5, 6, 7, 8, 9], [0, 1, 2, 3, 4, 5, 6, 7, 8, 9, 10], []] ++ [List.range 13]) [] (by kernel_rfl) (by exact alQ) ?_
       refine spQA (And.intro ha1 (And.intro ha2 (And.intro he3 (And.intro he4 (And.intro he5 (And.intro ha6 (And.intro he8 (And.intro he10 (And.intro ha12 (And.intro he14 (And.intro he15 (And.intro he17 ha19)))))))))))) ?_
       refine hbindC_intro (by (first | exact omQ | (clear hM; first | (have hv := hpl p6.1 (by omega) (by omega); have hm := hpm p6.1 (by omega) (by omega); exact omQ') | (have hr := hF5_0 p6.1 (by omega) (by omega); exact omQ') | (have hv := hpl p6.1 (by omega) (by omega); have hm := hpm p6.1 (by omega) (by omega); have hq := hF5_1 p6.1 (by omega) (by omega) (p12.1 - p16.1 * (gt l p6.1).Value) (by omega) (by omega); exact omQ') | (have hr := hF13_0.1; exact omQ') | (have hr := hF9_0.1; exact omQ') | (have hr := hF5_0 (l.length : Int) (by omega) (by omega); exact omQ')))) ?_
       refine spQA (And.intro ha1 (And.intro ha2 (And.intro he3 (And.intro he4 (And.intro he5 (And.intro ha6 (And.intro he8 (And.intro he10 (And.intro ha12 (And.intro he14 (And.intro he15 (And.intro he17 ha19)))))))))))) ?_
       refine hbindC_intro (by (first | exact omQ | (clear hM; first | (have hv := hpl p6.1 (by omega) (by omega); have hm := hpm p6.1 (by omega) (by omega); exact omQ') | (have hr := hF5_0 p6.1 (by omega) (by omega); exact omQ') | (have hv := hpl p6.1 (by omega) (by omega); have hm := hpm p6.1 (by omega) (by omega); have hq := hF5_1 p6.1 (by omega) (by omega) (p12.1 - p16.1 * (gt l p6.1).Value) (by omega) (by omega); exact omQ') | (have hr := hF13_0.1; exact omQ') | (have hr := hF9_0.1; exact omQ') | (have hr := hF5_0 (l.length : Int) (by omega) (by omega); exact omQ')))) ?_
       have he23 := rowV_other (f := (fun (l : List S_denom_way) => V.sl none 3 true (l.map e_denom_way))) (l := p6.2) (i := 3) (q := (p6.1 + 1)) (p := p6.1) (by (first | exact omQ | (clear hM; first | (have hv := hpl p6.1 (by omega) (by omega); have hm := hpm p6.1 (by omega) (by omega); exact omQ') | (have hr := hF5_0 p6.1 (by omega) (by omega); exact omQ') | (have hv := hpl p6.1 (by omega) (by omega); have hm := hpm p6.1 (by omega) (by omega); have hq := hF5_1 p6.1 (by omega) (by omega) (p12.1 - p16.1 * (gt l p6.1).Value) (by omega) (by omega); exact omQ') | (have hr := hF13_0.1; exact omQ') | (have hr := hF9_0.1; exact omQ') | (have hr := hF5_0 (l.length : Int) (by omega) (by omega); exact omQ')))) (by (first | exact omQ | (clear hM; first | (have hv := hpl p6.1 (by omega) (by omega); have hm := hpm p6.1 (by omega) (by omega); exact omQ') | (have hr := hF5_0 p6.1 (by omega) (by omega); exact omQ') | (have hv := hpl p6.1 (by omega) (by omega); have hm := hpm p6.1 (by omega) (by omega); have hq := hF5_1 p6.1 (by omega) (by omega) (p12.1 - p16.1 * (gt l p6.1).Value) (by omega) (by omega); exact omQ') | (have hr := hF13_0.1; exact omQ') | (have hr := hF9_0.1; exact omQ') | (have hr := hF5_0 (l.length : Int) (by omega) (by omega); exact omQ'))))
       refine spQA (And.intro ha1 (And.intro ha2 (And.intro he3 (And.intro he4 (And.intro he5 (And.intro ha6 (And.intro he8 (And.intro he10 (And.intro ha12 (And.intro he14 (And.intro he15 (And.intro he17 (And.intro ha19 he23))))))))))))) ?_
       have ha25 : subI .i64 p12.1 (p16.1 * (gt l p6.1).Value) = (p12.1 - (p16.1 * (gt l p6.1).Value)) := sub_ok (by (first | exact omQ | (clear hM; first | (have hv := hpl p6.1 (by omega) (by omega); have hm := hpm p6.1 (by omega) (by omega); exact omQ') | (have hr := hF5_0 p6.1 (by omega) (by omega); exact omQ') | (have hv := hpl p6.1 (by omega) (by omega); have hm := hpm p6.1 (by omega) (by omega); have hq := hF5_1 p6.1 (by omega) (by omega) (p12.1 - p16.1 * (gt l p6.1).Value) (by omega) (by omega); exact omQ') | (have hr := hF13_0.1; exact omQ') | (have hr := hF9_0.1; exact omQ') | (have hr := hF5_0 (l.length : Int) (by omega) (by omega); exact omQ')))) (by (first | exact omQ | (clear hM; first | (have hv := hpl p6.1 (by omega) (by omega); have hm := hpm p6.1 (by omega) (by omega); exact omQ') | (have hr := hF5_0 p6.1 (by omega) (by omega); exact omQ') | (have hv := hpl p6.1 (by omega) (by omega); have hm := hpm p6.1 (by omega) (by omega); have hq := hF5_1 p6.1 (by omega) (by omega) (p12.1 - p16.1 * (gt l p6.1).Value) (by omega) (by omega); exact omQ') | (have hr := hF13_0.1; exact omQ') | (have hr := hF9_0.1; exact omQ') | (have hr := hF5_0 (l.length : Int) (by omega) (by omega); exact omQ'))))
       try simp only [ha25]
       refine hbindC_intro (by (first | exact omQ | (clear hM; first | (have hv := hpl p6.1 (by omega) (by omega); have hm := hpm p6.1 (by omega) (by omega); exact omQ') | (have hr := hF5_0 p6.1 (by omega) (by omega); exact omQ') | (have hv := hpl p6.1 (by omega) (by omega); have hm := hpm p6.1 (by omega) (by omega); have hq := hF5_1 p6.1 (by omega) (by omega) (p12.1 - p16.1 * (gt l p6.1).Value) (by omega) (by omega); exact omQ') | (have hr := hF13_0.1; exact omQ') | (have hr := hF9_0.1; exact omQ') | (have hr := hF5_0 (l.length : Int) (by omega) (by omega); exact omQ')))) ?_
       have he26 := fun d => elt_mp (l := (gt p6.2 p6.1)) (f := e_denom_way) (i := (p12.1 - (p16.1 * (gt l p6.1).Value))) (by (first | exact omQ | (clear hM; first | (have hv := hpl p6.1 (by omega) (by omega); have hm := hpm p6.1 (by omega) (by omega); exact omQ') | (have hr := hF5_0 p6.1 (by omega) (by omega); exact omQ') | (have hv := hpl p6.1 (by omega) (by omega); have hm := hpm p6.1 (by omega) (by omega); have hq := hF5_1 p6.1 (by omega) (by omega) (p12.1 - p16.1 * (gt l p6.1).Value) (by omega) (by omega); exact omQ') | (have hr := hF13_0.1; exact omQ') | (have hr := hF9_0.1; exact omQ') | (have hr := hF5_0 (l.length : Int) (by omega) (by omega); exact omQ')))) d
       refine spQA (And.intro ha1 (And.intro ha2 (And.intro he3 (And.intro he4 (And.intro he5 (And.intro ha6 (And.intro he8 (And.intro he10 (And.intro ha12 (And.intro he14 (And.intro he15 (And.intro he17 (And.intro ha19 (And.intro he23 (And.intro ha25 he26))))))))))))))) ?_
       refine condC_intro (fun h27 => ?_) (fun h27 => ?_)
       ·rw [if_pos h27] at hM
        refine spQA (And.intro ha1 (And.intro ha2 (And.intro he3 (And.intro he4 (And.intro he5 (And.intro ha6 (And.intro he8 (And.intro he10 (And.intro ha12 (And.intro he14 (And.intro he15 (And.intro he17 (And.intro ha19 (And.intro he23 (And.intro ha25 (And.intro he26 h27)))))))))))))))) ?_
        have nh27 := nzQ h27
        have ha28 : addI .i64 p16.1 1 = (p16.1 + 1) := add_ok (by (first | exact omQ | (clear hM; first | (have hv := hpl p6.1 (by omega) (by omega); have hm := hpm p6.1 (by omega) (by omega); exact omQ') | (have hr := hF5_0 p6.1 (by omega) (by omega); exact omQ') | (have hv := hpl p6.1 (by omega) (by omega); have hm := hpm p6.1 (by omega) (by omega); have hq := hF5_1 p6.1 (by omega) (by omega) (p12.1 - p16.1 * (gt l p6.1).Value) (by omega) (by omega); exact omQ') | (have hr := hF13_0.1; exact omQ') | (have hr := hF9_0.1; exact omQ') | (have hr := hF5_0 (l.length : Int) (by omega) (by omega); exact omQ')))) (by (first | exact omQ | (clear hM; first | (have hv := hpl p6.1 (by omega) (by omega); have hm := hpm p6.1 (by omega) (by omega); exact omQ') | (have hr := hF5_0 p6.1 (by omega) (by omega); exact omQ') | (have hv := hpl p6.1 (by omega) (by omega); have hm := hpm p6.1 (by omega) (by omega); have hq := hF5_1 p6.1 (by omega) (by omega) (p12.1 - p16.1 * (gt l p6.1).Value) (by omega) (by omega); exact omQ') | (have hr := hF13_0.1; exact omQ') | (have hr := hF9_0.1; exact omQ') | (have hr := hF5_0 (l.length : Int) (by omega) (by omega); exact omQ'))))
        try simp only [ha28]
        refine lp_intro (n16 - 1) _ (by omega) (by simp only [go_sem, rowV_eq, rowV_eq0, List.length_replicate, rep_len, Int.toNat_natCast, ↓reduceIte, Nat.reduceEqDiff, Nat.reduceAdd, Int.reduceAdd, Nat.reduceMul, Nat.reduceLeDiff, Nat.reduceLT, Int.reduceLE, Int.reduceLT, Int.reduceNeg, Int.reduceToNat, List.isEmpty_nil, map_st, mtL_repE, mtL_repM, subF, subH, mtO, mtB, mt, mtL, mtL_self, mt_self, ltV, ltL, ltB, eq_self, or_true, true_or, or_self, and_self, z_denom_way, rowV_ltE (f := (fun (l : List S_denom_way) => V.sl none 3 true (l.map e_denom_way))) (fun _ => by simp only [go_sem])]) (by simp only [go_sem, rowV_eq, rowV_eq0, List.length_replicate, rep_len, Int.toNat_natCast, ↓reduceIte, Nat.reduceEqDiff, Nat.reduceAdd, Int.reduceAdd, Nat.reduceMul, Nat.reduceLeDiff, Nat.reduceLT, Int.reduceLE, Int.reduceLT, Int.reduceNeg, Int.reduceToNat, List.isEmpty_nil, map_st, mtL_repE, mtL_repM, subF, subH, mtO, mtB, mt, mtL, mtL_self, mt_self, ltV, ltL, ltB, eq_self, or_true, true_or, or_self, and_self, z_denom_way, rowV_ltE (f := (fun (l : List S_denom_way) => V.sl none 3 true (l.map e_denom_way))) (fun _ => by simp only [go_sem])]) ⟨((p16.1 + 1), p16.2), rfl, ⟨⟨by (first | exact omQ | (clear hM; first | (have hv := hpl p6.1 (by omega) (by omega); have hm := hpm p6.1 (by omega) (by omega); exact omQ') | (have hr := hF5_0 p6.1 (by omega) (by omega); exact omQ') | (have hv := hpl p6.1 (by omega) (by omega); have hm := hpm p6.1 (by omega) (by omega); have hq := hF5_1 p6.1 (by omega) (by omega) (p12.1 - (p16.1 + 1) * (gt l p6.1).Value) (by omega) (by omega); exact omQ') | (have hr := hF13_0.1; exact omQ') | (have hr := hF9_0.1; exact omQ') | (have hr := hF5_0 (l.length : Int) (by omega) (by omega); exact omQ'))), by (first | exact omQ | (clear hM; first | (have hv := hpl p6.1 (by omega) (by omega); have hm := hpm p6.1 (by omega) (by omega); exact omQ') | (have hr := hF5_0 p6.1 (by omega) (by omega); exact omQ') | (have hv := hpl p6.1 (by omega) (by omega); have hm := hpm p6.1 (by omega) (by omega); have hq := hF5_1 p6.1 (by omega) (by omega) (p12.1 - (p16.1 + 1) * (gt l p6.1).Value) (by omega) (by omega); exact omQ') | (have hr := hF13_0.1; exact omQ') | (have hr := hF9_0.1; exact omQ') | (have hr := hF5_0 (l.length : Int) (by omega) (by omega); exact omQ'))), by (first | exact omQ | (clear hM; first | (have hv := hpl p6.1 (by omega) (by omega); have hm := hpm p6.1 (by omega) (by omega); exact omQ') | (have hr := hF5_0 p6.1 (by omega) (by omega); exact omQ') | (have hv := hpl p6.1 (by omega) (by omega); have hm := hpm p6.1 (by omega) (by omega); have hq := hF5_1 p6.1 (by omega) (by omega) (p12.1 - (p16.1 + 1) * (gt l p6.1).Value) (by omega) (by omega); exact omQ') | (have hr := hF13_0.1; exact omQ') | (have hr := hF9_0.1; exact omQ') | (have hr := hF5_0 (l.length : Int) (by omega) (by omega); exact omQ')))⟩, by (clear hM; first | exact hF13_0 | (have hm := hpm p6.1 (by omega) (by omega); have hv := hpl p6.1 (by omega) (by omega); have hq := hF5_1 p6.1 (by omega) (by omega) (p12.1 - p16.1 * (gt l p6.1).Value) (by omega) (by omega); exact ⟨by rw [st_len]; exact hF13_0.1, hF13_0.2.set (by omega) (by show (0 : Int) ≤ p16.1; omega) (by show p16.1 ≤ (1000 : Int); omega) (by show p16.1 * (gt l p6.1).Value ≤ p12.1; omega) (by show (0 : Int) ≤ _ + p16.1; omega) (by show _ + p16.1 ≤ 1000 * (p6.1 + 1); omega)⟩))⟩, by (first | exact omQ | (clear hM; first | (have hv := hpl p6.1 (by omega) (by omega); have hm := hpm p6.1 (by omega) (by omega); exact omQ') | (have hr := hF5_0 p6.1 (by omega) (by omega); exact omQ') | (have hv := hpl p6.1 (by omega) (by omega); have hm := hpm p6.1 (by omega) (by omega); have hq := hF5_1 p6.1 (by omega) (by omega) (p12.1 - (p16.1 + 1) * (gt l p6.1).Value) (by omega) (by omega); exact omQ') | (have hr := hF13_0.1; exact omQ') | (have hr := hF9_0.1; exact omQ') | (have hr := hF5_0 (l.length : Int) (by omega) (by omega); exact omQ'))), iter_again hM hag16⟩
       ·rw [if_neg (ne_true h27)] at hM
        refine spQA (And.intro ha1 (And.intro ha2 (And.intro he3 (And.intro he4 (And.intro he5 (And.intro ha6 (And.intro he8 (And.intro he10 (And.intro ha12 (And.intro he14 (And.intro he15 (And.intro he17 (And.intro ha19 (And.intro he23 (And.intro ha25 (And.intro he26 h27)))))))))))))))) ?_
        have nh27 := nzQ h27
        have ha29 : addI .i64 (gt (gt p6.2 p6.1) (p12.1 - (p16.1 * (gt l p6.1).Value))).coins p16.1 = ((gt (gt p6.2 p6.1) (p12.1 - (p16.1 * (gt l p6.1).Value))).coins + p16.1) := add_ok (by (first | exact omQ | (clear hM; first | (have hv := hpl p6.1 (by omega) (by omega); have hm := hpm p6.1 (by omega) (by omega); exact omQ') | (have hr := hF5_0 p6.1 (by omega) (by omega); exact omQ') | (have hv := hpl p6.1 (by omega) (by omega); have hm := hpm p6.1 (by omega) (by omega); have hq := hF5_1 p6.1 (by omega) (by omega) (p12.1 - p16.1 * (gt l p6.1).Value) (by omega) (by omega); exact omQ') | (have hr := hF13_0.1; exact omQ') | (have hr := hF9_0.1; exact omQ') | (have hr := hF5_0 (l.length : Int) (by omega) (by omega); exact omQ')))) (by (first | exact omQ | (clear hM; first | (have hv := hpl p6.1 (by omega) (by omega); have hm := hpm p6.1 (by omega) (by omega); exact omQ') | (have hr := hF5_0 p6.1 (by omega) (by omega); exact omQ') | (have hv := hpl p6.1 (by omega) (by omega); have hm := hpm p6.1 (by omega) (by omega); have hq := hF5_1 p6.1 (by omega) (by omega) (p12.1 - p16.1 * (gt l p6.1).Value) (by omega) (by omega); exact omQ') | (have hr := hF13_0.1; exact omQ') | (have hr := hF9_0.1; exact omQ') | (have hr := hF5_0 (l.length : Int) (by omega) (by omega); exact omQ'))))
        try simp only [ha29]
        refine bindC_intro (by (first | exact omQ | (clear hM; first | (have hv := hpl p6.1 (by omega) (by omega); have hm := hpm p6.1 (by omega) (by omega); exact omQ') | (have hr := hF5_0 p6.1 (by omega) (by omega); exact omQ') | (have hv := hpl p6.1 (by omega) (by omega); have hm := hpm p6.1 (by omega) (by omega); have hq := hF5_1 p6.1 (by omega) (by omega) (p12.1 - p16.1 * (gt l p6.1).Value) (by omega) (by omega); exact omQ') | (have hr := hF13_0.1; exact omQ') | (have hr := hF9_0.1; exact omQ') | (have hr := hF5_0 (l.length : Int) (by omega) (by omega); exact omQ')))) ?_
        have he30 := fun d => elt_mp (l := p16.2) (f := e_denom_way) (i := p12.1) (by (first | exact omQ | (clear hM; first | (have hv := hpl p6.1 (by omega) (by omega); have hm := hpm p6.1 (by omega) (by omega); exact omQ') | (have hr := hF5_0 p6.1 (by omega) (by omega); exact omQ') | (have hv := hpl p6.1 (by omega) (by omega); have hm := hpm p6.1 (by omega) (by omega); have hq := hF5_1 p6.1 (by omega) (by omega) (p12.1 - p16.1 * (gt l p6.1).Value) (by omega) (by omega); exact omQ') | (have hr := hF13_0.1; exact omQ') | (have hr := hF9_0.1; exact omQ') | (have hr := hF5_0 (l.length : Int) (by omega) (by omega); exact omQ')))) d
        refine spQA (And.intro ha1 (And.intro ha2 (And.intro he3 (And.intro he4 (And.intro he5 (And.intro ha6 (And.intro he8 (And.intro he10 (And.intro ha12 (And.intro he14 (And.intro he15 (And.intro he17 (And.intro ha19 (And.intro he23 (And.intro ha25 (And.intro he26 (And.intro ha29 he30))))))))))))))))) ?_
        refine guardC_f (fun h31 => ?_) (fun h31 => ?_)
        ·rw [if_neg (ne_true h31)] at hM
         refine spQA (And.intro ha1 (And.intro ha2 (And.intro he3 (And.intro he4 (And.intro he5 (And.intro ha6 (And.intro he8 (And.intro he10 (And.intro ha12 (And.intro he14 (And.intro he15 (And.intro he17 (And.intro ha19 (And.intro he23 (And.intro ha25 (And.intro he26 (And.intro ha29 (And.intro he30 h31)))))))))))))))))) ?_
         have nh31 := nzQ h31
         refine bindC_intro (by (first | exact omQ | (clear hM; first | (have hv := hpl p6.1 (by omega) (by omega); have hm := hpm p6.1 (by omega) (by omega); exact omQ') | (have hr := hF5_0 p6.1 (by omega) (by omega); exact omQ') | (have hv := hpl p6.1 (by omega) (by omega); have hm := hpm p6.1 (by omega) (by omega); have hq := hF5_1 p6.1 (by omega) (by omega) (p12.1 - p16.1 * (gt l p6.1).Value) (by omega) (by omega); exact omQ') | (have hr := hF13_0.1; exact omQ') | (have hr := hF9_0.1; exact omQ') | (have hr := hF5_0 (l.length : Int) (by omega) (by omega); exact omQ')))) ?_
         refine spQA (And.intro ha1 (And.intro ha2 (And.intro he3 (And.intro he4 (And.intro he5 (And.intro ha6 (And.intro he8 (And.intro he10 (And.intro ha12 (And.intro he14 (And.intro he15 (And.intro he17 (And.intro ha19 (And.intro he23 (And.intro ha25 (And.intro he26 (And.intro ha29 he30))))))))))))))))) ?_
         refine condC_intro (fun h32 => ?_) (fun h32 => ?_)
         ·rw [if_pos h32] at hM
          refine spQA (And.intro ha1 (And.intro ha2 (And.intro he3 (And.intro he4 (And.intro he5 (And.intro ha6 (And.intro he8 (And.intro he10 (And.intro ha12 (And.intro he14 (And.intro he15 (And.intro he17 (And.intro ha19 (And.intro he23 (And.intro ha25 (And.intro he26 (And.intro ha29 (And.intro he30 h32)))))))))))))))))) ?_
          have nh32 := nzQ h32
          refine bindC_intro (by (first | exact omQ | (clear hM; first | (have hv := hpl p6.1 (by omega) (by omega); have hm := hpm p6.1 (by omega) (by omega); exact omQ') | (have hr := hF5_0 p6.1 (by omega) (by omega); exact omQ') | (have hv := hpl p6.1 (by omega) (by omega); have hm := hpm p6.1 (by omega) (by omega); have hq := hF5_1 p6.1 (by omega) (by omega) (p12.1 - p16.1 * (gt l p6.1).Value) (by omega) (by omega); exact omQ') | (have hr := hF13_0.1; exact omQ') | (have hr := hF9_0.1; exact omQ') | (have hr := hF5_0 (l.length : Int) (by omega) (by omega); exact omQ')))) ?_
          refine spQA (And.intro ha1 (And.intro ha2 (And.intro he3 (And.intro he4 (And.intro he5 (And.intro ha6 (And.intro he8 (And.intro he10 (And.intro ha12 (And.intro he14 (And.intro he15 (And.intro he17 (And.intro ha19 (And.intro he23 (And.intro ha25 (And.intro he26 (And.intro ha29 he30))))))))))))))))) ?_
          have ha33 : addI .i64 p16.1 1 = (p16.1 + 1) := add_ok (by (first | exact omQ | (clear hM; first | (have hv := hpl p6.1 (by omega) (by omega); have hm := hpm p6.1 (by omega) (by omega); exact omQ') | (have hr := hF5_0 p6.1 (by omega) (by omega); exact omQ') | (have hv := hpl p6.1 (by omega) (by omega); have hm := hpm p6.1 (by omega) (by omega); have hq := hF5_1 p6.1 (by omega) (by omega) (p12.1 - p16.1 * (gt l p6.1).Value) (by omega) (by omega); exact omQ') | (have hr := hF13_0.1; exact omQ') | (have hr := hF9_0.1; exact omQ') | (have hr := hF5_0 (l.length : Int) (by omega) (by omega); exact omQ')))) (by (first | exact omQ | (clear hM; first | (have hv := hpl p6.1 (by omega) (by omega); have hm := hpm p6.1 (by omega) (by omega); exact omQ') | (have hr := hF5_0 p6.1 (by omega) (by omega); exact omQ') | (have hv := hpl p6.1 (by omega) (by omega); have hm := hpm p6.1 (by omega) (by omega); have hq := hF5_1 p6.1 (by omega) (by omega) (p12.1 - p16.1 * (gt l p6.1).Value) (by omega) (by omega); exact omQ') | (have hr := hF13_0.1; exact omQ') | (have hr := hF9_0.1; exact omQ') | (have hr := hF5_0 (l.length : Int) (by omega) (by omega); exact omQ'))))
          try simp only [ha33]
          refine lp_intro (n16 - 1) _ (by omega) (by simp only [go_sem, rowV_eq, rowV_eq0, List.length_replicate, rep_len, Int.toNat_natCast, ↓reduceIte, Nat.reduceEqDiff, Nat.reduceAdd, Int.reduceAdd, Nat.reduceMul, Nat.reduceLeDiff, Nat.reduceLT, Int.reduceLE, Int.reduceLT, Int.reduceNeg, Int.reduceToNat, List.isEmpty_nil, map_st, mtL_repE, mtL_repM, subF, subH, mtO, mtB, mt, mtL, mtL_self, mt_self, ltV, ltL, ltB, eq_self, or_true, true_or, or_self, and_self, z_denom_way, rowV_ltE (f := (fun (l : List S_denom_way) => V.sl none 3 true (l.map e_denom_way))) (fun _ => by simp only [go_sem])]) (by simp only [go_sem, rowV_eq, rowV_eq0, List.length_replicate, rep_len, Int.toNat_natCast, ↓reduceIte, Nat.reduceEqDiff, Nat.reduceAdd, Int.reduceAdd, Nat.reduceMul, Nat.reduceLeDiff, Nat.reduceLT, Int.reduceLE, Int.reduceLT, Int.reduceNeg, Int.reduceToNat, List.isEmpty_nil, map_st, mtL_repE, mtL_repM, subF, subH, mtO, mtB, mt, mtL, mtL_self, mt_self, ltV, ltL, ltB, eq_self, or_true, true_or, or_self, and_self, z_denom_way, rowV_ltE (f := (fun (l : List S_denom_way) => V.sl none 3 true (l.map e_denom_way))) (fun _ => by simp only [go_sem])]) ⟨((p16.1 + 1), (st p16.2 p12.1 ({ ok := true, coins := ((gt (gt p6.2 p6.1) (p12.1 - (p16.1 * (gt l p6.1).Value))).coins + p16.1), last := p16.1 } : S_denom_way))), rfl, ⟨⟨by (first | exact omQ | (clear hM; first | (have hv := hpl p6.1 (by omega) (by omega); have hm := hpm p6.1 (by omega) (by omega); exact omQ') | (have hr := hF5_0 p6.1 (by omega) (by omega); exact omQ') | (have hv := hpl p6.1 (by omega) (by omega); have hm := hpm p6.1 (by omega) (by omega); have hq := hF5_1 p6.1 (by omega) (by omega) (p12.1 - (p16.1 + 1) * (gt l p6.1).Value) (by omega) (by omega); exact omQ') | (have hr := hF13_0.1; exact omQ') | (have hr := hF9_0.1; exact omQ') | (have hr := hF5_0 (l.length : Int) (by omega) (by omega); exact omQ'))), by (first | exact omQ | (clear hM; first | (have hv := hpl p6.1 (by omega) (by omega); have hm := hpm p6.1 (by omega) (by omega); exact omQ') | (have hr := hF5_0 p6.1 (by omega) (by omega); exact omQ') | (have hv := hpl p6.1 (by omega) (by omega); have hm := hpm p6.1 (by omega) (by omega); have hq := hF5_1 p6.1 (by omega) (by omega) (p12.1 - (p16.1 + 1) * (gt l p6.1).Value) (by omega) (by omega); exact omQ') | (have hr := hF13_0.1; exact omQ') | (have hr := hF9_0.1; exact omQ') | (have hr := hF5_0 (l.length : Int) (by omega) (by omega); exact omQ'))), by (first | exact omQ | (clear hM; first | (have hv := hpl p6.1 (by omega) (by omega); have hm := hpm p6.1 (by omega) (by omega); exact omQ') | (have hr := hF5_0 p6.1 (by omega) (by omega); exact omQ') | (have hv := hpl p6.1 (by omega) (by omega); have hm := hpm p6.1 (by omega) (by omega); have hq := hF5_1 p6.1 (by omega) (by omega) (p12.1 - (p16.1 + 1) * (gt l p6.1).Value) (by omega) (by omega); exact omQ') | (have hr := hF13_0.1; exact omQ') | (have hr := hF9_0.1; exact omQ') | (have hr := hF5_0 (l.length : Int) (by omega) (by omega); exact omQ')))⟩, by (clear hM; first | exact hF13_0 | (have hm := hpm p6.1 (by omega) (by omega); have hv := hpl p6.1 (by omega) (by omega); have hq := hF5_1 p6.1 (by omega) (by omega) (p12.1 - p16.1 * (gt l p6.1).Value) (by omega) (by omega); exact ⟨by rw [st_len]; exact hF13_0.1, hF13_0.2.set (by omega) (by show (0 : Int) ≤ p16.1; omega) (by show p16.1 ≤ (1000 : Int); omega) (by show p16.1 * (gt l p6.1).Value ≤ p12.1; omega) (by show (0 : Int) ≤ _ + p16.1; omega) (by show _ + p16.1 ≤ 1000 * (p6.1 + 1); omega)⟩))⟩, by (first | exact omQ | (clear hM; first | (have hv := hpl p6.1 (by omega) (by omega); have hm := hpm p6.1 (by omega) (by omega); exact omQ') | (have hr := hF5_0 p6.1 (by omega) (by omega); exact omQ') | (have hv := hpl p6.1 (by omega) (by omega); have hm := hpm p6.1 (by omega) (by omega); have hq := hF5_1 p6.1 (by omega) (by omega) (p12.1 - (p16.1 + 1) * (gt l p6.1).Value) (by omega) (by omega); exact omQ') | (have hr := hF13_0.1; exact omQ') | (have hr := hF9_0.1; exact omQ') | (have hr := hF5_0 (l.length : Int) (by omega) (by omega); exact omQ'))), iter_again hM hag16⟩
         ·rw [if_neg (ne_true h32)] at hM
          refine spQA (And.intro ha1 (And.intro ha2 (And.intro he3 (And.intro he4 (And.intro he5 (And.intro ha6 (And.intro he8 (And.intro he10 (And.intro ha12 (And.intro he14 (And.intro he15 (And.intro he17 (And.intro ha19 (And.intro he23 (And.intro ha25 (And.intro he26 (And.intro ha29 (And.intro he30 h32)))))))))))))))))) ?_
          have nh32 := nzQ h32
          have ha34 : addI .i64 p16.1 1 = (p16.1 + 1) := add_ok (by (first | exact omQ | (clear hM; first | (have hv := hpl p6.1 (by omega) (by omega); have hm := hpm p6.1 (by omega) (by omega); exact omQ') | (have hr := hF5_0 p6.1 (by omega) (by omega); exact omQ') | (have hv := hpl p6.1 (by omega) (by omega); have hm := hpm p6.1 (by omega) (by omega); have hq := hF5_1 p6.1 (by omega) (by omega) (p12.1 - p16.1 * (gt l p6.1).Value) (by omega) (by omega); exact omQ') | (have hr := hF13_0.1; exact omQ') | (have hr := hF9_0.1; exact omQ') | (have hr := hF5_0 (l.length : Int) (by omega) (by omega); exact omQ')))) (by (first | exact omQ | (clear hM; first | (have hv := hpl p6.1 (by omega) (by omega); have hm := hpm p6.1 (by omega) (by omega); exact omQ') | (have hr := hF5_0 p6.1 (by omega) (by omega); exact omQ') | (have hv := hpl p6.1 (by omega) (by omega); have hm := hpm p6.1 (by omega) (by omega); have hq := hF5_1 p6.1 (by omega) (by omega) (p12.1 - p16.1 * (gt l p6.1).Value) (by omega) (by omega); exact omQ') | (have hr := hF13_0.1; exact omQ') | (have hr := hF9_0.1; exact omQ') | (have hr := hF5_0 (l.length : Int) (by omega) (by omega); exact omQ'))))
          try simp only [ha34]
          refine lp_intro (n16 - 1) _ (by omega) (by simp only [go_sem, rowV_eq, rowV_eq0, List.length_replicate, rep_len, Int.toNat_natCast, ↓reduceIte, Nat.reduceEqDiff, Nat.reduceAdd, Int.reduceAdd, Nat.reduceMul, Nat.reduceLeDiff, Nat.reduceLT, Int.reduceLE, Int.reduceLT, Int.reduceNeg, Int.reduceToNat, List.isEmpty_nil, map_st, mtL_repE, mtL_repM, subF, subH, mtO, mtB, mt, mtL, mtL_self, mt_self, ltV, ltL, ltB, eq_self, or_true, true_or, or_self, and_self, z_denom_way, rowV_ltE (f := (fun (l : List S_denom_way) => V.sl none 3 true (l.map e_denom_way))) (fun _ => by simp only [go_sem])]) (by simp only [go_sem, rowV_eq, rowV_eq0, List.length_replicate, rep_len, Int.toNat_natCast, ↓reduceIte, Nat.reduceEqDiff, Nat.reduceAdd, Int.reduceAdd, Nat.reduceMul, Nat.reduceLeDiff, Nat.reduceLT, Int.reduceLE, Int.reduceLT, Int.reduceNeg, Int.reduceToNat, List.isEmpty_nil, map_st, mtL_repE, mtL_repM, subF, subH, mtO, mtB, mt, mtL, mtL_self, mt_self, ltV, ltL, ltB, eq_self, or_true, true_or, or_self, and_self, z_denom_way, rowV_ltE (f := (fun (l : List S_denom_way) => V.sl none 3 true (l.map e_denom_way))) (fun _ => by simp only [go_sem])]) ⟨((p16.1 + 1), p16.2), rfl, ⟨⟨by (first | exact omQ | (clear hM; first | (have hv := hpl p6.1 (by omega) (by omega); have hm := hpm p6.1 (by omega) (by omega); exact omQ') | (have hr := hF5_0 p6.1 (by omega) (by omega); exact omQ') | (have hv := hpl p6.1 (by omega) (by omega); have hm := hpm p6.1 (by omega) (by omega); have hq := hF5_1 p6.1 (by omega) (by omega) (p12.1 - (p16.1 + 1) * (gt l p6.1).Value) (by omega) (by omega); exact omQ') | (have hr := hF13_0.1; exact omQ') | (have hr := hF9_0.1; exact omQ') | (have hr := hF5_0 (l.length : Int) (by omega) (by omega); exact omQ'))), by (first | exact omQ | (clear hM; first | (have hv := hpl p6.1 (by omega) (by omega); have hm := hpm p6.1 (by omega) (by omega); exact omQ') | (have hr := hF5_0 p6.1 (by omega) (by omega); exact omQ') | (have hv := hpl p6.1 (by omega) (by omega); have hm := hpm p6.1 (by omega) (by omega); have hq := hF5_1 p6.1 (by omega) (by omega) (p12.1 - (p16.1 + 1) * (gt l p6.1).Value) (by omega) (by omega); exact omQ') | (have hr := hF13_0.1; exact omQ') | (have hr := hF9_0.1; exact omQ') | (have hr := hF5_0 (l.length : Int) (by omega) (by omega); exact omQ'))), by (first | exact omQ | (clear hM; first | (have hv := hpl p6.1 (by omega) (by omega); have hm := hpm p6.1 (by omega) (by omega); exact omQ') | (have hr := hF5_0 p6.1 (by omega) (by omega); exact omQ') | (have hv := hpl p6.1 (by omega) (by omega); have hm := hpm p6.1 (by omega) (by omega); have hq := hF5_1 p6.1 (by omega) (by omega) (p12.1 - (p16.1 + 1) * (gt l p6.1).Value) (by omega) (by omega); exact omQ') | (have hr := hF13_0.1; exact omQ') | (have hr := hF9_0.1; exact omQ') | (have hr := hF5_0 (l.length : Int) (by omega) (by omega); exact omQ')))⟩, by (clear hM; first | exact hF13_0 | (have hm := hpm p6.1 (by omega) (by omega); have hv := hpl p6.1 (by omega) (by omega); have hq := hF5_1 p6.1 (by omega) (by omega) (p12.1 - p16.1 * (gt l p6.1).Value) (by omega) (by omega); exact ⟨by rw [st_len]; exact hF13_0.1, hF13_0.2.set (by omega) (by show (0 : Int) ≤ p16.1; omega) (by show p16.1 ≤ (1000 : Int); omega) (by show p16.1 * (gt l p6.1).Value ≤ p12.1; omega) (by show (0 : Int) ≤ _ + p16.1; omega) (by show _ + p16.1 ≤ 1000 * (p6.1 + 1); omega)⟩))⟩, by (first | exact omQ | (clear hM; first | (have hv := hpl p6.1 (by omega) (by omega); have hm := hpm p6.1 (by omega) (by omega); exact omQ') | (have hr := hF5_0 p6.1 (by omega) (by omega); exact omQ') | (have hv := hpl p6.1 (by omega) (by omega); have hm := hpm p6.1 (by omega) (by omega); have hq := hF5_1 p6.1 (by omega) (by omega) (p12.1 - (p16.1 + 1) * (gt l p6.1).Value) (by omega) (by omega); exact omQ') | (have hr := hF13_0.1; exact omQ') | (have hr := hF9_0.1; exact omQ') | (have hr := hF5_0 (l.length : Int) (by omega) (by omega); exact omQ'))), iter_again hM hag16⟩
        ·rw [if_pos h31] at hM
         refine spQA (And.intro ha1 (And.intro ha2 (And.intro he3 (And.intro he4 (And.intro he5 (And.intro ha6 (And.intro he8 (And.intro he10 (And.intro ha12 (And.intro he14 (And.intro he15 (And.intro he17 (And.intro ha19 (And.intro he23 (And.intro ha25 (And.intro he26 (And.intro ha29 (And.intro he30 h31)))))))))))))))))) ?_
         have nh31 := nzQ h31
         refine bindC_intro (by (first | exact omQ | (clear hM; first | (have hv := hpl p6.1 (by omega) (by omega); have hm := hpm p6.1 (by omega) (by omega); exact omQ') | (have hr := hF5_0 p6.1 (by omega) (by omega); exact omQ') | (have hv := hpl p6.1 (by omega) (by omega); have hm := hpm p6.1 (by omega) (by omega); have hq := hF5_1 p6.1 (by omega) (by omega) (p12.1 - p16.1 * (gt l p6.1).Value) (by omega) (by omega); exact omQ') | (have hr := hF13_0.1; exact omQ') | (have hr := hF9_0.1; exact omQ') | (have hr := hF5_0 (l.length : Int) (by omega) (by omega); exact omQ')))) ?_
         refine spQA (And.intro ha1 (And.intro ha2 (And.intro he3 (And.intro he4 (And.intro he5 (And.intro ha6 (And.intro he8 (And.intro he10 (And.intro ha12 (And.intro he14 (And.intro he15 (And.intro he17 (And.intro ha19 (And.intro he23 (And.intro ha25 (And.intro he26 (And.intro ha29 he30))))))))))))))))) ?_
         have ha35 : addI .i64 p16.1 1 = (p16.1 + 1) := add_ok (by (first | exact omQ | (clear hM; first | (have hv := hpl p6.1 (by omega) (by omega); have hm := hpm p6.1 (by omega) (by omega); exact omQ') | (have hr := hF5_0 p6.1 (by omega) (by omega); exact omQ') | (have hv := hpl p6.1 (by omega) (by omega); have hm := hpm p6.1 (by omega) (by omega); have hq := hF5_1 p6.1 (by omega) (by omega) (p12.1 - p16.1 * (gt l p6.1).Value) (by omega) (by omega); exact omQ') | (have hr := hF13_0.1; exact omQ') | (have hr := hF9_0.1; exact omQ') | (have hr := hF5_0 (l.length : Int) (by omega) (by omega); exact omQ')))) (by (first | exact omQ | (clear hM; first | (have hv := hpl p6.1 (by omega) (by omega); have hm := hpm p6.1 (by omega) (by omega); exact omQ') | (have hr := hF5_0 p6.1 (by omega) (by omega); exact omQ') | (have hv := hpl p6.1 (by omega) (by omega); have hm := hpm p6.1 (by omega) (by omega); have hq := hF5_1 p6.1 (by omega) (by omega) (p12.1 - p16.1 * (gt l p6.1).Value) (by omega) (by omega); exact omQ') | (have hr := hF13_0.1; exact omQ') | (have hr := hF9_0.1; exact omQ') | (have hr := hF5_0 (l.length : Int) (by omega) (by omega); exact omQ'))))
         try simp only [ha35]
         refine lp_intro (n16 - 1) _ (by omega) (by simp only [go_sem, rowV_eq, rowV_eq0, List.length_replicate, rep_len, Int.toNat_natCast, ↓reduceIte, Nat.reduceEqDiff, Nat.reduceAdd, Int.reduceAdd, Nat.reduceMul, Nat.reduceLeDiff, Nat.reduceLT, Int.reduceLE, Int.reduceLT, Int.reduceNeg, Int.reduceToNat, List.isEmpty_nil, map_st, mtL_repE, mtL_repM, subF, subH, mtO, mtB, mt, mtL, mtL_self, mt_self, ltV, ltL, ltB, eq_self, or_true, true_or, or_self, and_self, z_denom_way, rowV_ltE (f := (fun (l : List S_denom_way) => V.sl none 3 true (l.map e_denom_way))) (fun _ => by simp only [go_sem])]) (by simp only [go_sem, rowV_eq, rowV_eq0, List.length_replicate, rep_len, Int.toNat_natCast, ↓reduceIte, Nat.reduceEqDiff, Nat.reduceAdd, Int.reduceAdd, Nat.reduceMul, Nat.reduceLeDiff, Nat.reduceLT, Int.reduceLE, Int.reduceLT, Int.reduceNeg, Int.reduceToNat, List.isEmpty_nil, map_st, mtL_repE, mtL_repM, subF, subH, mtO, mtB, mt, mtL, mtL_self, mt_self, ltV, ltL, ltB, eq_self, or_true, true_or, or_self, and_self, z_denom_way, rowV_ltE (f := (fun (l : List S_denom_way) => V.sl none 3 true (l.map e_denom_way))) (fun _ => by simp only [go_sem])]) ⟨((p16.1 + 1), (st p16.2 p12.1 ({ ok := true, coins := ((gt (gt p6.2 p6.1) (p12.1 - (p16.1 * (gt l p6.1).Value))).coins + p16.1), last := p16.1 } : S_denom_way))), rfl, ⟨⟨by (first | exact omQ | (clear hM; first | (have hv := hpl p6.1 (by omega) (by omega); have hm := hpm p6.1 (by omega) (by omega); exact omQ') | (have hr := hF5_0 p6.1 (by omega) (by omega); exact omQ') | (have hv := hpl p6.1 (by omega) (by omega); have hm := hpm p6.1 (by omega) (by omega); have hq := hF5_1 p6.1 (by omega) (by omega) (p12.1 - (p16.1 + 1) * (gt l p6.1).Value) (by omega) (by omega); exact omQ') | (have hr := hF13_0.1; exact omQ') | (have hr := hF9_0.1; exact omQ') | (have hr := hF5_0 (l.length : Int) (by omega) (by omega); exact omQ'))), by (first | exact omQ | (clear hM; first | (have hv := hpl p6.1 (by omega) (by omega); have hm := hpm p6.1 (by omega) (by omega); exact omQ') | (have hr := hF5_0 p6.1 (by omega) (by omega); exact omQ') | (have hv := hpl p6.1 (by omega) (by omega); have hm := hpm p6.1 (by omega) (by omega); have hq := hF5_1 p6.1 (by omega) (by omega) (p12.1 - (p16.1 + 1) * (gt l p6.1).Value) (by omega) (by omega); exact omQ') | (have hr := hF13_0.1; exact omQ') | (have hr := hF9_0.1; exact omQ') | (have hr := hF5_0 (l.length : Int) (by omega) (by omega); exact omQ'))), by (first | exact omQ | (clear hM; first | (have hv := hpl p6.1 (by omega) (by omega); have hm := hpm p6.1 (by omega) (by omega); exact omQ') | (have hr := hF5_0 p6.1 (by omega) (by omega); exact omQ') | (have hv := hpl p6.1 (by omega) (by omega); have hm := hpm p6.1 (by omega) (by omega); have hq := hF5_1 p6.1 (by omega) (by omega) (p12.1 - (p16.1 + 1) * (gt l p6.1).Value) (by omega) (by omega); exact omQ') | (have hr := hF13_0.1; exact omQ') | (have hr := hF9_0.1; exact omQ') | (have hr := hF5_0 (l.length : Int) (by omega) (by omega); exact omQ')))⟩, by (clear hM; first | exact hF13_0 | (have hm := hpm p6.1 (by omega) (by omega); have hv := hpl p6.1 (by omega) (by omega); have hq := hF5_1 p6.1 (by omega) (by omega) (p12.1 - p16.1 * (gt l p6.1).Value) (by omega) (by omega); exact ⟨by rw [st_len]; exact hF13_0.1, hF13_0.2.set (by omega) (by show (0 : Int) ≤ p16.1; omega) (by show p16.1 ≤ (1000 : Int); omega) (by show p16.1 * (gt l p6.1).Value ≤ p12.1; omega) (by show (0 : Int) ≤ _ + p16.1; omega) (by show _ + p16.1 ≤ 1000 * (p6.1 + 1); omega)⟩))⟩, by (first | exact omQ | (clear hM; first | (have hv := hpl p6.1 (by omega) (by omega); have hm := hpm p6.1 (by omega) (by omega); exact omQ') | (have hr := hF5_0 p6.1 (by omega) (by omega); exact omQ') | (have hv := hpl p6.1 (by omega) (by omega); have hm := hpm p6.1 (by omega) (by omega); have hq := hF5_1 p6.1 (by omega) (by omega) (p12.1 - (p16.1 + 1) * (gt l p6.1).Value) (by omega) (by omega); exact omQ') | (have hr := hF13_0.1; exact omQ') | (have hr := hF9_0.1; exact omQ') | (have hr := hF5_0 (l.length : Int) (by omega) (by omega); exact omQ'))), iter_again hM hag16⟩
      ·rw [if_neg (ne_true h22)] at hM
       refine spQA (And.intro ha1 (And.intro ha2 (And.intro he3 (And.intro he4 (And.intro he5 (And.intro ha6 (And.intro he8 (And.intro he10 (And.intro ha12 (And.intro he14 (And.intro he15 (And.intro he17 (And.intro ha19 h22))))))))))))) ?_
       have nh22 := nzQ h22
       refine lp_intro (n12 - 1) _ (by omega) (by simp only [go_sem, rowV_eq, rowV_eq0, List.length_replicate, rep_len, Int.toNat_natCast, ↓reduceIte, Nat.reduceEqDiff, Nat.reduceAdd, Int.reduceAdd, Nat.reduceMul, Nat.reduceLeDiff, Nat.reduceLT, Int.reduceLE, Int.reduceLT, Int.reduceNeg, Int.reduceToNat, List.isEmpty_nil, map_st, mtL_repE, mtL_repM, subF, subH, mtO, mtB, mt, mtL, mtL_self, mt_self, ltV, ltL, ltB, eq_self, or_true, true_or, or_self, and_self, z_denom_way, rowV_ltE (f := (fun (l : List S_denom_way) => V.sl none 3 true (l.map e_denom_way))) (fun _ => by simp only [go_sem])]) (by simp only [go_sem, rowV_eq, rowV_eq0, List.length_replicate, rep_len, Int.toNat_natCast, ↓reduceIte, Nat.reduceEqDiff, Nat.reduceAdd, Int.reduceAdd, Nat.reduceMul, Nat.reduceLeDiff, Nat.reduceLT, Int.reduceLE, Int.reduceLT, Int.reduceNeg, Int.reduceToNat, List.isEmpty_nil, map_st, mtL_repE, mtL_repM, subF, subH, mtO, mtB, mt, mtL, mtL_self, mt_self, ltV, ltL, ltB, eq_self, or_true, true_or, or_self, and_self, z_denom_way, rowV_ltE (f := (fun (l : List S_denom_way) => V.sl none 3 true (l.map e_denom_way))) (fun _ => by simp only [go_sem])]) ⟨((p12.1 + 1), p16.2), rfl, ⟨⟨by (first | exact omQ | (clear hM; first | (have hv := hpl p6.1 (by omega) (by omega); have hm := hpm p6.1 (by omega) (by omega); exact omQ') | (have hr := hF5_0 p6.1 (by omega) (by omega); exact omQ') | (have hv := hpl p6.1 (by omega) (by omega); have hm := hpm p6.1 (by omega) (by omega); have hq := hF5_1 p6.1 (by omega) (by omega) (p12.1 - p16.1 * (gt l p6.1).Value) (by omega) (by omega); exact omQ') | (have hr := hF13_0.1; exact omQ') | (have hr := hF9_0.1; exact omQ') | (have hr := hF5_0 (l.length : Int) (by omega) (by omega); exact omQ'))), by (first | exact omQ | (clear hM; first | (have hv := hpl p6.1 (by omega) (by omega); have hm := hpm p6.1 (by omega) (by omega); exact omQ') | (have hr := hF5_0 p6.1 (by omega) (by omega); exact omQ') | (have hv := hpl p6.1 (by omega) (by omega); have hm := hpm p6.1 (by omega) (by omega); have hq := hF5_1 p6.1 (by omega) (by omega) (p12.1 - p16.1 * (gt l p6.1).Value) (by omega) (by omega); exact omQ') | (have hr := hF13_0.1; exact omQ') | (have hr := hF9_0.1; exact omQ') | (have hr := hF5_0 (l.length : Int) (by omega) (by omega); exact omQ'))), by (first | exact omQ | (clear hM; first | (have hv := hpl p6.1 (by omega) (by omega); have hm := hpm p6.1 (by omega) (by omega); exact omQ') | (have hr := hF5_0 p6.1 (by omega) (by omega); exact omQ') | (have hv := hpl p6.1 (by omega) (by omega); have hm := hpm p6.1 (by omega) (by omega); have hq := hF5_1 p6.1 (by omega) (by omega) (p12.1 - p16.1 * (gt l p6.1).Value) (by omega) (by omega); exact omQ') | (have hr := hF13_0.1; exact omQ') | (have hr := hF9_0.1; exact omQ') | (have hr := hF5_0 (l.length : Int) (by omega) (by omega); exact omQ')))⟩, by (clear hM; exact hF13_0)⟩, by (first | exact omQ | (clear hM; first | (have hv := hpl p6.1 (by omega) (by omega); have hm := hpm p6.1 (by omega) (by omega); exact omQ') | (have hr := hF5_0 p6.1 (by omega) (by omega); exact omQ') | (have hv := hpl p6.1 (by omega) (by omega); have hm := hpm p6.1 (by omega) (by omega); have hq := hF5_1 p6.1 (by omega) (by omega) (p12.1 - p16.1 * (gt l p6.1).Value) (by omega) (by omega); exact omQ') | (have hr := hF13_0.1; exact omQ') | (have hr := hF9_0.1; exact omQ') | (have hr := hF5_0 (l.length : Int) (by omega) (by omega); exact omQ'))), iter_again hM hag12⟩
     ·rw [if_pos h21] at hM
      refine spQA (And.intro ha1 (And.intro ha2 (And.intro he3 (And.intro he4 (And.intro he5 (And.intro ha6 (And.intro he8 (And.intro he10 (And.intro ha12 (And.intro he14 (And.intro he15 (And.intro he17 (And.intro ha19 h21))))))))))))) ?_
      have nh21 := nzQ h21
      refine ct_draw 167 13 [14, 83, 84, 85, 86, 87, 88, 89, 90, 91, 92, 93, 94] [] ([[], [], [0, 1], [0, 1, 2], [], [], [], [6], [5, 6, 7], [4, 5, 6, 7, 8], [0, 1, 2, 3, 4, 5, 6, 7, 8, 9], [0, 1, 2, 3, 4, 5, 6, 7, 8, 9, 10], []] ++ [List.range 13]) [] (by kernel_rfl) (by exact alQ) ?_
      refine spQA (And.intro ha1 (And.intro ha2 (And.intro he3 (And.intro he4 (And.intro he5 (And.intro ha6 (And.intro he8 (And.intro he10 (And.intro ha12 (And.intro he14 (And.intro he15 (And.intro he17 ha19)))))))))))) ?_
      refine hbindC_intro (by (first | exact omQ | (clear hM; first | (have hv := hpl p6.1 (by omega) (by omega); have hm := hpm p6.1 (by omega) (by omega); exact omQ') | (have hr := hF5_0 p6.1 (by omega) (by omega); exact omQ') | (have hv := hpl p6.1 (by omega) (by omega); have hm := hpm p6.1 (by omega) (by omega); have hq := hF5_1 p6.1 (by omega) (by omega) (p12.1 - p16.1 * (gt l p6.1).Value) (by omega) (by omega); exact omQ') | (have hr := hF13_0.1; exact omQ') | (have hr := hF9_0.1; exact omQ') | (have hr := hF5_0 (l.length : Int) (by omega) (by omega); exact omQ')))) ?_
      refine spQA (And.intro ha1 (And.intro ha2 (And.intro he3 (And.intro he4 (And.intro he5 (And.intro ha6 (And.intro he8 (And.intro he10 (And.intro ha12 (And.intro he14 (And.intro he15 (And.intro he17 ha19)))))))))))) ?_
      refine hbindC_intro (by (first | exact omQ | (clear hM; first | (have hv := hpl p6.1 (by omega) (by omega); have hm := hpm p6.1 (by omega) (by omega); exact omQ') | (have hr := hF5_0 p6.1 (by omega) (by omega); exact omQ') | (have hv := hpl p6.1 (by omega) (by omega); have hm := hpm p6.1 (by omega) (by omega); have hq := hF5_1 p6.1 (by omega) (by omega) (p12.1 - p16.1 * (gt l p6.1).Value) (by omega) (by omega); exact omQ') | (have hr := hF13_0.1; exact omQ') | (have hr := hF9_0.1; exact omQ') | (have hr := hF5_0 (l.length : Int) (by omega) (by omega); exact omQ')))) ?_
      have he36 := rowV_other (f := (fun (l : List S_denom_way) => V.sl none 3 true (l.map e_denom_way))) (l := p6.2) (i := 3) (q := (p6.1 + 1)) (p := p6.1) (by (first | exact omQ | (clear hM; first | (have hv := hpl p6.1 (by omega) (by omega); have hm := hpm p6.1 (by omega) (by omega); exact omQ') | (have hr := hF5_0 p6.1 (by omega) (by omega); exact omQ') | (have hv := hpl p6.1 (by omega) (by omega); have hm := hpm p6.1 (by omega) (by omega); have hq := hF5_1 p6.1 (by omega) (by omega) (p12.1 - p16.1 * (gt l p6.1).Value) (by omega) (by omega); exact omQ') | (have hr := hF13_0.1; exact omQ') | (have hr := hF9_0.1; exact omQ') | (have hr := hF5_0 (l.length : Int) (by omega) (by omega); exact omQ')))) (by (first | exact omQ | (clear hM; first | (have hv := hpl p6.1 (by omega) (by omega); have hm := hpm p6.1 (by omega) (by omega); exact omQ') | (have hr := hF5_0 p6.1 (by omega) (by omega); exact omQ') | (have hv := hpl p6.1 (by omega) (by omega); have hm := hpm p6.1 (by omega) (by omega); have hq := hF5_1 p6.1 (by omega) (by omega) (p12.1 - p16.1 * (gt l p6.1).Value) (by omega) (by omega); exact omQ') | (have hr := hF13_0.1; exact omQ') | (have hr := hF9_0.1; exact omQ') | (have hr := hF5_0 (l.length : Int) (by omega) (by omega); exact omQ'))))
      refine spQA (And.intro ha1 (And.intro ha2 (And.intro he3 (And.intro he4 (And.intro he5 (And.intro ha6 (And.intro he8 (And.intro he10 (And.intro ha12 (And.intro he14 (And.intro he15 (And.intro he17 (And.intro ha19 he36))))))))))))) ?_
      have ha38 : subI .i64 p12.1 (p16.1 * (gt l p6.1).Value) = (p12.1 - (p16.1 * (gt l p6.1).Value)) := sub_ok (by (first | exact omQ | (clear hM; first | (have hv := hpl p6.1 (by omega) (by omega); have hm := hpm p6.1 (by omega) (by omega); exact omQ') | (have hr := hF5_0 p6.1 (by omega) (by omega); exact omQ') | (have hv := hpl p6.1 (by omega) (by omega); have hm := hpm p6.1 (by omega) (by omega); have hq := hF5_1 p6.1 (by omega) (by omega) (p12.1 - p16.1 * (gt l p6.1).Value) (by omega) (by omega); exact omQ') | (have hr := hF13_0.1; exact omQ') | (have hr := hF9_0.1; exact omQ') | (have hr := hF5_0 (l.length : Int) (by omega) (by omega); exact omQ')))) (by (first | exact omQ | (clear hM; first | (have hv := hpl p6.1 (by omega) (by omega); have hm := hpm p6.1 (by omega) (by omega); exact omQ') | (have hr := hF5_0 p6.1 (by omega) (by omega); exact omQ') | (have hv := hpl p6.1 (by omega) (by omega); have hm := hpm p6.1 (by omega) (by omega); have hq := hF5_1 p6.1 (by omega) (by omega) (p12.1 - p16.1 * (gt l p6.1).Value) (by omega) (by omega); exact omQ') | (have hr := hF13_0.1; exact omQ') | (have hr := hF9_0.1; exact omQ') | (have hr := hF5_0 (l.length : Int) (by omega) (by omega); exact omQ'))))
      try simp only [ha38]
      refine hbindC_intro (by (first | exact omQ | (clear hM; first | (have hv := hpl p6.1 (by omega) (by omega); have hm := hpm p6.1 (by omega) (by omega); exact omQ') | (have hr := hF5_0 p6.1 (by omega) (by omega); exact omQ') | (have hv := hpl p6.1 (by omega) (by omega); have hm := hpm p6.1 (by omega) (by omega); have hq := hF5_1 p6.1 (by omega) (by omega) (p12.1 - p16.1 * (gt l p6.1).Value) (by omega) (by omega); exact omQ') | (have hr := hF13_0.1; exact omQ') | (have hr := hF9_0.1; exact omQ') | (have hr := hF5_0 (l.length : Int) (by omega) (by omega); exact omQ')))) ?_
      have he39 := fun d => elt_mp (l := (gt p6.2 p6.1)) (f := e_denom_way) (i := (p12.1 - (p16.1 * (gt l p6.1).Value))) (by (first | exact omQ | (clear hM; first | (have hv := hpl p6.1 (by omega) (by omega); have hm := hpm p6.1 (by omega) (by omega); exact omQ') | (have hr := hF5_0 p6.1 (by omega) (by omega); exact omQ') | (have hv := hpl p6.1 (by omega) (by omega); have hm := hpm p6.1 (by omega) (by omega); have hq := hF5_1 p6.1 (by omega) (by omega) (p12.1 - p16.1 * (gt l p6.1).Value) (by omega) (by omega); exact omQ') | (have hr := hF13_0.1; exact omQ') | (have hr := hF9_0.1; exact omQ') | (have hr := hF5_0 (l.length : Int) (by omega) (by omega); exact omQ')))) d
      refine spQA (And.intro ha1 (And.intro ha2 (And.intro he3 (And.intro he4 (And.intro he5 (And.intro ha6 (And.intro he8 (And.intro he10 (And.intro ha12 (And.intro he14 (And.intro he15 (And.intro he17 (And.intro ha19 (And.intro he36 (And.intro ha38 he39))))))))))))))) ?_
      refine condC_intro (fun h40 => ?_) (fun h40 => ?_)
      ·rw [if_pos h40] at hM
       refine spQA (And.intro ha1 (And.intro ha2 (And.intro he3 (And.intro he4 (And.intro he5 (And.intro ha6 (And.intro he8 (And.intro he10 (And.intro ha12 (And.intro he14 (And.intro he15 (And.intro he17 (And.intro ha19 (And.intro he36 (And.intro ha38 (And.intro he39 h40)))))))))))))))) ?_
       have nh40 := nzQ h40
       have ha41 : addI .i64 p16.1 1 = (p16.1 + 1) := add_ok (by (first | exact omQ | (clear hM; first | (have hv := hpl p6.1 (by omega) (by omega); have hm := hpm p6.1 (by omega) (by omega); exact omQ') | (have hr := hF5_0 p6.1 (by omega) (by omega); exact omQ') | (have hv := hpl p6.1 (by omega) (by omega); have hm := hpm p6.1 (by omega) (by omega); have hq := hF5_1 p6.1 (by omega) (by omega) (p12.1 - p16.1 * (gt l p6.1).Value) (by omega) (by omega); exact omQ') | (have hr := hF13_0.1; exact omQ') | (have hr := hF9_0.1; exact omQ') | (have hr := hF5_0 (l.length : Int) (by omega) (by omega); exact omQ')))) (by (first | exact omQ | (clear hM; first | (have hv := hpl p6.1 (by omega) (by omega); have hm := hpm p6.1 (by omega) (by omega); exact omQ') | (have hr := hF5_0 p6.1 (by omega) (by omega); exact omQ') | (have hv := hpl p6.1 (by omega) (by omega); have hm := hpm p6.1 (by omega) (by omega); have hq := hF5_1 p6.1 (by omega) (by omega) (p12.1 - p16.1 * (gt l p6.1).Value) (by omega) (by omega); exact omQ') | (have hr := hF13_0.1; exact omQ') | (have hr := hF9_0.1; exact omQ') | (have hr := hF5_0 (l.length : Int) (by omega) (by omega); exact omQ'))))
       try simp only [ha41]
       refine lp_intro (n16 - 1) _ (by omega) (by simp only [go_sem, rowV_eq, rowV_eq0, List.length_replicate, rep_len, Int.toNat_natCast, ↓reduceIte, Nat.reduceEqDiff, Nat.reduceAdd, Int.reduceAdd, Nat.reduceMul, Nat.reduceLeDiff, Nat.reduceLT, Int.reduceLE, Int.reduceLT, Int.reduceNeg, Int.reduceToNat, List.isEmpty_nil, map_st, mtL_repE, mtL_repM, subF, subH, mtO, mtB, mt, mtL, mtL_self, mt_self, ltV, ltL, ltB, eq_self, or_true, true_or, or_self, and_self, z_denom_way, rowV_ltE (f := (fun (l : List S_denom_way) => V.sl none 3 true (l.map e_denom_way))) (fun _ => by simp only [go_sem])]) (by simp only [go_sem, rowV_eq, rowV_eq0, List.length_replicate, rep_len, Int.toNat_natCast, ↓reduceIte, Nat.reduceEqDiff, Nat.reduceAdd, Int.reduceAdd, Nat.reduceMul, Nat.reduceLeDiff, Nat.reduceLT, Int.reduceLE, Int.reduceLT, Int.reduceNeg, Int.reduceToNat, List.isEmpty_nil, map_st, mtL_repE, mtL_repM, subF, subH, mtO, mtB, mt, mtL, mtL_self, mt_self, ltV, ltL, ltB, eq_self, or_true, true_or, or_self, and_self, z_denom_way, rowV_ltE (f := (fun (l : List S_denom_way) => V.sl none 3 true (l.map e_denom_way))) (fun _ => by simp only [go_sem])]) ⟨((p16.1 + 1), p16.2), rfl, ⟨⟨by (first | exact omQ | (clear hM; first | (have hv := hpl p6.1 (by omega) (by omega); have hm := hpm p6.1 (by omega) (by omega); exact omQ') | (have hr := hF5_0 p6.1 (by omega) (by omega); exact omQ') | (have hv := hpl p6.1 (by omega) (by omega); have hm := hpm p6.1 (by omega) (by omega); have hq := hF5_1 p6.1 (by omega) (by omega) (p12.1 - (p16.1 + 1) * (gt l p6.1).Value) (by omega) (by omega); exact omQ') | (have hr := hF13_0.1; exact omQ') | (have hr := hF9_0.1; exact omQ') | (have hr := hF5_0 (l.length : Int) (by omega) (by omega); exact omQ'))), by (first | exact omQ | (clear hM; first | (have hv := hpl p6.1 (by omega) (by omega); have hm := hpm p6.1 (by omega) (by omega); exact omQ') | (have hr := hF5_0 p6.1 (by omega) (by omega); exact omQ') | (have hv := hpl p6.1 (by omega) (by omega); have hm := hpm p6.1 (by omega) (by omega); have hq := hF5_1 p6.1 (by omega) (by omega) (p12.1 - (p16.1 + 1) * (gt l p6.1).Value) (by omega) (by omega); exact omQ') | (have hr := hF13_0.1; exact omQ') | (have hr := hF9_0.1; exact omQ') | (have hr := hF5_0 (l.length : Int) (by omega) (by omega); exact omQ'))), by (first | exact omQ | (clear hM; first | (have hv := hpl p6.1 (by omega) (by omega); have hm := hpm p6.1 (by omega) (by omega); exact omQ') | (have hr := hF5_0 p6.1 (by omega) (by omega); exact omQ') | (have hv := hpl p6.1 (by omega) (by omega); have hm := hpm p6.1 (by omega) (by omega); have hq := hF5_1 p6.1 (by omega) (by omega) (p12.1 - (p16.1 + 1) * (gt l p6.1).Value) (by omega) (by omega); exact omQ') | (have hr := hF13_0.1; exact omQ') | (have hr := hF9_0.1; exact omQ') | (have hr := hF5_0 (l.length : Int) (by omega) (by omega); exact omQ')))⟩, by (clear hM; first | exact hF13_0 | (have hm := hpm p6.1 (by omega) (by omega); have hv := hpl p6.1 (by omega) (by omega); have hq := hF5_1 p6.1 (by omega) (by omega) (p12.1 - p16.1 * (gt l p6.1).Value) (by omega) (by omega); exact ⟨by rw [st_len]; exact hF13_0.1, hF13_0.2.set (by omega) (by show (0 : Int) ≤ p16.1; omega) (by show p16.1 ≤ (1000 : Int); omega) (by show p16.1 * (gt l p6.1).Value ≤ p12.1; omega) (by show (0 : Int) ≤ _ + p16.1; omega) (by show _ + p16.1 ≤ 1000 * (p6.1 + 1); omega)⟩))⟩, by (first | exact omQ | (clear hM; first | (have hv := hpl p6.1 (by omega) (by omega); have hm := hpm p6.1 (by omega) (by omega); exact omQ') | (have hr := hF5_0 p6.1 (by omega) (by omega); exact omQ') | (have hv := hpl p6.1 (by omega) (by omega); have hm := hpm p6.1 (by omega) (by omega); have hq := hF5_1 p6.1 (by omega) (by omega) (p12.1 - (p16.1 + 1) * (gt l p6.1).Value) (by omega) (by omega); exact omQ') | (have hr := hF13_0.1; exact omQ') | (have hr := hF9_0.1; exact omQ') | (have hr := hF5_0 (l.length : Int) (by omega) (by omega); exact omQ'))), iter_again hM hag16⟩
      ·rw [if_neg (ne_true h40)] at hM
       refine spQA (And.intro ha1 (And.intro ha2 (And.intro he3 (And.intro he4 (And.intro he5 (And.intro ha6 (And.intro he8 (And.intro he10 (And.intro ha12 (And.intro he14 (And.intro he15 (And.intro he17 (And.intro ha19 (And.intro he36 (And.intro ha38 (And.intro he39 h40)))))))))))))))) ?_
       have nh40 := nzQ h40
       have ha42 : addI .i64 (gt (gt p6.2 p6.1) (p12.1 - (p16.1 * (gt l p6.1).Value))).coins p16.1 = ((gt (gt p6.2 p6.1) (p12.1 - (p16.1 * (gt l p6.1).Value))).coins + p16.1) := add_ok (by (first | exact omQ | (clear hM; first | (have hv := hpl p6.1 (by omega) (by omega); have hm := hpm p6.1 (by omega) (by omega); exact omQ') | (have hr := hF5_0 p6.1 (by omega) (by omega); exact omQ') | (have hv := hpl p6.1 (by omega) (by omega); have hm := hpm p6.1 (by omega) (by omega); have hq := hF5_1 p6.1 (by omega) (by omega) (p12.1 - p16.1 * (gt l p6.1).Value) (by omega) (by omega); exact omQ') | (have hr := hF13_0.1; exact omQ') | (have hr := hF9_0.1; exact omQ') | (have hr := hF5_0 (l.length : Int) (by omega) (by omega); exact omQ')))) (by (first | exact omQ | (clear hM; first | (have hv := hpl p6.1 (by omega) (by omega); have hm := hpm p6.1 (by omega) (by omega); exact omQ') | (have hr := hF5_0 p6.1 (by omega) (by omega); exact omQ') | (have hv := hpl p6.1 (by omega) (by omega); have hm := hpm p6.1 (by omega) (by omega); have hq := hF5_1 p6.1 (by omega) (by omega) (p12.1 - p16.1 * (gt l p6.1).Value) (by omega) (by omega); exact omQ') | (have hr := hF13_0.1; exact omQ') | (have hr := hF9_0.1; exact omQ') | (have hr := hF5_0 (l.length : Int) (by omega) (by omega); exact omQ'))))
       try simp only [ha42]
       refine bindC_intro (by (first | exact omQ | (clear hM; first | (have hv := hpl p6.1 (by omega) (by omega); have hm := hpm p6.1 (by omega) (by omega); exact omQ') | (have hr := hF5_0 p6.1 (by omega) (by omega); exact omQ') | (have hv := hpl p6.1 (by omega) (by omega); have hm := hpm p6.1 (by omega) (by omega); have hq := hF5_1 p6.1 (by omega) (by omega) (p12.1 - p16.1 * (gt l p6.1).Value) (by omega) (by omega); exact omQ') | (have hr := hF13_0.1; exact omQ') | (have hr := hF9_0.1; exact omQ') | (have hr := hF5_0 (l.length : Int) (by omega) (by omega); exact omQ')))) ?_
       have he43 := fun d => elt_mp (l := p16.2) (f := e_denom_way) (i := p12.1) (by (first | exact omQ | (clear hM; first | (have hv := hpl p6.1 (by omega) (by omega); have hm := hpm p6.1 (by omega) (by omega); exact omQ') | (have hr := hF5_0 p6.1 (by omega) (by omega); exact omQ') | (have hv := hpl p6.1 (by omega) (by omega); have hm := hpm p6.1 (by omega) (by omega); have hq := hF5_1 p6.1 (by omega) (by omega) (p12.1 - p16.1 * (gt l p6.1).Value) (by omega) (by omega); exact omQ') | (have hr := hF13_0.1; exact omQ') | (have hr := hF9_0.1; exact omQ') | (have hr := hF5_0 (l.length : Int) (by omega) (by omega); exact omQ')))) d
       refine spQA (And.intro ha1 (And.intro ha2 (And.intro he3 (And.intro he4 (And.intro he5 (And.intro ha6 (And.intro he8 (And.intro he10 (And.intro ha12 (And.intro he14 (And.intro he15 (And.intro he17 (And.intro ha19 (And.intro he36 (And.intro ha38 (And.intro he39 (And.intro ha42 he43))))))))))))))))) ?_
       refine guardC_f (fun h44 => ?_) (fun h44 => ?_)
       ·rw [if_neg (ne_true h44)] at hM
        refine spQA (And.intro ha1 (And.intro ha2 (And.intro he3 (And.intro he4 (And.intro he5 (And.intro ha6 (And.intro he8 (And.intro he10 (And.intro ha12 (And.intro he14 (And.intro he15 (And.intro he17 (And.intro ha19 (And.intro he36 (And.intro ha38 (And.intro he39 (And.intro ha42 (And.intro he43 h44)))))))))))))))))) ?_
        have nh44 := nzQ h44
        refine bindC_intro (by (first | exact omQ | (clear hM; first | (have hv := hpl p6.1 (by omega) (by omega); have hm := hpm p6.1 (by omega) (by omega); exact omQ') | (have hr := hF5_0 p6.1 (by omega) (by omega); exact omQ') | (have hv := hpl p6.1 (by omega) (by omega); have hm := hpm p6.1 (by omega) (by omega); have hq := hF5_1 p6.1 (by omega) (by omega) (p12.1 - p16.1 * (gt l p6.1).Value) (by omega) (by omega); exact omQ') | (have hr := hF13_0.1; exact omQ') | (have hr := hF9_0.1; exact omQ') | (have hr := hF5_0 (l.length : Int) (by omega) (by omega); exact omQ')))) ?_
        refine spQA (And.intro ha1 (And.intro ha2 (And.intro he3 (And.intro he4 (And.intro he5 (And.intro ha6 (And.intro he8 (And.intro he10 (And.intro ha12 (And.intro he14 (And.intro he15 (And.intro he17 (And.intro ha19 (And.intro he36 (And.intro ha38 (And.intro he39 (And.intro ha42 he43))))))))))))))))) ?_
        refine condC_intro (fun h45 => ?_) (fun h45 => ?_)
        ·rw [if_pos h45] at hM
         refine spQA (And.intro ha1 (And.intro ha2 (And.intro he3 (And.intro he4 (And.intro he5 (And.intro ha6 (And.intro he8 (And.intro he10 (And.intro ha12 (And.intro he14 (And.intro he15 (And.intro he17 (And.intro ha19 (And.intro he36 (And.intro ha38 (And.intro he39 (And.intro ha42 (And.intro he43 h45)))))))))))))))))) ?_
         have nh45 := nzQ h45
         refine bindC_intro (by (first | exact omQ | (clear hM; first | (have hv := hpl p6.1 (by omega) (by omega); have hm := hpm p6.1 (by omega) (by omega); exact omQ') | (have hr := hF5_0 p6.1 (by omega) (by omega); exact omQ') | (have hv := hpl p6.1 (by omega) (by omega); have hm := hpm p6.1 (by omega) (by omega); have hq := hF5_1 p6.1 (by omega) (by omega) (p12.1 - p16.1 * (gt l p6.1).Value) (by omega) (by omega); exact omQ') | (have hr := hF13_0.1; exact omQ') | (have hr := hF9_0.1; exact omQ') | (have hr := hF5_0 (l.length : Int) (by omega) (by omega); exact omQ')))) ?_
         refine spQA (And.intro ha1 (And.intro ha2 (And.intro he3 (And.intro he4 (And.intro he5 (And.intro ha6 (And.intro he8 (And.intro he10 (And.intro ha12 (And.intro he14 (And.intro he15 (And.intro he17 (And.intro ha19 (And.intro he36 (And.intro ha38 (And.intro he39 (And.intro ha42 he43))))))))))))))))) ?_
         have ha46 : addI .i64 p16.1 1 = (p16.1 + 1) := add_ok (by (first | exact omQ | (clear hM; first | (have hv := hpl p6.1 (by omega) (by omega); have hm := hpm p6.1 (by omega) (by omega); exact omQ') | (have hr := hF5_0 p6.1 (by omega) (by omega); exact omQ') | (have hv := hpl p6.1 (by omega) (by omega); have hm := hpm p6.1 (by omega) (by omega); have hq := hF5_1 p6.1 (by omega) (by omega) (p12.1 - p16.1 * (gt l p6.1).Value) (by omega) (by omega); exact omQ') | (have hr := hF13_0.1; exact omQ') | (have hr := hF9_0.1; exact omQ') | (have hr := hF5_0 (l.length : Int) (by omega) (by omega); exact omQ')))) (by (first | exact omQ | (clear hM; first | (have hv := hpl p6.1 (by omega) (by omega); have hm := hpm p6.1 (by omega) (by omega); exact omQ') | (have hr := hF5_0 p6.1 (by omega) (by omega); exact omQ') | (have hv := hpl p6.1 (by omega) (by omega); have hm := hpm p6.1 (by omega) (by omega); have hq := hF5_1 p6.1 (by omega) (by omega) (p12.1 - p16.1 * (gt l p6.1).Value) (by omega) (by omega); exact omQ') | (have hr := hF13_0.1; exact omQ') | (have hr := hF9_0.1; exact omQ') | (have hr := hF5_0 (l.length : Int) (by omega) (by omega); exact omQ'))))
         try simp only [ha46]
         refine lp_intro (n16 - 1) _ (by omega) (by simp only [go_sem, rowV_eq, rowV_eq0, List.length_replicate, rep_len, Int.toNat_natCast, ↓reduceIte, Nat.reduceEqDiff, Nat.reduceAdd, Int.reduceAdd, Nat.reduceMul, Nat.reduceLeDiff, Nat.reduceLT, Int.reduceLE, Int.reduceLT, Int.reduceNeg, Int.reduceToNat, List.isEmpty_nil, map_st, mtL_repE, mtL_repM, subF, subH, mtO, mtB, mt, mtL, mtL_self, mt_self, ltV, ltL, ltB, eq_self, or_true, true_or, or_self, and_self, z_denom_way, rowV_ltE (f := (fun (l : List S_denom_way) => V.sl none 3 true (l.map e_denom_way))) (fun _ => by simp only [go_sem])]) (by simp only [go_sem, rowV_eq, rowV_eq0, List.length_replicate, rep_len, Int.toNat_natCast, ↓reduceIte, Nat.reduceEqDiff, Nat.reduceAdd, Int.reduceAdd, Nat.reduceMul, Nat.reduceLeDiff, Nat.reduceLT, Int.reduceLE, Int.reduceLT, Int.reduceNeg, Int.reduceToNat, List.isEmpty_nil, map_st, mtL_repE, mtL_repM, subF, subH, mtO, mtB, mt, mtL, mtL_self, mt_self, ltV, ltL, ltB, eq_self, or_true, true_or, or_self, and_self, z_denom_way, rowV_ltE (f := (fun (l : List S_denom_way) => V.sl none 3 true (l.map e_denom_way))) (fun _ => by simp only [go_sem])]) ⟨((p16.1 + 1), (st p16.2 p12.1 ({ ok := true, coins := ((gt (gt p6.2 p6.1) (p12.1 - (p16.1 * (gt l p6.1).Value))).coins + p16.1), last := p16.1 } : S_denom_way))), rfl, ⟨⟨by (first | exact omQ | (clear hM; first | (have hv := hpl p6.1 (by omega) (by omega); have hm := hpm p6.1 (by omega) (by omega); exact omQ') | (have hr := hF5_0 p6.1 (by omega) (by omega); exact omQ') | (have hv := hpl p6.1 (by omega) (by omega); have hm := hpm p6.1 (by omega) (by omega); have hq := hF5_1 p6.1 (by omega) (by omega) (p12.1 - (p16.1 + 1) * (gt l p6.1).Value) (by omega) (by omega); exact omQ') | (have hr := hF13_0.1; exact omQ') | (have hr := hF9_0.1; exact omQ') | (have hr := hF5_0 (l.length : Int) (by omega) (by omega); exact omQ'))), by (first | exact omQ | (clear hM; first | (have hv := hpl p6.1 (by omega) (by omega); have hm := hpm p6.1 (by omega) (by omega); exact omQ') | (have hr := hF5_0 p6.1 (by omega) (by omega); exact omQ') | (have hv := hpl p6.1 (by omega) (by omega); have hm := hpm p6.1 (by omega) (by omega); have hq := hF5_1 p6.1 (by omega) (by omega) (p12.1 - (p16.1 + 1) * (gt l p6.1).Value) (by omega) (by omega); exact omQ') | (have hr := hF13_0.1; exact omQ') | (have hr := hF9_0.1; exact omQ') | (have hr := hF5_0 (l.length : Int) (by omega) (by omega); exact omQ'))), by (first | exact omQ | (clear hM; first | (have hv := hpl p6.1 (by omega) (by omega); have hm := hpm p6.1 (by omega) (by omega); exact omQ') | (have hr := hF5_0 p6.1 (by omega) (by omega); exact omQ') | (have hv := hpl p6.1 (by omega) (by omega); have hm := hpm p6.1 (by omega) (by omega); have hq := hF5_1 p6.1 (by omega) (by omega) (p12.1 - (p16.1 + 1) * (gt l p6.1).Value) (by omega) (by omega); exact omQ') | (have hr := hF13_0.1; exact omQ') | (have hr := hF9_0.1; exact omQ') | (have hr := hF5_0 (l.length : Int) (by omega) (by omega); exact omQ')))⟩, by (clear hM; first | exact hF13_0 | (have hm := hpm p6.1 (by omega) (by omega); have hv := hpl p6.1 (by omega) (by omega); have hq := hF5_1 p6.1 (by omega) (by omega) (p12.1 - p16.1 * (gt l p6.1).Value) (by omega) (by omega); exact ⟨by rw [st_len]; exact hF13_0.1, hF13_0.2.set (by omega) (by show (0 : Int) ≤ p16.1; omega) (by show p16.1 ≤ (1000 : Int); omega) (by show p16.1 * (gt l p6.1).Value ≤ p12.1; omega) (by show (0 : Int) ≤ _ + p16.1; omega) (by show _ + p16.1 ≤ 1000 * (p6.1 + 1); omega)⟩))⟩, by (first | exact omQ | (clear hM; first | (have hv := hpl p6.1 (by omega) (by omega); have hm := hpm p6.1 (by omega) (by omega); exact omQ') | (have hr := hF5_0 p6.1 (by omega) (by omega); exact omQ') | (have hv := hpl p6.1 (by omega) (by omega); have hm := hpm p6.1 (by omega) (by omega); have hq := hF5_1 p6.1 (by omega) (by omega) (p12.1 - (p16.1 + 1) * (gt l p6.1).Value) (by omega) (by omega); exact omQ') | (have hr := hF13_0.1; exact omQ') | (have hr := hF9_0.1; exact omQ') | (have hr := hF5_0 (l.length : Int) (by omega) (by omega); exact omQ'))), iter_again hM hag16⟩
        ·rw [if_neg (ne_true h45)] at hM
         refine spQA (And.intro ha1 (And.intro ha2 (And.intro he3 (And.intro he4 (And.intro he5 (And.intro ha6 (And.intro he8 (And.intro he10 (And.intro ha12 (And.intro he14 (And.intro he15 (And.intro he17 (And.intro ha19 (And.intro he36 (And.intro ha38 (And.intro he39 (And.intro ha42 (And.intro he43 h45)))))))))))))))))) ?_
         have nh45 := nzQ h45
         have ha47 : addI .i64 p16.1 1 = (p16.1 + 1) := add_ok (by (first | exact omQ | (clear hM; first | (have hv := hpl p6.1 (by omega) (by omega); have hm := hpm p6.1 (by omega) (by omega); exact omQ') | (have hr := hF5_0 p6.1 (by omega) (by omega); exact omQ') | (have hv := hpl p6.1 (by omega) (by omega); have hm := hpm p6.1 (by omega) (by omega); have hq := hF5_1 p6.1 (by omega) (by omega) (p12.1 - p16.1 * (gt l p6.1).Value) (by omega) (by omega); exact omQ') | (have hr := hF13_0.1; exact omQ') | (have hr := hF9_0.1; exact omQ') | (have hr := hF5_0 (l.length : Int) (by omega) (by omega); exact omQ')))) (by (first | exact omQ | (clear hM; first | (have hv := hpl p6.1 (by omega) (by omega); have hm := hpm p6.1 (by omega) (by omega); exact omQ') | (have hr := hF5_0 p6.1 (by omega) (by omega); exact omQ') | (have hv := hpl p6.1 (by omega) (by omega); have hm := hpm p6.1 (by omega) (by omega); have hq := hF5_1 p6.1 (by omega) (by omega) (p12.1 - p16.1 * (gt l p6.1).Value) (by omega) (by omega); exact omQ') | (have hr := hF13_0.1; exact omQ') | (have hr := hF9_0.1; exact omQ') | (have hr := hF5_0 (l.length : Int) (by omega) (by omega); exact omQ'))))
         try simp only [ha47]
         refine lp_intro (n16 - 1) _ (by omega) (by simp only [go_sem, rowV_eq, rowV_eq0, List.length_replicate, rep_len, Int.toNat_natCast, ↓reduceIte, Nat.reduceEqDiff, Nat.reduceAdd, Int.reduceAdd, Nat.reduceMul, Nat.reduceLeDiff, Nat.reduceLT, Int.reduceLE, Int.reduceLT, Int.reduceNeg, Int.reduceToNat, List.isEmpty_nil, map_st, mtL_repE, mtL_repM, subF, subH, mtO, mtB, mt, mtL, mtL_self, mt_self, ltV, ltL, ltB, eq_self, or_true, true_or, or_self, and_self, z_denom_way, rowV_ltE (f := (fun (l : List S_denom_way) => V.sl none 3 true (l.map e_denom_way))) (fun _ => by simp only [go_sem])]) (by simp only [go_sem, rowV_eq, rowV_eq0, List.length_replicate, rep_len, Int.toNat_natCast, ↓reduceIte, Nat.reduceEqDiff, Nat.reduceAdd, Int.reduceAdd, Nat.reduceMul, Nat.reduceLeDiff, Nat.reduceLT, Int.reduceLE, Int.reduceLT, Int.reduceNeg, Int.reduceToNat, List.isEmpty_nil, map_st, mtL_repE, mtL_repM, subF, subH, mtO, mtB, mt, mtL, mtL_self, mt_self, ltV, ltL, ltB, eq_self, or_true, true_or, or_self, and_self, z_denom_way, rowV_ltE (f := (fun (l : List S_denom_way) => V.sl none 3 true (l.map e_denom_way))) (fun _ => by simp only [go_sem])]) ⟨((p16.1 + 1), p16.2), rfl, ⟨⟨by (first | exact omQ | (clear hM; first | (have hv := hpl p6.1 (by omega) (by omega); have hm := hpm p6.1 (by omega) (by omega); exact omQ') | (have hr := hF5_0 p6.1 (by omega) (by omega); exact omQ') | (have hv := hpl p6.1 (by omega) (by omega); have hm := hpm p6.1 (by omega) (by omega); have hq := hF5_1 p6.1 (by omega) (by omega) (p12.1 - (p16.1 + 1) * (gt l p6.1).Value) (by omega) (by omega); exact omQ') | (have hr := hF13_0.1; exact omQ') | (have hr := hF9_0.1; exact omQ') | (have hr := hF5_0 (l.length : Int) (by omega) (by omega); exact omQ'))), by (first | exact omQ | (clear hM; first | (have hv := hpl p6.1 (by omega) (by omega); have hm := hpm p6.1 (by omega) (by omega); exact omQ') | (have hr := hF5_0 p6.1 (by omega) (by omega); exact omQ') | (have hv := hpl p6.1 (by omega) (by omega); have hm := hpm p6.1 (by omega) (by omega); have hq := hF5_1 p6.1 (by omega) (by omega) (p12.1 - (p16.1 + 1) * (gt l p6.1).Value) (by omega) (by omega); exact omQ') | (have hr := hF13_0.1; exact omQ') | (have hr := hF9_0.1; exact omQ') | (have hr := hF5_0 (l.length : Int) (by omega) (by omega); exact omQ'))), by (first | exact omQ | (clear hM; first | (have hv := hpl p6.1 (by omega) (by omega); have hm := hpm p6.1 (by omega) (by omega); exact omQ') | (have hr := hF5_0 p6.1 (by omega) (by omega); exact omQ') | (have hv := hpl p6.1 (by omega) (by omega); have hm := hpm p6.1 (by omega) (by omega); have hq := hF5_1 p6.1 (by omega) (by omega) (p12.1 - (p16.1 + 1) * (gt l p6.1).Value) (by omega) (by omega); exact omQ') | (have hr := hF13_0.1; exact omQ') | (have hr := hF9_0.1; exact omQ') | (have hr := hF5_0 (l.length : Int) (by omega) (by omega); exact omQ')))⟩, by (clear hM; first | exact hF13_0 | (have hm := hpm p6.1 (by omega) (by omega); have hv := hpl p6.1 (by omega) (by omega); have hq := hF5_1 p6.1 (by omega) (by omega) (p12.1 - p16.1 * (gt l p6.1).Value) (by omega) (by omega); exact ⟨by rw [st_len]; exact hF13_0.1, hF13_0.2.set (by omega) (by show (0 : Int) ≤ p16.1; omega) (by show p16.1 ≤ (1000 : Int); omega) (by show p16.1 * (gt l p6.1).Value ≤ p12.1; omega) (by show (0 : Int) ≤ _ + p16.1; omega) (by show _ + p16.1 ≤ 1000 * (p6.1 + 1); omega)⟩))⟩, by (first | exact omQ | (clear hM; first | (have hv := hpl p6.1 (by omega) (by omega); have hm := hpm p6.1 (by omega) (by omega); exact omQ') | (have hr := hF5_0 p6.1 (by omega) (by omega); exact omQ') | (have hv := hpl p6.1 (by omega) (by omega); have hm := hpm p6.1 (by omega) (by omega); have hq := hF5_1 p6.1 (by omega) (by omega) (p12.1 - (p16.1 + 1) * (gt l p6.1).Value) (by omega) (by omega); exact omQ') | (have hr := hF13_0.1; exact omQ') | (have hr := hF9_0.1; exact omQ') | (have hr := hF5_0 (l.length : Int) (by omega) (by omega); exact omQ'))), iter_again hM hag16⟩
       ·rw [if_pos h44] at hM
        refine spQA (And.intro ha1 (And.intro ha2 (And.intro he3 (And.intro he4 (And.intro he5 (And.intro ha6 (And.intro he8 (And.intro he10 (And.intro ha12 (And.intro he14 (And.intro he15 (And.intro he17 (And.intro ha19 (And.intro he36 (And.intro ha38 (And.intro he39 (And.intro ha42 (And.intro he43 h44)))))))))))))))))) ?_
        have nh44 := nzQ h44
        refine bindC_intro (by (first | exact omQ | (clear hM; first | (have hv := hpl p6.1 (by omega) (by omega); have hm := hpm p6.1 (by omega) (by omega); exact omQ') | (have hr := hF5_0 p6.1 (by omega) (by omega); exact omQ') | (have hv := hpl p6.1 (by omega) (by omega); have hm := hpm p6.1 (by omega) (by omega); have hq := hF5_1 p6.1 (by omega) (by omega) (p12.1 - p16.1 * (gt l p6.1).Value) (by omega) (by omega); exact omQ') | (have hr := hF13_0.1; exact omQ') | (have hr := hF9_0.1; exact omQ') | (have hr := hF5_0 (l.length : Int) (by omega) (by omega); exact omQ')))) ?_
        refine spQA (And.intro ha1 (And.intro ha2 (And.intro he3 (And.intro he4 (And.intro he5 (And.intro ha6 (And.intro he8 (And.intro he10 (And.intro ha12 (And.intro he14 (And.intro he15 (And.intro he17 (And.intro ha19 (And.intro he36 (And.intro ha38 (And.intro he39 (And.intro ha42 he43))))))))))))))))) ?_
        have ha48 : addI .i64 p16.1 1 = (p16.1 + 1) := add_ok (by (first | exact omQ | (clear hM; first | (have hv := hpl p6.1 (by omega) (by omega); have hm := hpm p6.1 (by omega) (by omega); exact omQ') | (have hr := hF5_0 p6.1 (by omega) (by omega); exact omQ') | (have hv := hpl p6.1 (by omega) (by omega); have hm := hpm p6.1 (by omega) (by omega); have hq := hF5_1 p6.1 (by omega) (by omega) (p12.1 - p16.1 * (gt l p6.1).Value) (by omega) (by omega); exact omQ') | (have hr := hF13_0.1; exact omQ') | (have hr := hF9_0.1; exact omQ') | (have hr := hF5_0 (l.length : Int) (by omega) (by omega); exact omQ')))) (by (first | exact omQ | (clear hM; first | (have hv := hpl p6.1 (by omega) (by omega); have hm := hpm p6.1 (by omega) (by omega); exact omQ') | (have hr := hF5_0 p6.1 (by omega) (by omega); exact omQ') | (have hv := hpl p6.1 (by omega) (by omega); have hm := hpm p6.1 (by omega) (by omega); have hq := hF5_1 p6.1 (by omega) (by omega) (p12.1 - p16.1 * (gt l p6.1).Value) (by omega) (by omega); exact omQ') | (have hr := hF13_0.1; exact omQ') | (have hr := hF9_0.1; exact omQ') | (have hr := hF5_0 (l.length : Int) (by omega) (by omega); exact omQ'))))
        try simp only [ha48]
        refine lp_intro (n16 - 1) _ (by omega) (by simp only [go_sem, rowV_eq, rowV_eq0, List.length_replicate, rep_len, Int.toNat_natCast, ↓reduceIte, Nat.reduceEqDiff, Nat.reduceAdd, Int.reduceAdd, Nat.reduceMul, Nat.reduceLeDiff, Nat.reduceLT, Int.reduceLE, Int.reduceLT, Int.reduceNeg, Int.reduceToNat, List.isEmpty_nil, map_st, mtL_repE, mtL_repM, subF, subH, mtO, mtB, mt, mtL, mtL_self, mt_self, ltV, ltL, ltB, eq_self, or_true, true_or, or_self, and_self, z_denom_way, rowV_ltE (f := (fun (l : List S_denom_way) => V.sl none 3 true (l.map e_denom_way))) (fun _ => by simp only [go_sem])]) (by simp only [go_sem, rowV_eq, rowV_eq0, List.length_replicate, rep_len, Int.toNat_natCast, ↓reduceIte, Nat.reduceEqDiff, Nat.reduceAdd, Int.reduceAdd, Nat.reduceMul, Nat.reduceLeDiff, Nat.reduceLT, Int.reduceLE, Int.reduceLT, Int.reduceNeg, Int.reduceToNat, List.isEmpty_nil, map_st, mtL_repE, mtL_repM, subF, subH, mtO, mtB, mt, mtL, mtL_self, mt_self, ltV, ltL, ltB, eq_self, or_true, true_or, or_self, and_self, z_denom_way, rowV_ltE (f := (fun (l : List S_denom_way) => V.sl none 3 true (l.map e_denom_way))) (fun _ => by simp only [go_sem])]) ⟨((p16.1 + 1), (st p16.2 p12.1 ({ ok := true, coins := ((gt (gt p6.2 p6.1) (p12.1 - (p16.1 * (gt l p6.1).Value))).coins + p16.1), last := p16.1 } : S_denom_way))), rfl, ⟨⟨by (first | exact omQ | (clear hM; first | (have hv := hpl p6.1 (by omega) (by omega); have hm := hpm p6.1 (by omega) (by omega); exact omQ') | (have hr := hF5_0 p6.1 (by omega) (by omega); exact omQ') | (have hv := hpl p6.1 (by omega) (by omega); have hm := hpm p6.1 (by omega) (by omega); have hq := hF5_1 p6.1 (by omega) (by omega) (p12.1 - (p16.1 + 1) * (gt l p6.1).Value) (by omega) (by omega); exact omQ') | (have hr := hF13_0.1; exact omQ') | (have hr := hF9_0.1; exact omQ') | (have hr := hF5_0 (l.length : Int) (by omega) (by omega); exact omQ'))), by (first | exact omQ | (clear hM; first | (have hv := hpl p6.1 (by omega) (by omega); have hm := hpm p6.1 (by omega) (by omega); exact omQ') | (have hr := hF5_0 p6.1 (by omega) (by omega); exact omQ') | (have hv := hpl p6.1 (by omega) (by omega); have hm := hpm p6.1 (by omega) (by omega); have hq := hF5_1 p6.1 (by omega) (by omega) (p12.1 - (p16.1 + 1) * (gt l p6.1).Value) (by omega) (by omega); exact omQ') | (have hr := hF13_0.1; exact omQ') | (have hr := hF9_0.1; exact omQ') | (have hr := hF5_0 (l.length : Int) (by omega) (by omega); exact omQ'))), by (first | exact omQ | (clear hM; first | (have hv := hpl p6.1 (by omega) (by omega); have hm := hpm p6.1 (by omega) (by omega); exact omQ') | (have hr := hF5_0 p6.1 (by omega) (by omega); exact omQ') | (have hv := hpl p6.1 (by omega) (by omega); have hm := hpm p6.1 (by omega) (by omega); have hq := hF5_1 p6.1 (by omega) (by omega) (p12.1 - (p16.1 + 1) * (gt l p6.1).Value) (by omega) (by omega); exact omQ') | (have hr := hF13_0.1; exact omQ') | (have hr := hF9_0.1; exact omQ') | (have hr := hF5_0 (l.length : Int) (by omega) (by omega); exact omQ')))⟩, by (clear hM; first | exact hF13_0 | (have hm := hpm p6.1 (by omega) (by omega); have hv := hpl p6.1 (by omega) (by omega); have hq := hF5_1 p6.1 (by omega) (by omega) (p12.1 - p16.1 * (gt l p6.1).Value) (by omega) (by omega); exact ⟨by rw [st_len]; exact hF13_0.1, hF13_0.2.set (by omega) (by show (0 : Int) ≤ p16.1; omega) (by show p16.1 ≤ (1000 : Int); omega) (by show p16.1 * (gt l p6.1).Value ≤ p12.1; omega) (by show (0 : Int) ≤ _ + p16.1; omega) (by show _ + p16.1 ≤ 1000 * (p6.1 + 1); omega)⟩))⟩, by (first | exact omQ | (clear hM; first | (have hv := hpl p6.1 (by omega) (by omega); have hm := hpm p6.1 (by omega) (by omega); exact omQ') | (have hr := hF5_0 p6.1 (by omega) (by omega); exact omQ') | (have hv := hpl p6.1 (by omega) (by omega); have hm := hpm p6.1 (by omega) (by omega); have hq := hF5_1 p6.1 (by omega) (by omega) (p12.1 - (p16.1 + 1) * (gt l p6.1).Value) (by omega) (by omega); exact omQ') | (have hr := hF13_0.1; exact omQ') | (have hr := hF9_0.1; exact omQ') | (have hr := hF5_0 (l.length : Int) (by omega) (by omega); exact omQ'))), iter_again hM hag16⟩
    ·rw [if_neg (ne_true h20)] at hM
     refine spQA (And.intro ha1 (And.intro ha2 (And.intro he3 (And.intro he4 (And.intro he5 (And.intro ha6 (And.intro he8 (And.intro he10 (And.intro ha12 (And.intro he14 (And.intro he15 (And.intro he17 (And.intro ha19 h20))))))))))))) ?_
     have nh20 := nzQ h20
     refine lp_intro (n12 - 1) _ (by omega) (by simp only [go_sem, rowV_eq, rowV_eq0, List.length_replicate, rep_len, Int.toNat_natCast, ↓reduceIte, Nat.reduceEqDiff, Nat.reduceAdd, Int.reduceAdd, Nat.reduceMul, Nat.reduceLeDiff, Nat.reduceLT, Int.reduceLE, Int.reduceLT, Int.reduceNeg, Int.reduceToNat, List.isEmpty_nil, map_st, mtL_repE, mtL_repM, subF, subH, mtO, mtB, mt, mtL, mtL_self, mt_self, ltV, ltL, ltB, eq_self, or_true, true_or, or_self, and_self, z_denom_way, rowV_ltE (f := (fun (l : List S_denom_way) => V.sl none 3 true (l.map e_denom_way))) (fun _ => by simp only [go_sem])]) (by simp only [go_sem, rowV_eq, rowV_eq0, List.length_replicate, rep_len, Int.toNat_natCast, ↓reduceIte, Nat.reduceEqDiff, Nat.reduceAdd, Int.reduceAdd, Nat.reduceMul, Nat.reduceLeDiff, Nat.reduceLT, Int.reduceLE, Int.reduceLT, Int.reduceNeg, Int.reduceToNat, List.isEmpty_nil, map_st, mtL_repE, mtL_repM, subF, subH, mtO, mtB, mt, mtL, mtL_self, mt_self, ltV, ltL, ltB, eq_self, or_true, true_or, or_self, and_self, z_denom_way, rowV_ltE (f := (fun (l : List S_denom_way) => V.sl none 3 true (l.map e_denom_way))) (fun _ => by simp only [go_sem])]) ⟨((p12.1 + 1), p16.2), rfl, ⟨⟨by (first | exact omQ | (clear hM; first | (have hv := hpl p6.1 (by omega) (by omega); have hm := hpm p6.1 (by omega) (by omega); exact omQ') | (have hr := hF5_0 p6.1 (by omega) (by omega); exact omQ') | (have hv := hpl p6.1 (by omega) (by omega); have hm := hpm p6.1 (by omega) (by omega); have hq := hF5_1 p6.1 (by omega) (by omega) (p12.1 - p16.1 * (gt l p6.1).Value) (by omega) (by omega); exact omQ') | (have hr := hF13_0.1; exact omQ') | (have hr := hF9_0.1; exact omQ') | (have hr := hF5_0 (l.length : Int) (by omega) (by omega); exact omQ'))), by (first | exact omQ | (clear hM; first | (have hv := hpl p6.1 (by omega) (by omega); have hm := hpm p6.1 (by omega) (by omega); exact omQ') | (have hr := hF5_0 p6.1 (by omega) (by omega); exact omQ') | (have hv := hpl p6.1 (by omega) (by omega); have hm := hpm p6.1 (by omega) (by omega); have hq := hF5_1 p6.1 (by omega) (by omega) (p12.1 - p16.1 * (gt l p6.1).Value) (by omega) (by omega); exact omQ') | (have hr := hF13_0.1; exact omQ') | (have hr := hF9_0.1; exact omQ') | (have hr := hF5_0 (l.length : Int) (by omega) (by omega); exact omQ'))), by (first | exact omQ | (clear hM; first | (have hv := hpl p6.1 (by omega) (by omega); have hm := hpm p6.1 (by omega) (by omega); exact omQ') | (have hr := hF5_0 p6.1 (by omega) (by omega); exact omQ') | (have hv := hpl p6.1 (by omega) (by omega); have hm := hpm p6.1 (by omega) (by omega); have hq := hF5_1 p6.1 (by omega) (by omega) (p12.1 - p16.1 * (gt l p6.1).Value) (by omega) (by omega); exact omQ') | (have hr := hF13_0.1; exact omQ') | (have hr := hF9_0.1; exact omQ') | (have hr := hF5_0 (l.length : Int) (by omega) (by omega); exact omQ')))⟩, by (clear hM; exact hF13_0)⟩, by (first | exact omQ | (clear hM; first | (have hv := hpl p6.1 (by omega) (by omega); have hm := hpm p6.1 (by omega) (by omega); exact omQ') | (have hr := hF5_0 p6.1 (by omega) (by omega); exact omQ') | (have hv := hpl p6.1 (by omega) (by omega); have hm := hpm p6.1 (by omega) (by omega); have hq := hF5_1 p6.1 (by omega) (by omega) (p12.1 - p16.1 * (gt l p6.1).Value) (by omega) (by omega); exact omQ') | (have hr := hF13_0.1; exact omQ') | (have hr := hF9_0.1; exact omQ') | (have hr := hF5_0 (l.length : Int) (by omega) (by omega); exact omQ'))), iter_again hM hag12⟩
   ·rw [if_neg (ne_true h18)] at hM
    refine spQA (And.intro ha1 (And.intro ha2 (And.intro he3 (And.intro he4 (And.intro he5 (And.intro ha6 (And.intro he8 (And.intro he10 (And.intro ha12 (And.intro he14 (And.intro he15 (And.intro he17 h18)))))))))))) ?_
    have nh18 := nzQ h18
    refine lp_intro (n12 - 1) _ (by omega) (by simp only [go_sem, rowV_eq, rowV_eq0, List.length_replicate, rep_len, Int.toNat_natCast, ↓reduceIte, Nat.reduceEqDiff, Nat.reduceAdd, Int.reduceAdd, Nat.reduceMul, Nat.reduceLeDiff, Nat.reduceLT, Int.reduceLE, Int.reduceLT, Int.reduceNeg, Int.reduceToNat, List.isEmpty_nil, map_st, mtL_repE, mtL_repM, subF, subH, mtO, mtB, mt, mtL, mtL_self, mt_self, ltV, ltL, ltB, eq_self, or_true, true_or, or_self, and_self, z_denom_way, rowV_ltE (f := (fun (l : List S_denom_way) => V.sl none 3 true (l.map e_denom_way))) (fun _ => by simp only [go_sem])]) (by simp only [go_sem, rowV_eq, rowV_eq0, List.length_replicate, rep_len, Int.toNat_natCast, ↓reduceIte, Nat.reduceEqDiff, Nat.reduceAdd, Int.reduceAdd, Nat.reduceMul, Nat.reduceLeDiff, Nat.reduceLT, Int.reduceLE, Int.reduceLT, Int.reduceNeg, Int.reduceToNat, List.isEmpty_nil, map_st, mtL_repE, mtL_repM, subF, subH, mtO, mtB, mt, mtL, mtL_self, mt_self, ltV, ltL, ltB, eq_self, or_true, true_or, or_self, and_self, z_denom_way, rowV_ltE (f := (fun (l : List S_denom_way) => V.sl none 3 true (l.map e_denom_way))) (fun _ => by simp only [go_sem])]) ⟨((p12.1 + 1), p16.2), rfl, ⟨⟨by (first | exact omQ | (clear hM; first | (have hv := hpl p6.1 (by omega) (by omega); have hm := hpm p6.1 (by omega) (by omega); exact omQ') | (have hr := hF5_0 p6.1 (by omega) (by omega); exact omQ') | (have hv := hpl p6.1 (by omega) (by omega); have hm := hpm p6.1 (by omega) (by omega); have hq := hF5_1 p6.1 (by omega) (by omega) (p12.1 - p16.1 * (gt l p6.1).Value) (by omega) (by omega); exact omQ') | (have hr := hF13_0.1; exact omQ') | (have hr := hF9_0.1; exact omQ') | (have hr := hF5_0 (l.length : Int) (by omega) (by omega); exact omQ'))), by (first | exact omQ | (clear hM; first | (have hv := hpl p6.1 (by omega) (by omega); have hm := hpm p6.1 (by omega) (by omega); exact omQ') | (have hr := hF5_0 p6.1 (by omega) (by omega); exact omQ') | (have hv := hpl p6.1 (by omega) (by omega); have hm := hpm p6.1 (by omega) (by omega); have hq := hF5_1 p6.1 (by omega) (by omega) (p12.1 - p16.1 * (gt l p6.1).Value) (by omega) (by omega); exact omQ') | (have hr := hF13_0.1; exact omQ') | (have hr := hF9_0.1; exact omQ') | (have hr := hF5_0 (l.length : Int) (by omega) (by omega); exact omQ'))), by (first | exact omQ | (clear hM; first | (have hv := hpl p6.1 (by omega) (by omega); have hm := hpm p6.1 (by omega) (by omega); exact omQ') | (have hr := hF5_0 p6.1 (by omega) (by omega); exact omQ') | (have hv := hpl p6.1 (by omega) (by omega); have hm := hpm p6.1 (by omega) (by omega); have hq := hF5_1 p6.1 (by omega) (by omega) (p12.1 - p16.1 * (gt l p6.1).Value) (by omega) (by omega); exact omQ') | (have hr := hF13_0.1; exact omQ') | (have hr := hF9_0.1; exact omQ') | (have hr := hF5_0 (l.length : Int) (by omega) (by omega); exact omQ')))⟩, by (clear hM; exact hF13_0)⟩, by (first | exact omQ | (clear hM; first | (have hv := hpl p6.1 (by omega) (by omega); have hm := hpm p6.1 (by omega) (by omega); exact omQ') | (have hr := hF5_0 p6.1 (by omega) (by omega); exact omQ') | (have hv := hpl p6.1 (by omega) (by omega); have hm := hpm p6.1 (by omega) (by omega); have hq := hF5_1 p6.1 (by omega) (by omega) (p12.1 - p16.1 * (gt l p6.1).Value) (by omega) (by omega); exact omQ') | (have hr := hF13_0.1; exact omQ') | (have hr := hF9_0.1; exact omQ') | (have hr := hF5_0 (l.length : Int) (by omega) (by omega); exact omQ'))), iter_again hM hag12⟩
  ·rw [if_neg (ne_true h13)] at hM
   refine spQA (And.intro ha1 (And.intro ha2 (And.intro he3 (And.intro he4 (And.intro he5 (And.intro ha6 (And.intro he8 (And.intro he10 (And.intro ha12 h13))))))))) ?_
   have nh13 := nzQ h13
   refine lp_introW (n6 - 1) _ _ (by omega) (weak_rows (T' := 50) (n' := 1) (g' := false) (z' := none) (T := 52) (n := 3) (g := true) (z := none) (l := p12.2.map e_denom_way) 0 3 (fun (l : List S_denom_way) => V.sl none 3 true (l.map e_denom_way)) p6.2 (p6.1 + 1) p12.2 stQ stQ (by decide) (fun _ => by simp only [go_sem, rowV_eq, rowV_eq0, List.length_replicate, rep_len, Int.toNat_natCast, ↓reduceIte, Nat.reduceEqDiff, Nat.reduceAdd, Int.reduceAdd, Nat.reduceMul, Nat.reduceLeDiff, Nat.reduceLT, Int.reduceLE, Int.reduceLT, Int.reduceNeg, Int.reduceToNat]) (by simp only [go_sem, rowV_eq, rowV_eq0, List.length_replicate, rep_len, Int.toNat_natCast, ↓reduceIte, Nat.reduceEqDiff, Nat.reduceAdd, Int.reduceAdd, Nat.reduceMul, Nat.reduceLeDiff, Nat.reduceLT, Int.reduceLE, Int.reduceLT, Int.reduceNeg, Int.reduceToNat, List.isEmpty_nil, map_st, mtL_repE, mtL_repM, subF, subH, mtO, mtB, mt, mtL, mtL_self, mt_self, ltV, ltL, ltB, eq_self, or_true, true_or, or_self, and_self, z_denom_way, rowV_ltE (f := (fun (l : List S_denom_way) => V.sl none 3 true (l.map e_denom_way))) (fun _ => by simp only [go_sem])])) (by simp only [go_sem, rowV_eq, rowV_eq0, List.length_replicate, rep_len, Int.toNat_natCast, ↓reduceIte, Nat.reduceEqDiff, Nat.reduceAdd, Int.reduceAdd, Nat.reduceMul, Nat.reduceLeDiff, Nat.reduceLT, Int.reduceLE, Int.reduceLT, Int.reduceNeg, Int.reduceToNat, List.isEmpty_nil, map_st, mtL_repE, mtL_repM, subF, subH, mtO, mtB, mt, mtL, mtL_self, mt_self, ltV, ltL, ltB, eq_self, or_true, true_or, or_self, and_self, z_denom_way, rowV_ltE (f := (fun (l : List S_denom_way) => V.sl none 3 true (l.map e_denom_way))) (fun _ => by simp only [go_sem])]) (by simp only [go_sem, rowV_eq, rowV_eq0, List.length_replicate, rep_len, Int.toNat_natCast, ↓reduceIte, Nat.reduceEqDiff, Nat.reduceAdd, Int.reduceAdd, Nat.reduceMul, Nat.reduceLeDiff, Nat.reduceLT, Int.reduceLE, Int.reduceLT, Int.reduceNeg, Int.reduceToNat, List.isEmpty_nil, map_st, mtL_repE, mtL_repM, subF, subH, mtO, mtB, mt, mtL, mtL_self, mt_self, ltV, ltL, ltB, eq_self, or_true, true_or, or_self, and_self, z_denom_way, rowV_ltE (f := (fun (l : List S_denom_way) => V.sl none 3 true (l.map e_denom_way))) (fun _ => by simp only [go_sem])]) ⟨((p6.1 + 1), (st p6.2 (p6.1 + 1) p12.2)), rfl, ⟨⟨by (first | exact omQ | (clear hM; first | (have hv := hpl p6.1 (by omega) (by omega); have hm := hpm p6.1 (by omega) (by omega); exact omQ') | (have hr := hF5_0 p6.1 (by omega) (by omega); exact omQ') | (have hr := hF13_0.1; exact omQ') | (have hr := hF9_0.1; exact omQ') | (have hr := hF5_0 (l.length : Int) (by omega) (by omega); exact omQ'))), by (first | exact omQ | (clear hM; first | (have hv := hpl p6.1 (by omega) (by omega); have hm := hpm p6.1 (by omega) (by omega); exact omQ') | (have hr := hF5_0 p6.1 (by omega) (by omega); exact omQ') | (have hr := hF13_0.1; exact omQ') | (have hr := hF9_0.1; exact omQ') | (have hr := hF5_0 (l.length : Int) (by omega) (by omega); exact omQ'))), by (first | exact omQ | (clear hM; first | (have hv := hpl p6.1 (by omega) (by omega); have hm := hpm p6.1 (by omega) (by omega); exact omQ') | (have hr := hF5_0 p6.1 (by omega) (by omega); exact omQ') | (have hr := hF13_0.1; exact omQ') | (have hr := hF9_0.1; exact omQ') | (have hr := hF5_0 (l.length : Int) (by omega) (by omega); exact omQ')))⟩, by (clear hM; intro j h0 h1; rw [gt_st]; split <;> first | exact hF9_0.1 | exact hF5_0 j h0 (by omega)), by (clear hM; intro j h0 h1; rw [gt_st]; split <;> first | exact hF5_1 j h0 (by omega) | (have e : j = p6.1 + 1 := (by omega); rw [e, show p6.1 + 1 - 1 = p6.1 by omega]; exact hF9_0.2))⟩, by (first | exact omQ | (clear hM; first | (have hv := hpl p6.1 (by omega) (by omega); have hm := hpm p6.1 (by omega) (by omega); exact omQ') | (have hr := hF5_0 p6.1 (by omega) (by omega); exact omQ') | (have hr := hF13_0.1; exact omQ') | (have hr := hF9_0.1; exact omQ') | (have hr := hF5_0 (l.length : Int) (by omega) (by omega); exact omQ'))), iter_again hM hag6⟩
 ·rw [if_neg (ne_true h7)] at hM
  refine spQA (And.intro ha1 (And.intro ha2 (And.intro he3 (And.intro he4 (And.intro he5 (And.intro ha6 h7)))))) ?_
  have nh7 := nzQ h7
  refine bindC_intro (by (first | exact omQ | (clear hM; first | (have hr := hF13_0.1; exact omQ') | (have hr := hF9_0.1; exact omQ') | (have hr := hF5_0 (l.length : Int) (by omega) (by omega); exact omQ')))) ?_
  have he49 : ∀ d, elt (p6.2.map (fun (l : List S_denom_way) => V.sl none 3 true (l.map e_denom_way))) l.length d = (fun (l : List S_denom_way) => V.sl none 3 true (l.map e_denom_way)) (gt p6.2 (l.length : Int)) := fun d => elt_mp (l := p6.2) (f := (fun (l : List S_denom_way) => V.sl none 3 true (l.map e_denom_way))) (i := (l.length : Int)) (by (first | exact omQ | (clear hM; first | (have hr := hF13_0.1; exact omQ') | (have hr := hF9_0.1; exact omQ') | (have hr := hF5_0 (l.length : Int) (by omega) (by omega); exact omQ')))) d
  refine spQA (And.intro ha1 (And.intro ha2 (And.intro he3 (And.intro he4 (And.intro he5 (And.intro ha6 he49)))))) ?_
  refine bindC_intro (by (first | exact omQ | (clear hM; first | (have hr := hF13_0.1; exact omQ') | (have hr := hF9_0.1; exact omQ') | (have hr := hF5_0 (l.length : Int) (by omega) (by omega); exact omQ')))) ?_
  refine spQA (And.intro ha1 (And.intro ha2 (And.intro he3 (And.intro he4 (And.intro he5 (And.intro ha6 he49)))))) ?_
  refine bindC_intro (by (first | exact omQ | (clear hM; first | (have hr := hF13_0.1; exact omQ') | (have hr := hF9_0.1; exact omQ') | (have hr := hF5_0 (l.length : Int) (by omega) (by omega); exact omQ')))) ?_
  have he50 := fun d => elt_mp (l := (gt p6.2 (l.length : Int))) (f := e_denom_way) (i := amount) (by (first | exact omQ | (clear hM; first | (have hr := hF13_0.1; exact omQ') | (have hr := hF9_0.1; exact omQ') | (have hr := hF5_0 (l.length : Int) (by omega) (by omega); exact omQ')))) d
  refine spQA (And.intro ha1 (And.intro ha2 (And.intro he3 (And.intro he4 (And.intro he5 (And.intro ha6 (And.intro he49 he50))))))) ?_
  refine condC_intro (fun h51 => ?_) (fun h51 => ?_)
  ·rw [if_pos h51] at hM
   refine spQA (And.intro ha1 (And.intro ha2 (And.intro he3 (And.intro he4 (And.intro he5 (And.intro ha6 (And.intro he49 (And.intro he50 h51)))))))) ?_
   have nh51 := nzQ h51
   subst hM
   exact retC_view (lfQA (And.intro ha1 (And.intro ha2 (And.intro he3 (And.intro he4 (And.intro he5 (And.intro ha6 (And.intro he49 (And.intro he50 (And.intro h7 h51))))))))))
  ·rw [if_neg (ne_true h51)] at hM
   refine spQA (And.intro ha1 (And.intro ha2 (And.intro he3 (And.intro he4 (And.intro he5 (And.intro ha6 (And.intro he49 (And.intro he50 h51)))))))) ?_
   have nh51 := nzQ h51
   refine bindC_intro (by (first | exact omQ | (clear hM; first | (have hr := hF13_0.1; exact omQ') | (have hr := hF9_0.1; exact omQ') | (have hr := hF5_0 (l.length : Int) (by omega) (by omega); exact omQ')))) ?_
   refine spQA (And.intro ha1 (And.intro ha2 (And.intro he3 (And.intro he4 (And.intro he5 (And.intro ha6 (And.intro he49 he50))))))) ?_
   have ha52 : subI .i64 (l.length : Int) 1 = ((l.length : Int) - 1) := sub_ok (by (first | exact omQ | (clear hM; first | (have hr := hF13_0.1; exact omQ') | (have hr := hF9_0.1; exact omQ') | (have hr := hF5_0 (l.length : Int) (by omega) (by omega); exact omQ')))) (by (first | exact omQ | (clear hM; first | (have hr := hF13_0.1; exact omQ') | (have hr := hF9_0.1; exact omQ') | (have hr := hF5_0 (l.length : Int) (by omega) (by omega); exact omQ'))))
   try simp only [ha52]
   have hM0 := hM; clear hM; obtain ⟨f53, d53, hf53, hd53, hM⟩ := iter_opn hM0; clear hM0
   refine ct_loop (fun n S => ∃ p : Int × Int × List Int, S = (⟨[(0, .sl none 2 true (l.map e_api_Denom)), (2, .int .i64 p.1), (8, .own 0), (16, .own 2), (17, .int .i64 p.2.1)], [(0, .own 50 1 false none (p6.2.map (fun (l : List S_denom_way) => V.sl none 3 true (l.map e_denom_way)))), (2, .own 3 1 false none (p.2.2.map (V.int .i64)))], 3⟩ : St) ∧ (((-1 ≤ p.2.1) ∧ (p.2.1 ≤ (l.length : Int) - 1) ∧ ((p.2.2).length = ((rep (l.length) (0 : Int))).length)) ∧ (0 ≤ p.1 ∧ p.1 ≤ amount)) ∧ (p.2.1 + 1).toNat < n ∧ iter n f53 d53 p = r) ((((l.length : Int) - 1) + 1).toNat + 1) _ (by simp only [go_sem, rowV_eq, rowV_eq0, List.length_replicate, rep_len, Int.toNat_natCast, ↓reduceIte, Nat.reduceEqDiff, Nat.reduceAdd, Int.reduceAdd, Nat.reduceMul, Nat.reduceLeDiff, Nat.reduceLT, Int.reduceLE, Int.reduceLT, Int.reduceNeg, Int.reduceToNat, List.isEmpty_nil, map_st, mtL_repE, mtL_repM, subF, subH, mtO, mtB, mt, mtL, mtL_self, mt_self, ltV, ltL, ltB, eq_self, or_true, true_or, or_self, and_self, z_denom_way, rowV_ltE (f := (fun (l : List S_denom_way) => V.sl none 3 true (l.map e_denom_way))) (fun _ => by simp only [go_sem])]) (by simp only [go_sem, rowV_eq, rowV_eq0, List.length_replicate, rep_len, Int.toNat_natCast, ↓reduceIte, Nat.reduceEqDiff, Nat.reduceAdd, Int.reduceAdd, Nat.reduceMul, Nat.reduceLeDiff, Nat.reduceLT, Int.reduceLE, Int.reduceLT, Int.reduceNeg, Int.reduceToNat, List.isEmpty_nil, map_st, mtL_repE, mtL_repM, subF, subH, mtO, mtB, mt, mtL, mtL_self, mt_self, ltV, ltL, ltB, eq_self, or_true, true_or, or_self, and_self, z_denom_way, rowV_ltE (f := (fun (l : List S_denom_way) => V.sl none 3 true (l.map e_denom_way))) (fun _ => by simp only [go_sem])]) ⟨(amount, ((l.length : Int) - 1), (rep (l.length) (0 : Int))), rfl, ⟨⟨by (first | exact omQ | (clear hM; first | (have hr := hF13_0.1; exact omQ') | (have hr := hF9_0.1; exact omQ') | (have hr := hF5_0 (((l.length : Int) - 1) + 1) (by omega) (by omega); exact omQ') | (have hr := hF5_0 (l.length : Int) (by omega) (by omega); exact omQ'))), by (first | exact omQ | (clear hM; first | (have hr := hF13_0.1; exact omQ') | (have hr := hF9_0.1; exact omQ') | (have hr := hF5_0 (((l.length : Int) - 1) + 1) (by omega) (by omega); exact omQ') | (have hr := hF5_0 (l.length : Int) (by omega) (by omega); exact omQ'))), by (first | exact omQ | (clear hM; first | (have hr := hF13_0.1; exact omQ') | (have hr := hF9_0.1; exact omQ') | (have hr := hF5_0 (((l.length : Int) - 1) + 1) (by omega) (by omega); exact omQ') | (have hr := hF5_0 (l.length : Int) (by omega) (by omega); exact omQ')))⟩, by (clear hM; exact ⟨hp0, Int.le_refl _⟩)⟩, (Nat.lt_succ_self _), hM⟩ ?_
   clear hM
   rintro n53 S ⟨p53, rfl, ⟨hfa53, hF26_0⟩, hm53, hM⟩
   have hM0 := hM; clear hM; obtain ⟨ag53, hag53, hM⟩ := iter_step hM0 (by omega) hf53; clear hM0
   replace hfa53 := nzQ hfa53
   replace hm53 := nzQ hm53
   refine spQA (And.intro ha1 (And.intro ha2 (And.intro he3 (And.intro he4 (And.intro he5 (And.intro ha6 (And.intro he49 (And.intro he50 ha52)))))))) ?_
   refine condC_intro (fun h54 => ?_) (fun h54 => ?_)
   ·rw [if_pos h54] at hM
    refine spQA (And.intro ha1 (And.intro ha2 (And.intro he3 (And.intro he4 (And.intro he5 (And.intro ha6 (And.intro he49 (And.intro he50 (And.intro ha52 h54))))))))) ?_
    have nh54 := nzQ h54
    refine seqC_pass ?_
    try refine spQA (And.intro ha1 (And.intro ha2 (And.intro he3 (And.intro he4 (And.intro he5 (And.intro ha6 (And.intro he49 (And.intro he50 ha52)))))))) ?_
    have ha55 : addI .i64 p53.2.1 1 = (p53.2.1 + 1) := add_ok (by (first | exact omQ | (clear hM; first | (have hr := hF13_0.1; exact omQ') | (have hr := hF9_0.1; exact omQ') | (have hr := hF5_0 (p53.2.1 + 1) (by omega) (by omega); exact omQ') | (have hr := hF5_0 (l.length : Int) (by omega) (by omega); exact omQ')))) (by (first | exact omQ | (clear hM; first | (have hr := hF13_0.1; exact omQ') | (have hr := hF9_0.1; exact omQ') | (have hr := hF5_0 (p53.2.1 + 1) (by omega) (by omega); exact omQ') | (have hr := hF5_0 (l.length : Int) (by omega) (by omega); exact omQ'))))
    try simp only [ha55]
    refine bindC_intro (by (first | exact omQ | (clear hM; first | (have hr := hF13_0.1; exact omQ') | (have hr := hF9_0.1; exact omQ') | (have hr := hF5_0 (p53.2.1 + 1) (by omega) (by omega); exact omQ') | (have hr := hF5_0 (l.length : Int) (by omega) (by omega); exact omQ')))) ?_
    have he56 := fun d => elt_mp (l := p6.2) (f := (fun (l : List S_denom_way) => V.sl none 3 true (l.map e_denom_way))) (i := (p53.2.1 + 1)) (by (first | exact omQ | (clear hM; first | (have hr := hF13_0.1; exact omQ') | (have hr := hF9_0.1; exact omQ') | (have hr := hF5_0 (p53.2.1 + 1) (by omega) (by omega); exact omQ') | (have hr := hF5_0 (l.length : Int) (by omega) (by omega); exact omQ')))) d
    refine spQA (And.intro ha1 (And.intro ha2 (And.intro he3 (And.intro he4 (And.intro he5 (And.intro ha6 (And.intro he49 (And.intro he50 (And.intro ha52 (And.intro ha55 he56)))))))))) ?_
    refine bindC_intro (by (first | exact omQ | (clear hM; first | (have hr := hF13_0.1; exact omQ') | (have hr := hF9_0.1; exact omQ') | (have hr := hF5_0 (p53.2.1 + 1) (by omega) (by omega); exact omQ') | (have hr := hF5_0 (l.length : Int) (by omega) (by omega); exact omQ')))) ?_
    refine spQA (And.intro ha1 (And.intro ha2 (And.intro he3 (And.intro he4 (And.intro he5 (And.intro ha6 (And.intro he49 (And.intro he50 (And.intro ha52 (And.intro ha55 he56)))))))))) ?_
    refine bindC_intro (by (first | exact omQ | (clear hM; first | (have hr := hF13_0.1; exact omQ') | (have hr := hF9_0.1; exact omQ') | (have hr := hF5_0 (p53.2.1 + 1) (by omega) (by omega); exact omQ') | (have hr := hF5_0 (l.length : Int) (by omega) (by omega); exact omQ')))) ?_
    have he57 := fun d => elt_mp (l := (gt p6.2 (p53.2.1 + 1))) (f := e_denom_way) (i := p53.1) (by (first | exact omQ | (clear hM; first | (have hr := hF13_0.1; exact omQ') | (have hr := hF9_0.1; exact omQ') | (have hr := hF5_0 (p53.2.1 + 1) (by omega) (by omega); exact omQ') | (have hr := hF5_0 (l.length : Int) (by omega) (by omega); exact omQ')))) d
    refine spQA (And.intro ha1 (And.intro ha2 (And.intro he3 (And.intro he4 (And.intro he5 (And.intro ha6 (And.intro he49 (And.intro he50 (And.intro ha52 (And.intro ha55 (And.intro he56 he57))))))))))) ?_
    refine bindC_intro (by (first | exact omQ | (clear hM; first | (have hr := hF13_0.1; exact omQ') | (have hr := hF9_0.1; exact omQ') | (have hr := hF5_0 (p53.2.1 + 1) (by omega) (by omega); exact omQ') | (have hr := hF5_0 (l.length : Int) (by omega) (by omega); exact omQ')))) ?_
    have he58 := fun d => elt_mp (l := p53.2.2) (f := (V.int .i64)) (i := p53.2.1) (by (first | exact omQ | (clear hM; first | (have hr := hF13_0.1; exact omQ') | (have hr := hF9_0.1; exact omQ') | (have hr := hF5_0 (p53.2.1 + 1) (by omega) (by omega); exact omQ') | (have hr := hF5_0 (l.length : Int) (by omega) (by omega); exact omQ')))) d
    refine spQA (And.intro ha1 (And.intro ha2 (And.intro he3 (And.intro he4 (And.intro he5 (And.intro ha6 (And.intro he49 (And.intro he50 (And.intro ha52 (And.intro ha55 (And.intro he56 (And.intro he57 he58)))))))))))) ?_
    refine bindC_intro (by (first | exact omQ | (clear hM; first | (have hr := hF13_0.1; exact omQ') | (have hr := hF9_0.1; exact omQ') | (have hr := hF5_0 (p53.2.1 + 1) (by omega) (by omega); exact omQ') | (have hr := hF5_0 (l.length : Int) (by omega) (by omega); exact omQ')))) ?_
    refine spQA (And.intro ha1 (And.intro ha2 (And.intro he3 (And.intro he4 (And.intro he5 (And.intro ha6 (And.intro he49 (And.intro he50 (And.intro ha52 (And.intro ha55 (And.intro he56 (And.intro he57 he58)))))))))))) ?_
    refine cut_weak (⟨[(0, .sl none 2 true (l.map e_api_Denom)), (2, .int .i64 p53.1), (8, .own 0), (16, .own 2), (17, .int .i64 p53.2.1)], [(0, .own 50 1 false none (p6.2.map (fun (l : List S_denom_way) => V.sl none 3 true (l.map e_denom_way)))), (2, .own 3 1 false none ((st p53.2.2 p53.2.1 (gt (gt p6.2 (p53.2.1 + 1)) p53.1).last).map (V.int .i64)))], 3⟩ : St) (by simp only [go_sem, rowV_eq, rowV_eq0, List.length_replicate, rep_len, Int.toNat_natCast, ↓reduceIte, Nat.reduceEqDiff, Nat.reduceAdd, Int.reduceAdd, Nat.reduceMul, Nat.reduceLeDiff, Nat.reduceLT, Int.reduceLE, Int.reduceLT, Int.reduceNeg, Int.reduceToNat, List.isEmpty_nil, map_st, mtL_repE, mtL_repM, subF, subH, mtO, mtB, mt, mtL, mtL_self, mt_self, ltV, ltL, ltB, eq_self, or_true, true_or, or_self, and_self, z_denom_way, rowV_ltE (f := (fun (l : List S_denom_way) => V.sl none 3 true (l.map e_denom_way))) (fun _ => by simp only [go_sem])]) (by simp only [go_sem, rowV_eq, rowV_eq0, List.length_replicate, rep_len, Int.toNat_natCast, ↓reduceIte, Nat.reduceEqDiff, Nat.reduceAdd, Int.reduceAdd, Nat.reduceMul, Nat.reduceLeDiff, Nat.reduceLT, Int.reduceLE, Int.reduceLT, Int.reduceNeg, Int.reduceToNat, List.isEmpty_nil, map_st, mtL_repE, mtL_repM, subF, subH, mtO, mtB, mt, mtL, mtL_self, mt_self, ltV, ltL, ltB, eq_self, or_true, true_or, or_self, and_self, z_denom_way, rowV_ltE (f := (fun (l : List S_denom_way) => V.sl none 3 true (l.map e_denom_way))) (fun _ => by simp only [go_sem])]) ?_
    try refine spQA (And.intro ha1 (And.intro ha2 (And.intro he3 (And.intro he4 (And.intro he5 (And.intro ha6 (And.intro he49 (And.intro he50 (And.intro ha52 (And.intro ha55 (And.intro he56 (And.intro he57 he58)))))))))))) ?_
    refine ct_draw 167 11 [154, 155, 156, 157, 158, 159, 160, 161, 162, 163, 164] [] ([[], [], [], [1, 2], [1, 2, 3], [], [], [5, 6], [5, 6, 7], [5, 6, 7, 8], [1, 2, 3, 4, 5, 6, 7, 8, 9]] ++ [List.range 11, List.range 12]) [] (by kernel_rfl) (by exact alQ) ?_
    refine spQA (And.intro ha1 (And.intro ha2 (And.intro he3 (And.intro he4 (And.intro he5 (And.intro ha6 (And.intro he49 (And.intro he50 (And.intro ha52 (And.intro ha55 (And.intro he56 (And.intro he57 he58)))))))))))) ?_
    refine hbindC_intro (by (first | exact omQ | (clear hM; first | (have hr := hF13_0.1; exact omQ') | (have hr := hF9_0.1; exact omQ') | (have hr := hF5_0 (p53.2.1 + 1) (by omega) (by omega); exact omQ') | (have hr := hF5_0 (l.length : Int) (by omega) (by omega); exact omQ')))) ?_
    have he59 := fun d => elt_mp (l := (st p53.2.2 p53.2.1 (gt (gt p6.2 (p53.2.1 + 1)) p53.1).last)) (f := (V.int .i64)) (i := p53.2.1) (by (first | exact omQ | (clear hM; first | (have hr := hF13_0.1; exact omQ') | (have hr := hF9_0.1; exact omQ') | (have hr := hF5_0 (p53.2.1 + 1) (by omega) (by omega); exact omQ') | (have hr := hF5_0 (l.length : Int) (by omega) (by omega); exact omQ')))) d
    refine spQA (And.intro ha1 (And.intro ha2 (And.intro he3 (And.intro he4 (And.intro he5 (And.intro ha6 (And.intro he49 (And.intro he50 (And.intro ha52 (And.intro ha55 (And.intro he56 (And.intro he57 (And.intro he58 he59))))))))))))) ?_
    refine hbindC_intro (by (first | exact omQ | (clear hM; first | (have hr := hF13_0.1; exact omQ') | (have hr := hF9_0.1; exact omQ') | (have hr := hF5_0 (p53.2.1 + 1) (by omega) (by omega); exact omQ') | (have hr := hF5_0 (l.length : Int) (by omega) (by omega); exact omQ')))) ?_
    refine spQA (And.intro ha1 (And.intro ha2 (And.intro he3 (And.intro he4 (And.intro he5 (And.intro ha6 (And.intro he49 (And.intro he50 (And.intro ha52 (And.intro ha55 (And.intro he56 (And.intro he57 (And.intro he58 he59))))))))))))) ?_
    refine hbindC_intro (by (first | exact omQ | (clear hM; first | (have hr := hF13_0.1; exact omQ') | (have hr := hF9_0.1; exact omQ') | (have hr := hF5_0 (p53.2.1 + 1) (by omega) (by omega); exact omQ') | (have hr := hF5_0 (l.length : Int) (by omega) (by omega); exact omQ')))) ?_
    have he60 := fun d => elt_mp (l := l) (f := e_api_Denom) (i := p53.2.1) (by (first | exact omQ | (clear hM; first | (have hr := hF13_0.1; exact omQ') | (have hr := hF9_0.1; exact omQ') | (have hr := hF5_0 (p53.2.1 + 1) (by omega) (by omega); exact omQ') | (have hr := hF5_0 (l.length : Int) (by omega) (by omega); exact omQ')))) d
    refine spQA (And.intro ha1 (And.intro ha2 (And.intro he3 (And.intro he4 (And.intro he5 (And.intro ha6 (And.intro he49 (And.intro he50 (And.intro ha52 (And.intro ha55 (And.intro he56 (And.intro he57 (And.intro he58 (And.intro he59 he60)))))))))))))) ?_
    obtain ⟨ha61, hbha61⟩ := mul_pos_ok (a := (gt (st p53.2.2 p53.2.1 (gt (gt p6.2 (p53.2.1 + 1)) p53.1).last) p53.2.1)) (b := (gt l p53.2.1).Value) 1000 1099511627776 1099511627776000 (by (clear hM; have hq := hF5_1 (p53.2.1 + 1) (by omega) (by omega) p53.1 (by omega) (by omega); rw [show p53.2.1 + 1 - 1 = p53.2.1 by omega] at hq; have hv := hpl p53.2.1 (by omega) (by omega); first | omega | (rw [gt_st, if_pos ⟨rfl, by omega⟩]; omega))) (by (clear hM; have hq := hF5_1 (p53.2.1 + 1) (by omega) (by omega) p53.1 (by omega) (by omega); rw [show p53.2.1 + 1 - 1 = p53.2.1 by omega] at hq; have hv := hpl p53.2.1 (by omega) (by omega); first | omega | (rw [gt_st, if_pos ⟨rfl, by omega⟩]; omega))) (by (clear hM; have hq := hF5_1 (p53.2.1 + 1) (by omega) (by omega) p53.1 (by omega) (by omega); rw [show p53.2.1 + 1 - 1 = p53.2.1 by omega] at hq; have hv := hpl p53.2.1 (by omega) (by omega); first | omega | (rw [gt_st, if_pos ⟨rfl, by omega⟩]; omega))) (by (clear hM; have hq := hF5_1 (p53.2.1 + 1) (by omega) (by omega) p53.1 (by omega) (by omega); rw [show p53.2.1 + 1 - 1 = p53.2.1 by omega] at hq; have hv := hpl p53.2.1 (by omega) (by omega); first | omega | (rw [gt_st, if_pos ⟨rfl, by omega⟩]; omega))) (by decide) (by decide)
    try simp only [ha61]
    have ha62 : subI .i64 p53.1 ((gt (st p53.2.2 p53.2.1 (gt (gt p6.2 (p53.2.1 + 1)) p53.1).last) p53.2.1) * (gt l p53.2.1).Value) = (p53.1 - ((gt (st p53.2.2 p53.2.1 (gt (gt p6.2 (p53.2.1 + 1)) p53.1).last) p53.2.1) * (gt l p53.2.1).Value)) := sub_ok (by (first | exact omQ | (clear hM; first | (have hr := hF13_0.1; exact omQ') | (have hr := hF9_0.1; exact omQ') | (have hr := hF5_0 (p53.2.1 + 1) (by omega) (by omega); exact omQ') | (have hr := hF5_0 (l.length : Int) (by omega) (by omega); exact omQ')))) (by (first | exact omQ | (clear hM; first | (have hr := hF13_0.1; exact omQ') | (have hr := hF9_0.1; exact omQ') | (have hr := hF5_0 (p53.2.1 + 1) (by omega) (by omega); exact omQ') | (have hr := hF5_0 (l.length : Int) (by omega) (by omega); exact omQ'))))
    try simp only [ha62]
    have ha63 : subI .i64 p53.2.1 1 = (p53.2.1 - 1) := sub_ok (by (first | exact omQ | (clear hM; first | (have hr := hF13_0.1; exact omQ') | (have hr := hF9_0.1; exact omQ') | (have hr := hF5_0 (p53.2.1 + 1) (by omega) (by omega); exact omQ') | (have hr := hF5_0 (l.length : Int) (by omega) (by omega); exact omQ')))) (by (first | exact omQ | (clear hM; first | (have hr := hF13_0.1; exact omQ') | (have hr := hF9_0.1; exact omQ') | (have hr := hF5_0 (p53.2.1 + 1) (by omega) (by omega); exact omQ') | (have hr := hF5_0 (l.length : Int) (by omega) (by omega); exact omQ'))))
    try simp only [ha63]
    refine lp_intro (n53 - 1) _ (by omega) (by simp only [go_sem, rowV_eq, rowV_eq0, List.length_replicate, rep_len, Int.toNat_natCast, ↓reduceIte, Nat.reduceEqDiff, Nat.reduceAdd, Int.reduceAdd, Nat.reduceMul, Nat.reduceLeDiff, Nat.reduceLT, Int.reduceLE, Int.reduceLT, Int.reduceNeg, Int.reduceToNat, List.isEmpty_nil, map_st, mtL_repE, mtL_repM, subF, subH, mtO, mtB, mt, mtL, mtL_self, mt_self, ltV, ltL, ltB, eq_self, or_true, true_or, or_self, and_self, z_denom_way, rowV_ltE (f := (fun (l : List S_denom_way) => V.sl none 3 true (l.map e_denom_way))) (fun _ => by simp only [go_sem])]) (by simp only [go_sem, rowV_eq, rowV_eq0, List.length_replicate, rep_len, Int.toNat_natCast, ↓reduceIte, Nat.reduceEqDiff, Nat.reduceAdd, Int.reduceAdd, Nat.reduceMul, Nat.reduceLeDiff, Nat.reduceLT, Int.reduceLE, Int.reduceLT, Int.reduceNeg, Int.reduceToNat, List.isEmpty_nil, map_st, mtL_repE, mtL_repM, subF, subH, mtO, mtB, mt, mtL, mtL_self, mt_self, ltV, ltL, ltB, eq_self, or_true, true_or, or_self, and_self, z_denom_way, rowV_ltE (f := (fun (l : List S_denom_way) => V.sl none 3 true (l.map e_denom_way))) (fun _ => by simp only [go_sem])]) ⟨((p53.1 - ((gt (st p53.2.2 p53.2.1 (gt (gt p6.2 (p53.2.1 + 1)) p53.1).last) p53.2.1) * (gt l p53.2.1).Value)), (p53.2.1 - 1), (st p53.2.2 p53.2.1 (gt (gt p6.2 (p53.2.1 + 1)) p53.1).last)), rfl, ⟨⟨by (first | exact omQ | (clear hM; first | (have hr := hF13_0.1; exact omQ') | (have hr := hF9_0.1; exact omQ') | (have hr := hF5_0 ((p53.2.1 - 1) + 1) (by omega) (by omega); exact omQ') | (have hr := hF5_0 (l.length : Int) (by omega) (by omega); exact omQ'))), by (first | exact omQ | (clear hM; first | (have hr := hF13_0.1; exact omQ') | (have hr := hF9_0.1; exact omQ') | (have hr := hF5_0 ((p53.2.1 - 1) + 1) (by omega) (by omega); exact omQ') | (have hr := hF5_0 (l.length : Int) (by omega) (by omega); exact omQ'))), by (first | exact omQ | (clear hM; first | (have hr := hF13_0.1; exact omQ') | (have hr := hF9_0.1; exact omQ') | (have hr := hF5_0 ((p53.2.1 - 1) + 1) (by omega) (by omega); exact omQ') | (have hr := hF5_0 (l.length : Int) (by omega) (by omega); exact omQ')))⟩, by (clear hM; have hq := hF5_1 (p53.2.1 + 1) (by omega) (by omega) p53.1 (by omega) (by omega); rw [show p53.2.1 + 1 - 1 = p53.2.1 by omega] at hq; have hv := hpl p53.2.1 (by omega) (by omega); simp only [gt_st, true_and] at *; rw [if_pos (by omega)] at *; omega)⟩, by (first | exact omQ | (clear hM; first | (have hr := hF13_0.1; exact omQ') | (have hr := hF9_0.1; exact omQ') | (have hr := hF5_0 ((p53.2.1 - 1) + 1) (by omega) (by omega); exact omQ') | (have hr := hF5_0 (l.length : Int) (by omega) (by omega); exact omQ'))), iter_again hM hag53⟩
   ·rw [if_neg (ne_true h54)] at hM
    refine spQA (And.intro ha1 (And.intro ha2 (And.intro he3 (And.intro he4 (And.intro he5 (And.intro ha6 (And.intro he49 (And.intro he50 (And.intro ha52 h54))))))))) ?_
    have nh54 := nzQ h54
    subst hM
    exact retC_view (lfQA (And.intro ha1 (And.intro ha2 (And.intro he3 (And.intro he4 (And.intro he5 (And.intro ha6 (And.intro he49 (And.intro he50 (And.intro ha52 (And.intro h7 (And.intro h51 h54))))))))))))
set_option maxHeartbeats 2000000 in
set_option maxRecDepth 100000 in
instance denom_Pay_ok   (l : (List S_api_Denom)) (have_ : (List Int)) (amount : Int)  : CM En (denom_Pay l have_ amount) 7 [.sl none 2 true (l.map e_api_Denom), .sl none 1 false (have_.map (V.int .i64)), .int .i64 amount] (fun y => .tup [.sl none 1 false (y.1.map (V.int .i64)), .int .i64 y.2]) (fun _ => []) := by
 refine cmQ fun r hM => ?_
 rw [denom_Pay.eq_1] at hM
 refine enterV En_ok En_mo noJ Try.func7 rfl Try.ntmps7 (by kernel_rfl) fun hw => ct_start ?_
 refine spQ ?_
 replace hw := nzQ hw
 have hM0 := hM; clear hM; obtain ⟨x1, hx2, hM⟩ := letk_opn hM0; clear hM0
 have hcx1 := cmU hx2
 refine callC_give hcx1 clQ clQ (fun hw3 => ?_)
 replace hw3 := nzQ hw3
 refine spQ ?_
 refine guardC_f (fun h4 => ?_) (fun h4 => ?_)
 ·rw [if_neg (ne_true h4)] at hM
  refine spQA h4 ?_
  have nh4 := nzQ h4
  have hM0 := hM; clear hM; obtain ⟨x5, hx6, hM⟩ := letk_opn hM0; clear hM0
  have hcx5 := cmU hx6
  refine callC_give hcx5 clQ clQ (fun hw7 => ?_)
  replace hw7 := nzQ hw7
  refine spQ ?_
  refine condC_intro (fun h8 => ?_) (fun h8 => ?_)
  ·rw [if_pos h8] at hM
   refine spQA h8 ?_
   have nh8 := nzQ h8
   subst hM
   exact retC_view (lfQA (And.intro h4 h8))
  ·rw [if_neg (ne_true h8)] at hM
   refine spQA h8 ?_
   have nh8 := nzQ h8
   refine guardC_f (fun h9 => ?_) (fun h9 => ?_)
   ·rw [if_neg (ne_true h9)] at hM
    refine spQA h9 ?_
    have nh9 := nzQ h9
    refine condC_intro (fun h10 => ?_) (fun h10 => ?_)
    ·rw [if_pos h10] at hM
     refine spQA h10 ?_
     have nh10 := nzQ h10
     subst hM
     exact retC_view (lfQA (And.intro h4 (And.intro h8 (And.intro h9 h10))))
    ·rw [if_neg (ne_true h10)] at hM
     refine spQA h10 ?_
     have nh10 := nzQ h10
     have hM0 := hM; clear hM; obtain ⟨x11, hx12, hM⟩ := letk_opn hM0; clear hM0
     have hcx11 := cmH hx12 (denom_change_ok  l have_ amount (by (first | omega | exact counted_len (hx6.symm.trans nh8) | exact (Valid_len (hx2.symm.trans nh4)).2 | exact Valid_val (hx2.symm.trans nh4) | exact counted_val (hx6.symm.trans nh8))) (by (first | omega | exact counted_len (hx6.symm.trans nh8) | exact (Valid_len (hx2.symm.trans nh4)).2 | exact Valid_val (hx2.symm.trans nh4) | exact counted_val (hx6.symm.trans nh8))) (by (first | omega | exact counted_len (hx6.symm.trans nh8) | exact (Valid_len (hx2.symm.trans nh4)).2 | exact Valid_val (hx2.symm.trans nh4) | exact counted_val (hx6.symm.trans nh8))) (by (first | omega | exact counted_len (hx6.symm.trans nh8) | exact (Valid_len (hx2.symm.trans nh4)).2 | exact Valid_val (hx2.symm.trans nh4) | exact counted_val (hx6.symm.trans nh8))) (by (first | omega | exact counted_len (hx6.symm.trans nh8) | exact (Valid_len (hx2.symm.trans nh4)).2 | exact Valid_val (hx2.symm.trans nh4) | exact counted_val (hx6.symm.trans nh8))) (by (first | omega | exact counted_len (hx6.symm.trans nh8) | exact (Valid_len (hx2.symm.trans nh4)).2 | exact Valid_val (hx2.symm.trans nh4) | exact counted_val (hx6.symm.trans nh8))))
     refine callC_give hcx11 clQ clQ (fun hw13 => ?_)
     replace hw13 := nzQ hw13
     refine spQ ?_
     have hF := (And.intro h4 (And.intro h8 (And.intro h9 h10)))
     exact auQ
   ·rw [if_pos h9] at hM
    refine spQA h9 ?_
    have nh9 := nzQ h9
    subst hM
    exact retC_view (lfQA (And.intro h4 (And.intro h8 h9)))
 ·rw [if_pos h4] at hM
  refine spQA h4 ?_
  have nh4 := nzQ h4
  subst hM
  exact retC_view (lfQA h4)
set_option maxHeartbeats 2000000 in
set_option maxRecDepth 100000 in
instance denom_Fewest_ok   (l : (List S_api_Denom)) (amount : Int)  : CM En (denom_Fewest l amount) 6 [.sl none 2 true (l.map e_api_Denom), .int .i64 amount] (fun y => .tup [.sl none 1 false (y.1.map (V.int .i64)), .int .i64 y.2]) (fun _ => []) := by
 refine cmQ fun r hM => ?_
 rw [denom_Fewest.eq_1] at hM
 refine enterV En_ok En_mo noJ Try.func6 rfl Try.ntmps6 (by kernel_rfl) fun hw => ct_start ?_
 refine spQ ?_
 replace hw := nzQ hw
 have hM0 := hM; clear hM; obtain ⟨x1, hx2, hM⟩ := letk_opn hM0; clear hM0
 have hcx1 := cmU hx2
 refine callC_give hcx1 clQ clQ (fun hw3 => ?_)
 replace hw3 := nzQ hw3
 refine spQ ?_
 refine condC_intro (fun h4 => ?_) (fun h4 => ?_)
 ·rw [if_pos h4] at hM
  refine spQA h4 ?_
  have nh4 := nzQ h4
  subst hM
  exact retC_view (lfQA h4)
 ·rw [if_neg (ne_true h4)] at hM
  refine spQA h4 ?_
  have nh4 := nzQ h4
  have hM0 := hM; clear hM; obtain ⟨x5, hx6, hM⟩ := letk_opn hM0; clear hM0
  have hcx5 := cmH hx6 (slices_Repeat_int_int_ok  ([1000] : List Int) (l.length : Int) (by (first | rfl | (have hv := Valid_len (hx2.symm.trans nh4); omega))) (by (first | rfl | (have hv := Valid_len (hx2.symm.trans nh4); omega))) (by (first | rfl | (have hv := Valid_len (hx2.symm.trans nh4); omega))))
  refine callC_giveP hcx5 (weakP_pub 0 (T := 3) (n := 1) (g := false) (z := (some false)) (l := ([1000] : List Int).map (V.int .i64)) clQ) clQ (fun hw7 => ?_)
  replace hw7 := nzQ hw7
  refine spQ ?_
  have hF := h4
  exact auQ
instance (priority := 1001) : DRD 6 26 8 [16, 17, 18, 19, 20, 21, 22, 23] [] ([[], [], [0, 1], [0, 1, 2], [], [], [4, 5], [4, 5, 6]] ++ [List.range 8]) [] := ⟨trivial⟩
set_option maxHeartbeats 2000000 in
set_option maxRecDepth 100000 in
instance slices_Equal_int_int_ok   (s1 : (List Int)) (s2 : (List Int))  : CM En (slices_Equal_int_int s1 s2) 10 [.sl none 1 false (s1.map (V.int .i64)), .sl none 1 false (s2.map (V.int .i64))] (fun y => .bool y) (fun _ => []) := by
 refine cmQ fun r hM => ?_
 rw [slices_Equal_int_int.eq_1] at hM
 refine enterV En_ok En_mo noJ Try.func10 rfl Try.ntmps10 (by kernel_rfl) fun hw => ct_start ?_
 refine spQ ?_
 replace hw := nzQ hw
 refine condC_intro (fun h1 => ?_) (fun h1 => ?_)
 ·rw [if_pos h1] at hM
  refine spQA h1 ?_
  have nh1 := nzQ h1
  subst hM
  exact retC_view (lfQA h1)
 ·rw [if_neg (ne_true h1)] at hM
  refine spQA h1 ?_
  have nh1 := nzQ h1
  have hM0 := hM; clear hM; obtain ⟨f2, d2, hf2, hd2, hM⟩ := iter_opn hM0; clear hM0
  refine ct_loop (fun n S => ∃ p : Int, S = (⟨[(0, .sl none 1 false (s1.map (V.int .i64))), (1, .sl none 1 false (s2.map (V.int .i64))), (12, .int .i64 (s1.length : Int)), (13, .int .i64 p)], [], 0⟩ : St) ∧ ((0 ≤ p) ∧ (p ≤ (s1.length : Int))) ∧ ((s1.length : Int) - p).toNat < n ∧ iter n f2 d2 p = r) (((s1.length : Int) - 0).toNat + 1) _ sbQ sbQ ⟨0, rfl, ⟨omQ, omQ⟩, (Nat.lt_succ_self _), hM⟩ ?_
  clear hM
  rintro n2 S ⟨p2, rfl, hfa2, hm2, hM⟩
  have hM0 := hM; clear hM; obtain ⟨ag2, hag2, hM⟩ := iter_step hM0 (by omega) hf2; clear hM0
  replace hfa2 := nzQ hfa2
  replace hm2 := nzQ hm2
  have ha2 : addI .i64 p2 1 = p2 + 1 := add_one omQ omQ
  refine spQA ha2 ?_
  have hF := (And.intro h1 ha2)
  exact auQ
set_option maxHeartbeats 2000000 in
set_option maxRecDepth 100000 in
instance specielaw28_awake_ok     : CM En (specielaw28_awake) 4 [] (fun y => .bool y) (fun _ => []) := by
 refine cmQ fun r hM => ?_
 rw [specielaw28_awake.eq_1] at hM
 refine enterV En_ok En_mo noJ Try.func4 rfl Try.ntmps4 (by kernel_rfl) fun hw => ct_start ?_
 refine spQ ?_
 replace hw := nzQ hw
 have hM0 := hM; clear hM; obtain ⟨x1, hx2, hM⟩ := letk_opn hM0; clear hM0
 have hcx1 := cmU hx2
 refine callC_giveP hcx1 (weakP_pub 0 (T := 38) (n := 2) (g := true) (z := (some false)) (l := ([({ Value := 1, Depth := 0 } : S_api_Denom), ({ Value := 2, Depth := 1 } : S_api_Denom), ({ Value := 5, Depth := 0 } : S_api_Denom)] : List S_api_Denom).map e_api_Denom) clQ) clQ (fun hw3 => ?_)
 replace hw3 := nzQ hw3
 refine spQ ?_
 have hM0 := hM; clear hM; obtain ⟨x4, hx5, hM⟩ := letk_opn hM0; clear hM0
 have hcx4 := cmU hx5
 refine callC_giveP hcx4 (weakP_pub 1 (T := 38) (n := 2) (g := true) (z := (some false)) (l := ([({ Value := 4, Depth := 0 } : S_api_Denom), ({ Value := 5, Depth := 0 } : S_api_Denom), ({ Value := 6, Depth := 0 } : S_api_Denom)] : List S_api_Denom).map e_api_Denom) clQ) clQ (fun hw6 => ?_)
 replace hw6 := nzQ hw6
 refine spQ ?_
 have hM0 := hM; clear hM; obtain ⟨x7, hx8, hM⟩ := letk_opn hM0; clear hM0
 have hcx7 := cmU hx8
 refine callC_giveP hcx7 (weakP_pub 2 (T := 38) (n := 2) (g := true) (z := (some false)) (l := ([({ Value := 4, Depth := 0 } : S_api_Denom), ({ Value := 5, Depth := 0 } : S_api_Denom), ({ Value := 6, Depth := 0 } : S_api_Denom)] : List S_api_Denom).map e_api_Denom) clQ) clQ (fun hw9 => ?_)
 replace hw9 := nzQ hw9
 refine spQ ?_
 have hF := trueQ
 exact auQ
set_option maxHeartbeats 2000000 in
set_option maxRecDepth 100000 in
instance specielaw28_great_ok   (l : (List S_api_Denom))  : CM En (specielaw28_great l) 5 [.sl none 2 true (l.map e_api_Denom)] (fun y => .bool y) (fun _ => []) := by
 refine cmQ fun r hM => ?_
 rw [specielaw28_great.eq_1] at hM
 refine enterV En_ok En_mo noJ Try.func5 rfl Try.ntmps5 (by kernel_rfl) fun hw => ct_start ?_
 refine spQ ?_
 replace hw := nzQ hw
 subst hM
 exact retC_view lfQ
set_option maxHeartbeats 2000000 in
set_option maxRecDepth 100000 in
instance specieref28_One_ok   (d_ : S_api_Denom)  : CM En (specieref28_One d_) 20 [.agg [.int .i64 d_.Value, .int .i64 d_.Depth]] (fun y => .bool y) (fun _ => []) := by
 refine cmQ fun r hM => ?_
 rw [specieref28_One.eq_1] at hM
 refine enterV En_ok En_mo noJ Try.func20 rfl Try.ntmps20 (by kernel_rfl) fun hw => ct_start ?_
 refine spQ ?_
 replace hw := nzQ hw
 refine condC_intro (fun h1 => ?_) (fun h1 => ?_)
 ·rw [if_pos h1] at hM
  refine spQA h1 ?_
  have nh1 := nzQ h1
  subst hM
  exact retC_view (lfQA h1)
 ·rw [if_neg (ne_true h1)] at hM
  refine spQA h1 ?_
  have nh1 := nzQ h1
  refine guardC_t (fun h2 => ?_) (fun h2 => ?_)
  ·rw [if_pos h2] at hM
   refine spQA h2 ?_
   have nh2 := nzQ h2
   refine guardC_t (fun h3 => ?_) (fun h3 => ?_)
   ·rw [if_pos h3] at hM
    refine spQA h3 ?_
    have nh3 := nzQ h3
    refine guardC_t (fun h4 => ?_) (fun h4 => ?_)
    ·rw [if_pos h4] at hM
     refine spQA h4 ?_
     have nh4 := nzQ h4
     refine guardC_t (fun h5 => ?_) (fun h5 => ?_)
     ·rw [if_pos h5] at hM
      refine spQA h5 ?_
      have nh5 := nzQ h5
      refine bindC_intro (by (exact nn_u64 _)) ?_
      refine spQ ?_
      refine bindC_intro (by (clear hM; simp only [decide_eq_true_eq] at *; rcases (show d_.Depth = 0 ∨ d_.Depth = 1 ∨ d_.Depth = 2 ∨ d_.Depth = 3 ∨ d_.Depth = 4 ∨ d_.Depth = 5 by omega) with h | h | h | h | h | h <;> rw [h] <;> decide)) ?_
      refine spQ ?_
      subst hM
      exact retC_view (lfQA (And.intro h1 (And.intro h2 (And.intro h3 (And.intro h4 h5)))))
     ·rw [if_neg (ne_true h5)] at hM
      refine spQA h5 ?_
      have nh5 := nzQ h5
      subst hM
      exact retC_view (lfQA (And.intro h1 (And.intro h2 (And.intro h3 (And.intro h4 h5)))))
    ·rw [if_neg (ne_true h4)] at hM
     refine spQA h4 ?_
     have nh4 := nzQ h4
     subst hM
     exact retC_view (lfQA (And.intro h1 (And.intro h2 (And.intro h3 h4))))
   ·rw [if_neg (ne_true h3)] at hM
    refine spQA h3 ?_
    have nh3 := nzQ h3
    subst hM
    exact retC_view (lfQA (And.intro h1 (And.intro h2 h3)))
  ·rw [if_neg (ne_true h2)] at hM
   refine spQA h2 ?_
   have nh2 := nzQ h2
   subst hM
   exact retC_view (lfQA (And.intro h1 h2))
set_option maxHeartbeats 2000000 in
set_option maxRecDepth 100000 in
instance specieref28_Valid_ok   (l : (List S_api_Denom))  : CM En (specieref28_Valid l) 11 [.sl none 2 true (l.map e_api_Denom)] (fun y => .bool y) (fun _ => []) := by
 refine cmQ fun r hM => ?_
 rw [specieref28_Valid.eq_1] at hM
 refine enterV En_ok En_mo noJ Try.func11 rfl Try.ntmps11 (by kernel_rfl) fun hw => ct_start ?_
 refine spQ ?_
 replace hw := nzQ hw
 refine guardC_f (fun h1 => ?_) (fun h1 => ?_)
 ·rw [if_neg (ne_true h1)] at hM
  refine spQA h1 ?_
  have nh1 := nzQ h1
  refine condC_intro (fun h2 => ?_) (fun h2 => ?_)
  ·rw [if_pos h2] at hM
   refine spQA h2 ?_
   have nh2 := nzQ h2
   subst hM
   exact retC_view (lfQA (And.intro h1 h2))
  ·rw [if_neg (ne_true h2)] at hM
   refine spQA h2 ?_
   have nh2 := nzQ h2
   have hM0 := hM; clear hM; obtain ⟨f3, d3, hf3, hd3, hM⟩ := iter_opn hM0; clear hM0
   refine ct_loop (fun n S => ∃ p : Int, S = (⟨[(0, .sl none 2 true (l.map e_api_Denom)), (3, .int .i64 p)], [], 0⟩ : St) ∧ ((0 ≤ p) ∧ (p ≤ (l.length : Int))) ∧ ((l.length : Int) - p).toNat < n ∧ iter n f3 d3 p = r) (((l.length : Int) - 0).toNat + 1) _ sbQ sbQ ⟨0, rfl, ⟨omQ, omQ⟩, (Nat.lt_succ_self _), hM⟩ ?_
   clear hM
   rintro n3 S ⟨p3, rfl, hfa3, hm3, hM⟩
   have hM0 := hM; clear hM; obtain ⟨ag3, hag3, hM⟩ := iter_step hM0 (by omega) hf3; clear hM0
   replace hfa3 := nzQ hfa3
   replace hm3 := nzQ hm3
   have ha3 : addI .i64 p3 1 = p3 + 1 := add_one omQ omQ
   refine spQA ha3 ?_
   refine condC_intro (fun h4 => ?_) (fun h4 => ?_)
   ·rw [if_pos h4] at hM
    refine spQA (And.intro ha3 h4) ?_
    have nh4 := nzQ h4
    refine bindC_intro omQ ?_
    have he5 := fun d => elt_mp (l := l) (f := e_api_Denom) (i := p3) omQ d
    refine spQA (And.intro ha3 he5) ?_
    have hM0 := hM; clear hM; obtain ⟨x6, hx7, hM⟩ := letk_opn hM0; clear hM0
    have hcx6 := cmU hx7
    refine callC_give hcx6 (clQA (And.intro ha3 he5)) (clQA (And.intro ha3 he5)) (fun hw8 => ?_)
    replace hw8 := nzQ hw8
    refine spQA (And.intro ha3 he5) ?_
    refine condC_intro (fun h9 => ?_) (fun h9 => ?_)
    ·rw [if_pos h9] at hM
     refine spQA (And.intro ha3 (And.intro he5 h9)) ?_
     have nh9 := nzQ h9
     subst hM
     exact retC_view (lfQA (And.intro ha3 (And.intro he5 (And.intro h1 (And.intro h2 (And.intro h4 h9))))))
    ·rw [if_neg (ne_true h9)] at hM
     refine spQA (And.intro ha3 (And.intro he5 h9)) ?_
     have nh9 := nzQ h9
     refine ct_draw 68 40 [24, 25, 26, 27, 28, 29, 30, 31, 32, 33, 34, 35, 36, 37, 38, 39, 40, 41, 42, 43, 44, 45, 46, 47, 48, 49, 50, 51, 52, 53, 54, 55, 56, 57, 58, 59, 60, 61, 62, 63] [] ([[], [0], [0, 1], [0, 1, 2], [0, 1, 2], [0, 1, 2, 3, 4], [0, 1, 2, 3, 4, 5], [0, 1, 2, 3, 4, 5, 6], [0, 1, 2], [0, 1, 2], [0, 1, 2, 9], [0, 1, 2, 8, 9, 10], [0, 1, 2, 8, 9, 10, 11], [0, 1, 2, 8, 9, 10, 11, 12], [0, 1, 2, 3, 4, 5, 6, 7, 8, 9, 10, 11, 12, 13], [0, 1, 2, 3, 4, 5, 6, 7, 8, 9, 10, 11, 12, 13, 14], [0, 1, 2, 3, 4, 5, 6, 7, 8, 9, 10, 11, 12, 13, 14, 15], [0, 1, 2, 3, 4, 5, 6, 7, 8, 9, 10, 11, 12, 13, 14, 15], [0, 1, 2, 3, 4, 5, 6, 7, 8, 9, 10, 11, 12, 13, 14, 15, 16, 17], [0, 1, 2, 3, 4, 5, 6, 7, 8, 9, 10, 11, 12, 13, 14, 15, 16, 17, 18], [0, 1, 2, 3, 4, 5, 6, 7, 8, 9, 10, 11, 12, 13, 14, 15, 16, 17, 18, 19], [0, 1, 2, 3, 4, 5, 6, 7, 8, 9, 10, 11, 12, 13, 14, 15], [0, 1, 2, 3, 4, 5, 6, 7, 8, 9, 10, 11, 12, 13, 14, 15], [0, 1, 2, 3, 4, 5, 6, 7, 8, 9, 10, 11, 12, 13, 14, 15, 22], [0, 1, 2, 3, 4, 5, 6, 7, 8, 9, 10, 11, 12, 13, 14, 15, 21, 22, 23], [0, 1, 2, 3, 4, 5, 6, 7, 8, 9, 10, 11, 12, 13, 14, 15, 21, 22, 23, 24], [0, 1, 2, 3, 4, 5, 6, 7, 8, 9, 10, 11, 12, 13, 14, 15, 21, 22, 23, 24, 25], [0, 1, 2, 3, 4, 5, 6, 7, 8, 9, 10, 11, 12, 13, 14, 15, 16, 17, 18, 19, 20, 21, 22, 23, 24, 25, 26], [0, 1, 2, 3, 4, 5, 6, 7, 8, 9, 10, 11, 12, 13, 14, 15, 16, 17, 18, 19, 20, 21, 22, 23, 24, 25, 26, 27], [0, 1, 2, 3, 4, 5, 6, 7, 8, 9, 10, 11, 12, 13, 14, 15, 16, 17, 18, 19, 20, 21, 22, 23, 24, 25, 26, 27, 28], [0, 1, 2, 3, 4, 5, 6, 7, 8, 9, 10, 11, 12, 13, 14, 15, 16, 17, 18, 19, 20, 21, 22, 23, 24, 25, 26, 27, 28], [0, 1, 2, 3, 4, 5, 6, 7, 8, 9, 10, 11, 12, 13, 14, 15, 16, 17, 18, 19, 20, 21, 22, 23, 24, 25, 26, 27, 28, 29, 30], [0, 1, 2, 3, 4, 5, 6, 7, 8, 9, 10, 11, 12, 13, 14, 15, 16, 17, 18, 19, 20, 21, 22, 23, 24, 25, 26, 27, 28, 29, 30, 31], [0, 1, 2, 3, 4, 5, 6, 7, 8, 9, 10, 11, 12, 13, 14, 15, 16, 17, 18, 19, 20, 21, 22, 23, 24, 25, 26, 27, 28, 29, 30, 31, 32], [0, 1, 2, 3, 4, 5, 6, 7, 8, 9, 10, 11, 12, 13, 14, 15, 16, 17, 18, 19, 20, 21, 22, 23, 24, 25, 26, 27, 28], [0, 1, 2, 3, 4, 5, 6, 7, 8, 9, 10, 11, 12, 13, 14, 15, 16, 17, 18, 19, 20, 21, 22, 23, 24, 25, 26, 27, 28], [0, 1, 2, 3, 4, 5, 6, 7, 8, 9, 10, 11, 12, 13, 14, 15, 16, 17, 18, 19, 20, 21, 22, 23, 24, 25, 26, 27, 28, 35], [0, 1, 2, 3, 4, 5, 6, 7, 8, 9, 10, 11, 12, 13, 14, 15, 16, 17, 18, 19, 20, 21, 22, 23, 24, 25, 26, 27, 28, 34, 35, 36], [0, 1, 2, 3, 4, 5, 6, 7, 8, 9, 10, 11, 12, 13, 14, 15, 16, 17, 18, 19, 20, 21, 22, 23, 24, 25, 26, 27, 28, 34, 35, 36, 37], [0, 1, 2, 3, 4, 5, 6, 7, 8, 9, 10, 11, 12, 13, 14, 15, 16, 17, 18, 19, 20, 21, 22, 23, 24, 25, 26, 27, 28, 34, 35, 36, 37, 38]] ++ [List.range 40, List.range 41, List.range 42, List.range 43]) [] (by kernel_rfl) (by exact alQ) ?_
     refine spQA (And.intro ha3 he5) ?_
     refine hguardC_t (fun h10 => ?_) (fun h10 => ?_)
     ·rw [if_pos h10] at hM
      refine spQA (And.intro ha3 (And.intro he5 h10)) ?_
      have nh10 := nzQ h10
      refine hbindC_intro omQ ?_
      refine spQA (And.intro ha3 he5) ?_
      have ha11 : subI .i64 p3 1 = (p3 - 1) := sub_ok omQ omQ
      try simp only [ha11]
      have hF := (And.intro h1 (And.intro h2 (And.intro ha3 (And.intro h4 (And.intro he5 (And.intro h9 (And.intro h10 ha11)))))))
      exact auQ
     ·rw [if_neg (ne_true h10)] at hM
      refine spQA (And.intro ha3 (And.intro he5 h10)) ?_
      have nh10 := nzQ h10
      refine lp_intro (n3 - 1) _ (by omega) sbQ sbQ ⟨(p3 + 1), rfl, ⟨omQ, omQ⟩, omQ, iter_again hM hag3⟩
   ·rw [if_neg (ne_true h4)] at hM
    refine spQA (And.intro ha3 h4) ?_
    have nh4 := nzQ h4
    subst hM
    exact retC_view (lfQA (And.intro ha3 (And.intro h1 (And.intro h2 h4))))
 ·rw [if_pos h1] at hM
  refine spQA h1 ?_
  have nh1 := nzQ h1
  subst hM
  exact retC_view (lfQA h1)
set_option maxHeartbeats 2000000 in
set_option maxRecDepth 100000 in
instance specieref28_Counts_ok   (l : (List S_api_Denom)) (counts : (List Int))  : CM En (specieref28_Counts l counts) 14 [.sl none 2 true (l.map e_api_Denom), .sl none 1 false (counts.map (V.int .i64))] (fun y => .bool y) (fun _ => []) := by
 refine cmQ fun r hM => ?_
 rw [specieref28_Counts.eq_1] at hM
 refine enterV En_ok En_mo noJ Try.func14 rfl Try.ntmps14 (by kernel_rfl) fun hw => ct_start ?_
 refine spQ ?_
 replace hw := nzQ hw
 refine condC_intro (fun h1 => ?_) (fun h1 => ?_)
 ·rw [if_pos h1] at hM
  refine spQA h1 ?_
  have nh1 := nzQ h1
  subst hM
  exact retC_view (lfQA h1)
 ·rw [if_neg (ne_true h1)] at hM
  refine spQA h1 ?_
  have nh1 := nzQ h1
  have hM0 := hM; clear hM; obtain ⟨f2, d2, hf2, hd2, hM⟩ := iter_opn hM0; clear hM0
  refine ct_loop (fun n S => ∃ p : Int, S = (⟨[(1, .sl none 1 false (counts.map (V.int .i64))), (5, .int .i64 p)], [], 0⟩ : St) ∧ ((0 ≤ p) ∧ (p ≤ (counts.length : Int))) ∧ ((counts.length : Int) - p).toNat < n ∧ iter n f2 d2 p = r) (((counts.length : Int) - 0).toNat + 1) _ sbQ sbQ ⟨0, rfl, ⟨omQ, omQ⟩, (Nat.lt_succ_self _), hM⟩ ?_
  clear hM
  rintro n2 S ⟨p2, rfl, hfa2, hm2, hM⟩
  have hM0 := hM; clear hM; obtain ⟨ag2, hag2, hM⟩ := iter_step hM0 (by omega) hf2; clear hM0
  replace hfa2 := nzQ hfa2
  replace hm2 := nzQ hm2
  have ha2 : addI .i64 p2 1 = p2 + 1 := add_one omQ omQ
  refine spQA ha2 ?_
  have hF := (And.intro h1 ha2)
  exact auQ
end Go.Proofs.Yteolfhljhnplpaa
