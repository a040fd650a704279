import Derived.Test.YtcbdmoihobdjaaaM
import Derived.Test.YtcbdmoihobdjaaaH1
import Derived.Test.YtcbdmoihobdjaaaH2
import Derived.Test.YtcbdmoihobdjaaaH3
import Derived.Test.YtcbdmoihobdjaaaH4
import Derived.Test.YtcbdmoihobdjaaaH5
import Derived.Test.YtcbdmoihobdjaaaH6
import Derived.Test.YtcbdmoihobdjaaaH7
namespace Go.Proofs.Ytcbdmoihobdjaaa
open Go.RowKit
set_option linter.unusedSimpArgs false
set_option maxHeartbeats 2000000 in
set_option maxRecDepth 100000 in
instance payment_valid_ok   (v : S_api_Invoice)  : CM En (payment_valid v) 53 [(e_api_Invoice v)] (fun y => .bool y) (fun _ => []) := by
 refine cmQ fun r hM => ?_
 rw [payment_valid.eq_1] at hM
 refine enterV En_ok En_mo noJ Try.func53 rfl Try.ntmps53 (by kernel_rfl) fun hw => ct_start ?_
 refine spQ ?_
 replace hw := nzQ hw
 have hF := trueQ
 exact auQ
set_option maxHeartbeats 2000000 in
set_option maxRecDepth 100000 in
instance payment_integer_ok   (n_ : Int)  : CM En (payment_integer n_) 27 [.int .i64 n_] (fun y => .agg [.int .i64 y.Kind, .int .i64 y.N, .sl none 1 false (y.B.map (V.int .u8)), .sl none 4 true (y.L.map e_api_Item)]) (fun _ => []) := by
 refine cmQ fun r hM => ?_
 rw [payment_integer.eq_1] at hM
 refine enterV En_ok En_mo noJ Try.func27 rfl Try.ntmps27 (by kernel_rfl) fun hw => ct_start ?_
 refine spQ ?_
 replace hw := nzQ hw
 subst hM
 exact retC_view lfQ
set_option maxHeartbeats 2000000 in
set_option maxRecDepth 100000 in
theorem encode_within_1_ok (N : Nat) (ih : ∀  (i_ : S_api_Item) (depth : Int), hgt i_ < N → CallOk En 81 [.agg [.int .i64 i_.Kind, .int .i64 i_.N, .sl none 1 false (i_.B.map (V.int .u8)), .sl none 4 true (i_.L.map e_api_Item)], .int .i64 depth] (.bool (withinM i_ depth)) [])  (x_ : S_api_Item) (c0 : Int) (hp0 : hgt x_ < N) (hp1 : 0 < c0) : CallOk En 99 [.agg [.int .i64 x_.Kind, .int .i64 x_.N, .sl none 1 false (x_.B.map (V.int .u8)), .sl none 4 true (x_.L.map e_api_Item)], .pp 1 false (.int .i64 c0)] (.bool (encode_within_1 x_ c0)) [] := by
 generalize hM : encode_within_1 x_ c0 = r
 rw [encode_within_1.eq_1] at hM
 refine enterV En_ok En_mo noJ Try.func99 rfl Try.ntmps99 (by kernel_rfl) fun hw => ct_start ?_
 refine spQ ?_
 replace hw := nzQ hw
 have ha1 : subI .i64 c0 1 = (c0 - 1) := sub_ok omQ omQ
 try simp only [ha1]
 have hM0 := hM; clear hM; obtain ⟨x2, hx3, hM⟩ := letk_opn hM0; clear hM0
 have hcx2 := ih  x_ (c0 - 1)  (by omega)
 rw [← hx3] at hcx2
 refine callC_give hcx2 (clQA ha1) (clQA ha1) (fun hw4 => ?_)
 replace hw4 := nzQ hw4
 refine spQA ha1 ?_
 subst hM
 exact retC_view (lfQA ha1)
set_option maxHeartbeats 2000000 in
set_option maxRecDepth 100000 in
theorem slices_IndexFunc_api_Item_api_Item_at_encode_within_1_ok (N : Nat) (ih : ∀  (i_ : S_api_Item) (depth : Int), hgt i_ < N → CallOk En 81 [.agg [.int .i64 i_.Kind, .int .i64 i_.N, .sl none 1 false (i_.B.map (V.int .u8)), .sl none 4 true (i_.L.map e_api_Item)], .int .i64 depth] (.bool (withinM i_ depth)) []) (z0 : Option Bool) (s : (List S_api_Item)) (f__c0 : Int) (hp0 : ∀ x ∈ s, hgt x < N) (hp1 : 0 < f__c0) : CallOk En 100 [.sl z0 4 true (s.map e_api_Item), .fn 99 [.pp 1 false (.int .i64 f__c0)]] (.int .i64 (slices_IndexFunc_api_Item_api_Item_at_encode_within_1 s f__c0)) [] := by
 generalize hM : slices_IndexFunc_api_Item_api_Item_at_encode_within_1 s f__c0 = r
 rw [slices_IndexFunc_api_Item_api_Item_at_encode_within_1.eq_1] at hM
 refine enterV En_ok En_mo noJ Try.func100 rfl Try.ntmps100 (by kernel_rfl) fun hw => ct_start ?_
 refine spQ ?_
 replace hw := nzQ hw
 have hM0 := hM; clear hM; obtain ⟨f1, d1, hf1, hd1, hM⟩ := iter_opn hM0; clear hM0
 refine ct_loop (fun n S => ∃ p : Int, S = (⟨[(0, .sl z0 4 true (s.map e_api_Item)), (1, .fn 99 [.pp 1 false (.int .i64 f__c0)]), (7, .int .i64 (s.length : Int)), (8, .int .i64 p)], [], 0⟩ : St) ∧ ((0 ≤ p) ∧ (p ≤ (s.length : Int))) ∧ ((s.length : Int) - p).toNat < n ∧ iter n f1 d1 p = r) (((s.length : Int) - 0).toNat + 1) _ sbQ sbQ ⟨0, rfl, ⟨omQ, omQ⟩, (Nat.lt_succ_self _), hM⟩ ?_
 clear hM
 rintro n1 S ⟨p1, rfl, hfa1, hm1, hM⟩
 have hM0 := hM; clear hM; obtain ⟨ag1, hag1, hM⟩ := iter_step hM0 (by omega) hf1; clear hM0
 replace hfa1 := nzQ hfa1
 replace hm1 := nzQ hm1
 have ha1 : addI .i64 p1 1 = p1 + 1 := add_one omQ omQ
 refine spQA ha1 ?_
 refine condC_intro (fun h2 => ?_) (fun h2 => ?_)
 ·rw [if_pos h2] at hM
  refine spQA (And.intro ha1 h2) ?_
  have nh2 := nzQ h2
  try have hr3 := mpQ nh2
  refine bindC_intro omQ ?_
  have he4 := fun d => elt_mp (l := s) (f := e_api_Item) (i := p1) omQ d
  refine spQA (And.intro ha1 he4) ?_
  have hM0 := hM; clear hM; obtain ⟨x5, hx6, hM⟩ := letk_opn hM0; clear hM0
  have hcx5 := encode_within_1_ok N ih  (gt s p1) f__c0 (by (first | exact hp1 | exact hp0 _ (gt_mem (by omega)))) (by (first | exact hp1 | exact hp0 _ (gt_mem (by omega))))
  rw [← hx6] at hcx5
  refine callC_give hcx5 (clQA (And.intro ha1 he4)) (clQA (And.intro ha1 he4)) (fun hw7 => ?_)
  replace hw7 := nzQ hw7
  refine spQA (And.intro ha1 he4) ?_
  have hF := (And.intro ha1 (And.intro h2 he4))
  exact auQ
 ·rw [if_neg (ne_true h2)] at hM
  refine spQA (And.intro ha1 h2) ?_
  have nh2 := nzQ h2
  try have hr9 := mpQ nh2
  subst hM
  exact retC_view (lfQA (And.intro ha1 h2))
set_option maxHeartbeats 2000000 in
set_option maxRecDepth 100000 in
theorem slices_ContainsFunc_api_Item_api_Item_at_encode_within_1_ok (N : Nat) (ih : ∀  (i_ : S_api_Item) (depth : Int), hgt i_ < N → CallOk En 81 [.agg [.int .i64 i_.Kind, .int .i64 i_.N, .sl none 1 false (i_.B.map (V.int .u8)), .sl none 4 true (i_.L.map e_api_Item)], .int .i64 depth] (.bool (withinM i_ depth)) []) (z0 : Option Bool) (s : (List S_api_Item)) (f__c0 : Int) (hp0 : ∀ x ∈ s, hgt x < N) (hp1 : 0 < f__c0) : CallOk En 98 [.sl z0 4 true (s.map e_api_Item), .fn 99 [.pp 1 false (.int .i64 f__c0)]] (.bool (slices_ContainsFunc_api_Item_api_Item_at_encode_within_1 s f__c0)) [] := by
 generalize hM : slices_ContainsFunc_api_Item_api_Item_at_encode_within_1 s f__c0 = r
 rw [slices_ContainsFunc_api_Item_api_Item_at_encode_within_1.eq_1] at hM
 refine enterV En_ok En_mo noJ Try.func98 rfl Try.ntmps98 (by kernel_rfl) fun hw => ct_start ?_
 refine spQ ?_
 replace hw := nzQ hw
 have hM0 := hM; clear hM; obtain ⟨x1, hx2, hM⟩ := letk_opn hM0; clear hM0
 have hcx1 := slices_IndexFunc_api_Item_api_Item_at_encode_within_1_ok N ih z0 s f__c0 (by (first | exact hp1 | exact hp0)) (by (first | exact hp1 | exact hp0))
 rw [← hx2] at hcx1
 refine callC_give hcx1 clQ clQ (fun hw3 => ?_)
 replace hw3 := nzQ hw3
 refine spQ ?_
 subst hM
 exact retC_view lfQ
set_option maxHeartbeats 2000000 in
set_option maxRecDepth 100000 in
theorem encode_within_ok (N : Nat) (ih : ∀  (i_ : S_api_Item) (depth : Int), hgt i_ < N → CallOk En 81 [.agg [.int .i64 i_.Kind, .int .i64 i_.N, .sl none 1 false (i_.B.map (V.int .u8)), .sl none 4 true (i_.L.map e_api_Item)], .int .i64 depth] (.bool (withinM i_ depth)) [])  (i_ : S_api_Item) (depth : Int) (hp_ : hgt i_ < N + 1) : CallOk En 81 [.agg [.int .i64 i_.Kind, .int .i64 i_.N, .sl none 1 false (i_.B.map (V.int .u8)), .sl none 4 true (i_.L.map e_api_Item)], .int .i64 depth] (.bool (encode_within i_ depth)) [] := by
 generalize hM : encode_within i_ depth = r
 rw [encode_within.eq_1] at hM
 refine enterV En_ok En_mo noJ Try.func81 rfl Try.ntmps81 (by kernel_rfl) fun hw => ct_start ?_
 refine spQ ?_
 replace hw := nzQ hw
 refine condC_intro (fun h1 => ?_) (fun h1 => ?_)
 ·rw [if_pos h1] at hM
  refine spQA h1 ?_
  have nh1 := nzQ h1
  try have hr2 := mpQ nh1
  have hF := h1
  exact auQ
 ·rw [if_neg (ne_true h1)] at hM
  refine spQA h1 ?_
  have nh1 := nzQ h1
  try have hr6 := mpQ nh1
  refine condC_intro (fun h7 => ?_) (fun h7 => ?_)
  ·rw [if_pos h7] at hM
   refine spQA h7 ?_
   have nh7 := nzQ h7
   try have hr8 := mpQ nh7
   have hF := (And.intro h1 h7)
   exact auQ
  ·rw [if_neg (ne_true h7)] at hM
   refine spQA h7 ?_
   have nh7 := nzQ h7
   try have hr12 := mpQ nh7
   refine condC_intro (fun h13 => ?_) (fun h13 => ?_)
   ·rw [if_pos h13] at hM
    refine spQA h13 ?_
    have nh13 := nzQ h13
    try have hr14 := mpQ nh13
    refine guardC_t (fun h15 => ?_) (fun h15 => ?_)
    ·rw [if_pos h15] at hM
     refine spQA h15 ?_
     have nh15 := nzQ h15
     try have hr16 := mpQ nh15
     refine guardC_t (fun h17 => ?_) (fun h17 => ?_)
     ·rw [if_pos h17] at hM
      refine spQA h17 ?_
      have nh17 := nzQ h17
      try have hr18 := mpQ nh17
      refine guardC_t (fun h19 => ?_) (fun h19 => ?_)
      ·rw [if_pos h19] at hM
       refine spQA h19 ?_
       have nh19 := nzQ h19
       try have hr20 := mpQ nh19
       refine guardC_t (fun h21 => ?_) (fun h21 => ?_)
       ·rw [if_pos h21] at hM
        refine spQA h21 ?_
        have nh21 := nzQ h21
        try have hr22 := mpQ nh21
        have hM0 := hM; clear hM; obtain ⟨x23, hx24, hM⟩ := letk_opn hM0; clear hM0
        have hcx23 := slices_ContainsFunc_api_Item_api_Item_at_encode_within_1_ok N ih none (i_.L) depth (by (first | omega | exact fun x hx => Nat.lt_of_lt_of_le (hgt_L hx) (Nat.lt_succ_iff.1 hp_))) (by (first | omega | exact fun x hx => Nat.lt_of_lt_of_le (hgt_L hx) (Nat.lt_succ_iff.1 hp_)))
        rw [← hx24] at hcx23
        refine callC_look hcx23 clQ clQ (fun hw25 => ?_)
        replace hw25 := nzQ hw25
        refine spQ ?_
        subst hM
        exact retC_view (lfQA (And.intro h1 (And.intro h7 (And.intro h13 (And.intro h15 (And.intro h17 (And.intro h19 h21)))))))
       ·rw [if_neg (ne_true h21)] at hM
        refine spQA h21 ?_
        have nh21 := nzQ h21
        try have hr26 := mpQ nh21
        subst hM
        exact retC_view (lfQA (And.intro h1 (And.intro h7 (And.intro h13 (And.intro h15 (And.intro h17 (And.intro h19 h21)))))))
      ·rw [if_neg (ne_true h19)] at hM
       refine spQA h19 ?_
       have nh19 := nzQ h19
       try have hr27 := mpQ nh19
       subst hM
       exact retC_view (lfQA (And.intro h1 (And.intro h7 (And.intro h13 (And.intro h15 (And.intro h17 h19))))))
     ·rw [if_neg (ne_true h17)] at hM
      refine spQA h17 ?_
      have nh17 := nzQ h17
      try have hr28 := mpQ nh17
      subst hM
      exact retC_view (lfQA (And.intro h1 (And.intro h7 (And.intro h13 (And.intro h15 h17)))))
    ·rw [if_neg (ne_true h15)] at hM
     refine spQA h15 ?_
     have nh15 := nzQ h15
     try have hr29 := mpQ nh15
     subst hM
     exact retC_view (lfQA (And.intro h1 (And.intro h7 (And.intro h13 h15))))
   ·rw [if_neg (ne_true h13)] at hM
    refine spQA h13 ?_
    have nh13 := nzQ h13
    try have hr30 := mpQ nh13
    subst hM
    exact retC_view (lfQA (And.intro h1 (And.intro h7 h13)))
theorem withinM_okN : ∀ (N : Nat)  (i_ : S_api_Item) (depth : Int), hgt i_ < N → CallOk En 81 [.agg [.int .i64 i_.Kind, .int .i64 i_.N, .sl none 1 false (i_.B.map (V.int .u8)), .sl none 4 true (i_.L.map e_api_Item)], .int .i64 depth] (.bool (withinM i_ depth)) [] := by
 intro N
 induction N with
 | zero => intro i_ depth  h; exact absurd h (Nat.not_lt_zero _)
 | succ N ih =>
  intro i_ depth  h
  have h9 := encode_within_ok N ih i_ depth  h
  rw [encode_within_eqM] at h9
  exact h9
theorem withinM_ok  (i_ : S_api_Item) (depth : Int)  : CallOk En 81 [.agg [.int .i64 i_.Kind, .int .i64 i_.N, .sl none 1 false (i_.B.map (V.int .u8)), .sl none 4 true (i_.L.map e_api_Item)], .int .i64 depth] (.bool (withinM i_ depth)) [] :=
 withinM_okN (hgt i_ + 1) i_ depth  (Nat.lt_succ_self _)
set_option maxHeartbeats 2000000 in
set_option maxRecDepth 100000 in
instance encode_Valid_ok   (i_ : S_api_Item)  : CM En (encode_Valid i_) 58 [.agg [.int .i64 i_.Kind, .int .i64 i_.N, .sl none 1 false (i_.B.map (V.int .u8)), .sl none 4 true (i_.L.map e_api_Item)]] (fun y => .bool y) (fun _ => []) := by
 refine cmQ fun r hM => ?_
 rw [encode_Valid.eq_1] at hM
 refine enterV En_ok En_mo noJ Try.func58 rfl Try.ntmps58 (by kernel_rfl) fun hw => ct_start ?_
 refine spQ ?_
 replace hw := nzQ hw
 have hM0 := hM; clear hM; obtain ⟨x1, hx2, hM⟩ := letk_opn hM0; clear hM0
 have hcx1 := withinM_ok  i_ 8 
 rw [← hx2] at hcx1
 refine callC_give hcx1 clQ clQ (fun hw3 => ?_)
 replace hw3 := nzQ hw3
 refine spQ ?_
 subst hM
 exact retC_view lfQ
set_option maxHeartbeats 2000000 in
set_option maxRecDepth 100000 in
theorem encode_number_ok  (z0 : Option Bool) (out : (List Int)) (n_ : Int) (size : Int) (hp0 : size ≤ 8) (hp1 : out.length ≤ 1000000000) (hp2 : 0 ≤ size) : CallIn En 82 [.own 0, .int .u64 n_, .int .i64 size] [.own 5 1 false z0 (out.map (V.int .u8))] (.own 0) [.own 5 1 false none ((encode_number out n_ size).map (V.int .u8))] [] := by
 generalize hM : encode_number out n_ size = r
 rw [encode_number.eq_1] at hM
 refine enterI En_ok En_mo noJ Try.func82 rfl Try.ntmps82 (by kernel_rfl) rfl fun ks hw hwB => ct_start ?_
 refine spQ ?_
 replace hw := nzQ hw
 try simp only [wfBs, wfB, decide_eq_true_eq, decide_eq_false_iff_not, Bool.and_eq_true, Bool.or_eq_true, Bool.not_eq_true', Bool.not_eq_false', beq_iff_eq, bne_iff_ne, beq_eq_false_iff_ne, bne_eq_false_iff_eq, ne_eq, Int.not_lt, Int.not_le, gt_iff_lt, ge_iff_le, List.length_map, wfL, wfV, and_true, true_and, LEN_eq, rng_i64, rng_u64, rng_u32, rng_i32, sl_len, st_len, List.length_append, List.length_cons, List.length_nil, List.length_replicate, rep_len, rowV_len, spl_len, cutN_len, arrN_len, nat8_len, remI_nn] at hwB
 have ha1 : subI .i64 size 1 = (size - 1) := sub_ok omQ omQ
 try simp only [ha1]
 have hM0 := hM; clear hM; obtain ⟨f2, d2, hf2, hd2, hM⟩ := iter_opn hM0; clear hM0
 refine ct_loop (fun n S => ∃ p : Int × List Int, S = (⟨[(0, .own 0), (1, .int .u64 n_), (7, .int .i64 p.1)], [(0, .own 5 1 false none (p.2.map (V.int .u8)))], 1⟩ : St) ∧ ((-1 ≤ p.1) ∧ (p.1 < 8) ∧ (((p.2).length : Int) + p.1 ≤ 1000000020)) ∧ (p.1 + 1).toNat < n ∧ iter n f2 d2 p = r) (((size - 1) + 1).toNat + 1) _ sbQ sbQ ⟨((size - 1), out), rfl, ⟨omQ, omQ, omQ⟩, (Nat.lt_succ_self _), hM⟩ ?_
 clear hM
 rintro n2 S ⟨p2, rfl, hfa2, hm2, hM⟩
 have hM0 := hM; clear hM; obtain ⟨ag2, hag2, hM⟩ := iter_step hM0 (by omega) hf2; clear hM0
 replace hfa2 := nzQ hfa2
 replace hm2 := nzQ hm2
 refine spQA ha1 ?_
 refine condC_intro (fun h3 => ?_) (fun h3 => ?_)
 ·rw [if_pos h3] at hM
  refine spQA (And.intro ha1 h3) ?_
  have nh3 := nzQ h3
  try have hr4 := mpQ nh3
  obtain ⟨ha5, hbha5⟩ := mul_pos_ok (a := 8) (b := p2.1) 8 8 64 omQ omQ omQ omQ (by decide) (by decide)
  try simp only [ha5]
  refine bindC_intro omQ ?_
  refine spQA (And.intro ha1 ha5) ?_
  refine bindC_intro omQ ?_
  refine spQA (And.intro ha1 ha5) ?_
  have ha6 : subI .i64 p2.1 1 = (p2.1 - 1) := sub_ok omQ omQ
  try simp only [ha6]
  refine lp_intro (n2 - 1) _ (by omega) sbQ sbQ ⟨((p2.1 - 1), (p2.2 ++ ([(convI .u8 (shrI .u64 n_ (8 * p2.1)))] : List Int))), rfl, ⟨omQ, omQ, omQ⟩, omQ, iter_again hM hag2⟩
 ·rw [if_neg (ne_true h3)] at hM
  refine spQA (And.intro ha1 h3) ?_
  have nh3 := nzQ h3
  try have hr7 := mpQ nh3
  subst hM
  exact retCI_in [0] (by simp only [go_sem, rowV_eq, rowV_eq0, List.length_replicate, rep_len, Int.toNat_natCast, ↓reduceIte, Nat.reduceEqDiff, Nat.reduceAdd, Int.reduceAdd, Nat.reduceMul, Nat.reduceLeDiff, Nat.reduceLT, Int.reduceLE, Int.reduceLT, Int.reduceNeg, Int.reduceToNat, mt, mtL, mtL_self, mt_self, mtZ, and_self, eq_self, or_true, true_or, map_st, ha1, gt_cons0, gt_conss, Int.reduceSub, or_self, h3]) (by decide) (by simp only [go_sem, rowV_eq, rowV_eq0, List.length_replicate, rep_len, Int.toNat_natCast, ↓reduceIte, Nat.reduceEqDiff, Nat.reduceAdd, Int.reduceAdd, Nat.reduceMul, Nat.reduceLeDiff, Nat.reduceLT, Int.reduceLE, Int.reduceLT, Int.reduceNeg, Int.reduceToNat, mt, mtL, mtL_self, mt_self, mtZ, and_self, eq_self, or_true, true_or, map_st, ha1, gt_cons0, gt_conss, Int.reduceSub, or_self, h3])
set_option maxHeartbeats 2000000 in
set_option maxRecDepth 100000 in
theorem encode_write_ok (N : Nat) (ih : ∀ (z0 : Option Bool) (out : (List Int)) (i_ : S_api_Item), (hgt i_ ≤ 500000000) → hgt i_ < N → CallIn En 59 [.own 0, .agg [.int .i64 i_.Kind, .int .i64 i_.N, .sl none 1 false (i_.B.map (V.int .u8)), .sl none 4 true (i_.L.map e_api_Item)]] [.own 5 1 false z0 (out.map (V.int .u8))] (.own 0) [.own 5 1 false none ((writeM out i_).map (V.int .u8))] []) (z0 : Option Bool) (out : (List Int)) (i_ : S_api_Item) (hp0 : hgt i_ ≤ 500000000) (hp_ : hgt i_ < N + 1) : CallIn En 59 [.own 0, .agg [.int .i64 i_.Kind, .int .i64 i_.N, .sl none 1 false (i_.B.map (V.int .u8)), .sl none 4 true (i_.L.map e_api_Item)]] [.own 5 1 false z0 (out.map (V.int .u8))] (.own 0) [.own 5 1 false none ((encode_write out i_).map (V.int .u8))] [] := by
 generalize hM : encode_write out i_ = r
 rw [encode_write.eq_1] at hM
 refine enterI En_ok En_mo noJ Try.func59 rfl Try.ntmps59 (by kernel_rfl) rfl fun ks hw hwB => ct_start ?_
 refine spQ ?_
 replace hw := nzQ hw
 try simp only [wfBs, wfB, decide_eq_true_eq, decide_eq_false_iff_not, Bool.and_eq_true, Bool.or_eq_true, Bool.not_eq_true', Bool.not_eq_false', beq_iff_eq, bne_iff_ne, beq_eq_false_iff_ne, bne_eq_false_iff_eq, ne_eq, Int.not_lt, Int.not_le, gt_iff_lt, ge_iff_le, List.length_map, wfL, wfV, and_true, true_and, LEN_eq, rng_i64, rng_u64, rng_u32, rng_i32, sl_len, st_len, List.length_append, List.length_cons, List.length_nil, List.length_replicate, rep_len, rowV_len, spl_len, cutN_len, arrN_len, nat8_len, remI_nn] at hwB
 refine condC_intro (fun h1 => ?_) (fun h1 => ?_)
 ·rw [if_pos h1] at hM
  refine spQA h1 ?_
  have nh1 := nzQ h1
  try have hr2 := mpQ nh1
  subst hM
  exact retCI_in [0] (by simp only [go_sem, rowV_eq, rowV_eq0, List.length_replicate, rep_len, Int.toNat_natCast, ↓reduceIte, Nat.reduceEqDiff, Nat.reduceAdd, Int.reduceAdd, Nat.reduceMul, Nat.reduceLeDiff, Nat.reduceLT, Int.reduceLE, Int.reduceLT, Int.reduceNeg, Int.reduceToNat, mt, mtL, mtL_self, mt_self, mtZ, and_self, eq_self, or_true, true_or, map_st, gt_cons0, gt_conss, Int.reduceSub, or_self, h1]) (by decide) (by simp only [go_sem, rowV_eq, rowV_eq0, List.length_replicate, rep_len, Int.toNat_natCast, ↓reduceIte, Nat.reduceEqDiff, Nat.reduceAdd, Int.reduceAdd, Nat.reduceMul, Nat.reduceLeDiff, Nat.reduceLT, Int.reduceLE, Int.reduceLT, Int.reduceNeg, Int.reduceToNat, mt, mtL, mtL_self, mt_self, mtZ, and_self, eq_self, or_true, true_or, map_st, gt_cons0, gt_conss, Int.reduceSub, or_self, h1])
 ·rw [if_neg (ne_true h1)] at hM
  refine spQA h1 ?_
  have nh1 := nzQ h1
  try have hr3 := mpQ nh1
  refine bindC_intro (by (first | exact omQ | (clear hM; first | (have h9 := hgt_eq i_; exact omQ')))) ?_
  refine spQ ?_
  refine condC_intro (fun h4 => ?_) (fun h4 => ?_)
  ·rw [if_pos h4] at hM
   refine spQA h4 ?_
   have nh4 := nzQ h4
   try have hr5 := mpQ nh4
   have hM0 := hM; clear hM; obtain ⟨x6, hx7, hM⟩ := letk_opn hM0; clear hM0
   have hcx6 := encode_number_ok (some false) (out ++ ([(convI .u8 i_.Kind)] : List Int)) (convI .u64 i_.N) 8 (by (simp only [decide_eq_true_eq, decide_eq_false_iff_not, Bool.and_eq_true, Bool.or_eq_true, Bool.not_eq_true', Bool.not_eq_false', beq_iff_eq, bne_iff_ne, beq_eq_false_iff_ne, bne_eq_false_iff_eq, ne_eq, Int.not_lt, Int.not_le, gt_iff_lt, ge_iff_le, List.length_map, wfL, wfV, and_true, true_and, LEN_eq, rng_i64, rng_u64, rng_u32, rng_i32, sl_len, st_len, List.length_append, List.length_cons, List.length_nil, List.length_replicate, rep_len, rowV_len, spl_len, cutN_len, arrN_len, nat8_len, remI_nn] at *; omega)) (by (simp only [decide_eq_true_eq, decide_eq_false_iff_not, Bool.and_eq_true, Bool.or_eq_true, Bool.not_eq_true', Bool.not_eq_false', beq_iff_eq, bne_iff_ne, beq_eq_false_iff_ne, bne_eq_false_iff_eq, ne_eq, Int.not_lt, Int.not_le, gt_iff_lt, ge_iff_le, List.length_map, wfL, wfV, and_true, true_and, LEN_eq, rng_i64, rng_u64, rng_u32, rng_i32, sl_len, st_len, List.length_append, List.length_cons, List.length_nil, List.length_replicate, rep_len, rowV_len, spl_len, cutN_len, arrN_len, nat8_len, remI_nn] at *; omega)) (by (simp only [decide_eq_true_eq, decide_eq_false_iff_not, Bool.and_eq_true, Bool.or_eq_true, Bool.not_eq_true', Bool.not_eq_false', beq_iff_eq, bne_iff_ne, beq_eq_false_iff_ne, bne_eq_false_iff_eq, ne_eq, Int.not_lt, Int.not_le, gt_iff_lt, ge_iff_le, List.length_map, wfL, wfV, and_true, true_and, LEN_eq, rng_i64, rng_u64, rng_u32, rng_i32, sl_len, st_len, List.length_append, List.length_cons, List.length_nil, List.length_replicate, rep_len, rowV_len, spl_len, cutN_len, arrN_len, nat8_len, remI_nn] at *; omega))
   rw [← hx7] at hcx6
   refine callC_in [0] hcx6 (by decide) (by simp only [go_sem, rowV_eq, rowV_eq0, List.length_replicate, rep_len, Int.toNat_natCast, ↓reduceIte, Nat.reduceEqDiff, Nat.reduceAdd, Int.reduceAdd, Nat.reduceMul, Nat.reduceLeDiff, Nat.reduceLT, Int.reduceLE, Int.reduceLT, Int.reduceNeg, Int.reduceToNat, mt, mtL, mtL_self, mt_self, mtZ, and_self, eq_self, or_true, true_or]) (by simp only [go_sem, rowV_eq, rowV_eq0, List.length_replicate, rep_len, Int.toNat_natCast, ↓reduceIte, Nat.reduceEqDiff, Nat.reduceAdd, Int.reduceAdd, Nat.reduceMul, Nat.reduceLeDiff, Nat.reduceLT, Int.reduceLE, Int.reduceLT, Int.reduceNeg, Int.reduceToNat, mt, mtL, mtL_self, mt_self, mtZ, and_self, eq_self, or_true, true_or]) (fun hw8 => ?_)
   replace hw8 := nzQ hw8
   refine spQ ?_
   have hq9 := num_le hx7
   replace hq9 := nzQ hq9
   subst hM
   exact retCI_in [0] (by simp only [go_sem, rowV_eq, rowV_eq0, List.length_replicate, rep_len, Int.toNat_natCast, ↓reduceIte, Nat.reduceEqDiff, Nat.reduceAdd, Int.reduceAdd, Nat.reduceMul, Nat.reduceLeDiff, Nat.reduceLT, Int.reduceLE, Int.reduceLT, Int.reduceNeg, Int.reduceToNat, mt, mtL, mtL_self, mt_self, mtZ, and_self, eq_self, or_true, true_or, map_st, gt_cons0, gt_conss, Int.reduceSub, or_self, h1, h4]) (by decide) (by simp only [go_sem, rowV_eq, rowV_eq0, List.length_replicate, rep_len, Int.toNat_natCast, ↓reduceIte, Nat.reduceEqDiff, Nat.reduceAdd, Int.reduceAdd, Nat.reduceMul, Nat.reduceLeDiff, Nat.reduceLT, Int.reduceLE, Int.reduceLT, Int.reduceNeg, Int.reduceToNat, mt, mtL, mtL_self, mt_self, mtZ, and_self, eq_self, or_true, true_or, map_st, gt_cons0, gt_conss, Int.reduceSub, or_self, h1, h4])
  ·rw [if_neg (ne_true h4)] at hM
   refine spQA h4 ?_
   have nh4 := nzQ h4
   try have hr10 := mpQ nh4
   refine condC_intro (fun h11 => ?_) (fun h11 => ?_)
   ·rw [if_pos h11] at hM
    refine spQA h11 ?_
    have nh11 := nzQ h11
    try have hr12 := mpQ nh11
    refine ct_draw 55 8 [28, 29, 30, 31, 32, 33, 34, 35] [] ([[], [], [1], [1, 2], [1, 2, 3], [0, 1, 2, 3, 4], [], [6]] ++ [List.range 8, List.range 9]) [(5, 0)] (by kernel_rfl) (by exact alQ) ?_
    refine spQ ?_
    have hM0 := hM; clear hM; obtain ⟨x13, hx14, hM⟩ := letk_opn hM0; clear hM0
    have hcx13 := encode_number_ok (some false) (out ++ ([(convI .u8 i_.Kind)] : List Int)) (convI .u64 (i_.B.length : Int)) 4 (by (simp only [decide_eq_true_eq, decide_eq_false_iff_not, Bool.and_eq_true, Bool.or_eq_true, Bool.not_eq_true', Bool.not_eq_false', beq_iff_eq, bne_iff_ne, beq_eq_false_iff_ne, bne_eq_false_iff_eq, ne_eq, Int.not_lt, Int.not_le, gt_iff_lt, ge_iff_le, List.length_map, wfL, wfV, and_true, true_and, LEN_eq, rng_i64, rng_u64, rng_u32, rng_i32, sl_len, st_len, List.length_append, List.length_cons, List.length_nil, List.length_replicate, rep_len, rowV_len, spl_len, cutN_len, arrN_len, nat8_len, remI_nn] at *; omega)) (by (simp only [decide_eq_true_eq, decide_eq_false_iff_not, Bool.and_eq_true, Bool.or_eq_true, Bool.not_eq_true', Bool.not_eq_false', beq_iff_eq, bne_iff_ne, beq_eq_false_iff_ne, bne_eq_false_iff_eq, ne_eq, Int.not_lt, Int.not_le, gt_iff_lt, ge_iff_le, List.length_map, wfL, wfV, and_true, true_and, LEN_eq, rng_i64, rng_u64, rng_u32, rng_i32, sl_len, st_len, List.length_append, List.length_cons, List.length_nil, List.length_replicate, rep_len, rowV_len, spl_len, cutN_len, arrN_len, nat8_len, remI_nn] at *; omega)) (by (simp only [decide_eq_true_eq, decide_eq_false_iff_not, Bool.and_eq_true, Bool.or_eq_true, Bool.not_eq_true', Bool.not_eq_false', beq_iff_eq, bne_iff_ne, beq_eq_false_iff_ne, bne_eq_false_iff_eq, ne_eq, Int.not_lt, Int.not_le, gt_iff_lt, ge_iff_le, List.length_map, wfL, wfV, and_true, true_and, LEN_eq, rng_i64, rng_u64, rng_u32, rng_i32, sl_len, st_len, List.length_append, List.length_cons, List.length_nil, List.length_replicate, rep_len, rowV_len, spl_len, cutN_len, arrN_len, nat8_len, remI_nn] at *; omega))
    rw [← hx14] at hcx13
    refine hcallC_kill 0 hcx13 (by simp only [go_sem, rowV_eq, rowV_eq0, List.length_replicate, rep_len, Int.toNat_natCast, ↓reduceIte, Nat.reduceEqDiff, Nat.reduceAdd, Int.reduceAdd, Nat.reduceMul, Nat.reduceLeDiff, Nat.reduceLT, Int.reduceLE, Int.reduceLT, Int.reduceNeg, Int.reduceToNat, mt, mtL, mtL_self, mt_self, mtZ, and_self, eq_self, or_true, true_or]) (by simp only [go_sem, rowV_eq, rowV_eq0, List.length_replicate, rep_len, Int.toNat_natCast, ↓reduceIte, Nat.reduceEqDiff, Nat.reduceAdd, Int.reduceAdd, Nat.reduceMul, Nat.reduceLeDiff, Nat.reduceLT, Int.reduceLE, Int.reduceLT, Int.reduceNeg, Int.reduceToNat, mt, mtL, mtL_self, mt_self, mtZ, and_self, eq_self, or_true, true_or]) (by simp only [go_sem, rowV_eq, rowV_eq0, List.length_replicate, rep_len, Int.toNat_natCast, ↓reduceIte, Nat.reduceEqDiff, Nat.reduceAdd, Int.reduceAdd, Nat.reduceMul, Nat.reduceLeDiff, Nat.reduceLT, Int.reduceLE, Int.reduceLT, Int.reduceNeg, Int.reduceToNat, mt, mtL, mtL_self, mt_self, mtZ, and_self, eq_self, or_true, true_or]) (flatL_map fun _ => (by simp only [go_sem, rowV_eq, rowV_eq0, List.length_replicate, rep_len, Int.toNat_natCast, ↓reduceIte, Nat.reduceEqDiff, Nat.reduceAdd, Int.reduceAdd, Nat.reduceMul, Nat.reduceLeDiff, Nat.reduceLT, Int.reduceLE, Int.reduceLT, Int.reduceNeg, Int.reduceToNat, mt, mtL, mtL_self, mt_self, mtZ, and_self, eq_self, or_true, true_or])) ?_
    refine spQ ?_
    have hq15 := num_le hx14
    replace hq15 := nzQ hq15
    refine bindC_intro (by (first | exact omQ | (clear hM; first | (have h9 := hgt_eq i_; exact omQ')))) ?_
    refine spQ ?_
    subst hM
    exact retCI_in [8] (by simp only [go_sem, rowV_eq, rowV_eq0, List.length_replicate, rep_len, Int.toNat_natCast, ↓reduceIte, Nat.reduceEqDiff, Nat.reduceAdd, Int.reduceAdd, Nat.reduceMul, Nat.reduceLeDiff, Nat.reduceLT, Int.reduceLE, Int.reduceLT, Int.reduceNeg, Int.reduceToNat, mt, mtL, mtL_self, mt_self, mtZ, and_self, eq_self, or_true, true_or, map_st, gt_cons0, gt_conss, Int.reduceSub, or_self, h1, h4, h11]) (by decide) (by simp only [go_sem, rowV_eq, rowV_eq0, List.length_replicate, rep_len, Int.toNat_natCast, ↓reduceIte, Nat.reduceEqDiff, Nat.reduceAdd, Int.reduceAdd, Nat.reduceMul, Nat.reduceLeDiff, Nat.reduceLT, Int.reduceLE, Int.reduceLT, Int.reduceNeg, Int.reduceToNat, mt, mtL, mtL_self, mt_self, mtZ, and_self, eq_self, or_true, true_or, map_st, gt_cons0, gt_conss, Int.reduceSub, or_self, h1, h4, h11])
   ·rw [if_neg (ne_true h11)] at hM
    refine spQA h11 ?_
    have nh11 := nzQ h11
    try have hr16 := mpQ nh11
    have hM0 := hM; clear hM; obtain ⟨x17, hx18, hM⟩ := letk_opn hM0; clear hM0
    have hcx17 := encode_number_ok (some false) (out ++ ([(convI .u8 i_.Kind)] : List Int)) (convI .u64 (i_.L.length : Int)) 4 (by (simp only [decide_eq_true_eq, decide_eq_false_iff_not, Bool.and_eq_true, Bool.or_eq_true, Bool.not_eq_true', Bool.not_eq_false', beq_iff_eq, bne_iff_ne, beq_eq_false_iff_ne, bne_eq_false_iff_eq, ne_eq, Int.not_lt, Int.not_le, gt_iff_lt, ge_iff_le, List.length_map, wfL, wfV, and_true, true_and, LEN_eq, rng_i64, rng_u64, rng_u32, rng_i32, sl_len, st_len, List.length_append, List.length_cons, List.length_nil, List.length_replicate, rep_len, rowV_len, spl_len, cutN_len, arrN_len, nat8_len, remI_nn] at *; omega)) (by (simp only [decide_eq_true_eq, decide_eq_false_iff_not, Bool.and_eq_true, Bool.or_eq_true, Bool.not_eq_true', Bool.not_eq_false', beq_iff_eq, bne_iff_ne, beq_eq_false_iff_ne, bne_eq_false_iff_eq, ne_eq, Int.not_lt, Int.not_le, gt_iff_lt, ge_iff_le, List.length_map, wfL, wfV, and_true, true_and, LEN_eq, rng_i64, rng_u64, rng_u32, rng_i32, sl_len, st_len, List.length_append, List.length_cons, List.length_nil, List.length_replicate, rep_len, rowV_len, spl_len, cutN_len, arrN_len, nat8_len, remI_nn] at *; omega)) (by (simp only [decide_eq_true_eq, decide_eq_false_iff_not, Bool.and_eq_true, Bool.or_eq_true, Bool.not_eq_true', Bool.not_eq_false', beq_iff_eq, bne_iff_ne, beq_eq_false_iff_ne, bne_eq_false_iff_eq, ne_eq, Int.not_lt, Int.not_le, gt_iff_lt, ge_iff_le, List.length_map, wfL, wfV, and_true, true_and, LEN_eq, rng_i64, rng_u64, rng_u32, rng_i32, sl_len, st_len, List.length_append, List.length_cons, List.length_nil, List.length_replicate, rep_len, rowV_len, spl_len, cutN_len, arrN_len, nat8_len, remI_nn] at *; omega))
    rw [← hx18] at hcx17
    refine callC_in [0] hcx17 (by decide) (by simp only [go_sem, rowV_eq, rowV_eq0, List.length_replicate, rep_len, Int.toNat_natCast, ↓reduceIte, Nat.reduceEqDiff, Nat.reduceAdd, Int.reduceAdd, Nat.reduceMul, Nat.reduceLeDiff, Nat.reduceLT, Int.reduceLE, Int.reduceLT, Int.reduceNeg, Int.reduceToNat, mt, mtL, mtL_self, mt_self, mtZ, and_self, eq_self, or_true, true_or]) (by simp only [go_sem, rowV_eq, rowV_eq0, List.length_replicate, rep_len, Int.toNat_natCast, ↓reduceIte, Nat.reduceEqDiff, Nat.reduceAdd, Int.reduceAdd, Nat.reduceMul, Nat.reduceLeDiff, Nat.reduceLT, Int.reduceLE, Int.reduceLT, Int.reduceNeg, Int.reduceToNat, mt, mtL, mtL_self, mt_self, mtZ, and_self, eq_self, or_true, true_or]) (fun hw19 => ?_)
    replace hw19 := nzQ hw19
    refine spQ ?_
    have hq20 := num_le hx18
    replace hq20 := nzQ hq20
    have hM0 := hM; clear hM; obtain ⟨f21, d21, hf21, hd21, hM⟩ := iter_opn hM0; clear hM0
    refine ct_loop (fun n S => ∃ p : Int × List Int, S = (⟨[(0, .own 0), (44, .sl none 4 true (i_.L.map e_api_Item)), (45, .int .i64 (i_.L.length : Int)), (46, .int .i64 p.1)], [(0, .own 5 1 false none (p.2.map (V.int .u8)))], 3⟩ : St) ∧ ((0 ≤ p.1) ∧ (p.1 ≤ (i_.L.length : Int))) ∧ ((i_.L.length : Int) - p.1).toNat < n ∧ iter n f21 d21 p = r) (((i_.L.length : Int) - 0).toNat + 1) _ sbQ sbQ ⟨(0, x17), rfl, ⟨by (first | exact omQ | (clear hM; first | (have h9 := hgt_eq i_; exact omQ'))), by (first | exact omQ | (clear hM; first | (have h9 := hgt_eq i_; exact omQ')))⟩, (Nat.lt_succ_self _), hM⟩ ?_
    clear hM
    rintro n21 S ⟨p21, rfl, hfa21, hm21, hM⟩
    have hM0 := hM; clear hM; obtain ⟨ag21, hag21, hM⟩ := iter_step hM0 (by omega) hf21; clear hM0
    replace hfa21 := nzQ hfa21
    replace hm21 := nzQ hm21
    have ha21 : addI .i64 p21.1 1 = p21.1 + 1 := add_one (by (first | exact omQ | (clear hM; first | (have h9 := hgt_eq i_; exact omQ')))) (by (first | exact omQ | (clear hM; first | (have h9 := hgt_eq i_; exact omQ'))))
    refine spQA ha21 ?_
    refine condC_intro (fun h22 => ?_) (fun h22 => ?_)
    ·rw [if_pos h22] at hM
     refine spQA (And.intro ha21 h22) ?_
     have nh22 := nzQ h22
     try have hr23 := mpQ nh22
     refine bindC_intro (by (first | exact omQ | (clear hM; first | (have h9 := hgt_eq i_; exact omQ')))) ?_
     have he24 := fun d => elt_mp (l := i_.L) (f := e_api_Item) (i := p21.1) (by (first | exact omQ | (clear hM; first | (have h9 := hgt_eq i_; exact omQ')))) d
     refine spQA (And.intro ha21 he24) ?_
     have hM0 := hM; clear hM; obtain ⟨x25, hx26, hM⟩ := letk_opn hM0; clear hM0
     have hcx25 := ih none (p21.2) (gt i_.L p21.1) (by (have h9 := hgt_L (i := i_) (gt_mem (l := i_.L) (i := p21.1) (by omega)); omega)) (by (have h9 := hgt_L (i := i_) (gt_mem (l := i_.L) (i := p21.1) (by omega)); omega))
     rw [← hx26] at hcx25
     refine callC_in [0] hcx25 (by decide) (by simp only [go_sem, rowV_eq, rowV_eq0, List.length_replicate, rep_len, Int.toNat_natCast, ↓reduceIte, Nat.reduceEqDiff, Nat.reduceAdd, Int.reduceAdd, Nat.reduceMul, Nat.reduceLeDiff, Nat.reduceLT, Int.reduceLE, Int.reduceLT, Int.reduceNeg, Int.reduceToNat, mt, mtL, mtL_self, mt_self, mtZ, and_self, eq_self, or_true, true_or, ha21, he24]) (by simp only [go_sem, rowV_eq, rowV_eq0, List.length_replicate, rep_len, Int.toNat_natCast, ↓reduceIte, Nat.reduceEqDiff, Nat.reduceAdd, Int.reduceAdd, Nat.reduceMul, Nat.reduceLeDiff, Nat.reduceLT, Int.reduceLE, Int.reduceLT, Int.reduceNeg, Int.reduceToNat, mt, mtL, mtL_self, mt_self, mtZ, and_self, eq_self, or_true, true_or, ha21, he24]) (fun hw27 => ?_)
     replace hw27 := nzQ hw27
     refine spQA (And.intro ha21 he24) ?_
     refine lp_intro (n21 - 1) _ (by omega) sbQ sbQ ⟨((p21.1 + 1), x25), rfl, ⟨by (first | exact omQ | (clear hM; first | (have h9 := hgt_eq i_; exact omQ'))), by (first | exact omQ | (clear hM; first | (have h9 := hgt_eq i_; exact omQ')))⟩, by (first | exact omQ | (clear hM; first | (have h9 := hgt_eq i_; exact omQ'))), iter_again hM hag21⟩
    ·rw [if_neg (ne_true h22)] at hM
     refine spQA (And.intro ha21 h22) ?_
     have nh22 := nzQ h22
     try have hr28 := mpQ nh22
     subst hM
     exact retCI_in [0] (by simp only [go_sem, rowV_eq, rowV_eq0, List.length_replicate, rep_len, Int.toNat_natCast, ↓reduceIte, Nat.reduceEqDiff, Nat.reduceAdd, Int.reduceAdd, Nat.reduceMul, Nat.reduceLeDiff, Nat.reduceLT, Int.reduceLE, Int.reduceLT, Int.reduceNeg, Int.reduceToNat, mt, mtL, mtL_self, mt_self, mtZ, and_self, eq_self, or_true, true_or, map_st, ha21, gt_cons0, gt_conss, Int.reduceSub, or_self, h1, h4, h11, h22]) (by decide) (by simp only [go_sem, rowV_eq, rowV_eq0, List.length_replicate, rep_len, Int.toNat_natCast, ↓reduceIte, Nat.reduceEqDiff, Nat.reduceAdd, Int.reduceAdd, Nat.reduceMul, Nat.reduceLeDiff, Nat.reduceLT, Int.reduceLE, Int.reduceLT, Int.reduceNeg, Int.reduceToNat, mt, mtL, mtL_self, mt_self, mtZ, and_self, eq_self, or_true, true_or, map_st, ha21, gt_cons0, gt_conss, Int.reduceSub, or_self, h1, h4, h11, h22])
theorem writeM_okN : ∀ (N : Nat) (z0 : Option Bool) (out : (List Int)) (i_ : S_api_Item), (hgt i_ ≤ 500000000) → hgt i_ < N → CallIn En 59 [.own 0, .agg [.int .i64 i_.Kind, .int .i64 i_.N, .sl none 1 false (i_.B.map (V.int .u8)), .sl none 4 true (i_.L.map e_api_Item)]] [.own 5 1 false z0 (out.map (V.int .u8))] (.own 0) [.own 5 1 false none ((writeM out i_).map (V.int .u8))] [] := by
 intro N
 induction N with
 | zero => intro z0 out i_ h0 h; exact absurd h (Nat.not_lt_zero _)
 | succ N ih =>
  intro z0 out i_ h0 h
  have h9 := encode_write_ok N ih z0 out i_ h0 h
  rw [encode_write_eqM] at h9
  exact h9
theorem writeM_ok (z0 : Option Bool) (out : (List Int)) (i_ : S_api_Item) (hp0 : hgt i_ ≤ 500000000) : CallIn En 59 [.own 0, .agg [.int .i64 i_.Kind, .int .i64 i_.N, .sl none 1 false (i_.B.map (V.int .u8)), .sl none 4 true (i_.L.map e_api_Item)]] [.own 5 1 false z0 (out.map (V.int .u8))] (.own 0) [.own 5 1 false none ((writeM out i_).map (V.int .u8))] [] :=
 writeM_okN (hgt i_ + 1) z0 out i_ hp0 (Nat.lt_succ_self _)
set_option maxHeartbeats 2000000 in
set_option maxRecDepth 100000 in
theorem encode_Encode_ok   (i_ : S_api_Item) (hp0 : hgt i_ ≤ 500000000) : CM En (encode_Encode i_) 26 [.agg [.int .i64 i_.Kind, .int .i64 i_.N, .sl none 1 false (i_.B.map (V.int .u8)), .sl none 4 true (i_.L.map e_api_Item)]] (fun y => .tup [.sl none 1 false (y.1.map (V.int .u8)), .int .i64 y.2]) (fun _ => []) := by
 refine cmQ fun r hM => ?_
 rw [encode_Encode.eq_1] at hM
 refine enterV En_ok En_mo noJ Try.func26 rfl Try.ntmps26 (by kernel_rfl) fun hw => ct_start ?_
 refine spQ ?_
 replace hw := nzQ hw
 have hM0 := hM; clear hM; obtain ⟨x1, hx2, hM⟩ := letk_opn hM0; clear hM0
 have hcx1 := cmU hx2
 refine callC_give hcx1 clQ clQ (fun hw3 => ?_)
 replace hw3 := nzQ hw3
 refine spQ ?_
 refine condC_intro (fun h4 => ?_) (fun h4 => ?_)
 ·rw [if_pos h4] at hM
  refine spQA h4 ?_
  have nh4 := nzQ h4
  try have hr5 := mpQ nh4
  subst hM
  exact retC_view (lfQA h4)
 ·rw [if_neg (ne_true h4)] at hM
  refine spQA h4 ?_
  have nh4 := nzQ h4
  try have hr6 := mpQ nh4
  have hM0 := hM; clear hM; obtain ⟨x7, hx8, hM⟩ := letk_opn hM0; clear hM0
  have hcx7 := callIn_nil (pre := []) (post := [_]) (writeM_ok (some true) ([] : List Int) i_ (by (simp only [decide_eq_true_eq, decide_eq_false_iff_not, Bool.and_eq_true, Bool.or_eq_true, Bool.not_eq_true', Bool.not_eq_false', beq_iff_eq, bne_iff_ne, beq_eq_false_iff_ne, bne_eq_false_iff_eq, ne_eq, Int.not_lt, Int.not_le, gt_iff_lt, ge_iff_le, List.length_map, wfL, wfV, and_true, true_and, LEN_eq, rng_i64, rng_u64, rng_u32, rng_i32, sl_len, st_len, List.length_append, List.length_cons, List.length_nil, List.length_replicate, rep_len, rowV_len, spl_len, cutN_len, arrN_len, nat8_len, remI_nn] at *; omega))) (by decide)
  rw [← hx8] at hcx7
  simp only [List.nil_append, List.cons_append] at hcx7
  refine callC_giveG hcx7 clQ (fun hw9 => ?_)
  replace hw9 := nzQ hw9
  refine spQ ?_
  have hF := h4
  exact auQ
set_option maxHeartbeats 2000000 in
set_option maxRecDepth 100000 in
instance payment_Invoice_ok   (v : S_api_Invoice)  : CM En (payment_Invoice v) 18 [(e_api_Invoice v)] (fun y => .tup [.sl none 1 false (y.1.map (V.int .u8)), .int .i64 y.2]) (fun _ => []) := by
 refine cmQ fun r hM => ?_
 rw [payment_Invoice.eq_1] at hM
 refine enterV En_ok En_mo [3] Try.func18 rfl Try.ntmps18 (by kernel_rfl) fun hw => ct_start ?_
 refine spQ ?_
 replace hw := nzQ hw
 refine seqC_pass ?_
 refine spQ ?_
 have hM0 := hM; clear hM; obtain ⟨x1, hx2, hM⟩ := letk_opn hM0; clear hM0
 have hcx1 := cmU hx2
 refine callC_give hcx1 clQ clQ (fun hw3 => ?_)
 replace hw3 := nzQ hw3
 refine spQ ?_
 refine condC_intro (fun h4 => ?_) (fun h4 => ?_)
 ·rw [if_pos h4] at hM
  refine spQA h4 ?_
  have nh4 := nzQ h4
  try have hr5 := mpQ nh4
  subst hM
  exact retC_view (lfQA h4)
 ·rw [if_neg (ne_true h4)] at hM
  refine spQA h4 ?_
  have nh4 := nzQ h4
  try have hr6 := mpQ nh4
  refine cut_weakW _ (⟨[(1, .ptr 0 0)], [(0, .pvar 35 true ((e_api_Invoice v)))], 1⟩ : St) (weak_pubv (S := ⟨_, _, _⟩) 0 (n := 35) (g := true) (d := (e_api_Invoice v)) clQ clQ) sbQ sbQ ?_
  try refine spQ ?_
  refine ct_draw 24 17 [7, 8, 9, 10, 11, 12, 13, 14, 15, 16, 17, 18, 19, 20, 21, 22, 23] [] ([[], [0], [0, 1], [], [3], [3, 4], [], [6], [6, 7], [], [9], [9, 10], [0, 1, 2, 3, 4, 5, 6, 7, 8, 9, 10, 11], [0, 1, 2, 3, 4, 5, 6, 7, 8, 9, 10, 11, 12], [0, 1, 2, 3, 4, 5, 6, 7, 8, 9, 10, 11, 12, 13], [0, 1, 2, 3, 4, 5, 6, 7, 8, 9, 10, 11, 12, 13, 14], [0, 1, 2, 3, 4, 5, 6, 7, 8, 9, 10, 11, 12, 13, 14]] ++ [List.range 17, List.range 18]) [(12, 13)] (by kernel_rfl) (by exact alQ) ?_
  refine spQ ?_
  have hM0 := hM; clear hM; obtain ⟨x7, hx8, hM⟩ := letk_opn hM0; clear hM0
  have hcx7 := cmU hx8
  refine hcallC_give hcx7 clQ clQ ?_
  refine spQ ?_
  have hq9 := hgt_int hx8
  replace hq9 := nzQ hq9
  have hM0 := hM; clear hM; obtain ⟨x10, hx11, hM⟩ := letk_opn hM0; clear hM0
  have hcx10 := cmU hx11
  refine hcallC_give hcx10 clQ clQ ?_
  refine spQ ?_
  have hq12 := hgt_int hx11
  replace hq12 := nzQ hq12
  have hM0 := hM; clear hM; obtain ⟨x13, hx14, hM⟩ := letk_opn hM0; clear hM0
  have hcx13 := cmU hx14
  refine hcallC_give hcx13 clQ clQ ?_
  refine spQ ?_
  have hq15 := hgt_int hx14
  replace hq15 := nzQ hq15
  have hM0 := hM; clear hM; obtain ⟨x16, hx17, hM⟩ := letk_opn hM0; clear hM0
  have hcx16 := cmH hx17 (encode_Encode_ok  ({ Kind := 3, N := 0, B := ([] : List Int), L := ([({ Kind := 2, N := 0, B := (arrN 32 v.Payee), L := ([] : List S_api_Item) } : S_api_Item), x7, x10, x13] : List S_api_Item) } : S_api_Item) (by (simp only [hgt, hgtL, arrN_len, List.length_nil]; omega)))
  refine hcallC_give hcx16 clQ clQ ?_
  refine spQ ?_
  subst hM
  exact retC_view (lfQA h4)
set_option maxHeartbeats 2000000 in
set_option maxRecDepth 100000 in
theorem encode_reader_fail_ok   (r_ : S_encode_reader) (e_ : Int)  : CallIn En 65 [.ptr 0 0, .int .i64 e_] [.var 2 true (.agg [.sl none 1 false (r_.b.map (V.int .u8)), .int .i64 r_.e])] (.tup []) [.var 2 true (.agg [.sl none 1 false ((encode_reader_fail r_ e_).b.map (V.int .u8)), .int .i64 (encode_reader_fail r_ e_).e])] [] := by
 generalize hM : encode_reader_fail r_ e_ = r
 rw [encode_reader_fail.eq_1] at hM
 refine enterI En_ok En_mo noJ Try.func65 rfl Try.ntmps65 (by kernel_rfl) rfl fun ks hw hwB => ct_start ?_
 refine spQ ?_
 replace hw := nzQ hw
 try simp only [wfBs, wfB, decide_eq_true_eq, decide_eq_false_iff_not, Bool.and_eq_true, Bool.or_eq_true, Bool.not_eq_true', Bool.not_eq_false', beq_iff_eq, bne_iff_ne, beq_eq_false_iff_ne, bne_eq_false_iff_eq, ne_eq, Int.not_lt, Int.not_le, gt_iff_lt, ge_iff_le, List.length_map, wfL, wfV, and_true, true_and, LEN_eq, rng_i64, rng_u64, rng_u32, rng_i32, sl_len, st_len, List.length_append, List.length_cons, List.length_nil, List.length_replicate, rep_len, rowV_len, spl_len, cutN_len, arrN_len, nat8_len, remI_nn] at hwB
 refine condC_intro (fun h1 => ?_) (fun h1 => ?_)
 ·rw [if_pos h1] at hM
  refine spQA h1 ?_
  have nh1 := nzQ h1
  try have hr2 := mpQ nh1
  subst hM
  exact retCI_in [0] (by simp only [go_sem, rowV_eq, rowV_eq0, List.length_replicate, rep_len, Int.toNat_natCast, ↓reduceIte, Nat.reduceEqDiff, Nat.reduceAdd, Int.reduceAdd, Nat.reduceMul, Nat.reduceLeDiff, Nat.reduceLT, Int.reduceLE, Int.reduceLT, Int.reduceNeg, Int.reduceToNat, mt, mtL, mtL_self, mt_self, mtZ, and_self, eq_self, or_true, true_or, map_st, gt_cons0, gt_conss, Int.reduceSub, or_self, h1]) (by decide) (by simp only [go_sem, rowV_eq, rowV_eq0, List.length_replicate, rep_len, Int.toNat_natCast, ↓reduceIte, Nat.reduceEqDiff, Nat.reduceAdd, Int.reduceAdd, Nat.reduceMul, Nat.reduceLeDiff, Nat.reduceLT, Int.reduceLE, Int.reduceLT, Int.reduceNeg, Int.reduceToNat, mt, mtL, mtL_self, mt_self, mtZ, and_self, eq_self, or_true, true_or, map_st, gt_cons0, gt_conss, Int.reduceSub, or_self, h1])
 ·rw [if_neg (ne_true h1)] at hM
  refine spQA h1 ?_
  have nh1 := nzQ h1
  try have hr3 := mpQ nh1
  subst hM
  exact retCI_in [0] (by simp only [go_sem, rowV_eq, rowV_eq0, List.length_replicate, rep_len, Int.toNat_natCast, ↓reduceIte, Nat.reduceEqDiff, Nat.reduceAdd, Int.reduceAdd, Nat.reduceMul, Nat.reduceLeDiff, Nat.reduceLT, Int.reduceLE, Int.reduceLT, Int.reduceNeg, Int.reduceToNat, mt, mtL, mtL_self, mt_self, mtZ, and_self, eq_self, or_true, true_or, map_st, gt_cons0, gt_conss, Int.reduceSub, or_self, h1]) (by decide) (by simp only [go_sem, rowV_eq, rowV_eq0, List.length_replicate, rep_len, Int.toNat_natCast, ↓reduceIte, Nat.reduceEqDiff, Nat.reduceAdd, Int.reduceAdd, Nat.reduceMul, Nat.reduceLeDiff, Nat.reduceLT, Int.reduceLE, Int.reduceLT, Int.reduceNeg, Int.reduceToNat, mt, mtL, mtL_self, mt_self, mtZ, and_self, eq_self, or_true, true_or, map_st, gt_cons0, gt_conss, Int.reduceSub, or_self, h1])
set_option maxHeartbeats 2000000 in
set_option maxRecDepth 100000 in
theorem encode_reader_take_ok   (r_ : S_encode_reader) (n_ : Int) (hp0 : 0 ≤ n_) : CallIn En 88 [.ptr 0 0, .int .i64 n_] [.var 2 true (.agg [.sl none 1 false (r_.b.map (V.int .u8)), .int .i64 r_.e])] (.sl none 1 false ((encode_reader_take r_ n_).1.map (V.int .u8))) [.var 2 true (.agg [.sl none 1 false ((encode_reader_take r_ n_).2.b.map (V.int .u8)), .int .i64 (encode_reader_take r_ n_).2.e])] [] := by
 generalize hM : encode_reader_take r_ n_ = r
 rw [encode_reader_take.eq_1] at hM
 refine enterI En_ok En_mo noJ Try.func88 rfl Try.ntmps88 (by kernel_rfl) rfl fun ks hw hwB => ct_start ?_
 refine spQ ?_
 replace hw := nzQ hw
 try simp only [wfBs, wfB, decide_eq_true_eq, decide_eq_false_iff_not, Bool.and_eq_true, Bool.or_eq_true, Bool.not_eq_true', Bool.not_eq_false', beq_iff_eq, bne_iff_ne, beq_eq_false_iff_ne, bne_eq_false_iff_eq, ne_eq, Int.not_lt, Int.not_le, gt_iff_lt, ge_iff_le, List.length_map, wfL, wfV, and_true, true_and, LEN_eq, rng_i64, rng_u64, rng_u32, rng_i32, sl_len, st_len, List.length_append, List.length_cons, List.length_nil, List.length_replicate, rep_len, rowV_len, spl_len, cutN_len, arrN_len, nat8_len, remI_nn] at hwB
 refine guardC_f (fun h1 => ?_) (fun h1 => ?_)
 ·rw [if_neg (ne_true h1)] at hM
  refine spQA h1 ?_
  have nh1 := nzQ h1
  try have hr2 := mpQ nh1
  refine condC_intro (fun h3 => ?_) (fun h3 => ?_)
  ·rw [if_pos h3] at hM
   refine spQA h3 ?_
   have nh3 := nzQ h3
   try have hr4 := mpQ nh3
   have hM0 := hM; clear hM; obtain ⟨x5, hx6, hM⟩ := letk_opn hM0; clear hM0
   have hcx5 := encode_reader_fail_ok  r_ 4 
   rw [← hx6] at hcx5
   refine callC_in [0] hcx5 (by decide) (by simp only [go_sem, rowV_eq, rowV_eq0, List.length_replicate, rep_len, Int.toNat_natCast, ↓reduceIte, Nat.reduceEqDiff, Nat.reduceAdd, Int.reduceAdd, Nat.reduceMul, Nat.reduceLeDiff, Nat.reduceLT, Int.reduceLE, Int.reduceLT, Int.reduceNeg, Int.reduceToNat, mt, mtL, mtL_self, mt_self, mtZ, and_self, eq_self, or_true, true_or]) (by simp only [go_sem, rowV_eq, rowV_eq0, List.length_replicate, rep_len, Int.toNat_natCast, ↓reduceIte, Nat.reduceEqDiff, Nat.reduceAdd, Int.reduceAdd, Nat.reduceMul, Nat.reduceLeDiff, Nat.reduceLT, Int.reduceLE, Int.reduceLT, Int.reduceNeg, Int.reduceToNat, mt, mtL, mtL_self, mt_self, mtZ, and_self, eq_self, or_true, true_or]) (fun hw7 => ?_)
   replace hw7 := nzQ hw7
   refine spQ ?_
   subst hM
   exact retCI_in [0] (by simp only [go_sem, rowV_eq, rowV_eq0, List.length_replicate, rep_len, Int.toNat_natCast, ↓reduceIte, Nat.reduceEqDiff, Nat.reduceAdd, Int.reduceAdd, Nat.reduceMul, Nat.reduceLeDiff, Nat.reduceLT, Int.reduceLE, Int.reduceLT, Int.reduceNeg, Int.reduceToNat, mt, mtL, mtL_self, mt_self, mtZ, and_self, eq_self, or_true, true_or, map_st, gt_cons0, gt_conss, Int.reduceSub, or_self, h1, h3]) (by decide) (by simp only [go_sem, rowV_eq, rowV_eq0, List.length_replicate, rep_len, Int.toNat_natCast, ↓reduceIte, Nat.reduceEqDiff, Nat.reduceAdd, Int.reduceAdd, Nat.reduceMul, Nat.reduceLeDiff, Nat.reduceLT, Int.reduceLE, Int.reduceLT, Int.reduceNeg, Int.reduceToNat, mt, mtL, mtL_self, mt_self, mtZ, and_self, eq_self, or_true, true_or, map_st, gt_cons0, gt_conss, Int.reduceSub, or_self, h1, h3])
  ·rw [if_neg (ne_true h3)] at hM
   refine spQA h3 ?_
   have nh3 := nzQ h3
   try have hr8 := mpQ nh3
   refine bindC_intro omQ ?_
   refine spQ ?_
   refine bindC_intro omQ ?_
   refine spQ ?_
   subst hM
   exact retCI_in [0] (by simp only [go_sem, rowV_eq, rowV_eq0, List.length_replicate, rep_len, Int.toNat_natCast, ↓reduceIte, Nat.reduceEqDiff, Nat.reduceAdd, Int.reduceAdd, Nat.reduceMul, Nat.reduceLeDiff, Nat.reduceLT, Int.reduceLE, Int.reduceLT, Int.reduceNeg, Int.reduceToNat, mt, mtL, mtL_self, mt_self, mtZ, and_self, eq_self, or_true, true_or, map_st, gt_cons0, gt_conss, Int.reduceSub, or_self, h1, h3]) (by decide) (by simp only [go_sem, rowV_eq, rowV_eq0, List.length_replicate, rep_len, Int.toNat_natCast, ↓reduceIte, Nat.reduceEqDiff, Nat.reduceAdd, Int.reduceAdd, Nat.reduceMul, Nat.reduceLeDiff, Nat.reduceLT, Int.reduceLE, Int.reduceLT, Int.reduceNeg, Int.reduceToNat, mt, mtL, mtL_self, mt_self, mtZ, and_self, eq_self, or_true, true_or, map_st, gt_cons0, gt_conss, Int.reduceSub, or_self, h1, h3])
 ·rw [if_pos h1] at hM
  refine spQA h1 ?_
  have nh1 := nzQ h1
  try have hr9 := mpQ nh1
  have hM0 := hM; clear hM; obtain ⟨x10, hx11, hM⟩ := letk_opn hM0; clear hM0
  have hcx10 := encode_reader_fail_ok  r_ 4 
  rw [← hx11] at hcx10
  refine callC_in [0] hcx10 (by decide) (by simp only [go_sem, rowV_eq, rowV_eq0, List.length_replicate, rep_len, Int.toNat_natCast, ↓reduceIte, Nat.reduceEqDiff, Nat.reduceAdd, Int.reduceAdd, Nat.reduceMul, Nat.reduceLeDiff, Nat.reduceLT, Int.reduceLE, Int.reduceLT, Int.reduceNeg, Int.reduceToNat, mt, mtL, mtL_self, mt_self, mtZ, and_self, eq_self, or_true, true_or]) (by simp only [go_sem, rowV_eq, rowV_eq0, List.length_replicate, rep_len, Int.toNat_natCast, ↓reduceIte, Nat.reduceEqDiff, Nat.reduceAdd, Int.reduceAdd, Nat.reduceMul, Nat.reduceLeDiff, Nat.reduceLT, Int.reduceLE, Int.reduceLT, Int.reduceNeg, Int.reduceToNat, mt, mtL, mtL_self, mt_self, mtZ, and_self, eq_self, or_true, true_or]) (fun hw12 => ?_)
  replace hw12 := nzQ hw12
  refine spQ ?_
  subst hM
  exact retCI_in [0] (by simp only [go_sem, rowV_eq, rowV_eq0, List.length_replicate, rep_len, Int.toNat_natCast, ↓reduceIte, Nat.reduceEqDiff, Nat.reduceAdd, Int.reduceAdd, Nat.reduceMul, Nat.reduceLeDiff, Nat.reduceLT, Int.reduceLE, Int.reduceLT, Int.reduceNeg, Int.reduceToNat, mt, mtL, mtL_self, mt_self, mtZ, and_self, eq_self, or_true, true_or, map_st, gt_cons0, gt_conss, Int.reduceSub, or_self, h1]) (by decide) (by simp only [go_sem, rowV_eq, rowV_eq0, List.length_replicate, rep_len, Int.toNat_natCast, ↓reduceIte, Nat.reduceEqDiff, Nat.reduceAdd, Int.reduceAdd, Nat.reduceMul, Nat.reduceLeDiff, Nat.reduceLT, Int.reduceLE, Int.reduceLT, Int.reduceNeg, Int.reduceToNat, mt, mtL, mtL_self, mt_self, mtZ, and_self, eq_self, or_true, true_or, map_st, gt_cons0, gt_conss, Int.reduceSub, or_self, h1])
set_option maxHeartbeats 2000000 in
set_option maxRecDepth 100000 in
theorem encode_reader_number_ok   (r_ : S_encode_reader) (size : Int) (hp0 : 0 ≤ size) : CallIn En 86 [.ptr 0 0, .int .i64 size] [.var 2 true (.agg [.sl none 1 false (r_.b.map (V.int .u8)), .int .i64 r_.e])] (.int .u64 (encode_reader_number r_ size).1) [.var 2 true (.agg [.sl none 1 false ((encode_reader_number r_ size).2.b.map (V.int .u8)), .int .i64 (encode_reader_number r_ size).2.e])] [] := by
 generalize hM : encode_reader_number r_ size = r
 rw [encode_reader_number.eq_1] at hM
 refine enterI En_ok En_mo noJ Try.func86 rfl Try.ntmps86 (by kernel_rfl) rfl fun ks hw hwB => ct_start ?_
 refine spQ ?_
 replace hw := nzQ hw
 try simp only [wfBs, wfB, decide_eq_true_eq, decide_eq_false_iff_not, Bool.and_eq_true, Bool.or_eq_true, Bool.not_eq_true', Bool.not_eq_false', beq_iff_eq, bne_iff_ne, beq_eq_false_iff_ne, bne_eq_false_iff_eq, ne_eq, Int.not_lt, Int.not_le, gt_iff_lt, ge_iff_le, List.length_map, wfL, wfV, and_true, true_and, LEN_eq, rng_i64, rng_u64, rng_u32, rng_i32, sl_len, st_len, List.length_append, List.length_cons, List.length_nil, List.length_replicate, rep_len, rowV_len, spl_len, cutN_len, arrN_len, nat8_len, remI_nn] at hwB
 have hM0 := hM; clear hM; obtain ⟨x1, hx2, hM⟩ := letk_opn hM0; clear hM0
 have hcx1 := encode_reader_take_ok  r_ size (by (simp only [decide_eq_true_eq, decide_eq_false_iff_not, Bool.and_eq_true, Bool.or_eq_true, Bool.not_eq_true', Bool.not_eq_false', beq_iff_eq, bne_iff_ne, beq_eq_false_iff_ne, bne_eq_false_iff_eq, ne_eq, Int.not_lt, Int.not_le, gt_iff_lt, ge_iff_le, List.length_map, wfL, wfV, and_true, true_and, LEN_eq, rng_i64, rng_u64, rng_u32, rng_i32, sl_len, st_len, List.length_append, List.length_cons, List.length_nil, List.length_replicate, rep_len, rowV_len, spl_len, cutN_len, arrN_len, nat8_len, remI_nn] at *; omega))
 rw [← hx2] at hcx1
 refine callC_in [0] hcx1 (by decide) (by simp only [go_sem, rowV_eq, rowV_eq0, List.length_replicate, rep_len, Int.toNat_natCast, ↓reduceIte, Nat.reduceEqDiff, Nat.reduceAdd, Int.reduceAdd, Nat.reduceMul, Nat.reduceLeDiff, Nat.reduceLT, Int.reduceLE, Int.reduceLT, Int.reduceNeg, Int.reduceToNat, mt, mtL, mtL_self, mt_self, mtZ, and_self, eq_self, or_true, true_or]) (by simp only [go_sem, rowV_eq, rowV_eq0, List.length_replicate, rep_len, Int.toNat_natCast, ↓reduceIte, Nat.reduceEqDiff, Nat.reduceAdd, Int.reduceAdd, Nat.reduceMul, Nat.reduceLeDiff, Nat.reduceLT, Int.reduceLE, Int.reduceLT, Int.reduceNeg, Int.reduceToNat, mt, mtL, mtL_self, mt_self, mtZ, and_self, eq_self, or_true, true_or]) (fun hw3 => ?_)
 replace hw3 := nzQ hw3
 refine spQ ?_
 have hM0 := hM; clear hM; obtain ⟨f4, d4, hf4, hd4, hM⟩ := iter_opn hM0; clear hM0
 refine ct_loop (fun n S => ∃ p : Int × Int, S = (⟨[(0, .ptr 0 0), (5, .int .u64 p.1), (10, .sl none 1 false (x1.1.map (V.int .u8))), (11, .int .i64 (x1.1.length : Int)), (12, .int .i64 p.2)], [(0, .lent (ks 0) 2 true (.agg [.sl none 1 false (x1.2.b.map (V.int .u8)), .int .i64 x1.2.e]))], 1⟩ : St) ∧ ((0 ≤ p.2) ∧ (p.2 ≤ (x1.1.length : Int))) ∧ ((x1.1.length : Int) - p.2).toNat < n ∧ iter n f4 d4 p = r) (((x1.1.length : Int) - 0).toNat + 1) _ sbQ sbQ ⟨(0, 0), rfl, ⟨omQ, omQ⟩, (Nat.lt_succ_self _), hM⟩ ?_
 clear hM
 rintro n4 S ⟨p4, rfl, hfa4, hm4, hM⟩
 have hM0 := hM; clear hM; obtain ⟨ag4, hag4, hM⟩ := iter_step hM0 (by omega) hf4; clear hM0
 replace hfa4 := nzQ hfa4
 replace hm4 := nzQ hm4
 have ha4 : addI .i64 p4.2 1 = p4.2 + 1 := add_one omQ omQ
 refine spQA ha4 ?_
 refine condC_intro (fun h5 => ?_) (fun h5 => ?_)
 ·rw [if_pos h5] at hM
  refine spQA (And.intro ha4 h5) ?_
  have nh5 := nzQ h5
  try have hr6 := mpQ nh5
  have hF := (And.intro ha4 h5)
  exact auQ
 ·rw [if_neg (ne_true h5)] at hM
  refine spQA (And.intro ha4 h5) ?_
  have nh5 := nzQ h5
  try have hr8 := mpQ nh5
  subst hM
  exact retCI_in [0] (by simp only [go_sem, rowV_eq, rowV_eq0, List.length_replicate, rep_len, Int.toNat_natCast, ↓reduceIte, Nat.reduceEqDiff, Nat.reduceAdd, Int.reduceAdd, Nat.reduceMul, Nat.reduceLeDiff, Nat.reduceLT, Int.reduceLE, Int.reduceLT, Int.reduceNeg, Int.reduceToNat, mt, mtL, mtL_self, mt_self, mtZ, and_self, eq_self, or_true, true_or, map_st, ha4, gt_cons0, gt_conss, Int.reduceSub, or_self, h5]) (by decide) (by simp only [go_sem, rowV_eq, rowV_eq0, List.length_replicate, rep_len, Int.toNat_natCast, ↓reduceIte, Nat.reduceEqDiff, Nat.reduceAdd, Int.reduceAdd, Nat.reduceMul, Nat.reduceLeDiff, Nat.reduceLT, Int.reduceLE, Int.reduceLT, Int.reduceNeg, Int.reduceToNat, mt, mtL, mtL_self, mt_self, mtZ, and_self, eq_self, or_true, true_or, map_st, ha4, gt_cons0, gt_conss, Int.reduceSub, or_self, h5])
set_option maxRecDepth 100000 in
theorem bytes_Clone_ok (z0 : Option Bool) (s : List Int) : CallOk En 87 [.sl z0 1 false (s.map (V.int .u8))] (.own 0) [.own 5 1 false none ((bytes_Clone s).map (V.int .u8))] := by
 show CallOk En 87 [.sl z0 1 false (s.map (V.int .u8))] (.own 0) [.own 5 1 false none (s.map (V.int .u8))]
 refine callOk_nil (pre := []) (post := []) (fun hl => ?_) ?_ z0
 ·have hl : s = [] := by cases s with | nil => rfl | cons a s => cases hl
  subst hl
  refine enterV En_ok En_mo noJ Try.func87 rfl Try.ntmps87 (by kernel_rfl) fun hw => ct_start ?_
  simp only [go_sem, rowV_eq, rowV_eq0, List.length_replicate, rep_len, Int.toNat_natCast, ↓reduceIte, Nat.reduceEqDiff, Nat.reduceAdd, Int.reduceAdd, Nat.reduceMul, Nat.reduceLeDiff, Nat.reduceLT, Int.reduceLE, Int.reduceLT, Int.reduceNeg, Int.reduceToNat, List.nil_append]
  exact retC_nil (by decide)
 ·refine enterV En_ok En_mo noJ Try.func87 rfl Try.ntmps87 (by kernel_rfl) fun hw => ct_start ?_
  simp only [go_sem, rowV_eq, rowV_eq0, List.length_replicate, rep_len, Int.toNat_natCast, ↓reduceIte, Nat.reduceEqDiff, Nat.reduceAdd, Int.reduceAdd, Nat.reduceMul, Nat.reduceLeDiff, Nat.reduceLT, Int.reduceLE, Int.reduceLT, Int.reduceNeg, Int.reduceToNat, List.nil_append]
  have hn : s.length ≤ 1073741824 := by have h := hw; simp only [wfL, wfV, List.nil_append, LEN_eq, List.length_map] at h; exact h.1.1
  refine bindC_intro (by first | omega | (simp only [List.length_map, List.length_nil, List.nil_append]; omega)) ?_
  refine spQ ?_
  refine retC_ownZ 0 rfl clQ
set_option maxHeartbeats 2000000 in
set_option maxRecDepth 100000 in
theorem encode_reader_item_ok (N : Nat) (ih : ∀  (r_ : S_encode_reader) (depth : Int), (0 ≤ depth) → (isB r_.b) → depth.toNat < N → CallIn En 64 [.ptr 0 0, .int .i64 depth] [.var 2 true (.agg [.sl none 1 false (r_.b.map (V.int .u8)), .int .i64 r_.e])] (.agg [.int .i64 (itemM r_ depth).1.Kind, .int .i64 (itemM r_ depth).1.N, .sl none 1 false ((itemM r_ depth).1.B.map (V.int .u8)), .sl none 4 true ((itemM r_ depth).1.L.map e_api_Item)]) [.var 2 true (.agg [.sl none 1 false ((itemM r_ depth).2.b.map (V.int .u8)), .int .i64 (itemM r_ depth).2.e])] [])  (r_ : S_encode_reader) (depth : Int) (hp0 : 0 ≤ depth) (hp1 : isB r_.b) (hp_ : depth.toNat < N + 1) : CallIn En 64 [.ptr 0 0, .int .i64 depth] [.var 2 true (.agg [.sl none 1 false (r_.b.map (V.int .u8)), .int .i64 r_.e])] (.agg [.int .i64 (encode_reader_item r_ depth).1.Kind, .int .i64 (encode_reader_item r_ depth).1.N, .sl none 1 false ((encode_reader_item r_ depth).1.B.map (V.int .u8)), .sl none 4 true ((encode_reader_item r_ depth).1.L.map e_api_Item)]) [.var 2 true (.agg [.sl none 1 false ((encode_reader_item r_ depth).2.b.map (V.int .u8)), .int .i64 (encode_reader_item r_ depth).2.e])] [] := by
 generalize hM : encode_reader_item r_ depth = r
 rw [encode_reader_item.eq_1] at hM
 refine enterI En_ok En_mo [5, 15] Try.func64 rfl Try.ntmps64 (by kernel_rfl) rfl fun ks hw hwB => ct_start ?_
 refine spQ ?_
 replace hw := nzQ hw
 try simp only [wfBs, wfB, decide_eq_true_eq, decide_eq_false_iff_not, Bool.and_eq_true, Bool.or_eq_true, Bool.not_eq_true', Bool.not_eq_false', beq_iff_eq, bne_iff_ne, beq_eq_false_iff_ne, bne_eq_false_iff_eq, ne_eq, Int.not_lt, Int.not_le, gt_iff_lt, ge_iff_le, List.length_map, wfL, wfV, and_true, true_and, LEN_eq, rng_i64, rng_u64, rng_u32, rng_i32, sl_len, st_len, List.length_append, List.length_cons, List.length_nil, List.length_replicate, rep_len, rowV_len, spl_len, cutN_len, arrN_len, nat8_len, remI_nn] at hwB
 have hM0 := hM; clear hM; obtain ⟨x1, hx2, hM⟩ := letk_opn hM0; clear hM0
 have hcx1 := encode_reader_number_ok  r_ 1 (by (first | assumption | omega))
 rw [← hx2] at hcx1
 refine callC_in [0] hcx1 (by decide) (by simp only [go_sem, rowV_eq, rowV_eq0, List.length_replicate, rep_len, Int.toNat_natCast, ↓reduceIte, Nat.reduceEqDiff, Nat.reduceAdd, Int.reduceAdd, Nat.reduceMul, Nat.reduceLeDiff, Nat.reduceLT, Int.reduceLE, Int.reduceLT, Int.reduceNeg, Int.reduceToNat, mt, mtL, mtL_self, mt_self, mtZ, and_self, eq_self, or_true, true_or]) (by simp only [go_sem, rowV_eq, rowV_eq0, List.length_replicate, rep_len, Int.toNat_natCast, ↓reduceIte, Nat.reduceEqDiff, Nat.reduceAdd, Int.reduceAdd, Nat.reduceMul, Nat.reduceLeDiff, Nat.reduceLT, Int.reduceLE, Int.reduceLT, Int.reduceNeg, Int.reduceToNat, mt, mtL, mtL_self, mt_self, mtZ, and_self, eq_self, or_true, true_or]) (fun hw3 => ?_)
 replace hw3 := nzQ hw3
 refine spQ ?_
 have hq4 := rnum_fact hx2 (by assumption)
 replace hq4 := nzQ hq4
 have hq5 := rnum_isB hx2 (by assumption)
 replace hq5 := nzQ hq5
 have hM0 := hM; clear hM; obtain ⟨j6, hj6, hM⟩ := letj_opn hM0; clear hM0
 refine seqC_intro (fun S => ∃ p : Unit, S = (⟨[(0, .ptr 0 0), (1, .int .i64 depth), (4, .ptr 1 0), (5, .int .i64 (convI .i64 x1.1))], [(0, .lent (ks 0) 2 true (.agg [.sl none 1 false (x1.2.b.map (V.int .u8)), .int .i64 x1.2.e])), (1, .var 4 true (.agg [.int .i64 0, .int .i64 0, .sl (some true) 1 false [], .sl (some true) 4 true []]))], 2⟩ : St) ∧ (((convI .i64 x1.1) ≠ 3 ∨ depth ≠ 0)) ∧ j6 p = r) ?_ (fun hcut6 => ?_)
 ·clear hM
  rintro S ⟨p6, rfl, hfa6, hM⟩
  replace hfa6 := nzQ hfa6
  have hM0 := hM; clear hM; have hM := letj_use hM0 hj6; clear hM0
  refine spQ ?_
  refine condC_intro (fun h7 => ?_) (fun h7 => ?_)
  ·rw [if_pos h7] at hM
   refine spQA h7 ?_
   have nh7 := nzQ h7
   try have hr8 := mpQ nh7
   have hM0 := hM; clear hM; obtain ⟨x9, hx10, hM⟩ := letk_opn hM0; clear hM0
   have hcx9 := encode_reader_number_ok  (x1.2) 8 (by (first | assumption | omega))
   rw [← hx10] at hcx9
   refine callC_in [0] hcx9 (by decide) (by simp only [go_sem, rowV_eq, rowV_eq0, List.length_replicate, rep_len, Int.toNat_natCast, ↓reduceIte, Nat.reduceEqDiff, Nat.reduceAdd, Int.reduceAdd, Nat.reduceMul, Nat.reduceLeDiff, Nat.reduceLT, Int.reduceLE, Int.reduceLT, Int.reduceNeg, Int.reduceToNat, mt, mtL, mtL_self, mt_self, mtZ, and_self, eq_self, or_true, true_or]) (by simp only [go_sem, rowV_eq, rowV_eq0, List.length_replicate, rep_len, Int.toNat_natCast, ↓reduceIte, Nat.reduceEqDiff, Nat.reduceAdd, Int.reduceAdd, Nat.reduceMul, Nat.reduceLeDiff, Nat.reduceLT, Int.reduceLE, Int.reduceLT, Int.reduceNeg, Int.reduceToNat, mt, mtL, mtL_self, mt_self, mtZ, and_self, eq_self, or_true, true_or]) (fun hw11 => ?_)
   replace hw11 := nzQ hw11
   refine spQ ?_
   have hq12 := rnum_fact hx10 (by assumption)
   replace hq12 := nzQ hq12
   have hq13 := rnum_isB hx10 (by assumption)
   replace hq13 := nzQ hq13
   subst hM
   exact retCI_in [0] (by simp only [go_sem, rowV_eq, rowV_eq0, List.length_replicate, rep_len, Int.toNat_natCast, ↓reduceIte, Nat.reduceEqDiff, Nat.reduceAdd, Int.reduceAdd, Nat.reduceMul, Nat.reduceLeDiff, Nat.reduceLT, Int.reduceLE, Int.reduceLT, Int.reduceNeg, Int.reduceToNat, mt, mtL, mtL_self, mt_self, mtZ, and_self, eq_self, or_true, true_or, map_st, gt_cons0, gt_conss, Int.reduceSub, or_self, h7]) (by decide) (by simp only [go_sem, rowV_eq, rowV_eq0, List.length_replicate, rep_len, Int.toNat_natCast, ↓reduceIte, Nat.reduceEqDiff, Nat.reduceAdd, Int.reduceAdd, Nat.reduceMul, Nat.reduceLeDiff, Nat.reduceLT, Int.reduceLE, Int.reduceLT, Int.reduceNeg, Int.reduceToNat, mt, mtL, mtL_self, mt_self, mtZ, and_self, eq_self, or_true, true_or, map_st, gt_cons0, gt_conss, Int.reduceSub, or_self, h7])
  ·rw [if_neg (ne_true h7)] at hM
   refine spQA h7 ?_
   have nh7 := nzQ h7
   try have hr14 := mpQ nh7
   refine condC_intro (fun h15 => ?_) (fun h15 => ?_)
   ·rw [if_pos h15] at hM
    refine spQA h15 ?_
    have nh15 := nzQ h15
    try have hr16 := mpQ nh15
    have hM0 := hM; clear hM; obtain ⟨x17, hx18, hM⟩ := letk_opn hM0; clear hM0
    have hcx17 := encode_reader_number_ok  (x1.2) 4 (by (first | assumption | omega))
    rw [← hx18] at hcx17
    refine callC_in [0] hcx17 (by decide) (by simp only [go_sem, rowV_eq, rowV_eq0, List.length_replicate, rep_len, Int.toNat_natCast, ↓reduceIte, Nat.reduceEqDiff, Nat.reduceAdd, Int.reduceAdd, Nat.reduceMul, Nat.reduceLeDiff, Nat.reduceLT, Int.reduceLE, Int.reduceLT, Int.reduceNeg, Int.reduceToNat, mt, mtL, mtL_self, mt_self, mtZ, and_self, eq_self, or_true, true_or]) (by simp only [go_sem, rowV_eq, rowV_eq0, List.length_replicate, rep_len, Int.toNat_natCast, ↓reduceIte, Nat.reduceEqDiff, Nat.reduceAdd, Int.reduceAdd, Nat.reduceMul, Nat.reduceLeDiff, Nat.reduceLT, Int.reduceLE, Int.reduceLT, Int.reduceNeg, Int.reduceToNat, mt, mtL, mtL_self, mt_self, mtZ, and_self, eq_self, or_true, true_or]) (fun hw19 => ?_)
    replace hw19 := nzQ hw19
    refine spQ ?_
    have hq20 := rnum_fact hx18 (by assumption)
    replace hq20 := nzQ hq20
    have hq21 := rnum_isB hx18 (by assumption)
    replace hq21 := nzQ hq21
    have hM0 := hM; clear hM; obtain ⟨x22, hx23, hM⟩ := letk_opn hM0; clear hM0
    have hcx22 := encode_reader_take_ok  (x17.2) (convI .i64 x17.1) (by (first | assumption | omega))
    rw [← hx23] at hcx22
    refine callC_in [0] hcx22 (by decide) (by simp only [go_sem, rowV_eq, rowV_eq0, List.length_replicate, rep_len, Int.toNat_natCast, ↓reduceIte, Nat.reduceEqDiff, Nat.reduceAdd, Int.reduceAdd, Nat.reduceMul, Nat.reduceLeDiff, Nat.reduceLT, Int.reduceLE, Int.reduceLT, Int.reduceNeg, Int.reduceToNat, mt, mtL, mtL_self, mt_self, mtZ, and_self, eq_self, or_true, true_or]) (by simp only [go_sem, rowV_eq, rowV_eq0, List.length_replicate, rep_len, Int.toNat_natCast, ↓reduceIte, Nat.reduceEqDiff, Nat.reduceAdd, Int.reduceAdd, Nat.reduceMul, Nat.reduceLeDiff, Nat.reduceLT, Int.reduceLE, Int.reduceLT, Int.reduceNeg, Int.reduceToNat, mt, mtL, mtL_self, mt_self, mtZ, and_self, eq_self, or_true, true_or]) (fun hw24 => ?_)
    replace hw24 := nzQ hw24
    refine spQ ?_
    have hq25 := take_isB hx23 (by assumption)
    replace hq25 := nzQ hq25
    have hM0 := hM; clear hM; obtain ⟨x26, hx27, hM⟩ := letk_opn hM0; clear hM0
    have hcx26 := bytes_Clone_ok none (x22.1) 
    rw [← hx27] at hcx26
    refine callC_give hcx26 clQ clQ (fun hw28 => ?_)
    replace hw28 := nzQ hw28
    refine spQ ?_
    subst hM
    exact retCI_in [0] (by simp only [go_sem, rowV_eq, rowV_eq0, List.length_replicate, rep_len, Int.toNat_natCast, ↓reduceIte, Nat.reduceEqDiff, Nat.reduceAdd, Int.reduceAdd, Nat.reduceMul, Nat.reduceLeDiff, Nat.reduceLT, Int.reduceLE, Int.reduceLT, Int.reduceNeg, Int.reduceToNat, mt, mtL, mtL_self, mt_self, mtZ, and_self, eq_self, or_true, true_or, map_st, gt_cons0, gt_conss, Int.reduceSub, or_self, h7, h15]) (by decide) (by simp only [go_sem, rowV_eq, rowV_eq0, List.length_replicate, rep_len, Int.toNat_natCast, ↓reduceIte, Nat.reduceEqDiff, Nat.reduceAdd, Int.reduceAdd, Nat.reduceMul, Nat.reduceLeDiff, Nat.reduceLT, Int.reduceLE, Int.reduceLT, Int.reduceNeg, Int.reduceToNat, mt, mtL, mtL_self, mt_self, mtZ, and_self, eq_self, or_true, true_or, map_st, gt_cons0, gt_conss, Int.reduceSub, or_self, h7, h15])
   ·rw [if_neg (ne_true h15)] at hM
    refine spQA h15 ?_
    have nh15 := nzQ h15
    try have hr29 := mpQ nh15
    refine condC_intro (fun h30 => ?_) (fun h30 => ?_)
    ·rw [if_pos h30] at hM
     refine spQA h30 ?_
     have nh30 := nzQ h30
     try have hr31 := mpQ nh30
     have hM0 := hM; clear hM; obtain ⟨x32, hx33, hM⟩ := letk_opn hM0; clear hM0
     have hcx32 := encode_reader_number_ok  (x1.2) 4 (by (first | assumption | omega))
     rw [← hx33] at hcx32
     refine callC_in [0] hcx32 (by decide) (by simp only [go_sem, rowV_eq, rowV_eq0, List.length_replicate, rep_len, Int.toNat_natCast, ↓reduceIte, Nat.reduceEqDiff, Nat.reduceAdd, Int.reduceAdd, Nat.reduceMul, Nat.reduceLeDiff, Nat.reduceLT, Int.reduceLE, Int.reduceLT, Int.reduceNeg, Int.reduceToNat, mt, mtL, mtL_self, mt_self, mtZ, and_self, eq_self, or_true, true_or]) (by simp only [go_sem, rowV_eq, rowV_eq0, List.length_replicate, rep_len, Int.toNat_natCast, ↓reduceIte, Nat.reduceEqDiff, Nat.reduceAdd, Int.reduceAdd, Nat.reduceMul, Nat.reduceLeDiff, Nat.reduceLT, Int.reduceLE, Int.reduceLT, Int.reduceNeg, Int.reduceToNat, mt, mtL, mtL_self, mt_self, mtZ, and_self, eq_self, or_true, true_or]) (fun hw34 => ?_)
     replace hw34 := nzQ hw34
     refine spQ ?_
     have hq35 := rnum_fact hx33 (by assumption)
     replace hq35 := nzQ hq35
     have hq36 := rnum_isB hx33 (by assumption)
     replace hq36 := nzQ hq36
     have hM0 := hM; clear hM; obtain ⟨j37, hj37, hM⟩ := letj_opn hM0; clear hM0
     refine seqC_intro (fun S => ∃ p : S_encode_reader, S = (⟨[(0, .ptr 0 0), (1, .int .i64 depth), (4, .ptr 1 0), (6, .ptr 2 0), (7, .int .i64 (convI .i64 x32.1))], [(0, .lent (ks 0) 2 true (.agg [.sl none 1 false (p.b.map (V.int .u8)), .int .i64 p.e])), (1, .var 4 true (.agg [.int .i64 0, .int .i64 0, .sl (some true) 1 false [], .sl (some true) 4 true []])), (2, .var 4 true (.agg [.int .i64 (convI .i64 x1.1), .int .i64 0, .sl (some true) 1 false [], .sl (some true) 4 true []]))], 3⟩ : St) ∧ ((((convI .i64 x32.1) ≤ 1000 ∨ (p).e ≠ 0) ∧ (0 ≤ (convI .i64 x32.1))) ∧ (isB (p).b)) ∧ j37 p = r) ?_ (fun hcut37 => ?_)
     ·clear hM
      rintro S ⟨p37, rfl, ⟨hfa37, hF15_0⟩, hM⟩
      replace hfa37 := nzQ hfa37
      have hM0 := hM; clear hM; have hM := letj_use hM0 hj37; clear hM0
      refine spQ ?_
      have hM0 := hM; clear hM; obtain ⟨f38, d38, hf38, hd38, hM⟩ := iter_opn hM0; clear hM0
      refine ct_loopW (fun n S => ∃ p : Int × S_encode_reader × List S_api_Item, S = (⟨[(0, .ptr 0 0), (1, .int .i64 depth), (4, .ptr 1 0), (6, .ptr 2 0), (55, .int .i64 (convI .i64 x32.1)), (56, .int .i64 p.1)], [(0, .lent (ks 0) 2 true (.agg [.sl none 1 false (p.2.1.b.map (V.int .u8)), .int .i64 p.2.1.e])), (1, .var 4 true (.agg [.int .i64 0, .int .i64 0, .sl (some true) 1 false [], .sl (some true) 4 true []])), (2, .var 4 true (.agg [.int .i64 (convI .i64 x1.1), .int .i64 0, .sl (some true) 1 false [], .own 3])), (3, .own 86 4 true none (p.2.2.map e_api_Item))], 4⟩ : St) ∧ (((0 ≤ p.1) ∧ (p.1 ≤ (convI .i64 x32.1)) ∧ ((convI .i64 x32.1) ≤ 1000 ∨ (p.2.1).e ≠ 0) ∧ (((p.2.2).length : Int) ≤ p.1)) ∧ (isB (p.2.1).b)) ∧ ((convI .i64 x32.1) - p.1).toNat < n ∧ iter n f38 d38 p = r) (((convI .i64 x32.1) - 0).toNat + 1) _ _ (weak_nilV 2 3 86 rfl rfl (by decide)) sbQ sbQ ⟨(0, p37, ([] : List S_api_Item)), rfl, ⟨⟨omQ, omQ, omQ, omQ⟩, by assumption⟩, (Nat.lt_succ_self _), hM⟩ ?_
      clear hM
      rintro n38 S ⟨p38, rfl, ⟨hfa38, hF16_0⟩, hm38, hM⟩
      have hM0 := hM; clear hM; obtain ⟨ag38, hag38, hM⟩ := iter_step hM0 (by omega) hf38; clear hM0
      replace hfa38 := nzQ hfa38
      replace hm38 := nzQ hm38
      have ha38 : addI .i64 p38.1 1 = p38.1 + 1 := add_one omQ omQ
      refine spQA ha38 ?_
      refine condC_intro (fun h39 => ?_) (fun h39 => ?_)
      ·rw [if_pos h39] at hM
       refine spQA (And.intro ha38 h39) ?_
       have nh39 := nzQ h39
       try have hr40 := mpQ nh39
       refine condC_intro (fun h41 => ?_) (fun h41 => ?_)
       ·rw [if_pos h41] at hM
        refine spQA (And.intro ha38 h41) ?_
        have nh41 := nzQ h41
        try have hr42 := mpQ nh41
        subst hM
        exact retCI_in [0] (by simp only [go_sem, rowV_eq, rowV_eq0, List.length_replicate, rep_len, Int.toNat_natCast, ↓reduceIte, Nat.reduceEqDiff, Nat.reduceAdd, Int.reduceAdd, Nat.reduceMul, Nat.reduceLeDiff, Nat.reduceLT, Int.reduceLE, Int.reduceLT, Int.reduceNeg, Int.reduceToNat, mt, mtL, mtL_self, mt_self, mtZ, and_self, eq_self, or_true, true_or, map_st, ha38, gt_cons0, gt_conss, Int.reduceSub, or_self, h7, h15, h30, h39, h41]) (by decide) (by simp only [go_sem, rowV_eq, rowV_eq0, List.length_replicate, rep_len, Int.toNat_natCast, ↓reduceIte, Nat.reduceEqDiff, Nat.reduceAdd, Int.reduceAdd, Nat.reduceMul, Nat.reduceLeDiff, Nat.reduceLT, Int.reduceLE, Int.reduceLT, Int.reduceNeg, Int.reduceToNat, mt, mtL, mtL_self, mt_self, mtZ, and_self, eq_self, or_true, true_or, map_st, ha38, gt_cons0, gt_conss, Int.reduceSub, or_self, h7, h15, h30, h39, h41])
       ·rw [if_neg (ne_true h41)] at hM
        refine spQA (And.intro ha38 h41) ?_
        have nh41 := nzQ h41
        try have hr43 := mpQ nh41
        refine ct_draw 74 7 [63, 64, 65, 66, 67, 68, 69] [] ([[], [0], [], [], [3], [2, 3, 4], [2, 3, 4, 5]] ++ [List.range 7, List.range 8, List.range 9]) [(5, 0)] (by kernel_rfl) (by exact alQ) ?_
        refine spQA ha38 ?_
        have ha44 : subI .i64 depth 1 = (depth - 1) := sub_ok omQ omQ
        try simp only [ha44]
        have hM0 := hM; clear hM; obtain ⟨x45, hx46, hM⟩ := letk_opn hM0; clear hM0
        have hcx45 := ih  (p38.2.1) (depth - 1) (by (first | assumption | omega)) (by (first | assumption | omega)) (by omega)
        rw [← hx46] at hcx45
        refine hcallC_upd 0 hcx45 rfl rfl (by simp only [go_sem, rowV_eq, rowV_eq0, List.length_replicate, rep_len, Int.toNat_natCast, ↓reduceIte, Nat.reduceEqDiff, Nat.reduceAdd, Int.reduceAdd, Nat.reduceMul, Nat.reduceLeDiff, Nat.reduceLT, Int.reduceLE, Int.reduceLT, Int.reduceNeg, Int.reduceToNat, mt, mtL, mtL_self, mt_self, mtZ, and_self, eq_self, or_true, true_or, ha38, ha44]) (by simp only [go_sem, rowV_eq, rowV_eq0, List.length_replicate, rep_len, Int.toNat_natCast, ↓reduceIte, Nat.reduceEqDiff, Nat.reduceAdd, Int.reduceAdd, Nat.reduceMul, Nat.reduceLeDiff, Nat.reduceLT, Int.reduceLE, Int.reduceLT, Int.reduceNeg, Int.reduceToNat, mt, mtL, mtL_self, mt_self, mtZ, and_self, eq_self, or_true, true_or, ha38, ha44]) (by simp only [go_sem, rowV_eq, rowV_eq0, List.length_replicate, rep_len, Int.toNat_natCast, ↓reduceIte, Nat.reduceEqDiff, Nat.reduceAdd, Int.reduceAdd, Nat.reduceMul, Nat.reduceLeDiff, Nat.reduceLT, Int.reduceLE, Int.reduceLT, Int.reduceNeg, Int.reduceToNat, mt, mtL, mtL_self, mt_self, mtZ, and_self, eq_self, or_true, true_or, ha38, ha44]) (by simp only [go_sem, rowV_eq, rowV_eq0, List.length_replicate, rep_len, Int.toNat_natCast, ↓reduceIte, Nat.reduceEqDiff, Nat.reduceAdd, Int.reduceAdd, Nat.reduceMul, Nat.reduceLeDiff, Nat.reduceLT, Int.reduceLE, Int.reduceLT, Int.reduceNeg, Int.reduceToNat, mt, mtL, mtL_self, mt_self, mtZ, and_self, eq_self, or_true, true_or, ha38, ha44]) (by simp only [go_sem, rowV_eq, rowV_eq0, List.length_replicate, rep_len, Int.toNat_natCast, ↓reduceIte, Nat.reduceEqDiff, Nat.reduceAdd, Int.reduceAdd, Nat.reduceMul, Nat.reduceLeDiff, Nat.reduceLT, Int.reduceLE, Int.reduceLT, Int.reduceNeg, Int.reduceToNat, mt, mtL, mtL_self, mt_self, mtZ, and_self, eq_self, or_true, true_or, ha38, ha44]) ?_
        refine spQA (And.intro ha38 ha44) ?_
        have hq47 := item_isB hx46 (by assumption)
        replace hq47 := nzQ hq47
        refine bindC_intro omQ ?_
        refine spQA (And.intro ha38 ha44) ?_
        refine lp_intro (n38 - 1) _ (by omega) sbQ sbQ ⟨((p38.1 + 1), x45.2, (p38.2.2 ++ ([x45.1] : List S_api_Item))), rfl, ⟨⟨omQ, omQ, omQ, omQ⟩, by assumption⟩, omQ, iter_again hM hag38⟩
      ·rw [if_neg (ne_true h39)] at hM
       refine spQA (And.intro ha38 h39) ?_
       have nh39 := nzQ h39
       try have hr48 := mpQ nh39
       subst hM
       exact retCI_in [0] (by simp only [go_sem, rowV_eq, rowV_eq0, List.length_replicate, rep_len, Int.toNat_natCast, ↓reduceIte, Nat.reduceEqDiff, Nat.reduceAdd, Int.reduceAdd, Nat.reduceMul, Nat.reduceLeDiff, Nat.reduceLT, Int.reduceLE, Int.reduceLT, Int.reduceNeg, Int.reduceToNat, mt, mtL, mtL_self, mt_self, mtZ, and_self, eq_self, or_true, true_or, map_st, ha38, gt_cons0, gt_conss, Int.reduceSub, or_self, h7, h15, h30, h39]) (by decide) (by simp only [go_sem, rowV_eq, rowV_eq0, List.length_replicate, rep_len, Int.toNat_natCast, ↓reduceIte, Nat.reduceEqDiff, Nat.reduceAdd, Int.reduceAdd, Nat.reduceMul, Nat.reduceLeDiff, Nat.reduceLT, Int.reduceLE, Int.reduceLT, Int.reduceNeg, Int.reduceToNat, mt, mtL, mtL_self, mt_self, mtZ, and_self, eq_self, or_true, true_or, map_st, ha38, gt_cons0, gt_conss, Int.reduceSub, or_self, h7, h15, h30, h39])
     ·refine spQ ?_
      refine condC_intro (fun h49 => ?_) (fun h49 => ?_)
      ·rw [if_pos h49] at hM
       refine spQA h49 ?_
       have nh49 := nzQ h49
       try have hr50 := mpQ nh49
       have hM0 := hM; clear hM; obtain ⟨x51, hx52, hM⟩ := letk_opn hM0; clear hM0
       have hcx51 := encode_reader_fail_ok  (x32.2) 3 
       rw [← hx52] at hcx51
       refine callC_in [0] hcx51 (by decide) (by simp only [go_sem, rowV_eq, rowV_eq0, List.length_replicate, rep_len, Int.toNat_natCast, ↓reduceIte, Nat.reduceEqDiff, Nat.reduceAdd, Int.reduceAdd, Nat.reduceMul, Nat.reduceLeDiff, Nat.reduceLT, Int.reduceLE, Int.reduceLT, Int.reduceNeg, Int.reduceToNat, mt, mtL, mtL_self, mt_self, mtZ, and_self, eq_self, or_true, true_or]) (by simp only [go_sem, rowV_eq, rowV_eq0, List.length_replicate, rep_len, Int.toNat_natCast, ↓reduceIte, Nat.reduceEqDiff, Nat.reduceAdd, Int.reduceAdd, Nat.reduceMul, Nat.reduceLeDiff, Nat.reduceLT, Int.reduceLE, Int.reduceLT, Int.reduceNeg, Int.reduceToNat, mt, mtL, mtL_self, mt_self, mtZ, and_self, eq_self, or_true, true_or]) (fun hw53 => ?_)
       replace hw53 := nzQ hw53
       refine spQ ?_
       have hq54 := fail_ne hx52 (by decide)
       replace hq54 := nzQ hq54
       have hq55 := fail_isB hx52 (by assumption)
       replace hq55 := nzQ hq55
       exact cut_intro _ sbQ sbQ (hcut37 _ ⟨x51, rfl, ⟨⟨omQ, omQ⟩, by assumption⟩, hM⟩)
      ·rw [if_neg (ne_true h49)] at hM
       refine spQA h49 ?_
       have nh49 := nzQ h49
       try have hr56 := mpQ nh49
       exact cut_intro _ sbQ sbQ (hcut37 _ ⟨x32.2, rfl, ⟨⟨omQ, omQ⟩, by assumption⟩, hM⟩)
    ·rw [if_neg (ne_true h30)] at hM
     refine spQA h30 ?_
     have nh30 := nzQ h30
     try have hr57 := mpQ nh30
     subst hM
     exact retCI_in [0] (by simp only [go_sem, rowV_eq, rowV_eq0, List.length_replicate, rep_len, Int.toNat_natCast, ↓reduceIte, Nat.reduceEqDiff, Nat.reduceAdd, Int.reduceAdd, Nat.reduceMul, Nat.reduceLeDiff, Nat.reduceLT, Int.reduceLE, Int.reduceLT, Int.reduceNeg, Int.reduceToNat, mt, mtL, mtL_self, mt_self, mtZ, and_self, eq_self, or_true, true_or, map_st, gt_cons0, gt_conss, Int.reduceSub, or_self, h7, h15, h30]) (by decide) (by simp only [go_sem, rowV_eq, rowV_eq0, List.length_replicate, rep_len, Int.toNat_natCast, ↓reduceIte, Nat.reduceEqDiff, Nat.reduceAdd, Int.reduceAdd, Nat.reduceMul, Nat.reduceLeDiff, Nat.reduceLT, Int.reduceLE, Int.reduceLT, Int.reduceNeg, Int.reduceToNat, mt, mtL, mtL_self, mt_self, mtZ, and_self, eq_self, or_true, true_or, map_st, gt_cons0, gt_conss, Int.reduceSub, or_self, h7, h15, h30])
 ·refine spQ ?_
  refine guardC_f (fun h58 => ?_) (fun h58 => ?_)
  ·rw [if_neg (ne_true h58)] at hM
   refine spQA h58 ?_
   have nh58 := nzQ h58
   try have hr59 := mpQ nh58
   refine guardC_f (fun h60 => ?_) (fun h60 => ?_)
   ·rw [if_neg (ne_true h60)] at hM
    refine spQA h60 ?_
    have nh60 := nzQ h60
    try have hr61 := mpQ nh60
    refine guardC_t (fun h62 => ?_) (fun h62 => ?_)
    ·rw [if_pos h62] at hM
     refine spQA h62 ?_
     have nh62 := nzQ h62
     try have hr63 := mpQ nh62
     refine condC_intro (fun h64 => ?_) (fun h64 => ?_)
     ·rw [if_pos h64] at hM
      refine spQA h64 ?_
      have nh64 := nzQ h64
      try have hr65 := mpQ nh64
      have hM0 := hM; clear hM; obtain ⟨x66, hx67, hM⟩ := letk_opn hM0; clear hM0
      have hcx66 := encode_reader_fail_ok  (x1.2) 3 
      rw [← hx67] at hcx66
      refine callC_in [0] hcx66 (by decide) (by simp only [go_sem, rowV_eq, rowV_eq0, List.length_replicate, rep_len, Int.toNat_natCast, ↓reduceIte, Nat.reduceEqDiff, Nat.reduceAdd, Int.reduceAdd, Nat.reduceMul, Nat.reduceLeDiff, Nat.reduceLT, Int.reduceLE, Int.reduceLT, Int.reduceNeg, Int.reduceToNat, mt, mtL, mtL_self, mt_self, mtZ, and_self, eq_self, or_true, true_or]) (by simp only [go_sem, rowV_eq, rowV_eq0, List.length_replicate, rep_len, Int.toNat_natCast, ↓reduceIte, Nat.reduceEqDiff, Nat.reduceAdd, Int.reduceAdd, Nat.reduceMul, Nat.reduceLeDiff, Nat.reduceLT, Int.reduceLE, Int.reduceLT, Int.reduceNeg, Int.reduceToNat, mt, mtL, mtL_self, mt_self, mtZ, and_self, eq_self, or_true, true_or]) (fun hw68 => ?_)
      replace hw68 := nzQ hw68
      refine spQ ?_
      have hq69 := fail_ne hx67 (by decide)
      replace hq69 := nzQ hq69
      have hq70 := fail_isB hx67 (by assumption)
      replace hq70 := nzQ hq70
      subst hM
      exact retCI_in [0] (by simp only [go_sem, rowV_eq, rowV_eq0, List.length_replicate, rep_len, Int.toNat_natCast, ↓reduceIte, Nat.reduceEqDiff, Nat.reduceAdd, Int.reduceAdd, Nat.reduceMul, Nat.reduceLeDiff, Nat.reduceLT, Int.reduceLE, Int.reduceLT, Int.reduceNeg, Int.reduceToNat, mt, mtL, mtL_self, mt_self, mtZ, and_self, eq_self, or_true, true_or, map_st, gt_cons0, gt_conss, Int.reduceSub, or_self, h58, h60, h62, h64]) (by decide) (by simp only [go_sem, rowV_eq, rowV_eq0, List.length_replicate, rep_len, Int.toNat_natCast, ↓reduceIte, Nat.reduceEqDiff, Nat.reduceAdd, Int.reduceAdd, Nat.reduceMul, Nat.reduceLeDiff, Nat.reduceLT, Int.reduceLE, Int.reduceLT, Int.reduceNeg, Int.reduceToNat, mt, mtL, mtL_self, mt_self, mtZ, and_self, eq_self, or_true, true_or, map_st, gt_cons0, gt_conss, Int.reduceSub, or_self, h58, h60, h62, h64])
     ·rw [if_neg (ne_true h64)] at hM
      refine spQA h64 ?_
      have nh64 := nzQ h64
      try have hr71 := mpQ nh64
      exact cut_intro _ sbQ sbQ (hcut6 _ ⟨(), rfl, omQ, hM⟩)
    ·rw [if_neg (ne_true h62)] at hM
     refine spQA h62 ?_
     have nh62 := nzQ h62
     try have hr72 := mpQ nh62
     exact cut_intro _ sbQ sbQ (hcut6 _ ⟨(), rfl, omQ, hM⟩)
   ·rw [if_pos h60] at hM
    refine spQA h60 ?_
    have nh60 := nzQ h60
    try have hr73 := mpQ nh60
    have hM0 := hM; clear hM; obtain ⟨x74, hx75, hM⟩ := letk_opn hM0; clear hM0
    have hcx74 := encode_reader_fail_ok  (x1.2) 3 
    rw [← hx75] at hcx74
    refine callC_in [0] hcx74 (by decide) (by simp only [go_sem, rowV_eq, rowV_eq0, List.length_replicate, rep_len, Int.toNat_natCast, ↓reduceIte, Nat.reduceEqDiff, Nat.reduceAdd, Int.reduceAdd, Nat.reduceMul, Nat.reduceLeDiff, Nat.reduceLT, Int.reduceLE, Int.reduceLT, Int.reduceNeg, Int.reduceToNat, mt, mtL, mtL_self, mt_self, mtZ, and_self, eq_self, or_true, true_or]) (by simp only [go_sem, rowV_eq, rowV_eq0, List.length_replicate, rep_len, Int.toNat_natCast, ↓reduceIte, Nat.reduceEqDiff, Nat.reduceAdd, Int.reduceAdd, Nat.reduceMul, Nat.reduceLeDiff, Nat.reduceLT, Int.reduceLE, Int.reduceLT, Int.reduceNeg, Int.reduceToNat, mt, mtL, mtL_self, mt_self, mtZ, and_self, eq_self, or_true, true_or]) (fun hw76 => ?_)
    replace hw76 := nzQ hw76
    refine spQ ?_
    have hq77 := fail_ne hx75 (by decide)
    replace hq77 := nzQ hq77
    have hq78 := fail_isB hx75 (by assumption)
    replace hq78 := nzQ hq78
    subst hM
    exact retCI_in [0] (by simp only [go_sem, rowV_eq, rowV_eq0, List.length_replicate, rep_len, Int.toNat_natCast, ↓reduceIte, Nat.reduceEqDiff, Nat.reduceAdd, Int.reduceAdd, Nat.reduceMul, Nat.reduceLeDiff, Nat.reduceLT, Int.reduceLE, Int.reduceLT, Int.reduceNeg, Int.reduceToNat, mt, mtL, mtL_self, mt_self, mtZ, and_self, eq_self, or_true, true_or, map_st, gt_cons0, gt_conss, Int.reduceSub, or_self, h58, h60]) (by decide) (by simp only [go_sem, rowV_eq, rowV_eq0, List.length_replicate, rep_len, Int.toNat_natCast, ↓reduceIte, Nat.reduceEqDiff, Nat.reduceAdd, Int.reduceAdd, Nat.reduceMul, Nat.reduceLeDiff, Nat.reduceLT, Int.reduceLE, Int.reduceLT, Int.reduceNeg, Int.reduceToNat, mt, mtL, mtL_self, mt_self, mtZ, and_self, eq_self, or_true, true_or, map_st, gt_cons0, gt_conss, Int.reduceSub, or_self, h58, h60])
  ·rw [if_pos h58] at hM
   refine spQA h58 ?_
   have nh58 := nzQ h58
   try have hr79 := mpQ nh58
   have hM0 := hM; clear hM; obtain ⟨x80, hx81, hM⟩ := letk_opn hM0; clear hM0
   have hcx80 := encode_reader_fail_ok  (x1.2) 3 
   rw [← hx81] at hcx80
   refine callC_in [0] hcx80 (by decide) (by simp only [go_sem, rowV_eq, rowV_eq0, List.length_replicate, rep_len, Int.toNat_natCast, ↓reduceIte, Nat.reduceEqDiff, Nat.reduceAdd, Int.reduceAdd, Nat.reduceMul, Nat.reduceLeDiff, Nat.reduceLT, Int.reduceLE, Int.reduceLT, Int.reduceNeg, Int.reduceToNat, mt, mtL, mtL_self, mt_self, mtZ, and_self, eq_self, or_true, true_or]) (by simp only [go_sem, rowV_eq, rowV_eq0, List.length_replicate, rep_len, Int.toNat_natCast, ↓reduceIte, Nat.reduceEqDiff, Nat.reduceAdd, Int.reduceAdd, Nat.reduceMul, Nat.reduceLeDiff, Nat.reduceLT, Int.reduceLE, Int.reduceLT, Int.reduceNeg, Int.reduceToNat, mt, mtL, mtL_self, mt_self, mtZ, and_self, eq_self, or_true, true_or]) (fun hw82 => ?_)
   replace hw82 := nzQ hw82
   refine spQ ?_
   have hq83 := fail_ne hx81 (by decide)
   replace hq83 := nzQ hq83
   have hq84 := fail_isB hx81 (by assumption)
   replace hq84 := nzQ hq84
   subst hM
   exact retCI_in [0] (by simp only [go_sem, rowV_eq, rowV_eq0, List.length_replicate, rep_len, Int.toNat_natCast, ↓reduceIte, Nat.reduceEqDiff, Nat.reduceAdd, Int.reduceAdd, Nat.reduceMul, Nat.reduceLeDiff, Nat.reduceLT, Int.reduceLE, Int.reduceLT, Int.reduceNeg, Int.reduceToNat, mt, mtL, mtL_self, mt_self, mtZ, and_self, eq_self, or_true, true_or, map_st, gt_cons0, gt_conss, Int.reduceSub, or_self, h58]) (by decide) (by simp only [go_sem, rowV_eq, rowV_eq0, List.length_replicate, rep_len, Int.toNat_natCast, ↓reduceIte, Nat.reduceEqDiff, Nat.reduceAdd, Int.reduceAdd, Nat.reduceMul, Nat.reduceLeDiff, Nat.reduceLT, Int.reduceLE, Int.reduceLT, Int.reduceNeg, Int.reduceToNat, mt, mtL, mtL_self, mt_self, mtZ, and_self, eq_self, or_true, true_or, map_st, gt_cons0, gt_conss, Int.reduceSub, or_self, h58])
theorem itemM_okN : ∀ (N : Nat)  (r_ : S_encode_reader) (depth : Int), (0 ≤ depth) → (isB r_.b) → depth.toNat < N → CallIn En 64 [.ptr 0 0, .int .i64 depth] [.var 2 true (.agg [.sl none 1 false (r_.b.map (V.int .u8)), .int .i64 r_.e])] (.agg [.int .i64 (itemM r_ depth).1.Kind, .int .i64 (itemM r_ depth).1.N, .sl none 1 false ((itemM r_ depth).1.B.map (V.int .u8)), .sl none 4 true ((itemM r_ depth).1.L.map e_api_Item)]) [.var 2 true (.agg [.sl none 1 false ((itemM r_ depth).2.b.map (V.int .u8)), .int .i64 (itemM r_ depth).2.e])] [] := by
 intro N
 induction N with
 | zero => intro r_ depth h0 h1 h; exact absurd h (Nat.not_lt_zero _)
 | succ N ih =>
  intro r_ depth h0 h1 h
  have h9 := encode_reader_item_ok N ih r_ depth h0 h1 h
  rw [encode_reader_item_eqM h0 h1] at h9
  exact h9
theorem itemM_ok  (r_ : S_encode_reader) (depth : Int) (hp0 : 0 ≤ depth) (hp1 : isB r_.b) : CallIn En 64 [.ptr 0 0, .int .i64 depth] [.var 2 true (.agg [.sl none 1 false (r_.b.map (V.int .u8)), .int .i64 r_.e])] (.agg [.int .i64 (itemM r_ depth).1.Kind, .int .i64 (itemM r_ depth).1.N, .sl none 1 false ((itemM r_ depth).1.B.map (V.int .u8)), .sl none 4 true ((itemM r_ depth).1.L.map e_api_Item)]) [.var 2 true (.agg [.sl none 1 false ((itemM r_ depth).2.b.map (V.int .u8)), .int .i64 (itemM r_ depth).2.e])] [] :=
 itemM_okN (depth.toNat + 1) r_ depth hp0 hp1 (Nat.lt_succ_self _)
instance (priority := 1001) : DRD 8 34 6 [28, 29, 30, 31, 32] [] ([[], [], [1], [1, 2], [1, 2, 3], [0]] ++ [List.range 6]) [(5, 0)] := ⟨trivial⟩
set_option maxHeartbeats 2000000 in
set_option maxRecDepth 100000 in
instance encode_Decode_ok   (b : (List Int))  : CM En (encode_Decode b) 34 [.sl none 1 false (b.map (V.int .u8))] (fun y => .tup [.agg [.int .i64 y.1.Kind, .int .i64 y.1.N, .sl none 1 false (y.1.B.map (V.int .u8)), .sl none 4 true (y.1.L.map e_api_Item)], .int .i64 y.2]) (fun _ => []) := by
 refine cmQ fun r hM => ?_
 rw [encode_Decode.eq_1] at hM
 refine enterV En_ok En_mo [7] Try.func34 rfl Try.ntmps34 (by kernel_rfl) fun hw => ct_start ?_
 refine spQ ?_
 replace hw := nzQ hw
 refine condC_intro (fun h1 => ?_) (fun h1 => ?_)
 ·rw [if_pos h1] at hM
  refine spQA h1 ?_
  have nh1 := nzQ h1
  try have hr2 := mpQ nh1
  subst hM
  exact retC_view (lfQA h1)
 ·rw [if_neg (ne_true h1)] at hM
  refine spQA h1 ?_
  have nh1 := nzQ h1
  try have hr3 := mpQ nh1
  have hM0 := hM; clear hM; obtain ⟨x4, hx5, hM⟩ := letk_opn hM0; clear hM0
  have hcx4 := itemM_ok  ({ b := b, e := 0 } : S_encode_reader) 8 (by (first | decide | exact isB_wf hw.2)) (by (first | decide | exact isB_wf hw.2))
  rw [← hx5] at hcx4
  refine callC_in [1] hcx4 (by decide) (by simp only [go_sem, rowV_eq, rowV_eq0, List.length_replicate, rep_len, Int.toNat_natCast, ↓reduceIte, Nat.reduceEqDiff, Nat.reduceAdd, Int.reduceAdd, Nat.reduceMul, Nat.reduceLeDiff, Nat.reduceLT, Int.reduceLE, Int.reduceLT, Int.reduceNeg, Int.reduceToNat, mt, mtL, mtL_self, mt_self, mtZ, and_self, eq_self, or_true, true_or]) (by simp only [go_sem, rowV_eq, rowV_eq0, List.length_replicate, rep_len, Int.toNat_natCast, ↓reduceIte, Nat.reduceEqDiff, Nat.reduceAdd, Int.reduceAdd, Nat.reduceMul, Nat.reduceLeDiff, Nat.reduceLT, Int.reduceLE, Int.reduceLT, Int.reduceNeg, Int.reduceToNat, mt, mtL, mtL_self, mt_self, mtZ, and_self, eq_self, or_true, true_or]) (fun hw6 => ?_)
  replace hw6 := nzQ hw6
  refine spQ ?_
  have hM0 := hM; clear hM; obtain ⟨j7, hj7, hM⟩ := letj_opn hM0; clear hM0
  refine seqC_intro (fun S => ∃ p : S_encode_reader, S = (⟨[(2, .ptr 0 0), (4, .ptr 1 0), (5, .ptr 2 0)], [(0, .var 4 true (.agg [.int .i64 0, .int .i64 0, .sl (some true) 1 false [], .sl (some true) 4 true []])), (1, .var 2 true (.agg [.sl none 1 false (p.b.map (V.int .u8)), .int .i64 p.e])), (2, .var 4 true (.agg [.int .i64 x4.1.Kind, .int .i64 x4.1.N, .sl none 1 false (x4.1.B.map (V.int .u8)), .sl none 4 true (x4.1.L.map e_api_Item)]))], 3⟩ : St) ∧ (True) ∧ j7 p = r) ?_ (fun hcut7 => ?_)
  ·clear hM
   rintro S ⟨p7, rfl, hfa7, hM⟩
   have hM0 := hM; clear hM; have hM := letj_use hM0 hj7; clear hM0
   refine spQ ?_
   have hF := h1
   exact auQ
  ·refine spQ ?_
   refine condC_intro (fun h11 => ?_) (fun h11 => ?_)
   ·rw [if_pos h11] at hM
    refine spQA h11 ?_
    have nh11 := nzQ h11
    try have hr12 := mpQ nh11
    have hM0 := hM; clear hM; obtain ⟨x13, hx14, hM⟩ := letk_opn hM0; clear hM0
    have hcx13 := encode_reader_fail_ok  (x4.2) 3 
    rw [← hx14] at hcx13
    refine callC_in [1] hcx13 (by decide) (by simp only [go_sem, rowV_eq, rowV_eq0, List.length_replicate, rep_len, Int.toNat_natCast, ↓reduceIte, Nat.reduceEqDiff, Nat.reduceAdd, Int.reduceAdd, Nat.reduceMul, Nat.reduceLeDiff, Nat.reduceLT, Int.reduceLE, Int.reduceLT, Int.reduceNeg, Int.reduceToNat, mt, mtL, mtL_self, mt_self, mtZ, and_self, eq_self, or_true, true_or]) (by simp only [go_sem, rowV_eq, rowV_eq0, List.length_replicate, rep_len, Int.toNat_natCast, ↓reduceIte, Nat.reduceEqDiff, Nat.reduceAdd, Int.reduceAdd, Nat.reduceMul, Nat.reduceLeDiff, Nat.reduceLT, Int.reduceLE, Int.reduceLT, Int.reduceNeg, Int.reduceToNat, mt, mtL, mtL_self, mt_self, mtZ, and_self, eq_self, or_true, true_or]) (fun hw15 => ?_)
    replace hw15 := nzQ hw15
    refine spQ ?_
    exact cut_intro _ sbQ sbQ (hcut7 _ ⟨x13, rfl, trivial, hM⟩)
   ·rw [if_neg (ne_true h11)] at hM
    refine spQA h11 ?_
    have nh11 := nzQ h11
    try have hr16 := mpQ nh11
    exact cut_intro _ sbQ sbQ (hcut7 _ ⟨x4.2, rfl, trivial, hM⟩)
set_option maxHeartbeats 2000000 in
set_option maxRecDepth 100000 in
instance encode_Numbers_ok   (i_ : S_api_Item)  : CM En (encode_Numbers i_) 54 [.agg [.int .i64 i_.Kind, .int .i64 i_.N, .sl none 1 false (i_.B.map (V.int .u8)), .sl none 4 true (i_.L.map e_api_Item)]] (fun y => .tup [.sl none 1 false (y.1.map (V.int .i64)), .int .i64 y.2]) (fun _ => []) := by
 refine cmQ fun r hM => ?_
 rw [encode_Numbers.eq_1] at hM
 refine enterV En_ok En_mo noJ Try.func54 rfl Try.ntmps54 (by kernel_rfl) fun hw => ct_start ?_
 refine spQ ?_
 replace hw := nzQ hw
 have hM0 := hM; clear hM; obtain ⟨x1, hx2, hM⟩ := letk_opn hM0; clear hM0
 have hcx1 := cmU hx2
 refine callC_give hcx1 clQ clQ (fun hw3 => ?_)
 replace hw3 := nzQ hw3
 refine spQ ?_
 refine condC_intro (fun h4 => ?_) (fun h4 => ?_)
 ·rw [if_pos h4] at hM
  refine spQA h4 ?_
  have nh4 := nzQ h4
  try have hr5 := mpQ nh4
  subst hM
  exact retC_view (lfQA h4)
 ·rw [if_neg (ne_true h4)] at hM
  refine spQA h4 ?_
  have nh4 := nzQ h4
  try have hr6 := mpQ nh4
  refine condC_intro (fun h7 => ?_) (fun h7 => ?_)
  ·rw [if_pos h7] at hM
   refine spQA h7 ?_
   have nh7 := nzQ h7
   try have hr8 := mpQ nh7
   subst hM
   exact retC_view (lfQA (And.intro h4 h7))
  ·rw [if_neg (ne_true h7)] at hM
   refine spQA h7 ?_
   have nh7 := nzQ h7
   try have hr9 := mpQ nh7
   have hM0 := hM; clear hM; obtain ⟨f10, d10, hf10, hd10, hM⟩ := iter_opn hM0; clear hM0
   refine ct_loopW (fun n S => ∃ p : Int × List Int, S = (⟨[(4, .own 1), (14, .sl none 4 true (i_.L.map e_api_Item)), (15, .int .i64 (i_.L.length : Int)), (16, .int .i64 p.1)], [(1, .own 3 1 false none (p.2.map (V.int .i64)))], 2⟩ : St) ∧ ((0 ≤ p.1) ∧ (p.1 ≤ (i_.L.length : Int)) ∧ (((p.2).length : Int) ≤ p.1)) ∧ ((i_.L.length : Int) - p.1).toNat < n ∧ iter n f10 d10 p = r) (((i_.L.length : Int) - 0).toNat + 1) _ _ (weak_nil 4 3 rfl (by decide)) sbQ sbQ ⟨(0, ([] : List Int)), rfl, ⟨omQ, omQ, omQ⟩, (Nat.lt_succ_self _), hM⟩ ?_
   clear hM
   rintro n10 S ⟨p10, rfl, hfa10, hm10, hM⟩
   have hM0 := hM; clear hM; obtain ⟨ag10, hag10, hM⟩ := iter_step hM0 (by omega) hf10; clear hM0
   replace hfa10 := nzQ hfa10
   replace hm10 := nzQ hm10
   have ha10 : addI .i64 p10.1 1 = p10.1 + 1 := add_one omQ omQ
   refine spQA ha10 ?_
   have hF := (And.intro h4 (And.intro h7 ha10))
   exact auQ
set_option maxHeartbeats 2000000 in
set_option maxRecDepth 100000 in
instance payment_FromInvoice_ok   (x_ : (List Int))  : CM En (payment_FromInvoice x_) 19 [.sl none 1 false (x_.map (V.int .u8))] (fun y => .tup [(e_api_Invoice y.1), .int .i64 y.2]) (fun _ => []) := by
 refine cmQ fun r hM => ?_
 rw [payment_FromInvoice.eq_1] at hM
 refine enterV En_ok En_mo noJ Try.func19 rfl Try.ntmps19 (by kernel_rfl) fun hw => ct_start ?_
 refine spQ ?_
 replace hw := nzQ hw
 have hM0 := hM; clear hM; obtain ⟨x1, hx2, hM⟩ := letk_opn hM0; clear hM0
 have hcx1 := cmU hx2
 refine callC_give hcx1 clQ clQ (fun hw3 => ?_)
 replace hw3 := nzQ hw3
 refine spQ ?_
 refine guardC_f (fun h4 => ?_) (fun h4 => ?_)
 ·rw [if_neg (ne_true h4)] at hM
  refine spQA h4 ?_
  have nh4 := nzQ h4
  try have hr5 := mpQ nh4
  refine guardC_f (fun h6 => ?_) (fun h6 => ?_)
  ·rw [if_neg (ne_true h6)] at hM
   refine spQA h6 ?_
   have nh6 := nzQ h6
   try have hr7 := mpQ nh6
   refine guardC_f (fun h8 => ?_) (fun h8 => ?_)
   ·rw [if_neg (ne_true h8)] at hM
    refine spQA h8 ?_
    have nh8 := nzQ h8
    try have hr9 := mpQ nh8
    refine bindC_intro omQ ?_
    have he10 : ∀ d, elt (x1.1.L.map e_api_Item) 0 d = e_api_Item (gt x1.1.L 0) := fun d => elt_mp (l := x1.1.L) (f := e_api_Item) (i := 0) omQ d
    refine spQA he10 ?_
    refine guardC_f (fun h11 => ?_) (fun h11 => ?_)
    ·rw [if_neg (ne_true h11)] at hM
     refine spQA (And.intro he10 h11) ?_
     have nh11 := nzQ h11
     try have hr12 := mpQ nh11
     refine bindC_intro omQ ?_
     refine spQA he10 ?_
     refine condC_intro (fun h13 => ?_) (fun h13 => ?_)
     ·rw [if_pos h13] at hM
      refine spQA (And.intro he10 h13) ?_
      have nh13 := nzQ h13
      try have hr14 := mpQ nh13
      subst hM
      exact retC_view (lfQA (And.intro he10 (And.intro h4 (And.intro h6 (And.intro h8 (And.intro h11 h13))))))
     ·rw [if_neg (ne_true h13)] at hM
      refine spQA (And.intro he10 h13) ?_
      have nh13 := nzQ h13
      try have hr15 := mpQ nh13
      refine bindC_intro omQ ?_
      refine spQA he10 ?_
      have hM0 := hM; clear hM; obtain ⟨x16, hx17, hM⟩ := letk_opn hM0; clear hM0
      have hcx16 := cmU hx17
      refine callC_give hcx16 (clQA he10) (clQA he10) (fun hw18 => ?_)
      replace hw18 := nzQ hw18
      refine spQA he10 ?_
      have hq19 := Numbers_len hx17
      replace hq19 := nzQ hq19
      refine condC_intro (fun h20 => ?_) (fun h20 => ?_)
      ·rw [if_pos h20] at hM
       refine spQA (And.intro he10 h20) ?_
       have nh20 := nzQ h20
       try have hr21 := mpQ nh20
       subst hM
       exact retC_view (lfQA (And.intro he10 (And.intro h4 (And.intro h6 (And.intro h8 (And.intro h11 (And.intro h13 h20)))))))
      ·rw [if_neg (ne_true h20)] at hM
       refine spQA (And.intro he10 h20) ?_
       have nh20 := nzQ h20
       try have hr22 := mpQ nh20
       refine ct_draw 77 18 [7, 55, 56, 57, 58, 59, 60, 61, 62, 63, 64, 65, 66, 67, 68, 69, 70, 71] [] ([[], [0], [0, 1], [0, 1, 2], [0, 1, 2, 3], [0, 1, 2, 3, 4], [0, 1, 2, 3, 4, 5], [], [7], [7, 8], [], [10], [10, 11], [], [13], [13, 14], [0, 1, 2, 3, 4, 5, 6, 7, 8, 9, 10, 11, 12, 13, 14, 15], []] ++ [List.range 18]) [] (by kernel_rfl) (by exact alQ) ?_
       refine spQA he10 ?_
       refine hbindC_intro omQ ?_
       refine spQA he10 ?_
       refine hbindC_intro omQ ?_
       have he23 := eltsN_mp (l := (gt x1.1.L 0).B) (f := (V.int .u8)) (k := 32) omQ
       refine spQA (And.intro he10 he23) ?_
       have hF := (And.intro h4 (And.intro h6 (And.intro h8 (And.intro he10 (And.intro h11 (And.intro h13 (And.intro h20 he23)))))))
       exact auQ
    ·rw [if_pos h11] at hM
     refine spQA (And.intro he10 h11) ?_
     have nh11 := nzQ h11
     try have hr33 := mpQ nh11
     subst hM
     exact retC_view (lfQA (And.intro he10 (And.intro h4 (And.intro h6 (And.intro h8 h11)))))
   ·rw [if_pos h8] at hM
    refine spQA h8 ?_
    have nh8 := nzQ h8
    try have hr34 := mpQ nh8
    subst hM
    exact retC_view (lfQA (And.intro h4 (And.intro h6 h8)))
  ·rw [if_pos h6] at hM
   refine spQA h6 ?_
   have nh6 := nzQ h6
   try have hr35 := mpQ nh6
   subst hM
   exact retC_view (lfQA (And.intro h4 h6))
 ·rw [if_pos h4] at hM
  refine spQA h4 ?_
  have nh4 := nzQ h4
  try have hr36 := mpQ nh4
  subst hM
  exact retC_view (lfQA h4)
set_option maxHeartbeats 2000000 in
set_option maxRecDepth 100000 in
instance specielaw38_awake_ok     : CM En (specielaw38_awake) 5 [] (fun y => .bool y) (fun _ => []) := by
 refine cmQ fun r hM => ?_
 rw [specielaw38_awake.eq_1] at hM
 refine enterV En_ok En_mo noJ Try.func5 rfl Try.ntmps5 (by kernel_rfl) fun hw => ct_start ?_
 refine spQ ?_
 replace hw := nzQ hw
 have hF := trueQ
 exact auQ
set_option maxHeartbeats 2000000 in
set_option maxRecDepth 100000 in
instance specielaw38_long_ok   (s : S_api_Spend)  : CM En (specielaw38_long s) 21 [(e_api_Spend s)] (fun y => .bool y) (fun _ => []) := by
 refine cmQ fun r hM => ?_
 rw [specielaw38_long.eq_1] at hM
 refine enterV En_ok En_mo noJ Try.func21 rfl Try.ntmps21 (by kernel_rfl) fun hw => ct_start ?_
 refine spQ ?_
 replace hw := nzQ hw
 have hF := trueQ
 exact auQ
set_option maxHeartbeats 2000000 in
set_option maxRecDepth 100000 in
instance slices_IndexFunc_api_Spend_api_Spend_at_specielaw38_long_ok   (s : (List S_api_Spend))  : CM En (slices_IndexFunc_api_Spend_api_Spend_at_specielaw38_long s) 55 [.sl none 80 true (s.map e_api_Spend), .fn 21 []] (fun y => .int .i64 y) (fun _ => []) := by
 refine cmQ fun r hM => ?_
 rw [slices_IndexFunc_api_Spend_api_Spend_at_specielaw38_long.eq_1] at hM
 refine enterV En_ok En_mo noJ Try.func55 rfl Try.ntmps55 (by kernel_rfl) fun hw => ct_start ?_
 refine spQ ?_
 replace hw := nzQ hw
 have hM0 := hM; clear hM; obtain ⟨f1, d1, hf1, hd1, hM⟩ := iter_opn hM0; clear hM0
 refine ct_loop (fun n S => ∃ p : Int, S = (⟨[(0, .sl none 80 true (s.map e_api_Spend)), (1, .fn 21 []), (7, .int .i64 (s.length : Int)), (8, .int .i64 p)], [], 0⟩ : St) ∧ ((0 ≤ p) ∧ (p ≤ (s.length : Int))) ∧ ((s.length : Int) - p).toNat < n ∧ iter n f1 d1 p = r) (((s.length : Int) - 0).toNat + 1) _ sbQ sbQ ⟨0, rfl, ⟨omQ, omQ⟩, (Nat.lt_succ_self _), hM⟩ ?_
 clear hM
 rintro n1 S ⟨p1, rfl, hfa1, hm1, hM⟩
 have hM0 := hM; clear hM; obtain ⟨ag1, hag1, hM⟩ := iter_step hM0 (by omega) hf1; clear hM0
 replace hfa1 := nzQ hfa1
 replace hm1 := nzQ hm1
 have ha1 : addI .i64 p1 1 = p1 + 1 := add_one omQ omQ
 refine spQA ha1 ?_
 have hF := ha1
 exact auQ
set_option maxHeartbeats 2000000 in
set_option maxRecDepth 100000 in
instance slices_ContainsFunc_api_Spend_api_Spend_at_specielaw38_long_ok   (s : (List S_api_Spend))  : CM En (slices_ContainsFunc_api_Spend_api_Spend_at_specielaw38_long s) 20 [.sl none 80 true (s.map e_api_Spend), .fn 21 []] (fun y => .bool y) (fun _ => []) := by
 refine cmQ fun r hM => ?_
 rw [slices_ContainsFunc_api_Spend_api_Spend_at_specielaw38_long.eq_1] at hM
 refine enterV En_ok En_mo noJ Try.func20 rfl Try.ntmps20 (by kernel_rfl) fun hw => ct_start ?_
 refine spQ ?_
 replace hw := nzQ hw
 have hF := trueQ
 exact auQ
set_option maxHeartbeats 2000000 in
set_option maxRecDepth 100000 in
instance specielaw38_great_1_ok   (h_ : S_api_Chain)  : CM En (specielaw38_great_1 h_) 23 [(e_api_Chain h_)] (fun y => .bool y) (fun _ => []) := by
 refine cmQ fun r hM => ?_
 rw [specielaw38_great_1.eq_1] at hM
 refine enterV En_ok En_mo noJ Try.func23 rfl Try.ntmps23 (by kernel_rfl) fun hw => ct_start ?_
 refine spQ ?_
 replace hw := nzQ hw
 have hF := trueQ
 exact auQ
set_option maxHeartbeats 2000000 in
set_option maxRecDepth 100000 in
instance specielaw38_great_2_ok   (x_ : S_api_Escrow)  : CM En (specielaw38_great_2 x_) 25 [(e_api_Escrow x_)] (fun y => .bool y) (fun _ => []) := by
 refine cmQ fun r hM => ?_
 rw [specielaw38_great_2.eq_1] at hM
 refine enterV En_ok En_mo noJ Try.func25 rfl Try.ntmps25 (by kernel_rfl) fun hw => ct_start ?_
 refine spQ ?_
 replace hw := nzQ hw
 have hF := trueQ
 exact auQ
set_option maxHeartbeats 2000000 in
set_option maxRecDepth 100000 in
instance slices_IndexFunc_api_Chain_api_Chain_at_specielaw38_great_1_ok   (s : (List S_api_Chain))  : CM En (slices_IndexFunc_api_Chain_api_Chain_at_specielaw38_great_1 s) 56 [.sl none 81 true (s.map e_api_Chain), .fn 23 []] (fun y => .int .i64 y) (fun _ => []) := by
 refine cmQ fun r hM => ?_
 rw [slices_IndexFunc_api_Chain_api_Chain_at_specielaw38_great_1.eq_1] at hM
 refine enterV En_ok En_mo noJ Try.func56 rfl Try.ntmps56 (by kernel_rfl) fun hw => ct_start ?_
 refine spQ ?_
 replace hw := nzQ hw
 have hM0 := hM; clear hM; obtain ⟨f1, d1, hf1, hd1, hM⟩ := iter_opn hM0; clear hM0
 refine ct_loop (fun n S => ∃ p : Int, S = (⟨[(0, .sl none 81 true (s.map e_api_Chain)), (1, .fn 23 []), (7, .int .i64 (s.length : Int)), (8, .int .i64 p)], [], 0⟩ : St) ∧ ((0 ≤ p) ∧ (p ≤ (s.length : Int))) ∧ ((s.length : Int) - p).toNat < n ∧ iter n f1 d1 p = r) (((s.length : Int) - 0).toNat + 1) _ sbQ sbQ ⟨0, rfl, ⟨omQ, omQ⟩, (Nat.lt_succ_self _), hM⟩ ?_
 clear hM
 rintro n1 S ⟨p1, rfl, hfa1, hm1, hM⟩
 have hM0 := hM; clear hM; obtain ⟨ag1, hag1, hM⟩ := iter_step hM0 (by omega) hf1; clear hM0
 replace hfa1 := nzQ hfa1
 replace hm1 := nzQ hm1
 have ha1 : addI .i64 p1 1 = p1 + 1 := add_one omQ omQ
 refine spQA ha1 ?_
 have hF := ha1
 exact auQ
set_option maxHeartbeats 2000000 in
set_option maxRecDepth 100000 in
instance slices_ContainsFunc_api_Chain_api_Chain_at_specielaw38_great_1_ok   (s : (List S_api_Chain))  : CM En (slices_ContainsFunc_api_Chain_api_Chain_at_specielaw38_great_1 s) 22 [.sl none 81 true (s.map e_api_Chain), .fn 23 []] (fun y => .bool y) (fun _ => []) := by
 refine cmQ fun r hM => ?_
 rw [slices_ContainsFunc_api_Chain_api_Chain_at_specielaw38_great_1.eq_1] at hM
 refine enterV En_ok En_mo noJ Try.func22 rfl Try.ntmps22 (by kernel_rfl) fun hw => ct_start ?_
 refine spQ ?_
 replace hw := nzQ hw
 have hF := trueQ
 exact auQ
set_option maxHeartbeats 2000000 in
set_option maxRecDepth 100000 in
instance slices_IndexFunc_api_Escrow_api_Escrow_at_specielaw38_great_2_ok   (s : (List S_api_Escrow))  : CM En (slices_IndexFunc_api_Escrow_api_Escrow_at_specielaw38_great_2 s) 57 [.sl none 5 true (s.map e_api_Escrow), .fn 25 []] (fun y => .int .i64 y) (fun _ => []) := by
 refine cmQ fun r hM => ?_
 rw [slices_IndexFunc_api_Escrow_api_Escrow_at_specielaw38_great_2.eq_1] at hM
 refine enterV En_ok En_mo noJ Try.func57 rfl Try.ntmps57 (by kernel_rfl) fun hw => ct_start ?_
 refine spQ ?_
 replace hw := nzQ hw
 have hM0 := hM; clear hM; obtain ⟨f1, d1, hf1, hd1, hM⟩ := iter_opn hM0; clear hM0
 refine ct_loop (fun n S => ∃ p : Int, S = (⟨[(0, .sl none 5 true (s.map e_api_Escrow)), (1, .fn 25 []), (7, .int .i64 (s.length : Int)), (8, .int .i64 p)], [], 0⟩ : St) ∧ ((0 ≤ p) ∧ (p ≤ (s.length : Int))) ∧ ((s.length : Int) - p).toNat < n ∧ iter n f1 d1 p = r) (((s.length : Int) - 0).toNat + 1) _ sbQ sbQ ⟨0, rfl, ⟨omQ, omQ⟩, (Nat.lt_succ_self _), hM⟩ ?_
 clear hM
 rintro n1 S ⟨p1, rfl, hfa1, hm1, hM⟩
 have hM0 := hM; clear hM; obtain ⟨ag1, hag1, hM⟩ := iter_step hM0 (by omega) hf1; clear hM0
 replace hfa1 := nzQ hfa1
 replace hm1 := nzQ hm1
 have ha1 : addI .i64 p1 1 = p1 + 1 := add_one omQ omQ
 refine spQA ha1 ?_
 have hF := ha1
 exact auQ
set_option maxHeartbeats 2000000 in
set_option maxRecDepth 100000 in
instance slices_ContainsFunc_api_Escrow_api_Escrow_at_specielaw38_great_2_ok   (s : (List S_api_Escrow))  : CM En (slices_ContainsFunc_api_Escrow_api_Escrow_at_specielaw38_great_2 s) 24 [.sl none 5 true (s.map e_api_Escrow), .fn 25 []] (fun y => .bool y) (fun _ => []) := by
 refine cmQ fun r hM => ?_
 rw [slices_ContainsFunc_api_Escrow_api_Escrow_at_specielaw38_great_2.eq_1] at hM
 refine enterV En_ok En_mo noJ Try.func24 rfl Try.ntmps24 (by kernel_rfl) fun hw => ct_start ?_
 refine spQ ?_
 replace hw := nzQ hw
 have hF := trueQ
 exact auQ
set_option maxHeartbeats 2000000 in
set_option maxRecDepth 100000 in
instance specielaw38_great_ok   (p_ : S_api_Payment)  : CM En (specielaw38_great p_) 6 [.agg [.int .i64 p_.Number, .sl none 80 true (p_.Spends.map e_api_Spend), .sl none 81 true (p_.Chains.map e_api_Chain), .sl none 5 true (p_.Escrow.map e_api_Escrow)]] (fun y => .bool y) (fun _ => []) := by
 refine cmQ fun r hM => ?_
 rw [specielaw38_great.eq_1] at hM
 refine enterV En_ok En_mo noJ Try.func6 rfl Try.ntmps6 (by kernel_rfl) fun hw => ct_start ?_
 refine spQ ?_
 replace hw := nzQ hw
 have hF := trueQ
 exact auQ
set_option maxRecDepth 100000 in
theorem slices_Clone_byte_byte_ok (z0 : Option Bool) (s : List Int) : CallOk En 83 [.sl z0 1 false (s.map (V.int .u8))] (.own 0) [.own 5 1 false none ((slices_Clone_byte_byte s).map (V.int .u8))] := by
 show CallOk En 83 [.sl z0 1 false (s.map (V.int .u8))] (.own 0) [.own 5 1 false none (s.map (V.int .u8))]
 refine callOk_nil (pre := []) (post := []) (fun hl => ?_) ?_ z0
 ·have hl : s = [] := by cases s with | nil => rfl | cons a s => cases hl
  subst hl
  refine enterV En_ok En_mo noJ Try.func83 rfl Try.ntmps83 (by kernel_rfl) fun hw => ct_start ?_
  simp only [go_sem, rowV_eq, rowV_eq0, List.length_replicate, rep_len, Int.toNat_natCast, ↓reduceIte, Nat.reduceEqDiff, Nat.reduceAdd, Int.reduceAdd, Nat.reduceMul, Nat.reduceLeDiff, Nat.reduceLT, Int.reduceLE, Int.reduceLT, Int.reduceNeg, Int.reduceToNat, List.nil_append]
  exact retC_nil (by decide)
 ·refine enterV En_ok En_mo noJ Try.func83 rfl Try.ntmps83 (by kernel_rfl) fun hw => ct_start ?_
  simp only [go_sem, rowV_eq, rowV_eq0, List.length_replicate, rep_len, Int.toNat_natCast, ↓reduceIte, Nat.reduceEqDiff, Nat.reduceAdd, Int.reduceAdd, Nat.reduceMul, Nat.reduceLeDiff, Nat.reduceLT, Int.reduceLE, Int.reduceLT, Int.reduceNeg, Int.reduceToNat, List.nil_append]
  have hn : s.length ≤ 1073741824 := by have h := hw; simp only [wfL, wfV, List.nil_append, LEN_eq, List.length_map] at h; exact h.1.1
  refine bindC_intro (by first | omega | (simp only [List.length_map, List.length_nil, List.nil_append]; omega)) ?_
  refine spQ ?_
  refine retC_ownZ 0 rfl clQ
set_option maxHeartbeats 2000000 in
set_option maxRecDepth 100000 in
instance spend_bytes_ok   (h_ : (List Int))  : CM En (spend_bytes h_) 60 [(e_arr45 h_)] (fun y => .agg [.int .i64 y.Kind, .int .i64 y.N, .sl none 1 false (y.B.map (V.int .u8)), .sl none 4 true (y.L.map e_api_Item)]) (fun _ => []) := by
 refine cmQ fun r hM => ?_
 rw [spend_bytes.eq_1] at hM
 refine enterV En_ok En_mo noJ Try.func60 rfl Try.ntmps60 (by kernel_rfl) fun hw => ct_start ?_
 refine spQ ?_
 replace hw := nzQ hw
 have hM0 := hM; clear hM; obtain ⟨x1, hx2, hM⟩ := letk_opn hM0; clear hM0
 have hcx1 := slices_Clone_byte_byte_ok (some false) (arrN 32 h_) 
 rw [← hx2] at hcx1
 refine callC_give hcx1 clQ clQ (fun hw3 => ?_)
 replace hw3 := nzQ hw3
 refine spQ ?_
 subst hM
 exact retC_view lfQ
set_option maxHeartbeats 2000000 in
set_option maxRecDepth 100000 in
instance encode_Ints_ok   (l : (List Int))  : CM En (encode_Ints l) 63 [.sl none 1 false (l.map (V.int .i64))] (fun y => .agg [.int .i64 y.Kind, .int .i64 y.N, .sl none 1 false (y.B.map (V.int .u8)), .sl none 4 true (y.L.map e_api_Item)]) (fun _ => []) := by
 refine cmQ fun r hM => ?_
 rw [encode_Ints.eq_1] at hM
 refine enterV En_ok En_mo noJ Try.func63 rfl Try.ntmps63 (by kernel_rfl) fun hw => ct_start ?_
 refine spQ ?_
 replace hw := nzQ hw
 have hM0 := hM; clear hM; obtain ⟨f1, d1, hf1, hd1, hM⟩ := iter_opn hM0; clear hM0
 refine ct_loopW (fun n S => ∃ p : Int × List S_api_Item, S = (⟨[(2, .ptr 0 0), (3, .ptr 1 0), (7, .sl none 1 false (l.map (V.int .i64))), (8, .int .i64 (l.length : Int)), (9, .int .i64 p.1)], [(0, .var 4 true (.agg [.int .i64 0, .int .i64 0, .sl (some true) 1 false [], .sl (some true) 4 true []])), (1, .var 4 true (.agg [.int .i64 3, .int .i64 0, .sl (some true) 1 false [], .own 2])), (2, .own 86 4 true none (p.2.map e_api_Item))], 3⟩ : St) ∧ ((0 ≤ p.1) ∧ (p.1 ≤ (l.length : Int)) ∧ (((p.2).length : Int) ≤ p.1)) ∧ ((l.length : Int) - p.1).toNat < n ∧ iter n f1 d1 p = r) (((l.length : Int) - 0).toNat + 1) _ _ (weak_nilV 1 3 86 rfl rfl (by decide)) sbQ sbQ ⟨(0, ([] : List S_api_Item)), rfl, ⟨omQ, omQ, omQ⟩, (Nat.lt_succ_self _), hM⟩ ?_
 clear hM
 rintro n1 S ⟨p1, rfl, hfa1, hm1, hM⟩
 have hM0 := hM; clear hM; obtain ⟨ag1, hag1, hM⟩ := iter_step hM0 (by omega) hf1; clear hM0
 replace hfa1 := nzQ hfa1
 replace hm1 := nzQ hm1
 have ha1 : addI .i64 p1.1 1 = p1.1 + 1 := add_one omQ omQ
 refine spQA ha1 ?_
 have hF := ha1
 exact auQ
set_option maxHeartbeats 2000000 in
set_option maxRecDepth 100000 in
theorem coin_writer_ints_ok  (z0_1 : Option Bool) (z1 : Option Bool) (w_ : S_coin_writer) (l_ : (List Int)) (hp0 : w_.l.length ≤ 1000) : CallIn En 84 [.ptr 0 0, .sl z1 1 false (l_.map (V.int .i64))] [.var 1 true (.agg [.own 1]), .own 86 4 true z0_1 (w_.l.map e_api_Item)] (.tup []) [.var 1 true (.agg [.own 1]), .own 86 4 true none ((coin_writer_ints w_ l_).l.map e_api_Item)] [] := by
 generalize hM : coin_writer_ints w_ l_ = r
 rw [coin_writer_ints.eq_1] at hM
 refine enterI En_ok En_mo noJ Try.func84 rfl Try.ntmps84 (by kernel_rfl) rfl fun ks hw hwB => ct_start ?_
 refine spQ ?_
 replace hw := nzQ hw
 try simp only [wfBs, wfB, decide_eq_true_eq, decide_eq_false_iff_not, Bool.and_eq_true, Bool.or_eq_true, Bool.not_eq_true', Bool.not_eq_false', beq_iff_eq, bne_iff_ne, beq_eq_false_iff_ne, bne_eq_false_iff_eq, ne_eq, Int.not_lt, Int.not_le, gt_iff_lt, ge_iff_le, List.length_map, wfL, wfV, and_true, true_and, LEN_eq, rng_i64, rng_u64, rng_u32, rng_i32, sl_len, st_len, List.length_append, List.length_cons, List.length_nil, List.length_replicate, rep_len, rowV_len, spl_len, cutN_len, arrN_len, nat8_len, remI_nn] at hwB
 refine ct_draw 16 14 [4, 5, 6, 7, 8, 9, 10, 11, 12, 13, 14, 15] [] [[], [0], [0, 1], [0, 1, 2], [], [4], [0, 1, 2, 3], [], [0, 1, 2, 3, 6, 7], [0, 1, 2, 3, 6, 7, 8], [0, 1, 2, 3, 4, 5, 6, 7, 8, 9], [0], [0, 11], [0, 1, 2, 3, 7, 8, 11, 12]] [(8, 1), (10, 10), (13, 0)] (by kernel_rfl) (by exact alQ) ?_
 refine spQ ?_
 have hM0 := hM; clear hM; obtain ⟨x1, hx2, hM⟩ := letk_opn hM0; clear hM0
 have hcx1 := cmU hx2
 refine hcallC_give hcx1 clQ clQ ?_
 refine spQ ?_
 refine hbindC_introA omQ clQ ?_
 refine spQ ?_
 refine hbindC_intro omQ ?_
 have he3 : ∀ d, elt ((w_.l ++ ([z_api_Item] : List S_api_Item)).map e_api_Item) w_.l.length d = e_api_Item (gt (w_.l ++ ([z_api_Item] : List S_api_Item)) (w_.l.length : Int)) := fun d => elt_mp (l := (w_.l ++ ([z_api_Item] : List S_api_Item))) (f := e_api_Item) (i := (w_.l.length : Int)) omQ d
 refine spQA he3 ?_
 refine hbindC_introU omQ clQ ?_
 refine spQA he3 ?_
 subst hM
 exact retCI_in [0, 10] (by simp only [go_sem, rowV_eq, rowV_eq0, List.length_replicate, rep_len, Int.toNat_natCast, ↓reduceIte, Nat.reduceEqDiff, Nat.reduceAdd, Int.reduceAdd, Nat.reduceMul, Nat.reduceLeDiff, Nat.reduceLT, Int.reduceLE, Int.reduceLT, Int.reduceNeg, Int.reduceToNat, mt, mtL, mtL_self, mt_self, mtZ, and_self, eq_self, or_true, true_or, map_st, he3, gt_cons0, gt_conss, Int.reduceSub, or_self]) (by decide) (by simp only [go_sem, rowV_eq, rowV_eq0, List.length_replicate, rep_len, Int.toNat_natCast, ↓reduceIte, Nat.reduceEqDiff, Nat.reduceAdd, Int.reduceAdd, Nat.reduceMul, Nat.reduceLeDiff, Nat.reduceLT, Int.reduceLE, Int.reduceLT, Int.reduceNeg, Int.reduceToNat, mt, mtL, mtL_self, mt_self, mtZ, and_self, eq_self, or_true, true_or, map_st, he3, gt_cons0, gt_conss, Int.reduceSub, or_self])
set_option maxHeartbeats 2000000 in
set_option maxRecDepth 100000 in
theorem coin_writer_bytes_ok  (z0_1 : Option Bool) (z1 : Option Bool) (w_ : S_coin_writer) (b : (List Int)) (hp0 : w_.l.length ≤ 1000) : CallIn En 85 [.ptr 0 0, .sl z1 1 false (b.map (V.int .u8))] [.var 1 true (.agg [.own 1]), .own 86 4 true z0_1 (w_.l.map e_api_Item)] (.tup []) [.var 1 true (.agg [.own 1]), .own 86 4 true none ((coin_writer_bytes w_ b).l.map e_api_Item)] [] := by
 generalize hM : coin_writer_bytes w_ b = r
 rw [coin_writer_bytes.eq_1] at hM
 refine enterI En_ok En_mo noJ Try.func85 rfl Try.ntmps85 (by kernel_rfl) rfl fun ks hw hwB => ct_start ?_
 refine spQ ?_
 replace hw := nzQ hw
 try simp only [wfBs, wfB, decide_eq_true_eq, decide_eq_false_iff_not, Bool.and_eq_true, Bool.or_eq_true, Bool.not_eq_true', Bool.not_eq_false', beq_iff_eq, bne_iff_ne, beq_eq_false_iff_ne, bne_eq_false_iff_eq, ne_eq, Int.not_lt, Int.not_le, gt_iff_lt, ge_iff_le, List.length_map, wfL, wfV, and_true, true_and, LEN_eq, rng_i64, rng_u64, rng_u32, rng_i32, sl_len, st_len, List.length_append, List.length_cons, List.length_nil, List.length_replicate, rep_len, rowV_len, spl_len, cutN_len, arrN_len, nat8_len, remI_nn] at hwB
 refine ct_draw 17 15 [4, 5, 6, 7, 8, 9, 10, 11, 12, 13, 14, 15, 16] [] [[], [0], [0, 1], [0, 1, 2], [], [4], [4, 5], [0, 1, 2, 3], [], [0, 1, 2, 3, 7, 8], [0, 1, 2, 3, 7, 8, 9], [0, 1, 2, 3, 4, 5, 6, 7, 8, 9, 10], [0], [0, 12], [0, 1, 2, 3, 8, 9, 12, 13]] [(9, 1), (11, 11), (14, 0)] (by kernel_rfl) (by exact alQ) ?_
 refine spQ ?_
 have hM0 := hM; clear hM; obtain ⟨x1, hx2, hM⟩ := letk_opn hM0; clear hM0
 have hcx1 := CallOk.pub ((slices_Clone_byte_byte_ok z1 b ))
 rw [← hx2] at hcx1
 refine hcallC_give hcx1 clQ clQ ?_
 refine spQ ?_
 refine hbindC_introA omQ clQ ?_
 refine spQ ?_
 refine hbindC_intro omQ ?_
 have he3 : ∀ d, elt ((w_.l ++ ([z_api_Item] : List S_api_Item)).map e_api_Item) w_.l.length d = e_api_Item (gt (w_.l ++ ([z_api_Item] : List S_api_Item)) (w_.l.length : Int)) := fun d => elt_mp (l := (w_.l ++ ([z_api_Item] : List S_api_Item))) (f := e_api_Item) (i := (w_.l.length : Int)) omQ d
 refine spQA he3 ?_
 refine hbindC_introU omQ clQ ?_
 refine spQA he3 ?_
 subst hM
 exact retCI_in [0, 11] (by simp only [go_sem, rowV_eq, rowV_eq0, List.length_replicate, rep_len, Int.toNat_natCast, ↓reduceIte, Nat.reduceEqDiff, Nat.reduceAdd, Int.reduceAdd, Nat.reduceMul, Nat.reduceLeDiff, Nat.reduceLT, Int.reduceLE, Int.reduceLT, Int.reduceNeg, Int.reduceToNat, mt, mtL, mtL_self, mt_self, mtZ, and_self, eq_self, or_true, true_or, map_st, he3, gt_cons0, gt_conss, Int.reduceSub, or_self]) (by decide) (by simp only [go_sem, rowV_eq, rowV_eq0, List.length_replicate, rep_len, Int.toNat_natCast, ↓reduceIte, Nat.reduceEqDiff, Nat.reduceAdd, Int.reduceAdd, Nat.reduceMul, Nat.reduceLeDiff, Nat.reduceLT, Int.reduceLE, Int.reduceLT, Int.reduceNeg, Int.reduceToNat, mt, mtL, mtL_self, mt_self, mtZ, and_self, eq_self, or_true, true_or, map_st, he3, gt_cons0, gt_conss, Int.reduceSub, or_self])
set_option maxHeartbeats 2000000 in
set_option maxRecDepth 100000 in
instance coin_Item_ok   (c : S_api_Coin)  : CM En (coin_Item c) 62 [(e_api_Coin c)] (fun y => .agg [.int .i64 y.Kind, .int .i64 y.N, .sl none 1 false (y.B.map (V.int .u8)), .sl none 4 true (y.L.map e_api_Item)]) (fun _ => []) := by
 refine cmQ fun r hM => ?_
 rw [coin_Item.eq_1] at hM
 refine enterV En_ok En_mo [2] Try.func62 rfl Try.ntmps62 (by kernel_rfl) fun hw => ct_start ?_
 refine spQ ?_
 replace hw := nzQ hw
 refine seqC_pass ?_
 refine spQ ?_
 refine cut_weakW _ (⟨[(1, .ptr 0 0), (2, .ptr 1 0), (3, .ptr 2 0)], [(0, .pvar 41 true ((e_api_Coin c))), (1, .var 4 true (.agg [.int .i64 0, .int .i64 0, .sl (some true) 1 false [], .sl (some true) 4 true []])), (2, .var 1 true (.agg [.sl (some true) 4 true []]))], 3⟩ : St) (weak_pubv (S := ⟨_, _, _⟩) 0 (n := 41) (g := true) (d := (e_api_Coin c)) clQ clQ) sbQ sbQ ?_
 try refine spQ ?_
 have hM0 := hM; clear hM; obtain ⟨x1, hx2, hM⟩ := letk_opn hM0; clear hM0
 have hcx1 := coin_writer_ints_ok (some true) (some false) z_coin_writer ([c.Bank, c.Epoch, c.Denom, c.Depth, c.A] : List Int) (by (have h0 : z_coin_writer.l.length = 0 := rfl; omega))
 rw [← hx2] at hcx1
 refine callC_inQ [2, 4] hcx1 ((weakQ_nilV 2 0 86 rfl rfl (by decide)).trans (weakP_pub 3 (T := 3) (n := 1) (g := false) (z := (some false)) (l := ([c.Bank, c.Epoch, c.Denom, c.Depth, c.A] : List Int).map (V.int .i64)) clQ).toQ) (by decide) (by simp only [go_sem, rowV_eq, rowV_eq0, List.length_replicate, rep_len, Int.toNat_natCast, ↓reduceIte, Nat.reduceEqDiff, Nat.reduceAdd, Int.reduceAdd, Nat.reduceMul, Nat.reduceLeDiff, Nat.reduceLT, Int.reduceLE, Int.reduceLT, Int.reduceNeg, Int.reduceToNat, mt, mtL, mtL_self, mt_self, mtZ, and_self, eq_self, or_true, true_or]) (by simp only [go_sem, rowV_eq, rowV_eq0, List.length_replicate, rep_len, Int.toNat_natCast, ↓reduceIte, Nat.reduceEqDiff, Nat.reduceAdd, Int.reduceAdd, Nat.reduceMul, Nat.reduceLeDiff, Nat.reduceLT, Int.reduceLE, Int.reduceLT, Int.reduceNeg, Int.reduceToNat, mt, mtL, mtL_self, mt_self, mtZ, and_self, eq_self, or_true, true_or]) (fun hw3 => ?_)
 replace hw3 := nzQ hw3
 refine spQ ?_
 have hq4 := ints_len hx2
 replace hq4 := nzQ hq4
 have hM0 := hM; clear hM; obtain ⟨x5, hx6, hM⟩ := letk_opn hM0; clear hM0
 have hcx5 := coin_writer_bytes_ok none (some false) x1 (arrN 32 c.Root) (by (have h0 : z_coin_writer.l.length = 0 := rfl; omega))
 rw [← hx6] at hcx5
 refine callC_in [2, 4] hcx5 (by decide) (by simp only [go_sem, rowV_eq, rowV_eq0, List.length_replicate, rep_len, Int.toNat_natCast, ↓reduceIte, Nat.reduceEqDiff, Nat.reduceAdd, Int.reduceAdd, Nat.reduceMul, Nat.reduceLeDiff, Nat.reduceLT, Int.reduceLE, Int.reduceLT, Int.reduceNeg, Int.reduceToNat, mt, mtL, mtL_self, mt_self, mtZ, and_self, eq_self, or_true, true_or]) (by simp only [go_sem, rowV_eq, rowV_eq0, List.length_replicate, rep_len, Int.toNat_natCast, ↓reduceIte, Nat.reduceEqDiff, Nat.reduceAdd, Int.reduceAdd, Nat.reduceMul, Nat.reduceLeDiff, Nat.reduceLT, Int.reduceLE, Int.reduceLT, Int.reduceNeg, Int.reduceToNat, mt, mtL, mtL_self, mt_self, mtZ, and_self, eq_self, or_true, true_or]) (fun hw7 => ?_)
 replace hw7 := nzQ hw7
 refine spQ ?_
 have hq8 := bytes_len hx6
 replace hq8 := nzQ hq8
 have hM0 := hM; clear hM; obtain ⟨x9, hx10, hM⟩ := letk_opn hM0; clear hM0
 have hcx9 := coin_writer_ints_ok none (some false) x5 ([c.Sign.Z, c.Sign.A, c.Sign.B, c.Sign.R] : List Int) (by (have h0 : z_coin_writer.l.length = 0 := rfl; omega))
 rw [← hx10] at hcx9
 refine callC_inP [2, 4] hcx9 (weakP_pub 5 (T := 3) (n := 1) (g := false) (z := (some false)) (l := ([c.Sign.Z, c.Sign.A, c.Sign.B, c.Sign.R] : List Int).map (V.int .i64)) clQ) (by decide) (by simp only [go_sem, rowV_eq, rowV_eq0, List.length_replicate, rep_len, Int.toNat_natCast, ↓reduceIte, Nat.reduceEqDiff, Nat.reduceAdd, Int.reduceAdd, Nat.reduceMul, Nat.reduceLeDiff, Nat.reduceLT, Int.reduceLE, Int.reduceLT, Int.reduceNeg, Int.reduceToNat, mt, mtL, mtL_self, mt_self, mtZ, and_self, eq_self, or_true, true_or]) (by simp only [go_sem, rowV_eq, rowV_eq0, List.length_replicate, rep_len, Int.toNat_natCast, ↓reduceIte, Nat.reduceEqDiff, Nat.reduceAdd, Int.reduceAdd, Nat.reduceMul, Nat.reduceLeDiff, Nat.reduceLT, Int.reduceLE, Int.reduceLT, Int.reduceNeg, Int.reduceToNat, mt, mtL, mtL_self, mt_self, mtZ, and_self, eq_self, or_true, true_or]) (fun hw11 => ?_)
 replace hw11 := nzQ hw11
 refine spQ ?_
 have hq12 := ints_len hx10
 replace hq12 := nzQ hq12
 subst hM
 exact retC_view lfQ
set_option maxHeartbeats 2000000 in
set_option maxRecDepth 100000 in
instance spend_list_ok   (l : (List S_api_Item))  : CM En (spend_list l) 61 [.sl none 4 true (l.map e_api_Item)] (fun y => .agg [.int .i64 y.Kind, .int .i64 y.N, .sl none 1 false (y.B.map (V.int .u8)), .sl none 4 true (y.L.map e_api_Item)]) (fun _ => []) := by
 refine cmQ fun r hM => ?_
 rw [spend_list.eq_1] at hM
 refine enterV En_ok En_mo noJ Try.func61 rfl Try.ntmps61 (by kernel_rfl) fun hw => ct_start ?_
 refine spQ ?_
 replace hw := nzQ hw
 subst hM
 exact retC_view lfQ
set_option maxHeartbeats 2000000 in
set_option maxRecDepth 100000 in
theorem spend_Item_ok   (s : S_api_Spend) (hp0 : okSp s) : CM En (spend_Item s) 29 [(e_api_Spend s)] (fun y => .agg [.int .i64 y.Kind, .int .i64 y.N, .sl none 1 false (y.B.map (V.int .u8)), .sl none 4 true (y.L.map e_api_Item)]) (fun _ => []) := by
 refine cmQ fun r hM => ?_
 rw [spend_Item.eq_1] at hM
 refine enterV En_ok En_mo [13] Try.func29 rfl Try.ntmps29 (by kernel_rfl) fun hw => ct_start ?_
 refine spQ ?_
 replace hw := nzQ hw
 have hM0 := hM; clear hM; obtain ⟨f1, d1, hf1, hd1, hM⟩ := iter_opn hM0; clear hM0
 refine ct_loopW (fun n S => ∃ p : Int × List Int, S = (⟨[(1, .ptr 0 0), (2, .ptr 1 0), (3, .own 2), (10, .sl none 3 true (s.Leaves.map e_api_Leaf)), (11, .int .i64 (s.Leaves.length : Int)), (12, .int .i64 p.1)], [(0, .var 80 true ((e_api_Spend s))), (1, .var 4 true (.agg [.int .i64 0, .int .i64 0, .sl (some true) 1 false [], .sl (some true) 4 true []])), (2, .own 3 1 false none (p.2.map (V.int .i64)))], 3⟩ : St) ∧ ((0 ≤ p.1) ∧ (p.1 ≤ (s.Leaves.length : Int)) ∧ (((p.2).length : Int) = 3 * p.1)) ∧ ((s.Leaves.length : Int) - p.1).toNat < n ∧ iter n f1 d1 p = r) (((s.Leaves.length : Int) - 0).toNat + 1) _ _ (weak_nil 3 3 rfl (by decide)) sbQ sbQ ⟨(0, ([] : List Int)), rfl, ⟨by (first | exact omQ | (clear hM; first | (have h9 := hp0.1; have h8 := hp0.2; exact omQ'))), by (first | exact omQ | (clear hM; first | (have h9 := hp0.1; have h8 := hp0.2; exact omQ'))), by (first | exact omQ | (clear hM; first | (have h9 := hp0.1; have h8 := hp0.2; exact omQ')))⟩, (Nat.lt_succ_self _), hM⟩ ?_
 clear hM
 rintro n1 S ⟨p1, rfl, hfa1, hm1, hM⟩
 have hM0 := hM; clear hM; obtain ⟨ag1, hag1, hM⟩ := iter_step hM0 (by omega) hf1; clear hM0
 replace hfa1 := nzQ hfa1
 replace hm1 := nzQ hm1
 have ha1 : addI .i64 p1.1 1 = p1.1 + 1 := add_one (by (first | exact omQ | (clear hM; first | (have h9 := hp0.1; have h8 := hp0.2; exact omQ')))) (by (first | exact omQ | (clear hM; first | (have h9 := hp0.1; have h8 := hp0.2; exact omQ'))))
 refine spQA ha1 ?_
 refine condC_intro (fun h2 => ?_) (fun h2 => ?_)
 ·rw [if_pos h2] at hM
  refine spQA (And.intro ha1 h2) ?_
  have nh2 := nzQ h2
  try have hr3 := mpQ nh2
  refine bindC_intro (by (first | exact omQ | (clear hM; first | (have h9 := hp0.1; have h8 := hp0.2; exact omQ')))) ?_
  have he4 := fun d => elt_mp (l := s.Leaves) (f := e_api_Leaf) (i := p1.1) (by (first | exact omQ | (clear hM; first | (have h9 := hp0.1; have h8 := hp0.2; exact omQ')))) d
  refine spQA (And.intro ha1 he4) ?_
  refine bindC_intro (by (first | exact omQ | (clear hM; first | (have h9 := hp0.1; have h8 := hp0.2; exact omQ')))) ?_
  refine spQA (And.intro ha1 he4) ?_
  refine lp_intro (n1 - 1) _ (by omega) sbQ sbQ ⟨((p1.1 + 1), (p1.2 ++ ([(gt s.Leaves p1.1).B, (gt s.Leaves p1.1).R1, (gt s.Leaves p1.1).R2] : List Int))), rfl, ⟨by (first | exact omQ | (clear hM; first | (have h9 := hp0.1; have h8 := hp0.2; exact omQ'))), by (first | exact omQ | (clear hM; first | (have h9 := hp0.1; have h8 := hp0.2; exact omQ'))), by (first | exact omQ | (clear hM; first | (have h9 := hp0.1; have h8 := hp0.2; exact omQ')))⟩, by (first | exact omQ | (clear hM; first | (have h9 := hp0.1; have h8 := hp0.2; exact omQ'))), iter_again hM hag1⟩
 ·rw [if_neg (ne_true h2)] at hM
  refine spQA (And.intro ha1 h2) ?_
  have nh2 := nzQ h2
  try have hr5 := mpQ nh2
  refine seqC_pass ?_
  refine spQA ha1 ?_
  have hM0 := hM; clear hM; obtain ⟨f6, d6, hf6, hd6, hM⟩ := iter_opn hM0; clear hM0
  refine ct_loop (fun n S => ∃ p : Int × List S_api_Item, S = (⟨[(1, .ptr 0 0), (2, .ptr 1 0), (3, .own 2), (6, .own 3), (33, .sl none 32 true (s.Path.L.map e_arr45)), (34, .int .i64 (s.Path.L.length : Int)), (35, .int .i64 p.1)], [(0, .var 80 true ((e_api_Spend s))), (1, .var 4 true (.agg [.int .i64 0, .int .i64 0, .sl (some true) 1 false [], .sl (some true) 4 true []])), (2, .own 3 1 false none (p1.2.map (V.int .i64))), (3, .own 86 4 true none (p.2.map e_api_Item))], 4⟩ : St) ∧ ((0 ≤ p.1) ∧ (p.1 ≤ (s.Path.L.length : Int)) ∧ (((p.2).length : Int) ≤ p.1 + (([({ Kind := 1, N := s.Path.Index, B := ([] : List Int), L := ([] : List S_api_Item) } : S_api_Item)] : List S_api_Item)).length)) ∧ ((s.Path.L.length : Int) - p.1).toNat < n ∧ iter n f6 d6 p = r) (((s.Path.L.length : Int) - 0).toNat + 1) _ sbQ sbQ ⟨(0, ([({ Kind := 1, N := s.Path.Index, B := ([] : List Int), L := ([] : List S_api_Item) } : S_api_Item)] : List S_api_Item)), rfl, ⟨by (first | exact omQ | (clear hM; first | (have h9 := hp0.1; have h8 := hp0.2; exact omQ'))), by (first | exact omQ | (clear hM; first | (have h9 := hp0.1; have h8 := hp0.2; exact omQ'))), by (first | exact omQ | (clear hM; first | (have h9 := hp0.1; have h8 := hp0.2; exact omQ')))⟩, (Nat.lt_succ_self _), hM⟩ ?_
  clear hM
  rintro n6 S ⟨p6, rfl, hfa6, hm6, hM⟩
  have hM0 := hM; clear hM; obtain ⟨ag6, hag6, hM⟩ := iter_step hM0 (by omega) hf6; clear hM0
  replace hfa6 := nzQ hfa6
  replace hm6 := nzQ hm6
  have ha6 : addI .i64 p6.1 1 = p6.1 + 1 := add_one (by (first | exact omQ | (clear hM; first | (have h9 := hp0.1; have h8 := hp0.2; exact omQ')))) (by (first | exact omQ | (clear hM; first | (have h9 := hp0.1; have h8 := hp0.2; exact omQ'))))
  refine spQA (And.intro ha1 ha6) ?_
  refine condC_intro (fun h7 => ?_) (fun h7 => ?_)
  ·rw [if_pos h7] at hM
   refine spQA (And.intro ha1 (And.intro ha6 h7)) ?_
   have nh7 := nzQ h7
   try have hr8 := mpQ nh7
   refine bindC_intro (by (first | exact omQ | (clear hM; first | (have h9 := hp0.1; have h8 := hp0.2; exact omQ')))) ?_
   have he9 := fun d => elt_mp (l := s.Path.L) (f := e_arr45) (i := p6.1) (by (first | exact omQ | (clear hM; first | (have h9 := hp0.1; have h8 := hp0.2; exact omQ')))) d
   refine spQA (And.intro ha1 (And.intro ha6 he9)) ?_
   have hM0 := hM; clear hM; obtain ⟨x10, hx11, hM⟩ := letk_opn hM0; clear hM0
   have hcx10 := cmU hx11
   refine callC_give hcx10 (clQA (And.intro ha1 (And.intro ha6 he9))) (clQA (And.intro ha1 (And.intro ha6 he9))) (fun hw12 => ?_)
   replace hw12 := nzQ hw12
   refine spQA (And.intro ha1 (And.intro ha6 he9)) ?_
   refine bindC_intro (by (first | exact omQ | (clear hM; first | (have h9 := hp0.1; have h8 := hp0.2; exact omQ')))) ?_
   refine spQA (And.intro ha1 (And.intro ha6 he9)) ?_
   refine lp_intro (n6 - 1) _ (by omega) sbQ sbQ ⟨((p6.1 + 1), (p6.2 ++ ([x10] : List S_api_Item))), rfl, ⟨by (first | exact omQ | (clear hM; first | (have h9 := hp0.1; have h8 := hp0.2; exact omQ'))), by (first | exact omQ | (clear hM; first | (have h9 := hp0.1; have h8 := hp0.2; exact omQ'))), by (first | exact omQ | (clear hM; first | (have h9 := hp0.1; have h8 := hp0.2; exact omQ')))⟩, by (first | exact omQ | (clear hM; first | (have h9 := hp0.1; have h8 := hp0.2; exact omQ'))), iter_again hM hag6⟩
  ·rw [if_neg (ne_true h7)] at hM
   refine spQA (And.intro ha1 (And.intro ha6 h7)) ?_
   have nh7 := nzQ h7
   try have hr13 := mpQ nh7
   refine cut_weakW _ (⟨[(1, .ptr 0 0), (2, .ptr 1 0), (3, .sl none 1 false (p1.2.map (V.int .i64))), (6, .sl none 4 true (p6.2.map e_api_Item))], [(0, .var 80 true ((e_api_Spend s))), (1, .var 4 true (.agg [.int .i64 0, .int .i64 0, .sl (some true) 1 false [], .sl (some true) 4 true []])), (2, .pown 1 false none (p1.2.map (V.int .i64))), (3, .pown 4 true none (p6.2.map e_api_Item))], 4⟩ : St) ((((weak_pub (S := ⟨_, _, _⟩) 2 (T := 3) (n := 1) (g := false) (z := none) (l := p1.2.map (V.int .i64)) (clQA (And.intro ha1 ha6))).trans (weak_slot (S := ⟨_, _, _⟩) 3 2 (n := 1) (g := false) (z := none) (l := p1.2.map (V.int .i64)) (clQA (And.intro ha1 ha6)) (clQA (And.intro ha1 ha6)))).trans (weak_pub (S := ⟨_, _, _⟩) 3 (T := 86) (n := 4) (g := true) (z := none) (l := p6.2.map e_api_Item) (clQA (And.intro ha1 ha6)))).trans (weak_slot (S := ⟨_, _, _⟩) 6 3 (n := 4) (g := true) (z := none) (l := p6.2.map e_api_Item) (clQA (And.intro ha1 ha6)) (clQA (And.intro ha1 ha6)))) sbQ sbQ ?_
   try refine spQA (And.intro ha1 ha6) ?_
   refine ct_draw 74 26 [45, 46, 47, 48, 49, 50, 51, 52, 53, 54, 55, 56, 57, 58, 59, 60, 61, 62, 63, 64, 65, 66, 67, 68, 69, 70] [] ([[], [0], [0, 1], [], [3], [3, 4], [], [6], [6, 7], [3, 4, 5, 6, 7, 8], [0, 1, 2, 3, 4, 5, 6, 7, 8, 9], [], [11], [11, 12], [0, 1, 2, 3, 4, 5, 6, 7, 8, 9, 10, 11, 12, 13], [], [15], [15, 16], [], [18], [18, 19], [15, 16, 17, 18, 19, 20], [0, 1, 2, 3, 4, 5, 6, 7, 8, 9, 10, 11, 12, 13, 14, 15, 16, 17, 18, 19, 20, 21], [], [0, 1, 2, 3, 4, 5, 6, 7, 8, 9, 10, 11, 12, 13, 14, 15, 16, 17, 18, 19, 20, 21, 22, 23], []] ++ [List.range 26, List.range 27, List.range 28, List.range 29]) [(9, 13), (21, 25)] (by kernel_rfl) (by exact alQ) ?_
   refine spQA (And.intro ha1 ha6) ?_
   have hM0 := hM; clear hM; obtain ⟨x14, hx15, hM⟩ := letk_opn hM0; clear hM0
   have hcx14 := cmU hx15
   refine hcallC_give hcx14 (clQA (And.intro ha1 ha6)) (clQA (And.intro ha1 ha6)) ?_
   refine spQA (And.intro ha1 ha6) ?_
   have hM0 := hM; clear hM; obtain ⟨x16, hx17, hM⟩ := letk_opn hM0; clear hM0
   have hcx16 := cmU hx17
   refine hcallC_give hcx16 (clQA (And.intro ha1 ha6)) (clQA (And.intro ha1 ha6)) ?_
   refine spQA (And.intro ha1 ha6) ?_
   have hM0 := hM; clear hM; obtain ⟨x18, hx19, hM⟩ := letk_opn hM0; clear hM0
   have hcx18 := cmU hx19
   refine hcallC_give hcx18 (clQA (And.intro ha1 ha6)) (clQA (And.intro ha1 ha6)) ?_
   refine spQA (And.intro ha1 ha6) ?_
   have hM0 := hM; clear hM; obtain ⟨x20, hx21, hM⟩ := letk_opn hM0; clear hM0
   have hcx20 := cmU hx21
   refine hcallC_give hcx20 (clQA (And.intro ha1 ha6)) (clQA (And.intro ha1 ha6)) ?_
   refine spQA (And.intro ha1 ha6) ?_
   have hM0 := hM; clear hM; obtain ⟨x22, hx23, hM⟩ := letk_opn hM0; clear hM0
   have hcx22 := cmU hx23
   refine hcallC_give hcx22 (clQA (And.intro ha1 ha6)) (clQA (And.intro ha1 ha6)) ?_
   refine spQA (And.intro ha1 ha6) ?_
   have hM0 := hM; clear hM; obtain ⟨x24, hx25, hM⟩ := letk_opn hM0; clear hM0
   have hcx24 := cmU hx25
   refine callC_give hcx24 (clQA (And.intro ha1 ha6)) (clQA (And.intro ha1 ha6)) (fun hw26 => ?_)
   replace hw26 := nzQ hw26
   refine spQA (And.intro ha1 ha6) ?_
   have hM0 := hM; clear hM; obtain ⟨x27, hx28, hM⟩ := letk_opn hM0; clear hM0
   have hcx27 := cmU hx28
   refine callC_giveP hcx27 (weakP_pub 30 (T := 86) (n := 4) (g := true) (z := (some false)) (l := ([x14, x16, x18, x20, x22, x24] : List S_api_Item).map e_api_Item) (clQA (And.intro ha1 ha6))) (clQA (And.intro ha1 ha6)) (fun hw29 => ?_)
   replace hw29 := nzQ hw29
   refine spQA (And.intro ha1 ha6) ?_
   subst hM
   exact retC_view (lfQA (And.intro ha1 (And.intro ha6 (And.intro h2 h7))))
set_option maxHeartbeats 2000000 in
set_option maxRecDepth 100000 in
theorem payment_list_api_Spend_at_spend_Item_ok   (l : (List S_api_Spend)) (hp0 : ∀ x ∈ l, okSp x) : CM En (payment_list_api_Spend_at_spend_Item l) 28 [.sl none 80 true (l.map e_api_Spend), .fn 29 []] (fun y => .agg [.int .i64 y.Kind, .int .i64 y.N, .sl none 1 false (y.B.map (V.int .u8)), .sl none 4 true (y.L.map e_api_Item)]) (fun _ => []) := by
 refine cmQ fun r hM => ?_
 rw [payment_list_api_Spend_at_spend_Item.eq_1] at hM
 refine enterV En_ok En_mo noJ Try.func28 rfl Try.ntmps28 (by kernel_rfl) fun hw => ct_start ?_
 refine spQ ?_
 replace hw := nzQ hw
 have hM0 := hM; clear hM; obtain ⟨f1, d1, hf1, hd1, hM⟩ := iter_opn hM0; clear hM0
 refine ct_loopW (fun n S => ∃ p : Int × List S_api_Item, S = (⟨[(1, .fn 29 []), (4, .ptr 0 0), (5, .ptr 1 0), (9, .sl none 80 true (l.map e_api_Spend)), (10, .int .i64 (l.length : Int)), (11, .int .i64 p.1)], [(0, .var 4 true (.agg [.int .i64 0, .int .i64 0, .sl (some true) 1 false [], .sl (some true) 4 true []])), (1, .var 4 true (.agg [.int .i64 3, .int .i64 0, .sl (some true) 1 false [], .own 2])), (2, .own 86 4 true none (p.2.map e_api_Item))], 3⟩ : St) ∧ ((0 ≤ p.1) ∧ (p.1 ≤ (l.length : Int)) ∧ (((p.2).length : Int) ≤ p.1)) ∧ ((l.length : Int) - p.1).toNat < n ∧ iter n f1 d1 p = r) (((l.length : Int) - 0).toNat + 1) _ _ (weak_nilV 1 3 86 rfl rfl (by decide)) sbQ sbQ ⟨(0, ([] : List S_api_Item)), rfl, ⟨omQ, omQ, omQ⟩, (Nat.lt_succ_self _), hM⟩ ?_
 clear hM
 rintro n1 S ⟨p1, rfl, hfa1, hm1, hM⟩
 have hM0 := hM; clear hM; obtain ⟨ag1, hag1, hM⟩ := iter_step hM0 (by omega) hf1; clear hM0
 replace hfa1 := nzQ hfa1
 replace hm1 := nzQ hm1
 have ha1 : addI .i64 p1.1 1 = p1.1 + 1 := add_one omQ omQ
 refine spQA ha1 ?_
 refine condC_intro (fun h2 => ?_) (fun h2 => ?_)
 ·rw [if_pos h2] at hM
  refine spQA (And.intro ha1 h2) ?_
  have nh2 := nzQ h2
  try have hr3 := mpQ nh2
  refine bindC_intro omQ ?_
  have he4 := fun d => elt_mp (l := l) (f := e_api_Spend) (i := p1.1) omQ d
  refine spQA (And.intro ha1 he4) ?_
  refine ct_draw 25 6 [15, 16, 17, 18, 19, 20] [] ([[], [0], [], [], [2, 3], [2, 3, 4]] ++ [List.range 6, List.range 7, List.range 8]) [] (by kernel_rfl) (by exact alQ) ?_
  refine spQA (And.intro ha1 he4) ?_
  have hM0 := hM; clear hM; obtain ⟨x5, hx6, hM⟩ := letk_opn hM0; clear hM0
  have hcx5 := cmH hx6 (spend_Item_ok  (gt l p1.1) (by (exact hp0 _ (gt_mem (by omega)))))
  refine hcallC_give hcx5 (clQA (And.intro ha1 he4)) (clQA (And.intro ha1 he4)) ?_
  refine spQA (And.intro ha1 he4) ?_
  have hF := (And.intro ha1 (And.intro h2 he4))
  exact auQ
 ·rw [if_neg (ne_true h2)] at hM
  refine spQA (And.intro ha1 h2) ?_
  have nh2 := nzQ h2
  try have hr7 := mpQ nh2
  subst hM
  exact retC_view (lfQA (And.intro ha1 h2))
set_option maxHeartbeats 2000000 in
set_option maxRecDepth 100000 in
theorem payment_chainItem_ok   (h_ : S_api_Chain) (hp0 : okSp h_.First ∧ ∀ y ∈ h_.L, okSp y) : CM En (payment_chainItem h_) 31 [(e_api_Chain h_)] (fun y => .agg [.int .i64 y.Kind, .int .i64 y.N, .sl none 1 false (y.B.map (V.int .u8)), .sl none 4 true (y.L.map e_api_Item)]) (fun _ => []) := by
 refine cmQ fun r hM => ?_
 rw [payment_chainItem.eq_1] at hM
 refine enterV En_ok En_mo noJ Try.func31 rfl Try.ntmps31 (by kernel_rfl) fun hw => ct_start ?_
 refine spQ ?_
 replace hw := nzQ hw
 refine ct_draw 11 5 [3, 4, 5, 6, 7] [] ([[], [0], [0, 1], [], [3]] ++ [List.range 5, List.range 6, List.range 7, List.range 8]) [] (by kernel_rfl) (by exact alQ) ?_
 refine spQ ?_
 have hM0 := hM; clear hM; obtain ⟨x1, hx2, hM⟩ := letk_opn hM0; clear hM0
 have hcx1 := cmH hx2 (spend_Item_ok  (h_.First) (by (exact hp0.1)))
 refine hcallC_give hcx1 clQ clQ ?_
 refine spQ ?_
 have hM0 := hM; clear hM; obtain ⟨x3, hx4, hM⟩ := letk_opn hM0; clear hM0
 have hcx3 := cmH hx4 (payment_list_api_Spend_at_spend_Item_ok  (h_.L) (by (exact hp0.2)))
 refine callC_give hcx3 clQ clQ (fun hw5 => ?_)
 replace hw5 := nzQ hw5
 refine spQ ?_
 subst hM
 exact retC_view lfQ
instance (priority := 1002) : DRD 1 23 18 [3, 4, 5, 6, 7, 8, 9, 10, 11, 12, 13, 14, 15, 16, 17, 18, 19, 20] [] ([[], [0], [], [2], [0, 1, 2, 3], [0, 1, 2, 3, 4], [], [6], [6, 7], [6, 7, 8], [], [10], [10, 11], [10, 11, 12], [], [14], [14, 15], [14, 15, 16]] ++ [List.range 18, List.range 19, List.range 20]) [(4, 6)] := ⟨trivial⟩
set_option maxHeartbeats 2000000 in
set_option maxRecDepth 100000 in
instance escrow_Item_ok   (x_ : S_api_Escrow)  : CM En (escrow_Item x_) 33 [(e_api_Escrow x_)] (fun y => .agg [.int .i64 y.Kind, .int .i64 y.N, .sl none 1 false (y.B.map (V.int .u8)), .sl none 4 true (y.L.map e_api_Item)]) (fun _ => []) := by
 refine cmQ fun r hM => ?_
 rw [escrow_Item.eq_1] at hM
 refine enterV En_ok En_mo noJ Try.func33 rfl Try.ntmps33 (by kernel_rfl) fun hw => ct_start ?_
 refine spQ ?_
 replace hw := nzQ hw
 have hF := trueQ
 exact auQ
set_option maxHeartbeats 2000000 in
set_option maxRecDepth 100000 in
theorem payment_list_api_Chain_at_payment_chainItem_ok   (l : (List S_api_Chain)) (hp0 : ∀ x ∈ l, okSp x.First ∧ ∀ y ∈ x.L, okSp y) : CM En (payment_list_api_Chain_at_payment_chainItem l) 30 [.sl none 81 true (l.map e_api_Chain), .fn 31 []] (fun y => .agg [.int .i64 y.Kind, .int .i64 y.N, .sl none 1 false (y.B.map (V.int .u8)), .sl none 4 true (y.L.map e_api_Item)]) (fun _ => []) := by
 refine cmQ fun r hM => ?_
 rw [payment_list_api_Chain_at_payment_chainItem.eq_1] at hM
 refine enterV En_ok En_mo noJ Try.func30 rfl Try.ntmps30 (by kernel_rfl) fun hw => ct_start ?_
 refine spQ ?_
 replace hw := nzQ hw
 have hM0 := hM; clear hM; obtain ⟨f1, d1, hf1, hd1, hM⟩ := iter_opn hM0; clear hM0
 refine ct_loopW (fun n S => ∃ p : Int × List S_api_Item, S = (⟨[(1, .fn 31 []), (4, .ptr 0 0), (5, .ptr 1 0), (9, .sl none 81 true (l.map e_api_Chain)), (10, .int .i64 (l.length : Int)), (11, .int .i64 p.1)], [(0, .var 4 true (.agg [.int .i64 0, .int .i64 0, .sl (some true) 1 false [], .sl (some true) 4 true []])), (1, .var 4 true (.agg [.int .i64 3, .int .i64 0, .sl (some true) 1 false [], .own 2])), (2, .own 86 4 true none (p.2.map e_api_Item))], 3⟩ : St) ∧ ((0 ≤ p.1) ∧ (p.1 ≤ (l.length : Int)) ∧ (((p.2).length : Int) ≤ p.1)) ∧ ((l.length : Int) - p.1).toNat < n ∧ iter n f1 d1 p = r) (((l.length : Int) - 0).toNat + 1) _ _ (weak_nilV 1 3 86 rfl rfl (by decide)) sbQ sbQ ⟨(0, ([] : List S_api_Item)), rfl, ⟨omQ, omQ, omQ⟩, (Nat.lt_succ_self _), hM⟩ ?_
 clear hM
 rintro n1 S ⟨p1, rfl, hfa1, hm1, hM⟩
 have hM0 := hM; clear hM; obtain ⟨ag1, hag1, hM⟩ := iter_step hM0 (by omega) hf1; clear hM0
 replace hfa1 := nzQ hfa1
 replace hm1 := nzQ hm1
 have ha1 : addI .i64 p1.1 1 = p1.1 + 1 := add_one omQ omQ
 refine spQA ha1 ?_
 refine condC_intro (fun h2 => ?_) (fun h2 => ?_)
 ·rw [if_pos h2] at hM
  refine spQA (And.intro ha1 h2) ?_
  have nh2 := nzQ h2
  try have hr3 := mpQ nh2
  refine bindC_intro omQ ?_
  have he4 := fun d => elt_mp (l := l) (f := e_api_Chain) (i := p1.1) omQ d
  refine spQA (And.intro ha1 he4) ?_
  refine ct_draw 25 6 [15, 16, 17, 18, 19, 20] [] ([[], [0], [], [], [2, 3], [2, 3, 4]] ++ [List.range 6, List.range 7, List.range 8]) [] (by kernel_rfl) (by exact alQ) ?_
  refine spQA (And.intro ha1 he4) ?_
  have hM0 := hM; clear hM; obtain ⟨x5, hx6, hM⟩ := letk_opn hM0; clear hM0
  have hcx5 := cmH hx6 (payment_chainItem_ok  (gt l p1.1) (by (exact hp0 _ (gt_mem (by omega)))))
  refine hcallC_give hcx5 (clQA (And.intro ha1 he4)) (clQA (And.intro ha1 he4)) ?_
  refine spQA (And.intro ha1 he4) ?_
  have hF := (And.intro ha1 (And.intro h2 he4))
  exact auQ
 ·rw [if_neg (ne_true h2)] at hM
  refine spQA (And.intro ha1 h2) ?_
  have nh2 := nzQ h2
  try have hr7 := mpQ nh2
  subst hM
  exact retC_view (lfQA (And.intro ha1 h2))
instance (priority := 1003) : DRD 5 25 6 [15, 16, 17, 18, 19, 20] [] ([[], [0], [], [], [2, 3], [2, 3, 4]] ++ [List.range 6, List.range 7, List.range 8]) [] := ⟨trivial⟩
set_option maxHeartbeats 2000000 in
set_option maxRecDepth 100000 in
instance payment_list_api_Escrow_at_escrow_Item_ok   (l : (List S_api_Escrow))  : CM En (payment_list_api_Escrow_at_escrow_Item l) 32 [.sl none 5 true (l.map e_api_Escrow), .fn 33 []] (fun y => .agg [.int .i64 y.Kind, .int .i64 y.N, .sl none 1 false (y.B.map (V.int .u8)), .sl none 4 true (y.L.map e_api_Item)]) (fun _ => []) := by
 refine cmQ fun r hM => ?_
 rw [payment_list_api_Escrow_at_escrow_Item.eq_1] at hM
 refine enterV En_ok En_mo noJ Try.func32 rfl Try.ntmps32 (by kernel_rfl) fun hw => ct_start ?_
 refine spQ ?_
 replace hw := nzQ hw
 have hM0 := hM; clear hM; obtain ⟨f1, d1, hf1, hd1, hM⟩ := iter_opn hM0; clear hM0
 refine ct_loopW (fun n S => ∃ p : Int × List S_api_Item, S = (⟨[(1, .fn 33 []), (4, .ptr 0 0), (5, .ptr 1 0), (9, .sl none 5 true (l.map e_api_Escrow)), (10, .int .i64 (l.length : Int)), (11, .int .i64 p.1)], [(0, .var 4 true (.agg [.int .i64 0, .int .i64 0, .sl (some true) 1 false [], .sl (some true) 4 true []])), (1, .var 4 true (.agg [.int .i64 3, .int .i64 0, .sl (some true) 1 false [], .own 2])), (2, .own 86 4 true none (p.2.map e_api_Item))], 3⟩ : St) ∧ ((0 ≤ p.1) ∧ (p.1 ≤ (l.length : Int)) ∧ (((p.2).length : Int) ≤ p.1)) ∧ ((l.length : Int) - p.1).toNat < n ∧ iter n f1 d1 p = r) (((l.length : Int) - 0).toNat + 1) _ _ (weak_nilV 1 3 86 rfl rfl (by decide)) sbQ sbQ ⟨(0, ([] : List S_api_Item)), rfl, ⟨omQ, omQ, omQ⟩, (Nat.lt_succ_self _), hM⟩ ?_
 clear hM
 rintro n1 S ⟨p1, rfl, hfa1, hm1, hM⟩
 have hM0 := hM; clear hM; obtain ⟨ag1, hag1, hM⟩ := iter_step hM0 (by omega) hf1; clear hM0
 replace hfa1 := nzQ hfa1
 replace hm1 := nzQ hm1
 have ha1 : addI .i64 p1.1 1 = p1.1 + 1 := add_one omQ omQ
 refine spQA ha1 ?_
 have hF := ha1
 exact auQ
set_option maxHeartbeats 2000000 in
set_option maxRecDepth 100000 in
theorem payment_Encode_ok   (p_ : S_api_Payment) (hp0 : okPay p_) : CM En (payment_Encode p_) 7 [.agg [.int .i64 p_.Number, .sl none 80 true (p_.Spends.map e_api_Spend), .sl none 81 true (p_.Chains.map e_api_Chain), .sl none 5 true (p_.Escrow.map e_api_Escrow)]] (fun y => .tup [.sl none 1 false (y.1.map (V.int .u8)), .int .i64 y.2]) (fun _ => []) := by
 refine cmQ fun r hM => ?_
 rw [payment_Encode.eq_1] at hM
 refine enterV En_ok En_mo noJ Try.func7 rfl Try.ntmps7 (by kernel_rfl) fun hw => ct_start ?_
 refine spQ ?_
 replace hw := nzQ hw
 refine guardC_f (fun h1 => ?_) (fun h1 => ?_)
 ·rw [if_neg (ne_true h1)] at hM
  refine spQA h1 ?_
  have nh1 := nzQ h1
  try have hr2 := mpQ nh1
  refine guardC_f (fun h3 => ?_) (fun h3 => ?_)
  ·rw [if_neg (ne_true h3)] at hM
   refine spQA h3 ?_
   have nh3 := nzQ h3
   try have hr4 := mpQ nh3
   refine condC_intro (fun h5 => ?_) (fun h5 => ?_)
   ·rw [if_pos h5] at hM
    refine spQA h5 ?_
    have nh5 := nzQ h5
    try have hr6 := mpQ nh5
    subst hM
    exact retC_view (lfQA (And.intro h1 (And.intro h3 h5)))
   ·rw [if_neg (ne_true h5)] at hM
    refine spQA h5 ?_
    have nh5 := nzQ h5
    try have hr7 := mpQ nh5
    refine ct_draw 43 19 [4, 22, 23, 24, 25, 26, 27, 28, 29, 30, 31, 32, 33, 34, 35, 36, 37, 38, 39] [] ([[], [0], [0, 1], [], [3], [3, 4], [], [6], [6, 7], [], [9], [9, 10], [0, 1, 2, 3, 4, 5, 6, 7, 8, 9, 10, 11], [0, 1, 2, 3, 4, 5, 6, 7, 8, 9, 10, 11, 12], [0, 1, 2, 3, 4, 5, 6, 7, 8, 9, 10, 11, 12, 13], [0, 1, 2, 3, 4, 5, 6, 7, 8, 9, 10, 11, 12, 13, 14], [0, 1, 2, 3, 4, 5, 6, 7, 8, 9, 10, 11, 12, 13, 14, 15], [0, 1, 2, 3, 4, 5, 6, 7, 8, 9, 10, 11, 12, 13, 14, 15], [0, 1, 2, 3, 4, 5, 6, 7, 8, 9, 10, 11, 12, 13, 14, 15, 16]] ++ [List.range 19]) [(12, 13)] (by kernel_rfl) (by exact alQ) ?_
    refine spQ ?_
    have hM0 := hM; clear hM; obtain ⟨x8, hx9, hM⟩ := letk_opn hM0; clear hM0
    have hcx8 := cmU hx9
    refine hcallC_give hcx8 clQ clQ ?_
    refine spQ ?_
    have hM0 := hM; clear hM; obtain ⟨x10, hx11, hM⟩ := letk_opn hM0; clear hM0
    have hcx10 := cmH hx11 (payment_list_api_Spend_at_spend_Item_ok  (p_.Spends) (by (exact hp0.1)))
    refine hcallC_give hcx10 clQ clQ ?_
    refine spQ ?_
    have hM0 := hM; clear hM; obtain ⟨x12, hx13, hM⟩ := letk_opn hM0; clear hM0
    have hcx12 := cmH hx13 (payment_list_api_Chain_at_payment_chainItem_ok  (p_.Chains) (by (exact hp0.2.1)))
    refine hcallC_give hcx12 clQ clQ ?_
    refine spQ ?_
    have hM0 := hM; clear hM; obtain ⟨x14, hx15, hM⟩ := letk_opn hM0; clear hM0
    have hcx14 := cmU hx15
    refine hcallC_give hcx14 clQ clQ ?_
    refine spQ ?_
    have hM0 := hM; clear hM; obtain ⟨x16, hx17, hM⟩ := letk_opn hM0; clear hM0
    have hcx16 := cmH hx17 (encode_Encode_ok  ({ Kind := 3, N := 0, B := ([] : List Int), L := ([x8, x10, x12, x14] : List S_api_Item) } : S_api_Item) (by (subst_vars; exact hp0.2.2)))
    refine hcallC_give hcx16 clQ clQ ?_
    refine spQ ?_
    have hF := (And.intro h1 (And.intro h3 h5))
    exact auQ
  ·rw [if_pos h3] at hM
   refine spQA h3 ?_
   have nh3 := nzQ h3
   try have hr21 := mpQ nh3
   subst hM
   exact retC_view (lfQA (And.intro h1 h3))
 ·rw [if_pos h1] at hM
  refine spQA h1 ?_
  have nh1 := nzQ h1
  try have hr22 := mpQ nh1
  subst hM
  exact retC_view (lfQA h1)
set_option maxHeartbeats 2000000 in
set_option maxRecDepth 100000 in
instance coin_FromItem_ok   (i_ : S_api_Item)  : CM En (coin_FromItem i_) 89 [.agg [.int .i64 i_.Kind, .int .i64 i_.N, .sl none 1 false (i_.B.map (V.int .u8)), .sl none 4 true (i_.L.map e_api_Item)]] (fun y => .tup [(e_api_Coin y.1), .int .i64 y.2]) (fun _ => []) := by
 refine cmQ fun r hM => ?_
 rw [coin_FromItem.eq_1] at hM
 refine enterV En_ok En_mo noJ Try.func89 rfl Try.ntmps89 (by kernel_rfl) fun hw => ct_start ?_
 refine spQ ?_
 replace hw := nzQ hw
 have hM0 := hM; clear hM; obtain ⟨x1, hx2, hM⟩ := letk_opn hM0; clear hM0
 have hcx1 := cmU hx2
 refine callC_give hcx1 clQ clQ (fun hw3 => ?_)
 replace hw3 := nzQ hw3
 refine spQ ?_
 refine condC_intro (fun h4 => ?_) (fun h4 => ?_)
 ·rw [if_pos h4] at hM
  refine spQA h4 ?_
  have nh4 := nzQ h4
  try have hr5 := mpQ nh4
  subst hM
  exact retC_view (lfQA h4)
 ·rw [if_neg (ne_true h4)] at hM
  refine spQA h4 ?_
  have nh4 := nzQ h4
  try have hr6 := mpQ nh4
  refine guardC_f (fun h7 => ?_) (fun h7 => ?_)
  ·rw [if_neg (ne_true h7)] at hM
   refine spQA h7 ?_
   have nh7 := nzQ h7
   try have hr8 := mpQ nh7
   refine condC_intro (fun h9 => ?_) (fun h9 => ?_)
   ·rw [if_pos h9] at hM
    refine spQA h9 ?_
    have nh9 := nzQ h9
    try have hr10 := mpQ nh9
    subst hM
    exact retC_view (lfQA (And.intro h4 (And.intro h7 h9)))
   ·rw [if_neg (ne_true h9)] at hM
    refine spQA h9 ?_
    have nh9 := nzQ h9
    try have hr11 := mpQ nh9
    refine bindC_intro omQ ?_
    have he12 : ∀ d, elt (i_.L.map e_api_Item) 0 d = e_api_Item (gt i_.L 0) := fun d => elt_mp (l := i_.L) (f := e_api_Item) (i := 0) omQ d
    refine spQA he12 ?_
    have hM0 := hM; clear hM; obtain ⟨x13, hx14, hM⟩ := letk_opn hM0; clear hM0
    have hcx13 := cmU hx14
    refine callC_give hcx13 (clQA he12) (clQA he12) (fun hw15 => ?_)
    replace hw15 := nzQ hw15
    refine spQA he12 ?_
    refine bindC_intro omQ ?_
    have he16 : ∀ d, elt (i_.L.map e_api_Item) 2 d = e_api_Item (gt i_.L 2) := fun d => elt_mp (l := i_.L) (f := e_api_Item) (i := 2) omQ d
    refine spQA (And.intro he12 he16) ?_
    have hM0 := hM; clear hM; obtain ⟨x17, hx18, hM⟩ := letk_opn hM0; clear hM0
    have hcx17 := cmU hx18
    refine callC_give hcx17 (clQA (And.intro he12 he16)) (clQA (And.intro he12 he16)) (fun hw19 => ?_)
    replace hw19 := nzQ hw19
    refine spQA (And.intro he12 he16) ?_
    refine bindC_intro omQ ?_
    have he20 : ∀ d, elt (i_.L.map e_api_Item) 1 d = e_api_Item (gt i_.L 1) := fun d => elt_mp (l := i_.L) (f := e_api_Item) (i := 1) omQ d
    refine spQA (And.intro he12 (And.intro he16 he20)) ?_
    refine guardC_f (fun h21 => ?_) (fun h21 => ?_)
    ·rw [if_neg (ne_true h21)] at hM
     refine spQA (And.intro he12 (And.intro he16 (And.intro he20 h21))) ?_
     have nh21 := nzQ h21
     try have hr22 := mpQ nh21
     refine guardC_f (fun h23 => ?_) (fun h23 => ?_)
     ·rw [if_neg (ne_true h23)] at hM
      refine spQA (And.intro he12 (And.intro he16 (And.intro he20 h23))) ?_
      have nh23 := nzQ h23
      try have hr24 := mpQ nh23
      refine guardC_f (fun h25 => ?_) (fun h25 => ?_)
      ·rw [if_neg (ne_true h25)] at hM
       refine spQA (And.intro he12 (And.intro he16 (And.intro he20 h25))) ?_
       have nh25 := nzQ h25
       try have hr26 := mpQ nh25
       refine guardC_f (fun h27 => ?_) (fun h27 => ?_)
       ·rw [if_neg (ne_true h27)] at hM
        refine spQA (And.intro he12 (And.intro he16 (And.intro he20 h27))) ?_
        have nh27 := nzQ h27
        try have hr28 := mpQ nh27
        refine guardC_f (fun h29 => ?_) (fun h29 => ?_)
        ·rw [if_neg (ne_true h29)] at hM
         refine spQA (And.intro he12 (And.intro he16 (And.intro he20 h29))) ?_
         have nh29 := nzQ h29
         try have hr30 := mpQ nh29
         refine condC_intro (fun h31 => ?_) (fun h31 => ?_)
         ·rw [if_pos h31] at hM
          refine spQA (And.intro he12 (And.intro he16 (And.intro he20 h31))) ?_
          have nh31 := nzQ h31
          try have hr32 := mpQ nh31
          subst hM
          exact retC_view (lfQA (And.intro he12 (And.intro he16 (And.intro he20 (And.intro h4 (And.intro h7 (And.intro h9 (And.intro h21 (And.intro h23 (And.intro h25 (And.intro h27 (And.intro h29 h31))))))))))))
         ·rw [if_neg (ne_true h31)] at hM
          refine spQA (And.intro he12 (And.intro he16 (And.intro he20 h31))) ?_
          have nh31 := nzQ h31
          try have hr33 := mpQ nh31
          refine ct_draw 104 32 [71, 72, 73, 74, 75, 76, 77, 78, 79, 80, 81, 82, 83, 84, 85, 86, 87, 88, 89, 90, 91, 92, 93, 94, 95, 96, 97, 98, 99, 100, 101, 102] [] ([[], [0], [0, 1], [], [3], [3, 4], [], [6], [6, 7], [], [9], [9, 10], [], [12], [12, 13], [], [15], [15, 16], [15, 16, 17], [], [19], [19, 20], [], [22], [22, 23], [], [25], [25, 26], [], [28], [28, 29], [19, 20, 21, 22, 23, 24, 25, 26, 27, 28, 29, 30]] ++ [List.range 32, List.range 33, List.range 34]) [] (by kernel_rfl) (by exact alQ) ?_
          refine spQA (And.intro he12 (And.intro he16 he20)) ?_
          refine hbindC_intro omQ ?_
          have he34 : ∀ d, elt (x13.1.map (V.int .i64)) 0 d = (V.int .i64) (gt x13.1 0) := fun d => elt_mp (l := x13.1) (f := (V.int .i64)) (i := 0) omQ d
          refine spQA (And.intro he12 (And.intro he16 (And.intro he20 he34))) ?_
          refine hbindC_intro omQ ?_
          have he35 : ∀ d, elt (x13.1.map (V.int .i64)) 1 d = (V.int .i64) (gt x13.1 1) := fun d => elt_mp (l := x13.1) (f := (V.int .i64)) (i := 1) omQ d
          refine spQA (And.intro he12 (And.intro he16 (And.intro he20 (And.intro he34 he35)))) ?_
          refine hbindC_intro omQ ?_
          have he36 : ∀ d, elt (x13.1.map (V.int .i64)) 2 d = (V.int .i64) (gt x13.1 2) := fun d => elt_mp (l := x13.1) (f := (V.int .i64)) (i := 2) omQ d
          refine spQA (And.intro he12 (And.intro he16 (And.intro he20 (And.intro he34 (And.intro he35 he36))))) ?_
          refine hbindC_intro omQ ?_
          have he37 : ∀ d, elt (x13.1.map (V.int .i64)) 3 d = (V.int .i64) (gt x13.1 3) := fun d => elt_mp (l := x13.1) (f := (V.int .i64)) (i := 3) omQ d
          refine spQA (And.intro he12 (And.intro he16 (And.intro he20 (And.intro he34 (And.intro he35 (And.intro he36 he37)))))) ?_
          refine hbindC_intro omQ ?_
          have he38 : ∀ d, elt (x13.1.map (V.int .i64)) 4 d = (V.int .i64) (gt x13.1 4) := fun d => elt_mp (l := x13.1) (f := (V.int .i64)) (i := 4) omQ d
          refine spQA (And.intro he12 (And.intro he16 (And.intro he20 (And.intro he34 (And.intro he35 (And.intro he36 (And.intro he37 he38))))))) ?_
          refine hbindC_intro omQ ?_
          have he39 := eltsN_mp (l := (gt i_.L 1).B) (f := (V.int .u8)) (k := 32) omQ
          refine spQA (And.intro he12 (And.intro he16 (And.intro he20 (And.intro he34 (And.intro he35 (And.intro he36 (And.intro he37 (And.intro he38 he39)))))))) ?_
          have hF := (And.intro h4 (And.intro h7 (And.intro h9 (And.intro he12 (And.intro he16 (And.intro he20 (And.intro h21 (And.intro h23 (And.intro h25 (And.intro h27 (And.intro h29 (And.intro h31 (And.intro he34 (And.intro he35 (And.intro he36 (And.intro he37 (And.intro he38 he39)))))))))))))))))
          exact auQ
        ·rw [if_pos h29] at hM
         refine spQA (And.intro he12 (And.intro he16 (And.intro he20 h29))) ?_
         have nh29 := nzQ h29
         try have hr44 := mpQ nh29
         subst hM
         exact retC_view (lfQA (And.intro he12 (And.intro he16 (And.intro he20 (And.intro h4 (And.intro h7 (And.intro h9 (And.intro h21 (And.intro h23 (And.intro h25 (And.intro h27 h29)))))))))))
       ·rw [if_pos h27] at hM
        refine spQA (And.intro he12 (And.intro he16 (And.intro he20 h27))) ?_
        have nh27 := nzQ h27
        try have hr45 := mpQ nh27
        subst hM
        exact retC_view (lfQA (And.intro he12 (And.intro he16 (And.intro he20 (And.intro h4 (And.intro h7 (And.intro h9 (And.intro h21 (And.intro h23 (And.intro h25 h27))))))))))
      ·rw [if_pos h25] at hM
       refine spQA (And.intro he12 (And.intro he16 (And.intro he20 h25))) ?_
       have nh25 := nzQ h25
       try have hr46 := mpQ nh25
       subst hM
       exact retC_view (lfQA (And.intro he12 (And.intro he16 (And.intro he20 (And.intro h4 (And.intro h7 (And.intro h9 (And.intro h21 (And.intro h23 h25)))))))))
     ·rw [if_pos h23] at hM
      refine spQA (And.intro he12 (And.intro he16 (And.intro he20 h23))) ?_
      have nh23 := nzQ h23
      try have hr47 := mpQ nh23
      subst hM
      exact retC_view (lfQA (And.intro he12 (And.intro he16 (And.intro he20 (And.intro h4 (And.intro h7 (And.intro h9 (And.intro h21 h23))))))))
    ·rw [if_pos h21] at hM
     refine spQA (And.intro he12 (And.intro he16 (And.intro he20 h21))) ?_
     have nh21 := nzQ h21
     try have hr48 := mpQ nh21
     subst hM
     exact retC_view (lfQA (And.intro he12 (And.intro he16 (And.intro he20 (And.intro h4 (And.intro h7 (And.intro h9 h21)))))))
  ·rw [if_pos h7] at hM
   refine spQA h7 ?_
   have nh7 := nzQ h7
   try have hr49 := mpQ nh7
   subst hM
   exact retC_view (lfQA (And.intro h4 h7))
instance (priority := 1004) : DRD 4 25 7 [2, 19, 20, 21, 22, 23, 24] [] ([[], [0], [0, 1], [], [3], [3, 4], [0, 1, 2]] ++ [List.range 7, List.range 8]) [] := ⟨trivial⟩
set_option maxHeartbeats 2000000 in
set_option maxRecDepth 100000 in
instance spend_pair_ok   (i_ : S_api_Item)  : CM En (spend_pair i_) 90 [.agg [.int .i64 i_.Kind, .int .i64 i_.N, .sl none 1 false (i_.B.map (V.int .u8)), .sl none 4 true (i_.L.map e_api_Item)]] (fun y => .tup [.int .i64 y.1, .int .i64 y.2.1, .bool y.2.2]) (fun _ => []) := by
 refine cmQ fun r hM => ?_
 rw [spend_pair.eq_1] at hM
 refine enterV En_ok En_mo noJ Try.func90 rfl Try.ntmps90 (by kernel_rfl) fun hw => ct_start ?_
 refine spQ ?_
 replace hw := nzQ hw
 have hF := trueQ
 exact auQ
set_option maxHeartbeats 2000000 in
set_option maxRecDepth 100000 in
instance spend_hash_ok   (i_ : S_api_Item)  : CM En (spend_hash i_) 91 [.agg [.int .i64 i_.Kind, .int .i64 i_.N, .sl none 1 false (i_.B.map (V.int .u8)), .sl none 4 true (i_.L.map e_api_Item)]] (fun y => .tup [(e_arr45 y.1), .bool y.2]) (fun _ => []) := by
 refine cmQ fun r hM => ?_
 rw [spend_hash.eq_1] at hM
 refine enterV En_ok En_mo noJ Try.func91 rfl Try.ntmps91 (by kernel_rfl) fun hw => ct_start ?_
 refine spQ ?_
 replace hw := nzQ hw
 refine guardC_f (fun h1 => ?_) (fun h1 => ?_)
 ·rw [if_neg (ne_true h1)] at hM
  refine spQA h1 ?_
  have nh1 := nzQ h1
  try have hr2 := mpQ nh1
  refine condC_intro (fun h3 => ?_) (fun h3 => ?_)
  ·rw [if_pos h3] at hM
   refine spQA h3 ?_
   have nh3 := nzQ h3
   try have hr4 := mpQ nh3
   subst hM
   exact retC_view (lfQA (And.intro h1 h3))
  ·rw [if_neg (ne_true h3)] at hM
   refine spQA h3 ?_
   have nh3 := nzQ h3
   try have hr5 := mpQ nh3
   refine ct_draw 20 3 [15, 16, 17] [] ([[], [], [1]] ++ [List.range 3]) [] (by kernel_rfl) (by exact alQ) ?_
   refine spQ ?_
   have hsp6 := spl_arrN (f := (V.int .u8)) (A := ([0, 0, 0, 0, 0, 0, 0, 0, 0, 0, 0, 0, 0, 0, 0, 0, 0, 0, 0, 0, 0, 0, 0, 0, 0, 0, 0, 0, 0, 0, 0, 0] : List Int)) (l := i_.B) (n := 32) rfl
   simp only [go_sem, rowV_eq, rowV_eq0, List.length_replicate, rep_len, Int.toNat_natCast, ↓reduceIte, Nat.reduceEqDiff, Nat.reduceAdd, Int.reduceAdd, Nat.reduceMul, Nat.reduceLeDiff, Nat.reduceLT, Int.reduceLE, Int.reduceLT, Int.reduceNeg, Int.reduceToNat] at hsp6
   refine spQA hsp6 ?_
   subst hM
   exact retC_view (lfQA (And.intro hsp6 (And.intro h1 h3)))
 ·rw [if_pos h1] at hM
  refine spQA h1 ?_
  have nh1 := nzQ h1
  try have hr7 := mpQ nh1
  subst hM
  exact retC_view (lfQA h1)
set_option maxHeartbeats 2000000 in
set_option maxRecDepth 100000 in
instance spend_FromItem_ok   (i_ : S_api_Item)  : CM En (spend_FromItem i_) 66 [.agg [.int .i64 i_.Kind, .int .i64 i_.N, .sl none 1 false (i_.B.map (V.int .u8)), .sl none 4 true (i_.L.map e_api_Item)]] (fun y => .tup [(e_api_Spend y.1), .int .i64 y.2]) (fun _ => []) := by
 refine cmQ fun r hM => ?_
 rw [spend_FromItem.eq_1] at hM
 refine enterV En_ok En_mo noJ Try.func66 rfl Try.ntmps66 (by kernel_rfl) fun hw => ct_start ?_
 refine spQ ?_
 replace hw := nzQ hw
 have hM0 := hM; clear hM; obtain ⟨x1, hx2, hM⟩ := letk_opn hM0; clear hM0
 have hcx1 := cmU hx2
 refine callC_give hcx1 clQ clQ (fun hw3 => ?_)
 replace hw3 := nzQ hw3
 refine spQ ?_
 have hq4 := Valid_sub hx2
 replace hq4 := nzQ hq4
 refine condC_intro (fun h5 => ?_) (fun h5 => ?_)
 ·rw [if_pos h5] at hM
  refine spQA h5 ?_
  have nh5 := nzQ h5
  try have hr6 := mpQ nh5
  subst hM
  exact retC_view (lfQA h5)
 ·rw [if_neg (ne_true h5)] at hM
  refine spQA h5 ?_
  have nh5 := nzQ h5
  try have hr7 := mpQ nh5
  refine guardC_f (fun h8 => ?_) (fun h8 => ?_)
  ·rw [if_neg (ne_true h8)] at hM
   refine spQA h8 ?_
   have nh8 := nzQ h8
   try have hr9 := mpQ nh8
   refine condC_intro (fun h10 => ?_) (fun h10 => ?_)
   ·rw [if_pos h10] at hM
    refine spQA h10 ?_
    have nh10 := nzQ h10
    try have hr11 := mpQ nh10
    subst hM
    exact retC_view (lfQA (And.intro h5 (And.intro h8 h10)))
   ·rw [if_neg (ne_true h10)] at hM
    refine spQA h10 ?_
    have nh10 := nzQ h10
    try have hr12 := mpQ nh10
    refine bindC_intro (by (first | exact omQ | (clear hM; first | (have h9 := sub_gt (l := i_.L) (j := 5) (by assumption) (by assumption) (by omega); exact omQ')))) ?_
    have he13 : ∀ d, elt (i_.L.map e_api_Item) 0 d = e_api_Item (gt i_.L 0) := fun d => elt_mp (l := i_.L) (f := e_api_Item) (i := 0) (by (first | exact omQ | (clear hM; first | (have h9 := sub_gt (l := i_.L) (j := 5) (by assumption) (by assumption) (by omega); exact omQ')))) d
    refine spQA he13 ?_
    have hM0 := hM; clear hM; obtain ⟨x14, hx15, hM⟩ := letk_opn hM0; clear hM0
    have hcx14 := cmU hx15
    refine callC_give hcx14 (clQA he13) (clQA he13) (fun hw16 => ?_)
    replace hw16 := nzQ hw16
    refine spQA he13 ?_
    refine bindC_intro (by (first | exact omQ | (clear hM; first | (have h9 := sub_gt (l := i_.L) (j := 5) (by assumption) (by assumption) (by omega); exact omQ')))) ?_
    have he17 : ∀ d, elt (i_.L.map e_api_Item) 1 d = e_api_Item (gt i_.L 1) := fun d => elt_mp (l := i_.L) (f := e_api_Item) (i := 1) (by (first | exact omQ | (clear hM; first | (have h9 := sub_gt (l := i_.L) (j := 5) (by assumption) (by assumption) (by omega); exact omQ')))) d
    refine spQA (And.intro he13 he17) ?_
    have hM0 := hM; clear hM; obtain ⟨x18, hx19, hM⟩ := letk_opn hM0; clear hM0
    have hcx18 := cmU hx19
    refine callC_give hcx18 (clQA (And.intro he13 he17)) (clQA (And.intro he13 he17)) (fun hw20 => ?_)
    replace hw20 := nzQ hw20
    refine spQA (And.intro he13 he17) ?_
    refine bindC_intro (by (first | exact omQ | (clear hM; first | (have h9 := sub_gt (l := i_.L) (j := 5) (by assumption) (by assumption) (by omega); exact omQ')))) ?_
    have he21 : ∀ d, elt (i_.L.map e_api_Item) 2 d = e_api_Item (gt i_.L 2) := fun d => elt_mp (l := i_.L) (f := e_api_Item) (i := 2) (by (first | exact omQ | (clear hM; first | (have h9 := sub_gt (l := i_.L) (j := 5) (by assumption) (by assumption) (by omega); exact omQ')))) d
    refine spQA (And.intro he13 (And.intro he17 he21)) ?_
    have hM0 := hM; clear hM; obtain ⟨x22, hx23, hM⟩ := letk_opn hM0; clear hM0
    have hcx22 := cmU hx23
    refine callC_give hcx22 (clQA (And.intro he13 (And.intro he17 he21))) (clQA (And.intro he13 (And.intro he17 he21))) (fun hw24 => ?_)
    replace hw24 := nzQ hw24
    refine spQA (And.intro he13 (And.intro he17 he21)) ?_
    refine bindC_intro (by (first | exact omQ | (clear hM; first | (have h9 := sub_gt (l := i_.L) (j := 5) (by assumption) (by assumption) (by omega); exact omQ')))) ?_
    have he25 : ∀ d, elt (i_.L.map e_api_Item) 3 d = e_api_Item (gt i_.L 3) := fun d => elt_mp (l := i_.L) (f := e_api_Item) (i := 3) (by (first | exact omQ | (clear hM; first | (have h9 := sub_gt (l := i_.L) (j := 5) (by assumption) (by assumption) (by omega); exact omQ')))) d
    refine spQA (And.intro he13 (And.intro he17 (And.intro he21 he25))) ?_
    have hM0 := hM; clear hM; obtain ⟨x26, hx27, hM⟩ := letk_opn hM0; clear hM0
    have hcx26 := cmU hx27
    refine callC_give hcx26 (clQA (And.intro he13 (And.intro he17 (And.intro he21 he25)))) (clQA (And.intro he13 (And.intro he17 (And.intro he21 he25)))) (fun hw28 => ?_)
    replace hw28 := nzQ hw28
    refine spQA (And.intro he13 (And.intro he17 (And.intro he21 he25))) ?_
    refine bindC_intro (by (first | exact omQ | (clear hM; first | (have h9 := sub_gt (l := i_.L) (j := 5) (by assumption) (by assumption) (by omega); exact omQ')))) ?_
    have he29 : ∀ d, elt (i_.L.map e_api_Item) 4 d = e_api_Item (gt i_.L 4) := fun d => elt_mp (l := i_.L) (f := e_api_Item) (i := 4) (by (first | exact omQ | (clear hM; first | (have h9 := sub_gt (l := i_.L) (j := 5) (by assumption) (by assumption) (by omega); exact omQ')))) d
    refine spQA (And.intro he13 (And.intro he17 (And.intro he21 (And.intro he25 he29)))) ?_
    have hM0 := hM; clear hM; obtain ⟨x30, hx31, hM⟩ := letk_opn hM0; clear hM0
    have hcx30 := cmU hx31
    refine callC_give hcx30 (clQA (And.intro he13 (And.intro he17 (And.intro he21 (And.intro he25 he29))))) (clQA (And.intro he13 (And.intro he17 (And.intro he21 (And.intro he25 he29))))) (fun hw32 => ?_)
    replace hw32 := nzQ hw32
    refine spQA (And.intro he13 (And.intro he17 (And.intro he21 (And.intro he25 he29)))) ?_
    refine bindC_intro (by (first | exact omQ | (clear hM; first | (have h9 := sub_gt (l := i_.L) (j := 5) (by assumption) (by assumption) (by omega); exact omQ')))) ?_
    have he33 : ∀ d, elt (i_.L.map e_api_Item) 5 d = e_api_Item (gt i_.L 5) := fun d => elt_mp (l := i_.L) (f := e_api_Item) (i := 5) (by (first | exact omQ | (clear hM; first | (have h9 := sub_gt (l := i_.L) (j := 5) (by assumption) (by assumption) (by omega); exact omQ')))) d
    refine spQA (And.intro he13 (And.intro he17 (And.intro he21 (And.intro he25 (And.intro he29 he33))))) ?_
    refine guardC_f (fun h34 => ?_) (fun h34 => ?_)
    ·rw [if_neg (ne_true h34)] at hM
     refine spQA (And.intro he13 (And.intro he17 (And.intro he21 (And.intro he25 (And.intro he29 (And.intro he33 h34)))))) ?_
     have nh34 := nzQ h34
     try have hr35 := mpQ nh34
     refine guardC_f (fun h36 => ?_) (fun h36 => ?_)
     ·rw [if_neg (ne_true h36)] at hM
      refine spQA (And.intro he13 (And.intro he17 (And.intro he21 (And.intro he25 (And.intro he29 (And.intro he33 h36)))))) ?_
      have nh36 := nzQ h36
      try have hr37 := mpQ nh36
      refine guardC_f (fun h38 => ?_) (fun h38 => ?_)
      ·rw [if_neg (ne_true h38)] at hM
       refine spQA (And.intro he13 (And.intro he17 (And.intro he21 (And.intro he25 (And.intro he29 (And.intro he33 h38)))))) ?_
       have nh38 := nzQ h38
       try have hr39 := mpQ nh38
       refine guardC_f (fun h40 => ?_) (fun h40 => ?_)
       ·rw [if_neg (ne_true h40)] at hM
        refine spQA (And.intro he13 (And.intro he17 (And.intro he21 (And.intro he25 (And.intro he29 (And.intro he33 h40)))))) ?_
        have nh40 := nzQ h40
        try have hr41 := mpQ nh40
        refine guardC_f (fun h42 => ?_) (fun h42 => ?_)
        ·rw [if_neg (ne_true h42)] at hM
         refine spQA (And.intro he13 (And.intro he17 (And.intro he21 (And.intro he25 (And.intro he29 (And.intro he33 h42)))))) ?_
         have nh42 := nzQ h42
         try have hr43 := mpQ nh42
         refine bindC_intro (by (first | exact omQ | (clear hM; first | (have h9 := sub_gt (l := i_.L) (j := 5) (by assumption) (by assumption) (by omega); exact omQ')))) ?_
         refine spQA (And.intro he13 (And.intro he17 (And.intro he21 (And.intro he25 (And.intro he29 he33))))) ?_
         refine guardC_f (fun h44 => ?_) (fun h44 => ?_)
         ·rw [if_neg (ne_true h44)] at hM
          refine spQA (And.intro he13 (And.intro he17 (And.intro he21 (And.intro he25 (And.intro he29 (And.intro he33 h44)))))) ?_
          have nh44 := nzQ h44
          try have hr45 := mpQ nh44
          refine guardC_f (fun h46 => ?_) (fun h46 => ?_)
          ·rw [if_neg (ne_true h46)] at hM
           refine spQA (And.intro he13 (And.intro he17 (And.intro he21 (And.intro he25 (And.intro he29 (And.intro he33 h46)))))) ?_
           have nh46 := nzQ h46
           try have hr47 := mpQ nh46
           refine guardC_f (fun h48 => ?_) (fun h48 => ?_)
           ·rw [if_neg (ne_true h48)] at hM
            refine spQA (And.intro he13 (And.intro he17 (And.intro he21 (And.intro he25 (And.intro he29 (And.intro he33 h48)))))) ?_
            have nh48 := nzQ h48
            try have hr49 := mpQ nh48
            refine bindC_intro (by (first | exact omQ | (clear hM; first | (have h9 := sub_gt (l := i_.L) (j := 5) (by assumption) (by assumption) (by omega); exact omQ')))) ?_
            have he50 : ∀ d, elt ((gt i_.L 5).L.map e_api_Item) 0 d = e_api_Item (gt (gt i_.L 5).L 0) := fun d => elt_mp (l := (gt i_.L 5).L) (f := e_api_Item) (i := 0) (by (first | exact omQ | (clear hM; first | (have h9 := sub_gt (l := i_.L) (j := 5) (by assumption) (by assumption) (by omega); exact omQ')))) d
            refine spQA (And.intro he13 (And.intro he17 (And.intro he21 (And.intro he25 (And.intro he29 (And.intro he33 he50)))))) ?_
            refine condC_intro (fun h51 => ?_) (fun h51 => ?_)
            ·rw [if_pos h51] at hM
             refine spQA (And.intro he13 (And.intro he17 (And.intro he21 (And.intro he25 (And.intro he29 (And.intro he33 (And.intro he50 h51))))))) ?_
             have nh51 := nzQ h51
             try have hr52 := mpQ nh51
             subst hM
             exact retC_view (lfQA (And.intro he13 (And.intro he17 (And.intro he21 (And.intro he25 (And.intro he29 (And.intro he33 (And.intro he50 (And.intro h5 (And.intro h8 (And.intro h10 (And.intro h34 (And.intro h36 (And.intro h38 (And.intro h40 (And.intro h42 (And.intro h44 (And.intro h46 (And.intro h48 h51)))))))))))))))))))
            ·rw [if_neg (ne_true h51)] at hM
             refine spQA (And.intro he13 (And.intro he17 (And.intro he21 (And.intro he25 (And.intro he29 (And.intro he33 (And.intro he50 h51))))))) ?_
             have nh51 := nzQ h51
             try have hr53 := mpQ nh51
             have hM0 := hM; clear hM; obtain ⟨f54, d54, hf54, hd54, hM⟩ := iter_opn hM0; clear hM0
             refine ct_loopW (fun n S => ∃ p : Int × List S_api_Leaf, S = (⟨[(2, .ptr 1 0), (14, .sl none 1 false (x30.1.map (V.int .i64))), (16, .ptr 4 0), (17, .ptr 5 0), (18, .int .i64 p.1)], [(1, .var 80 true (zv_59)), (4, .var 4 true (.agg [.int .i64 (gt i_.L 5).Kind, .int .i64 (gt i_.L 5).N, .sl none 1 false ((gt i_.L 5).B.map (V.int .u8)), .sl none 4 true ((gt i_.L 5).L.map e_api_Item)])), (5, .var 80 true (.agg (.int .i64 x14.1.Bank :: .int .i64 x14.1.Epoch :: .int .i64 x14.1.Denom :: .int .i64 x14.1.Depth :: .int .i64 x14.1.A :: .int .u8 (gt x14.1.Root 0) :: .int .u8 (gt x14.1.Root 1) :: .int .u8 (gt x14.1.Root 2) :: .int .u8 (gt x14.1.Root 3) :: .int .u8 (gt x14.1.Root 4) :: .int .u8 (gt x14.1.Root 5) :: .int .u8 (gt x14.1.Root 6) :: .int .u8 (gt x14.1.Root 7) :: .int .u8 (gt x14.1.Root 8) :: .int .u8 (gt x14.1.Root 9) :: .int .u8 (gt x14.1.Root 10) :: .int .u8 (gt x14.1.Root 11) :: .int .u8 (gt x14.1.Root 12) :: .int .u8 (gt x14.1.Root 13) :: .int .u8 (gt x14.1.Root 14) :: .int .u8 (gt x14.1.Root 15) :: .int .u8 (gt x14.1.Root 16) :: .int .u8 (gt x14.1.Root 17) :: .int .u8 (gt x14.1.Root 18) :: .int .u8 (gt x14.1.Root 19) :: .int .u8 (gt x14.1.Root 20) :: .int .u8 (gt x14.1.Root 21) :: .int .u8 (gt x14.1.Root 22) :: .int .u8 (gt x14.1.Root 23) :: .int .u8 (gt x14.1.Root 24) :: .int .u8 (gt x14.1.Root 25) :: .int .u8 (gt x14.1.Root 26) :: .int .u8 (gt x14.1.Root 27) :: .int .u8 (gt x14.1.Root 28) :: .int .u8 (gt x14.1.Root 29) :: .int .u8 (gt x14.1.Root 30) :: .int .u8 (gt x14.1.Root 31) :: .int .i64 x14.1.Sign.Z :: .int .i64 x14.1.Sign.A :: .int .i64 x14.1.Sign.B :: .int .i64 x14.1.Sign.R :: .int .i64 x18.1 :: .int .i64 x18.2.1 :: .int .u8 (gt x22.1 0) :: .int .u8 (gt x22.1 1) :: .int .u8 (gt x22.1 2) :: .int .u8 (gt x22.1 3) :: .int .u8 (gt x22.1 4) :: .int .u8 (gt x22.1 5) :: .int .u8 (gt x22.1 6) :: .int .u8 (gt x22.1 7) :: .int .u8 (gt x22.1 8) :: .int .u8 (gt x22.1 9) :: .int .u8 (gt x22.1 10) :: .int .u8 (gt x22.1 11) :: .int .u8 (gt x22.1 12) :: .int .u8 (gt x22.1 13) :: .int .u8 (gt x22.1 14) :: .int .u8 (gt x22.1 15) :: .int .u8 (gt x22.1 16) :: .int .u8 (gt x22.1 17) :: .int .u8 (gt x22.1 18) :: .int .u8 (gt x22.1 19) :: .int .u8 (gt x22.1 20) :: .int .u8 (gt x22.1 21) :: .int .u8 (gt x22.1 22) :: .int .u8 (gt x22.1 23) :: .int .u8 (gt x22.1 24) :: .int .u8 (gt x22.1 25) :: .int .u8 (gt x22.1 26) :: .int .u8 (gt x22.1 27) :: .int .u8 (gt x22.1 28) :: .int .u8 (gt x22.1 29) :: .int .u8 (gt x22.1 30) :: .int .u8 (gt x22.1 31) :: .int .i64 x26.1 :: .int .i64 x26.2.1 :: .own 6 :: .int .i64 0 :: .sl (some true) 32 true [] :: []))), (6, .own 116 3 true none (p.2.map e_api_Leaf))], 7⟩ : St) ∧ ((0 ≤ p.1) ∧ (p.1 ≤ (x30.1.length : Int)) ∧ (p.1 % 3 = 0) ∧ (((p.2).length : Int) ≤ p.1)) ∧ ((x30.1.length : Int) - p.1).toNat < n ∧ iter n f54 d54 p = r) (((x30.1.length : Int) - 0).toNat + 1) _ _ (weak_nilV 5 77 116 rfl rfl (by decide)) sbQ sbQ ⟨(0, ([] : List S_api_Leaf)), rfl, ⟨by (first | exact omQ | (clear hM; first | (have h9 := sub_gt (l := i_.L) (j := 5) (by assumption) (by assumption) (by omega); exact omQ'))), by (first | exact omQ | (clear hM; first | (have h9 := sub_gt (l := i_.L) (j := 5) (by assumption) (by assumption) (by omega); exact omQ'))), by (first | exact omQ | (clear hM; first | (have h9 := sub_gt (l := i_.L) (j := 5) (by assumption) (by assumption) (by omega); exact omQ'))), by (first | exact omQ | (clear hM; first | (have h9 := sub_gt (l := i_.L) (j := 5) (by assumption) (by assumption) (by omega); exact omQ')))⟩, (Nat.lt_succ_self _), hM⟩ ?_
             clear hM
             rintro n54 S ⟨p54, rfl, hfa54, hm54, hM⟩
             have hM0 := hM; clear hM; obtain ⟨ag54, hag54, hM⟩ := iter_step hM0 (by omega) hf54; clear hM0
             replace hfa54 := nzQ hfa54
             replace hm54 := nzQ hm54
             have ha54 : addI .i64 p54.1 1 = p54.1 + 1 := add_one (by (first | exact omQ | (clear hM; first | (have h9 := sub_gt (l := i_.L) (j := 5) (by assumption) (by assumption) (by omega); exact omQ')))) (by (first | exact omQ | (clear hM; first | (have h9 := sub_gt (l := i_.L) (j := 5) (by assumption) (by assumption) (by omega); exact omQ'))))
             refine spQA (And.intro he13 (And.intro he17 (And.intro he21 (And.intro he25 (And.intro he29 (And.intro he33 (And.intro he50 ha54))))))) ?_
             refine condC_intro (fun h55 => ?_) (fun h55 => ?_)
             ·rw [if_pos h55] at hM
              refine spQA (And.intro he13 (And.intro he17 (And.intro he21 (And.intro he25 (And.intro he29 (And.intro he33 (And.intro he50 (And.intro ha54 h55)))))))) ?_
              have nh55 := nzQ h55
              try have hr56 := mpQ nh55
              refine ct_draw 195 18 [142, 143, 144, 145, 146, 147, 148, 149, 150, 151, 152, 153, 154, 155, 156, 157, 158, 159] [] ([[], [0], [], [], [2, 3], [2, 3, 4], [], [], [7], [6, 7, 8], [6, 7, 8, 9], [], [], [12], [11, 12, 13], [11, 12, 13, 14], [2, 3, 4, 5, 6, 7, 8, 9, 10, 11, 12, 13, 14, 15], [2, 3, 4, 5, 6, 7, 8, 9, 10, 11, 12, 13, 14, 15, 16]] ++ [List.range 18, List.range 19, List.range 20]) [] (by kernel_rfl) (by exact alQ) ?_
              refine spQA (And.intro he13 (And.intro he17 (And.intro he21 (And.intro he25 (And.intro he29 (And.intro he33 (And.intro he50 ha54))))))) ?_
              refine hbindC_intro (by (first | exact omQ | (clear hM; first | (have h9 := sub_gt (l := i_.L) (j := 5) (by assumption) (by assumption) (by omega); exact omQ')))) ?_
              have he57 := fun d => elt_mp (l := x30.1) (f := (V.int .i64)) (i := p54.1) (by (first | exact omQ | (clear hM; first | (have h9 := sub_gt (l := i_.L) (j := 5) (by assumption) (by assumption) (by omega); exact omQ')))) d
              refine spQA (And.intro he13 (And.intro he17 (And.intro he21 (And.intro he25 (And.intro he29 (And.intro he33 (And.intro he50 (And.intro ha54 he57)))))))) ?_
              refine hbindC_intro (by (first | exact omQ | (clear hM; first | (have h9 := sub_gt (l := i_.L) (j := 5) (by assumption) (by assumption) (by omega); exact omQ')))) ?_
              have he58 := fun d => elt_mp (l := x30.1) (f := (V.int .i64)) (i := (p54.1 + 1)) (by (first | exact omQ | (clear hM; first | (have h9 := sub_gt (l := i_.L) (j := 5) (by assumption) (by assumption) (by omega); exact omQ')))) d
              refine spQA (And.intro he13 (And.intro he17 (And.intro he21 (And.intro he25 (And.intro he29 (And.intro he33 (And.intro he50 (And.intro ha54 (And.intro he57 he58))))))))) ?_
              have ha59 : addI .i64 p54.1 2 = (p54.1 + 2) := add_ok (by (first | exact omQ | (clear hM; first | (have h9 := sub_gt (l := i_.L) (j := 5) (by assumption) (by assumption) (by omega); exact omQ')))) (by (first | exact omQ | (clear hM; first | (have h9 := sub_gt (l := i_.L) (j := 5) (by assumption) (by assumption) (by omega); exact omQ'))))
              try simp only [ha59]
              refine hbindC_intro (by (first | exact omQ | (clear hM; first | (have h9 := sub_gt (l := i_.L) (j := 5) (by assumption) (by assumption) (by omega); exact omQ')))) ?_
              have he60 := fun d => elt_mp (l := x30.1) (f := (V.int .i64)) (i := (p54.1 + 2)) (by (first | exact omQ | (clear hM; first | (have h9 := sub_gt (l := i_.L) (j := 5) (by assumption) (by assumption) (by omega); exact omQ')))) d
              refine spQA (And.intro he13 (And.intro he17 (And.intro he21 (And.intro he25 (And.intro he29 (And.intro he33 (And.intro he50 (And.intro ha54 (And.intro he57 (And.intro he58 (And.intro ha59 he60))))))))))) ?_
              refine bindC_intro (by (first | exact omQ | (clear hM; first | (have h9 := sub_gt (l := i_.L) (j := 5) (by assumption) (by assumption) (by omega); exact omQ')))) ?_
              refine spQA (And.intro he13 (And.intro he17 (And.intro he21 (And.intro he25 (And.intro he29 (And.intro he33 (And.intro he50 (And.intro ha54 (And.intro he57 (And.intro he58 (And.intro ha59 he60))))))))))) ?_
              have ha61 : addI .i64 p54.1 3 = (p54.1 + 3) := add_ok (by (first | exact omQ | (clear hM; first | (have h9 := sub_gt (l := i_.L) (j := 5) (by assumption) (by assumption) (by omega); exact omQ')))) (by (first | exact omQ | (clear hM; first | (have h9 := sub_gt (l := i_.L) (j := 5) (by assumption) (by assumption) (by omega); exact omQ'))))
              try simp only [ha61]
              refine lp_intro (n54 - 1) _ (by omega) sbQ sbQ ⟨((p54.1 + 3), (p54.2 ++ ([({ B := (gt x30.1 p54.1), R1 := (gt x30.1 (p54.1 + 1)), R2 := (gt x30.1 (p54.1 + 2)) } : S_api_Leaf)] : List S_api_Leaf))), rfl, ⟨by (first | exact omQ | (clear hM; first | (have h9 := sub_gt (l := i_.L) (j := 5) (by assumption) (by assumption) (by omega); exact omQ'))), by (first | exact omQ | (clear hM; first | (have h9 := sub_gt (l := i_.L) (j := 5) (by assumption) (by assumption) (by omega); exact omQ'))), by (first | exact omQ | (clear hM; first | (have h9 := sub_gt (l := i_.L) (j := 5) (by assumption) (by assumption) (by omega); exact omQ'))), by (first | exact omQ | (clear hM; first | (have h9 := sub_gt (l := i_.L) (j := 5) (by assumption) (by assumption) (by omega); exact omQ')))⟩, by (first | exact omQ | (clear hM; first | (have h9 := sub_gt (l := i_.L) (j := 5) (by assumption) (by assumption) (by omega); exact omQ'))), iter_again hM hag54⟩
             ·rw [if_neg (ne_true h55)] at hM
              refine spQA (And.intro he13 (And.intro he17 (And.intro he21 (And.intro he25 (And.intro he29 (And.intro he33 (And.intro he50 (And.intro ha54 h55)))))))) ?_
              have nh55 := nzQ h55
              try have hr62 := mpQ nh55
              refine bindC_intro (by (first | exact omQ | (clear hM; first | (have h9 := sub_gt (l := i_.L) (j := 5) (by assumption) (by assumption) (by omega); exact omQ')))) ?_
              refine spQA (And.intro he13 (And.intro he17 (And.intro he21 (And.intro he25 (And.intro he29 (And.intro he33 (And.intro he50 ha54))))))) ?_
              refine bindC_intro (by (first | exact omQ | (clear hM; first | (have h9 := sub_gt (l := i_.L) (j := 5) (by assumption) (by assumption) (by omega); exact omQ')))) ?_
              refine spQA (And.intro he13 (And.intro he17 (And.intro he21 (And.intro he25 (And.intro he29 (And.intro he33 (And.intro he50 ha54))))))) ?_
              have hM0 := hM; clear hM; obtain ⟨f63, d63, hf63, hd63, hM⟩ := iter_opn hM0; clear hM0
              refine ct_loopW (fun n S => ∃ p : Int × S_api_Spend × List (List Int), S = (⟨[(2, .ptr 1 0), (17, .ptr 5 0), (171, .sl none 4 true ((sl (gt i_.L 5).L 1 ((gt i_.L 5).L.length : Int)).map e_api_Item)), (172, .int .i64 ((sl (gt i_.L 5).L 1 ((gt i_.L 5).L.length : Int)).length : Int)), (173, .int .i64 p.1)], [(1, .var 80 true ((e_api_Spend p.2.1))), (5, .var 80 true (.agg (.int .i64 x14.1.Bank :: .int .i64 x14.1.Epoch :: .int .i64 x14.1.Denom :: .int .i64 x14.1.Depth :: .int .i64 x14.1.A :: .int .u8 (gt x14.1.Root 0) :: .int .u8 (gt x14.1.Root 1) :: .int .u8 (gt x14.1.Root 2) :: .int .u8 (gt x14.1.Root 3) :: .int .u8 (gt x14.1.Root 4) :: .int .u8 (gt x14.1.Root 5) :: .int .u8 (gt x14.1.Root 6) :: .int .u8 (gt x14.1.Root 7) :: .int .u8 (gt x14.1.Root 8) :: .int .u8 (gt x14.1.Root 9) :: .int .u8 (gt x14.1.Root 10) :: .int .u8 (gt x14.1.Root 11) :: .int .u8 (gt x14.1.Root 12) :: .int .u8 (gt x14.1.Root 13) :: .int .u8 (gt x14.1.Root 14) :: .int .u8 (gt x14.1.Root 15) :: .int .u8 (gt x14.1.Root 16) :: .int .u8 (gt x14.1.Root 17) :: .int .u8 (gt x14.1.Root 18) :: .int .u8 (gt x14.1.Root 19) :: .int .u8 (gt x14.1.Root 20) :: .int .u8 (gt x14.1.Root 21) :: .int .u8 (gt x14.1.Root 22) :: .int .u8 (gt x14.1.Root 23) :: .int .u8 (gt x14.1.Root 24) :: .int .u8 (gt x14.1.Root 25) :: .int .u8 (gt x14.1.Root 26) :: .int .u8 (gt x14.1.Root 27) :: .int .u8 (gt x14.1.Root 28) :: .int .u8 (gt x14.1.Root 29) :: .int .u8 (gt x14.1.Root 30) :: .int .u8 (gt x14.1.Root 31) :: .int .i64 x14.1.Sign.Z :: .int .i64 x14.1.Sign.A :: .int .i64 x14.1.Sign.B :: .int .i64 x14.1.Sign.R :: .int .i64 x18.1 :: .int .i64 x18.2.1 :: .int .u8 (gt x22.1 0) :: .int .u8 (gt x22.1 1) :: .int .u8 (gt x22.1 2) :: .int .u8 (gt x22.1 3) :: .int .u8 (gt x22.1 4) :: .int .u8 (gt x22.1 5) :: .int .u8 (gt x22.1 6) :: .int .u8 (gt x22.1 7) :: .int .u8 (gt x22.1 8) :: .int .u8 (gt x22.1 9) :: .int .u8 (gt x22.1 10) :: .int .u8 (gt x22.1 11) :: .int .u8 (gt x22.1 12) :: .int .u8 (gt x22.1 13) :: .int .u8 (gt x22.1 14) :: .int .u8 (gt x22.1 15) :: .int .u8 (gt x22.1 16) :: .int .u8 (gt x22.1 17) :: .int .u8 (gt x22.1 18) :: .int .u8 (gt x22.1 19) :: .int .u8 (gt x22.1 20) :: .int .u8 (gt x22.1 21) :: .int .u8 (gt x22.1 22) :: .int .u8 (gt x22.1 23) :: .int .u8 (gt x22.1 24) :: .int .u8 (gt x22.1 25) :: .int .u8 (gt x22.1 26) :: .int .u8 (gt x22.1 27) :: .int .u8 (gt x22.1 28) :: .int .u8 (gt x22.1 29) :: .int .u8 (gt x22.1 30) :: .int .u8 (gt x22.1 31) :: .int .i64 x26.1 :: .int .i64 x26.2.1 :: .own 6 :: .int .i64 (gt (gt i_.L 5).L 0).N :: .own 7 :: []))), (6, .own 116 3 true none (p54.2.map e_api_Leaf)), (7, .own 45 32 true none (p.2.2.map e_arr45))], 8⟩ : St) ∧ ((0 ≤ p.1) ∧ (p.1 ≤ ((sl (gt i_.L 5).L 1 ((gt i_.L 5).L.length : Int)).length : Int)) ∧ (((p.2.2).length : Int) ≤ p.1)) ∧ (((sl (gt i_.L 5).L 1 ((gt i_.L 5).L.length : Int)).length : Int) - p.1).toNat < n ∧ iter n f63 d63 p = r) ((((sl (gt i_.L 5).L 1 ((gt i_.L 5).L.length : Int)).length : Int) - 0).toNat + 1) _ _ (weak_nilV 5 79 45 rfl rfl (by decide)) sbQ (by simp only [go_sem, rowV_eq, rowV_eq0, List.length_replicate, rep_len, Int.toNat_natCast, ↓reduceIte, Nat.reduceEqDiff, Nat.reduceAdd, Int.reduceAdd, Nat.reduceMul, Nat.reduceLeDiff, Nat.reduceLT, Int.reduceLE, Int.reduceLT, Int.reduceNeg, Int.reduceToNat, map_st, mtL_repE, mtL_repM, subF, subH, mtO, mtB, mt, mtL, mtL_self, mt_self, ltV, ltL, ltB, eq_self, or_true, true_or, or_self, and_self, gt_cons0, gt_conss, Int.reduceSub]) ⟨(0, z_api_Spend, ([] : List (List Int))), rfl, ⟨by (first | exact omQ | (clear hM; first | (have h9 := sub_gt (l := i_.L) (j := 5) (by assumption) (by assumption) (by omega); exact omQ'))), by (first | exact omQ | (clear hM; first | (have h9 := sub_gt (l := i_.L) (j := 5) (by assumption) (by assumption) (by omega); exact omQ'))), by (first | exact omQ | (clear hM; first | (have h9 := sub_gt (l := i_.L) (j := 5) (by assumption) (by assumption) (by omega); exact omQ')))⟩, (Nat.lt_succ_self _), hM⟩ ?_
              clear hM
              rintro n63 S ⟨p63, rfl, hfa63, hm63, hM⟩
              have hM0 := hM; clear hM; obtain ⟨ag63, hag63, hM⟩ := iter_step hM0 (by omega) hf63; clear hM0
              replace hfa63 := nzQ hfa63
              replace hm63 := nzQ hm63
              have ha63 : addI .i64 p63.1 1 = p63.1 + 1 := add_one (by (first | exact omQ | (clear hM; first | (have h9 := sub_gt (l := i_.L) (j := 5) (by assumption) (by assumption) (by omega); exact omQ')))) (by (first | exact omQ | (clear hM; first | (have h9 := sub_gt (l := i_.L) (j := 5) (by assumption) (by assumption) (by omega); exact omQ'))))
              refine spQA (And.intro he13 (And.intro he17 (And.intro he21 (And.intro he25 (And.intro he29 (And.intro he33 (And.intro he50 (And.intro ha54 ha63)))))))) ?_
              refine condC_intro (fun h64 => ?_) (fun h64 => ?_)
              ·rw [if_pos h64] at hM
               refine spQA (And.intro he13 (And.intro he17 (And.intro he21 (And.intro he25 (And.intro he29 (And.intro he33 (And.intro he50 (And.intro ha54 (And.intro ha63 h64))))))))) ?_
               have nh64 := nzQ h64
               try have hr65 := mpQ nh64
               refine bindC_intro (by (first | exact omQ | (clear hM; first | (have h9 := sub_gt (l := i_.L) (j := 5) (by assumption) (by assumption) (by omega); exact omQ')))) ?_
               have he66 := fun d => elt_mp (l := (sl (gt i_.L 5).L 1 ((gt i_.L 5).L.length : Int))) (f := e_api_Item) (i := p63.1) (by (first | exact omQ | (clear hM; first | (have h9 := sub_gt (l := i_.L) (j := 5) (by assumption) (by assumption) (by omega); exact omQ')))) d
               refine spQA (And.intro he13 (And.intro he17 (And.intro he21 (And.intro he25 (And.intro he29 (And.intro he33 (And.intro he50 (And.intro ha54 (And.intro ha63 he66))))))))) ?_
               have hM0 := hM; clear hM; obtain ⟨x67, hx68, hM⟩ := letk_opn hM0; clear hM0
               have hcx67 := cmU hx68
               refine callC_give hcx67 (clQA (And.intro he13 (And.intro he17 (And.intro he21 (And.intro he25 (And.intro he29 (And.intro he33 (And.intro he50 (And.intro ha54 (And.intro ha63 he66)))))))))) (clQA (And.intro he13 (And.intro he17 (And.intro he21 (And.intro he25 (And.intro he29 (And.intro he33 (And.intro he50 (And.intro ha54 (And.intro ha63 he66)))))))))) (fun hw69 => ?_)
               replace hw69 := nzQ hw69
               refine spQA (And.intro he13 (And.intro he17 (And.intro he21 (And.intro he25 (And.intro he29 (And.intro he33 (And.intro he50 (And.intro ha54 (And.intro ha63 he66))))))))) ?_
               refine condC_intro (fun h70 => ?_) (fun h70 => ?_)
               ·rw [if_pos h70] at hM
                refine spQA (And.intro he13 (And.intro he17 (And.intro he21 (And.intro he25 (And.intro he29 (And.intro he33 (And.intro he50 (And.intro ha54 (And.intro ha63 (And.intro he66 h70)))))))))) ?_
                have nh70 := nzQ h70
                try have hr71 := mpQ nh70
                subst hM
                exact retC_view (lfQA (And.intro he13 (And.intro he17 (And.intro he21 (And.intro he25 (And.intro he29 (And.intro he33 (And.intro he50 (And.intro ha54 (And.intro ha63 (And.intro he66 (And.intro h5 (And.intro h8 (And.intro h10 (And.intro h34 (And.intro h36 (And.intro h38 (And.intro h40 (And.intro h42 (And.intro h44 (And.intro h46 (And.intro h48 (And.intro h51 (And.intro h55 (And.intro h64 h70)))))))))))))))))))))))))
               ·rw [if_neg (ne_true h70)] at hM
                refine spQA (And.intro he13 (And.intro he17 (And.intro he21 (And.intro he25 (And.intro he29 (And.intro he33 (And.intro he50 (And.intro ha54 (And.intro ha63 (And.intro he66 h70)))))))))) ?_
                have nh70 := nzQ h70
                try have hr72 := mpQ nh70
                refine bindC_intro (by (first | exact omQ | (clear hM; first | (have h9 := sub_gt (l := i_.L) (j := 5) (by assumption) (by assumption) (by omega); exact omQ')))) ?_
                refine spQA (And.intro he13 (And.intro he17 (And.intro he21 (And.intro he25 (And.intro he29 (And.intro he33 (And.intro he50 (And.intro ha54 (And.intro ha63 he66))))))))) ?_
                refine lp_intro (n63 - 1) _ (by omega) sbQ sbQ ⟨((p63.1 + 1), p63.2.1, (p63.2.2 ++ ([x67.1] : List (List Int)))), rfl, ⟨by (first | exact omQ | (clear hM; first | (have h9 := sub_gt (l := i_.L) (j := 5) (by assumption) (by assumption) (by omega); exact omQ'))), by (first | exact omQ | (clear hM; first | (have h9 := sub_gt (l := i_.L) (j := 5) (by assumption) (by assumption) (by omega); exact omQ'))), by (first | exact omQ | (clear hM; first | (have h9 := sub_gt (l := i_.L) (j := 5) (by assumption) (by assumption) (by omega); exact omQ')))⟩, by (first | exact omQ | (clear hM; first | (have h9 := sub_gt (l := i_.L) (j := 5) (by assumption) (by assumption) (by omega); exact omQ'))), iter_again hM hag63⟩
              ·rw [if_neg (ne_true h64)] at hM
               refine spQA (And.intro he13 (And.intro he17 (And.intro he21 (And.intro he25 (And.intro he29 (And.intro he33 (And.intro he50 (And.intro ha54 (And.intro ha63 h64))))))))) ?_
               have nh64 := nzQ h64
               try have hr73 := mpQ nh64
               subst hM
               exact retC_view (lfQA (And.intro he13 (And.intro he17 (And.intro he21 (And.intro he25 (And.intro he29 (And.intro he33 (And.intro he50 (And.intro ha54 (And.intro ha63 (And.intro h5 (And.intro h8 (And.intro h10 (And.intro h34 (And.intro h36 (And.intro h38 (And.intro h40 (And.intro h42 (And.intro h44 (And.intro h46 (And.intro h48 (And.intro h51 (And.intro h55 h64)))))))))))))))))))))))
           ·rw [if_pos h48] at hM
            refine spQA (And.intro he13 (And.intro he17 (And.intro he21 (And.intro he25 (And.intro he29 (And.intro he33 h48)))))) ?_
            have nh48 := nzQ h48
            try have hr74 := mpQ nh48
            subst hM
            exact retC_view (lfQA (And.intro he13 (And.intro he17 (And.intro he21 (And.intro he25 (And.intro he29 (And.intro he33 (And.intro h5 (And.intro h8 (And.intro h10 (And.intro h34 (And.intro h36 (And.intro h38 (And.intro h40 (And.intro h42 (And.intro h44 (And.intro h46 h48)))))))))))))))))
          ·rw [if_pos h46] at hM
           refine spQA (And.intro he13 (And.intro he17 (And.intro he21 (And.intro he25 (And.intro he29 (And.intro he33 h46)))))) ?_
           have nh46 := nzQ h46
           try have hr75 := mpQ nh46
           subst hM
           exact retC_view (lfQA (And.intro he13 (And.intro he17 (And.intro he21 (And.intro he25 (And.intro he29 (And.intro he33 (And.intro h5 (And.intro h8 (And.intro h10 (And.intro h34 (And.intro h36 (And.intro h38 (And.intro h40 (And.intro h42 (And.intro h44 h46))))))))))))))))
         ·rw [if_pos h44] at hM
          refine spQA (And.intro he13 (And.intro he17 (And.intro he21 (And.intro he25 (And.intro he29 (And.intro he33 h44)))))) ?_
          have nh44 := nzQ h44
          try have hr76 := mpQ nh44
          subst hM
          exact retC_view (lfQA (And.intro he13 (And.intro he17 (And.intro he21 (And.intro he25 (And.intro he29 (And.intro he33 (And.intro h5 (And.intro h8 (And.intro h10 (And.intro h34 (And.intro h36 (And.intro h38 (And.intro h40 (And.intro h42 h44)))))))))))))))
        ·rw [if_pos h42] at hM
         refine spQA (And.intro he13 (And.intro he17 (And.intro he21 (And.intro he25 (And.intro he29 (And.intro he33 h42)))))) ?_
         have nh42 := nzQ h42
         try have hr77 := mpQ nh42
         subst hM
         exact retC_view (lfQA (And.intro he13 (And.intro he17 (And.intro he21 (And.intro he25 (And.intro he29 (And.intro he33 (And.intro h5 (And.intro h8 (And.intro h10 (And.intro h34 (And.intro h36 (And.intro h38 (And.intro h40 h42))))))))))))))
       ·rw [if_pos h40] at hM
        refine spQA (And.intro he13 (And.intro he17 (And.intro he21 (And.intro he25 (And.intro he29 (And.intro he33 h40)))))) ?_
        have nh40 := nzQ h40
        try have hr78 := mpQ nh40
        subst hM
        exact retC_view (lfQA (And.intro he13 (And.intro he17 (And.intro he21 (And.intro he25 (And.intro he29 (And.intro he33 (And.intro h5 (And.intro h8 (And.intro h10 (And.intro h34 (And.intro h36 (And.intro h38 h40)))))))))))))
      ·rw [if_pos h38] at hM
       refine spQA (And.intro he13 (And.intro he17 (And.intro he21 (And.intro he25 (And.intro he29 (And.intro he33 h38)))))) ?_
       have nh38 := nzQ h38
       try have hr79 := mpQ nh38
       subst hM
       exact retC_view (lfQA (And.intro he13 (And.intro he17 (And.intro he21 (And.intro he25 (And.intro he29 (And.intro he33 (And.intro h5 (And.intro h8 (And.intro h10 (And.intro h34 (And.intro h36 h38))))))))))))
     ·rw [if_pos h36] at hM
      refine spQA (And.intro he13 (And.intro he17 (And.intro he21 (And.intro he25 (And.intro he29 (And.intro he33 h36)))))) ?_
      have nh36 := nzQ h36
      try have hr80 := mpQ nh36
      subst hM
      exact retC_view (lfQA (And.intro he13 (And.intro he17 (And.intro he21 (And.intro he25 (And.intro he29 (And.intro he33 (And.intro h5 (And.intro h8 (And.intro h10 (And.intro h34 h36)))))))))))
    ·rw [if_pos h34] at hM
     refine spQA (And.intro he13 (And.intro he17 (And.intro he21 (And.intro he25 (And.intro he29 (And.intro he33 h34)))))) ?_
     have nh34 := nzQ h34
     try have hr81 := mpQ nh34
     subst hM
     exact retC_view (lfQA (And.intro he13 (And.intro he17 (And.intro he21 (And.intro he25 (And.intro he29 (And.intro he33 (And.intro h5 (And.intro h8 (And.intro h10 h34))))))))))
  ·rw [if_pos h8] at hM
   refine spQA h8 ?_
   have nh8 := nzQ h8
   try have hr82 := mpQ nh8
   subst hM
   exact retC_view (lfQA (And.intro h5 h8))
set_option maxHeartbeats 2000000 in
set_option maxRecDepth 100000 in
instance payment_readSpend_ok   (i_ : S_api_Item)  : CM En (payment_readSpend i_) 36 [.agg [.int .i64 i_.Kind, .int .i64 i_.N, .sl none 1 false (i_.B.map (V.int .u8)), .sl none 4 true (i_.L.map e_api_Item)]] (fun y => .tup [(e_api_Spend y.1), .bool y.2]) (fun _ => []) := by
 refine cmQ fun r hM => ?_
 rw [payment_readSpend.eq_1] at hM
 refine enterV En_ok En_mo noJ Try.func36 rfl Try.ntmps36 (by kernel_rfl) fun hw => ct_start ?_
 refine spQ ?_
 replace hw := nzQ hw
 have hF := trueQ
 exact auQ
set_option maxHeartbeats 2000000 in
set_option maxRecDepth 100000 in
instance payment_things_api_Spend_at_payment_readSpend_ok   (i_ : S_api_Item)  : CM En (payment_things_api_Spend_at_payment_readSpend i_) 35 [.agg [.int .i64 i_.Kind, .int .i64 i_.N, .sl none 1 false (i_.B.map (V.int .u8)), .sl none 4 true (i_.L.map e_api_Item)], .fn 36 []] (fun y => .tup [.sl none 80 true (y.1.map e_api_Spend), .bool y.2]) (fun _ => []) := by
 refine cmQ fun r hM => ?_
 rw [payment_things_api_Spend_at_payment_readSpend.eq_1] at hM
 refine enterV En_ok En_mo noJ Try.func35 rfl Try.ntmps35 (by kernel_rfl) fun hw => ct_start ?_
 refine spQ ?_
 replace hw := nzQ hw
 refine condC_intro (fun h1 => ?_) (fun h1 => ?_)
 ·rw [if_pos h1] at hM
  refine spQA h1 ?_
  have nh1 := nzQ h1
  try have hr2 := mpQ nh1
  subst hM
  exact retC_view (lfQA h1)
 ·rw [if_neg (ne_true h1)] at hM
  refine spQA h1 ?_
  have nh1 := nzQ h1
  try have hr3 := mpQ nh1
  have hM0 := hM; clear hM; obtain ⟨f4, d4, hf4, hd4, hM⟩ := iter_opn hM0; clear hM0
  refine ct_loopW (fun n S => ∃ p : Int × List S_api_Spend, S = (⟨[(1, .fn 36 []), (6, .own 1), (15, .sl none 4 true (i_.L.map e_api_Item)), (16, .int .i64 (i_.L.length : Int)), (17, .int .i64 p.1)], [(1, .own 59 80 true none (p.2.map e_api_Spend))], 2⟩ : St) ∧ ((0 ≤ p.1) ∧ (p.1 ≤ (i_.L.length : Int)) ∧ (((p.2).length : Int) ≤ p.1)) ∧ ((i_.L.length : Int) - p.1).toNat < n ∧ iter n f4 d4 p = r) (((i_.L.length : Int) - 0).toNat + 1) _ _ (weak_nil 6 59 rfl (by decide)) sbQ sbQ ⟨(0, ([] : List S_api_Spend)), rfl, ⟨omQ, omQ, omQ⟩, (Nat.lt_succ_self _), hM⟩ ?_
  clear hM
  rintro n4 S ⟨p4, rfl, hfa4, hm4, hM⟩
  have hM0 := hM; clear hM; obtain ⟨ag4, hag4, hM⟩ := iter_step hM0 (by omega) hf4; clear hM0
  replace hfa4 := nzQ hfa4
  replace hm4 := nzQ hm4
  have ha4 : addI .i64 p4.1 1 = p4.1 + 1 := add_one omQ omQ
  refine spQA ha4 ?_
  have hF := (And.intro h1 ha4)
  exact auQ
set_option maxHeartbeats 2000000 in
set_option maxRecDepth 100000 in
instance payment_readChain_ok   (i_ : S_api_Item)  : CM En (payment_readChain i_) 38 [.agg [.int .i64 i_.Kind, .int .i64 i_.N, .sl none 1 false (i_.B.map (V.int .u8)), .sl none 4 true (i_.L.map e_api_Item)]] (fun y => .tup [(e_api_Chain y.1), .bool y.2]) (fun _ => []) := by
 refine cmQ fun r hM => ?_
 rw [payment_readChain.eq_1] at hM
 refine enterV En_ok En_mo noJ Try.func38 rfl Try.ntmps38 (by kernel_rfl) fun hw => ct_start ?_
 refine spQ ?_
 replace hw := nzQ hw
 have hF := trueQ
 exact auQ
instance (priority := 1005) : DRD 10 87 14 [72, 73, 74, 75, 76, 77, 78, 79, 80, 81, 82, 83, 84, 85] [] ([[], [0], [0, 1], [], [3], [3, 4], [], [], [7], [7, 8], [7, 8, 9], [7, 8, 9, 10], [], [6, 7, 8, 9, 10, 11, 12]] ++ [List.range 14, List.range 15, List.range 16]) [] := ⟨trivial⟩
set_option maxHeartbeats 2000000 in
set_option maxRecDepth 100000 in
instance escrow_FromItem_ok   (i_ : S_api_Item)  : CM En (escrow_FromItem i_) 67 [.agg [.int .i64 i_.Kind, .int .i64 i_.N, .sl none 1 false (i_.B.map (V.int .u8)), .sl none 4 true (i_.L.map e_api_Item)]] (fun y => .tup [(e_api_Escrow y.1), .int .i64 y.2]) (fun _ => []) := by
 refine cmQ fun r hM => ?_
 rw [escrow_FromItem.eq_1] at hM
 refine enterV En_ok En_mo noJ Try.func67 rfl Try.ntmps67 (by kernel_rfl) fun hw => ct_start ?_
 refine spQ ?_
 replace hw := nzQ hw
 have hF := trueQ
 exact auQ
set_option maxHeartbeats 2000000 in
set_option maxRecDepth 100000 in
instance payment_readEscrow_ok   (i_ : S_api_Item)  : CM En (payment_readEscrow i_) 40 [.agg [.int .i64 i_.Kind, .int .i64 i_.N, .sl none 1 false (i_.B.map (V.int .u8)), .sl none 4 true (i_.L.map e_api_Item)]] (fun y => .tup [(e_api_Escrow y.1), .bool y.2]) (fun _ => []) := by
 refine cmQ fun r hM => ?_
 rw [payment_readEscrow.eq_1] at hM
 refine enterV En_ok En_mo noJ Try.func40 rfl Try.ntmps40 (by kernel_rfl) fun hw => ct_start ?_
 refine spQ ?_
 replace hw := nzQ hw
 have hF := trueQ
 exact auQ
set_option maxHeartbeats 2000000 in
set_option maxRecDepth 100000 in
instance payment_things_api_Chain_at_payment_readChain_ok   (i_ : S_api_Item)  : CM En (payment_things_api_Chain_at_payment_readChain i_) 37 [.agg [.int .i64 i_.Kind, .int .i64 i_.N, .sl none 1 false (i_.B.map (V.int .u8)), .sl none 4 true (i_.L.map e_api_Item)], .fn 38 []] (fun y => .tup [.sl none 81 true (y.1.map e_api_Chain), .bool y.2]) (fun _ => []) := by
 refine cmQ fun r hM => ?_
 rw [payment_things_api_Chain_at_payment_readChain.eq_1] at hM
 refine enterV En_ok En_mo noJ Try.func37 rfl Try.ntmps37 (by kernel_rfl) fun hw => ct_start ?_
 refine spQ ?_
 replace hw := nzQ hw
 refine condC_intro (fun h1 => ?_) (fun h1 => ?_)
 ·rw [if_pos h1] at hM
  refine spQA h1 ?_
  have nh1 := nzQ h1
  try have hr2 := mpQ nh1
  subst hM
  exact retC_view (lfQA h1)
 ·rw [if_neg (ne_true h1)] at hM
  refine spQA h1 ?_
  have nh1 := nzQ h1
  try have hr3 := mpQ nh1
  have hM0 := hM; clear hM; obtain ⟨f4, d4, hf4, hd4, hM⟩ := iter_opn hM0; clear hM0
  refine ct_loopW (fun n S => ∃ p : Int × List S_api_Chain, S = (⟨[(1, .fn 38 []), (6, .own 1), (15, .sl none 4 true (i_.L.map e_api_Item)), (16, .int .i64 (i_.L.length : Int)), (17, .int .i64 p.1)], [(1, .own 74 81 true none (p.2.map e_api_Chain))], 2⟩ : St) ∧ ((0 ≤ p.1) ∧ (p.1 ≤ (i_.L.length : Int)) ∧ (((p.2).length : Int) ≤ p.1)) ∧ ((i_.L.length : Int) - p.1).toNat < n ∧ iter n f4 d4 p = r) (((i_.L.length : Int) - 0).toNat + 1) _ _ (weak_nil 6 74 rfl (by decide)) sbQ sbQ ⟨(0, ([] : List S_api_Chain)), rfl, ⟨omQ, omQ, omQ⟩, (Nat.lt_succ_self _), hM⟩ ?_
  clear hM
  rintro n4 S ⟨p4, rfl, hfa4, hm4, hM⟩
  have hM0 := hM; clear hM; obtain ⟨ag4, hag4, hM⟩ := iter_step hM0 (by omega) hf4; clear hM0
  replace hfa4 := nzQ hfa4
  replace hm4 := nzQ hm4
  have ha4 : addI .i64 p4.1 1 = p4.1 + 1 := add_one omQ omQ
  refine spQA ha4 ?_
  have hF := (And.intro h1 ha4)
  exact auQ
set_option maxHeartbeats 2000000 in
set_option maxRecDepth 100000 in
instance payment_things_api_Escrow_at_payment_readEscrow_ok   (i_ : S_api_Item)  : CM En (payment_things_api_Escrow_at_payment_readEscrow i_) 39 [.agg [.int .i64 i_.Kind, .int .i64 i_.N, .sl none 1 false (i_.B.map (V.int .u8)), .sl none 4 true (i_.L.map e_api_Item)], .fn 40 []] (fun y => .tup [.sl none 5 true (y.1.map e_api_Escrow), .bool y.2]) (fun _ => []) := by
 refine cmQ fun r hM => ?_
 rw [payment_things_api_Escrow_at_payment_readEscrow.eq_1] at hM
 refine enterV En_ok En_mo noJ Try.func39 rfl Try.ntmps39 (by kernel_rfl) fun hw => ct_start ?_
 refine spQ ?_
 replace hw := nzQ hw
 refine condC_intro (fun h1 => ?_) (fun h1 => ?_)
 ·rw [if_pos h1] at hM
  refine spQA h1 ?_
  have nh1 := nzQ h1
  try have hr2 := mpQ nh1
  subst hM
  exact retC_view (lfQA h1)
 ·rw [if_neg (ne_true h1)] at hM
  refine spQA h1 ?_
  have nh1 := nzQ h1
  try have hr3 := mpQ nh1
  have hM0 := hM; clear hM; obtain ⟨f4, d4, hf4, hd4, hM⟩ := iter_opn hM0; clear hM0
  refine ct_loopW (fun n S => ∃ p : Int × List S_api_Escrow, S = (⟨[(1, .fn 40 []), (6, .own 1), (15, .sl none 4 true (i_.L.map e_api_Item)), (16, .int .i64 (i_.L.length : Int)), (17, .int .i64 p.1)], [(1, .own 81 5 true none (p.2.map e_api_Escrow))], 2⟩ : St) ∧ ((0 ≤ p.1) ∧ (p.1 ≤ (i_.L.length : Int)) ∧ (((p.2).length : Int) ≤ p.1)) ∧ ((i_.L.length : Int) - p.1).toNat < n ∧ iter n f4 d4 p = r) (((i_.L.length : Int) - 0).toNat + 1) _ _ (weak_nil 6 81 rfl (by decide)) sbQ sbQ ⟨(0, ([] : List S_api_Escrow)), rfl, ⟨omQ, omQ, omQ⟩, (Nat.lt_succ_self _), hM⟩ ?_
  clear hM
  rintro n4 S ⟨p4, rfl, hfa4, hm4, hM⟩
  have hM0 := hM; clear hM; obtain ⟨ag4, hag4, hM⟩ := iter_step hM0 (by omega) hf4; clear hM0
  replace hfa4 := nzQ hfa4
  replace hm4 := nzQ hm4
  have ha4 : addI .i64 p4.1 1 = p4.1 + 1 := add_one omQ omQ
  refine spQA ha4 ?_
  have hF := (And.intro h1 ha4)
  exact auQ
set_option maxHeartbeats 2000000 in
set_option maxRecDepth 100000 in
instance payment_Decode_ok   (x_ : (List Int))  : CM En (payment_Decode x_) 8 [.sl none 1 false (x_.map (V.int .u8))] (fun y => .tup [.agg [.int .i64 y.1.Number, .sl none 80 true (y.1.Spends.map e_api_Spend), .sl none 81 true (y.1.Chains.map e_api_Chain), .sl none 5 true (y.1.Escrow.map e_api_Escrow)], .int .i64 y.2]) (fun _ => []) := by
 refine cmQ fun r hM => ?_
 rw [payment_Decode.eq_1] at hM
 refine enterV En_ok En_mo noJ Try.func8 rfl Try.ntmps8 (by kernel_rfl) fun hw => ct_start ?_
 refine spQ ?_
 replace hw := nzQ hw
 have hF := trueQ
 exact auQ
instance (priority := 1006) : DRD 6 38 10 [27, 28, 29, 30, 31, 32, 33, 34, 35, 36] [] ([[], [0], [], [0, 1, 2], [0, 1, 2, 3], [], [5], [], [5, 6, 7], [5, 6, 7, 8]] ++ [List.range 10]) [] := ⟨trivial⟩
set_option maxHeartbeats 2000000 in
set_option maxRecDepth 100000 in
instance specieref27_Same_ok   (p_ : S_api_Path) (q : S_api_Path)  : CM En (specieref27_Same p_ q) 52 [.agg [.int .i64 p_.Index, .sl none 32 true (p_.L.map e_arr45)], .agg [.int .i64 q.Index, .sl none 32 true (q.L.map e_arr45)]] (fun y => .bool y) (fun _ => []) := by
 refine cmQ fun r hM => ?_
 rw [specieref27_Same.eq_1] at hM
 refine enterV En_ok En_mo noJ Try.func52 rfl Try.ntmps52 (by kernel_rfl) fun hw => ct_start ?_
 refine spQ ?_
 replace hw := nzQ hw
 refine guardC_f (fun h1 => ?_) (fun h1 => ?_)
 ·rw [if_neg (ne_true h1)] at hM
  refine spQA h1 ?_
  have nh1 := nzQ h1
  try have hr2 := mpQ nh1
  refine condC_intro (fun h3 => ?_) (fun h3 => ?_)
  ·rw [if_pos h3] at hM
   refine spQA h3 ?_
   have nh3 := nzQ h3
   try have hr4 := mpQ nh3
   subst hM
   exact retC_view (lfQA (And.intro h1 h3))
  ·rw [if_neg (ne_true h3)] at hM
   refine spQA h3 ?_
   have nh3 := nzQ h3
   try have hr5 := mpQ nh3
   have hM0 := hM; clear hM; obtain ⟨f6, d6, hf6, hd6, hM⟩ := iter_opn hM0; clear hM0
   refine ct_loop (fun n S => ∃ p : Int, S = (⟨[(2, .ptr 0 0), (3, .ptr 1 0), (5, .int .i64 p)], [(0, .var 2 true (.agg [.int .i64 p_.Index, .sl none 32 true (p_.L.map e_arr45)])), (1, .var 2 true (.agg [.int .i64 q.Index, .sl none 32 true (q.L.map e_arr45)]))], 2⟩ : St) ∧ ((0 ≤ p) ∧ (p ≤ (p_.L.length : Int))) ∧ ((p_.L.length : Int) - p).toNat < n ∧ iter n f6 d6 p = r) (((p_.L.length : Int) - 0).toNat + 1) _ sbQ sbQ ⟨0, rfl, ⟨omQ, omQ⟩, (Nat.lt_succ_self _), hM⟩ ?_
   clear hM
   rintro n6 S ⟨p6, rfl, hfa6, hm6, hM⟩
   have hM0 := hM; clear hM; obtain ⟨ag6, hag6, hM⟩ := iter_step hM0 (by omega) hf6; clear hM0
   replace hfa6 := nzQ hfa6
   replace hm6 := nzQ hm6
   have ha6 : addI .i64 p6 1 = p6 + 1 := add_one omQ omQ
   refine spQA ha6 ?_
   have hF := (And.intro h1 (And.intro h3 ha6))
   exact auQ
 ·rw [if_pos h1] at hM
  refine spQA h1 ?_
  have nh1 := nzQ h1
  try have hr15 := mpQ nh1
  subst hM
  exact retC_view (lfQA h1)
instance (priority := 1007) : DRD 6 60 10 [49, 50, 51, 52, 53, 54, 55, 56, 57, 58] [] ([[], [0], [], [0, 1, 2], [0, 1, 2, 3], [], [5], [], [5, 6, 7], [5, 6, 7, 8]] ++ [List.range 10]) [] := ⟨trivial⟩
set_option maxHeartbeats 2000000 in
set_option maxRecDepth 100000 in
instance specieref32_Same_ok   (a_ : S_api_Spend) (b : S_api_Spend)  : CM En (specieref32_Same a_ b) 17 [(e_api_Spend a_), .agg (.int .i64 b.Coin.Bank :: .int .i64 b.Coin.Epoch :: .int .i64 b.Coin.Denom :: .int .i64 b.Coin.Depth :: .int .i64 b.Coin.A :: .int .u8 (gt b.Coin.Root 0) :: .int .u8 (gt b.Coin.Root 1) :: .int .u8 (gt b.Coin.Root 2) :: .int .u8 (gt b.Coin.Root 3) :: .int .u8 (gt b.Coin.Root 4) :: .int .u8 (gt b.Coin.Root 5) :: .int .u8 (gt b.Coin.Root 6) :: .int .u8 (gt b.Coin.Root 7) :: .int .u8 (gt b.Coin.Root 8) :: .int .u8 (gt b.Coin.Root 9) :: .int .u8 (gt b.Coin.Root 10) :: .int .u8 (gt b.Coin.Root 11) :: .int .u8 (gt b.Coin.Root 12) :: .int .u8 (gt b.Coin.Root 13) :: .int .u8 (gt b.Coin.Root 14) :: .int .u8 (gt b.Coin.Root 15) :: .int .u8 (gt b.Coin.Root 16) :: .int .u8 (gt b.Coin.Root 17) :: .int .u8 (gt b.Coin.Root 18) :: .int .u8 (gt b.Coin.Root 19) :: .int .u8 (gt b.Coin.Root 20) :: .int .u8 (gt b.Coin.Root 21) :: .int .u8 (gt b.Coin.Root 22) :: .int .u8 (gt b.Coin.Root 23) :: .int .u8 (gt b.Coin.Root 24) :: .int .u8 (gt b.Coin.Root 25) :: .int .u8 (gt b.Coin.Root 26) :: .int .u8 (gt b.Coin.Root 27) :: .int .u8 (gt b.Coin.Root 28) :: .int .u8 (gt b.Coin.Root 29) :: .int .u8 (gt b.Coin.Root 30) :: .int .u8 (gt b.Coin.Root 31) :: .int .i64 b.Coin.Sign.Z :: .int .i64 b.Coin.Sign.A :: .int .i64 b.Coin.Sign.B :: .int .i64 b.Coin.Sign.R :: .int .i64 b.Node.Level :: .int .i64 b.Node.Index :: .int .u8 (gt b.Context.Payee 0) :: .int .u8 (gt b.Context.Payee 1) :: .int .u8 (gt b.Context.Payee 2) :: .int .u8 (gt b.Context.Payee 3) :: .int .u8 (gt b.Context.Payee 4) :: .int .u8 (gt b.Context.Payee 5) :: .int .u8 (gt b.Context.Payee 6) :: .int .u8 (gt b.Context.Payee 7) :: .int .u8 (gt b.Context.Payee 8) :: .int .u8 (gt b.Context.Payee 9) :: .int .u8 (gt b.Context.Payee 10) :: .int .u8 (gt b.Context.Payee 11) :: .int .u8 (gt b.Context.Payee 12) :: .int .u8 (gt b.Context.Payee 13) :: .int .u8 (gt b.Context.Payee 14) :: .int .u8 (gt b.Context.Payee 15) :: .int .u8 (gt b.Context.Payee 16) :: .int .u8 (gt b.Context.Payee 17) :: .int .u8 (gt b.Context.Payee 18) :: .int .u8 (gt b.Context.Payee 19) :: .int .u8 (gt b.Context.Payee 20) :: .int .u8 (gt b.Context.Payee 21) :: .int .u8 (gt b.Context.Payee 22) :: .int .u8 (gt b.Context.Payee 23) :: .int .u8 (gt b.Context.Payee 24) :: .int .u8 (gt b.Context.Payee 25) :: .int .u8 (gt b.Context.Payee 26) :: .int .u8 (gt b.Context.Payee 27) :: .int .u8 (gt b.Context.Payee 28) :: .int .u8 (gt b.Context.Payee 29) :: .int .u8 (gt b.Context.Payee 30) :: .int .u8 (gt b.Context.Payee 31) :: .int .i64 b.Context.Time :: .int .i64 b.Context.Number :: .sl none 3 true (b.Leaves.map e_api_Leaf) :: .int .i64 b.Path.Index :: .sl none 32 true (b.Path.L.map e_arr45) :: [])] (fun y => .bool y) (fun _ => []) := by
 refine cmQ fun r hM => ?_
 rw [specieref32_Same.eq_1] at hM
 refine enterV En_ok En_mo noJ Try.func17 rfl Try.ntmps17 (by kernel_rfl) fun hw => ct_start ?_
 refine spQ ?_
 replace hw := nzQ hw
 refine guardC_f (fun h1 => ?_) (fun h1 => ?_)
 ·have kh1 : (!(q_api_Coin (a_.Coin) (b.Coin))) = false := h1
  rw [if_neg (ne_true kh1)] at hM
  refine spQA h1 ?_
  have nh1 := nzQ kh1
  try have hr2 := mpQ nh1
  refine guardC_f (fun h3 => ?_) (fun h3 => ?_)
  ·have kh3 : (!(q_api_Node (a_.Node) (b.Node))) = false := h3
   rw [if_neg (ne_true kh3)] at hM
   refine spQA h3 ?_
   have nh3 := nzQ kh3
   try have hr4 := mpQ nh3
   refine guardC_f (fun h5 => ?_) (fun h5 => ?_)
   ·have kh5 : (!(q_api_Context (a_.Context) (b.Context))) = false := h5
    rw [if_neg (ne_true kh5)] at hM
    refine spQA h5 ?_
    have nh5 := nzQ kh5
    try have hr6 := mpQ nh5
    refine guardC_f (fun h7 => ?_) (fun h7 => ?_)
    ·rw [if_neg (ne_true h7)] at hM
     refine spQA h7 ?_
     have nh7 := nzQ h7
     try have hr8 := mpQ nh7
     have hM0 := hM; clear hM; obtain ⟨x9, hx10, hM⟩ := letk_opn hM0; clear hM0
     have hcx9 := cmU hx10
     refine callC_give hcx9 clQ clQ (fun hw11 => ?_)
     replace hw11 := nzQ hw11
     refine spQ ?_
     refine condC_intro (fun h12 => ?_) (fun h12 => ?_)
     ·rw [if_pos h12] at hM
      refine spQA h12 ?_
      have nh12 := nzQ h12
      try have hr13 := mpQ nh12
      subst hM
      exact retC_view (lfQA (And.intro h1 (And.intro h3 (And.intro h5 (And.intro h7 h12)))))
     ·rw [if_neg (ne_true h12)] at hM
      refine spQA h12 ?_
      have nh12 := nzQ h12
      try have hr14 := mpQ nh12
      have hM0 := hM; clear hM; obtain ⟨f15, d15, hf15, hd15, hM⟩ := iter_opn hM0; clear hM0
      refine ct_loop (fun n S => ∃ p : Int, S = (⟨[(2, .ptr 0 0), (3, .ptr 1 0), (5, .int .i64 p)], [(0, .var 80 true ((e_api_Spend a_))), (1, .var 80 true (.agg (.int .i64 b.Coin.Bank :: .int .i64 b.Coin.Epoch :: .int .i64 b.Coin.Denom :: .int .i64 b.Coin.Depth :: .int .i64 b.Coin.A :: .int .u8 (gt b.Coin.Root 0) :: .int .u8 (gt b.Coin.Root 1) :: .int .u8 (gt b.Coin.Root 2) :: .int .u8 (gt b.Coin.Root 3) :: .int .u8 (gt b.Coin.Root 4) :: .int .u8 (gt b.Coin.Root 5) :: .int .u8 (gt b.Coin.Root 6) :: .int .u8 (gt b.Coin.Root 7) :: .int .u8 (gt b.Coin.Root 8) :: .int .u8 (gt b.Coin.Root 9) :: .int .u8 (gt b.Coin.Root 10) :: .int .u8 (gt b.Coin.Root 11) :: .int .u8 (gt b.Coin.Root 12) :: .int .u8 (gt b.Coin.Root 13) :: .int .u8 (gt b.Coin.Root 14) :: .int .u8 (gt b.Coin.Root 15) :: .int .u8 (gt b.Coin.Root 16) :: .int .u8 (gt b.Coin.Root 17) :: .int .u8 (gt b.Coin.Root 18) :: .int .u8 (gt b.Coin.Root 19) :: .int .u8 (gt b.Coin.Root 20) :: .int .u8 (gt b.Coin.Root 21) :: .int .u8 (gt b.Coin.Root 22) :: .int .u8 (gt b.Coin.Root 23) :: .int .u8 (gt b.Coin.Root 24) :: .int .u8 (gt b.Coin.Root 25) :: .int .u8 (gt b.Coin.Root 26) :: .int .u8 (gt b.Coin.Root 27) :: .int .u8 (gt b.Coin.Root 28) :: .int .u8 (gt b.Coin.Root 29) :: .int .u8 (gt b.Coin.Root 30) :: .int .u8 (gt b.Coin.Root 31) :: .int .i64 b.Coin.Sign.Z :: .int .i64 b.Coin.Sign.A :: .int .i64 b.Coin.Sign.B :: .int .i64 b.Coin.Sign.R :: .int .i64 b.Node.Level :: .int .i64 b.Node.Index :: .int .u8 (gt b.Context.Payee 0) :: .int .u8 (gt b.Context.Payee 1) :: .int .u8 (gt b.Context.Payee 2) :: .int .u8 (gt b.Context.Payee 3) :: .int .u8 (gt b.Context.Payee 4) :: .int .u8 (gt b.Context.Payee 5) :: .int .u8 (gt b.Context.Payee 6) :: .int .u8 (gt b.Context.Payee 7) :: .int .u8 (gt b.Context.Payee 8) :: .int .u8 (gt b.Context.Payee 9) :: .int .u8 (gt b.Context.Payee 10) :: .int .u8 (gt b.Context.Payee 11) :: .int .u8 (gt b.Context.Payee 12) :: .int .u8 (gt b.Context.Payee 13) :: .int .u8 (gt b.Context.Payee 14) :: .int .u8 (gt b.Context.Payee 15) :: .int .u8 (gt b.Context.Payee 16) :: .int .u8 (gt b.Context.Payee 17) :: .int .u8 (gt b.Context.Payee 18) :: .int .u8 (gt b.Context.Payee 19) :: .int .u8 (gt b.Context.Payee 20) :: .int .u8 (gt b.Context.Payee 21) :: .int .u8 (gt b.Context.Payee 22) :: .int .u8 (gt b.Context.Payee 23) :: .int .u8 (gt b.Context.Payee 24) :: .int .u8 (gt b.Context.Payee 25) :: .int .u8 (gt b.Context.Payee 26) :: .int .u8 (gt b.Context.Payee 27) :: .int .u8 (gt b.Context.Payee 28) :: .int .u8 (gt b.Context.Payee 29) :: .int .u8 (gt b.Context.Payee 30) :: .int .u8 (gt b.Context.Payee 31) :: .int .i64 b.Context.Time :: .int .i64 b.Context.Number :: .sl none 3 true (b.Leaves.map e_api_Leaf) :: .int .i64 b.Path.Index :: .sl none 32 true (b.Path.L.map e_arr45) :: [])))], 2⟩ : St) ∧ ((0 ≤ p) ∧ (p ≤ (a_.Leaves.length : Int))) ∧ ((a_.Leaves.length : Int) - p).toNat < n ∧ iter n f15 d15 p = r) (((a_.Leaves.length : Int) - 0).toNat + 1) _ sbQ sbQ ⟨0, rfl, ⟨omQ, omQ⟩, (Nat.lt_succ_self _), hM⟩ ?_
      clear hM
      rintro n15 S ⟨p15, rfl, hfa15, hm15, hM⟩
      have hM0 := hM; clear hM; obtain ⟨ag15, hag15, hM⟩ := iter_step hM0 (by omega) hf15; clear hM0
      replace hfa15 := nzQ hfa15
      replace hm15 := nzQ hm15
      have ha15 : addI .i64 p15 1 = p15 + 1 := add_one omQ omQ
      refine spQA ha15 ?_
      have hF := (And.intro kh1 (And.intro kh3 (And.intro kh5 (And.intro h7 (And.intro h12 ha15)))))
      exact auQ
    ·rw [if_pos h7] at hM
     refine spQA h7 ?_
     have nh7 := nzQ h7
     try have hr24 := mpQ nh7
     subst hM
     exact retC_view (lfQA (And.intro h1 (And.intro h3 (And.intro h5 h7))))
   ·have kh5 : (!(q_api_Context (a_.Context) (b.Context))) = true := h5
    rw [if_pos kh5] at hM
    refine spQA h5 ?_
    have nh5 := nzQ kh5
    try have hr25 := mpQ nh5
    subst hM
    exact retC_view (lfQA (And.intro h1 (And.intro h3 h5)))
  ·have kh3 : (!(q_api_Node (a_.Node) (b.Node))) = true := h3
   rw [if_pos kh3] at hM
   refine spQA h3 ?_
   have nh3 := nzQ kh3
   try have hr26 := mpQ nh3
   subst hM
   exact retC_view (lfQA (And.intro h1 h3))
 ·have kh1 : (!(q_api_Coin (a_.Coin) (b.Coin))) = true := h1
  rw [if_pos kh1] at hM
  refine spQA h1 ?_
  have nh1 := nzQ kh1
  try have hr27 := mpQ nh1
  subst hM
  exact retC_view (lfQA h1)
set_option maxHeartbeats 2000000 in
set_option maxRecDepth 100000 in
theorem specieref35_Spends_ok   (h_ : S_api_Chain) (hp0 : h_.L.length ≤ 1073741823) : CM En (specieref35_Spends h_) 68 [(e_api_Chain h_)] (fun y => .sl none 80 true (y.map e_api_Spend)) (fun _ => []) := by
 refine cmQ fun r hM => ?_
 rw [specieref35_Spends.eq_1] at hM
 refine enterV En_ok En_mo noJ Try.func68 rfl Try.ntmps68 (by kernel_rfl) fun hw => ct_start ?_
 refine spQ ?_
 replace hw := nzQ hw
 have hF := trueQ
 exact auQ
instance (priority := 1008) : DRD 7 33 8 [23, 24, 25, 26, 27, 28, 29, 30] [] ([[], [], [0, 1], [0, 1, 2], [], [], [4, 5], [4, 5, 6]] ++ [List.range 8, List.range 9]) [] := ⟨trivial⟩
set_option maxHeartbeats 2000000 in
set_option maxRecDepth 100000 in
theorem specieref35_Same_ok   (x_ : S_api_Chain) (y : S_api_Chain) (hp0 : x_.L.length ≤ 1073741823) (hp1 : y.L.length ≤ 1073741823) : CM En (specieref35_Same x_ y) 41 [(e_api_Chain x_), (e_api_Chain y)] (fun y => .bool y) (fun _ => []) := by
 refine cmQ fun r hM => ?_
 rw [specieref35_Same.eq_1] at hM
 refine enterV En_ok En_mo noJ Try.func41 rfl Try.ntmps41 (by kernel_rfl) fun hw => ct_start ?_
 refine spQ ?_
 replace hw := nzQ hw
 refine ct_draw 33 3 [8, 9, 10] [] ([[], [0], []] ++ [List.range 3, List.range 4, List.range 5]) [] (by kernel_rfl) (by exact alQ) ?_
 refine spQ ?_
 have hM0 := hM; clear hM; obtain ⟨x1, hx2, hM⟩ := letk_opn hM0; clear hM0
 have hcx1 := cmH hx2 (specieref35_Spends_ok  x_ (by (simp only [decide_eq_true_eq, decide_eq_false_iff_not, Bool.and_eq_true, Bool.or_eq_true, Bool.not_eq_true', Bool.not_eq_false', beq_iff_eq, bne_iff_ne, beq_eq_false_iff_ne, bne_eq_false_iff_eq, ne_eq, Int.not_lt, Int.not_le, gt_iff_lt, ge_iff_le, List.length_map, wfL, wfV, and_true, true_and, LEN_eq, rng_i64, rng_u64, rng_u32, rng_i32, sl_len, st_len, List.length_append, List.length_cons, List.length_nil, List.length_replicate, rep_len, rowV_len, spl_len, cutN_len, arrN_len, nat8_len, remI_nn] at *; omega)))
 refine hcallC_give hcx1 clQ clQ ?_
 refine spQ ?_
 have hM0 := hM; clear hM; obtain ⟨x3, hx4, hM⟩ := letk_opn hM0; clear hM0
 have hcx3 := cmH hx4 (specieref35_Spends_ok  y (by (simp only [decide_eq_true_eq, decide_eq_false_iff_not, Bool.and_eq_true, Bool.or_eq_true, Bool.not_eq_true', Bool.not_eq_false', beq_iff_eq, bne_iff_ne, beq_eq_false_iff_ne, bne_eq_false_iff_eq, ne_eq, Int.not_lt, Int.not_le, gt_iff_lt, ge_iff_le, List.length_map, wfL, wfV, and_true, true_and, LEN_eq, rng_i64, rng_u64, rng_u32, rng_i32, sl_len, st_len, List.length_append, List.length_cons, List.length_nil, List.length_replicate, rep_len, rowV_len, spl_len, cutN_len, arrN_len, nat8_len, remI_nn] at *; omega)))
 refine callC_give hcx3 clQ clQ (fun hw5 => ?_)
 replace hw5 := nzQ hw5
 refine spQ ?_
 refine condC_intro (fun h6 => ?_) (fun h6 => ?_)
 ·rw [if_pos h6] at hM
  refine spQA h6 ?_
  have nh6 := nzQ h6
  try have hr7 := mpQ nh6
  subst hM
  exact retC_view (lfQA h6)
 ·rw [if_neg (ne_true h6)] at hM
  refine spQA h6 ?_
  have nh6 := nzQ h6
  try have hr8 := mpQ nh6
  have hM0 := hM; clear hM; obtain ⟨f9, d9, hf9, hd9, hM⟩ := iter_opn hM0; clear hM0
  refine ct_loop (fun n S => ∃ p : Int, S = (⟨[(5, .sl none 80 true (x1.map e_api_Spend)), (6, .sl none 80 true (x3.map e_api_Spend)), (7, .int .i64 p)], [], 5⟩ : St) ∧ ((0 ≤ p) ∧ (p ≤ (x1.length : Int))) ∧ ((x1.length : Int) - p).toNat < n ∧ iter n f9 d9 p = r) (((x1.length : Int) - 0).toNat + 1) _ sbQ sbQ ⟨0, rfl, ⟨omQ, omQ⟩, (Nat.lt_succ_self _), hM⟩ ?_
  clear hM
  rintro n9 S ⟨p9, rfl, hfa9, hm9, hM⟩
  have hM0 := hM; clear hM; obtain ⟨ag9, hag9, hM⟩ := iter_step hM0 (by omega) hf9; clear hM0
  replace hfa9 := nzQ hfa9
  replace hm9 := nzQ hm9
  have ha9 : addI .i64 p9 1 = p9 + 1 := add_one omQ omQ
  refine spQA ha9 ?_
  have hF := (And.intro h6 ha9)
  exact auQ
instance (priority := 1009) : DRD 6 26 8 [17, 18, 19, 20, 21, 22, 23, 24] [] ([[], [], [0, 1], [0, 1, 2], [], [], [4, 5], [4, 5, 6]] ++ [List.range 8]) [] := ⟨trivial⟩
set_option maxHeartbeats 2000000 in
set_option maxRecDepth 100000 in
instance specieref17_Same_ok   (a_ : (List Int)) (b : (List Int))  : CM En (specieref17_Same a_ b) 92 [.sl none 1 false (a_.map (V.int .i64)), .sl none 1 false (b.map (V.int .i64))] (fun y => .bool y) (fun _ => []) := by
 refine cmQ fun r hM => ?_
 rw [specieref17_Same.eq_1] at hM
 refine enterV En_ok En_mo noJ Try.func92 rfl Try.ntmps92 (by kernel_rfl) fun hw => ct_start ?_
 refine spQ ?_
 replace hw := nzQ hw
 refine condC_intro (fun h1 => ?_) (fun h1 => ?_)
 ·rw [if_pos h1] at hM
  refine spQA h1 ?_
  have nh1 := nzQ h1
  try have hr2 := mpQ nh1
  subst hM
  exact retC_view (lfQA h1)
 ·rw [if_neg (ne_true h1)] at hM
  refine spQA h1 ?_
  have nh1 := nzQ h1
  try have hr3 := mpQ nh1
  have hM0 := hM; clear hM; obtain ⟨f4, d4, hf4, hd4, hM⟩ := iter_opn hM0; clear hM0
  refine ct_loop (fun n S => ∃ p : Int, S = (⟨[(0, .sl none 1 false (a_.map (V.int .i64))), (1, .sl none 1 false (b.map (V.int .i64))), (5, .int .i64 p)], [], 0⟩ : St) ∧ ((0 ≤ p) ∧ (p ≤ (a_.length : Int))) ∧ ((a_.length : Int) - p).toNat < n ∧ iter n f4 d4 p = r) (((a_.length : Int) - 0).toNat + 1) _ sbQ sbQ ⟨0, rfl, ⟨omQ, omQ⟩, (Nat.lt_succ_self _), hM⟩ ?_
  clear hM
  rintro n4 S ⟨p4, rfl, hfa4, hm4, hM⟩
  have hM0 := hM; clear hM; obtain ⟨ag4, hag4, hM⟩ := iter_step hM0 (by omega) hf4; clear hM0
  replace hfa4 := nzQ hfa4
  replace hm4 := nzQ hm4
  have ha4 : addI .i64 p4 1 = p4 + 1 := add_one omQ omQ
  refine spQA ha4 ?_
  have hF := (And.intro h1 ha4)
  exact auQ
set_option maxHeartbeats 2000000 in
set_option maxRecDepth 100000 in
instance specieref17_SameProof_ok   (a_ : S_api_Proof) (b : S_api_Proof)  : CM En (specieref17_SameProof a_ b) 69 [.agg [.sl none 1 false (a_.A.map (V.int .i64)), .int .i64 a_.C, .sl none 1 false (a_.Z.map (V.int .i64))], .agg [.sl none 1 false (b.A.map (V.int .i64)), .int .i64 b.C, .sl none 1 false (b.Z.map (V.int .i64))]] (fun y => .bool y) (fun _ => []) := by
 refine cmQ fun r hM => ?_
 rw [specieref17_SameProof.eq_1] at hM
 refine enterV En_ok En_mo noJ Try.func69 rfl Try.ntmps69 (by kernel_rfl) fun hw => ct_start ?_
 refine spQ ?_
 replace hw := nzQ hw
 have hF := trueQ
 exact auQ
set_option maxHeartbeats 2000000 in
set_option maxRecDepth 100000 in
instance specieref36_Same_ok   (a_ : S_api_Escrow) (b : S_api_Escrow)  : CM En (specieref36_Same a_ b) 42 [(e_api_Escrow a_), (e_api_Escrow b)] (fun y => .bool y) (fun _ => []) := by
 refine cmQ fun r hM => ?_
 rw [specieref36_Same.eq_1] at hM
 refine enterV En_ok En_mo noJ Try.func42 rfl Try.ntmps42 (by kernel_rfl) fun hw => ct_start ?_
 refine spQ ?_
 replace hw := nzQ hw
 have hF := trueQ
 exact auQ
instance (priority := 1010) : DRD 6 97 10 [47, 48, 49, 50, 51, 52, 53, 54, 55, 56] [] ([[], [0], [], [0, 1, 2], [0, 1, 2, 3], [], [5], [], [5, 6, 7], [5, 6, 7, 8]] ++ [List.range 10, List.range 11]) [] := ⟨trivial⟩
instance (priority := 1011) : DRD 16 97 10 [85, 86, 87, 88, 89, 90, 91, 92, 93, 94] [] ([[], [0], [], [0, 1, 2], [0, 1, 2, 3], [], [5], [], [5, 6, 7], [5, 6, 7, 8]] ++ [List.range 10, List.range 11]) [] := ⟨trivial⟩
set_option maxHeartbeats 2000000 in
set_option maxRecDepth 100000 in
theorem specieref38_Same_ok   (p_ : S_api_Payment) (q : S_api_Payment) (hp0 : okChains p_) (hp1 : okChains q) : CM En (specieref38_Same p_ q) 9 [.agg [.int .i64 p_.Number, .sl none 80 true (p_.Spends.map e_api_Spend), .sl none 81 true (p_.Chains.map e_api_Chain), .sl none 5 true (p_.Escrow.map e_api_Escrow)], .agg [.int .i64 q.Number, .sl none 80 true (q.Spends.map e_api_Spend), .sl none 81 true (q.Chains.map e_api_Chain), .sl none 5 true (q.Escrow.map e_api_Escrow)]] (fun y => .bool y) (fun _ => []) := by
 refine cmQ fun r hM => ?_
 rw [specieref38_Same.eq_1] at hM
 refine enterV En_ok En_mo noJ Try.func9 rfl Try.ntmps9 (by kernel_rfl) fun hw => ct_start ?_
 refine spQ ?_
 replace hw := nzQ hw
 refine guardC_f (fun h1 => ?_) (fun h1 => ?_)
 ·rw [if_neg (ne_true h1)] at hM
  refine spQA h1 ?_
  have nh1 := nzQ h1
  try have hr2 := mpQ nh1
  refine guardC_f (fun h3 => ?_) (fun h3 => ?_)
  ·rw [if_neg (ne_true h3)] at hM
   refine spQA h3 ?_
   have nh3 := nzQ h3
   try have hr4 := mpQ nh3
   refine guardC_f (fun h5 => ?_) (fun h5 => ?_)
   ·rw [if_neg (ne_true h5)] at hM
    refine spQA h5 ?_
    have nh5 := nzQ h5
    try have hr6 := mpQ nh5
    refine condC_intro (fun h7 => ?_) (fun h7 => ?_)
    ·rw [if_pos h7] at hM
     refine spQA h7 ?_
     have nh7 := nzQ h7
     try have hr8 := mpQ nh7
     subst hM
     exact retC_view (lfQA (And.intro h1 (And.intro h3 (And.intro h5 h7))))
    ·rw [if_neg (ne_true h7)] at hM
     refine spQA h7 ?_
     have nh7 := nzQ h7
     try have hr9 := mpQ nh7
     have hM0 := hM; clear hM; obtain ⟨f10, d10, hf10, hd10, hM⟩ := iter_opn hM0; clear hM0
     refine ct_loop (fun n S => ∃ p : Int, S = (⟨[(2, .ptr 0 0), (3, .ptr 1 0), (5, .int .i64 p)], [(0, .var 4 true (.agg [.int .i64 p_.Number, .sl none 80 true (p_.Spends.map e_api_Spend), .sl none 81 true (p_.Chains.map e_api_Chain), .sl none 5 true (p_.Escrow.map e_api_Escrow)])), (1, .var 4 true (.agg [.int .i64 q.Number, .sl none 80 true (q.Spends.map e_api_Spend), .sl none 81 true (q.Chains.map e_api_Chain), .sl none 5 true (q.Escrow.map e_api_Escrow)]))], 2⟩ : St) ∧ ((0 ≤ p) ∧ (p ≤ (p_.Spends.length : Int))) ∧ ((p_.Spends.length : Int) - p).toNat < n ∧ iter n f10 d10 p = r) (((p_.Spends.length : Int) - 0).toNat + 1) _ sbQ sbQ ⟨0, rfl, ⟨omQ, omQ⟩, (Nat.lt_succ_self _), hM⟩ ?_
     clear hM
     rintro n10 S ⟨p10, rfl, hfa10, hm10, hM⟩
     have hM0 := hM; clear hM; obtain ⟨ag10, hag10, hM⟩ := iter_step hM0 (by omega) hf10; clear hM0
     replace hfa10 := nzQ hfa10
     replace hm10 := nzQ hm10
     have ha10 : addI .i64 p10 1 = p10 + 1 := add_one omQ omQ
     refine spQA ha10 ?_
     refine condC_intro (fun h11 => ?_) (fun h11 => ?_)
     ·rw [if_pos h11] at hM
      refine spQA (And.intro ha10 h11) ?_
      have nh11 := nzQ h11
      try have hr12 := mpQ nh11
      have hF := (And.intro h1 (And.intro h3 (And.intro h5 (And.intro h7 (And.intro ha10 h11)))))
      exact auQ
     ·rw [if_neg (ne_true h11)] at hM
      refine spQA (And.intro ha10 h11) ?_
      have nh11 := nzQ h11
      try have hr21 := mpQ nh11
      have hM0 := hM; clear hM; obtain ⟨f22, d22, hf22, hd22, hM⟩ := iter_opn hM0; clear hM0
      refine ct_loop (fun n S => ∃ p : Int, S = (⟨[(2, .ptr 0 0), (3, .ptr 1 0), (6, .int .i64 p)], [(0, .var 4 true (.agg [.int .i64 p_.Number, .sl none 80 true (p_.Spends.map e_api_Spend), .sl none 81 true (p_.Chains.map e_api_Chain), .sl none 5 true (p_.Escrow.map e_api_Escrow)])), (1, .var 4 true (.agg [.int .i64 q.Number, .sl none 80 true (q.Spends.map e_api_Spend), .sl none 81 true (q.Chains.map e_api_Chain), .sl none 5 true (q.Escrow.map e_api_Escrow)]))], 2⟩ : St) ∧ ((0 ≤ p) ∧ (p ≤ (p_.Chains.length : Int))) ∧ ((p_.Chains.length : Int) - p).toNat < n ∧ iter n f22 d22 p = r) (((p_.Chains.length : Int) - 0).toNat + 1) _ sbQ sbQ ⟨0, rfl, ⟨omQ, omQ⟩, (Nat.lt_succ_self _), hM⟩ ?_
      clear hM
      rintro n22 S ⟨p22, rfl, hfa22, hm22, hM⟩
      have hM0 := hM; clear hM; obtain ⟨ag22, hag22, hM⟩ := iter_step hM0 (by omega) hf22; clear hM0
      replace hfa22 := nzQ hfa22
      replace hm22 := nzQ hm22
      have ha22 : addI .i64 p22 1 = p22 + 1 := add_one omQ omQ
      refine spQA (And.intro ha10 ha22) ?_
      refine condC_intro (fun h23 => ?_) (fun h23 => ?_)
      ·rw [if_pos h23] at hM
       refine spQA (And.intro ha10 (And.intro ha22 h23)) ?_
       have nh23 := nzQ h23
       try have hr24 := mpQ nh23
       refine ct_draw 97 10 [66, 67, 68, 69, 70, 71, 72, 73, 74, 75] [] ([[], [0], [], [0, 1, 2], [0, 1, 2, 3], [], [5], [], [5, 6, 7], [5, 6, 7, 8]] ++ [List.range 10, List.range 11]) [] (by kernel_rfl) (by exact alQ) ?_
       refine spQA (And.intro ha10 ha22) ?_
       refine hbindC_intro omQ ?_
       have he25 := fun d => elt_mp (l := p_.Chains) (f := e_api_Chain) (i := p22) omQ d
       refine spQA (And.intro ha10 (And.intro ha22 he25)) ?_
       refine hbindC_intro omQ ?_
       have he26 := fun d => elt_mp (l := q.Chains) (f := e_api_Chain) (i := p22) omQ d
       refine spQA (And.intro ha10 (And.intro ha22 (And.intro he25 he26))) ?_
       have hM0 := hM; clear hM; obtain ⟨x27, hx28, hM⟩ := letk_opn hM0; clear hM0
       have hcx27 := cmH hx28 (specieref35_Same_ok  (gt p_.Chains p22) (gt q.Chains p22) (by (first | exact hp0 _ (gt_mem (by omega)) | exact hp1 _ (gt_mem (by omega)))) (by (first | exact hp0 _ (gt_mem (by omega)) | exact hp1 _ (gt_mem (by omega)))))
       refine callC_give hcx27 (clQA (And.intro ha10 (And.intro ha22 (And.intro he25 he26)))) (clQA (And.intro ha10 (And.intro ha22 (And.intro he25 he26)))) (fun hw29 => ?_)
       replace hw29 := nzQ hw29
       refine spQA (And.intro ha10 (And.intro ha22 (And.intro he25 he26))) ?_
       have hF := (And.intro h1 (And.intro h3 (And.intro h5 (And.intro h7 (And.intro ha10 (And.intro h11 (And.intro ha22 (And.intro h23 (And.intro he25 he26)))))))))
       exact auQ
      ·rw [if_neg (ne_true h23)] at hM
       refine spQA (And.intro ha10 (And.intro ha22 h23)) ?_
       have nh23 := nzQ h23
       try have hr33 := mpQ nh23
       have hM0 := hM; clear hM; obtain ⟨f34, d34, hf34, hd34, hM⟩ := iter_opn hM0; clear hM0
       refine ct_loop (fun n S => ∃ p : Int, S = (⟨[(2, .ptr 0 0), (3, .ptr 1 0), (7, .int .i64 p)], [(0, .var 4 true (.agg [.int .i64 p_.Number, .sl none 80 true (p_.Spends.map e_api_Spend), .sl none 81 true (p_.Chains.map e_api_Chain), .sl none 5 true (p_.Escrow.map e_api_Escrow)])), (1, .var 4 true (.agg [.int .i64 q.Number, .sl none 80 true (q.Spends.map e_api_Spend), .sl none 81 true (q.Chains.map e_api_Chain), .sl none 5 true (q.Escrow.map e_api_Escrow)]))], 2⟩ : St) ∧ ((0 ≤ p) ∧ (p ≤ (p_.Escrow.length : Int))) ∧ ((p_.Escrow.length : Int) - p).toNat < n ∧ iter n f34 d34 p = r) (((p_.Escrow.length : Int) - 0).toNat + 1) _ sbQ sbQ ⟨0, rfl, ⟨omQ, omQ⟩, (Nat.lt_succ_self _), hM⟩ ?_
       clear hM
       rintro n34 S ⟨p34, rfl, hfa34, hm34, hM⟩
       have hM0 := hM; clear hM; obtain ⟨ag34, hag34, hM⟩ := iter_step hM0 (by omega) hf34; clear hM0
       replace hfa34 := nzQ hfa34
       replace hm34 := nzQ hm34
       have ha34 : addI .i64 p34 1 = p34 + 1 := add_one omQ omQ
       refine spQA (And.intro ha10 (And.intro ha22 ha34)) ?_
       have hF := (And.intro h1 (And.intro h3 (And.intro h5 (And.intro h7 (And.intro ha10 (And.intro h11 (And.intro ha22 (And.intro h23 ha34))))))))
       exact auQ
   ·rw [if_pos h5] at hM
    refine spQA h5 ?_
    have nh5 := nzQ h5
    try have hr46 := mpQ nh5
    subst hM
    exact retC_view (lfQA (And.intro h1 (And.intro h3 h5)))
  ·rw [if_pos h3] at hM
   refine spQA h3 ?_
   have nh3 := nzQ h3
   try have hr47 := mpQ nh3
   subst hM
   exact retC_view (lfQA (And.intro h1 h3))
 ·rw [if_pos h1] at hM
  refine spQA h1 ?_
  have nh1 := nzQ h1
  try have hr48 := mpQ nh1
  subst hM
  exact retC_view (lfQA h1)
set_option maxHeartbeats 2000000 in
set_option maxRecDepth 100000 in
instance bytes_Equal_ok   (a_ : (List Int)) (b : (List Int))  : CM En (bytes_Equal a_ b) 10 [.sl none 1 false (a_.map (V.int .u8)), .sl none 1 false (b.map (V.int .u8))] (fun y => .bool y) (fun _ => []) := by
 refine cmQ fun r hM => ?_
 rw [bytes_Equal.eq_1] at hM
 refine enterV En_ok En_mo noJ Try.func10 rfl Try.ntmps10 (by kernel_rfl) fun hw => ct_start ?_
 refine spQ ?_
 replace hw := nzQ hw
 refine bindC_intro (by (exact ⟨allU8_map, omQ⟩)) ?_
 refine spQ ?_
 refine bindC_intro (by (exact ⟨allU8_map, omQ⟩)) ?_
 refine spQ ?_
 subst hM
 exact retC_view lfQ
set_option maxHeartbeats 2000000 in
set_option maxRecDepth 100000 in
instance specieref31_Bytes_ok   (h_ : (List Int))  : CM En (specieref31_Bytes h_) 93 [(e_arr45 h_)] (fun y => .agg [.int .i64 y.Kind, .int .i64 y.N, .sl none 1 false (y.B.map (V.int .u8)), .sl none 4 true (y.L.map e_api_Item)]) (fun _ => []) := by
 refine cmQ fun r hM => ?_
 rw [specieref31_Bytes.eq_1] at hM
 refine enterV En_ok En_mo noJ Try.func93 rfl Try.ntmps93 (by kernel_rfl) fun hw => ct_start ?_
 refine spQ ?_
 replace hw := nzQ hw
 have hM0 := hM; clear hM; obtain ⟨f1, d1, hf1, hd1, hM⟩ := iter_opn hM0; clear hM0
 refine ct_loopW (fun n S => ∃ p : Int × List Int, S = (⟨[(1, .ptr 0 0), (2, .ptr 1 0), (3, .ptr 2 0), (4, .int .i64 p.1)], [(0, .var 32 true ((e_arr45 h_))), (1, .var 4 true (.agg [.int .i64 0, .int .i64 0, .sl (some true) 1 false [], .sl (some true) 4 true []])), (2, .var 4 true (.agg [.int .i64 2, .int .i64 0, .own 3, .sl (some true) 4 true []])), (3, .own 5 1 false none (p.2.map (V.int .u8)))], 4⟩ : St) ∧ ((0 ≤ p.1) ∧ (p.1 ≤ 32) ∧ (((p.2).length : Int) ≤ p.1)) ∧ ((32 : Int) - p.1).toNat < n ∧ iter n f1 d1 p = r) (((32 : Int) - 0).toNat + 1) _ _ (weak_nilV 2 2 5 rfl rfl (by decide)) sbQ sbQ ⟨(0, ([] : List Int)), rfl, ⟨omQ, omQ, omQ⟩, (Nat.lt_succ_self _), hM⟩ ?_
 clear hM
 rintro n1 S ⟨p1, rfl, hfa1, hm1, hM⟩
 have hM0 := hM; clear hM; obtain ⟨ag1, hag1, hM⟩ := iter_step hM0 (by omega) hf1; clear hM0
 replace hfa1 := nzQ hfa1
 replace hm1 := nzQ hm1
 have ha1 : addI .i64 p1.1 1 = p1.1 + 1 := add_one omQ omQ
 refine spQA ha1 ?_
 refine condC_intro (fun h2 => ?_) (fun h2 => ?_)
 ·rw [if_pos h2] at hM
  refine spQA (And.intro ha1 h2) ?_
  have nh2 := nzQ h2
  try have hr3 := mpQ nh2
  refine ct_draw 19 6 [10, 11, 12, 13, 14, 15] [] ([[], [0], [], [2], [2, 3], [2, 3, 4]] ++ [List.range 6, List.range 7, List.range 8]) [] (by kernel_rfl) (by exact alQ) ?_
  refine spQA ha1 ?_
  refine hbindC_intro omQ ?_
  have he4 : ((p1.1).toNat * 1 + 1 ≤ 32) = True := eq_true omQ
  refine spQA (And.intro ha1 he4) ?_
  have he5 := arr_get (f := (V.int .u8)) (l := h_) (n := 32) (i := p1.1) omQ
  simp only [go_sem, rowV_eq, rowV_eq0, List.length_replicate, rep_len, Int.toNat_natCast, ↓reduceIte, Nat.reduceEqDiff, Nat.reduceAdd, Int.reduceAdd, Nat.reduceMul, Nat.reduceLeDiff, Nat.reduceLT, Int.reduceLE, Int.reduceLT, Int.reduceNeg, Int.reduceToNat] at he5
  refine spQA (And.intro ha1 (And.intro he4 he5)) ?_
  have hF := (And.intro ha1 (And.intro h2 (And.intro he4 he5)))
  exact auQ
 ·rw [if_neg (ne_true h2)] at hM
  refine spQA (And.intro ha1 h2) ?_
  have nh2 := nzQ h2
  try have hr6 := mpQ nh2
  subst hM
  exact retC_view (lfQA (And.intro ha1 h2))
instance (priority := 1012) : DRD 5 23 8 [12, 13, 14, 15, 16, 17, 18, 19] [] ([[], [0], [], [], [2, 3], [2, 3, 4], [2, 3, 4, 5], [2, 3, 4, 5, 6]] ++ [List.range 8, List.range 9, List.range 10]) [] := ⟨trivial⟩
set_option maxHeartbeats 2000000 in
set_option maxRecDepth 100000 in
instance specieref31_Ints_ok   (l : (List Int))  : CM En (specieref31_Ints l) 96 [.sl none 1 false (l.map (V.int .i64))] (fun y => .agg [.int .i64 y.Kind, .int .i64 y.N, .sl none 1 false (y.B.map (V.int .u8)), .sl none 4 true (y.L.map e_api_Item)]) (fun _ => []) := by
 refine cmQ fun r hM => ?_
 rw [specieref31_Ints.eq_1] at hM
 refine enterV En_ok En_mo noJ Try.func96 rfl Try.ntmps96 (by kernel_rfl) fun hw => ct_start ?_
 refine spQ ?_
 replace hw := nzQ hw
 have hM0 := hM; clear hM; obtain ⟨f1, d1, hf1, hd1, hM⟩ := iter_opn hM0; clear hM0
 refine ct_loopW (fun n S => ∃ p : Int × List S_api_Item, S = (⟨[(0, .sl none 1 false (l.map (V.int .i64))), (2, .ptr 0 0), (3, .ptr 1 0), (4, .int .i64 p.1)], [(0, .var 4 true (.agg [.int .i64 0, .int .i64 0, .sl (some true) 1 false [], .sl (some true) 4 true []])), (1, .var 4 true (.agg [.int .i64 3, .int .i64 0, .sl (some true) 1 false [], .own 2])), (2, .own 86 4 true none (p.2.map e_api_Item))], 3⟩ : St) ∧ ((0 ≤ p.1) ∧ (p.1 ≤ (l.length : Int)) ∧ (((p.2).length : Int) ≤ p.1)) ∧ ((l.length : Int) - p.1).toNat < n ∧ iter n f1 d1 p = r) (((l.length : Int) - 0).toNat + 1) _ _ (weak_nilV 1 3 86 rfl rfl (by decide)) sbQ sbQ ⟨(0, ([] : List S_api_Item)), rfl, ⟨omQ, omQ, omQ⟩, (Nat.lt_succ_self _), hM⟩ ?_
 clear hM
 rintro n1 S ⟨p1, rfl, hfa1, hm1, hM⟩
 have hM0 := hM; clear hM; obtain ⟨ag1, hag1, hM⟩ := iter_step hM0 (by omega) hf1; clear hM0
 replace hfa1 := nzQ hfa1
 replace hm1 := nzQ hm1
 have ha1 : addI .i64 p1.1 1 = p1.1 + 1 := add_one omQ omQ
 refine spQA ha1 ?_
 have hF := ha1
 exact auQ
instance (priority := 1013) : DRD 1 34 28 [3, 4, 5, 6, 7, 8, 9, 10, 11, 12, 13, 14, 15, 16, 17, 18, 19, 20, 21, 22, 23, 24, 25, 26, 27, 28, 29, 30] [] ([[], [0], [], [2], [], [4], [], [6], [], [8], [0, 1, 2, 3, 4, 5, 6, 7, 8, 9], [0, 1, 2, 3, 4, 5, 6, 7, 8, 9, 10], [], [12], [0, 1, 2, 3, 4, 5, 6, 7, 8, 9, 10, 11, 12, 13], [], [15], [15, 16], [], [18], [18, 19], [], [21], [21, 22], [], [24], [24, 25], [15, 16, 17, 18, 19, 20, 21, 22, 23, 24, 25, 26]] ++ [List.range 28, List.range 29, List.range 30, List.range 31]) [(10, 12), (27, 29)] := ⟨trivial⟩
set_option maxHeartbeats 2000000 in
set_option maxRecDepth 100000 in
instance specieref31_Item_ok   (c : S_api_Coin)  : CM En (specieref31_Item c) 95 [(e_api_Coin c)] (fun y => .agg [.int .i64 y.Kind, .int .i64 y.N, .sl none 1 false (y.B.map (V.int .u8)), .sl none 4 true (y.L.map e_api_Item)]) (fun _ => []) := by
 refine cmQ fun r hM => ?_
 rw [specieref31_Item.eq_1] at hM
 refine enterV En_ok En_mo noJ Try.func95 rfl Try.ntmps95 (by kernel_rfl) fun hw => ct_start ?_
 refine spQ ?_
 replace hw := nzQ hw
 have hF := trueQ
 exact auQ
set_option maxHeartbeats 2000000 in
set_option maxRecDepth 100000 in
instance specieref32_list_ok   (l : (List S_api_Item))  : CM En (specieref32_list l) 94 [.sl none 4 true (l.map e_api_Item)] (fun y => .agg [.int .i64 y.Kind, .int .i64 y.N, .sl none 1 false (y.B.map (V.int .u8)), .sl none 4 true (y.L.map e_api_Item)]) (fun _ => []) := by
 refine cmQ fun r hM => ?_
 rw [specieref32_list.eq_1] at hM
 refine enterV En_ok En_mo noJ Try.func94 rfl Try.ntmps94 (by kernel_rfl) fun hw => ct_start ?_
 refine spQ ?_
 replace hw := nzQ hw
 subst hM
 exact retC_view lfQ
set_option maxHeartbeats 2000000 in
set_option maxRecDepth 100000 in
theorem specieref32_Item_ok   (s : S_api_Spend) (hp0 : okSp s) : CM En (specieref32_Item s) 71 [(e_api_Spend s)] (fun y => .agg [.int .i64 y.Kind, .int .i64 y.N, .sl none 1 false (y.B.map (V.int .u8)), .sl none 4 true (y.L.map e_api_Item)]) (fun _ => []) := by
 refine cmQ fun r hM => ?_
 rw [specieref32_Item.eq_1] at hM
 refine enterV En_ok En_mo [11] Try.func71 rfl Try.ntmps71 (by kernel_rfl) fun hw => ct_start ?_
 refine spQ ?_
 replace hw := nzQ hw
 have hM0 := hM; clear hM; obtain ⟨f1, d1, hf1, hd1, hM⟩ := iter_opn hM0; clear hM0
 refine ct_loopW (fun n S => ∃ p : Int × List Int, S = (⟨[(1, .ptr 0 0), (2, .ptr 1 0), (3, .own 2), (4, .int .i64 p.1)], [(0, .var 80 true ((e_api_Spend s))), (1, .var 4 true (.agg [.int .i64 0, .int .i64 0, .sl (some true) 1 false [], .sl (some true) 4 true []])), (2, .own 3 1 false none (p.2.map (V.int .i64)))], 3⟩ : St) ∧ ((0 ≤ p.1) ∧ (p.1 ≤ (s.Leaves.length : Int)) ∧ (((p.2).length : Int) = 3 * p.1)) ∧ ((s.Leaves.length : Int) - p.1).toNat < n ∧ iter n f1 d1 p = r) (((s.Leaves.length : Int) - 0).toNat + 1) _ _ (weak_nil 3 3 rfl (by decide)) sbQ sbQ ⟨(0, ([] : List Int)), rfl, ⟨by (first | exact omQ | (clear hM; first | (have h9 := hp0.1; have h8 := hp0.2; exact omQ'))), by (first | exact omQ | (clear hM; first | (have h9 := hp0.1; have h8 := hp0.2; exact omQ'))), by (first | exact omQ | (clear hM; first | (have h9 := hp0.1; have h8 := hp0.2; exact omQ')))⟩, (Nat.lt_succ_self _), hM⟩ ?_
 clear hM
 rintro n1 S ⟨p1, rfl, hfa1, hm1, hM⟩
 have hM0 := hM; clear hM; obtain ⟨ag1, hag1, hM⟩ := iter_step hM0 (by omega) hf1; clear hM0
 replace hfa1 := nzQ hfa1
 replace hm1 := nzQ hm1
 have ha1 : addI .i64 p1.1 1 = p1.1 + 1 := add_one (by (first | exact omQ | (clear hM; first | (have h9 := hp0.1; have h8 := hp0.2; exact omQ')))) (by (first | exact omQ | (clear hM; first | (have h9 := hp0.1; have h8 := hp0.2; exact omQ'))))
 refine spQA ha1 ?_
 refine condC_intro (fun h2 => ?_) (fun h2 => ?_)
 ·rw [if_pos h2] at hM
  refine spQA (And.intro ha1 h2) ?_
  have nh2 := nzQ h2
  try have hr3 := mpQ nh2
  refine ct_draw 87 20 [14, 15, 16, 17, 18, 19, 20, 21, 22, 23, 24, 25, 26, 27, 28, 29, 30, 31, 32, 33] [] ([[], [], [1], [], [1, 2, 3], [1, 2, 3, 4], [1, 2, 3, 4, 5], [], [7], [], [7, 8, 9], [7, 8, 9, 10], [7, 8, 9, 10, 11], [], [13], [], [13, 14, 15], [13, 14, 15, 16], [13, 14, 15, 16, 17], [1, 2, 3, 4, 5, 6, 7, 8, 9, 10, 11, 12, 13, 14, 15, 16, 17, 18]] ++ [List.range 20, List.range 21]) [] (by kernel_rfl) (by exact alQ) ?_
  refine spQA ha1 ?_
  refine hbindC_intro (by (first | exact omQ | (clear hM; first | (have h9 := hp0.1; have h8 := hp0.2; exact omQ')))) ?_
  have he4 := fun d => elt_mp (l := s.Leaves) (f := e_api_Leaf) (i := p1.1) (by (first | exact omQ | (clear hM; first | (have h9 := hp0.1; have h8 := hp0.2; exact omQ')))) d
  refine spQA (And.intro ha1 he4) ?_
  refine hbindC_intro (by (first | exact omQ | (clear hM; first | (have h9 := hp0.1; have h8 := hp0.2; exact omQ')))) ?_
  refine spQA (And.intro ha1 he4) ?_
  refine hbindC_intro (by (first | exact omQ | (clear hM; first | (have h9 := hp0.1; have h8 := hp0.2; exact omQ')))) ?_
  refine spQA (And.intro ha1 he4) ?_
  refine bindC_intro (by (first | exact omQ | (clear hM; first | (have h9 := hp0.1; have h8 := hp0.2; exact omQ')))) ?_
  refine spQA (And.intro ha1 he4) ?_
  refine lp_intro (n1 - 1) _ (by omega) sbQ sbQ ⟨((p1.1 + 1), (p1.2 ++ ([(gt s.Leaves p1.1).B, (gt s.Leaves p1.1).R1, (gt s.Leaves p1.1).R2] : List Int))), rfl, ⟨by (first | exact omQ | (clear hM; first | (have h9 := hp0.1; have h8 := hp0.2; exact omQ'))), by (first | exact omQ | (clear hM; first | (have h9 := hp0.1; have h8 := hp0.2; exact omQ'))), by (first | exact omQ | (clear hM; first | (have h9 := hp0.1; have h8 := hp0.2; exact omQ')))⟩, by (first | exact omQ | (clear hM; first | (have h9 := hp0.1; have h8 := hp0.2; exact omQ'))), iter_again hM hag1⟩
 ·rw [if_neg (ne_true h2)] at hM
  refine spQA (And.intro ha1 h2) ?_
  have nh2 := nzQ h2
  try have hr5 := mpQ nh2
  refine seqC_pass ?_
  refine spQA ha1 ?_
  have hM0 := hM; clear hM; obtain ⟨f6, d6, hf6, hd6, hM⟩ := iter_opn hM0; clear hM0
  refine ct_loop (fun n S => ∃ p : Int × List S_api_Item, S = (⟨[(1, .ptr 0 0), (2, .ptr 1 0), (3, .own 2), (5, .own 3), (6, .int .i64 p.1)], [(0, .var 80 true ((e_api_Spend s))), (1, .var 4 true (.agg [.int .i64 0, .int .i64 0, .sl (some true) 1 false [], .sl (some true) 4 true []])), (2, .own 3 1 false none (p1.2.map (V.int .i64))), (3, .own 86 4 true none (p.2.map e_api_Item))], 4⟩ : St) ∧ ((0 ≤ p.1) ∧ (p.1 ≤ (s.Path.L.length : Int)) ∧ (((p.2).length : Int) ≤ p.1 + (([({ Kind := 1, N := s.Path.Index, B := ([] : List Int), L := ([] : List S_api_Item) } : S_api_Item)] : List S_api_Item)).length)) ∧ ((s.Path.L.length : Int) - p.1).toNat < n ∧ iter n f6 d6 p = r) (((s.Path.L.length : Int) - 0).toNat + 1) _ sbQ sbQ ⟨(0, ([({ Kind := 1, N := s.Path.Index, B := ([] : List Int), L := ([] : List S_api_Item) } : S_api_Item)] : List S_api_Item)), rfl, ⟨by (first | exact omQ | (clear hM; first | (have h9 := hp0.1; have h8 := hp0.2; exact omQ'))), by (first | exact omQ | (clear hM; first | (have h9 := hp0.1; have h8 := hp0.2; exact omQ'))), by (first | exact omQ | (clear hM; first | (have h9 := hp0.1; have h8 := hp0.2; exact omQ')))⟩, (Nat.lt_succ_self _), hM⟩ ?_
  clear hM
  rintro n6 S ⟨p6, rfl, hfa6, hm6, hM⟩
  have hM0 := hM; clear hM; obtain ⟨ag6, hag6, hM⟩ := iter_step hM0 (by omega) hf6; clear hM0
  replace hfa6 := nzQ hfa6
  replace hm6 := nzQ hm6
  have ha6 : addI .i64 p6.1 1 = p6.1 + 1 := add_one (by (first | exact omQ | (clear hM; first | (have h9 := hp0.1; have h8 := hp0.2; exact omQ')))) (by (first | exact omQ | (clear hM; first | (have h9 := hp0.1; have h8 := hp0.2; exact omQ'))))
  refine spQA (And.intro ha1 ha6) ?_
  refine condC_intro (fun h7 => ?_) (fun h7 => ?_)
  ·rw [if_pos h7] at hM
   refine spQA (And.intro ha1 (And.intro ha6 h7)) ?_
   have nh7 := nzQ h7
   try have hr8 := mpQ nh7
   refine bindC_intro (by (first | exact omQ | (clear hM; first | (have h9 := hp0.1; have h8 := hp0.2; exact omQ')))) ?_
   have he9 := fun d => elt_mp (l := s.Path.L) (f := e_arr45) (i := p6.1) (by (first | exact omQ | (clear hM; first | (have h9 := hp0.1; have h8 := hp0.2; exact omQ')))) d
   refine spQA (And.intro ha1 (And.intro ha6 he9)) ?_
   have hM0 := hM; clear hM; obtain ⟨x10, hx11, hM⟩ := letk_opn hM0; clear hM0
   have hcx10 := cmU hx11
   refine callC_give hcx10 (clQA (And.intro ha1 (And.intro ha6 he9))) (clQA (And.intro ha1 (And.intro ha6 he9))) (fun hw12 => ?_)
   replace hw12 := nzQ hw12
   refine spQA (And.intro ha1 (And.intro ha6 he9)) ?_
   refine bindC_intro (by (first | exact omQ | (clear hM; first | (have h9 := hp0.1; have h8 := hp0.2; exact omQ')))) ?_
   refine spQA (And.intro ha1 (And.intro ha6 he9)) ?_
   refine lp_intro (n6 - 1) _ (by omega) sbQ sbQ ⟨((p6.1 + 1), (p6.2 ++ ([x10] : List S_api_Item))), rfl, ⟨by (first | exact omQ | (clear hM; first | (have h9 := hp0.1; have h8 := hp0.2; exact omQ'))), by (first | exact omQ | (clear hM; first | (have h9 := hp0.1; have h8 := hp0.2; exact omQ'))), by (first | exact omQ | (clear hM; first | (have h9 := hp0.1; have h8 := hp0.2; exact omQ')))⟩, by (first | exact omQ | (clear hM; first | (have h9 := hp0.1; have h8 := hp0.2; exact omQ'))), iter_again hM hag6⟩
  ·rw [if_neg (ne_true h7)] at hM
   refine spQA (And.intro ha1 (And.intro ha6 h7)) ?_
   have nh7 := nzQ h7
   try have hr13 := mpQ nh7
   refine cut_weakW _ (⟨[(1, .ptr 0 0), (2, .ptr 1 0), (3, .sl none 1 false (p1.2.map (V.int .i64))), (5, .sl none 4 true (p6.2.map e_api_Item))], [(0, .var 80 true ((e_api_Spend s))), (1, .var 4 true (.agg [.int .i64 0, .int .i64 0, .sl (some true) 1 false [], .sl (some true) 4 true []])), (2, .pown 1 false none (p1.2.map (V.int .i64))), (3, .pown 4 true none (p6.2.map e_api_Item))], 4⟩ : St) ((((weak_pub (S := ⟨_, _, _⟩) 2 (T := 3) (n := 1) (g := false) (z := none) (l := p1.2.map (V.int .i64)) (clQA (And.intro ha1 ha6))).trans (weak_slot (S := ⟨_, _, _⟩) 3 2 (n := 1) (g := false) (z := none) (l := p1.2.map (V.int .i64)) (clQA (And.intro ha1 ha6)) (clQA (And.intro ha1 ha6)))).trans (weak_pub (S := ⟨_, _, _⟩) 3 (T := 86) (n := 4) (g := true) (z := none) (l := p6.2.map e_api_Item) (clQA (And.intro ha1 ha6)))).trans (weak_slot (S := ⟨_, _, _⟩) 5 3 (n := 4) (g := true) (z := none) (l := p6.2.map e_api_Item) (clQA (And.intro ha1 ha6)) (clQA (And.intro ha1 ha6)))) sbQ sbQ ?_
   try refine spQA (And.intro ha1 ha6) ?_
   refine ct_draw 87 26 [58, 59, 60, 61, 62, 63, 64, 65, 66, 67, 68, 69, 70, 71, 72, 73, 74, 75, 76, 77, 78, 79, 80, 81, 82, 83] [] ([[], [0], [0, 1], [], [3], [3, 4], [], [6], [6, 7], [3, 4, 5, 6, 7, 8], [0, 1, 2, 3, 4, 5, 6, 7, 8, 9], [], [11], [11, 12], [0, 1, 2, 3, 4, 5, 6, 7, 8, 9, 10, 11, 12, 13], [], [15], [15, 16], [], [18], [18, 19], [15, 16, 17, 18, 19, 20], [0, 1, 2, 3, 4, 5, 6, 7, 8, 9, 10, 11, 12, 13, 14, 15, 16, 17, 18, 19, 20, 21], [], [0, 1, 2, 3, 4, 5, 6, 7, 8, 9, 10, 11, 12, 13, 14, 15, 16, 17, 18, 19, 20, 21, 22, 23], []] ++ [List.range 26, List.range 27, List.range 28, List.range 29]) [(9, 13), (21, 25)] (by kernel_rfl) (by exact alQ) ?_
   refine spQA (And.intro ha1 ha6) ?_
   have hM0 := hM; clear hM; obtain ⟨x14, hx15, hM⟩ := letk_opn hM0; clear hM0
   have hcx14 := cmU hx15
   refine hcallC_give hcx14 (clQA (And.intro ha1 ha6)) (clQA (And.intro ha1 ha6)) ?_
   refine spQA (And.intro ha1 ha6) ?_
   have hM0 := hM; clear hM; obtain ⟨x16, hx17, hM⟩ := letk_opn hM0; clear hM0
   have hcx16 := cmU hx17
   refine hcallC_give hcx16 (clQA (And.intro ha1 ha6)) (clQA (And.intro ha1 ha6)) ?_
   refine spQA (And.intro ha1 ha6) ?_
   have hM0 := hM; clear hM; obtain ⟨x18, hx19, hM⟩ := letk_opn hM0; clear hM0
   have hcx18 := cmU hx19
   refine hcallC_give hcx18 (clQA (And.intro ha1 ha6)) (clQA (And.intro ha1 ha6)) ?_
   refine spQA (And.intro ha1 ha6) ?_
   have hM0 := hM; clear hM; obtain ⟨x20, hx21, hM⟩ := letk_opn hM0; clear hM0
   have hcx20 := cmU hx21
   refine hcallC_give hcx20 (clQA (And.intro ha1 ha6)) (clQA (And.intro ha1 ha6)) ?_
   refine spQA (And.intro ha1 ha6) ?_
   have hM0 := hM; clear hM; obtain ⟨x22, hx23, hM⟩ := letk_opn hM0; clear hM0
   have hcx22 := cmU hx23
   refine hcallC_give hcx22 (clQA (And.intro ha1 ha6)) (clQA (And.intro ha1 ha6)) ?_
   refine spQA (And.intro ha1 ha6) ?_
   have hM0 := hM; clear hM; obtain ⟨x24, hx25, hM⟩ := letk_opn hM0; clear hM0
   have hcx24 := cmU hx25
   refine callC_give hcx24 (clQA (And.intro ha1 ha6)) (clQA (And.intro ha1 ha6)) (fun hw26 => ?_)
   replace hw26 := nzQ hw26
   refine spQA (And.intro ha1 ha6) ?_
   have hM0 := hM; clear hM; obtain ⟨x27, hx28, hM⟩ := letk_opn hM0; clear hM0
   have hcx27 := cmU hx28
   refine callC_giveP hcx27 (weakP_pub 30 (T := 86) (n := 4) (g := true) (z := (some false)) (l := ([x14, x16, x18, x20, x22, x24] : List S_api_Item).map e_api_Item) (clQA (And.intro ha1 ha6))) (clQA (And.intro ha1 ha6)) (fun hw29 => ?_)
   replace hw29 := nzQ hw29
   refine spQA (And.intro ha1 ha6) ?_
   subst hM
   exact retC_view (lfQA (And.intro ha1 (And.intro ha6 (And.intro h2 h7))))
set_option maxHeartbeats 2000000 in
set_option maxRecDepth 100000 in
instance specieref38_list_ok   (l : (List S_api_Item))  : CM En (specieref38_list l) 70 [.sl none 4 true (l.map e_api_Item)] (fun y => .agg [.int .i64 y.Kind, .int .i64 y.N, .sl none 1 false (y.B.map (V.int .u8)), .sl none 4 true (y.L.map e_api_Item)]) (fun _ => []) := by
 refine cmQ fun r hM => ?_
 rw [specieref38_list.eq_1] at hM
 refine enterV En_ok En_mo noJ Try.func70 rfl Try.ntmps70 (by kernel_rfl) fun hw => ct_start ?_
 refine spQ ?_
 replace hw := nzQ hw
 subst hM
 exact retC_view lfQ
set_option maxHeartbeats 2000000 in
set_option maxRecDepth 100000 in
theorem specieref38_spendItems_ok   (l : (List S_api_Spend)) (hp0 : ∀ x ∈ l, okSp x) : CM En (specieref38_spendItems l) 72 [.sl none 80 true (l.map e_api_Spend)] (fun y => .agg [.int .i64 y.Kind, .int .i64 y.N, .sl none 1 false (y.B.map (V.int .u8)), .sl none 4 true (y.L.map e_api_Item)]) (fun _ => []) := by
 refine cmQ fun r hM => ?_
 rw [specieref38_spendItems.eq_1] at hM
 refine enterV En_ok En_mo noJ Try.func72 rfl Try.ntmps72 (by kernel_rfl) fun hw => ct_start ?_
 refine spQ ?_
 replace hw := nzQ hw
 have hM0 := hM; clear hM; obtain ⟨f1, d1, hf1, hd1, hM⟩ := iter_opn hM0; clear hM0
 refine ct_loopW (fun n S => ∃ p : Int × List S_api_Item, S = (⟨[(0, .sl none 80 true (l.map e_api_Spend)), (2, .ptr 0 0), (3, .own 1), (4, .int .i64 p.1)], [(0, .var 4 true (.agg [.int .i64 0, .int .i64 0, .sl (some true) 1 false [], .sl (some true) 4 true []])), (1, .own 86 4 true none (p.2.map e_api_Item))], 2⟩ : St) ∧ ((0 ≤ p.1) ∧ (p.1 ≤ (l.length : Int)) ∧ (((p.2).length : Int) ≤ p.1)) ∧ ((l.length : Int) - p.1).toNat < n ∧ iter n f1 d1 p = r) (((l.length : Int) - 0).toNat + 1) _ _ (weak_nil 3 86 rfl (by decide)) sbQ sbQ ⟨(0, ([] : List S_api_Item)), rfl, ⟨omQ, omQ, omQ⟩, (Nat.lt_succ_self _), hM⟩ ?_
 clear hM
 rintro n1 S ⟨p1, rfl, hfa1, hm1, hM⟩
 have hM0 := hM; clear hM; obtain ⟨ag1, hag1, hM⟩ := iter_step hM0 (by omega) hf1; clear hM0
 replace hfa1 := nzQ hfa1
 replace hm1 := nzQ hm1
 have ha1 : addI .i64 p1.1 1 = p1.1 + 1 := add_one omQ omQ
 refine spQA ha1 ?_
 refine condC_intro (fun h2 => ?_) (fun h2 => ?_)
 ·rw [if_pos h2] at hM
  refine spQA (And.intro ha1 h2) ?_
  have nh2 := nzQ h2
  try have hr3 := mpQ nh2
  refine bindC_intro omQ ?_
  have he4 := fun d => elt_mp (l := l) (f := e_api_Spend) (i := p1.1) omQ d
  refine spQA (And.intro ha1 he4) ?_
  have hM0 := hM; clear hM; obtain ⟨x5, hx6, hM⟩ := letk_opn hM0; clear hM0
  have hcx5 := cmH hx6 (specieref32_Item_ok  (gt l p1.1) (by (exact hp0 _ (gt_mem (by omega)))))
  refine callC_give hcx5 (clQA (And.intro ha1 he4)) (clQA (And.intro ha1 he4)) (fun hw7 => ?_)
  replace hw7 := nzQ hw7
  refine spQA (And.intro ha1 he4) ?_
  have hF := (And.intro ha1 (And.intro h2 he4))
  exact auQ
 ·rw [if_neg (ne_true h2)] at hM
  refine spQA (And.intro ha1 h2) ?_
  have nh2 := nzQ h2
  try have hr8 := mpQ nh2
  have hM0 := hM; clear hM; obtain ⟨x9, hx10, hM⟩ := letk_opn hM0; clear hM0
  have hcx9 := cmU hx10
  refine callC_giveP hcx9 (weakP_pub 1 (T := 86) (n := 4) (g := true) (z := none) (l := p1.2.map e_api_Item) (clQA ha1)) (clQA ha1) (fun hw11 => ?_)
  replace hw11 := nzQ hw11
  refine spQA ha1 ?_
  subst hM
  exact retC_view (lfQA (And.intro ha1 h2))
instance (priority := 1014) : DRD 1 23 18 [3, 4, 5, 6, 7, 8, 9, 10, 11, 12, 13, 14, 15, 16, 17, 18, 19, 20] [] ([[], [0], [], [2], [0, 1, 2, 3], [0, 1, 2, 3, 4], [], [6], [6, 7], [6, 7, 8], [], [10], [10, 11], [10, 11, 12], [], [14], [14, 15], [14, 15, 16]] ++ [List.range 18, List.range 19, List.range 20]) [(4, 6)] := ⟨trivial⟩
set_option maxHeartbeats 2000000 in
set_option maxRecDepth 100000 in
instance specieref36_Item_ok   (x_ : S_api_Escrow)  : CM En (specieref36_Item x_) 73 [(e_api_Escrow x_)] (fun y => .agg [.int .i64 y.Kind, .int .i64 y.N, .sl none 1 false (y.B.map (V.int .u8)), .sl none 4 true (y.L.map e_api_Item)]) (fun _ => []) := by
 refine cmQ fun r hM => ?_
 rw [specieref36_Item.eq_1] at hM
 refine enterV En_ok En_mo noJ Try.func73 rfl Try.ntmps73 (by kernel_rfl) fun hw => ct_start ?_
 refine spQ ?_
 replace hw := nzQ hw
 have hF := trueQ
 exact auQ
set_option maxHeartbeats 2000000 in
set_option maxRecDepth 100000 in
instance specieref38_integer_ok   (n_ : Int)  : CM En (specieref38_integer n_) 74 [.int .i64 n_] (fun y => .agg [.int .i64 y.Kind, .int .i64 y.N, .sl none 1 false (y.B.map (V.int .u8)), .sl none 4 true (y.L.map e_api_Item)]) (fun _ => []) := by
 refine cmQ fun r hM => ?_
 rw [specieref38_integer.eq_1] at hM
 refine enterV En_ok En_mo noJ Try.func74 rfl Try.ntmps74 (by kernel_rfl) fun hw => ct_start ?_
 refine spQ ?_
 replace hw := nzQ hw
 subst hM
 exact retC_view lfQ
set_option maxHeartbeats 2000000 in
set_option maxRecDepth 100000 in
theorem specieref38_Item_ok   (p_ : S_api_Payment) (hp0 : ∀ x ∈ p_.Spends, okSp x) (hp1 : ∀ x ∈ p_.Chains, okSp x.First ∧ ∀ y ∈ x.L, okSp y) : CM En (specieref38_Item p_) 43 [.agg [.int .i64 p_.Number, .sl none 80 true (p_.Spends.map e_api_Spend), .sl none 81 true (p_.Chains.map e_api_Chain), .sl none 5 true (p_.Escrow.map e_api_Escrow)]] (fun y => .agg [.int .i64 y.Kind, .int .i64 y.N, .sl none 1 false (y.B.map (V.int .u8)), .sl none 4 true (y.L.map e_api_Item)]) (fun _ => []) := by
 refine cmQ fun r hM => ?_
 rw [specieref38_Item.eq_1] at hM
 refine enterV En_ok En_mo [10] Try.func43 rfl Try.ntmps43 (by kernel_rfl) fun hw => ct_start ?_
 refine spQ ?_
 replace hw := nzQ hw
 have hM0 := hM; clear hM; obtain ⟨f1, d1, hf1, hd1, hM⟩ := iter_opn hM0; clear hM0
 refine ct_loopW (fun n S => ∃ p : Int × List S_api_Item, S = (⟨[(1, .ptr 0 0), (2, .ptr 1 0), (3, .own 2), (4, .sl (some true) 4 true []), (5, .int .i64 p.1)], [(0, .var 4 true (.agg [.int .i64 p_.Number, .sl none 80 true (p_.Spends.map e_api_Spend), .sl none 81 true (p_.Chains.map e_api_Chain), .sl none 5 true (p_.Escrow.map e_api_Escrow)])), (1, .var 4 true (.agg [.int .i64 0, .int .i64 0, .sl (some true) 1 false [], .sl (some true) 4 true []])), (2, .own 86 4 true none (p.2.map e_api_Item))], 3⟩ : St) ∧ ((0 ≤ p.1) ∧ (p.1 ≤ (p_.Chains.length : Int)) ∧ (((p.2).length : Int) ≤ p.1)) ∧ ((p_.Chains.length : Int) - p.1).toNat < n ∧ iter n f1 d1 p = r) (((p_.Chains.length : Int) - 0).toNat + 1) _ _ (weak_nil 3 86 rfl (by decide)) sbQ sbQ ⟨(0, ([] : List S_api_Item)), rfl, ⟨omQ, omQ, omQ⟩, (Nat.lt_succ_self _), hM⟩ ?_
 clear hM
 rintro n1 S ⟨p1, rfl, hfa1, hm1, hM⟩
 have hM0 := hM; clear hM; obtain ⟨ag1, hag1, hM⟩ := iter_step hM0 (by omega) hf1; clear hM0
 replace hfa1 := nzQ hfa1
 replace hm1 := nzQ hm1
 have ha1 : addI .i64 p1.1 1 = p1.1 + 1 := add_one omQ omQ
 refine spQA ha1 ?_
 refine condC_intro (fun h2 => ?_) (fun h2 => ?_)
 ·rw [if_pos h2] at hM
  refine spQA (And.intro ha1 h2) ?_
  have nh2 := nzQ h2
  try have hr3 := mpQ nh2
  refine ct_draw 61 18 [14, 15, 16, 17, 18, 19, 20, 21, 22, 23, 24, 25, 26, 27, 28, 29, 30, 31] [] ([[], [], [1], [], [1, 2, 3], [1, 2, 3, 4], [1, 2, 3, 4, 5], [1, 2, 3, 4, 5, 6], [], [8], [], [8, 9, 10], [8, 9, 10, 11], [8, 9, 10, 11, 12], [8, 9, 10, 11, 12, 13], [1, 2, 3, 4, 5, 6, 7, 8, 9, 10, 11, 12, 13, 14], [1, 2, 3, 4, 5, 6, 7, 8, 9, 10, 11, 12, 13, 14, 15], [1, 2, 3, 4, 5, 6, 7, 8, 9, 10, 11, 12, 13, 14, 15, 16]] ++ [List.range 18, List.range 19]) [(15, 18)] (by kernel_rfl) (by exact alQ) ?_
  refine spQA ha1 ?_
  refine hbindC_intro omQ ?_
  have he4 := fun d => elt_mp (l := p_.Chains) (f := e_api_Chain) (i := p1.1) omQ d
  refine spQA (And.intro ha1 he4) ?_
  have hM0 := hM; clear hM; obtain ⟨x5, hx6, hM⟩ := letk_opn hM0; clear hM0
  have hcx5 := cmH hx6 (specieref32_Item_ok  ((gt p_.Chains p1.1).First) (by (exact (hp1 _ (gt_mem (by omega))).1)))
  refine hcallC_give hcx5 (clQA (And.intro ha1 he4)) (clQA (And.intro ha1 he4)) ?_
  refine spQA (And.intro ha1 he4) ?_
  refine hbindC_intro omQ ?_
  refine spQA (And.intro ha1 he4) ?_
  have hM0 := hM; clear hM; obtain ⟨x7, hx8, hM⟩ := letk_opn hM0; clear hM0
  have hcx7 := cmH hx8 (specieref38_spendItems_ok  ((gt p_.Chains p1.1).L) (by (first | exact hp0 | exact (hp1 _ (gt_mem (by omega))).2)))
  refine hcallC_give hcx7 (clQA (And.intro ha1 he4)) (clQA (And.intro ha1 he4)) ?_
  refine spQA (And.intro ha1 he4) ?_
  have hF := (And.intro ha1 (And.intro h2 he4))
  exact auQ
 ·rw [if_neg (ne_true h2)] at hM
  refine spQA (And.intro ha1 h2) ?_
  have nh2 := nzQ h2
  try have hr11 := mpQ nh2
  refine seqC_pass ?_
  refine spQA ha1 ?_
  have hM0 := hM; clear hM; obtain ⟨f12, d12, hf12, hd12, hM⟩ := iter_opn hM0; clear hM0
  refine ct_loopW (fun n S => ∃ p : Int × List S_api_Item, S = (⟨[(1, .ptr 0 0), (2, .ptr 1 0), (3, .own 2), (4, .own 3), (6, .int .i64 p.1)], [(0, .var 4 true (.agg [.int .i64 p_.Number, .sl none 80 true (p_.Spends.map e_api_Spend), .sl none 81 true (p_.Chains.map e_api_Chain), .sl none 5 true (p_.Escrow.map e_api_Escrow)])), (1, .var 4 true (.agg [.int .i64 0, .int .i64 0, .sl (some true) 1 false [], .sl (some true) 4 true []])), (2, .own 86 4 true none (p1.2.map e_api_Item)), (3, .own 86 4 true none (p.2.map e_api_Item))], 4⟩ : St) ∧ ((0 ≤ p.1) ∧ (p.1 ≤ (p_.Escrow.length : Int)) ∧ (((p.2).length : Int) ≤ p.1)) ∧ ((p_.Escrow.length : Int) - p.1).toNat < n ∧ iter n f12 d12 p = r) (((p_.Escrow.length : Int) - 0).toNat + 1) _ _ (weak_nil 4 86 rfl (by decide)) sbQ sbQ ⟨(0, ([] : List S_api_Item)), rfl, ⟨omQ, omQ, omQ⟩, (Nat.lt_succ_self _), hM⟩ ?_
  clear hM
  rintro n12 S ⟨p12, rfl, hfa12, hm12, hM⟩
  have hM0 := hM; clear hM; obtain ⟨ag12, hag12, hM⟩ := iter_step hM0 (by omega) hf12; clear hM0
  replace hfa12 := nzQ hfa12
  replace hm12 := nzQ hm12
  have ha12 : addI .i64 p12.1 1 = p12.1 + 1 := add_one omQ omQ
  refine spQA (And.intro ha1 ha12) ?_
  refine condC_intro (fun h13 => ?_) (fun h13 => ?_)
  ·rw [if_pos h13] at hM
   refine spQA (And.intro ha1 (And.intro ha12 h13)) ?_
   have nh13 := nzQ h13
   try have hr14 := mpQ nh13
   have hF := (And.intro ha1 (And.intro h2 (And.intro ha12 h13)))
   exact auQ
  ·rw [if_neg (ne_true h13)] at hM
   refine spQA (And.intro ha1 (And.intro ha12 h13)) ?_
   have nh13 := nzQ h13
   try have hr19 := mpQ nh13
   refine cut_weakW _ (⟨[(1, .ptr 0 0), (2, .ptr 1 0), (3, .sl none 4 true (p1.2.map e_api_Item)), (4, .sl none 4 true (p12.2.map e_api_Item))], [(0, .var 4 true (.agg [.int .i64 p_.Number, .sl none 80 true (p_.Spends.map e_api_Spend), .sl none 81 true (p_.Chains.map e_api_Chain), .sl none 5 true (p_.Escrow.map e_api_Escrow)])), (1, .var 4 true (.agg [.int .i64 0, .int .i64 0, .sl (some true) 1 false [], .sl (some true) 4 true []])), (2, .pown 4 true none (p1.2.map e_api_Item)), (3, .pown 4 true none (p12.2.map e_api_Item))], 4⟩ : St) ((((weak_pub (S := ⟨_, _, _⟩) 2 (T := 86) (n := 4) (g := true) (z := none) (l := p1.2.map e_api_Item) (clQA (And.intro ha1 ha12))).trans (weak_slot (S := ⟨_, _, _⟩) 3 2 (n := 4) (g := true) (z := none) (l := p1.2.map e_api_Item) (clQA (And.intro ha1 ha12)) (clQA (And.intro ha1 ha12)))).trans (weak_pub (S := ⟨_, _, _⟩) 3 (T := 86) (n := 4) (g := true) (z := none) (l := p12.2.map e_api_Item) (clQA (And.intro ha1 ha12)))).trans (weak_slot (S := ⟨_, _, _⟩) 4 3 (n := 4) (g := true) (z := none) (l := p12.2.map e_api_Item) (clQA (And.intro ha1 ha12)) (clQA (And.intro ha1 ha12)))) sbQ sbQ ?_
   try refine spQA (And.intro ha1 ha12) ?_
   refine ct_draw 61 9 [49, 50, 51, 52, 53, 54, 55, 56, 57] [] ([[], [0], [0, 1], [], [3], [0, 1, 2, 3, 4], [], [0, 1, 2, 3, 4, 5, 6], []] ++ [List.range 9, List.range 10, List.range 11, List.range 12]) [] (by kernel_rfl) (by exact alQ) ?_
   refine spQA (And.intro ha1 ha12) ?_
   have hM0 := hM; clear hM; obtain ⟨x20, hx21, hM⟩ := letk_opn hM0; clear hM0
   have hcx20 := cmU hx21
   refine hcallC_give hcx20 (clQA (And.intro ha1 ha12)) (clQA (And.intro ha1 ha12)) ?_
   refine spQA (And.intro ha1 ha12) ?_
   have hM0 := hM; clear hM; obtain ⟨x22, hx23, hM⟩ := letk_opn hM0; clear hM0
   have hcx22 := cmH hx23 (specieref38_spendItems_ok  (p_.Spends) (by (first | exact hp0 | exact (hp1 _ (gt_mem (by omega))).2)))
   refine hcallC_give hcx22 (clQA (And.intro ha1 ha12)) (clQA (And.intro ha1 ha12)) ?_
   refine spQA (And.intro ha1 ha12) ?_
   have hM0 := hM; clear hM; obtain ⟨x24, hx25, hM⟩ := letk_opn hM0; clear hM0
   have hcx24 := cmU hx25
   refine hcallC_give hcx24 (clQA (And.intro ha1 ha12)) (clQA (And.intro ha1 ha12)) ?_
   refine spQA (And.intro ha1 ha12) ?_
   have hM0 := hM; clear hM; obtain ⟨x26, hx27, hM⟩ := letk_opn hM0; clear hM0
   have hcx26 := cmU hx27
   refine callC_give hcx26 (clQA (And.intro ha1 ha12)) (clQA (And.intro ha1 ha12)) (fun hw28 => ?_)
   replace hw28 := nzQ hw28
   refine spQA (And.intro ha1 ha12) ?_
   have hM0 := hM; clear hM; obtain ⟨x29, hx30, hM⟩ := letk_opn hM0; clear hM0
   have hcx29 := cmU hx30
   refine callC_giveP hcx29 (weakP_pub 13 (T := 86) (n := 4) (g := true) (z := (some false)) (l := ([x20, x22, x24, x26] : List S_api_Item).map e_api_Item) (clQA (And.intro ha1 ha12))) (clQA (And.intro ha1 ha12)) (fun hw31 => ?_)
   replace hw31 := nzQ hw31
   refine spQA (And.intro ha1 ha12) ?_
   subst hM
   exact retC_view (lfQA (And.intro ha1 (And.intro ha12 (And.intro h2 h13))))
end Go.Proofs.Ytcbdmoihobdjaaa
