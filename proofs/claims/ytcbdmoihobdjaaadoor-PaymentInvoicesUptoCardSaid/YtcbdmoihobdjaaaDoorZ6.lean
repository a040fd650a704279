/- Texts of this proof, one after the other: U1. -/
import Derived.Test.YtcbdmoihobdjaaaDoorZ5
set_option linter.unusedVariables false
set_option linter.unusedSimpArgs false
namespace Go.Proofs.YtcbdmoihobdjaaaDoor
open Go.RowKit
set_option linter.unusedSimpArgs false
set_option maxHeartbeats 2000000 in
set_option maxRecDepth 100000 in
instance payment_valid_ok   (v : S_api_Invoice)  : CM En (payment_valid v) 27 [(e_api_Invoice v)] (fun y => .bool y) (fun _ => []) := by
 refine cmQ fun r hM => ?_
 rw [payment_valid.eq_1] at hM
 refine enterV En_ok En_mo noJ Tryd.func27 rfl Tryd.ntmps27 (by kernel_rfl) fun hw => ct_start ?_
 refine spQ ?_
 replace hw := nzQ hw
 have hF := trueQ
 exact auQ
set_option maxHeartbeats 2000000 in
set_option maxRecDepth 100000 in
instance payment_integer_ok   (n_ : Int)  : CM En (payment_integer n_) 31 [.int .i64 n_] (fun y => .agg [.int .i64 y.Kind, .int .i64 y.N, .sl none 1 false (y.B.map (V.int .u8)), .sl none 4 true (y.L.map e_api_Item)]) (fun _ => []) := by
 refine cmQ fun r hM => ?_
 rw [payment_integer.eq_1] at hM
 refine enterV En_ok En_mo noJ Tryd.func31 rfl Tryd.ntmps31 (by kernel_rfl) fun hw => ct_start ?_
 refine spQ ?_
 replace hw := nzQ hw
 subst hM
 exact retC_view lfQ
set_option maxHeartbeats 2000000 in
set_option maxRecDepth 100000 in
theorem encode_within_1_ok (N : Nat) (ih : ∀  (i_ : S_api_Item) (depth : Int), hgt i_ < N → CallOk En 73 [.agg [.int .i64 i_.Kind, .int .i64 i_.N, .sl none 1 false (i_.B.map (V.int .u8)), .sl none 4 true (i_.L.map e_api_Item)], .int .i64 depth] (.bool (withinM i_ depth)) [])  (x_ : S_api_Item) (c0 : Int) (hp0 : hgt x_ < N) (hp1 : 0 < c0) : CallOk En 94 [.agg [.int .i64 x_.Kind, .int .i64 x_.N, .sl none 1 false (x_.B.map (V.int .u8)), .sl none 4 true (x_.L.map e_api_Item)], .pp 1 false (.int .i64 c0)] (.bool (encode_within_1 x_ c0)) [] := by
 generalize hM : encode_within_1 x_ c0 = r
 rw [encode_within_1.eq_1] at hM
 refine enterV En_ok En_mo noJ Tryd.func94 rfl Tryd.ntmps94 (by kernel_rfl) fun hw => ct_start ?_
 refine spQ ?_
 replace hw := nzQ hw
 have ha1 : subI .i64 c0 1 = (c0 - 1) := sub_ok omQ omQ
 try simp only [ha1]
 have hM0 := hM; clear hM; obtain ⟨x2, hx3, hM⟩ := letk_opn hM0; clear hM0
 have hcx2 := ih  x_ (c0 - 1)  (by omega)
 rw [← hx3] at hcx2
 refine callC_give hcx2 (clQA ha1) (clQA ha1) (fun hw4 => ?_)
 replace hw4 := nzQ hw4
 refine spQA ha1 ?_
 subst hM
 exact retC_view (lfQA ha1)
set_option maxHeartbeats 2000000 in
set_option maxRecDepth 100000 in
theorem slices_IndexFunc_api_Item_api_Item_at_encode_within_1_ok (N : Nat) (ih : ∀  (i_ : S_api_Item) (depth : Int), hgt i_ < N → CallOk En 73 [.agg [.int .i64 i_.Kind, .int .i64 i_.N, .sl none 1 false (i_.B.map (V.int .u8)), .sl none 4 true (i_.L.map e_api_Item)], .int .i64 depth] (.bool (withinM i_ depth)) []) (z0 : Option Bool) (s : (List S_api_Item)) (f__c0 : Int) (hp0 : ∀ x ∈ s, hgt x < N) (hp1 : 0 < f__c0) : CallOk En 107 [.sl z0 4 true (s.map e_api_Item), .fn 94 [.pp 1 false (.int .i64 f__c0)]] (.int .i64 (slices_IndexFunc_api_Item_api_Item_at_encode_within_1 s f__c0)) [] := by
 generalize hM : slices_IndexFunc_api_Item_api_Item_at_encode_within_1 s f__c0 = r
 rw [slices_IndexFunc_api_Item_api_Item_at_encode_within_1.eq_1] at hM
 refine enterV En_ok En_mo noJ Tryd.func107 rfl Tryd.ntmps107 (by kernel_rfl) fun hw => ct_start ?_
 refine spQ ?_
 replace hw := nzQ hw
 have hM0 := hM; clear hM; obtain ⟨f1, d1, hf1, hd1, hM⟩ := iter_opn hM0; clear hM0
 refine ct_loop (fun n S => ∃ p : Int, S = (⟨[(0, .sl z0 4 true (s.map e_api_Item)), (1, .fn 94 [.pp 1 false (.int .i64 f__c0)]), (7, .int .i64 (s.length : Int)), (8, .int .i64 p)], [], 0⟩ : St) ∧ ((0 ≤ p) ∧ (p ≤ (s.length : Int))) ∧ ((s.length : Int) - p).toNat < n ∧ iter n f1 d1 p = r) (((s.length : Int) - 0).toNat + 1) _ sbQ sbQ ⟨0, rfl, ⟨omQ, omQ⟩, (Nat.lt_succ_self _), hM⟩ ?_
 clear hM
 rintro n1 S ⟨p1, rfl, hfa1, hm1, hM⟩
 have hM0 := hM; clear hM; obtain ⟨ag1, hag1, hM⟩ := iter_step hM0 (by omega) hf1; clear hM0
 replace hfa1 := nzQ hfa1
 replace hm1 := nzQ hm1
 have ha1 : addI .i64 p1 1 = p1 + 1 := add_one omQ omQ
 refine spQA ha1 ?_
 refine condC_intro (fun h2 => ?_) (fun h2 => ?_)
 ·rw [if_pos h2] at hM
  refine spQA (And.intro ha1 h2) ?_
  have nh2 := nzQ h2
  try have hr3 := mpQ nh2
  refine bindC_intro omQ ?_
  have he4 := fun d => elt_mp (l := s) (f := e_api_Item) (i := p1) omQ d
  refine spQA (And.intro ha1 he4) ?_
  have hM0 := hM; clear hM; obtain ⟨x5, hx6, hM⟩ := letk_opn hM0; clear hM0
  have hcx5 := encode_within_1_ok N ih  (gt s p1) f__c0 (by (first | exact hp1 | exact hp0 _ (gt_mem (by omega)))) (by (first | exact hp1 | exact hp0 _ (gt_mem (by omega))))
  rw [← hx6] at hcx5
  refine callC_give hcx5 (clQA (And.intro ha1 he4)) (clQA (And.intro ha1 he4)) (fun hw7 => ?_)
  replace hw7 := nzQ hw7
  refine spQA (And.intro ha1 he4) ?_
  have hF := (And.intro ha1 (And.intro h2 he4))
  exact auQ
 ·rw [if_neg (ne_true h2)] at hM
  refine spQA (And.intro ha1 h2) ?_
  have nh2 := nzQ h2
  try have hr9 := mpQ nh2
  subst hM
  exact retC_view (lfQA (And.intro ha1 h2))
set_option maxHeartbeats 2000000 in
set_option maxRecDepth 100000 in
theorem slices_ContainsFunc_api_Item_api_Item_at_encode_within_1_ok (N : Nat) (ih : ∀  (i_ : S_api_Item) (depth : Int), hgt i_ < N → CallOk En 73 [.agg [.int .i64 i_.Kind, .int .i64 i_.N, .sl none 1 false (i_.B.map (V.int .u8)), .sl none 4 true (i_.L.map e_api_Item)], .int .i64 depth] (.bool (withinM i_ depth)) []) (z0 : Option Bool) (s : (List S_api_Item)) (f__c0 : Int) (hp0 : ∀ x ∈ s, hgt x < N) (hp1 : 0 < f__c0) : CallOk En 93 [.sl z0 4 true (s.map e_api_Item), .fn 94 [.pp 1 false (.int .i64 f__c0)]] (.bool (slices_ContainsFunc_api_Item_api_Item_at_encode_within_1 s f__c0)) [] := by
 generalize hM : slices_ContainsFunc_api_Item_api_Item_at_encode_within_1 s f__c0 = r
 rw [slices_ContainsFunc_api_Item_api_Item_at_encode_within_1.eq_1] at hM
 refine enterV En_ok En_mo noJ Tryd.func93 rfl Tryd.ntmps93 (by kernel_rfl) fun hw => ct_start ?_
 refine spQ ?_
 replace hw := nzQ hw
 have hM0 := hM; clear hM; obtain ⟨x1, hx2, hM⟩ := letk_opn hM0; clear hM0
 have hcx1 := slices_IndexFunc_api_Item_api_Item_at_encode_within_1_ok N ih z0 s f__c0 (by (first | exact hp1 | exact hp0)) (by (first | exact hp1 | exact hp0))
 rw [← hx2] at hcx1
 refine callC_give hcx1 clQ clQ (fun hw3 => ?_)
 replace hw3 := nzQ hw3
 refine spQ ?_
 subst hM
 exact retC_view lfQ
set_option maxHeartbeats 2000000 in
set_option maxRecDepth 100000 in
theorem encode_within_ok (N : Nat) (ih : ∀  (i_ : S_api_Item) (depth : Int), hgt i_ < N → CallOk En 73 [.agg [.int .i64 i_.Kind, .int .i64 i_.N, .sl none 1 false (i_.B.map (V.int .u8)), .sl none 4 true (i_.L.map e_api_Item)], .int .i64 depth] (.bool (withinM i_ depth)) [])  (i_ : S_api_Item) (depth : Int) (hp_ : hgt i_ < N + 1) : CallOk En 73 [.agg [.int .i64 i_.Kind, .int .i64 i_.N, .sl none 1 false (i_.B.map (V.int .u8)), .sl none 4 true (i_.L.map e_api_Item)], .int .i64 depth] (.bool (encode_within i_ depth)) [] := by
 generalize hM : encode_within i_ depth = r
 rw [encode_within.eq_1] at hM
 refine enterV En_ok En_mo noJ Tryd.func73 rfl Tryd.ntmps73 (by kernel_rfl) fun hw => ct_start ?_
 refine spQ ?_
 replace hw := nzQ hw
 refine condC_intro (fun h1 => ?_) (fun h1 => ?_)
 ·rw [if_pos h1] at hM
  refine spQA h1 ?_
  have nh1 := nzQ h1
  try have hr2 := mpQ nh1
  have hF := h1
  exact auQ
 ·rw [if_neg (ne_true h1)] at hM
  refine spQA h1 ?_
  have nh1 := nzQ h1
  try have hr6 := mpQ nh1
  refine condC_intro (fun h7 => ?_) (fun h7 => ?_)
  ·rw [if_pos h7] at hM
   refine spQA h7 ?_
   have nh7 := nzQ h7
   try have hr8 := mpQ nh7
   have hF := (And.intro h1 h7)
   exact auQ
  ·rw [if_neg (ne_true h7)] at hM
   refine spQA h7 ?_
   have nh7 := nzQ h7
   try have hr12 := mpQ nh7
   refine condC_intro (fun h13 => ?_) (fun h13 => ?_)
   ·rw [if_pos h13] at hM
    refine spQA h13 ?_
    have nh13 := nzQ h13
    try have hr14 := mpQ nh13
    refine guardC_t (fun h15 => ?_) (fun h15 => ?_)
    ·rw [if_pos h15] at hM
     refine spQA h15 ?_
     have nh15 := nzQ h15
     try have hr16 := mpQ nh15
     refine guardC_t (fun h17 => ?_) (fun h17 => ?_)
     ·rw [if_pos h17] at hM
      refine spQA h17 ?_
      have nh17 := nzQ h17
      try have hr18 := mpQ nh17
      refine guardC_t (fun h19 => ?_) (fun h19 => ?_)
      ·rw [if_pos h19] at hM
       refine spQA h19 ?_
       have nh19 := nzQ h19
       try have hr20 := mpQ nh19
       refine guardC_t (fun h21 => ?_) (fun h21 => ?_)
       ·rw [if_pos h21] at hM
        refine spQA h21 ?_
        have nh21 := nzQ h21
        try have hr22 := mpQ nh21
        have hM0 := hM; clear hM; obtain ⟨x23, hx24, hM⟩ := letk_opn hM0; clear hM0
        have hcx23 := slices_ContainsFunc_api_Item_api_Item_at_encode_within_1_ok N ih none (i_.L) depth (by (first | omega | exact fun x hx => Nat.lt_of_lt_of_le (hgt_L hx) (Nat.lt_succ_iff.1 hp_))) (by (first | omega | exact fun x hx => Nat.lt_of_lt_of_le (hgt_L hx) (Nat.lt_succ_iff.1 hp_)))
        rw [← hx24] at hcx23
        refine callC_look hcx23 clQ clQ (fun hw25 => ?_)
        replace hw25 := nzQ hw25
        refine spQ ?_
        subst hM
        exact retC_view (lfQA (And.intro h1 (And.intro h7 (And.intro h13 (And.intro h15 (And.intro h17 (And.intro h19 h21)))))))
       ·rw [if_neg (ne_true h21)] at hM
        refine spQA h21 ?_
        have nh21 := nzQ h21
        try have hr26 := mpQ nh21
        subst hM
        exact retC_view (lfQA (And.intro h1 (And.intro h7 (And.intro h13 (And.intro h15 (And.intro h17 (And.intro h19 h21)))))))
      ·rw [if_neg (ne_true h19)] at hM
       refine spQA h19 ?_
       have nh19 := nzQ h19
       try have hr27 := mpQ nh19
       subst hM
       exact retC_view (lfQA (And.intro h1 (And.intro h7 (And.intro h13 (And.intro h15 (And.intro h17 h19))))))
     ·rw [if_neg (ne_true h17)] at hM
      refine spQA h17 ?_
      have nh17 := nzQ h17
      try have hr28 := mpQ nh17
      subst hM
      exact retC_view (lfQA (And.intro h1 (And.intro h7 (And.intro h13 (And.intro h15 h17)))))
    ·rw [if_neg (ne_true h15)] at hM
     refine spQA h15 ?_
     have nh15 := nzQ h15
     try have hr29 := mpQ nh15
     subst hM
     exact retC_view (lfQA (And.intro h1 (And.intro h7 (And.intro h13 h15))))
   ·rw [if_neg (ne_true h13)] at hM
    refine spQA h13 ?_
    have nh13 := nzQ h13
    try have hr30 := mpQ nh13
    subst hM
    exact retC_view (lfQA (And.intro h1 (And.intro h7 h13)))
theorem withinM_okN : ∀ (N : Nat)  (i_ : S_api_Item) (depth : Int), hgt i_ < N → CallOk En 73 [.agg [.int .i64 i_.Kind, .int .i64 i_.N, .sl none 1 false (i_.B.map (V.int .u8)), .sl none 4 true (i_.L.map e_api_Item)], .int .i64 depth] (.bool (withinM i_ depth)) [] := by
 intro N
 induction N with
 | zero => intro i_ depth  h; exact absurd h (Nat.not_lt_zero _)
 | succ N ih =>
  intro i_ depth  h
  have h9 := encode_within_ok N ih i_ depth  h
  rw [encode_within_eqM] at h9
  exact h9
theorem withinM_ok  (i_ : S_api_Item) (depth : Int)  : CallOk En 73 [.agg [.int .i64 i_.Kind, .int .i64 i_.N, .sl none 1 false (i_.B.map (V.int .u8)), .sl none 4 true (i_.L.map e_api_Item)], .int .i64 depth] (.bool (withinM i_ depth)) [] :=
 withinM_okN (hgt i_ + 1) i_ depth  (Nat.lt_succ_self _)
set_option maxHeartbeats 2000000 in
set_option maxRecDepth 100000 in
instance encode_Valid_ok   (i_ : S_api_Item)  : CM En (encode_Valid i_) 51 [.agg [.int .i64 i_.Kind, .int .i64 i_.N, .sl none 1 false (i_.B.map (V.int .u8)), .sl none 4 true (i_.L.map e_api_Item)]] (fun y => .bool y) (fun _ => []) := by
 refine cmQ fun r hM => ?_
 rw [encode_Valid.eq_1] at hM
 refine enterV En_ok En_mo noJ Tryd.func51 rfl Tryd.ntmps51 (by kernel_rfl) fun hw => ct_start ?_
 refine spQ ?_
 replace hw := nzQ hw
 have hM0 := hM; clear hM; obtain ⟨x1, hx2, hM⟩ := letk_opn hM0; clear hM0
 have hcx1 := withinM_ok  i_ 8 
 rw [← hx2] at hcx1
 refine callC_give hcx1 clQ clQ (fun hw3 => ?_)
 replace hw3 := nzQ hw3
 refine spQ ?_
 subst hM
 exact retC_view lfQ
set_option maxHeartbeats 2000000 in
set_option maxRecDepth 100000 in
theorem encode_number_ok  (z0 : Option Bool) (out : (List Int)) (n_ : Int) (size : Int) (hp0 : size ≤ 8) (hp1 : out.length ≤ 1000000000) (hp2 : 0 ≤ size) : CallIn En 77 [.own 0, .int .u64 n_, .int .i64 size] [.own 5 1 false z0 (out.map (V.int .u8))] (.own 0) [.own 5 1 false none ((encode_number out n_ size).map (V.int .u8))] [] := by
 generalize hM : encode_number out n_ size = r
 rw [encode_number.eq_1] at hM
 refine enterI En_ok En_mo noJ Tryd.func77 rfl Tryd.ntmps77 (by kernel_rfl) rfl fun ks hw hwB => ct_start ?_
 refine spQ ?_
 replace hw := nzQ hw
 try simp only [wfBs, wfB, decide_eq_true_eq, decide_eq_false_iff_not, Bool.and_eq_true, Bool.or_eq_true, Bool.not_eq_true', Bool.not_eq_false', beq_iff_eq, bne_iff_ne, beq_eq_false_iff_ne, bne_eq_false_iff_eq, ne_eq, Int.not_lt, Int.not_le, gt_iff_lt, ge_iff_le, List.length_map, wfL, wfV, and_true, true_and, LEN_eq, rng_i64, rng_u64, rng_u32, rng_i32, sl_len, st_len, List.length_append, List.length_cons, List.length_nil, List.length_replicate, rep_len, rowV_len, spl_len, cutN_len, arrN_len, nat8_len, remI_nn] at hwB
 have ha1 : subI .i64 size 1 = (size - 1) := sub_ok omQ omQ
 try simp only [ha1]
 have hM0 := hM; clear hM; obtain ⟨f2, d2, hf2, hd2, hM⟩ := iter_opn hM0; clear hM0
 refine ct_loop (fun n S => ∃ p : Int × List Int, S = (⟨[(0, .own 0), (1, .int .u64 n_), (7, .int .i64 p.1)], [(0, .own 5 1 false none (p.2.map (V.int .u8)))], 1⟩ : St) ∧ ((-1 ≤ p.1) ∧ (p.1 < 8) ∧ (((p.2).length : Int) + p.1 ≤ 1000000020)) ∧ (p.1 + 1).toNat < n ∧ iter n f2 d2 p = r) (((size - 1) + 1).toNat + 1) _ sbQ sbQ ⟨((size - 1), out), rfl, ⟨omQ, omQ, omQ⟩, (Nat.lt_succ_self _), hM⟩ ?_
 clear hM
 rintro n2 S ⟨p2, rfl, hfa2, hm2, hM⟩
 have hM0 := hM; clear hM; obtain ⟨ag2, hag2, hM⟩ := iter_step hM0 (by omega) hf2; clear hM0
 replace hfa2 := nzQ hfa2
 replace hm2 := nzQ hm2
 refine spQA ha1 ?_
 refine condC_intro (fun h3 => ?_) (fun h3 => ?_)
 ·rw [if_pos h3] at hM
  refine spQA (And.intro ha1 h3) ?_
  have nh3 := nzQ h3
  try have hr4 := mpQ nh3
  obtain ⟨ha5, hbha5⟩ := mul_pos_ok (a := 8) (b := p2.1) 8 8 64 omQ omQ omQ omQ (by decide) (by decide)
  try simp only [ha5]
  refine bindC_intro omQ ?_
  refine spQA (And.intro ha1 ha5) ?_
  refine bindC_intro omQ ?_
  refine spQA (And.intro ha1 ha5) ?_
  have ha6 : subI .i64 p2.1 1 = (p2.1 - 1) := sub_ok omQ omQ
  try simp only [ha6]
  refine lp_intro (n2 - 1) _ (by omega) sbQ sbQ ⟨((p2.1 - 1), (p2.2 ++ ([(convI .u8 (shrI .u64 n_ (8 * p2.1)))] : List Int))), rfl, ⟨omQ, omQ, omQ⟩, omQ, iter_again hM hag2⟩
 ·rw [if_neg (ne_true h3)] at hM
  refine spQA (And.intro ha1 h3) ?_
  have nh3 := nzQ h3
  try have hr7 := mpQ nh3
  subst hM
  exact retCI_in [0] (by simp only [go_sem, rowV_eq, rowV_eq0, List.length_replicate, rep_len, Int.toNat_natCast, ↓reduceIte, Nat.reduceEqDiff, Nat.reduceAdd, Int.reduceAdd, Nat.reduceMul, Nat.reduceLeDiff, Nat.reduceLT, Int.reduceLE, Int.reduceLT, Int.reduceNeg, Int.reduceToNat, mt, mtL, mtL_self, mt_self, mtZ, and_self, eq_self, or_true, true_or, map_st, ha1, gt_cons0, gt_conss, Int.reduceSub, or_self, h3]) (by decide) (by simp only [go_sem, rowV_eq, rowV_eq0, List.length_replicate, rep_len, Int.toNat_natCast, ↓reduceIte, Nat.reduceEqDiff, Nat.reduceAdd, Int.reduceAdd, Nat.reduceMul, Nat.reduceLeDiff, Nat.reduceLT, Int.reduceLE, Int.reduceLT, Int.reduceNeg, Int.reduceToNat, mt, mtL, mtL_self, mt_self, mtZ, and_self, eq_self, or_true, true_or, map_st, ha1, gt_cons0, gt_conss, Int.reduceSub, or_self, h3])
set_option maxHeartbeats 2000000 in
set_option maxRecDepth 100000 in
theorem encode_write_ok (N : Nat) (ih : ∀ (z0 : Option Bool) (out : (List Int)) (i_ : S_api_Item), (hgt i_ ≤ 500000000) → hgt i_ < N → CallIn En 57 [.own 0, .agg [.int .i64 i_.Kind, .int .i64 i_.N, .sl none 1 false (i_.B.map (V.int .u8)), .sl none 4 true (i_.L.map e_api_Item)]] [.own 5 1 false z0 (out.map (V.int .u8))] (.own 0) [.own 5 1 false none ((writeM out i_).map (V.int .u8))] []) (z0 : Option Bool) (out : (List Int)) (i_ : S_api_Item) (hp0 : hgt i_ ≤ 500000000) (hp_ : hgt i_ < N + 1) : CallIn En 57 [.own 0, .agg [.int .i64 i_.Kind, .int .i64 i_.N, .sl none 1 false (i_.B.map (V.int .u8)), .sl none 4 true (i_.L.map e_api_Item)]] [.own 5 1 false z0 (out.map (V.int .u8))] (.own 0) [.own 5 1 false none ((encode_write out i_).map (V.int .u8))] [] := by
 generalize hM : encode_write out i_ = r
 rw [encode_write.eq_1] at hM
 refine enterI En_ok En_mo noJ Tryd.func57 rfl Tryd.ntmps57 (by kernel_rfl) rfl fun ks hw hwB => ct_start ?_
 refine spQ ?_
 replace hw := nzQ hw
 try simp only [wfBs, wfB, decide_eq_true_eq, decide_eq_false_iff_not, Bool.and_eq_true, Bool.or_eq_true, Bool.not_eq_true', Bool.not_eq_false', beq_iff_eq, bne_iff_ne, beq_eq_false_iff_ne, bne_eq_false_iff_eq, ne_eq, Int.not_lt, Int.not_le, gt_iff_lt, ge_iff_le, List.length_map, wfL, wfV, and_true, true_and, LEN_eq, rng_i64, rng_u64, rng_u32, rng_i32, sl_len, st_len, List.length_append, List.length_cons, List.length_nil, List.length_replicate, rep_len, rowV_len, spl_len, cutN_len, arrN_len, nat8_len, remI_nn] at hwB
 refine condC_intro (fun h1 => ?_) (fun h1 => ?_)
 ·rw [if_pos h1] at hM
  refine spQA h1 ?_
  have nh1 := nzQ h1
  try have hr2 := mpQ nh1
  subst hM
  exact retCI_in [0] (by simp only [go_sem, rowV_eq, rowV_eq0, List.length_replicate, rep_len, Int.toNat_natCast, ↓reduceIte, Nat.reduceEqDiff, Nat.reduceAdd, Int.reduceAdd, Nat.reduceMul, Nat.reduceLeDiff, Nat.reduceLT, Int.reduceLE, Int.reduceLT, Int.reduceNeg, Int.reduceToNat, mt, mtL, mtL_self, mt_self, mtZ, and_self, eq_self, or_true, true_or, map_st, gt_cons0, gt_conss, Int.reduceSub, or_self, h1]) (by decide) (by simp only [go_sem, rowV_eq, rowV_eq0, List.length_replicate, rep_len, Int.toNat_natCast, ↓reduceIte, Nat.reduceEqDiff, Nat.reduceAdd, Int.reduceAdd, Nat.reduceMul, Nat.reduceLeDiff, Nat.reduceLT, Int.reduceLE, Int.reduceLT, Int.reduceNeg, Int.reduceToNat, mt, mtL, mtL_self, mt_self, mtZ, and_self, eq_self, or_true, true_or, map_st, gt_cons0, gt_conss, Int.reduceSub, or_self, h1])
 ·rw [if_neg (ne_true h1)] at hM
  refine spQA h1 ?_
  have nh1 := nzQ h1
  try have hr3 := mpQ nh1
  refine bindC_intro (by (first | exact omQ | (clear hM; first | (have h9 := hgt_eq i_; exact omQ')))) ?_
  refine spQ ?_
  refine condC_intro (fun h4 => ?_) (fun h4 => ?_)
  ·rw [if_pos h4] at hM
   refine spQA h4 ?_
   have nh4 := nzQ h4
   try have hr5 := mpQ nh4
   have hM0 := hM; clear hM; obtain ⟨x6, hx7, hM⟩ := letk_opn hM0; clear hM0
   have hcx6 := encode_number_ok (some false) (out ++ ([(convI .u8 i_.Kind)] : List Int)) (convI .u64 i_.N) 8 (by (exact pfQ)) (by (exact pfQ)) (by (exact pfQ))
   rw [← hx7] at hcx6
   refine callC_in [0] hcx6 (by decide) (by simp only [go_sem, rowV_eq, rowV_eq0, List.length_replicate, rep_len, Int.toNat_natCast, ↓reduceIte, Nat.reduceEqDiff, Nat.reduceAdd, Int.reduceAdd, Nat.reduceMul, Nat.reduceLeDiff, Nat.reduceLT, Int.reduceLE, Int.reduceLT, Int.reduceNeg, Int.reduceToNat, mt, mtL, mtL_self, mt_self, mtZ, and_self, eq_self, or_true, true_or]) (by simp only [go_sem, rowV_eq, rowV_eq0, List.length_replicate, rep_len, Int.toNat_natCast, ↓reduceIte, Nat.reduceEqDiff, Nat.reduceAdd, Int.reduceAdd, Nat.reduceMul, Nat.reduceLeDiff, Nat.reduceLT, Int.reduceLE, Int.reduceLT, Int.reduceNeg, Int.reduceToNat, mt, mtL, mtL_self, mt_self, mtZ, and_self, eq_self, or_true, true_or]) (fun hw8 => ?_)
   replace hw8 := nzQ hw8
   refine spQ ?_
   have hq9 := num_le hx7
   replace hq9 := nzQ hq9
   subst hM
   exact retCI_in [0] (by simp only [go_sem, rowV_eq, rowV_eq0, List.length_replicate, rep_len, Int.toNat_natCast, ↓reduceIte, Nat.reduceEqDiff, Nat.reduceAdd, Int.reduceAdd, Nat.reduceMul, Nat.reduceLeDiff, Nat.reduceLT, Int.reduceLE, Int.reduceLT, Int.reduceNeg, Int.reduceToNat, mt, mtL, mtL_self, mt_self, mtZ, and_self, eq_self, or_true, true_or, map_st, gt_cons0, gt_conss, Int.reduceSub, or_self, h1, h4]) (by decide) (by simp only [go_sem, rowV_eq, rowV_eq0, List.length_replicate, rep_len, Int.toNat_natCast, ↓reduceIte, Nat.reduceEqDiff, Nat.reduceAdd, Int.reduceAdd, Nat.reduceMul, Nat.reduceLeDiff, Nat.reduceLT, Int.reduceLE, Int.reduceLT, Int.reduceNeg, Int.reduceToNat, mt, mtL, mtL_self, mt_self, mtZ, and_self, eq_self, or_true, true_or, map_st, gt_cons0, gt_conss, Int.reduceSub, or_self, h1, h4])
  ·rw [if_neg (ne_true h4)] at hM
   refine spQA h4 ?_
   have nh4 := nzQ h4
   try have hr10 := mpQ nh4
   refine condC_intro (fun h11 => ?_) (fun h11 => ?_)
   ·rw [if_pos h11] at hM
    refine spQA h11 ?_
    have nh11 := nzQ h11
    try have hr12 := mpQ nh11
    refine ct_draw 55 8 [28, 29, 30, 31, 32, 33, 34, 35] [] ([[], [], [1], [1, 2], [1, 2, 3], [0, 1, 2, 3, 4], [], [6]] ++ [List.range 8, List.range 9]) [(5, 0)] (by kernel_rfl) (by exact alQ) ?_
    refine spQ ?_
    have hM0 := hM; clear hM; obtain ⟨x13, hx14, hM⟩ := letk_opn hM0; clear hM0
    have hcx13 := encode_number_ok (some false) (out ++ ([(convI .u8 i_.Kind)] : List Int)) (convI .u64 (i_.B.length : Int)) 4 (by (exact pfQ)) (by (exact pfQ)) (by (exact pfQ))
    rw [← hx14] at hcx13
    refine hcallC_kill 0 hcx13 (by simp only [go_sem, rowV_eq, rowV_eq0, List.length_replicate, rep_len, Int.toNat_natCast, ↓reduceIte, Nat.reduceEqDiff, Nat.reduceAdd, Int.reduceAdd, Nat.reduceMul, Nat.reduceLeDiff, Nat.reduceLT, Int.reduceLE, Int.reduceLT, Int.reduceNeg, Int.reduceToNat, mt, mtL, mtL_self, mt_self, mtZ, and_self, eq_self, or_true, true_or]) (by simp only [go_sem, rowV_eq, rowV_eq0, List.length_replicate, rep_len, Int.toNat_natCast, ↓reduceIte, Nat.reduceEqDiff, Nat.reduceAdd, Int.reduceAdd, Nat.reduceMul, Nat.reduceLeDiff, Nat.reduceLT, Int.reduceLE, Int.reduceLT, Int.reduceNeg, Int.reduceToNat, mt, mtL, mtL_self, mt_self, mtZ, and_self, eq_self, or_true, true_or]) (by simp only [go_sem, rowV_eq, rowV_eq0, List.length_replicate, rep_len, Int.toNat_natCast, ↓reduceIte, Nat.reduceEqDiff, Nat.reduceAdd, Int.reduceAdd, Nat.reduceMul, Nat.reduceLeDiff, Nat.reduceLT, Int.reduceLE, Int.reduceLT, Int.reduceNeg, Int.reduceToNat, mt, mtL, mtL_self, mt_self, mtZ, and_self, eq_self, or_true, true_or]) (flatL_map fun _ => (by simp only [go_sem, rowV_eq, rowV_eq0, List.length_replicate, rep_len, Int.toNat_natCast, ↓reduceIte, Nat.reduceEqDiff, Nat.reduceAdd, Int.reduceAdd, Nat.reduceMul, Nat.reduceLeDiff, Nat.reduceLT, Int.reduceLE, Int.reduceLT, Int.reduceNeg, Int.reduceToNat, mt, mtL, mtL_self, mt_self, mtZ, and_self, eq_self, or_true, true_or])) ?_
    refine spQ ?_
    have hq15 := num_le hx14
    replace hq15 := nzQ hq15
    refine bindC_intro (by (first | exact omQ | (clear hM; first | (have h9 := hgt_eq i_; exact omQ')))) ?_
    refine spQ ?_
    subst hM
    exact retCI_in [8] (by simp only [go_sem, rowV_eq, rowV_eq0, List.length_replicate, rep_len, Int.toNat_natCast, ↓reduceIte, Nat.reduceEqDiff, Nat.reduceAdd, Int.reduceAdd, Nat.reduceMul, Nat.reduceLeDiff, Nat.reduceLT, Int.reduceLE, Int.reduceLT, Int.reduceNeg, Int.reduceToNat, mt, mtL, mtL_self, mt_self, mtZ, and_self, eq_self, or_true, true_or, map_st, gt_cons0, gt_conss, Int.reduceSub, or_self, h1, h4, h11]) (by decide) (by simp only [go_sem, rowV_eq, rowV_eq0, List.length_replicate, rep_len, Int.toNat_natCast, ↓reduceIte, Nat.reduceEqDiff, Nat.reduceAdd, Int.reduceAdd, Nat.reduceMul, Nat.reduceLeDiff, Nat.reduceLT, Int.reduceLE, Int.reduceLT, Int.reduceNeg, Int.reduceToNat, mt, mtL, mtL_self, mt_self, mtZ, and_self, eq_self, or_true, true_or, map_st, gt_cons0, gt_conss, Int.reduceSub, or_self, h1, h4, h11])
   ·rw [if_neg (ne_true h11)] at hM
    refine spQA h11 ?_
    have nh11 := nzQ h11
    try have hr16 := mpQ nh11
    have hM0 := hM; clear hM; obtain ⟨x17, hx18, hM⟩ := letk_opn hM0; clear hM0
    have hcx17 := encode_number_ok (some false) (out ++ ([(convI .u8 i_.Kind)] : List Int)) (convI .u64 (i_.L.length : Int)) 4 (by (exact pfQ)) (by (exact pfQ)) (by (exact pfQ))
    rw [← hx18] at hcx17
    refine callC_in [0] hcx17 (by decide) (by simp only [go_sem, rowV_eq, rowV_eq0, List.length_replicate, rep_len, Int.toNat_natCast, ↓reduceIte, Nat.reduceEqDiff, Nat.reduceAdd, Int.reduceAdd, Nat.reduceMul, Nat.reduceLeDiff, Nat.reduceLT, Int.reduceLE, Int.reduceLT, Int.reduceNeg, Int.reduceToNat, mt, mtL, mtL_self, mt_self, mtZ, and_self, eq_self, or_true, true_or]) (by simp only [go_sem, rowV_eq, rowV_eq0, List.length_replicate, rep_len, Int.toNat_natCast, ↓reduceIte, Nat.reduceEqDiff, Nat.reduceAdd, Int.reduceAdd, Nat.reduceMul, Nat.reduceLeDiff, Nat.reduceLT, Int.reduceLE, Int.reduceLT, Int.reduceNeg, Int.reduceToNat, mt, mtL, mtL_self, mt_self, mtZ, and_self, eq_self, or_true, true_or]) (fun hw19 => ?_)
    replace hw19 := nzQ hw19
    refine spQ ?_
    have hq20 := num_le hx18
    replace hq20 := nzQ hq20
    have hM0 := hM; clear hM; obtain ⟨f21, d21, hf21, hd21, hM⟩ := iter_opn hM0; clear hM0
    refine ct_loop (fun n S => ∃ p : Int × List Int, S = (⟨[(0, .own 0), (44, .sl none 4 true (i_.L.map e_api_Item)), (45, .int .i64 (i_.L.length : Int)), (46, .int .i64 p.1)], [(0, .own 5 1 false none (p.2.map (V.int .u8)))], 3⟩ : St) ∧ ((0 ≤ p.1) ∧ (p.1 ≤ (i_.L.length : Int))) ∧ ((i_.L.length : Int) - p.1).toNat < n ∧ iter n f21 d21 p = r) (((i_.L.length : Int) - 0).toNat + 1) _ sbQ sbQ ⟨(0, x17), rfl, ⟨by (first | exact omQ | (clear hM; first | (have h9 := hgt_eq i_; exact omQ'))), by (first | exact omQ | (clear hM; first | (have h9 := hgt_eq i_; exact omQ')))⟩, (Nat.lt_succ_self _), hM⟩ ?_
    clear hM
    rintro n21 S ⟨p21, rfl, hfa21, hm21, hM⟩
    have hM0 := hM; clear hM; obtain ⟨ag21, hag21, hM⟩ := iter_step hM0 (by omega) hf21; clear hM0
    replace hfa21 := nzQ hfa21
    replace hm21 := nzQ hm21
    have ha21 : addI .i64 p21.1 1 = p21.1 + 1 := add_one (by (first | exact omQ | (clear hM; first | (have h9 := hgt_eq i_; exact omQ')))) (by (first | exact omQ | (clear hM; first | (have h9 := hgt_eq i_; exact omQ'))))
    refine spQA ha21 ?_
    refine condC_intro (fun h22 => ?_) (fun h22 => ?_)
    ·rw [if_pos h22] at hM
     refine spQA (And.intro ha21 h22) ?_
     have nh22 := nzQ h22
     try have hr23 := mpQ nh22
     refine bindC_intro (by (first | exact omQ | (clear hM; first | (have h9 := hgt_eq i_; exact omQ')))) ?_
     have he24 := fun d => elt_mp (l := i_.L) (f := e_api_Item) (i := p21.1) (by (first | exact omQ | (clear hM; first | (have h9 := hgt_eq i_; exact omQ')))) d
     refine spQA (And.intro ha21 he24) ?_
     have hM0 := hM; clear hM; obtain ⟨x25, hx26, hM⟩ := letk_opn hM0; clear hM0
     have hcx25 := ih none (p21.2) (gt i_.L p21.1) (by (have h9 := hgt_L (i := i_) (gt_mem (l := i_.L) (i := p21.1) (by omega)); omega)) (by (have h9 := hgt_L (i := i_) (gt_mem (l := i_.L) (i := p21.1) (by omega)); omega))
     rw [← hx26] at hcx25
     refine callC_in [0] hcx25 (by decide) (by simp only [go_sem, rowV_eq, rowV_eq0, List.length_replicate, rep_len, Int.toNat_natCast, ↓reduceIte, Nat.reduceEqDiff, Nat.reduceAdd, Int.reduceAdd, Nat.reduceMul, Nat.reduceLeDiff, Nat.reduceLT, Int.reduceLE, Int.reduceLT, Int.reduceNeg, Int.reduceToNat, mt, mtL, mtL_self, mt_self, mtZ, and_self, eq_self, or_true, true_or, ha21, he24]) (by simp only [go_sem, rowV_eq, rowV_eq0, List.length_replicate, rep_len, Int.toNat_natCast, ↓reduceIte, Nat.reduceEqDiff, Nat.reduceAdd, Int.reduceAdd, Nat.reduceMul, Nat.reduceLeDiff, Nat.reduceLT, Int.reduceLE, Int.reduceLT, Int.reduceNeg, Int.reduceToNat, mt, mtL, mtL_self, mt_self, mtZ, and_self, eq_self, or_true, true_or, ha21, he24]) (fun hw27 => ?_)
     replace hw27 := nzQ hw27
     refine spQA (And.intro ha21 he24) ?_
     refine lp_intro (n21 - 1) _ (by omega) sbQ sbQ ⟨((p21.1 + 1), x25), rfl, ⟨by (first | exact omQ | (clear hM; first | (have h9 := hgt_eq i_; exact omQ'))), by (first | exact omQ | (clear hM; first | (have h9 := hgt_eq i_; exact omQ')))⟩, by (first | exact omQ | (clear hM; first | (have h9 := hgt_eq i_; exact omQ'))), iter_again hM hag21⟩
    ·rw [if_neg (ne_true h22)] at hM
     refine spQA (And.intro ha21 h22) ?_
     have nh22 := nzQ h22
     try have hr28 := mpQ nh22
     subst hM
     exact retCI_in [0] (by simp only [go_sem, rowV_eq, rowV_eq0, List.length_replicate, rep_len, Int.toNat_natCast, ↓reduceIte, Nat.reduceEqDiff, Nat.reduceAdd, Int.reduceAdd, Nat.reduceMul, Nat.reduceLeDiff, Nat.reduceLT, Int.reduceLE, Int.reduceLT, Int.reduceNeg, Int.reduceToNat, mt, mtL, mtL_self, mt_self, mtZ, and_self, eq_self, or_true, true_or, map_st, ha21, gt_cons0, gt_conss, Int.reduceSub, or_self, h1, h4, h11, h22]) (by decide) (by simp only [go_sem, rowV_eq, rowV_eq0, List.length_replicate, rep_len, Int.toNat_natCast, ↓reduceIte, Nat.reduceEqDiff, Nat.reduceAdd, Int.reduceAdd, Nat.reduceMul, Nat.reduceLeDiff, Nat.reduceLT, Int.reduceLE, Int.reduceLT, Int.reduceNeg, Int.reduceToNat, mt, mtL, mtL_self, mt_self, mtZ, and_self, eq_self, or_true, true_or, map_st, ha21, gt_cons0, gt_conss, Int.reduceSub, or_self, h1, h4, h11, h22])
theorem writeM_okN : ∀ (N : Nat) (z0 : Option Bool) (out : (List Int)) (i_ : S_api_Item), (hgt i_ ≤ 500000000) → hgt i_ < N → CallIn En 57 [.own 0, .agg [.int .i64 i_.Kind, .int .i64 i_.N, .sl none 1 false (i_.B.map (V.int .u8)), .sl none 4 true (i_.L.map e_api_Item)]] [.own 5 1 false z0 (out.map (V.int .u8))] (.own 0) [.own 5 1 false none ((writeM out i_).map (V.int .u8))] [] := by
 intro N
 induction N with
 | zero => intro z0 out i_ h0 h; exact absurd h (Nat.not_lt_zero _)
 | succ N ih =>
  intro z0 out i_ h0 h
  have h9 := encode_write_ok N ih z0 out i_ h0 h
  rw [encode_write_eqM] at h9
  exact h9
theorem writeM_ok (z0 : Option Bool) (out : (List Int)) (i_ : S_api_Item) (hp0 : hgt i_ ≤ 500000000) : CallIn En 57 [.own 0, .agg [.int .i64 i_.Kind, .int .i64 i_.N, .sl none 1 false (i_.B.map (V.int .u8)), .sl none 4 true (i_.L.map e_api_Item)]] [.own 5 1 false z0 (out.map (V.int .u8))] (.own 0) [.own 5 1 false none ((writeM out i_).map (V.int .u8))] [] :=
 writeM_okN (hgt i_ + 1) z0 out i_ hp0 (Nat.lt_succ_self _)
set_option maxHeartbeats 2000000 in
set_option maxRecDepth 100000 in
theorem encode_Encode_ok   (i_ : S_api_Item) (hp0 : hgt i_ ≤ 500000000) : CM En (encode_Encode i_) 30 [.agg [.int .i64 i_.Kind, .int .i64 i_.N, .sl none 1 false (i_.B.map (V.int .u8)), .sl none 4 true (i_.L.map e_api_Item)]] (fun y => .tup [.sl none 1 false (y.1.map (V.int .u8)), .int .i64 y.2]) (fun _ => []) := by
 refine cmQ fun r hM => ?_
 rw [encode_Encode.eq_1] at hM
 refine enterV En_ok En_mo noJ Tryd.func30 rfl Tryd.ntmps30 (by kernel_rfl) fun hw => ct_start ?_
 refine spQ ?_
 replace hw := nzQ hw
 have hM0 := hM; clear hM; obtain ⟨x1, hx2, hM⟩ := letk_opn hM0; clear hM0
 have hcx1 := cmU hx2
 refine callC_give hcx1 clQ clQ (fun hw3 => ?_)
 replace hw3 := nzQ hw3
 refine spQ ?_
 refine condC_intro (fun h4 => ?_) (fun h4 => ?_)
 ·rw [if_pos h4] at hM
  refine spQA h4 ?_
  have nh4 := nzQ h4
  try have hr5 := mpQ nh4
  subst hM
  exact retC_view (lfQA h4)
 ·rw [if_neg (ne_true h4)] at hM
  refine spQA h4 ?_
  have nh4 := nzQ h4
  try have hr6 := mpQ nh4
  have hM0 := hM; clear hM; obtain ⟨x7, hx8, hM⟩ := letk_opn hM0; clear hM0
  have hcx7 := callIn_nil (pre := []) (post := [_]) (writeM_ok (some true) ([] : List Int) i_ (by (exact pfQ))) (by decide)
  rw [← hx8] at hcx7
  simp only [List.nil_append, List.cons_append] at hcx7
  refine callC_giveG hcx7 clQ (fun hw9 => ?_)
  replace hw9 := nzQ hw9
  refine spQ ?_
  have hF := h4
  exact auQ
set_option maxHeartbeats 2000000 in
set_option maxRecDepth 100000 in
instance payment_Invoice_ok   (v : S_api_Invoice)  : CM En (payment_Invoice v) 9 [(e_api_Invoice v)] (fun y => .tup [.sl none 1 false (y.1.map (V.int .u8)), .int .i64 y.2]) (fun _ => []) := by
 refine cmQ fun r hM => ?_
 rw [payment_Invoice.eq_1] at hM
 refine enterV En_ok En_mo [3] Tryd.func9 rfl Tryd.ntmps9 (by kernel_rfl) fun hw => ct_start ?_
 refine spQ ?_
 replace hw := nzQ hw
 refine seqC_pass ?_
 refine spQ ?_
 have hM0 := hM; clear hM; obtain ⟨x1, hx2, hM⟩ := letk_opn hM0; clear hM0
 have hcx1 := cmU hx2
 refine callC_give hcx1 clQ clQ (fun hw3 => ?_)
 replace hw3 := nzQ hw3
 refine spQ ?_
 refine condC_intro (fun h4 => ?_) (fun h4 => ?_)
 ·rw [if_pos h4] at hM
  refine spQA h4 ?_
  have nh4 := nzQ h4
  try have hr5 := mpQ nh4
  subst hM
  exact retC_view (lfQA h4)
 ·rw [if_neg (ne_true h4)] at hM
  refine spQA h4 ?_
  have nh4 := nzQ h4
  try have hr6 := mpQ nh4
  refine cut_weakW _ (⟨[(1, .ptr 0 0)], [(0, .pvar 35 true ((e_api_Invoice v)))], 1⟩ : St) (weak_pubv (S := ⟨_, _, _⟩) 0 (n := 35) (g := true) (d := (e_api_Invoice v)) clQ clQ) sbQ sbQ ?_
  try refine spQ ?_
  refine ct_draw 24 17 [7, 8, 9, 10, 11, 12, 13, 14, 15, 16, 17, 18, 19, 20, 21, 22, 23] [] ([[], [0], [0, 1], [], [3], [3, 4], [], [6], [6, 7], [], [9], [9, 10], [0, 1, 2, 3, 4, 5, 6, 7, 8, 9, 10, 11], [0, 1, 2, 3, 4, 5, 6, 7, 8, 9, 10, 11, 12], [0, 1, 2, 3, 4, 5, 6, 7, 8, 9, 10, 11, 12, 13], [0, 1, 2, 3, 4, 5, 6, 7, 8, 9, 10, 11, 12, 13, 14], [0, 1, 2, 3, 4, 5, 6, 7, 8, 9, 10, 11, 12, 13, 14]] ++ [List.range 17, List.range 18]) [(12, 13)] (by kernel_rfl) (by exact alQ) ?_
  refine spQ ?_
  have hM0 := hM; clear hM; obtain ⟨x7, hx8, hM⟩ := letk_opn hM0; clear hM0
  have hcx7 := cmU hx8
  refine hcallC_give hcx7 clQ clQ ?_
  refine spQ ?_
  have hq9 := hgt_int hx8
  replace hq9 := nzQ hq9
  have hM0 := hM; clear hM; obtain ⟨x10, hx11, hM⟩ := letk_opn hM0; clear hM0
  have hcx10 := cmU hx11
  refine hcallC_give hcx10 clQ clQ ?_
  refine spQ ?_
  have hq12 := hgt_int hx11
  replace hq12 := nzQ hq12
  have hM0 := hM; clear hM; obtain ⟨x13, hx14, hM⟩ := letk_opn hM0; clear hM0
  have hcx13 := cmU hx14
  refine hcallC_give hcx13 clQ clQ ?_
  refine spQ ?_
  have hq15 := hgt_int hx14
  replace hq15 := nzQ hq15
  have hM0 := hM; clear hM; obtain ⟨x16, hx17, hM⟩ := letk_opn hM0; clear hM0
  have hcx16 := cmH hx17 (encode_Encode_ok  ({ Kind := 3, N := 0, B := ([] : List Int), L := ([({ Kind := 2, N := 0, B := (arrN 32 v.Payee), L := ([] : List S_api_Item) } : S_api_Item), x7, x10, x13] : List S_api_Item) } : S_api_Item) (by (simp only [hgt, hgtL, arrN_len, List.length_nil]; omega)))
  refine hcallC_give hcx16 clQ clQ ?_
  refine spQ ?_
  subst hM
  exact retC_view (lfQA h4)
set_option maxHeartbeats 2000000 in
set_option maxRecDepth 100000 in
theorem encode_reader_fail_ok   (r_ : S_encode_reader) (e_ : Int)  : CallIn En 59 [.ptr 0 0, .int .i64 e_] [.var 2 true (.agg [.sl none 1 false (r_.b.map (V.int .u8)), .int .i64 r_.e])] (.tup []) [.var 2 true (.agg [.sl none 1 false ((encode_reader_fail r_ e_).b.map (V.int .u8)), .int .i64 (encode_reader_fail r_ e_).e])] [] := by
 generalize hM : encode_reader_fail r_ e_ = r
 rw [encode_reader_fail.eq_1] at hM
 refine enterI En_ok En_mo noJ Tryd.func59 rfl Tryd.ntmps59 (by kernel_rfl) rfl fun ks hw hwB => ct_start ?_
 refine spQ ?_
 replace hw := nzQ hw
 try simp only [wfBs, wfB, decide_eq_true_eq, decide_eq_false_iff_not, Bool.and_eq_true, Bool.or_eq_true, Bool.not_eq_true', Bool.not_eq_false', beq_iff_eq, bne_iff_ne, beq_eq_false_iff_ne, bne_eq_false_iff_eq, ne_eq, Int.not_lt, Int.not_le, gt_iff_lt, ge_iff_le, List.length_map, wfL, wfV, and_true, true_and, LEN_eq, rng_i64, rng_u64, rng_u32, rng_i32, sl_len, st_len, List.length_append, List.length_cons, List.length_nil, List.length_replicate, rep_len, rowV_len, spl_len, cutN_len, arrN_len, nat8_len, remI_nn] at hwB
 refine condC_intro (fun h1 => ?_) (fun h1 => ?_)
 ·rw [if_pos h1] at hM
  refine spQA h1 ?_
  have nh1 := nzQ h1
  try have hr2 := mpQ nh1
  subst hM
  exact retCI_in [0] (by simp only [go_sem, rowV_eq, rowV_eq0, List.length_replicate, rep_len, Int.toNat_natCast, ↓reduceIte, Nat.reduceEqDiff, Nat.reduceAdd, Int.reduceAdd, Nat.reduceMul, Nat.reduceLeDiff, Nat.reduceLT, Int.reduceLE, Int.reduceLT, Int.reduceNeg, Int.reduceToNat, mt, mtL, mtL_self, mt_self, mtZ, and_self, eq_self, or_true, true_or, map_st, gt_cons0, gt_conss, Int.reduceSub, or_self, h1]) (by decide) (by simp only [go_sem, rowV_eq, rowV_eq0, List.length_replicate, rep_len, Int.toNat_natCast, ↓reduceIte, Nat.reduceEqDiff, Nat.reduceAdd, Int.reduceAdd, Nat.reduceMul, Nat.reduceLeDiff, Nat.reduceLT, Int.reduceLE, Int.reduceLT, Int.reduceNeg, Int.reduceToNat, mt, mtL, mtL_self, mt_self, mtZ, and_self, eq_self, or_true, true_or, map_st, gt_cons0, gt_conss, Int.reduceSub, or_self, h1])
 ·rw [if_neg (ne_true h1)] at hM
  refine spQA h1 ?_
  have nh1 := nzQ h1
  try have hr3 := mpQ nh1
  subst hM
  exact retCI_in [0] (by simp only [go_sem, rowV_eq, rowV_eq0, List.length_replicate, rep_len, Int.toNat_natCast, ↓reduceIte, Nat.reduceEqDiff, Nat.reduceAdd, Int.reduceAdd, Nat.reduceMul, Nat.reduceLeDiff, Nat.reduceLT, Int.reduceLE, Int.reduceLT, Int.reduceNeg, Int.reduceToNat, mt, mtL, mtL_self, mt_self, mtZ, and_self, eq_self, or_true, true_or, map_st, gt_cons0, gt_conss, Int.reduceSub, or_self, h1]) (by decide) (by simp only [go_sem, rowV_eq, rowV_eq0, List.length_replicate, rep_len, Int.toNat_natCast, ↓reduceIte, Nat.reduceEqDiff, Nat.reduceAdd, Int.reduceAdd, Nat.reduceMul, Nat.reduceLeDiff, Nat.reduceLT, Int.reduceLE, Int.reduceLT, Int.reduceNeg, Int.reduceToNat, mt, mtL, mtL_self, mt_self, mtZ, and_self, eq_self, or_true, true_or, map_st, gt_cons0, gt_conss, Int.reduceSub, or_self, h1])
set_option maxHeartbeats 2000000 in
set_option maxRecDepth 100000 in
theorem encode_reader_take_ok   (r_ : S_encode_reader) (n_ : Int) (hp0 : 0 ≤ n_) : CallIn En 79 [.ptr 0 0, .int .i64 n_] [.var 2 true (.agg [.sl none 1 false (r_.b.map (V.int .u8)), .int .i64 r_.e])] (.sl none 1 false ((encode_reader_take r_ n_).1.map (V.int .u8))) [.var 2 true (.agg [.sl none 1 false ((encode_reader_take r_ n_).2.b.map (V.int .u8)), .int .i64 (encode_reader_take r_ n_).2.e])] [] := by
 generalize hM : encode_reader_take r_ n_ = r
 rw [encode_reader_take.eq_1] at hM
 refine enterI En_ok En_mo noJ Tryd.func79 rfl Tryd.ntmps79 (by kernel_rfl) rfl fun ks hw hwB => ct_start ?_
 refine spQ ?_
 replace hw := nzQ hw
 try simp only [wfBs, wfB, decide_eq_true_eq, decide_eq_false_iff_not, Bool.and_eq_true, Bool.or_eq_true, Bool.not_eq_true', Bool.not_eq_false', beq_iff_eq, bne_iff_ne, beq_eq_false_iff_ne, bne_eq_false_iff_eq, ne_eq, Int.not_lt, Int.not_le, gt_iff_lt, ge_iff_le, List.length_map, wfL, wfV, and_true, true_and, LEN_eq, rng_i64, rng_u64, rng_u32, rng_i32, sl_len, st_len, List.length_append, List.length_cons, List.length_nil, List.length_replicate, rep_len, rowV_len, spl_len, cutN_len, arrN_len, nat8_len, remI_nn] at hwB
 refine guardC_f (fun h1 => ?_) (fun h1 => ?_)
 ·rw [if_neg (ne_true h1)] at hM
  refine spQA h1 ?_
  have nh1 := nzQ h1
  try have hr2 := mpQ nh1
  refine condC_intro (fun h3 => ?_) (fun h3 => ?_)
  ·rw [if_pos h3] at hM
   refine spQA h3 ?_
   have nh3 := nzQ h3
   try have hr4 := mpQ nh3
   have hM0 := hM; clear hM; obtain ⟨x5, hx6, hM⟩ := letk_opn hM0; clear hM0
   have hcx5 := encode_reader_fail_ok  r_ 4 
   rw [← hx6] at hcx5
   refine callC_in [0] hcx5 (by decide) (by simp only [go_sem, rowV_eq, rowV_eq0, List.length_replicate, rep_len, Int.toNat_natCast, ↓reduceIte, Nat.reduceEqDiff, Nat.reduceAdd, Int.reduceAdd, Nat.reduceMul, Nat.reduceLeDiff, Nat.reduceLT, Int.reduceLE, Int.reduceLT, Int.reduceNeg, Int.reduceToNat, mt, mtL, mtL_self, mt_self, mtZ, and_self, eq_self, or_true, true_or]) (by simp only [go_sem, rowV_eq, rowV_eq0, List.length_replicate, rep_len, Int.toNat_natCast, ↓reduceIte, Nat.reduceEqDiff, Nat.reduceAdd, Int.reduceAdd, Nat.reduceMul, Nat.reduceLeDiff, Nat.reduceLT, Int.reduceLE, Int.reduceLT, Int.reduceNeg, Int.reduceToNat, mt, mtL, mtL_self, mt_self, mtZ, and_self, eq_self, or_true, true_or]) (fun hw7 => ?_)
   replace hw7 := nzQ hw7
   refine spQ ?_
   subst hM
   exact retCI_in [0] (by simp only [go_sem, rowV_eq, rowV_eq0, List.length_replicate, rep_len, Int.toNat_natCast, ↓reduceIte, Nat.reduceEqDiff, Nat.reduceAdd, Int.reduceAdd, Nat.reduceMul, Nat.reduceLeDiff, Nat.reduceLT, Int.reduceLE, Int.reduceLT, Int.reduceNeg, Int.reduceToNat, mt, mtL, mtL_self, mt_self, mtZ, and_self, eq_self, or_true, true_or, map_st, gt_cons0, gt_conss, Int.reduceSub, or_self, h1, h3]) (by decide) (by simp only [go_sem, rowV_eq, rowV_eq0, List.length_replicate, rep_len, Int.toNat_natCast, ↓reduceIte, Nat.reduceEqDiff, Nat.reduceAdd, Int.reduceAdd, Nat.reduceMul, Nat.reduceLeDiff, Nat.reduceLT, Int.reduceLE, Int.reduceLT, Int.reduceNeg, Int.reduceToNat, mt, mtL, mtL_self, mt_self, mtZ, and_self, eq_self, or_true, true_or, map_st, gt_cons0, gt_conss, Int.reduceSub, or_self, h1, h3])
  ·rw [if_neg (ne_true h3)] at hM
   refine spQA h3 ?_
   have nh3 := nzQ h3
   try have hr8 := mpQ nh3
   refine bindC_intro omQ ?_
   refine spQ ?_
   refine bindC_intro omQ ?_
   refine spQ ?_
   subst hM
   exact retCI_in [0] (by simp only [go_sem, rowV_eq, rowV_eq0, List.length_replicate, rep_len, Int.toNat_natCast, ↓reduceIte, Nat.reduceEqDiff, Nat.reduceAdd, Int.reduceAdd, Nat.reduceMul, Nat.reduceLeDiff, Nat.reduceLT, Int.reduceLE, Int.reduceLT, Int.reduceNeg, Int.reduceToNat, mt, mtL, mtL_self, mt_self, mtZ, and_self, eq_self, or_true, true_or, map_st, gt_cons0, gt_conss, Int.reduceSub, or_self, h1, h3]) (by decide) (by simp only [go_sem, rowV_eq, rowV_eq0, List.length_replicate, rep_len, Int.toNat_natCast, ↓reduceIte, Nat.reduceEqDiff, Nat.reduceAdd, Int.reduceAdd, Nat.reduceMul, Nat.reduceLeDiff, Nat.reduceLT, Int.reduceLE, Int.reduceLT, Int.reduceNeg, Int.reduceToNat, mt, mtL, mtL_self, mt_self, mtZ, and_self, eq_self, or_true, true_or, map_st, gt_cons0, gt_conss, Int.reduceSub, or_self, h1, h3])
 ·rw [if_pos h1] at hM
  refine spQA h1 ?_
  have nh1 := nzQ h1
  try have hr9 := mpQ nh1
  have hM0 := hM; clear hM; obtain ⟨x10, hx11, hM⟩ := letk_opn hM0; clear hM0
  have hcx10 := encode_reader_fail_ok  r_ 4 
  rw [← hx11] at hcx10
  refine callC_in [0] hcx10 (by decide) (by simp only [go_sem, rowV_eq, rowV_eq0, List.length_replicate, rep_len, Int.toNat_natCast, ↓reduceIte, Nat.reduceEqDiff, Nat.reduceAdd, Int.reduceAdd, Nat.reduceMul, Nat.reduceLeDiff, Nat.reduceLT, Int.reduceLE, Int.reduceLT, Int.reduceNeg, Int.reduceToNat, mt, mtL, mtL_self, mt_self, mtZ, and_self, eq_self, or_true, true_or]) (by simp only [go_sem, rowV_eq, rowV_eq0, List.length_replicate, rep_len, Int.toNat_natCast, ↓reduceIte, Nat.reduceEqDiff, Nat.reduceAdd, Int.reduceAdd, Nat.reduceMul, Nat.reduceLeDiff, Nat.reduceLT, Int.reduceLE, Int.reduceLT, Int.reduceNeg, Int.reduceToNat, mt, mtL, mtL_self, mt_self, mtZ, and_self, eq_self, or_true, true_or]) (fun hw12 => ?_)
  replace hw12 := nzQ hw12
  refine spQ ?_
  subst hM
  exact retCI_in [0] (by simp only [go_sem, rowV_eq, rowV_eq0, List.length_replicate, rep_len, Int.toNat_natCast, ↓reduceIte, Nat.reduceEqDiff, Nat.reduceAdd, Int.reduceAdd, Nat.reduceMul, Nat.reduceLeDiff, Nat.reduceLT, Int.reduceLE, Int.reduceLT, Int.reduceNeg, Int.reduceToNat, mt, mtL, mtL_self, mt_self, mtZ, and_self, eq_self, or_true, true_or, map_st, gt_cons0, gt_conss, Int.reduceSub, or_self, h1]) (by decide) (by simp only [go_sem, rowV_eq, rowV_eq0, List.length_replicate, rep_len, Int.toNat_natCast, ↓reduceIte, Nat.reduceEqDiff, Nat.reduceAdd, Int.reduceAdd, Nat.reduceMul, Nat.reduceLeDiff, Nat.reduceLT, Int.reduceLE, Int.reduceLT, Int.reduceNeg, Int.reduceToNat, mt, mtL, mtL_self, mt_self, mtZ, and_self, eq_self, or_true, true_or, map_st, gt_cons0, gt_conss, Int.reduceSub, or_self, h1])
set_option maxHeartbeats 2000000 in
set_option maxRecDepth 100000 in
theorem encode_reader_number_ok   (r_ : S_encode_reader) (size : Int) (hp0 : 0 ≤ size) : CallIn En 78 [.ptr 0 0, .int .i64 size] [.var 2 true (.agg [.sl none 1 false (r_.b.map (V.int .u8)), .int .i64 r_.e])] (.int .u64 (encode_reader_number r_ size).1) [.var 2 true (.agg [.sl none 1 false ((encode_reader_number r_ size).2.b.map (V.int .u8)), .int .i64 (encode_reader_number r_ size).2.e])] [] := by
 generalize hM : encode_reader_number r_ size = r
 rw [encode_reader_number.eq_1] at hM
 refine enterI En_ok En_mo noJ Tryd.func78 rfl Tryd.ntmps78 (by kernel_rfl) rfl fun ks hw hwB => ct_start ?_
 refine spQ ?_
 replace hw := nzQ hw
 try simp only [wfBs, wfB, decide_eq_true_eq, decide_eq_false_iff_not, Bool.and_eq_true, Bool.or_eq_true, Bool.not_eq_true', Bool.not_eq_false', beq_iff_eq, bne_iff_ne, beq_eq_false_iff_ne, bne_eq_false_iff_eq, ne_eq, Int.not_lt, Int.not_le, gt_iff_lt, ge_iff_le, List.length_map, wfL, wfV, and_true, true_and, LEN_eq, rng_i64, rng_u64, rng_u32, rng_i32, sl_len, st_len, List.length_append, List.length_cons, List.length_nil, List.length_replicate, rep_len, rowV_len, spl_len, cutN_len, arrN_len, nat8_len, remI_nn] at hwB
 have hM0 := hM; clear hM; obtain ⟨x1, hx2, hM⟩ := letk_opn hM0; clear hM0
 have hcx1 := encode_reader_take_ok  r_ size (by (exact pfQ))
 rw [← hx2] at hcx1
 refine callC_in [0] hcx1 (by decide) (by simp only [go_sem, rowV_eq, rowV_eq0, List.length_replicate, rep_len, Int.toNat_natCast, ↓reduceIte, Nat.reduceEqDiff, Nat.reduceAdd, Int.reduceAdd, Nat.reduceMul, Nat.reduceLeDiff, Nat.reduceLT, Int.reduceLE, Int.reduceLT, Int.reduceNeg, Int.reduceToNat, mt, mtL, mtL_self, mt_self, mtZ, and_self, eq_self, or_true, true_or]) (by simp only [go_sem, rowV_eq, rowV_eq0, List.length_replicate, rep_len, Int.toNat_natCast, ↓reduceIte, Nat.reduceEqDiff, Nat.reduceAdd, Int.reduceAdd, Nat.reduceMul, Nat.reduceLeDiff, Nat.reduceLT, Int.reduceLE, Int.reduceLT, Int.reduceNeg, Int.reduceToNat, mt, mtL, mtL_self, mt_self, mtZ, and_self, eq_self, or_true, true_or]) (fun hw3 => ?_)
 replace hw3 := nzQ hw3
 refine spQ ?_
 have hM0 := hM; clear hM; obtain ⟨f4, d4, hf4, hd4, hM⟩ := iter_opn hM0; clear hM0
 refine ct_loop (fun n S => ∃ p : Int × Int, S = (⟨[(0, .ptr 0 0), (5, .int .u64 p.1), (10, .sl none 1 false (x1.1.map (V.int .u8))), (11, .int .i64 (x1.1.length : Int)), (12, .int .i64 p.2)], [(0, .lent (ks 0) 2 true (.agg [.sl none 1 false (x1.2.b.map (V.int .u8)), .int .i64 x1.2.e]))], 1⟩ : St) ∧ ((0 ≤ p.2) ∧ (p.2 ≤ (x1.1.length : Int))) ∧ ((x1.1.length : Int) - p.2).toNat < n ∧ iter n f4 d4 p = r) (((x1.1.length : Int) - 0).toNat + 1) _ sbQ sbQ ⟨(0, 0), rfl, ⟨omQ, omQ⟩, (Nat.lt_succ_self _), hM⟩ ?_
 clear hM
 rintro n4 S ⟨p4, rfl, hfa4, hm4, hM⟩
 have hM0 := hM; clear hM; obtain ⟨ag4, hag4, hM⟩ := iter_step hM0 (by omega) hf4; clear hM0
 replace hfa4 := nzQ hfa4
 replace hm4 := nzQ hm4
 have ha4 : addI .i64 p4.2 1 = p4.2 + 1 := add_one omQ omQ
 refine spQA ha4 ?_
 refine condC_intro (fun h5 => ?_) (fun h5 => ?_)
 ·rw [if_pos h5] at hM
  refine spQA (And.intro ha4 h5) ?_
  have nh5 := nzQ h5
  try have hr6 := mpQ nh5
  have hF := (And.intro ha4 h5)
  exact auQ
 ·rw [if_neg (ne_true h5)] at hM
  refine spQA (And.intro ha4 h5) ?_
  have nh5 := nzQ h5
  try have hr8 := mpQ nh5
  subst hM
  exact retCI_in [0] (by simp only [go_sem, rowV_eq, rowV_eq0, List.length_replicate, rep_len, Int.toNat_natCast, ↓reduceIte, Nat.reduceEqDiff, Nat.reduceAdd, Int.reduceAdd, Nat.reduceMul, Nat.reduceLeDiff, Nat.reduceLT, Int.reduceLE, Int.reduceLT, Int.reduceNeg, Int.reduceToNat, mt, mtL, mtL_self, mt_self, mtZ, and_self, eq_self, or_true, true_or, map_st, ha4, gt_cons0, gt_conss, Int.reduceSub, or_self, h5]) (by decide) (by simp only [go_sem, rowV_eq, rowV_eq0, List.length_replicate, rep_len, Int.toNat_natCast, ↓reduceIte, Nat.reduceEqDiff, Nat.reduceAdd, Int.reduceAdd, Nat.reduceMul, Nat.reduceLeDiff, Nat.reduceLT, Int.reduceLE, Int.reduceLT, Int.reduceNeg, Int.reduceToNat, mt, mtL, mtL_self, mt_self, mtZ, and_self, eq_self, or_true, true_or, map_st, ha4, gt_cons0, gt_conss, Int.reduceSub, or_self, h5])
set_option maxRecDepth 100000 in
theorem bytes_Clone_ok (z0 : Option Bool) (s : List Int) : CallOk En 54 [.sl z0 1 false (s.map (V.int .u8))] (.own 0) [.own 5 1 false none ((bytes_Clone s).map (V.int .u8))] := by
 show CallOk En 54 [.sl z0 1 false (s.map (V.int .u8))] (.own 0) [.own 5 1 false none (s.map (V.int .u8))]
 refine callOk_nil (pre := []) (post := []) (fun hl => ?_) ?_ z0
 ·have hl : s = [] := by cases s with | nil => rfl | cons a s => cases hl
  subst hl
  refine enterV En_ok En_mo noJ Tryd.func54 rfl Tryd.ntmps54 (by kernel_rfl) fun hw => ct_start ?_
  simp only [go_sem, rowV_eq, rowV_eq0, List.length_replicate, rep_len, Int.toNat_natCast, ↓reduceIte, Nat.reduceEqDiff, Nat.reduceAdd, Int.reduceAdd, Nat.reduceMul, Nat.reduceLeDiff, Nat.reduceLT, Int.reduceLE, Int.reduceLT, Int.reduceNeg, Int.reduceToNat, List.nil_append]
  exact retC_nil (by decide)
 ·refine enterV En_ok En_mo noJ Tryd.func54 rfl Tryd.ntmps54 (by kernel_rfl) fun hw => ct_start ?_
  simp only [go_sem, rowV_eq, rowV_eq0, List.length_replicate, rep_len, Int.toNat_natCast, ↓reduceIte, Nat.reduceEqDiff, Nat.reduceAdd, Int.reduceAdd, Nat.reduceMul, Nat.reduceLeDiff, Nat.reduceLT, Int.reduceLE, Int.reduceLT, Int.reduceNeg, Int.reduceToNat, List.nil_append]
  have hn : s.length ≤ 1073741824 := by have h := hw; simp only [wfL, wfV, List.nil_append, LEN_eq, List.length_map] at h; exact h.1.1
  refine bindC_intro (by first | omega | (simp only [List.length_map, List.length_nil, List.nil_append]; omega)) ?_
  refine spQ ?_
  refine retC_ownZ 0 rfl clQ
set_option maxHeartbeats 2000000 in
set_option maxRecDepth 100000 in
theorem encode_reader_item_ok (N : Nat) (ih : ∀  (r_ : S_encode_reader) (depth : Int), (0 ≤ depth) → (isB r_.b) → depth.toNat < N → CallIn En 58 [.ptr 0 0, .int .i64 depth] [.var 2 true (.agg [.sl none 1 false (r_.b.map (V.int .u8)), .int .i64 r_.e])] (.agg [.int .i64 (itemM r_ depth).1.Kind, .int .i64 (itemM r_ depth).1.N, .sl none 1 false ((itemM r_ depth).1.B.map (V.int .u8)), .sl none 4 true ((itemM r_ depth).1.L.map e_api_Item)]) [.var 2 true (.agg [.sl none 1 false ((itemM r_ depth).2.b.map (V.int .u8)), .int .i64 (itemM r_ depth).2.e])] [])  (r_ : S_encode_reader) (depth : Int) (hp0 : 0 ≤ depth) (hp1 : isB r_.b) (hp_ : depth.toNat < N + 1) : CallIn En 58 [.ptr 0 0, .int .i64 depth] [.var 2 true (.agg [.sl none 1 false (r_.b.map (V.int .u8)), .int .i64 r_.e])] (.agg [.int .i64 (encode_reader_item r_ depth).1.Kind, .int .i64 (encode_reader_item r_ depth).1.N, .sl none 1 false ((encode_reader_item r_ depth).1.B.map (V.int .u8)), .sl none 4 true ((encode_reader_item r_ depth).1.L.map e_api_Item)]) [.var 2 true (.agg [.sl none 1 false ((encode_reader_item r_ depth).2.b.map (V.int .u8)), .int .i64 (encode_reader_item r_ depth).2.e])] [] := by
 generalize hM : encode_reader_item r_ depth = r
 rw [encode_reader_item.eq_1] at hM
 refine enterI En_ok En_mo [5, 15] Tryd.func58 rfl Tryd.ntmps58 (by kernel_rfl) rfl fun ks hw hwB => ct_start ?_
 refine spQ ?_
 replace hw := nzQ hw
 try simp only [wfBs, wfB, decide_eq_true_eq, decide_eq_false_iff_not, Bool.and_eq_true, Bool.or_eq_true, Bool.not_eq_true', Bool.not_eq_false', beq_iff_eq, bne_iff_ne, beq_eq_false_iff_ne, bne_eq_false_iff_eq, ne_eq, Int.not_lt, Int.not_le, gt_iff_lt, ge_iff_le, List.length_map, wfL, wfV, and_true, true_and, LEN_eq, rng_i64, rng_u64, rng_u32, rng_i32, sl_len, st_len, List.length_append, List.length_cons, List.length_nil, List.length_replicate, rep_len, rowV_len, spl_len, cutN_len, arrN_len, nat8_len, remI_nn] at hwB
 have hM0 := hM; clear hM; obtain ⟨x1, hx2, hM⟩ := letk_opn hM0; clear hM0
 have hcx1 := encode_reader_number_ok  r_ 1 (by (first | assumption | omega))
 rw [← hx2] at hcx1
 refine callC_in [0] hcx1 (by decide) (by simp only [go_sem, rowV_eq, rowV_eq0, List.length_replicate, rep_len, Int.toNat_natCast, ↓reduceIte, Nat.reduceEqDiff, Nat.reduceAdd, Int.reduceAdd, Nat.reduceMul, Nat.reduceLeDiff, Nat.reduceLT, Int.reduceLE, Int.reduceLT, Int.reduceNeg, Int.reduceToNat, mt, mtL, mtL_self, mt_self, mtZ, and_self, eq_self, or_true, true_or]) (by simp only [go_sem, rowV_eq, rowV_eq0, List.length_replicate, rep_len, Int.toNat_natCast, ↓reduceIte, Nat.reduceEqDiff, Nat.reduceAdd, Int.reduceAdd, Nat.reduceMul, Nat.reduceLeDiff, Nat.reduceLT, Int.reduceLE, Int.reduceLT, Int.reduceNeg, Int.reduceToNat, mt, mtL, mtL_self, mt_self, mtZ, and_self, eq_self, or_true, true_or]) (fun hw3 => ?_)
 replace hw3 := nzQ hw3
 refine spQ ?_
 have hq4 := rnum_fact hx2 (by assumption)
 replace hq4 := nzQ hq4
 have hq5 := rnum_isB hx2 (by assumption)
 replace hq5 := nzQ hq5
 have hM0 := hM; clear hM; obtain ⟨j6, hj6, hM⟩ := letj_opn hM0; clear hM0
 refine seqC_intro (fun S => ∃ p : Unit, S = (⟨[(0, .ptr 0 0), (1, .int .i64 depth), (4, .ptr 1 0), (5, .int .i64 (convI .i64 x1.1))], [(0, .lent (ks 0) 2 true (.agg [.sl none 1 false (x1.2.b.map (V.int .u8)), .int .i64 x1.2.e])), (1, .var 4 true (.agg [.int .i64 0, .int .i64 0, .sl (some true) 1 false [], .sl (some true) 4 true []]))], 2⟩ : St) ∧ (((convI .i64 x1.1) ≠ 3 ∨ depth ≠ 0)) ∧ j6 p = r) ?_ (fun hcut6 => ?_)
 ·clear hM
  rintro S ⟨p6, rfl, hfa6, hM⟩
  replace hfa6 := nzQ hfa6
  have hM0 := hM; clear hM; have hM := letj_use hM0 hj6; clear hM0
  refine spQ ?_
  refine condC_intro (fun h7 => ?_) (fun h7 => ?_)
  ·rw [if_pos h7] at hM
   refine spQA h7 ?_
   have nh7 := nzQ h7
   try have hr8 := mpQ nh7
   have hM0 := hM; clear hM; obtain ⟨x9, hx10, hM⟩ := letk_opn hM0; clear hM0
   have hcx9 := encode_reader_number_ok  (x1.2) 8 (by (first | assumption | omega))
   rw [← hx10] at hcx9
   refine callC_in [0] hcx9 (by decide) (by simp only [go_sem, rowV_eq, rowV_eq0, List.length_replicate, rep_len, Int.toNat_natCast, ↓reduceIte, Nat.reduceEqDiff, Nat.reduceAdd, Int.reduceAdd, Nat.reduceMul, Nat.reduceLeDiff, Nat.reduceLT, Int.reduceLE, Int.reduceLT, Int.reduceNeg, Int.reduceToNat, mt, mtL, mtL_self, mt_self, mtZ, and_self, eq_self, or_true, true_or]) (by simp only [go_sem, rowV_eq, rowV_eq0, List.length_replicate, rep_len, Int.toNat_natCast, ↓reduceIte, Nat.reduceEqDiff, Nat.reduceAdd, Int.reduceAdd, Nat.reduceMul, Nat.reduceLeDiff, Nat.reduceLT, Int.reduceLE, Int.reduceLT, Int.reduceNeg, Int.reduceToNat, mt, mtL, mtL_self, mt_self, mtZ, and_self, eq_self, or_true, true_or]) (fun hw11 => ?_)
   replace hw11 := nzQ hw11
   refine spQ ?_
   have hq12 := rnum_fact hx10 (by assumption)
   replace hq12 := nzQ hq12
   have hq13 := rnum_isB hx10 (by assumption)
   replace hq13 := nzQ hq13
   subst hM
   exact retCI_in [0] (by simp only [go_sem, rowV_eq, rowV_eq0, List.length_replicate, rep_len, Int.toNat_natCast, ↓reduceIte, Nat.reduceEqDiff, Nat.reduceAdd, Int.reduceAdd, Nat.reduceMul, Nat.reduceLeDiff, Nat.reduceLT, Int.reduceLE, Int.reduceLT, Int.reduceNeg, Int.reduceToNat, mt, mtL, mtL_self, mt_self, mtZ, and_self, eq_self, or_true, true_or, map_st, gt_cons0, gt_conss, Int.reduceSub, or_self, h7]) (by decide) (by simp only [go_sem, rowV_eq, rowV_eq0, List.length_replicate, rep_len, Int.toNat_natCast, ↓reduceIte, Nat.reduceEqDiff, Nat.reduceAdd, Int.reduceAdd, Nat.reduceMul, Nat.reduceLeDiff, Nat.reduceLT, Int.reduceLE, Int.reduceLT, Int.reduceNeg, Int.reduceToNat, mt, mtL, mtL_self, mt_self, mtZ, and_self, eq_self, or_true, true_or, map_st, gt_cons0, gt_conss, Int.reduceSub, or_self, h7])
  ·rw [if_neg (ne_true h7)] at hM
   refine spQA h7 ?_
   have nh7 := nzQ h7
   try have hr14 := mpQ nh7
   refine condC_intro (fun h15 => ?_) (fun h15 => ?_)
   ·rw [if_pos h15] at hM
    refine spQA h15 ?_
    have nh15 := nzQ h15
    try have hr16 := mpQ nh15
    have hM0 := hM; clear hM; obtain ⟨x17, hx18, hM⟩ := letk_opn hM0; clear hM0
    have hcx17 := encode_reader_number_ok  (x1.2) 4 (by (first | assumption | omega))
    rw [← hx18] at hcx17
    refine callC_in [0] hcx17 (by decide) (by simp only [go_sem, rowV_eq, rowV_eq0, List.length_replicate, rep_len, Int.toNat_natCast, ↓reduceIte, Nat.reduceEqDiff, Nat.reduceAdd, Int.reduceAdd, Nat.reduceMul, Nat.reduceLeDiff, Nat.reduceLT, Int.reduceLE, Int.reduceLT, Int.reduceNeg, Int.reduceToNat, mt, mtL, mtL_self, mt_self, mtZ, and_self, eq_self, or_true, true_or]) (by simp only [go_sem, rowV_eq, rowV_eq0, List.length_replicate, rep_len, Int.toNat_natCast, ↓reduceIte, Nat.reduceEqDiff, Nat.reduceAdd, Int.reduceAdd, Nat.reduceMul, Nat.reduceLeDiff, Nat.reduceLT, Int.reduceLE, Int.reduceLT, Int.reduceNeg, Int.reduceToNat, mt, mtL, mtL_self, mt_self, mtZ, and_self, eq_self, or_true, true_or]) (fun hw19 => ?_)
    replace hw19 := nzQ hw19
    refine spQ ?_
    have hq20 := rnum_fact hx18 (by assumption)
    replace hq20 := nzQ hq20
    have hq21 := rnum_isB hx18 (by assumption)
    replace hq21 := nzQ hq21
    have hM0 := hM; clear hM; obtain ⟨x22, hx23, hM⟩ := letk_opn hM0; clear hM0
    have hcx22 := encode_reader_take_ok  (x17.2) (convI .i64 x17.1) (by (first | assumption | omega))
    rw [← hx23] at hcx22
    refine callC_in [0] hcx22 (by decide) (by simp only [go_sem, rowV_eq, rowV_eq0, List.length_replicate, rep_len, Int.toNat_natCast, ↓reduceIte, Nat.reduceEqDiff, Nat.reduceAdd, Int.reduceAdd, Nat.reduceMul, Nat.reduceLeDiff, Nat.reduceLT, Int.reduceLE, Int.reduceLT, Int.reduceNeg, Int.reduceToNat, mt, mtL, mtL_self, mt_self, mtZ, and_self, eq_self, or_true, true_or]) (by simp only [go_sem, rowV_eq, rowV_eq0, List.length_replicate, rep_len, Int.toNat_natCast, ↓reduceIte, Nat.reduceEqDiff, Nat.reduceAdd, Int.reduceAdd, Nat.reduceMul, Nat.reduceLeDiff, Nat.reduceLT, Int.reduceLE, Int.reduceLT, Int.reduceNeg, Int.reduceToNat, mt, mtL, mtL_self, mt_self, mtZ, and_self, eq_self, or_true, true_or]) (fun hw24 => ?_)
    replace hw24 := nzQ hw24
    refine spQ ?_
    have hq25 := take_isB hx23 (by assumption)
    replace hq25 := nzQ hq25
    have hM0 := hM; clear hM; obtain ⟨x26, hx27, hM⟩ := letk_opn hM0; clear hM0
    have hcx26 := bytes_Clone_ok none (x22.1) 
    rw [← hx27] at hcx26
    refine callC_give hcx26 clQ clQ (fun hw28 => ?_)
    replace hw28 := nzQ hw28
    refine spQ ?_
    have hq29 := nzQ (cfU hx27)
    subst hM
    exact retCI_in [0] (by simp only [go_sem, rowV_eq, rowV_eq0, List.length_replicate, rep_len, Int.toNat_natCast, ↓reduceIte, Nat.reduceEqDiff, Nat.reduceAdd, Int.reduceAdd, Nat.reduceMul, Nat.reduceLeDiff, Nat.reduceLT, Int.reduceLE, Int.reduceLT, Int.reduceNeg, Int.reduceToNat, mt, mtL, mtL_self, mt_self, mtZ, and_self, eq_self, or_true, true_or, map_st, gt_cons0, gt_conss, Int.reduceSub, or_self, h7, h15]) (by decide) (by simp only [go_sem, rowV_eq, rowV_eq0, List.length_replicate, rep_len, Int.toNat_natCast, ↓reduceIte, Nat.reduceEqDiff, Nat.reduceAdd, Int.reduceAdd, Nat.reduceMul, Nat.reduceLeDiff, Nat.reduceLT, Int.reduceLE, Int.reduceLT, Int.reduceNeg, Int.reduceToNat, mt, mtL, mtL_self, mt_self, mtZ, and_self, eq_self, or_true, true_or, map_st, gt_cons0, gt_conss, Int.reduceSub, or_self, h7, h15])
   ·rw [if_neg (ne_true h15)] at hM
    refine spQA h15 ?_
    have nh15 := nzQ h15
    try have hr30 := mpQ nh15
    refine condC_intro (fun h31 => ?_) (fun h31 => ?_)
    ·rw [if_pos h31] at hM
     refine spQA h31 ?_
     have nh31 := nzQ h31
     try have hr32 := mpQ nh31
     have hM0 := hM; clear hM; obtain ⟨x33, hx34, hM⟩ := letk_opn hM0; clear hM0
     have hcx33 := encode_reader_number_ok  (x1.2) 4 (by (first | assumption | omega))
     rw [← hx34] at hcx33
     refine callC_in [0] hcx33 (by decide) (by simp only [go_sem, rowV_eq, rowV_eq0, List.length_replicate, rep_len, Int.toNat_natCast, ↓reduceIte, Nat.reduceEqDiff, Nat.reduceAdd, Int.reduceAdd, Nat.reduceMul, Nat.reduceLeDiff, Nat.reduceLT, Int.reduceLE, Int.reduceLT, Int.reduceNeg, Int.reduceToNat, mt, mtL, mtL_self, mt_self, mtZ, and_self, eq_self, or_true, true_or]) (by simp only [go_sem, rowV_eq, rowV_eq0, List.length_replicate, rep_len, Int.toNat_natCast, ↓reduceIte, Nat.reduceEqDiff, Nat.reduceAdd, Int.reduceAdd, Nat.reduceMul, Nat.reduceLeDiff, Nat.reduceLT, Int.reduceLE, Int.reduceLT, Int.reduceNeg, Int.reduceToNat, mt, mtL, mtL_self, mt_self, mtZ, and_self, eq_self, or_true, true_or]) (fun hw35 => ?_)
     replace hw35 := nzQ hw35
     refine spQ ?_
     have hq36 := rnum_fact hx34 (by assumption)
     replace hq36 := nzQ hq36
     have hq37 := rnum_isB hx34 (by assumption)
     replace hq37 := nzQ hq37
     have hM0 := hM; clear hM; obtain ⟨j38, hj38, hM⟩ := letj_opn hM0; clear hM0
     refine seqC_intro (fun S => ∃ p : S_encode_reader, S = (⟨[(0, .ptr 0 0), (1, .int .i64 depth), (4, .ptr 1 0), (6, .ptr 2 0), (7, .int .i64 (convI .i64 x33.1))], [(0, .lent (ks 0) 2 true (.agg [.sl none 1 false (p.b.map (V.int .u8)), .int .i64 p.e])), (1, .var 4 true (.agg [.int .i64 0, .int .i64 0, .sl (some true) 1 false [], .sl (some true) 4 true []])), (2, .var 4 true (.agg [.int .i64 (convI .i64 x1.1), .int .i64 0, .sl (some true) 1 false [], .sl (some true) 4 true []]))], 3⟩ : St) ∧ ((((convI .i64 x33.1) ≤ 1000 ∨ (p).e ≠ 0) ∧ (0 ≤ (convI .i64 x33.1))) ∧ (isB (p).b)) ∧ j38 p = r) ?_ (fun hcut38 => ?_)
     ·clear hM
      rintro S ⟨p38, rfl, ⟨hfa38, hF15_0⟩, hM⟩
      replace hfa38 := nzQ hfa38
      have hM0 := hM; clear hM; have hM := letj_use hM0 hj38; clear hM0
      refine spQ ?_
      have hM0 := hM; clear hM; obtain ⟨f39, d39, hf39, hd39, hM⟩ := iter_opn hM0; clear hM0
      refine ct_loopW (fun n S => ∃ p : Int × S_encode_reader × List S_api_Item, S = (⟨[(0, .ptr 0 0), (1, .int .i64 depth), (4, .ptr 1 0), (6, .ptr 2 0), (55, .int .i64 (convI .i64 x33.1)), (56, .int .i64 p.1)], [(0, .lent (ks 0) 2 true (.agg [.sl none 1 false (p.2.1.b.map (V.int .u8)), .int .i64 p.2.1.e])), (1, .var 4 true (.agg [.int .i64 0, .int .i64 0, .sl (some true) 1 false [], .sl (some true) 4 true []])), (2, .var 4 true (.agg [.int .i64 (convI .i64 x1.1), .int .i64 0, .sl (some true) 1 false [], .own 3])), (3, .own 53 4 true none (p.2.2.map e_api_Item))], 4⟩ : St) ∧ (((0 ≤ p.1) ∧ (p.1 ≤ (convI .i64 x33.1)) ∧ ((convI .i64 x33.1) ≤ 1000 ∨ (p.2.1).e ≠ 0) ∧ (((p.2.2).length : Int) ≤ p.1)) ∧ (isB (p.2.1).b)) ∧ ((convI .i64 x33.1) - p.1).toNat < n ∧ iter n f39 d39 p = r) (((convI .i64 x33.1) - 0).toNat + 1) _ _ (weak_nilV 2 3 53 rfl rfl (by decide)) sbQ sbQ ⟨(0, p38, ([] : List S_api_Item)), rfl, ⟨⟨omQ, omQ, omQ, omQ⟩, by assumption⟩, (Nat.lt_succ_self _), hM⟩ ?_
      clear hM
      rintro n39 S ⟨p39, rfl, ⟨hfa39, hF16_0⟩, hm39, hM⟩
      have hM0 := hM; clear hM; obtain ⟨ag39, hag39, hM⟩ := iter_step hM0 (by omega) hf39; clear hM0
      replace hfa39 := nzQ hfa39
      replace hm39 := nzQ hm39
      have ha39 : addI .i64 p39.1 1 = p39.1 + 1 := add_one omQ omQ
      refine spQA ha39 ?_
      refine condC_intro (fun h40 => ?_) (fun h40 => ?_)
      ·rw [if_pos h40] at hM
       refine spQA (And.intro ha39 h40) ?_
       have nh40 := nzQ h40
       try have hr41 := mpQ nh40
       refine condC_intro (fun h42 => ?_) (fun h42 => ?_)
       ·rw [if_pos h42] at hM
        refine spQA (And.intro ha39 h42) ?_
        have nh42 := nzQ h42
        try have hr43 := mpQ nh42
        subst hM
        exact retCI_in [0] (by simp only [go_sem, rowV_eq, rowV_eq0, List.length_replicate, rep_len, Int.toNat_natCast, ↓reduceIte, Nat.reduceEqDiff, Nat.reduceAdd, Int.reduceAdd, Nat.reduceMul, Nat.reduceLeDiff, Nat.reduceLT, Int.reduceLE, Int.reduceLT, Int.reduceNeg, Int.reduceToNat, mt, mtL, mtL_self, mt_self, mtZ, and_self, eq_self, or_true, true_or, map_st, ha39, gt_cons0, gt_conss, Int.reduceSub, or_self, h7, h15, h31, h40, h42]) (by decide) (by simp only [go_sem, rowV_eq, rowV_eq0, List.length_replicate, rep_len, Int.toNat_natCast, ↓reduceIte, Nat.reduceEqDiff, Nat.reduceAdd, Int.reduceAdd, Nat.reduceMul, Nat.reduceLeDiff, Nat.reduceLT, Int.reduceLE, Int.reduceLT, Int.reduceNeg, Int.reduceToNat, mt, mtL, mtL_self, mt_self, mtZ, and_self, eq_self, or_true, true_or, map_st, ha39, gt_cons0, gt_conss, Int.reduceSub, or_self, h7, h15, h31, h40, h42])
       ·rw [if_neg (ne_true h42)] at hM
        refine spQA (And.intro ha39 h42) ?_
        have nh42 := nzQ h42
        try have hr44 := mpQ nh42
        refine ct_draw 74 7 [63, 64, 65, 66, 67, 68, 69] [] ([[], [0], [], [], [3], [2, 3, 4], [2, 3, 4, 5]] ++ [List.range 7, List.range 8, List.range 9]) [(5, 0)] (by kernel_rfl) (by exact alQ) ?_
        refine spQA ha39 ?_
        have ha45 : subI .i64 depth 1 = (depth - 1) := sub_ok omQ omQ
        try simp only [ha45]
        have hM0 := hM; clear hM; obtain ⟨x46, hx47, hM⟩ := letk_opn hM0; clear hM0
        have hcx46 := ih  (p39.2.1) (depth - 1) (by (first | assumption | omega)) (by (first | assumption | omega)) (by omega)
        rw [← hx47] at hcx46
        refine hcallC_upd 0 hcx46 rfl rfl (by simp only [go_sem, rowV_eq, rowV_eq0, List.length_replicate, rep_len, Int.toNat_natCast, ↓reduceIte, Nat.reduceEqDiff, Nat.reduceAdd, Int.reduceAdd, Nat.reduceMul, Nat.reduceLeDiff, Nat.reduceLT, Int.reduceLE, Int.reduceLT, Int.reduceNeg, Int.reduceToNat, mt, mtL, mtL_self, mt_self, mtZ, and_self, eq_self, or_true, true_or, ha39, ha45]) (by simp only [go_sem, rowV_eq, rowV_eq0, List.length_replicate, rep_len, Int.toNat_natCast, ↓reduceIte, Nat.reduceEqDiff, Nat.reduceAdd, Int.reduceAdd, Nat.reduceMul, Nat.reduceLeDiff, Nat.reduceLT, Int.reduceLE, Int.reduceLT, Int.reduceNeg, Int.reduceToNat, mt, mtL, mtL_self, mt_self, mtZ, and_self, eq_self, or_true, true_or, ha39, ha45]) (by simp only [go_sem, rowV_eq, rowV_eq0, List.length_replicate, rep_len, Int.toNat_natCast, ↓reduceIte, Nat.reduceEqDiff, Nat.reduceAdd, Int.reduceAdd, Nat.reduceMul, Nat.reduceLeDiff, Nat.reduceLT, Int.reduceLE, Int.reduceLT, Int.reduceNeg, Int.reduceToNat, mt, mtL, mtL_self, mt_self, mtZ, and_self, eq_self, or_true, true_or, ha39, ha45]) (by simp only [go_sem, rowV_eq, rowV_eq0, List.length_replicate, rep_len, Int.toNat_natCast, ↓reduceIte, Nat.reduceEqDiff, Nat.reduceAdd, Int.reduceAdd, Nat.reduceMul, Nat.reduceLeDiff, Nat.reduceLT, Int.reduceLE, Int.reduceLT, Int.reduceNeg, Int.reduceToNat, mt, mtL, mtL_self, mt_self, mtZ, and_self, eq_self, or_true, true_or, ha39, ha45]) (by simp only [go_sem, rowV_eq, rowV_eq0, List.length_replicate, rep_len, Int.toNat_natCast, ↓reduceIte, Nat.reduceEqDiff, Nat.reduceAdd, Int.reduceAdd, Nat.reduceMul, Nat.reduceLeDiff, Nat.reduceLT, Int.reduceLE, Int.reduceLT, Int.reduceNeg, Int.reduceToNat, mt, mtL, mtL_self, mt_self, mtZ, and_self, eq_self, or_true, true_or, ha39, ha45]) ?_
        refine spQA (And.intro ha39 ha45) ?_
        have hq48 := item_isB hx47 (by assumption)
        replace hq48 := nzQ hq48
        refine bindC_intro omQ ?_
        refine spQA (And.intro ha39 ha45) ?_
        refine lp_intro (n39 - 1) _ (by omega) sbQ sbQ ⟨((p39.1 + 1), x46.2, (p39.2.2 ++ ([x46.1] : List S_api_Item))), rfl, ⟨⟨omQ, omQ, omQ, omQ⟩, by assumption⟩, omQ, iter_again hM hag39⟩
      ·rw [if_neg (ne_true h40)] at hM
       refine spQA (And.intro ha39 h40) ?_
       have nh40 := nzQ h40
       try have hr49 := mpQ nh40
       subst hM
       exact retCI_in [0] (by simp only [go_sem, rowV_eq, rowV_eq0, List.length_replicate, rep_len, Int.toNat_natCast, ↓reduceIte, Nat.reduceEqDiff, Nat.reduceAdd, Int.reduceAdd, Nat.reduceMul, Nat.reduceLeDiff, Nat.reduceLT, Int.reduceLE, Int.reduceLT, Int.reduceNeg, Int.reduceToNat, mt, mtL, mtL_self, mt_self, mtZ, and_self, eq_self, or_true, true_or, map_st, ha39, gt_cons0, gt_conss, Int.reduceSub, or_self, h7, h15, h31, h40]) (by decide) (by simp only [go_sem, rowV_eq, rowV_eq0, List.length_replicate, rep_len, Int.toNat_natCast, ↓reduceIte, Nat.reduceEqDiff, Nat.reduceAdd, Int.reduceAdd, Nat.reduceMul, Nat.reduceLeDiff, Nat.reduceLT, Int.reduceLE, Int.reduceLT, Int.reduceNeg, Int.reduceToNat, mt, mtL, mtL_self, mt_self, mtZ, and_self, eq_self, or_true, true_or, map_st, ha39, gt_cons0, gt_conss, Int.reduceSub, or_self, h7, h15, h31, h40])
     ·refine spQ ?_
      refine condC_intro (fun h50 => ?_) (fun h50 => ?_)
      ·rw [if_pos h50] at hM
       refine spQA h50 ?_
       have nh50 := nzQ h50
       try have hr51 := mpQ nh50
       have hM0 := hM; clear hM; obtain ⟨x52, hx53, hM⟩ := letk_opn hM0; clear hM0
       have hcx52 := encode_reader_fail_ok  (x33.2) 3 
       rw [← hx53] at hcx52
       refine callC_in [0] hcx52 (by decide) (by simp only [go_sem, rowV_eq, rowV_eq0, List.length_replicate, rep_len, Int.toNat_natCast, ↓reduceIte, Nat.reduceEqDiff, Nat.reduceAdd, Int.reduceAdd, Nat.reduceMul, Nat.reduceLeDiff, Nat.reduceLT, Int.reduceLE, Int.reduceLT, Int.reduceNeg, Int.reduceToNat, mt, mtL, mtL_self, mt_self, mtZ, and_self, eq_self, or_true, true_or]) (by simp only [go_sem, rowV_eq, rowV_eq0, List.length_replicate, rep_len, Int.toNat_natCast, ↓reduceIte, Nat.reduceEqDiff, Nat.reduceAdd, Int.reduceAdd, Nat.reduceMul, Nat.reduceLeDiff, Nat.reduceLT, Int.reduceLE, Int.reduceLT, Int.reduceNeg, Int.reduceToNat, mt, mtL, mtL_self, mt_self, mtZ, and_self, eq_self, or_true, true_or]) (fun hw54 => ?_)
       replace hw54 := nzQ hw54
       refine spQ ?_
       have hq55 := fail_ne hx53 (by decide)
       replace hq55 := nzQ hq55
       have hq56 := fail_isB hx53 (by assumption)
       replace hq56 := nzQ hq56
       exact cut_intro _ sbQ sbQ (hcut38 _ ⟨x52, rfl, ⟨⟨omQ, omQ⟩, by assumption⟩, hM⟩)
      ·rw [if_neg (ne_true h50)] at hM
       refine spQA h50 ?_
       have nh50 := nzQ h50
       try have hr57 := mpQ nh50
       exact cut_intro _ sbQ sbQ (hcut38 _ ⟨x33.2, rfl, ⟨⟨omQ, omQ⟩, by assumption⟩, hM⟩)
    ·rw [if_neg (ne_true h31)] at hM
     refine spQA h31 ?_
     have nh31 := nzQ h31
     try have hr58 := mpQ nh31
     subst hM
     exact retCI_in [0] (by simp only [go_sem, rowV_eq, rowV_eq0, List.length_replicate, rep_len, Int.toNat_natCast, ↓reduceIte, Nat.reduceEqDiff, Nat.reduceAdd, Int.reduceAdd, Nat.reduceMul, Nat.reduceLeDiff, Nat.reduceLT, Int.reduceLE, Int.reduceLT, Int.reduceNeg, Int.reduceToNat, mt, mtL, mtL_self, mt_self, mtZ, and_self, eq_self, or_true, true_or, map_st, gt_cons0, gt_conss, Int.reduceSub, or_self, h7, h15, h31]) (by decide) (by simp only [go_sem, rowV_eq, rowV_eq0, List.length_replicate, rep_len, Int.toNat_natCast, ↓reduceIte, Nat.reduceEqDiff, Nat.reduceAdd, Int.reduceAdd, Nat.reduceMul, Nat.reduceLeDiff, Nat.reduceLT, Int.reduceLE, Int.reduceLT, Int.reduceNeg, Int.reduceToNat, mt, mtL, mtL_self, mt_self, mtZ, and_self, eq_self, or_true, true_or, map_st, gt_cons0, gt_conss, Int.reduceSub, or_self, h7, h15, h31])
 ·refine spQ ?_
  refine guardC_f (fun h59 => ?_) (fun h59 => ?_)
  ·rw [if_neg (ne_true h59)] at hM
   refine spQA h59 ?_
   have nh59 := nzQ h59
   try have hr60 := mpQ nh59
   refine guardC_f (fun h61 => ?_) (fun h61 => ?_)
   ·rw [if_neg (ne_true h61)] at hM
    refine spQA h61 ?_
    have nh61 := nzQ h61
    try have hr62 := mpQ nh61
    refine guardC_t (fun h63 => ?_) (fun h63 => ?_)
    ·rw [if_pos h63] at hM
     refine spQA h63 ?_
     have nh63 := nzQ h63
     try have hr64 := mpQ nh63
     refine condC_intro (fun h65 => ?_) (fun h65 => ?_)
     ·rw [if_pos h65] at hM
      refine spQA h65 ?_
      have nh65 := nzQ h65
      try have hr66 := mpQ nh65
      have hM0 := hM; clear hM; obtain ⟨x67, hx68, hM⟩ := letk_opn hM0; clear hM0
      have hcx67 := encode_reader_fail_ok  (x1.2) 3 
      rw [← hx68] at hcx67
      refine callC_in [0] hcx67 (by decide) (by simp only [go_sem, rowV_eq, rowV_eq0, List.length_replicate, rep_len, Int.toNat_natCast, ↓reduceIte, Nat.reduceEqDiff, Nat.reduceAdd, Int.reduceAdd, Nat.reduceMul, Nat.reduceLeDiff, Nat.reduceLT, Int.reduceLE, Int.reduceLT, Int.reduceNeg, Int.reduceToNat, mt, mtL, mtL_self, mt_self, mtZ, and_self, eq_self, or_true, true_or]) (by simp only [go_sem, rowV_eq, rowV_eq0, List.length_replicate, rep_len, Int.toNat_natCast, ↓reduceIte, Nat.reduceEqDiff, Nat.reduceAdd, Int.reduceAdd, Nat.reduceMul, Nat.reduceLeDiff, Nat.reduceLT, Int.reduceLE, Int.reduceLT, Int.reduceNeg, Int.reduceToNat, mt, mtL, mtL_self, mt_self, mtZ, and_self, eq_self, or_true, true_or]) (fun hw69 => ?_)
      replace hw69 := nzQ hw69
      refine spQ ?_
      have hq70 := fail_ne hx68 (by decide)
      replace hq70 := nzQ hq70
      have hq71 := fail_isB hx68 (by assumption)
      replace hq71 := nzQ hq71
      subst hM
      exact retCI_in [0] (by simp only [go_sem, rowV_eq, rowV_eq0, List.length_replicate, rep_len, Int.toNat_natCast, ↓reduceIte, Nat.reduceEqDiff, Nat.reduceAdd, Int.reduceAdd, Nat.reduceMul, Nat.reduceLeDiff, Nat.reduceLT, Int.reduceLE, Int.reduceLT, Int.reduceNeg, Int.reduceToNat, mt, mtL, mtL_self, mt_self, mtZ, and_self, eq_self, or_true, true_or, map_st, gt_cons0, gt_conss, Int.reduceSub, or_self, h59, h61, h63, h65]) (by decide) (by simp only [go_sem, rowV_eq, rowV_eq0, List.length_replicate, rep_len, Int.toNat_natCast, ↓reduceIte, Nat.reduceEqDiff, Nat.reduceAdd, Int.reduceAdd, Nat.reduceMul, Nat.reduceLeDiff, Nat.reduceLT, Int.reduceLE, Int.reduceLT, Int.reduceNeg, Int.reduceToNat, mt, mtL, mtL_self, mt_self, mtZ, and_self, eq_self, or_true, true_or, map_st, gt_cons0, gt_conss, Int.reduceSub, or_self, h59, h61, h63, h65])
     ·rw [if_neg (ne_true h65)] at hM
      refine spQA h65 ?_
      have nh65 := nzQ h65
      try have hr72 := mpQ nh65
      exact cut_intro _ sbQ sbQ (hcut6 _ ⟨(), rfl, omQ, hM⟩)
    ·rw [if_neg (ne_true h63)] at hM
     refine spQA h63 ?_
     have nh63 := nzQ h63
     try have hr73 := mpQ nh63
     exact cut_intro _ sbQ sbQ (hcut6 _ ⟨(), rfl, omQ, hM⟩)
   ·rw [if_pos h61] at hM
    refine spQA h61 ?_
    have nh61 := nzQ h61
    try have hr74 := mpQ nh61
    have hM0 := hM; clear hM; obtain ⟨x75, hx76, hM⟩ := letk_opn hM0; clear hM0
    have hcx75 := encode_reader_fail_ok  (x1.2) 3 
    rw [← hx76] at hcx75
    refine callC_in [0] hcx75 (by decide) (by simp only [go_sem, rowV_eq, rowV_eq0, List.length_replicate, rep_len, Int.toNat_natCast, ↓reduceIte, Nat.reduceEqDiff, Nat.reduceAdd, Int.reduceAdd, Nat.reduceMul, Nat.reduceLeDiff, Nat.reduceLT, Int.reduceLE, Int.reduceLT, Int.reduceNeg, Int.reduceToNat, mt, mtL, mtL_self, mt_self, mtZ, and_self, eq_self, or_true, true_or]) (by simp only [go_sem, rowV_eq, rowV_eq0, List.length_replicate, rep_len, Int.toNat_natCast, ↓reduceIte, Nat.reduceEqDiff, Nat.reduceAdd, Int.reduceAdd, Nat.reduceMul, Nat.reduceLeDiff, Nat.reduceLT, Int.reduceLE, Int.reduceLT, Int.reduceNeg, Int.reduceToNat, mt, mtL, mtL_self, mt_self, mtZ, and_self, eq_self, or_true, true_or]) (fun hw77 => ?_)
    replace hw77 := nzQ hw77
    refine spQ ?_
    have hq78 := fail_ne hx76 (by decide)
    replace hq78 := nzQ hq78
    have hq79 := fail_isB hx76 (by assumption)
    replace hq79 := nzQ hq79
    subst hM
    exact retCI_in [0] (by simp only [go_sem, rowV_eq, rowV_eq0, List.length_replicate, rep_len, Int.toNat_natCast, ↓reduceIte, Nat.reduceEqDiff, Nat.reduceAdd, Int.reduceAdd, Nat.reduceMul, Nat.reduceLeDiff, Nat.reduceLT, Int.reduceLE, Int.reduceLT, Int.reduceNeg, Int.reduceToNat, mt, mtL, mtL_self, mt_self, mtZ, and_self, eq_self, or_true, true_or, map_st, gt_cons0, gt_conss, Int.reduceSub, or_self, h59, h61]) (by decide) (by simp only [go_sem, rowV_eq, rowV_eq0, List.length_replicate, rep_len, Int.toNat_natCast, ↓reduceIte, Nat.reduceEqDiff, Nat.reduceAdd, Int.reduceAdd, Nat.reduceMul, Nat.reduceLeDiff, Nat.reduceLT, Int.reduceLE, Int.reduceLT, Int.reduceNeg, Int.reduceToNat, mt, mtL, mtL_self, mt_self, mtZ, and_self, eq_self, or_true, true_or, map_st, gt_cons0, gt_conss, Int.reduceSub, or_self, h59, h61])
  ·rw [if_pos h59] at hM
   refine spQA h59 ?_
   have nh59 := nzQ h59
   try have hr80 := mpQ nh59
   have hM0 := hM; clear hM; obtain ⟨x81, hx82, hM⟩ := letk_opn hM0; clear hM0
   have hcx81 := encode_reader_fail_ok  (x1.2) 3 
   rw [← hx82] at hcx81
   refine callC_in [0] hcx81 (by decide) (by simp only [go_sem, rowV_eq, rowV_eq0, List.length_replicate, rep_len, Int.toNat_natCast, ↓reduceIte, Nat.reduceEqDiff, Nat.reduceAdd, Int.reduceAdd, Nat.reduceMul, Nat.reduceLeDiff, Nat.reduceLT, Int.reduceLE, Int.reduceLT, Int.reduceNeg, Int.reduceToNat, mt, mtL, mtL_self, mt_self, mtZ, and_self, eq_self, or_true, true_or]) (by simp only [go_sem, rowV_eq, rowV_eq0, List.length_replicate, rep_len, Int.toNat_natCast, ↓reduceIte, Nat.reduceEqDiff, Nat.reduceAdd, Int.reduceAdd, Nat.reduceMul, Nat.reduceLeDiff, Nat.reduceLT, Int.reduceLE, Int.reduceLT, Int.reduceNeg, Int.reduceToNat, mt, mtL, mtL_self, mt_self, mtZ, and_self, eq_self, or_true, true_or]) (fun hw83 => ?_)
   replace hw83 := nzQ hw83
   refine spQ ?_
   have hq84 := fail_ne hx82 (by decide)
   replace hq84 := nzQ hq84
   have hq85 := fail_isB hx82 (by assumption)
   replace hq85 := nzQ hq85
   subst hM
   exact retCI_in [0] (by simp only [go_sem, rowV_eq, rowV_eq0, List.length_replicate, rep_len, Int.toNat_natCast, ↓reduceIte, Nat.reduceEqDiff, Nat.reduceAdd, Int.reduceAdd, Nat.reduceMul, Nat.reduceLeDiff, Nat.reduceLT, Int.reduceLE, Int.reduceLT, Int.reduceNeg, Int.reduceToNat, mt, mtL, mtL_self, mt_self, mtZ, and_self, eq_self, or_true, true_or, map_st, gt_cons0, gt_conss, Int.reduceSub, or_self, h59]) (by decide) (by simp only [go_sem, rowV_eq, rowV_eq0, List.length_replicate, rep_len, Int.toNat_natCast, ↓reduceIte, Nat.reduceEqDiff, Nat.reduceAdd, Int.reduceAdd, Nat.reduceMul, Nat.reduceLeDiff, Nat.reduceLT, Int.reduceLE, Int.reduceLT, Int.reduceNeg, Int.reduceToNat, mt, mtL, mtL_self, mt_self, mtZ, and_self, eq_self, or_true, true_or, map_st, gt_cons0, gt_conss, Int.reduceSub, or_self, h59])
theorem itemM_okN : ∀ (N : Nat)  (r_ : S_encode_reader) (depth : Int), (0 ≤ depth) → (isB r_.b) → depth.toNat < N → CallIn En 58 [.ptr 0 0, .int .i64 depth] [.var 2 true (.agg [.sl none 1 false (r_.b.map (V.int .u8)), .int .i64 r_.e])] (.agg [.int .i64 (itemM r_ depth).1.Kind, .int .i64 (itemM r_ depth).1.N, .sl none 1 false ((itemM r_ depth).1.B.map (V.int .u8)), .sl none 4 true ((itemM r_ depth).1.L.map e_api_Item)]) [.var 2 true (.agg [.sl none 1 false ((itemM r_ depth).2.b.map (V.int .u8)), .int .i64 (itemM r_ depth).2.e])] [] := by
 intro N
 induction N with
 | zero => intro r_ depth h0 h1 h; exact absurd h (Nat.not_lt_zero _)
 | succ N ih =>
  intro r_ depth h0 h1 h
  have h9 := encode_reader_item_ok N ih r_ depth h0 h1 h
  rw [encode_reader_item_eqM h0 h1] at h9
  exact h9
theorem itemM_ok  (r_ : S_encode_reader) (depth : Int) (hp0 : 0 ≤ depth) (hp1 : isB r_.b) : CallIn En 58 [.ptr 0 0, .int .i64 depth] [.var 2 true (.agg [.sl none 1 false (r_.b.map (V.int .u8)), .int .i64 r_.e])] (.agg [.int .i64 (itemM r_ depth).1.Kind, .int .i64 (itemM r_ depth).1.N, .sl none 1 false ((itemM r_ depth).1.B.map (V.int .u8)), .sl none 4 true ((itemM r_ depth).1.L.map e_api_Item)]) [.var 2 true (.agg [.sl none 1 false ((itemM r_ depth).2.b.map (V.int .u8)), .int .i64 (itemM r_ depth).2.e])] [] :=
 itemM_okN (depth.toNat + 1) r_ depth hp0 hp1 (Nat.lt_succ_self _)
instance (priority := 1001) : DRD 8 34 6 [28, 29, 30, 31, 32] [] ([[], [], [1], [1, 2], [1, 2, 3], [0]] ++ [List.range 6]) [(5, 0)] := ⟨trivial⟩
set_option maxHeartbeats 2000000 in
set_option maxRecDepth 100000 in
instance encode_Decode_ok   (b : (List Int))  : CM En (encode_Decode b) 32 [.sl none 1 false (b.map (V.int .u8))] (fun y => .tup [.agg [.int .i64 y.1.Kind, .int .i64 y.1.N, .sl none 1 false (y.1.B.map (V.int .u8)), .sl none 4 true (y.1.L.map e_api_Item)], .int .i64 y.2]) (fun _ => []) := by
 refine cmQ fun r hM => ?_
 rw [encode_Decode.eq_1] at hM
 refine enterV En_ok En_mo [7] Tryd.func32 rfl Tryd.ntmps32 (by kernel_rfl) fun hw => ct_start ?_
 refine spQ ?_
 replace hw := nzQ hw
 refine condC_intro (fun h1 => ?_) (fun h1 => ?_)
 ·rw [if_pos h1] at hM
  refine spQA h1 ?_
  have nh1 := nzQ h1
  try have hr2 := mpQ nh1
  subst hM
  exact retC_view (lfQA h1)
 ·rw [if_neg (ne_true h1)] at hM
  refine spQA h1 ?_
  have nh1 := nzQ h1
  try have hr3 := mpQ nh1
  have hM0 := hM; clear hM; obtain ⟨x4, hx5, hM⟩ := letk_opn hM0; clear hM0
  have hcx4 := itemM_ok  ({ b := b, e := 0 } : S_encode_reader) 8 (by (first | decide | exact isB_wf hw.2)) (by (first | decide | exact isB_wf hw.2))
  rw [← hx5] at hcx4
  refine callC_in [1] hcx4 (by decide) (by simp only [go_sem, rowV_eq, rowV_eq0, List.length_replicate, rep_len, Int.toNat_natCast, ↓reduceIte, Nat.reduceEqDiff, Nat.reduceAdd, Int.reduceAdd, Nat.reduceMul, Nat.reduceLeDiff, Nat.reduceLT, Int.reduceLE, Int.reduceLT, Int.reduceNeg, Int.reduceToNat, mt, mtL, mtL_self, mt_self, mtZ, and_self, eq_self, or_true, true_or]) (by simp only [go_sem, rowV_eq, rowV_eq0, List.length_replicate, rep_len, Int.toNat_natCast, ↓reduceIte, Nat.reduceEqDiff, Nat.reduceAdd, Int.reduceAdd, Nat.reduceMul, Nat.reduceLeDiff, Nat.reduceLT, Int.reduceLE, Int.reduceLT, Int.reduceNeg, Int.reduceToNat, mt, mtL, mtL_self, mt_self, mtZ, and_self, eq_self, or_true, true_or]) (fun hw6 => ?_)
  replace hw6 := nzQ hw6
  refine spQ ?_
  have hM0 := hM; clear hM; obtain ⟨j7, hj7, hM⟩ := letj_opn hM0; clear hM0
  refine seqC_intro (fun S => ∃ p : S_encode_reader, S = (⟨[(2, .ptr 0 0), (4, .ptr 1 0), (5, .ptr 2 0)], [(0, .var 4 true (.agg [.int .i64 0, .int .i64 0, .sl (some true) 1 false [], .sl (some true) 4 true []])), (1, .var 2 true (.agg [.sl none 1 false (p.b.map (V.int .u8)), .int .i64 p.e])), (2, .var 4 true (.agg [.int .i64 x4.1.Kind, .int .i64 x4.1.N, .sl none 1 false (x4.1.B.map (V.int .u8)), .sl none 4 true (x4.1.L.map e_api_Item)]))], 3⟩ : St) ∧ (True) ∧ j7 p = r) ?_ (fun hcut7 => ?_)
  ·clear hM
   rintro S ⟨p7, rfl, hfa7, hM⟩
   have hM0 := hM; clear hM; have hM := letj_use hM0 hj7; clear hM0
   refine spQ ?_
   have hF := h1
   exact auQ
  ·refine spQ ?_
   refine condC_intro (fun h11 => ?_) (fun h11 => ?_)
   ·rw [if_pos h11] at hM
    refine spQA h11 ?_
    have nh11 := nzQ h11
    try have hr12 := mpQ nh11
    have hM0 := hM; clear hM; obtain ⟨x13, hx14, hM⟩ := letk_opn hM0; clear hM0
    have hcx13 := encode_reader_fail_ok  (x4.2) 3 
    rw [← hx14] at hcx13
    refine callC_in [1] hcx13 (by decide) (by simp only [go_sem, rowV_eq, rowV_eq0, List.length_replicate, rep_len, Int.toNat_natCast, ↓reduceIte, Nat.reduceEqDiff, Nat.reduceAdd, Int.reduceAdd, Nat.reduceMul, Nat.reduceLeDiff, Nat.reduceLT, Int.reduceLE, Int.reduceLT, Int.reduceNeg, Int.reduceToNat, mt, mtL, mtL_self, mt_self, mtZ, and_self, eq_self, or_true, true_or]) (by simp only [go_sem, rowV_eq, rowV_eq0, List.length_replicate, rep_len, Int.toNat_natCast, ↓reduceIte, Nat.reduceEqDiff, Nat.reduceAdd, Int.reduceAdd, Nat.reduceMul, Nat.reduceLeDiff, Nat.reduceLT, Int.reduceLE, Int.reduceLT, Int.reduceNeg, Int.reduceToNat, mt, mtL, mtL_self, mt_self, mtZ, and_self, eq_self, or_true, true_or]) (fun hw15 => ?_)
    replace hw15 := nzQ hw15
    refine spQ ?_
    exact cut_intro _ sbQ sbQ (hcut7 _ ⟨x13, rfl, trivial, hM⟩)
   ·rw [if_neg (ne_true h11)] at hM
    refine spQA h11 ?_
    have nh11 := nzQ h11
    try have hr16 := mpQ nh11
    exact cut_intro _ sbQ sbQ (hcut7 _ ⟨x4.2, rfl, trivial, hM⟩)
set_option maxHeartbeats 2000000 in
set_option maxRecDepth 100000 in
instance encode_Numbers_ok   (i_ : S_api_Item)  : CM En (encode_Numbers i_) 33 [.agg [.int .i64 i_.Kind, .int .i64 i_.N, .sl none 1 false (i_.B.map (V.int .u8)), .sl none 4 true (i_.L.map e_api_Item)]] (fun y => .tup [.sl none 1 false (y.1.map (V.int .i64)), .int .i64 y.2]) (fun _ => []) := by
 refine cmQ fun r hM => ?_
 rw [encode_Numbers.eq_1] at hM
 refine enterV En_ok En_mo noJ Tryd.func33 rfl Tryd.ntmps33 (by kernel_rfl) fun hw => ct_start ?_
 refine spQ ?_
 replace hw := nzQ hw
 have hM0 := hM; clear hM; obtain ⟨x1, hx2, hM⟩ := letk_opn hM0; clear hM0
 have hcx1 := cmU hx2
 refine callC_give hcx1 clQ clQ (fun hw3 => ?_)
 replace hw3 := nzQ hw3
 refine spQ ?_
 refine condC_intro (fun h4 => ?_) (fun h4 => ?_)
 ·rw [if_pos h4] at hM
  refine spQA h4 ?_
  have nh4 := nzQ h4
  try have hr5 := mpQ nh4
  subst hM
  exact retC_view (lfQA h4)
 ·rw [if_neg (ne_true h4)] at hM
  refine spQA h4 ?_
  have nh4 := nzQ h4
  try have hr6 := mpQ nh4
  refine condC_intro (fun h7 => ?_) (fun h7 => ?_)
  ·rw [if_pos h7] at hM
   refine spQA h7 ?_
   have nh7 := nzQ h7
   try have hr8 := mpQ nh7
   subst hM
   exact retC_view (lfQA (And.intro h4 h7))
  ·rw [if_neg (ne_true h7)] at hM
   refine spQA h7 ?_
   have nh7 := nzQ h7
   try have hr9 := mpQ nh7
   have hM0 := hM; clear hM; obtain ⟨f10, d10, hf10, hd10, hM⟩ := iter_opn hM0; clear hM0
   refine ct_loopW (fun n S => ∃ p : Int × List Int, S = (⟨[(4, .own 1), (14, .sl none 4 true (i_.L.map e_api_Item)), (15, .int .i64 (i_.L.length : Int)), (16, .int .i64 p.1)], [(1, .own 3 1 false none (p.2.map (V.int .i64)))], 2⟩ : St) ∧ ((0 ≤ p.1) ∧ (p.1 ≤ (i_.L.length : Int)) ∧ (((p.2).length : Int) ≤ p.1)) ∧ ((i_.L.length : Int) - p.1).toNat < n ∧ iter n f10 d10 p = r) (((i_.L.length : Int) - 0).toNat + 1) _ _ (weak_nil 4 3 rfl (by decide)) sbQ sbQ ⟨(0, ([] : List Int)), rfl, ⟨omQ, omQ, omQ⟩, (Nat.lt_succ_self _), hM⟩ ?_
   clear hM
   rintro n10 S ⟨p10, rfl, hfa10, hm10, hM⟩
   have hM0 := hM; clear hM; obtain ⟨ag10, hag10, hM⟩ := iter_step hM0 (by omega) hf10; clear hM0
   replace hfa10 := nzQ hfa10
   replace hm10 := nzQ hm10
   have ha10 : addI .i64 p10.1 1 = p10.1 + 1 := add_one omQ omQ
   refine spQA ha10 ?_
   have hF := (And.intro h4 (And.intro h7 ha10))
   exact auQ
set_option maxHeartbeats 2000000 in
set_option maxRecDepth 100000 in
instance payment_FromInvoice_ok   (x_ : (List Int))  : CM En (payment_FromInvoice x_) 10 [.sl none 1 false (x_.map (V.int .u8))] (fun y => .tup [(e_api_Invoice y.1), .int .i64 y.2]) (fun _ => []) := by
 refine cmQ fun r hM => ?_
 rw [payment_FromInvoice.eq_1] at hM
 refine enterV En_ok En_mo noJ Tryd.func10 rfl Tryd.ntmps10 (by kernel_rfl) fun hw => ct_start ?_
 refine spQ ?_
 replace hw := nzQ hw
 have hM0 := hM; clear hM; obtain ⟨x1, hx2, hM⟩ := letk_opn hM0; clear hM0
 have hcx1 := cmU hx2
 refine callC_give hcx1 clQ clQ (fun hw3 => ?_)
 replace hw3 := nzQ hw3
 refine spQ ?_
 refine guardC_f (fun h4 => ?_) (fun h4 => ?_)
 ·rw [if_neg (ne_true h4)] at hM
  refine spQA h4 ?_
  have nh4 := nzQ h4
  try have hr5 := mpQ nh4
  refine guardC_f (fun h6 => ?_) (fun h6 => ?_)
  ·rw [if_neg (ne_true h6)] at hM
   refine spQA h6 ?_
   have nh6 := nzQ h6
   try have hr7 := mpQ nh6
   refine guardC_f (fun h8 => ?_) (fun h8 => ?_)
   ·rw [if_neg (ne_true h8)] at hM
    refine spQA h8 ?_
    have nh8 := nzQ h8
    try have hr9 := mpQ nh8
    refine bindC_intro omQ ?_
    have he10 : ∀ d, elt (x1.1.L.map e_api_Item) 0 d = e_api_Item (gt x1.1.L 0) := fun d => elt_mp (l := x1.1.L) (f := e_api_Item) (i := 0) omQ d
    refine spQA he10 ?_
    refine guardC_f (fun h11 => ?_) (fun h11 => ?_)
    ·rw [if_neg (ne_true h11)] at hM
     refine spQA (And.intro he10 h11) ?_
     have nh11 := nzQ h11
     try have hr12 := mpQ nh11
     refine bindC_intro omQ ?_
     refine spQA he10 ?_
     refine condC_intro (fun h13 => ?_) (fun h13 => ?_)
     ·rw [if_pos h13] at hM
      refine spQA (And.intro he10 h13) ?_
      have nh13 := nzQ h13
      try have hr14 := mpQ nh13
      subst hM
      exact retC_view (lfQA (And.intro he10 (And.intro h4 (And.intro h6 (And.intro h8 (And.intro h11 h13))))))
     ·rw [if_neg (ne_true h13)] at hM
      refine spQA (And.intro he10 h13) ?_
      have nh13 := nzQ h13
      try have hr15 := mpQ nh13
      refine bindC_intro omQ ?_
      refine spQA he10 ?_
      have hM0 := hM; clear hM; obtain ⟨x16, hx17, hM⟩ := letk_opn hM0; clear hM0
      have hcx16 := cmU hx17
      refine callC_give hcx16 (clQA he10) (clQA he10) (fun hw18 => ?_)
      replace hw18 := nzQ hw18
      refine spQA he10 ?_
      have hq19 := Numbers_len hx17
      replace hq19 := nzQ hq19
      refine condC_intro (fun h20 => ?_) (fun h20 => ?_)
      ·rw [if_pos h20] at hM
       refine spQA (And.intro he10 h20) ?_
       have nh20 := nzQ h20
       try have hr21 := mpQ nh20
       subst hM
       exact retC_view (lfQA (And.intro he10 (And.intro h4 (And.intro h6 (And.intro h8 (And.intro h11 (And.intro h13 h20)))))))
      ·rw [if_neg (ne_true h20)] at hM
       refine spQA (And.intro he10 h20) ?_
       have nh20 := nzQ h20
       try have hr22 := mpQ nh20
       refine ct_draw 77 18 [7, 55, 56, 57, 58, 59, 60, 61, 62, 63, 64, 65, 66, 67, 68, 69, 70, 71] [] ([[], [0], [0, 1], [0, 1, 2], [0, 1, 2, 3], [0, 1, 2, 3, 4], [0, 1, 2, 3, 4, 5], [], [7], [7, 8], [], [10], [10, 11], [], [13], [13, 14], [0, 1, 2, 3, 4, 5, 6, 7, 8, 9, 10, 11, 12, 13, 14, 15], []] ++ [List.range 18]) [] (by kernel_rfl) (by exact alQ) ?_
       refine spQA he10 ?_
       refine hbindC_intro omQ ?_
       refine spQA he10 ?_
       refine hbindC_intro omQ ?_
       have he23 := eltsN_mp (l := (gt x1.1.L 0).B) (f := (V.int .u8)) (k := 32) omQ
       refine spQA (And.intro he10 he23) ?_
       have hF := (And.intro h4 (And.intro h6 (And.intro h8 (And.intro he10 (And.intro h11 (And.intro h13 (And.intro h20 he23)))))))
       exact auQ
    ·rw [if_pos h11] at hM
     refine spQA (And.intro he10 h11) ?_
     have nh11 := nzQ h11
     try have hr33 := mpQ nh11
     subst hM
     exact retC_view (lfQA (And.intro he10 (And.intro h4 (And.intro h6 (And.intro h8 h11)))))
   ·rw [if_pos h8] at hM
    refine spQA h8 ?_
    have nh8 := nzQ h8
    try have hr34 := mpQ nh8
    subst hM
    exact retC_view (lfQA (And.intro h4 (And.intro h6 h8)))
  ·rw [if_pos h6] at hM
   refine spQA h6 ?_
   have nh6 := nzQ h6
   try have hr35 := mpQ nh6
   subst hM
   exact retC_view (lfQA (And.intro h4 h6))
 ·rw [if_pos h4] at hM
  refine spQA h4 ?_
  have nh4 := nzQ h4
  try have hr36 := mpQ nh4
  subst hM
  exact retC_view (lfQA h4)
set_option maxHeartbeats 2000000 in
set_option maxRecDepth 100000 in
instance specielaw38_awake_ok     : CM En (specielaw38_awake) 6 [] (fun y => .bool y) (fun _ => []) := by
 refine cmQ fun r hM => ?_
 rw [specielaw38_awake.eq_1] at hM
 refine enterV En_ok En_mo noJ Tryd.func6 rfl Tryd.ntmps6 (by kernel_rfl) fun hw => ct_start ?_
 refine spQ ?_
 replace hw := nzQ hw
 have hF := trueQ
 exact auQ
set_option maxHeartbeats 2000000 in
set_option maxRecDepth 100000 in
instance payment_Context_ok   (v : S_api_Invoice)  : CM En (payment_Context v) 7 [(e_api_Invoice v)] (fun y => .tup [(e_api_Context y.1), .int .i64 y.2]) (fun _ => []) := by
 refine cmQ fun r hM => ?_
 rw [payment_Context.eq_1] at hM
 refine enterV En_ok En_mo noJ Tryd.func7 rfl Tryd.ntmps7 (by kernel_rfl) fun hw => ct_start ?_
 refine spQ ?_
 replace hw := nzQ hw
 have hF := trueQ
 exact auQ
set_option maxHeartbeats 2000000 in
set_option maxRecDepth 100000 in
instance digest_count_ok   (n_ : Int)  : CM En (digest_count n_) 74 [.int .u64 n_] (fun y => .sl none 1 false (y.map (V.int .u8))) (fun _ => []) := by
 refine cmQ fun r hM => ?_
 rw [digest_count.eq_1] at hM
 refine enterV En_ok En_mo noJ Tryd.func74 rfl Tryd.ntmps74 (by kernel_rfl) fun hw => ct_start ?_
 refine spQ ?_
 replace hw := nzQ hw
 have hM0 := hM; clear hM; obtain ⟨f1, d1, hf1, hd1, hM⟩ := iter_opn hM0; clear hM0
 refine ct_loop (fun n S => ∃ p : Int × List Int, S = (⟨[(0, .int .u64 n_), (3, .own 0), (7, .int .i64 (8 : Int)), (8, .int .i64 p.1)], [(0, .own 5 1 false none (p.2.map (V.int .u8)))], 1⟩ : St) ∧ ((0 ≤ p.1) ∧ (p.1 ≤ (8 : Int)) ∧ ((p.2).length = (([(0 : Int), (0 : Int), (0 : Int), (0 : Int), (0 : Int), (0 : Int), (0 : Int), (0 : Int)] : List Int)).length)) ∧ ((8 : Int) - p.1).toNat < n ∧ iter n f1 d1 p = r) (((8 : Int) - 0).toNat + 1) _ sbQ sbQ ⟨(0, ([(0 : Int), (0 : Int), (0 : Int), (0 : Int), (0 : Int), (0 : Int), (0 : Int), (0 : Int)] : List Int)), rfl, ⟨omQ, omQ, omQ⟩, (Nat.lt_succ_self _), hM⟩ ?_
 clear hM
 rintro n1 S ⟨p1, rfl, hfa1, hm1, hM⟩
 have hM0 := hM; clear hM; obtain ⟨ag1, hag1, hM⟩ := iter_step hM0 (by omega) hf1; clear hM0
 replace hfa1 := nzQ hfa1
 replace hm1 := nzQ hm1
 have ha1 : addI .i64 p1.1 1 = p1.1 + 1 := add_one omQ omQ
 refine spQA ha1 ?_
 refine condC_intro (fun h2 => ?_) (fun h2 => ?_)
 ·rw [if_pos h2] at hM
  refine spQA (And.intro ha1 h2) ?_
  have nh2 := nzQ h2
  try have hr3 := mpQ nh2
  obtain ⟨ha4, hbha4⟩ := mul_pos_ok (a := 8) (b := p1.1) 8 8 64 omQ omQ omQ omQ (by decide) (by decide)
  try simp only [ha4]
  have ha5 : subI .i64 56 (8 * p1.1) = (56 - (8 * p1.1)) := sub_ok omQ omQ
  try simp only [ha5]
  have hF := (And.intro ha1 (And.intro h2 ha5))
  exact auQ
 ·rw [if_neg (ne_true h2)] at hM
  refine spQA (And.intro ha1 h2) ?_
  have nh2 := nzQ h2
  try have hr7 := mpQ nh2
  subst hM
  exact retC_view (lfQA (And.intro ha1 h2))
set_option maxHeartbeats 2000000 in
set_option maxRecDepth 100000 in
instance math_bits_RotateLeft32_ok   (x_ : Int) (k_ : Int)  : CM En (math_bits_RotateLeft32 x_ k_) 108 [.int .u32 x_, .int .i64 k_] (fun y => .int .u32 y) (fun _ => []) := by
 refine cmQ fun r hM => ?_
 rw [math_bits_RotateLeft32.eq_1] at hM
 refine enterV En_ok En_mo noJ Tryd.func108 rfl Tryd.ntmps108 (by kernel_rfl) fun hw => ct_start ?_
 refine spQ ?_
 replace hw := nzQ hw
 refine bindC_intro (by (exact (rng_andI .u64 _ _).1)) ?_
 refine spQ ?_
 refine bindC_intro (by (exact (rng_subI .u64 _ _).1)) ?_
 refine spQ ?_
 subst hM
 exact retC_view lfQ
set_option maxHeartbeats 2000000 in
set_option maxRecDepth 100000 in
instance digest_right_ok   (x_ : Int) (n_ : Int)  : CM En (digest_right x_ n_) 96 [.int .u32 x_, .int .i64 n_] (fun y => .int .u32 y) (fun _ => []) := by
 refine cmQ fun r hM => ?_
 rw [digest_right.eq_1] at hM
 refine enterV En_ok En_mo noJ Tryd.func96 rfl Tryd.ntmps96 (by kernel_rfl) fun hw => ct_start ?_
 refine spQ ?_
 replace hw := nzQ hw
 have hF := trueQ
 exact auQ
set_option maxHeartbeats 2000000 in
set_option maxRecDepth 100000 in
theorem digest_schedule_ok   (block : (List Int)) (hp0 : block.length = 64) : CM En (digest_schedule block) 95 [.sl none 1 false (block.map (V.int .u8))] (fun y => (e_arr152 y)) (fun _ => []) := by
 refine cmQ fun r hM => ?_
 rw [digest_schedule.eq_1] at hM
 refine enterV En_ok En_mo noJ Tryd.func95 rfl Tryd.ntmps95 (by kernel_rfl) fun hw => ct_start ?_
 refine spQ ?_
 replace hw := nzQ hw
 have hM0 := hM; clear hM; obtain ⟨f1, d1, hf1, hd1, hM⟩ := iter_opn hM0; clear hM0
 refine ct_loop (fun n S => ∃ p : Int × (List Int), S = (⟨[(0, .sl none 1 false (block.map (V.int .u8))), (2, .ptr 0 0), (3, .ptr 1 0), (12, .int .i64 p.1)], [(0, .var 64 true (zv_152)), (1, .var 64 true ((e_arr152 p.2)))], 2⟩ : St) ∧ ((0 ≤ p.1) ∧ (p.1 ≤ 16)) ∧ ((16 : Int) - p.1).toNat < n ∧ iter n f1 d1 p = r) (((16 : Int) - 0).toNat + 1) _ sbQ (by simp only [go_sem, rowV_eq, rowV_eq0, List.length_replicate, rep_len, Int.toNat_natCast, ↓reduceIte, Nat.reduceEqDiff, Nat.reduceAdd, Int.reduceAdd, Nat.reduceMul, Nat.reduceLeDiff, Nat.reduceLT, Int.reduceLE, Int.reduceLT, Int.reduceNeg, Int.reduceToNat, map_st, mtL_repE, mtL_repM, subF, subH, mtO, mtB, mt, mtL, mtL_self, mt_self, ltV, ltL, ltB, eq_self, or_true, true_or, or_self, and_self, gt_cons0, gt_conss, Int.reduceSub]) ⟨(0, [0, 0, 0, 0, 0, 0, 0, 0, 0, 0, 0, 0, 0, 0, 0, 0, 0, 0, 0, 0, 0, 0, 0, 0, 0, 0, 0, 0, 0, 0, 0, 0, 0, 0, 0, 0, 0, 0, 0, 0, 0, 0, 0, 0, 0, 0, 0, 0, 0, 0, 0, 0, 0, 0, 0, 0, 0, 0, 0, 0, 0, 0, 0, 0]), rfl, ⟨omQ, omQ⟩, (Nat.lt_succ_self _), hM⟩ ?_
 clear hM
 rintro n1 S ⟨p1, rfl, hfa1, hm1, hM⟩
 have hM0 := hM; clear hM; obtain ⟨ag1, hag1, hM⟩ := iter_step hM0 (by omega) hf1; clear hM0
 replace hfa1 := nzQ hfa1
 replace hm1 := nzQ hm1
 have ha1 : addI .i64 p1.1 1 = p1.1 + 1 := add_one omQ omQ
 refine spQA ha1 ?_
 refine condC_intro (fun h2 => ?_) (fun h2 => ?_)
 ·rw [if_pos h2] at hM
  refine spQA (And.intro ha1 h2) ?_
  have nh2 := nzQ h2
  try have hr3 := mpQ nh2
  obtain ⟨ha4, hbha4⟩ := mul_pos_ok (a := 4) (b := p1.1) 4 16 64 omQ omQ omQ omQ (by decide) (by decide)
  try simp only [ha4]
  have ha6 : addI .i64 (4 * p1.1) 4 = ((4 * p1.1) + 4) := add_ok omQ omQ
  try simp only [ha6]
  refine bindC_intro omQ ?_
  refine spQA (And.intro ha1 (And.intro ha4 ha6)) ?_
  have hM0 := hM; clear hM; obtain ⟨f7, d7, hf7, hd7, hM⟩ := iter_opn hM0; clear hM0
  refine ct_loop (fun n S => ∃ p : Int × (List Int), S = (⟨[(0, .sl none 1 false (block.map (V.int .u8))), (2, .ptr 0 0), (3, .ptr 1 0), (4, .int .i64 p1.1), (12, .int .i64 p1.1), (21, .sl none 1 false ((sl block (4 * p1.1) ((4 * p1.1) + 4)).map (V.int .u8))), (22, .int .i64 ((sl block (4 * p1.1) ((4 * p1.1) + 4)).length : Int)), (23, .int .i64 p.1)], [(0, .var 64 true (zv_152)), (1, .var 64 true ((e_arr152 p.2)))], 2⟩ : St) ∧ ((0 ≤ p.1) ∧ (p.1 ≤ ((sl block (4 * p1.1) ((4 * p1.1) + 4)).length : Int))) ∧ (((sl block (4 * p1.1) ((4 * p1.1) + 4)).length : Int) - p.1).toNat < n ∧ iter n f7 d7 p = r) ((((sl block (4 * p1.1) ((4 * p1.1) + 4)).length : Int) - 0).toNat + 1) _ sbQ sbQ ⟨(0, p1.2), rfl, ⟨omQ, omQ⟩, (Nat.lt_succ_self _), hM⟩ ?_
  clear hM
  rintro n7 S ⟨p7, rfl, hfa7, hm7, hM⟩
  have hM0 := hM; clear hM; obtain ⟨ag7, hag7, hM⟩ := iter_step hM0 (by omega) hf7; clear hM0
  replace hfa7 := nzQ hfa7
  replace hm7 := nzQ hm7
  have ha7 : addI .i64 p7.1 1 = p7.1 + 1 := add_one omQ omQ
  refine spQA (And.intro ha1 (And.intro ha4 (And.intro ha6 ha7))) ?_
  refine condC_intro (fun h8 => ?_) (fun h8 => ?_)
  ·rw [if_pos h8] at hM
   refine spQA (And.intro ha1 (And.intro ha4 (And.intro ha6 (And.intro ha7 h8)))) ?_
   have nh8 := nzQ h8
   try have hr9 := mpQ nh8
   refine bindC_intro omQ ?_
   have he10 := fun d => elt_mp (l := (sl block (4 * p1.1) ((4 * p1.1) + 4))) (f := (V.int .u8)) (i := p7.1) omQ d
   refine spQA (And.intro ha1 (And.intro ha4 (And.intro ha6 (And.intro ha7 he10)))) ?_
   refine bindC_intro omQ ?_
   have he11 : ((p1.1).toNat * 1 + 1 ≤ 64) = True := eq_true omQ
   refine spQA (And.intro ha1 (And.intro ha4 (And.intro ha6 (And.intro ha7 (And.intro he10 he11))))) ?_
   have he12 := arr_get (f := (V.int .u32)) (l := p7.2) (n := 64) (i := p1.1) omQ
   replace he12 := spR he12
   try refine spQA (And.intro ha1 (And.intro ha4 (And.intro ha6 (And.intro ha7 (And.intro he10 (And.intro he11 he12)))))) ?_
   refine bindC_intro omQ ?_
   have he13 : ((p1.1).toNat * 1 + 1 ≤ 64) = True := eq_true omQ
   refine spQA (And.intro ha1 (And.intro ha4 (And.intro ha6 (And.intro ha7 (And.intro he10 (And.intro he11 (And.intro he12 he13))))))) ?_
   have he14 := arr_put (f := (V.int .u32)) (l := (arrN 64 p7.2)) (n := 64) (i := p1.1) (v := (orI .u32 (shlI .u32 (gt p7.2 p1.1) 8) (convI .u32 (gt (sl block (4 * p1.1) ((4 * p1.1) + 4)) p7.1)))) arrN_len omQ
   replace he14 := spR he14
   refine spQA (And.intro ha1 (And.intro ha4 (And.intro ha6 (And.intro ha7 (And.intro he10 (And.intro he11 (And.intro he12 (And.intro he13 he14)))))))) ?_
   refine lp_intro (n7 - 1) _ (by omega) sbQ (by simp only [go_sem, rowV_eq, rowV_eq0, List.length_replicate, rep_len, Int.toNat_natCast, ↓reduceIte, Nat.reduceEqDiff, Nat.reduceAdd, Int.reduceAdd, Nat.reduceMul, Nat.reduceLeDiff, Nat.reduceLT, Int.reduceLE, Int.reduceLT, Int.reduceNeg, Int.reduceToNat, map_st, mtL_repE, mtL_repM, subF, subH, mtO, mtB, mt, mtL, mtL_self, mt_self, ltV, ltL, ltB, eq_self, or_true, true_or, or_self, and_self, gt_cons0, gt_conss, Int.reduceSub]) ⟨((p7.1 + 1), (arrN 64 (st (arrN 64 p7.2) p1.1 (orI .u32 (shlI .u32 (gt p7.2 p1.1) 8) (convI .u32 (gt (sl block (4 * p1.1) ((4 * p1.1) + 4)) p7.1)))))), rfl, ⟨omQ, omQ⟩, omQ, iter_again hM hag7⟩
  ·rw [if_neg (ne_true h8)] at hM
   refine spQA (And.intro ha1 (And.intro ha4 (And.intro ha6 (And.intro ha7 h8)))) ?_
   have nh8 := nzQ h8
   try have hr15 := mpQ nh8
   refine lp_intro (n1 - 1) _ (by omega) sbQ sbQ ⟨((p1.1 + 1), p7.2), rfl, ⟨omQ, omQ⟩, omQ, iter_again hM hag1⟩
 ·rw [if_neg (ne_true h2)] at hM
  refine spQA (And.intro ha1 h2) ?_
  have nh2 := nzQ h2
  try have hr16 := mpQ nh2
  have hM0 := hM; clear hM; obtain ⟨f17, d17, hf17, hd17, hM⟩ := iter_opn hM0; clear hM0
  refine ct_loop (fun n S => ∃ p : Int × (List Int), S = (⟨[(2, .ptr 0 0), (3, .ptr 1 0), (7, .int .i64 p.1)], [(0, .var 64 true (zv_152)), (1, .var 64 true ((e_arr152 p.2)))], 2⟩ : St) ∧ ((16 ≤ p.1) ∧ (p.1 ≤ 64 ∨ p.1 ≤ 16)) ∧ ((64 : Int) - p.1).toNat < n ∧ iter n f17 d17 p = r) (((64 : Int) - 16).toNat + 1) _ sbQ sbQ ⟨(16, p1.2), rfl, ⟨omQ, omQ⟩, (Nat.lt_succ_self _), hM⟩ ?_
  clear hM
  rintro n17 S ⟨p17, rfl, hfa17, hm17, hM⟩
  have hM0 := hM; clear hM; obtain ⟨ag17, hag17, hM⟩ := iter_step hM0 (by omega) hf17; clear hM0
  replace hfa17 := nzQ hfa17
  replace hm17 := nzQ hm17
  have ha17 : addI .i64 p17.1 1 = p17.1 + 1 := add_one omQ omQ
  refine spQA (And.intro ha1 ha17) ?_
  refine condC_intro (fun h18 => ?_) (fun h18 => ?_)
  ·rw [if_pos h18] at hM
   refine spQA (And.intro ha1 (And.intro ha17 h18)) ?_
   have nh18 := nzQ h18
   try have hr19 := mpQ nh18
   refine ct_draw 82 9 [8, 42, 43, 44, 45, 46, 47, 48, 49] [] ([[], [0], [0, 1], [0, 1, 2], [], [4], [4, 5], [4, 5, 6], [0, 1, 2, 3]] ++ [List.range 9]) [] (by kernel_rfl) (by exact alQ) ?_
   refine spQA (And.intro ha1 ha17) ?_
   have ha20 : subI .i64 p17.1 15 = (p17.1 - 15) := sub_ok omQ omQ
   try simp only [ha20]
   refine hbindC_intro omQ ?_
   have he21 : (((p17.1 - 15)).toNat * 1 + 1 ≤ 64) = True := eq_true omQ
   refine spQA (And.intro ha1 (And.intro ha17 (And.intro ha20 he21))) ?_
   have he22 := arr_get (f := (V.int .u32)) (l := p17.2) (n := 64) (i := (p17.1 - 15)) omQ
   replace he22 := spR he22
   try refine spQA (And.intro ha1 (And.intro ha17 (And.intro ha20 (And.intro he21 he22)))) ?_
   have ha23 : subI .i64 p17.1 2 = (p17.1 - 2) := sub_ok omQ omQ
   try simp only [ha23]
   refine hbindC_intro omQ ?_
   have he24 : (((p17.1 - 2)).toNat * 1 + 1 ≤ 64) = True := eq_true omQ
   refine spQA (And.intro ha1 (And.intro ha17 (And.intro ha20 (And.intro he21 (And.intro he22 (And.intro ha23 he24)))))) ?_
   have he25 := arr_get (f := (V.int .u32)) (l := p17.2) (n := 64) (i := (p17.1 - 2)) omQ
   replace he25 := spR he25
   try refine spQA (And.intro ha1 (And.intro ha17 (And.intro ha20 (And.intro he21 (And.intro he22 (And.intro ha23 (And.intro he24 he25))))))) ?_
   have hM0 := hM; clear hM; obtain ⟨x26, hx27, hM⟩ := letk_opn hM0; clear hM0
   have hcx26 := cmU hx27
   refine callC_give hcx26 (clQA (And.intro ha1 (And.intro ha17 (And.intro ha20 (And.intro he21 (And.intro he22 (And.intro ha23 (And.intro he24 he25)))))))) (clQA (And.intro ha1 (And.intro ha17 (And.intro ha20 (And.intro he21 (And.intro he22 (And.intro ha23 (And.intro he24 he25)))))))) (fun hw28 => ?_)
   replace hw28 := nzQ hw28
   refine spQA (And.intro ha1 (And.intro ha17 (And.intro ha20 (And.intro he21 (And.intro he22 (And.intro ha23 (And.intro he24 he25))))))) ?_
   have hM0 := hM; clear hM; obtain ⟨x29, hx30, hM⟩ := letk_opn hM0; clear hM0
   have hcx29 := cmU hx30
   refine callC_give hcx29 (clQA (And.intro ha1 (And.intro ha17 (And.intro ha20 (And.intro he21 (And.intro he22 (And.intro ha23 (And.intro he24 he25)))))))) (clQA (And.intro ha1 (And.intro ha17 (And.intro ha20 (And.intro he21 (And.intro he22 (And.intro ha23 (And.intro he24 he25)))))))) (fun hw31 => ?_)
   replace hw31 := nzQ hw31
   refine spQA (And.intro ha1 (And.intro ha17 (And.intro ha20 (And.intro he21 (And.intro he22 (And.intro ha23 (And.intro he24 he25))))))) ?_
   have hM0 := hM; clear hM; obtain ⟨x32, hx33, hM⟩ := letk_opn hM0; clear hM0
   have hcx32 := cmU hx33
   refine callC_give hcx32 (clQA (And.intro ha1 (And.intro ha17 (And.intro ha20 (And.intro he21 (And.intro he22 (And.intro ha23 (And.intro he24 he25)))))))) (clQA (And.intro ha1 (And.intro ha17 (And.intro ha20 (And.intro he21 (And.intro he22 (And.intro ha23 (And.intro he24 he25)))))))) (fun hw34 => ?_)
   replace hw34 := nzQ hw34
   refine spQA (And.intro ha1 (And.intro ha17 (And.intro ha20 (And.intro he21 (And.intro he22 (And.intro ha23 (And.intro he24 he25))))))) ?_
   have hM0 := hM; clear hM; obtain ⟨x35, hx36, hM⟩ := letk_opn hM0; clear hM0
   have hcx35 := cmU hx36
   refine callC_give hcx35 (clQA (And.intro ha1 (And.intro ha17 (And.intro ha20 (And.intro he21 (And.intro he22 (And.intro ha23 (And.intro he24 he25)))))))) (clQA (And.intro ha1 (And.intro ha17 (And.intro ha20 (And.intro he21 (And.intro he22 (And.intro ha23 (And.intro he24 he25)))))))) (fun hw37 => ?_)
   replace hw37 := nzQ hw37
   refine spQA (And.intro ha1 (And.intro ha17 (And.intro ha20 (And.intro he21 (And.intro he22 (And.intro ha23 (And.intro he24 he25))))))) ?_
   refine ct_draw 82 14 [66, 67, 68, 69, 70, 71, 72, 73, 74, 75, 76, 77, 78, 79] [] ([[], [], [1], [1, 2], [1, 2, 3], [], [1, 2, 3, 4, 5], [], [7], [7, 8], [7, 8, 9], [1, 2, 3, 4, 5, 6, 7, 8, 9, 10], [], [1, 2, 3, 4, 5, 6, 7, 8, 9, 10, 11, 12]] ++ [List.range 14, List.range 15]) [] (by kernel_rfl) (by exact alQ) ?_
   refine spQA (And.intro ha1 (And.intro ha17 (And.intro ha20 (And.intro he21 (And.intro he22 (And.intro ha23 (And.intro he24 he25))))))) ?_
   have ha38 : subI .i64 p17.1 16 = (p17.1 - 16) := sub_ok omQ omQ
   try simp only [ha38]
   refine hbindC_intro omQ ?_
   have he39 : (((p17.1 - 16)).toNat * 1 + 1 ≤ 64) = True := eq_true omQ
   refine spQA (And.intro ha1 (And.intro ha17 (And.intro ha20 (And.intro he21 (And.intro he22 (And.intro ha23 (And.intro he24 (And.intro he25 (And.intro ha38 he39))))))))) ?_
   have he40 := arr_get (f := (V.int .u32)) (l := p17.2) (n := 64) (i := (p17.1 - 16)) omQ
   replace he40 := spR he40
   try refine spQA (And.intro ha1 (And.intro ha17 (And.intro ha20 (And.intro he21 (And.intro he22 (And.intro ha23 (And.intro he24 (And.intro he25 (And.intro ha38 (And.intro he39 he40)))))))))) ?_
   have ha41 : subI .i64 p17.1 7 = (p17.1 - 7) := sub_ok omQ omQ
   try simp only [ha41]
   refine hbindC_intro omQ ?_
   have he42 : (((p17.1 - 7)).toNat * 1 + 1 ≤ 64) = True := eq_true omQ
   refine spQA (And.intro ha1 (And.intro ha17 (And.intro ha20 (And.intro he21 (And.intro he22 (And.intro ha23 (And.intro he24 (And.intro he25 (And.intro ha38 (And.intro he39 (And.intro he40 (And.intro ha41 he42)))))))))))) ?_
   have he43 := arr_get (f := (V.int .u32)) (l := p17.2) (n := 64) (i := (p17.1 - 7)) omQ
   replace he43 := spR he43
   try refine spQA (And.intro ha1 (And.intro ha17 (And.intro ha20 (And.intro he21 (And.intro he22 (And.intro ha23 (And.intro he24 (And.intro he25 (And.intro ha38 (And.intro he39 (And.intro he40 (And.intro ha41 (And.intro he42 he43))))))))))))) ?_
   refine bindC_intro omQ ?_
   have he44 : ((p17.1).toNat * 1 + 1 ≤ 64) = True := eq_true omQ
   refine spQA (And.intro ha1 (And.intro ha17 (And.intro ha20 (And.intro he21 (And.intro he22 (And.intro ha23 (And.intro he24 (And.intro he25 (And.intro ha38 (And.intro he39 (And.intro he40 (And.intro ha41 (And.intro he42 (And.intro he43 he44)))))))))))))) ?_
   have he45 := arr_put (f := (V.int .u32)) (l := (arrN 64 p17.2)) (n := 64) (i := p17.1) (v := (addI .u32 (addI .u32 (addI .u32 (gt p17.2 (p17.1 - 16)) (xorI .u32 (xorI .u32 x26 x29) (shrI .u32 (gt p17.2 (p17.1 - 15)) 3))) (gt p17.2 (p17.1 - 7))) (xorI .u32 (xorI .u32 x32 x35) (shrI .u32 (gt p17.2 (p17.1 - 2)) 10)))) arrN_len omQ
   replace he45 := spR he45
   refine spQA (And.intro ha1 (And.intro ha17 (And.intro ha20 (And.intro he21 (And.intro he22 (And.intro ha23 (And.intro he24 (And.intro he25 (And.intro ha38 (And.intro he39 (And.intro he40 (And.intro ha41 (And.intro he42 (And.intro he43 (And.intro he44 he45))))))))))))))) ?_
   refine lp_intro (n17 - 1) _ (by omega) sbQ (by simp only [go_sem, rowV_eq, rowV_eq0, List.length_replicate, rep_len, Int.toNat_natCast, ↓reduceIte, Nat.reduceEqDiff, Nat.reduceAdd, Int.reduceAdd, Nat.reduceMul, Nat.reduceLeDiff, Nat.reduceLT, Int.reduceLE, Int.reduceLT, Int.reduceNeg, Int.reduceToNat, map_st, mtL_repE, mtL_repM, subF, subH, mtO, mtB, mt, mtL, mtL_self, mt_self, ltV, ltL, ltB, eq_self, or_true, true_or, or_self, and_self, gt_cons0, gt_conss, Int.reduceSub]) ⟨((p17.1 + 1), (arrN 64 (st (arrN 64 p17.2) p17.1 (addI .u32 (addI .u32 (addI .u32 (gt p17.2 (p17.1 - 16)) (xorI .u32 (xorI .u32 x26 x29) (shrI .u32 (gt p17.2 (p17.1 - 15)) 3))) (gt p17.2 (p17.1 - 7))) (xorI .u32 (xorI .u32 x32 x35) (shrI .u32 (gt p17.2 (p17.1 - 2)) 10)))))), rfl, ⟨omQ, omQ⟩, omQ, iter_again hM hag17⟩
  ·rw [if_neg (ne_true h18)] at hM
   refine spQA (And.intro ha1 (And.intro ha17 h18)) ?_
   have nh18 := nzQ h18
   try have hr46 := mpQ nh18
   subst hM
   exact retC_view (lfQA (And.intro ha1 (And.intro ha17 (And.intro h2 h18))))
set_option maxHeartbeats 2000000 in
set_option maxRecDepth 100000 in
theorem digest_mix_ok   (state : (List Int)) (block : (List Int)) (hp0 : block.length = 64) : CM En (digest_mix state block) 75 [(e_arr133 state), .sl none 1 false (block.map (V.int .u8))] (fun y => (e_arr133 y)) (fun _ => []) := by
 refine cmQ fun r hM => ?_
 rw [digest_mix.eq_1] at hM
 refine enterV En_ok En_mo noJ Tryd.func75 rfl Tryd.ntmps75 (by kernel_rfl) fun hw => ct_start ?_
 refine spQ ?_
 replace hw := nzQ hw
 have hM0 := hM; clear hM; obtain ⟨x1, hx2, hM⟩ := letk_opn hM0; clear hM0
 have hcx1 := cmH hx2 (digest_schedule_ok  block (by (exact pfQ)))
 refine callC_give hcx1 clQ clQ (fun hw3 => ?_)
 replace hw3 := nzQ hw3
 refine spQ ?_
 refine ct_draw 121 23 [6, 7, 8, 9, 10, 11, 12, 21, 22, 23, 24, 25, 26, 27, 28, 29, 30, 31, 32, 33, 34, 35, 36] [] ([[], [0], [], [2], [], [4], [], [6], [], [8], [], [10], [], [12], [], [14], [0, 1], [2, 3], [4, 5], [6, 7], [8, 9], [10, 11], [12, 13]] ++ [List.range 23]) [] (by kernel_rfl) (by exact alQ) ?_
 refine spQ ?_
 have hM0 := hM; clear hM; obtain ⟨f4, d4, hf4, hd4, hM⟩ := iter_opn hM0; clear hM0
 refine ct_loop (fun n S => ∃ p : Int × Int × Int × Int × Int × Int × Int × Int × Int, S = (⟨[(2, .ptr 0 0), (4, .ptr 1 0), (5, .ptr 2 0), (6, .int .u32 p.1), (7, .int .u32 p.2.1), (8, .int .u32 p.2.2.1), (9, .int .u32 p.2.2.2.1), (10, .int .u32 p.2.2.2.2.1), (11, .int .u32 p.2.2.2.2.2.1), (12, .int .u32 p.2.2.2.2.2.2.1), (13, .int .u32 p.2.2.2.2.2.2.2.1), (37, .int .i64 p.2.2.2.2.2.2.2.2)], [(0, .var 8 true ((e_arr133 state))), (1, .var 8 true (zv_133)), (2, .var 64 true ((e_arr152 x1)))], 26⟩ : St) ∧ ((0 ≤ p.2.2.2.2.2.2.2.2) ∧ (p.2.2.2.2.2.2.2.2 ≤ 64)) ∧ ((64 : Int) - p.2.2.2.2.2.2.2.2).toNat < n ∧ iter n f4 d4 p = r) (((64 : Int) - 0).toNat + 1) _ sbQ sbQ ⟨((gt state 0), (gt state 1), (gt state 2), (gt state 3), (gt state 4), (gt state 5), (gt state 6), (gt state 7), 0), rfl, ⟨omQ, omQ⟩, (Nat.lt_succ_self _), hM⟩ ?_
 clear hM
 rintro n4 S ⟨p4, rfl, hfa4, hm4, hM⟩
 have hM0 := hM; clear hM; obtain ⟨ag4, hag4, hM⟩ := iter_step hM0 (by omega) hf4; clear hM0
 replace hfa4 := nzQ hfa4
 replace hm4 := nzQ hm4
 have ha4 : addI .i64 p4.2.2.2.2.2.2.2.2 1 = p4.2.2.2.2.2.2.2.2 + 1 := add_one omQ omQ
 refine spQA ha4 ?_
 refine condC_intro (fun h5 => ?_) (fun h5 => ?_)
 ·rw [if_pos h5] at hM
  refine spQA (And.intro ha4 h5) ?_
  have nh5 := nzQ h5
  try have hr6 := mpQ nh5
  refine ct_draw 121 26 [40, 41, 42, 43, 44, 45, 46, 47, 48, 49, 50, 51, 52, 53, 54, 55, 56, 57, 58, 59, 60, 61, 62, 63, 64, 65] [] ([[], [], [1], [], [3], [1, 2, 3, 4], [], [6], [1, 2, 3, 4, 5, 6, 7], [0, 1, 2, 3, 4, 5, 6, 7, 8], [], [], [10, 11], [], [13], [], [13, 14, 15], [10, 11, 12, 13, 14, 15, 16], [0, 1, 2, 3, 4, 5, 6, 7, 8, 9, 10, 11, 12, 13, 14, 15, 16, 17], [], [19], [19, 20], [0, 1, 2, 3, 4, 5, 6, 7, 8, 9, 10, 11, 12, 13, 14, 15, 16, 17, 18, 19, 20, 21], [], [23], [23, 24]] ++ [List.range 26, List.range 27]) [] (by kernel_rfl) (by exact alQ) ?_
  refine spQA ha4 ?_
  have hM0 := hM; clear hM; obtain ⟨x7, hx8, hM⟩ := letk_opn hM0; clear hM0
  have hcx7 := cmU hx8
  refine hcallC_give hcx7 (clQA ha4) (clQA ha4) ?_
  refine spQA ha4 ?_
  have hM0 := hM; clear hM; obtain ⟨x9, hx10, hM⟩ := letk_opn hM0; clear hM0
  have hcx9 := cmU hx10
  refine hcallC_give hcx9 (clQA ha4) (clQA ha4) ?_
  refine spQA ha4 ?_
  have hM0 := hM; clear hM; obtain ⟨x11, hx12, hM⟩ := letk_opn hM0; clear hM0
  have hcx11 := cmU hx12
  refine hcallC_give hcx11 (clQA ha4) (clQA ha4) ?_
  refine spQA ha4 ?_
  refine hbindC_intro omQ ?_
  refine spQA ha4 ?_
  have he13 := pp_get (f := V.int .u32) (l := kg_1) (n := 64) (i := p4.2.2.2.2.2.2.2.2) rfl omQ
  replace he13 := spR he13
  refine spQA (And.intro ha4 he13) ?_
  refine hbindC_intro omQ ?_
  have he14 : ((p4.2.2.2.2.2.2.2.2).toNat * 1 + 1 ≤ 64) = True := eq_true omQ
  refine spQA (And.intro ha4 (And.intro he13 he14)) ?_
  have he15 := arr_get (f := (V.int .u32)) (l := x1) (n := 64) (i := p4.2.2.2.2.2.2.2.2) omQ
  replace he15 := spR he15
  try refine spQA (And.intro ha4 (And.intro he13 (And.intro he14 he15))) ?_
  have hF := (And.intro ha4 (And.intro h5 (And.intro he13 (And.intro he14 he15))))
  exact auQ
 ·rw [if_neg (ne_true h5)] at hM
  refine spQA (And.intro ha4 h5) ?_
  have nh5 := nzQ h5
  try have hr25 := mpQ nh5
  have hM0 := hM; clear hM; obtain ⟨f26, d26, hf26, hd26, hM⟩ := iter_opn hM0; clear hM0
  refine ct_loop (fun n S => ∃ p : Int × (List Int), S = (⟨[(2, .ptr 0 0), (4, .ptr 1 0), (108, .agg [.int .u32 p4.1, .int .u32 p4.2.1, .int .u32 p4.2.2.1, .int .u32 p4.2.2.2.1, .int .u32 p4.2.2.2.2.1, .int .u32 p4.2.2.2.2.2.1, .int .u32 p4.2.2.2.2.2.2.1, .int .u32 p4.2.2.2.2.2.2.2.1]), (109, .int .i64 p.1)], [(0, .var 8 true ((e_arr133 p.2))), (1, .var 8 true (zv_133))], 26⟩ : St) ∧ ((0 ≤ p.1) ∧ (p.1 ≤ 8)) ∧ ((8 : Int) - p.1).toNat < n ∧ iter n f26 d26 p = r) (((8 : Int) - 0).toNat + 1) _ sbQ sbQ ⟨(0, state), rfl, ⟨omQ, omQ⟩, (Nat.lt_succ_self _), hM⟩ ?_
  clear hM
  rintro n26 S ⟨p26, rfl, hfa26, hm26, hM⟩
  have hM0 := hM; clear hM; obtain ⟨ag26, hag26, hM⟩ := iter_step hM0 (by omega) hf26; clear hM0
  replace hfa26 := nzQ hfa26
  replace hm26 := nzQ hm26
  have ha26 : addI .i64 p26.1 1 = p26.1 + 1 := add_one omQ omQ
  refine spQA (And.intro ha4 ha26) ?_
  refine condC_intro (fun h27 => ?_) (fun h27 => ?_)
  ·rw [if_pos h27] at hM
   refine spQA (And.intro ha4 (And.intro ha26 h27)) ?_
   have nh27 := nzQ h27
   try have hr28 := mpQ nh27
   have he29 := pp_get (f := (V.int .u32)) (l := ([p4.1, p4.2.1, p4.2.2.1, p4.2.2.2.1, p4.2.2.2.2.1, p4.2.2.2.2.2.1, p4.2.2.2.2.2.2.1, p4.2.2.2.2.2.2.2.1] : List Int)) (n := 8) (i := p26.1) rfl omQ
   replace he29 := spR he29
   refine spQA (And.intro ha4 (And.intro ha26 he29)) ?_
   refine bindC_intro omQ ?_
   refine spQA (And.intro ha4 (And.intro ha26 he29)) ?_
   refine bindC_intro omQ ?_
   have he30 : ((p26.1).toNat * 1 + 1 ≤ 8) = True := eq_true omQ
   refine spQA (And.intro ha4 (And.intro ha26 (And.intro he29 he30))) ?_
   have he31 := arr_get (f := (V.int .u32)) (l := p26.2) (n := 8) (i := p26.1) omQ
   replace he31 := spR he31
   try refine spQA (And.intro ha4 (And.intro ha26 (And.intro he29 (And.intro he30 he31)))) ?_
   refine bindC_intro omQ ?_
   have he32 : ((p26.1).toNat * 1 + 1 ≤ 8) = True := eq_true omQ
   refine spQA (And.intro ha4 (And.intro ha26 (And.intro he29 (And.intro he30 (And.intro he31 he32))))) ?_
   have he33 := arr_put (f := (V.int .u32)) (l := (arrN 8 p26.2)) (n := 8) (i := p26.1) (v := (addI .u32 (gt p26.2 p26.1) (gt ([p4.1, p4.2.1, p4.2.2.1, p4.2.2.2.1, p4.2.2.2.2.1, p4.2.2.2.2.2.1, p4.2.2.2.2.2.2.1, p4.2.2.2.2.2.2.2.1] : List Int) p26.1))) arrN_len omQ
   replace he33 := spR he33
   refine spQA (And.intro ha4 (And.intro ha26 (And.intro he29 (And.intro he30 (And.intro he31 (And.intro he32 he33)))))) ?_
   refine lp_intro (n26 - 1) _ (by omega) sbQ (by simp only [go_sem, rowV_eq, rowV_eq0, List.length_replicate, rep_len, Int.toNat_natCast, ↓reduceIte, Nat.reduceEqDiff, Nat.reduceAdd, Int.reduceAdd, Nat.reduceMul, Nat.reduceLeDiff, Nat.reduceLT, Int.reduceLE, Int.reduceLT, Int.reduceNeg, Int.reduceToNat, map_st, mtL_repE, mtL_repM, subF, subH, mtO, mtB, mt, mtL, mtL_self, mt_self, ltV, ltL, ltB, eq_self, or_true, true_or, or_self, and_self, gt_cons0, gt_conss, Int.reduceSub]) ⟨((p26.1 + 1), (arrN 8 (st (arrN 8 p26.2) p26.1 (addI .u32 (gt p26.2 p26.1) (gt ([p4.1, p4.2.1, p4.2.2.1, p4.2.2.2.1, p4.2.2.2.2.1, p4.2.2.2.2.2.1, p4.2.2.2.2.2.2.1, p4.2.2.2.2.2.2.2.1] : List Int) p26.1))))), rfl, ⟨omQ, omQ⟩, omQ, iter_again hM hag26⟩
  ·rw [if_neg (ne_true h27)] at hM
   refine spQA (And.intro ha4 (And.intro ha26 h27)) ?_
   have nh27 := nzQ h27
   try have hr34 := mpQ nh27
   subst hM
   exact retC_view (lfQA (And.intro ha4 (And.intro ha26 (And.intro h5 h27))))
set_option maxHeartbeats 2000000 in
set_option maxRecDepth 100000 in
theorem digest_Sum_ok   (b : (List Int)) (hp0 : b.length ≤ 1000000000) : CM En (digest_Sum b) 53 [.sl none 1 false (b.map (V.int .u8))] (fun y => (e_arr23 y)) (fun _ => []) := by
 refine cmQ fun r hM => ?_
 rw [digest_Sum.eq_1] at hM
 refine enterV En_ok En_mo [6] Tryd.func53 rfl Tryd.ntmps53 (by kernel_rfl) fun hw => ct_start ?_
 refine spQ ?_
 replace hw := nzQ hw
 have hM0 := hM; clear hM; obtain ⟨x1, hx2, hM⟩ := letk_opn hM0; clear hM0
 have hcx1 := bytes_Clone_ok none b 
 rw [← hx2] at hcx1
 refine callC_give hcx1 clQ clQ (fun hw3 => ?_)
 replace hw3 := nzQ hw3
 refine spQ ?_
 have hq4 := nzQ (cfU hx2)
 refine bindC_intro omQ ?_
 refine spQ ?_
 have hM0 := hM; clear hM; obtain ⟨f5, d5, hf5, hd5, hM⟩ := iter_opn hM0; clear hM0
 refine ct_loop (fun n S => ∃ p : List Int, S = (⟨[(0, .sl none 1 false (b.map (V.int .u8))), (2, .ptr 0 0), (3, .own 1)], [(0, .var 32 true (zv_23)), (1, .own 5 1 false none (p.map (V.int .u8)))], 3⟩ : St) ∧ ((((p).length : Int) + (56 - ((p).length : Int)) % 64 ≤ (b.length : Int) + 65)) ∧ ((56 - ((p).length : Int)) % 64).toNat < n ∧ iter n f5 d5 p = r) (((56 - (((x1 ++ ([128] : List Int))).length : Int)) % 64).toNat + 1) _ sbQ sbQ ⟨(x1 ++ ([128] : List Int)), rfl, omQ, (Nat.lt_succ_self _), hM⟩ ?_
 clear hM
 rintro n5 S ⟨p5, rfl, hfa5, hm5, hM⟩
 have hM0 := hM; clear hM; obtain ⟨ag5, hag5, hM⟩ := iter_step hM0 (by omega) hf5; clear hM0
 replace hfa5 := nzQ hfa5
 replace hm5 := nzQ hm5
 refine spQ ?_
 refine bindC_intro omQ ?_
 refine spQ ?_
 refine condC_intro (fun h6 => ?_) (fun h6 => ?_)
 ·rw [if_pos h6] at hM
  refine spQA h6 ?_
  have nh6 := nzQ h6
  try have hr7 := mpQ nh6
  have hF := h6
  exact auQ
 ·rw [if_neg (ne_true h6)] at hM
  refine spQA h6 ?_
  have nh6 := nzQ h6
  try have hr8 := mpQ nh6
  have hM0 := hM; clear hM; obtain ⟨x9, hx10, hM⟩ := letk_opn hM0; clear hM0
  have hcx9 := cmU hx10
  refine callC_give hcx9 clQ clQ (fun hw11 => ?_)
  replace hw11 := nzQ hw11
  refine spQ ?_
  have hq12 := nzQ (cfU hx10)
  refine bindC_intro omQ ?_
  refine spQ ?_
  refine seqC_pass ?_
  refine spQ ?_
  refine cut_weakW _ (⟨[(2, .ptr 0 0), (3, .sl (zApp (x9.map (V.int .u8))) 1 false ((p5 ++ x9).map (V.int .u8))), (4, .ptr 3 0)], [(0, .var 32 true (zv_23)), (1, .pown 1 false (zApp (x9.map (V.int .u8))) ((p5 ++ x9).map (V.int .u8))), (3, .var 8 true (.agg [.int .u32 1779033703, .int .u32 3144134277, .int .u32 1013904242, .int .u32 2773480762, .int .u32 1359893119, .int .u32 2600822924, .int .u32 528734635, .int .u32 1541459225]))], 4⟩ : St) ((weak_pub (S := ⟨_, _, _⟩) 1 (T := 5) (n := 1) (g := false) (z := (zApp (x9.map (V.int .u8)))) (l := (p5 ++ x9).map (V.int .u8)) clQ).trans (weak_slot (S := ⟨_, _, _⟩) 3 1 (n := 1) (g := false) (z := (zApp (x9.map (V.int .u8)))) (l := (p5 ++ x9).map (V.int .u8)) clQ clQ)) sbQ sbQ ?_
  try refine spQ ?_
  have hM0 := hM; clear hM; obtain ⟨f13, d13, hf13, hd13, hM⟩ := iter_opn hM0; clear hM0
  refine ct_loop (fun n S => ∃ p : List Int × (List Int), S = (⟨[(2, .ptr 0 0), (3, .sl none 1 false (p.1.map (V.int .u8))), (4, .ptr 3 0)], [(0, .var 32 true (zv_23)), (3, .var 8 true ((e_arr133 p.2)))], 4⟩ : St) ∧ ((((p.1).length : Int) % 64 = 0)) ∧ (p.1).length < n ∧ iter n f13 d13 p = r) (((p5 ++ x9)).length + 1) _ sbQ (by simp only [go_sem, rowV_eq, rowV_eq0, List.length_replicate, rep_len, Int.toNat_natCast, ↓reduceIte, Nat.reduceEqDiff, Nat.reduceAdd, Int.reduceAdd, Nat.reduceMul, Nat.reduceLeDiff, Nat.reduceLT, Int.reduceLE, Int.reduceLT, Int.reduceNeg, Int.reduceToNat, map_st, mtL_repE, mtL_repM, subF, subH, mtO, mtB, mt, mtL, mtL_self, mt_self, ltV, ltL, ltB, eq_self, or_true, true_or, or_self, and_self, gt_cons0, gt_conss, Int.reduceSub]) ⟨((p5 ++ x9), [1779033703, 3144134277, 1013904242, 2773480762, 1359893119, 2600822924, 528734635, 1541459225]), rfl, omQ, (Nat.lt_succ_self _), hM⟩ ?_
  clear hM
  rintro n13 S ⟨p13, rfl, hfa13, hm13, hM⟩
  have hM0 := hM; clear hM; obtain ⟨ag13, hag13, hM⟩ := iter_step hM0 (by omega) hf13; clear hM0
  replace hfa13 := nzQ hfa13
  replace hm13 := nzQ hm13
  refine spQ ?_
  refine condC_intro (fun h14 => ?_) (fun h14 => ?_)
  ·rw [if_pos h14] at hM
   refine spQA h14 ?_
   have nh14 := nzQ h14
   try have hr15 := mpQ nh14
   refine ct_draw 59 3 [33, 34, 35] [] ([[], [], [1]] ++ [List.range 3, List.range 4]) [] (by kernel_rfl) (by exact alQ) ?_
   refine spQ ?_
   refine hbindC_intro omQ ?_
   refine spQ ?_
   have hM0 := hM; clear hM; obtain ⟨x16, hx17, hM⟩ := letk_opn hM0; clear hM0
   have hcx16 := cmH hx17 (digest_mix_ok  (p13.2) (sl p13.1 0 64) (by (exact pfQ)))
   refine callC_give hcx16 clQ clQ (fun hw18 => ?_)
   replace hw18 := nzQ hw18
   refine spQ ?_
   have hF := (And.intro h6 h14)
   exact auQ
  ·rw [if_neg (ne_true h14)] at hM
   refine spQA h14 ?_
   have nh14 := nzQ h14
   try have hr19 := mpQ nh14
   have hM0 := hM; clear hM; obtain ⟨f20, d20, hf20, hd20, hM⟩ := iter_opn hM0; clear hM0
   refine ct_loop (fun n S => ∃ p : Int × (List Int), S = (⟨[(2, .ptr 0 0), (5, .ptr 4 0), (37, (e_arr133 p13.2)), (38, .int .i64 p.1)], [(0, .var 32 true (zv_23)), (4, .var 32 true ((e_arr23 p.2)))], 5⟩ : St) ∧ ((0 ≤ p.1) ∧ (p.1 ≤ 8)) ∧ ((8 : Int) - p.1).toNat < n ∧ iter n f20 d20 p = r) (((8 : Int) - 0).toNat + 1) _ sbQ (by simp only [go_sem, rowV_eq, rowV_eq0, List.length_replicate, rep_len, Int.toNat_natCast, ↓reduceIte, Nat.reduceEqDiff, Nat.reduceAdd, Int.reduceAdd, Nat.reduceMul, Nat.reduceLeDiff, Nat.reduceLT, Int.reduceLE, Int.reduceLT, Int.reduceNeg, Int.reduceToNat, map_st, mtL_repE, mtL_repM, subF, subH, mtO, mtB, mt, mtL, mtL_self, mt_self, ltV, ltL, ltB, eq_self, or_true, true_or, or_self, and_self, gt_cons0, gt_conss, Int.reduceSub]) ⟨(0, [0, 0, 0, 0, 0, 0, 0, 0, 0, 0, 0, 0, 0, 0, 0, 0, 0, 0, 0, 0, 0, 0, 0, 0, 0, 0, 0, 0, 0, 0, 0, 0]), rfl, ⟨omQ, omQ⟩, (Nat.lt_succ_self _), hM⟩ ?_
   clear hM
   rintro n20 S ⟨p20, rfl, hfa20, hm20, hM⟩
   have hM0 := hM; clear hM; obtain ⟨ag20, hag20, hM⟩ := iter_step hM0 (by omega) hf20; clear hM0
   replace hfa20 := nzQ hfa20
   replace hm20 := nzQ hm20
   have ha20 : addI .i64 p20.1 1 = p20.1 + 1 := add_one omQ omQ
   refine spQA ha20 ?_
   refine condC_intro (fun h21 => ?_) (fun h21 => ?_)
   ·rw [if_pos h21] at hM
    refine spQA (And.intro ha20 h21) ?_
    have nh21 := nzQ h21
    try have hr22 := mpQ nh21
    have he23 := arr_get1 (f := (V.int .u32)) (l := p13.2) (n := 8) (i := p20.1) omQ
    replace he23 := spR he23
    refine spQA (And.intro ha20 he23) ?_
    refine bindC_intro omQ ?_
    refine spQA (And.intro ha20 he23) ?_
    have hM0 := hM; clear hM; obtain ⟨f24, d24, hf24, hd24, hM⟩ := iter_opn hM0; clear hM0
    refine ct_loop (fun n S => ∃ p : Int × (List Int), S = (⟨[(2, .ptr 0 0), (5, .ptr 4 0), (6, .int .i64 p20.1), (7, .int .u32 (gt p13.2 p20.1)), (37, (e_arr133 p13.2)), (38, .int .i64 p20.1), (42, .int .i64 p.1)], [(0, .var 32 true (zv_23)), (4, .var 32 true ((e_arr23 p.2)))], 5⟩ : St) ∧ ((0 ≤ p.1) ∧ (p.1 ≤ 4)) ∧ ((4 : Int) - p.1).toNat < n ∧ iter n f24 d24 p = r) (((4 : Int) - 0).toNat + 1) _ sbQ sbQ ⟨(0, p20.2), rfl, ⟨omQ, omQ⟩, (Nat.lt_succ_self _), hM⟩ ?_
    clear hM
    rintro n24 S ⟨p24, rfl, hfa24, hm24, hM⟩
    have hM0 := hM; clear hM; obtain ⟨ag24, hag24, hM⟩ := iter_step hM0 (by omega) hf24; clear hM0
    replace hfa24 := nzQ hfa24
    replace hm24 := nzQ hm24
    have ha24 : addI .i64 p24.1 1 = p24.1 + 1 := add_one omQ omQ
    refine spQA (And.intro ha20 (And.intro he23 ha24)) ?_
    refine condC_intro (fun h25 => ?_) (fun h25 => ?_)
    ·rw [if_pos h25] at hM
     refine spQA (And.intro ha20 (And.intro he23 (And.intro ha24 h25))) ?_
     have nh25 := nzQ h25
     try have hr26 := mpQ nh25
     obtain ⟨ha27, hbha27⟩ := mul_pos_ok (a := 4) (b := p20.1) 8 64 512 omQ omQ omQ omQ (by decide) (by decide)
     try simp only [ha27]
     have ha28 : addI .i64 (4 * p20.1) p24.1 = ((4 * p20.1) + p24.1) := add_ok omQ omQ
     try simp only [ha28]
     obtain ⟨ha29, hbha29⟩ := mul_pos_ok (a := 8) (b := p24.1) 8 64 512 omQ omQ omQ omQ (by decide) (by decide)
     try simp only [ha29]
     have ha30 : subI .i64 24 (8 * p24.1) = (24 - (8 * p24.1)) := sub_ok omQ omQ
     try simp only [ha30]
     refine bindC_intro omQ ?_
     refine spQA (And.intro ha20 (And.intro he23 (And.intro ha24 (And.intro ha27 (And.intro ha28 (And.intro ha29 ha30)))))) ?_
     refine bindC_intro omQ ?_
     have he31 : ((((4 * p20.1) + p24.1)).toNat * 1 + 1 ≤ 32) = True := eq_true omQ
     refine spQA (And.intro ha20 (And.intro he23 (And.intro ha24 (And.intro ha27 (And.intro ha28 (And.intro ha29 (And.intro ha30 he31))))))) ?_
     have he32 := arr_put (f := (V.int .u8)) (l := (arrN 32 p24.2)) (n := 32) (i := ((4 * p20.1) + p24.1)) (v := (convI .u8 (shrI .u32 (gt p13.2 p20.1) (24 - (8 * p24.1))))) arrN_len omQ
     replace he32 := spR he32
     refine spQA (And.intro ha20 (And.intro he23 (And.intro ha24 (And.intro ha27 (And.intro ha28 (And.intro ha29 (And.intro ha30 (And.intro he31 he32)))))))) ?_
     refine lp_intro (n24 - 1) _ (by omega) sbQ (by simp only [go_sem, rowV_eq, rowV_eq0, List.length_replicate, rep_len, Int.toNat_natCast, ↓reduceIte, Nat.reduceEqDiff, Nat.reduceAdd, Int.reduceAdd, Nat.reduceMul, Nat.reduceLeDiff, Nat.reduceLT, Int.reduceLE, Int.reduceLT, Int.reduceNeg, Int.reduceToNat, map_st, mtL_repE, mtL_repM, subF, subH, mtO, mtB, mt, mtL, mtL_self, mt_self, ltV, ltL, ltB, eq_self, or_true, true_or, or_self, and_self, gt_cons0, gt_conss, Int.reduceSub]) ⟨((p24.1 + 1), (arrN 32 (st (arrN 32 p24.2) ((4 * p20.1) + p24.1) (convI .u8 (shrI .u32 (gt p13.2 p20.1) (24 - (8 * p24.1))))))), rfl, ⟨omQ, omQ⟩, omQ, iter_again hM hag24⟩
    ·rw [if_neg (ne_true h25)] at hM
     refine spQA (And.intro ha20 (And.intro he23 (And.intro ha24 h25))) ?_
     have nh25 := nzQ h25
     try have hr33 := mpQ nh25
     refine lp_intro (n20 - 1) _ (by omega) sbQ sbQ ⟨((p20.1 + 1), p24.2), rfl, ⟨omQ, omQ⟩, omQ, iter_again hM hag20⟩
   ·rw [if_neg (ne_true h21)] at hM
    refine spQA (And.intro ha20 h21) ?_
    have nh21 := nzQ h21
    try have hr34 := mpQ nh21
    subst hM
    exact retC_view (lfQA (And.intro ha20 (And.intro h6 (And.intro h14 h21))))
set_option maxHeartbeats 2000000 in
set_option maxRecDepth 100000 in
theorem digest_Tagged_ok   (tag : (List UInt8)) (b : (List Int)) (hp0 : b.length ≤ 900000000) : CM En (digest_Tagged tag b) 28 [.str tag, .sl none 1 false (b.map (V.int .u8))] (fun y => .tup [(e_arr23 y.1), .int .i64 y.2]) (fun _ => []) := by
 refine cmQ fun r hM => ?_
 rw [digest_Tagged.eq_1] at hM
 refine enterV En_ok En_mo [4] Tryd.func28 rfl Tryd.ntmps28 (by kernel_rfl) fun hw => ct_start ?_
 refine spQ ?_
 replace hw := nzQ hw
 refine guardC_f (fun h1 => ?_) (fun h1 => ?_)
 ·rw [if_neg (ne_true h1)] at hM
  refine spQA h1 ?_
  have nh1 := nzQ h1
  try have hr2 := mpQ nh1
  refine condC_intro (fun h3 => ?_) (fun h3 => ?_)
  ·rw [if_pos h3] at hM
   refine spQA h3 ?_
   have nh3 := nzQ h3
   try have hr4 := mpQ nh3
   subst hM
   exact retC_view (lfQA (And.intro h1 h3))
  ·rw [if_neg (ne_true h3)] at hM
   refine spQA h3 ?_
   have nh3 := nzQ h3
   try have hr5 := mpQ nh3
   refine seqC_pass ?_
   refine spQ ?_
   have hM0 := hM; clear hM; obtain ⟨x6, hx7, hM⟩ := letk_opn hM0; clear hM0
   have hcx6 := cmH hx7 (digest_Sum_ok  (nat8 tag) (by (exact pfQ)))
   refine callC_look hcx6 clQ clQ (fun hw8 => ?_)
   replace hw8 := nzQ hw8
   refine spQ ?_
   refine cut_weakW _ (⟨[(1, .sl none 1 false (b.map (V.int .u8))), (4, .ptr 0 0), (6, .ptr 2 0)], [(0, .var 32 true (zv_23)), (2, .pvar 32 true ((e_arr23 x6)))], 3⟩ : St) (weak_pubv (S := ⟨_, _, _⟩) 2 (n := 32) (g := true) (d := (e_arr23 x6)) clQ clQ) sbQ sbQ ?_
   try refine spQ ?_
   refine ct_draw 26 5 [19, 20, 21, 22, 23] [] ([[], [0], [], [0, 1, 2], []] ++ [List.range 5, List.range 6, List.range 7, List.range 8]) [(3, 4)] (by kernel_rfl) (by exact alQ) ?_
   refine spQ ?_
   have hM0 := hM; clear hM; obtain ⟨x9, hx10, hM⟩ := letk_opn hM0; clear hM0
   have hcx9 := bytes_Clone_ok (some false) (arrN 32 x6) 
   rw [← hx10] at hcx9
   refine hcallC_own hcx9 clQ clQ ?_
   refine spQ ?_
   have hq11 := nzQ (cfU hx10)
   refine hbindC_introA omQ clQ ?_
   refine spQ ?_
   refine bindC_intro omQ ?_
   refine spQ ?_
   have hM0 := hM; clear hM; obtain ⟨x12, hx13, hM⟩ := letk_opn hM0; clear hM0
   have hcx12 := cmH hx13 (digest_Sum_ok  ((x9 ++ (arrN 32 x6)) ++ b) (by (exact pfQ)))
   refine callC_look hcx12 clQ clQ (fun hw14 => ?_)
   replace hw14 := nzQ hw14
   refine spQ ?_
   subst hM
   exact retC_view (lfQA (And.intro h1 h3))
 ·rw [if_pos h1] at hM
  refine spQA h1 ?_
  have nh1 := nzQ h1
  try have hr15 := mpQ nh1
  subst hM
  exact retC_view (lfQA h1)
set_option maxHeartbeats 2000000 in
set_option maxRecDepth 100000 in
instance payment_Label_ok   (v : S_api_Invoice)  : CM En (payment_Label v) 8 [(e_api_Invoice v)] (fun y => .tup [.str y.1, .int .i64 y.2]) (fun _ => []) := by
 refine cmQ fun r hM => ?_
 rw [payment_Label.eq_1] at hM
 refine enterV En_ok En_mo noJ Tryd.func8 rfl Tryd.ntmps8 (by kernel_rfl) fun hw => ct_start ?_
 refine spQ ?_
 replace hw := nzQ hw
 have hM0 := hM; clear hM; obtain ⟨x1, hx2, hM⟩ := letk_opn hM0; clear hM0
 have hcx1 := cmU hx2
 refine callC_give hcx1 clQ clQ (fun hw3 => ?_)
 replace hw3 := nzQ hw3
 refine spQ ?_
 have hq4 := inv_len hx2
 replace hq4 := nzQ hq4
 refine condC_intro (fun h5 => ?_) (fun h5 => ?_)
 ·rw [if_pos h5] at hM
  refine spQA h5 ?_
  have nh5 := nzQ h5
  try have hr6 := mpQ nh5
  subst hM
  exact retC_view (lfQA h5)
 ·rw [if_neg (ne_true h5)] at hM
  refine spQA h5 ?_
  have nh5 := nzQ h5
  try have hr7 := mpQ nh5
  have hM0 := hM; clear hM; obtain ⟨x8, hx9, hM⟩ := letk_opn hM0; clear hM0
  have hcx8 := cmH hx9 (digest_Tagged_ok  ([115, 112, 101, 99, 105, 101, 47, 105, 110, 118, 111, 105, 99, 101]) (x1.1) (by (exact pfQ)))
  refine callC_give hcx8 clQ clQ (fun hw10 => ?_)
  replace hw10 := nzQ hw10
  refine spQ ?_
  have hF := h5
  exact auQ
set_option maxHeartbeats 2000000 in
set_option maxRecDepth 100000 in
instance specieref07_value_ok   (b : (List Int))  : CM En (specieref07_value b) 80 [.sl none 1 false (b.map (V.int .u8))] (fun y => .int .u64 y) (fun _ => []) := by
 refine cmQ fun r hM => ?_
 rw [specieref07_value.eq_1] at hM
 refine enterV En_ok En_mo noJ Tryd.func80 rfl Tryd.ntmps80 (by kernel_rfl) fun hw => ct_start ?_
 refine spQ ?_
 replace hw := nzQ hw
 have hM0 := hM; clear hM; obtain ⟨f1, d1, hf1, hd1, hM⟩ := iter_opn hM0; clear hM0
 refine ct_loop (fun n S => ∃ p : Int × Int, S = (⟨[(0, .sl none 1 false (b.map (V.int .u8))), (3, .int .u64 p.1), (4, .int .i64 p.2)], [], 0⟩ : St) ∧ ((0 ≤ p.2) ∧ (p.2 ≤ (b.length : Int))) ∧ ((b.length : Int) - p.2).toNat < n ∧ iter n f1 d1 p = r) (((b.length : Int) - 0).toNat + 1) _ sbQ sbQ ⟨(0, 0), rfl, ⟨omQ, omQ⟩, (Nat.lt_succ_self _), hM⟩ ?_
 clear hM
 rintro n1 S ⟨p1, rfl, hfa1, hm1, hM⟩
 have hM0 := hM; clear hM; obtain ⟨ag1, hag1, hM⟩ := iter_step hM0 (by omega) hf1; clear hM0
 replace hfa1 := nzQ hfa1
 replace hm1 := nzQ hm1
 have ha1 : addI .i64 p1.2 1 = p1.2 + 1 := add_one omQ omQ
 refine spQA ha1 ?_
 have hF := ha1
 exact auQ
instance (priority := 1002) : DRD 16 119 11 [78, 79, 80, 81, 82, 83, 84, 85, 86, 87] [] ([[], [], [], [], [2, 3], [1, 2, 3, 4], [0, 1, 2, 3, 4, 5], [], [], [7, 8], [0, 1, 2, 3, 4, 5, 6]] ++ [List.range 11, List.range 12]) [(5, 2), (10, 0)] := ⟨trivial⟩
set_option maxHeartbeats 2000000 in
set_option maxRecDepth 100000 in
theorem specieref07_read_ok (N : Nat) (ih : ∀ (z0 : Option Bool) (b : (List Int)) (within : Int), (0 ≤ within) → (within ≤ 8) → (isB b) → (8 - within).toNat < N → CallOk En 60 [.sl z0 1 false (b.map (V.int .u8)), .int .i64 within] (.tup [.agg [.int .i64 (rreadM b within).1.Kind, .int .i64 (rreadM b within).1.N, .sl none 1 false ((rreadM b within).1.B.map (V.int .u8)), .sl none 4 true ((rreadM b within).1.L.map e_api_Item)], .sl none 1 false ((rreadM b within).2.1.map (V.int .u8)), .int .i64 (rreadM b within).2.2]) []) (z0 : Option Bool) (b : (List Int)) (within : Int) (hp0 : 0 ≤ within) (hp1 : within ≤ 8) (hp2 : isB b) (hp_ : (8 - within).toNat < N + 1) : CallOk En 60 [.sl z0 1 false (b.map (V.int .u8)), .int .i64 within] (.tup [.agg [.int .i64 (specieref07_read b within).1.Kind, .int .i64 (specieref07_read b within).1.N, .sl none 1 false ((specieref07_read b within).1.B.map (V.int .u8)), .sl none 4 true ((specieref07_read b within).1.L.map e_api_Item)], .sl none 1 false ((specieref07_read b within).2.1.map (V.int .u8)), .int .i64 (specieref07_read b within).2.2]) [] := by
 generalize hM : specieref07_read b within = r
 rw [specieref07_read.eq_1] at hM
 refine enterV En_ok En_mo [11] Tryd.func60 rfl Tryd.ntmps60 (by kernel_rfl) fun hw => ct_start ?_
 refine spQ ?_
 replace hw := nzQ hw
 refine condC_intro (fun h1 => ?_) (fun h1 => ?_)
 ·rw [if_pos h1] at hM
  refine spQA h1 ?_
  have nh1 := nzQ h1
  try have hr2 := mpQ nh1
  subst hM
  exact retC_view (lfQA h1)
 ·rw [if_neg (ne_true h1)] at hM
  refine spQA h1 ?_
  have nh1 := nzQ h1
  try have hr3 := mpQ nh1
  refine bindC_intro omQ ?_
  have he4 : ∀ d, elt (b.map (V.int .u8)) 0 d = (V.int .u8) (gt b 0) := fun d => elt_mp (l := b) (f := (V.int .u8)) (i := 0) omQ d
  refine spQA he4 ?_
  refine bindC_intro omQ ?_
  refine spQA he4 ?_
  have hM0 := hM; clear hM; obtain ⟨j5, hj5, hM⟩ := letj_opn hM0; clear hM0
  refine seqC_intro (fun S => ∃ p : Unit, S = (⟨[(0, .sl none 1 false ((sl b 1 (b.length : Int)).map (V.int .u8))), (1, .int .i64 within), (4, .ptr 0 0), (7, .int .i64 (convI .i64 (gt b 0)))], [(0, .var 4 true (.agg [.int .i64 0, .int .i64 0, .sl (some true) 1 false [], .sl (some true) 4 true []]))], 1⟩ : St) ∧ ((2 ≤ (convI .i64 (gt b 0))) ∧ ((convI .i64 (gt b 0)) ≤ 3) ∧ ((convI .i64 (gt b 0)) ≠ 3 ∨ within ≠ 8) ∧ (4 ≤ (((sl b 1 (b.length : Int))).length : Int))) ∧ j5 p = r) ?_ (fun hcut5 => ?_)
  ·clear hM
   rintro S ⟨p5, rfl, hfa5, hM⟩
   replace hfa5 := nzQ hfa5
   have hM0 := hM; clear hM; have hM := letj_use hM0 hj5; clear hM0
   refine spQA he4 ?_
   refine bindC_intro omQ ?_
   refine spQA he4 ?_
   have hM0 := hM; clear hM; obtain ⟨x6, hx7, hM⟩ := letk_opn hM0; clear hM0
   have hcx6 := cmU hx7
   refine callC_give hcx6 (clQA he4) (clQA he4) (fun hw8 => ?_)
   replace hw8 := nzQ hw8
   refine spQA he4 ?_
   have hq9 := value_fact hx7 (isB_sl (isB_sl hp2))
   replace hq9 := nzQ hq9
   refine bindC_intro omQ ?_
   refine spQA he4 ?_
   refine condC_intro (fun h10 => ?_) (fun h10 => ?_)
   ·rw [if_pos h10] at hM
    refine spQA (And.intro he4 h10) ?_
    have nh10 := nzQ h10
    try have hr11 := mpQ nh10
    have hF := (And.intro h1 (And.intro he4 h10))
    exact auQ
   ·rw [if_neg (ne_true h10)] at hM
    refine spQA (And.intro he4 h10) ?_
    have nh10 := nzQ h10
    try have hr15 := mpQ nh10
    refine condC_intro (fun h16 => ?_) (fun h16 => ?_)
    ·rw [if_pos h16] at hM
     refine spQA (And.intro he4 h16) ?_
     have nh16 := nzQ h16
     try have hr17 := mpQ nh16
     subst hM
     exact retC_view (lfQA (And.intro he4 (And.intro h1 (And.intro h10 h16))))
    ·rw [if_neg (ne_true h16)] at hM
     refine spQA (And.intro he4 h16) ?_
     have nh16 := nzQ h16
     try have hr18 := mpQ nh16
     have hM0 := hM; clear hM; obtain ⟨f19, d19, hf19, hd19, hM⟩ := iter_opn hM0; clear hM0
     refine ct_loopW (fun n S => ∃ p : List Int × Int × S_api_Item × List S_api_Item, S = (⟨[(0, .sl none 1 false (p.1.map (V.int .u8))), (1, .int .i64 within), (4, .ptr 0 0), (8, .int .i64 (convI .i64 x6)), (9, .ptr 1 0), (10, .int .i64 p.2.1)], [(0, .var 4 true (.agg [.int .i64 p.2.2.1.Kind, .int .i64 p.2.2.1.N, .sl none 1 false (p.2.2.1.B.map (V.int .u8)), .sl none 4 true (p.2.2.1.L.map e_api_Item)])), (1, .var 4 true (.agg [.int .i64 (convI .i64 (gt b 0)), .int .i64 0, .sl (some true) 1 false [], .own 2])), (2, .own 53 4 true none (p.2.2.2.map e_api_Item))], 3⟩ : St) ∧ (((0 ≤ p.2.1) ∧ (p.2.1 ≤ (convI .i64 x6)) ∧ (((p.2.2.2).length : Int) ≤ p.2.1)) ∧ (isB (p.1))) ∧ ((convI .i64 x6) - p.2.1).toNat < n ∧ iter n f19 d19 p = r) (((convI .i64 x6) - 0).toNat + 1) _ _ (weak_nilV 1 3 53 rfl rfl (by decide)) sbQ (by simp only [go_sem, rowV_eq, rowV_eq0, List.length_replicate, rep_len, Int.toNat_natCast, ↓reduceIte, Nat.reduceEqDiff, Nat.reduceAdd, Int.reduceAdd, Nat.reduceMul, Nat.reduceLeDiff, Nat.reduceLT, Int.reduceLE, Int.reduceLT, Int.reduceNeg, Int.reduceToNat, map_st, mtL_repE, mtL_repM, subF, subH, mtO, mtB, mt, mtL, mtL_self, mt_self, ltV, ltL, ltB, eq_self, or_true, true_or, or_self, and_self, gt_cons0, gt_conss, Int.reduceSub]) ⟨((sl (sl b 1 (b.length : Int)) 4 ((sl b 1 (b.length : Int)).length : Int)), 0, z_api_Item, ([] : List S_api_Item)), rfl, ⟨⟨omQ, omQ, omQ⟩, by (exact isB_sl (isB_sl hp2))⟩, (Nat.lt_succ_self _), hM⟩ ?_
     clear hM
     rintro n19 S ⟨p19, rfl, ⟨hfa19, hF21_0⟩, hm19, hM⟩
     have hM0 := hM; clear hM; obtain ⟨ag19, hag19, hM⟩ := iter_step hM0 (by omega) hf19; clear hM0
     replace hfa19 := nzQ hfa19
     replace hm19 := nzQ hm19
     have ha19 : addI .i64 p19.2.1 1 = p19.2.1 + 1 := add_one omQ omQ
     refine spQA (And.intro he4 ha19) ?_
     refine condC_intro (fun h20 => ?_) (fun h20 => ?_)
     ·rw [if_pos h20] at hM
      refine spQA (And.intro he4 (And.intro ha19 h20)) ?_
      have nh20 := nzQ h20
      try have hr21 := mpQ nh20
      have ha22 : addI .i64 within 1 = (within + 1) := add_ok omQ omQ
      try simp only [ha22]
      have hM0 := hM; clear hM; obtain ⟨x23, hx24, hM⟩ := letk_opn hM0; clear hM0
      have hcx23 := ih none (p19.1) (within + 1) (by (first | assumption | omega)) (by (first | assumption | omega)) (by (first | assumption | omega)) (by omega)
      rw [← hx24] at hcx23
      refine callC_give hcx23 (clQA (And.intro he4 (And.intro ha19 ha22))) (clQA (And.intro he4 (And.intro ha19 ha22))) (fun hw25 => ?_)
      replace hw25 := nzQ hw25
      refine spQA (And.intro he4 (And.intro ha19 ha22)) ?_
      have hq26 := rread_isB hx24 (by assumption)
      replace hq26 := nzQ hq26
      refine condC_intro (fun h27 => ?_) (fun h27 => ?_)
      ·rw [if_pos h27] at hM
       refine spQA (And.intro he4 (And.intro ha19 (And.intro ha22 h27))) ?_
       have nh27 := nzQ h27
       try have hr28 := mpQ nh27
       subst hM
       exact retC_view (lfQA (And.intro he4 (And.intro ha19 (And.intro ha22 (And.intro h1 (And.intro h10 (And.intro h16 (And.intro h20 h27))))))))
      ·rw [if_neg (ne_true h27)] at hM
       refine spQA (And.intro he4 (And.intro ha19 (And.intro ha22 h27))) ?_
       have nh27 := nzQ h27
       try have hr29 := mpQ nh27
       refine bindC_intro omQ ?_
       refine spQA (And.intro he4 (And.intro ha19 ha22)) ?_
       refine lp_intro (n19 - 1) _ (by omega) sbQ sbQ ⟨(x23.2.1, (p19.2.1 + 1), p19.2.2.1, (p19.2.2.2 ++ ([x23.1] : List S_api_Item))), rfl, ⟨⟨omQ, omQ, omQ⟩, by assumption⟩, omQ, iter_again hM hag19⟩
     ·rw [if_neg (ne_true h20)] at hM
      refine spQA (And.intro he4 (And.intro ha19 h20)) ?_
      have nh20 := nzQ h20
      try have hr30 := mpQ nh20
      subst hM
      exact retC_view (lfQA (And.intro he4 (And.intro ha19 (And.intro h1 (And.intro h10 (And.intro h16 h20))))))
  ·refine spQA he4 ?_
   refine guardC_f (fun h31 => ?_) (fun h31 => ?_)
   ·rw [if_neg (ne_true h31)] at hM
    refine spQA (And.intro he4 h31) ?_
    have nh31 := nzQ h31
    try have hr32 := mpQ nh31
    refine guardC_f (fun h33 => ?_) (fun h33 => ?_)
    ·rw [if_neg (ne_true h33)] at hM
     refine spQA (And.intro he4 h33) ?_
     have nh33 := nzQ h33
     try have hr34 := mpQ nh33
     refine guardC_t (fun h35 => ?_) (fun h35 => ?_)
     ·rw [if_pos h35] at hM
      refine spQA (And.intro he4 h35) ?_
      have nh35 := nzQ h35
      try have hr36 := mpQ nh35
      refine condC_intro (fun h37 => ?_) (fun h37 => ?_)
      ·rw [if_pos h37] at hM
       refine spQA (And.intro he4 h37) ?_
       have nh37 := nzQ h37
       try have hr38 := mpQ nh37
       subst hM
       exact retC_view (lfQA (And.intro he4 (And.intro h1 (And.intro h31 (And.intro h33 (And.intro h35 h37))))))
      ·rw [if_neg (ne_true h37)] at hM
       refine spQA (And.intro he4 h37) ?_
       have nh37 := nzQ h37
       try have hr39 := mpQ nh37
       refine guardC_t (fun h40 => ?_) (fun h40 => ?_)
       ·rw [if_pos h40] at hM
        refine spQA (And.intro he4 h40) ?_
        have nh40 := nzQ h40
        try have hr41 := mpQ nh40
        refine guardC_f (fun h42 => ?_) (fun h42 => ?_)
        ·rw [if_neg (ne_true h42)] at hM
         refine spQA (And.intro he4 h42) ?_
         have nh42 := nzQ h42
         try have hr43 := mpQ nh42
         refine condC_intro (fun h44 => ?_) (fun h44 => ?_)
         ·rw [if_pos h44] at hM
          refine spQA (And.intro he4 h44) ?_
          have nh44 := nzQ h44
          try have hr45 := mpQ nh44
          subst hM
          exact retC_view (lfQA (And.intro he4 (And.intro h1 (And.intro h31 (And.intro h33 (And.intro h35 (And.intro h37 (And.intro h40 (And.intro h42 h44)))))))))
         ·rw [if_neg (ne_true h44)] at hM
          refine spQA (And.intro he4 h44) ?_
          have nh44 := nzQ h44
          try have hr46 := mpQ nh44
          refine condC_intro (fun h47 => ?_) (fun h47 => ?_)
          ·rw [if_pos h47] at hM
           refine spQA (And.intro he4 h47) ?_
           have nh47 := nzQ h47
           try have hr48 := mpQ nh47
           refine ct_draw 119 9 [57, 58, 59, 60, 61, 62, 63, 64] [] ([[], [], [1], [1, 2], [1, 2, 3], [0, 1, 2, 3, 4], [], [6], [0, 1, 2, 3, 4, 5]] ++ [List.range 9, List.range 10]) [(8, 0)] (by kernel_rfl) (by exact alQ) ?_
           refine spQA he4 ?_
           refine hbindC_intro omQ ?_
           refine spQA he4 ?_
           have hM0 := hM; clear hM; obtain ⟨x49, hx50, hM⟩ := letk_opn hM0; clear hM0
           have hcx49 := cmU hx50
           refine hcallC_give hcx49 (clQA he4) (clQA he4) ?_
           refine spQA he4 ?_
           have hq51 := value_fact hx50 (isB_sl (isB_sl hp2))
           replace hq51 := nzQ hq51
           have hF := (And.intro h1 (And.intro he4 (And.intro h31 (And.intro h33 (And.intro h35 (And.intro h37 (And.intro h40 (And.intro h42 (And.intro h44 h47)))))))))
           exact auQ
          ·rw [if_neg (ne_true h47)] at hM
           refine spQA (And.intro he4 h47) ?_
           have nh47 := nzQ h47
           try have hr52 := mpQ nh47
           exact cut_intro _ sbQ sbQ (hcut5 _ ⟨(), rfl, ⟨omQ, omQ, omQ, omQ⟩, hM⟩)
        ·rw [if_pos h42] at hM
         refine spQA (And.intro he4 h42) ?_
         have nh42 := nzQ h42
         try have hr53 := mpQ nh42
         subst hM
         exact retC_view (lfQA (And.intro he4 (And.intro h1 (And.intro h31 (And.intro h33 (And.intro h35 (And.intro h37 (And.intro h40 h42))))))))
       ·rw [if_neg (ne_true h40)] at hM
        refine spQA (And.intro he4 h40) ?_
        have nh40 := nzQ h40
        try have hr54 := mpQ nh40
        refine condC_intro (fun h55 => ?_) (fun h55 => ?_)
        ·rw [if_pos h55] at hM
         refine spQA (And.intro he4 h55) ?_
         have nh55 := nzQ h55
         try have hr56 := mpQ nh55
         subst hM
         exact retC_view (lfQA (And.intro he4 (And.intro h1 (And.intro h31 (And.intro h33 (And.intro h35 (And.intro h37 (And.intro h40 h55))))))))
        ·rw [if_neg (ne_true h55)] at hM
         refine spQA (And.intro he4 h55) ?_
         have nh55 := nzQ h55
         try have hr57 := mpQ nh55
         refine condC_intro (fun h58 => ?_) (fun h58 => ?_)
         ·rw [if_pos h58] at hM
          refine spQA (And.intro he4 h58) ?_
          have nh58 := nzQ h58
          try have hr59 := mpQ nh58
          refine ct_draw 119 9 [57, 58, 59, 60, 61, 62, 63, 64] [] ([[], [], [1], [1, 2], [1, 2, 3], [0, 1, 2, 3, 4], [], [6], [0, 1, 2, 3, 4, 5]] ++ [List.range 9, List.range 10]) [(8, 0)] (by kernel_rfl) (by exact alQ) ?_
          refine spQA he4 ?_
          refine hbindC_intro omQ ?_
          refine spQA he4 ?_
          have hM0 := hM; clear hM; obtain ⟨x60, hx61, hM⟩ := letk_opn hM0; clear hM0
          have hcx60 := cmU hx61
          refine hcallC_give hcx60 (clQA he4) (clQA he4) ?_
          refine spQA he4 ?_
          have hq62 := value_fact hx61 (isB_sl (isB_sl hp2))
          replace hq62 := nzQ hq62
          have hF := (And.intro h1 (And.intro he4 (And.intro h31 (And.intro h33 (And.intro h35 (And.intro h37 (And.intro h40 (And.intro h55 h58))))))))
          exact auQ
         ·rw [if_neg (ne_true h58)] at hM
          refine spQA (And.intro he4 h58) ?_
          have nh58 := nzQ h58
          try have hr63 := mpQ nh58
          exact cut_intro _ sbQ sbQ (hcut5 _ ⟨(), rfl, ⟨omQ, omQ, omQ, omQ⟩, hM⟩)
     ·rw [if_neg (ne_true h35)] at hM
      refine spQA (And.intro he4 h35) ?_
      have nh35 := nzQ h35
      try have hr64 := mpQ nh35
      refine guardC_t (fun h65 => ?_) (fun h65 => ?_)
      ·rw [if_pos h65] at hM
       refine spQA (And.intro he4 h65) ?_
       have nh65 := nzQ h65
       try have hr66 := mpQ nh65
       refine guardC_f (fun h67 => ?_) (fun h67 => ?_)
       ·rw [if_neg (ne_true h67)] at hM
        refine spQA (And.intro he4 h67) ?_
        have nh67 := nzQ h67
        try have hr68 := mpQ nh67
        refine condC_intro (fun h69 => ?_) (fun h69 => ?_)
        ·rw [if_pos h69] at hM
         refine spQA (And.intro he4 h69) ?_
         have nh69 := nzQ h69
         try have hr70 := mpQ nh69
         subst hM
         exact retC_view (lfQA (And.intro he4 (And.intro h1 (And.intro h31 (And.intro h33 (And.intro h35 (And.intro h65 (And.intro h67 h69))))))))
        ·rw [if_neg (ne_true h69)] at hM
         refine spQA (And.intro he4 h69) ?_
         have nh69 := nzQ h69
         try have hr71 := mpQ nh69
         refine condC_intro (fun h72 => ?_) (fun h72 => ?_)
         ·rw [if_pos h72] at hM
          refine spQA (And.intro he4 h72) ?_
          have nh72 := nzQ h72
          try have hr73 := mpQ nh72
          refine ct_draw 119 9 [57, 58, 59, 60, 61, 62, 63, 64] [] ([[], [], [1], [1, 2], [1, 2, 3], [0, 1, 2, 3, 4], [], [6], [0, 1, 2, 3, 4, 5]] ++ [List.range 9, List.range 10]) [(8, 0)] (by kernel_rfl) (by exact alQ) ?_
          refine spQA he4 ?_
          refine hbindC_intro omQ ?_
          refine spQA he4 ?_
          have hM0 := hM; clear hM; obtain ⟨x74, hx75, hM⟩ := letk_opn hM0; clear hM0
          have hcx74 := cmU hx75
          refine hcallC_give hcx74 (clQA he4) (clQA he4) ?_
          refine spQA he4 ?_
          have hq76 := value_fact hx75 (isB_sl (isB_sl hp2))
          replace hq76 := nzQ hq76
          have hF := (And.intro h1 (And.intro he4 (And.intro h31 (And.intro h33 (And.intro h35 (And.intro h65 (And.intro h67 (And.intro h69 h72))))))))
          exact auQ
         ·rw [if_neg (ne_true h72)] at hM
          refine spQA (And.intro he4 h72) ?_
          have nh72 := nzQ h72
          try have hr77 := mpQ nh72
          exact cut_intro _ sbQ sbQ (hcut5 _ ⟨(), rfl, ⟨omQ, omQ, omQ, omQ⟩, hM⟩)
       ·rw [if_pos h67] at hM
        refine spQA (And.intro he4 h67) ?_
        have nh67 := nzQ h67
        try have hr78 := mpQ nh67
        subst hM
        exact retC_view (lfQA (And.intro he4 (And.intro h1 (And.intro h31 (And.intro h33 (And.intro h35 (And.intro h65 h67)))))))
      ·rw [if_neg (ne_true h65)] at hM
       refine spQA (And.intro he4 h65) ?_
       have nh65 := nzQ h65
       try have hr79 := mpQ nh65
       refine condC_intro (fun h80 => ?_) (fun h80 => ?_)
       ·rw [if_pos h80] at hM
        refine spQA (And.intro he4 h80) ?_
        have nh80 := nzQ h80
        try have hr81 := mpQ nh80
        subst hM
        exact retC_view (lfQA (And.intro he4 (And.intro h1 (And.intro h31 (And.intro h33 (And.intro h35 (And.intro h65 h80)))))))
       ·rw [if_neg (ne_true h80)] at hM
        refine spQA (And.intro he4 h80) ?_
        have nh80 := nzQ h80
        try have hr82 := mpQ nh80
        refine condC_intro (fun h83 => ?_) (fun h83 => ?_)
        ·rw [if_pos h83] at hM
         refine spQA (And.intro he4 h83) ?_
         have nh83 := nzQ h83
         try have hr84 := mpQ nh83
         refine ct_draw 119 9 [57, 58, 59, 60, 61, 62, 63, 64] [] ([[], [], [1], [1, 2], [1, 2, 3], [0, 1, 2, 3, 4], [], [6], [0, 1, 2, 3, 4, 5]] ++ [List.range 9, List.range 10]) [(8, 0)] (by kernel_rfl) (by exact alQ) ?_
         refine spQA he4 ?_
         refine hbindC_intro omQ ?_
         refine spQA he4 ?_
         have hM0 := hM; clear hM; obtain ⟨x85, hx86, hM⟩ := letk_opn hM0; clear hM0
         have hcx85 := cmU hx86
         refine hcallC_give hcx85 (clQA he4) (clQA he4) ?_
         refine spQA he4 ?_
         have hq87 := value_fact hx86 (isB_sl (isB_sl hp2))
         replace hq87 := nzQ hq87
         have hF := (And.intro h1 (And.intro he4 (And.intro h31 (And.intro h33 (And.intro h35 (And.intro h65 (And.intro h80 h83)))))))
         exact auQ
        ·rw [if_neg (ne_true h83)] at hM
         refine spQA (And.intro he4 h83) ?_
         have nh83 := nzQ h83
         try have hr88 := mpQ nh83
         exact cut_intro _ sbQ sbQ (hcut5 _ ⟨(), rfl, ⟨omQ, omQ, omQ, omQ⟩, hM⟩)
    ·rw [if_pos h33] at hM
     refine spQA (And.intro he4 h33) ?_
     have nh33 := nzQ h33
     try have hr89 := mpQ nh33
     subst hM
     exact retC_view (lfQA (And.intro he4 (And.intro h1 (And.intro h31 h33))))
   ·rw [if_pos h31] at hM
    refine spQA (And.intro he4 h31) ?_
    have nh31 := nzQ h31
    try have hr90 := mpQ nh31
    subst hM
    exact retC_view (lfQA (And.intro he4 (And.intro h1 h31)))
theorem rreadM_okN : ∀ (N : Nat) (z0 : Option Bool) (b : (List Int)) (within : Int), (0 ≤ within) → (within ≤ 8) → (isB b) → (8 - within).toNat < N → CallOk En 60 [.sl z0 1 false (b.map (V.int .u8)), .int .i64 within] (.tup [.agg [.int .i64 (rreadM b within).1.Kind, .int .i64 (rreadM b within).1.N, .sl none 1 false ((rreadM b within).1.B.map (V.int .u8)), .sl none 4 true ((rreadM b within).1.L.map e_api_Item)], .sl none 1 false ((rreadM b within).2.1.map (V.int .u8)), .int .i64 (rreadM b within).2.2]) [] := by
 intro N
 induction N with
 | zero => intro z0 b within h0 h1 h2 h; exact absurd h (Nat.not_lt_zero _)
 | succ N ih =>
  intro z0 b within h0 h1 h2 h
  have h9 := specieref07_read_ok N ih z0 b within h0 h1 h2 h
  rw [specieref07_read_eqM h0 h1 h2] at h9
  exact h9
theorem rreadM_ok (z0 : Option Bool) (b : (List Int)) (within : Int) (hp0 : 0 ≤ within) (hp1 : within ≤ 8) (hp2 : isB b) : CallOk En 60 [.sl z0 1 false (b.map (V.int .u8)), .int .i64 within] (.tup [.agg [.int .i64 (rreadM b within).1.Kind, .int .i64 (rreadM b within).1.N, .sl none 1 false ((rreadM b within).1.B.map (V.int .u8)), .sl none 4 true ((rreadM b within).1.L.map e_api_Item)], .sl none 1 false ((rreadM b within).2.1.map (V.int .u8)), .int .i64 (rreadM b within).2.2]) [] :=
 rreadM_okN ((8 - within).toNat + 1) z0 b within hp0 hp1 hp2 (Nat.lt_succ_self _)
set_option maxHeartbeats 2000000 in
set_option maxRecDepth 100000 in
instance specieref07_Decode_ok   (b : (List Int))  : CM En (specieref07_Decode b) 34 [.sl none 1 false (b.map (V.int .u8))] (fun y => .tup [.agg [.int .i64 y.1.Kind, .int .i64 y.1.N, .sl none 1 false (y.1.B.map (V.int .u8)), .sl none 4 true (y.1.L.map e_api_Item)], .int .i64 y.2]) (fun _ => []) := by
 refine cmQ fun r hM => ?_
 rw [specieref07_Decode.eq_1] at hM
 refine enterV En_ok En_mo noJ Tryd.func34 rfl Tryd.ntmps34 (by kernel_rfl) fun hw => ct_start ?_
 refine spQ ?_
 replace hw := nzQ hw
 refine condC_intro (fun h1 => ?_) (fun h1 => ?_)
 ·rw [if_pos h1] at hM
  refine spQA h1 ?_
  have nh1 := nzQ h1
  try have hr2 := mpQ nh1
  subst hM
  exact retC_view (lfQA h1)
 ·rw [if_neg (ne_true h1)] at hM
  refine spQA h1 ?_
  have nh1 := nzQ h1
  try have hr3 := mpQ nh1
  have hM0 := hM; clear hM; obtain ⟨x4, hx5, hM⟩ := letk_opn hM0; clear hM0
  have hcx4 := rreadM_ok none b 0 (by (first | decide | omega | exact isB_wf hw.2)) (by (first | decide | omega | exact isB_wf hw.2)) (by (first | decide | omega | exact isB_wf hw.2))
  rw [← hx5] at hcx4
  refine callC_give hcx4 clQ clQ (fun hw6 => ?_)
  replace hw6 := nzQ hw6
  refine spQ ?_
  have hF := h1
  exact auQ
set_option maxHeartbeats 2000000 in
set_option maxRecDepth 100000 in
instance specieref31_Hash_ok   (i_ : S_api_Item)  : CM En (specieref31_Hash i_) 35 [.agg [.int .i64 i_.Kind, .int .i64 i_.N, .sl none 1 false (i_.B.map (V.int .u8)), .sl none 4 true (i_.L.map e_api_Item)]] (fun y => .tup [(e_arr23 y.1), .bool y.2]) (fun _ => []) := by
 refine cmQ fun r hM => ?_
 rw [specieref31_Hash.eq_1] at hM
 refine enterV En_ok En_mo noJ Tryd.func35 rfl Tryd.ntmps35 (by kernel_rfl) fun hw => ct_start ?_
 refine spQ ?_
 replace hw := nzQ hw
 refine guardC_f (fun h1 => ?_) (fun h1 => ?_)
 ·rw [if_neg (ne_true h1)] at hM
  refine spQA h1 ?_
  have nh1 := nzQ h1
  try have hr2 := mpQ nh1
  refine condC_intro (fun h3 => ?_) (fun h3 => ?_)
  ·rw [if_pos h3] at hM
   refine spQA h3 ?_
   have nh3 := nzQ h3
   try have hr4 := mpQ nh3
   subst hM
   exact retC_view (lfQA (And.intro h1 h3))
  ·rw [if_neg (ne_true h3)] at hM
   refine spQA h3 ?_
   have nh3 := nzQ h3
   try have hr5 := mpQ nh3
   have hM0 := hM; clear hM; obtain ⟨f6, d6, hf6, hd6, hM⟩ := iter_opn hM0; clear hM0
   refine ct_loop (fun n S => ∃ p : Int × (List Int), S = (⟨[(1, .ptr 0 0), (2, .ptr 1 0), (4, .ptr 2 0), (5, .int .i64 p.1)], [(0, .var 4 true (.agg [.int .i64 i_.Kind, .int .i64 i_.N, .sl none 1 false (i_.B.map (V.int .u8)), .sl none 4 true (i_.L.map e_api_Item)])), (1, .var 32 true (zv_23)), (2, .var 32 true ((e_arr23 p.2)))], 3⟩ : St) ∧ ((0 ≤ p.1) ∧ (p.1 ≤ 32)) ∧ ((32 : Int) - p.1).toNat < n ∧ iter n f6 d6 p = r) (((32 : Int) - 0).toNat + 1) _ sbQ (by simp only [go_sem, rowV_eq, rowV_eq0, List.length_replicate, rep_len, Int.toNat_natCast, ↓reduceIte, Nat.reduceEqDiff, Nat.reduceAdd, Int.reduceAdd, Nat.reduceMul, Nat.reduceLeDiff, Nat.reduceLT, Int.reduceLE, Int.reduceLT, Int.reduceNeg, Int.reduceToNat, map_st, mtL_repE, mtL_repM, subF, subH, mtO, mtB, mt, mtL, mtL_self, mt_self, ltV, ltL, ltB, eq_self, or_true, true_or, or_self, and_self, gt_cons0, gt_conss, Int.reduceSub]) ⟨(0, [0, 0, 0, 0, 0, 0, 0, 0, 0, 0, 0, 0, 0, 0, 0, 0, 0, 0, 0, 0, 0, 0, 0, 0, 0, 0, 0, 0, 0, 0, 0, 0]), rfl, ⟨omQ, omQ⟩, (Nat.lt_succ_self _), hM⟩ ?_
   clear hM
   rintro n6 S ⟨p6, rfl, hfa6, hm6, hM⟩
   have hM0 := hM; clear hM; obtain ⟨ag6, hag6, hM⟩ := iter_step hM0 (by omega) hf6; clear hM0
   replace hfa6 := nzQ hfa6
   replace hm6 := nzQ hm6
   have ha6 : addI .i64 p6.1 1 = p6.1 + 1 := add_one omQ omQ
   refine spQA ha6 ?_
   refine condC_intro (fun h7 => ?_) (fun h7 => ?_)
   ·rw [if_pos h7] at hM
    refine spQA (And.intro ha6 h7) ?_
    have nh7 := nzQ h7
    try have hr8 := mpQ nh7
    refine bindC_intro omQ ?_
    have he9 := fun d => elt_mp (l := i_.B) (f := (V.int .u8)) (i := p6.1) omQ d
    refine spQA (And.intro ha6 he9) ?_
    refine bindC_intro omQ ?_
    have he10 : ((p6.1).toNat * 1 + 1 ≤ 32) = True := eq_true omQ
    refine spQA (And.intro ha6 (And.intro he9 he10)) ?_
    have he11 := arr_put (f := (V.int .u8)) (l := (arrN 32 p6.2)) (n := 32) (i := p6.1) (v := (gt i_.B p6.1)) arrN_len omQ
    replace he11 := spR he11
    refine spQA (And.intro ha6 (And.intro he9 (And.intro he10 he11))) ?_
    refine lp_intro (n6 - 1) _ (by omega) sbQ (by simp only [go_sem, rowV_eq, rowV_eq0, List.length_replicate, rep_len, Int.toNat_natCast, ↓reduceIte, Nat.reduceEqDiff, Nat.reduceAdd, Int.reduceAdd, Nat.reduceMul, Nat.reduceLeDiff, Nat.reduceLT, Int.reduceLE, Int.reduceLT, Int.reduceNeg, Int.reduceToNat, map_st, mtL_repE, mtL_repM, subF, subH, mtO, mtB, mt, mtL, mtL_self, mt_self, ltV, ltL, ltB, eq_self, or_true, true_or, or_self, and_self, gt_cons0, gt_conss, Int.reduceSub]) ⟨((p6.1 + 1), (arrN 32 (st (arrN 32 p6.2) p6.1 (gt i_.B p6.1)))), rfl, ⟨omQ, omQ⟩, omQ, iter_again hM hag6⟩
   ·rw [if_neg (ne_true h7)] at hM
    refine spQA (And.intro ha6 h7) ?_
    have nh7 := nzQ h7
    try have hr12 := mpQ nh7
    subst hM
    exact retC_view (lfQA (And.intro ha6 (And.intro h1 (And.intro h3 h7))))
 ·rw [if_pos h1] at hM
  refine spQA h1 ?_
  have nh1 := nzQ h1
  try have hr13 := mpQ nh1
  subst hM
  exact retC_view (lfQA h1)
set_option maxHeartbeats 2000000 in
set_option maxRecDepth 100000 in
instance specieref38_list_ok   (l : (List S_api_Item))  : CM En (specieref38_list l) 37 [.sl none 4 true (l.map e_api_Item)] (fun y => .agg [.int .i64 y.Kind, .int .i64 y.N, .sl none 1 false (y.B.map (V.int .u8)), .sl none 4 true (y.L.map e_api_Item)]) (fun _ => []) := by
 refine cmQ fun r hM => ?_
 rw [specieref38_list.eq_1] at hM
 refine enterV En_ok En_mo noJ Tryd.func37 rfl Tryd.ntmps37 (by kernel_rfl) fun hw => ct_start ?_
 refine spQ ?_
 replace hw := nzQ hw
 subst hM
 exact retC_view lfQ
set_option maxHeartbeats 2000000 in
set_option maxRecDepth 100000 in
instance specieref31_Numbers_ok   (i_ : S_api_Item) (n_ : Int)  : CM En (specieref31_Numbers i_ n_) 36 [.agg [.int .i64 i_.Kind, .int .i64 i_.N, .sl none 1 false (i_.B.map (V.int .u8)), .sl none 4 true (i_.L.map e_api_Item)], .int .i64 n_] (fun y => .tup [.sl none 1 false (y.1.map (V.int .i64)), .bool y.2]) (fun _ => []) := by
 refine cmQ fun r hM => ?_
 rw [specieref31_Numbers.eq_1] at hM
 refine enterV En_ok En_mo noJ Tryd.func36 rfl Tryd.ntmps36 (by kernel_rfl) fun hw => ct_start ?_
 refine spQ ?_
 replace hw := nzQ hw
 refine guardC_f (fun h1 => ?_) (fun h1 => ?_)
 ·rw [if_neg (ne_true h1)] at hM
  refine spQA h1 ?_
  have nh1 := nzQ h1
  try have hr2 := mpQ nh1
  refine condC_intro (fun h3 => ?_) (fun h3 => ?_)
  ·rw [if_pos h3] at hM
   refine spQA h3 ?_
   have nh3 := nzQ h3
   try have hr4 := mpQ nh3
   subst hM
   exact retC_view (lfQA (And.intro h1 h3))
  ·rw [if_neg (ne_true h3)] at hM
   refine spQA h3 ?_
   have nh3 := nzQ h3
   try have hr5 := mpQ nh3
   have hM0 := hM; clear hM; obtain ⟨f6, d6, hf6, hd6, hM⟩ := iter_opn hM0; clear hM0
   refine ct_loopW (fun n S => ∃ p : Int × List Int, S = (⟨[(1, .int .i64 n_), (2, .ptr 0 0), (6, .own 1), (7, .int .i64 p.1)], [(0, .var 4 true (.agg [.int .i64 i_.Kind, .int .i64 i_.N, .sl none 1 false (i_.B.map (V.int .u8)), .sl none 4 true (i_.L.map e_api_Item)])), (1, .own 3 1 false none (p.2.map (V.int .i64)))], 2⟩ : St) ∧ ((0 ≤ p.1) ∧ (p.1 ≤ n_) ∧ (((p.2).length : Int) ≤ p.1)) ∧ (n_ - p.1).toNat < n ∧ iter n f6 d6 p = r) ((n_ - 0).toNat + 1) _ _ (weak_nil 6 3 rfl (by decide)) sbQ sbQ ⟨(0, ([] : List Int)), rfl, ⟨omQ, omQ, omQ⟩, (Nat.lt_succ_self _), hM⟩ ?_
   clear hM
   rintro n6 S ⟨p6, rfl, hfa6, hm6, hM⟩
   have hM0 := hM; clear hM; obtain ⟨ag6, hag6, hM⟩ := iter_step hM0 (by omega) hf6; clear hM0
   replace hfa6 := nzQ hfa6
   replace hm6 := nzQ hm6
   have ha6 : addI .i64 p6.1 1 = p6.1 + 1 := add_one omQ omQ
   refine spQA ha6 ?_
   have hF := (And.intro h1 (And.intro h3 ha6))
   exact auQ
 ·rw [if_pos h1] at hM
  refine spQA h1 ?_
  have nh1 := nzQ h1
  try have hr14 := mpQ nh1
  subst hM
  exact retC_view (lfQA h1)
set_option maxHeartbeats 2000000 in
set_option maxRecDepth 100000 in
instance specieref38_in_ok   (x_ : Int) (low : Int) (high : Int)  : CM En (specieref38_in x_ low high) 38 [.int .i64 x_, .int .i64 low, .int .i64 high] (fun y => .bool y) (fun _ => []) := by
 refine cmQ fun r hM => ?_
 rw [specieref38_in.eq_1] at hM
 refine enterV En_ok En_mo noJ Tryd.func38 rfl Tryd.ntmps38 (by kernel_rfl) fun hw => ct_start ?_
 refine spQ ?_
 replace hw := nzQ hw
 have hF := trueQ
 exact auQ
set_option maxHeartbeats 2000000 in
set_option maxRecDepth 100000 in
instance specieref38_Valid_ok   (v : S_api_Invoice)  : CM En (specieref38_Valid v) 12 [(e_api_Invoice v)] (fun y => .bool y) (fun _ => []) := by
 refine cmQ fun r hM => ?_
 rw [specieref38_Valid.eq_1] at hM
 refine enterV En_ok En_mo noJ Tryd.func12 rfl Tryd.ntmps12 (by kernel_rfl) fun hw => ct_start ?_
 refine spQ ?_
 replace hw := nzQ hw
 have hF := trueQ
 exact auQ
instance (priority := 1003) : DRD 8 69 12 [10, 53, 54, 55, 56, 57, 58, 59, 60, 61, 62, 63] [] ([[], [], [1], [1, 2], [], [4], [4, 5], [], [7], [7, 8], [0, 1, 2, 3, 4, 5, 6, 7, 8, 9], []] ++ [List.range 12]) [] := ⟨trivial⟩
set_option maxHeartbeats 2000000 in
set_option maxRecDepth 100000 in
instance specieref38_FromInvoice_ok   (b : (List Int))  : CM En (specieref38_FromInvoice b) 11 [.sl none 1 false (b.map (V.int .u8))] (fun y => .tup [(e_api_Invoice y.1), .bool y.2]) (fun _ => []) := by
 refine cmQ fun r hM => ?_
 rw [specieref38_FromInvoice.eq_1] at hM
 refine enterV En_ok En_mo noJ Tryd.func11 rfl Tryd.ntmps11 (by kernel_rfl) fun hw => ct_start ?_
 refine spQ ?_
 replace hw := nzQ hw
 have hF := trueQ
 exact auQ
set_option maxHeartbeats 2000000 in
set_option maxRecDepth 100000 in
instance specieref38_Context_ok   (v : S_api_Invoice)  : CM En (specieref38_Context v) 13 [(e_api_Invoice v)] (fun y => (e_api_Context y)) (fun _ => []) := by
 refine cmQ fun r hM => ?_
 rw [specieref38_Context.eq_1] at hM
 refine enterV En_ok En_mo noJ Tryd.func13 rfl Tryd.ntmps13 (by kernel_rfl) fun hw => ct_start ?_
 refine spQ ?_
 replace hw := nzQ hw
 subst hM
 exact retC_view lfQ
set_option maxHeartbeats 2000000 in
set_option maxRecDepth 100000 in
instance specieref31_Bytes_ok   (h_ : (List Int))  : CM En (specieref31_Bytes h_) 42 [(e_arr23 h_)] (fun y => .agg [.int .i64 y.Kind, .int .i64 y.N, .sl none 1 false (y.B.map (V.int .u8)), .sl none 4 true (y.L.map e_api_Item)]) (fun _ => []) := by
 refine cmQ fun r hM => ?_
 rw [specieref31_Bytes.eq_1] at hM
 refine enterV En_ok En_mo noJ Tryd.func42 rfl Tryd.ntmps42 (by kernel_rfl) fun hw => ct_start ?_
 refine spQ ?_
 replace hw := nzQ hw
 have hM0 := hM; clear hM; obtain ⟨f1, d1, hf1, hd1, hM⟩ := iter_opn hM0; clear hM0
 refine ct_loopW (fun n S => ∃ p : Int × List Int, S = (⟨[(1, .ptr 0 0), (2, .ptr 1 0), (3, .ptr 2 0), (4, .int .i64 p.1)], [(0, .var 32 true ((e_arr23 h_))), (1, .var 4 true (.agg [.int .i64 0, .int .i64 0, .sl (some true) 1 false [], .sl (some true) 4 true []])), (2, .var 4 true (.agg [.int .i64 2, .int .i64 0, .own 3, .sl (some true) 4 true []])), (3, .own 5 1 false none (p.2.map (V.int .u8)))], 4⟩ : St) ∧ ((0 ≤ p.1) ∧ (p.1 ≤ 32) ∧ (((p.2).length : Int) ≤ p.1)) ∧ ((32 : Int) - p.1).toNat < n ∧ iter n f1 d1 p = r) (((32 : Int) - 0).toNat + 1) _ _ (weak_nilV 2 2 5 rfl rfl (by decide)) sbQ sbQ ⟨(0, ([] : List Int)), rfl, ⟨omQ, omQ, omQ⟩, (Nat.lt_succ_self _), hM⟩ ?_
 clear hM
 rintro n1 S ⟨p1, rfl, hfa1, hm1, hM⟩
 have hM0 := hM; clear hM; obtain ⟨ag1, hag1, hM⟩ := iter_step hM0 (by omega) hf1; clear hM0
 replace hfa1 := nzQ hfa1
 replace hm1 := nzQ hm1
 have ha1 : addI .i64 p1.1 1 = p1.1 + 1 := add_one omQ omQ
 refine spQA ha1 ?_
 refine condC_intro (fun h2 => ?_) (fun h2 => ?_)
 ·rw [if_pos h2] at hM
  refine spQA (And.intro ha1 h2) ?_
  have nh2 := nzQ h2
  try have hr3 := mpQ nh2
  refine ct_draw 19 6 [10, 11, 12, 13, 14, 15] [] ([[], [0], [], [2], [2, 3], [2, 3, 4]] ++ [List.range 6, List.range 7, List.range 8]) [] (by kernel_rfl) (by exact alQ) ?_
  refine spQA ha1 ?_
  refine hbindC_intro omQ ?_
  have he4 : ((p1.1).toNat * 1 + 1 ≤ 32) = True := eq_true omQ
  refine spQA (And.intro ha1 he4) ?_
  have he5 := arr_get (f := (V.int .u8)) (l := h_) (n := 32) (i := p1.1) omQ
  replace he5 := spR he5
  try refine spQA (And.intro ha1 (And.intro he4 he5)) ?_
  have hF := (And.intro ha1 (And.intro h2 (And.intro he4 he5)))
  exact auQ
 ·rw [if_neg (ne_true h2)] at hM
  refine spQA (And.intro ha1 h2) ?_
  have nh2 := nzQ h2
  try have hr6 := mpQ nh2
  subst hM
  exact retC_view (lfQA (And.intro ha1 h2))
set_option maxHeartbeats 2000000 in
set_option maxRecDepth 100000 in
instance specieref38_integer_ok   (n_ : Int)  : CM En (specieref38_integer n_) 43 [.int .i64 n_] (fun y => .agg [.int .i64 y.Kind, .int .i64 y.N, .sl none 1 false (y.B.map (V.int .u8)), .sl none 4 true (y.L.map e_api_Item)]) (fun _ => []) := by
 refine cmQ fun r hM => ?_
 rw [specieref38_integer.eq_1] at hM
 refine enterV En_ok En_mo noJ Tryd.func43 rfl Tryd.ntmps43 (by kernel_rfl) fun hw => ct_start ?_
 refine spQ ?_
 replace hw := nzQ hw
 subst hM
 exact retC_view lfQ
set_option maxHeartbeats 2000000 in
set_option maxRecDepth 100000 in
theorem specieref07_number_ok   (n_ : Int) (size : Int) (hp0 : 0 ≤ size) (hp1 : size ≤ 8) : CM En (specieref07_number n_ size) 63 [.int .u64 n_, .int .i64 size] (fun y => .sl none 1 false (y.map (V.int .u8))) (fun _ => []) := by
 refine cmQ fun r hM => ?_
 rw [specieref07_number.eq_1] at hM
 refine enterV En_ok En_mo noJ Tryd.func63 rfl Tryd.ntmps63 (by kernel_rfl) fun hw => ct_start ?_
 refine spQ ?_
 replace hw := nzQ hw
 refine bindC_intro omQ ?_
 refine spQ ?_
 have ha1 : subI .i64 size 1 = (size - 1) := sub_ok omQ omQ
 try simp only [ha1]
 have hM0 := hM; clear hM; obtain ⟨f2, d2, hf2, hd2, hM⟩ := iter_opn hM0; clear hM0
 refine ct_loop (fun n S => ∃ p : Int × Int × List Int, S = (⟨[(0, .int .u64 p.1), (5, .own 0), (6, .int .i64 p.2.1)], [(0, .own 5 1 false none (p.2.2.map (V.int .u8)))], 1⟩ : St) ∧ ((-1 ≤ p.2.1) ∧ (p.2.1 < size) ∧ (((p.2.2).length : Int) = size)) ∧ (p.2.1 + 1).toNat < n ∧ iter n f2 d2 p = r) (((size - 1) + 1).toNat + 1) _ sbQ sbQ ⟨(n_, (size - 1), (rep size.toNat (0 : Int))), rfl, ⟨omQ, omQ, omQ⟩, (Nat.lt_succ_self _), hM⟩ ?_
 clear hM
 rintro n2 S ⟨p2, rfl, hfa2, hm2, hM⟩
 have hM0 := hM; clear hM; obtain ⟨ag2, hag2, hM⟩ := iter_step hM0 (by omega) hf2; clear hM0
 replace hfa2 := nzQ hfa2
 replace hm2 := nzQ hm2
 refine spQA ha1 ?_
 refine condC_intro (fun h3 => ?_) (fun h3 => ?_)
 ·rw [if_pos h3] at hM
  refine spQA (And.intro ha1 h3) ?_
  have nh3 := nzQ h3
  try have hr4 := mpQ nh3
  refine bindC_intro omQ ?_
  refine spQA ha1 ?_
  refine bindC_intro omQ ?_
  have he5 := fun d => elt_mp (l := p2.2.2) (f := (V.int .u8)) (i := p2.2.1) omQ d
  refine spQA (And.intro ha1 he5) ?_
  refine bindC_intro omQ ?_
  refine spQA (And.intro ha1 he5) ?_
  refine bindC_intro omQ ?_
  refine spQA (And.intro ha1 he5) ?_
  have ha6 : subI .i64 p2.2.1 1 = (p2.2.1 - 1) := sub_ok omQ omQ
  try simp only [ha6]
  refine lp_intro (n2 - 1) _ (by omega) sbQ sbQ ⟨((quoI .u64 p2.1 256), (p2.2.1 - 1), (st p2.2.2 p2.2.1 (convI .u8 (remI .u64 p2.1 256)))), rfl, ⟨omQ, omQ, omQ⟩, omQ, iter_again hM hag2⟩
 ·rw [if_neg (ne_true h3)] at hM
  refine spQA (And.intro ha1 h3) ?_
  have nh3 := nzQ h3
  try have hr7 := mpQ nh3
  subst hM
  exact retC_view (lfQA (And.intro ha1 h3))
set_option maxHeartbeats 2000000 in
set_option maxRecDepth 100000 in
theorem specieref07_Encode_ok (N : Nat) (ih : ∀  (i_ : S_api_Item), (hgt i_ ≤ 50000000) → hgt i_ < N → CallOk En 41 [.agg [.int .i64 i_.Kind, .int .i64 i_.N, .sl none 1 false (i_.B.map (V.int .u8)), .sl none 4 true (i_.L.map e_api_Item)]] (.sl none 1 false ((encI i_).map (V.int .u8))) [])  (i_ : S_api_Item) (hp0 : hgt i_ ≤ 50000000) (hp_ : hgt i_ < N + 1) : CallOk En 41 [.agg [.int .i64 i_.Kind, .int .i64 i_.N, .sl none 1 false (i_.B.map (V.int .u8)), .sl none 4 true (i_.L.map e_api_Item)]] (.sl none 1 false ((specieref07_Encode i_).map (V.int .u8))) [] := by
 generalize hM : specieref07_Encode i_ = r
 rw [specieref07_Encode.eq_1] at hM
 refine enterV En_ok En_mo noJ Tryd.func41 rfl Tryd.ntmps41 (by kernel_rfl) fun hw => ct_start ?_
 refine spQ ?_
 replace hw := nzQ hw
 refine condC_intro (fun h1 => ?_) (fun h1 => ?_)
 ·rw [if_pos h1] at hM
  refine spQA h1 ?_
  have nh1 := nzQ h1
  try have hr2 := mpQ nh1
  have hM0 := hM; clear hM; obtain ⟨x3, hx4, hM⟩ := letk_opn hM0; clear hM0
  have hcx3 := cmH hx4 (specieref07_number_ok  (convI .u64 i_.N) 8 (by (exact pfQ)) (by (exact pfQ)))
  refine callC_give hcx3 clQ clQ (fun hw5 => ?_)
  replace hw5 := nzQ hw5
  refine spQ ?_
  have hq6 := rnl hx4 (by decide)
  replace hq6 := nzQ hq6
  refine bindC_intro (by (first | exact omQ | (clear hM; first | (have h9 := hgt_eq i_; exact omQ')))) ?_
  refine spQ ?_
  subst hM
  exact retC_view (lfQA h1)
 ·rw [if_neg (ne_true h1)] at hM
  refine spQA h1 ?_
  have nh1 := nzQ h1
  try have hr7 := mpQ nh1
  refine condC_intro (fun h8 => ?_) (fun h8 => ?_)
  ·rw [if_pos h8] at hM
   refine spQA h8 ?_
   have nh8 := nzQ h8
   try have hr9 := mpQ nh8
   refine ct_draw 50 9 [17, 18, 19, 20, 21, 22, 23, 24, 25] [] ([[], [], [1], [1, 2], [1, 2, 3], [1, 2, 3, 4], [0, 1, 2, 3, 4, 5], [], [7]] ++ [List.range 9, List.range 10]) [(6, 1)] (by kernel_rfl) (by exact alQ) ?_
   refine spQ ?_
   have hM0 := hM; clear hM; obtain ⟨x10, hx11, hM⟩ := letk_opn hM0; clear hM0
   have hcx10 := cmH hx11 (specieref07_number_ok  (convI .u64 (i_.B.length : Int)) 4 (by (exact pfQ)) (by (exact pfQ)))
   refine hcallC_give hcx10 clQ clQ ?_
   refine spQ ?_
   have hq12 := rnl hx11 (by decide)
   replace hq12 := nzQ hq12
   refine hbindC_introA (by (first | exact omQ | (clear hM; first | (have h9 := hgt_eq i_; exact omQ')))) clQ ?_
   refine spQ ?_
   refine bindC_intro (by (first | exact omQ | (clear hM; first | (have h9 := hgt_eq i_; exact omQ')))) ?_
   refine spQ ?_
   subst hM
   exact retC_view (lfQA (And.intro h1 h8))
  ·rw [if_neg (ne_true h8)] at hM
   refine spQA h8 ?_
   have nh8 := nzQ h8
   try have hr13 := mpQ nh8
   have hM0 := hM; clear hM; obtain ⟨x14, hx15, hM⟩ := letk_opn hM0; clear hM0
   have hcx14 := cmH hx15 (specieref07_number_ok  (convI .u64 (i_.L.length : Int)) 4 (by (exact pfQ)) (by (exact pfQ)))
   refine callC_give hcx14 clQ clQ (fun hw16 => ?_)
   replace hw16 := nzQ hw16
   refine spQ ?_
   have hq17 := rnl hx15 (by decide)
   replace hq17 := nzQ hq17
   refine bindC_intro (by (first | exact omQ | (clear hM; first | (have h9 := hgt_eq i_; exact omQ')))) ?_
   refine spQ ?_
   have hM0 := hM; clear hM; obtain ⟨f18, d18, hf18, hd18, hM⟩ := iter_opn hM0; clear hM0
   refine ct_loop (fun n S => ∃ p : Int × List Int, S = (⟨[(1, .ptr 0 0), (3, .own 1), (4, .int .i64 p.1)], [(0, .var 4 true (.agg [.int .i64 i_.Kind, .int .i64 i_.N, .sl none 1 false (i_.B.map (V.int .u8)), .sl none 4 true (i_.L.map e_api_Item)])), (1, .own 5 1 false none (p.2.map (V.int .u8)))], 2⟩ : St) ∧ (((0 ≤ p.1) ∧ (p.1 ≤ (i_.L.length : Int))) ∧ (((p.2).length : Int) + 9 * (hgtL (i_.L.drop (p.1).toNat) : Int) ≤ 9 * (hgt i_ : Int))) ∧ ((i_.L.length : Int) - p.1).toNat < n ∧ iter n f18 d18 p = r) (((i_.L.length : Int) - 0).toNat + 1) _ sbQ sbQ ⟨(0, (([3] : List Int) ++ x14)), rfl, ⟨⟨by (first | exact omQ | (clear hM; first | (have h9 := hgt_eq i_; exact omQ') | (have h9 := hgt_L (i := i_) (gt_mem (l := i_.L) (i := p18.1) (by omega)); exact omQ'))), by (first | exact omQ | (clear hM; first | (have h9 := hgt_eq i_; exact omQ') | (have h9 := hgt_L (i := i_) (gt_mem (l := i_.L) (i := p18.1) (by omega)); exact omQ')))⟩, by (have h9 := hgt_eq i_; simp only [Int.toNat_zero, List.drop_zero, List.length_append, List.length_cons, List.length_nil]; omega)⟩, (Nat.lt_succ_self _), hM⟩ ?_
   clear hM
   rintro n18 S ⟨p18, rfl, ⟨hfa18, hF8_0⟩, hm18, hM⟩
   have hM0 := hM; clear hM; obtain ⟨ag18, hag18, hM⟩ := iter_step hM0 (by omega) hf18; clear hM0
   replace hfa18 := nzQ hfa18
   replace hm18 := nzQ hm18
   have ha18 : addI .i64 p18.1 1 = p18.1 + 1 := add_one (by (first | exact omQ | (clear hM; first | (have h9 := hgt_eq i_; exact omQ') | (have h9 := hgt_L (i := i_) (gt_mem (l := i_.L) (i := p18.1) (by omega)); exact omQ')))) (by (first | exact omQ | (clear hM; first | (have h9 := hgt_eq i_; exact omQ') | (have h9 := hgt_L (i := i_) (gt_mem (l := i_.L) (i := p18.1) (by omega)); exact omQ'))))
   refine spQA ha18 ?_
   refine condC_intro (fun h19 => ?_) (fun h19 => ?_)
   ·rw [if_pos h19] at hM
    refine spQA (And.intro ha18 h19) ?_
    have nh19 := nzQ h19
    try have hr20 := mpQ nh19
    refine bindC_intro (by (first | exact omQ | (clear hM; first | (have h9 := hgt_eq i_; exact omQ') | (have h9 := hgt_L (i := i_) (gt_mem (l := i_.L) (i := p18.1) (by omega)); exact omQ')))) ?_
    have he21 := fun d => elt_mp (l := i_.L) (f := e_api_Item) (i := p18.1) (by (first | exact omQ | (clear hM; first | (have h9 := hgt_eq i_; exact omQ') | (have h9 := hgt_L (i := i_) (gt_mem (l := i_.L) (i := p18.1) (by omega)); exact omQ')))) d
    refine spQA (And.intro ha18 he21) ?_
    have hM0 := hM; clear hM; obtain ⟨x22, hx23, hM⟩ := letk_opn hM0; clear hM0
    have hcx22 := ih  (gt i_.L p18.1) (by (have h9 := hgt_L (i := i_) (gt_mem (l := i_.L) (i := p18.1) (by omega)); omega)) (by (have h9 := hgt_L (i := i_) (gt_mem (l := i_.L) (i := p18.1) (by omega)); omega))
    rw [← hx23] at hcx22
    refine callC_give hcx22 (clQA (And.intro ha18 he21)) (clQA (And.intro ha18 he21)) (fun hw24 => ?_)
    replace hw24 := nzQ hw24
    refine spQA (And.intro ha18 he21) ?_
    have hq25 := enc_after hx23
    replace hq25 := nzQ hq25
    refine bindC_intro (by (first | exact omQ | (clear hM; first | (have h9 := hgt_eq i_; exact omQ') | (have h9 := hgt_L (i := i_) (gt_mem (l := i_.L) (i := p18.1) (by omega)); exact omQ')))) ?_
    refine spQA (And.intro ha18 he21) ?_
    refine lp_intro (n18 - 1) _ (by omega) sbQ sbQ ⟨((p18.1 + 1), (p18.2 ++ x22)), rfl, ⟨⟨by (first | exact omQ | (clear hM; first | (have h9 := hgt_eq i_; exact omQ') | (have h9 := hgt_L (i := i_) (gt_mem (l := i_.L) (i := (p18.1 + 1)) (by omega)); exact omQ'))), by (first | exact omQ | (clear hM; first | (have h9 := hgt_eq i_; exact omQ') | (have h9 := hgt_L (i := i_) (gt_mem (l := i_.L) (i := (p18.1 + 1)) (by omega)); exact omQ')))⟩, by (have h9 := hgtL_drop (l := i_.L) (i := p18.1) (by omega); rw [show (((p18.1 + 1)) : Int).toNat = (p18.1).toNat + 1 by omega]; simp only [List.length_append]; omega)⟩, by (first | exact omQ | (clear hM; first | (have h9 := hgt_eq i_; exact omQ') | (have h9 := hgt_L (i := i_) (gt_mem (l := i_.L) (i := (p18.1 + 1)) (by omega)); exact omQ'))), iter_again hM hag18⟩
   ·rw [if_neg (ne_true h19)] at hM
    refine spQA (And.intro ha18 h19) ?_
    have nh19 := nzQ h19
    try have hr26 := mpQ nh19
    subst hM
    exact retC_view (lfQA (And.intro ha18 (And.intro h1 (And.intro h8 h19))))
theorem encI_okN : ∀ (N : Nat)  (i_ : S_api_Item), (hgt i_ ≤ 50000000) → hgt i_ < N → CallOk En 41 [.agg [.int .i64 i_.Kind, .int .i64 i_.N, .sl none 1 false (i_.B.map (V.int .u8)), .sl none 4 true (i_.L.map e_api_Item)]] (.sl none 1 false ((encI i_).map (V.int .u8))) [] := by
 intro N
 induction N with
 | zero => intro i_ h0 h; exact absurd h (Nat.not_lt_zero _)
 | succ N ih =>
  intro i_ h0 h
  have h9 := specieref07_Encode_ok N ih i_ h0 h
  rw [specieref07_Encode_eqM] at h9
  exact h9
theorem encI_ok  (i_ : S_api_Item) (hp0 : hgt i_ ≤ 50000000) : CallOk En 41 [.agg [.int .i64 i_.Kind, .int .i64 i_.N, .sl none 1 false (i_.B.map (V.int .u8)), .sl none 4 true (i_.L.map e_api_Item)]] (.sl none 1 false ((encI i_).map (V.int .u8))) [] :=
 encI_okN (hgt i_ + 1) i_ hp0 (Nat.lt_succ_self _)
set_option maxHeartbeats 2000000 in
set_option maxRecDepth 100000 in
instance specieref38_Invoice_ok   (v : S_api_Invoice)  : CM En (specieref38_Invoice v) 16 [(e_api_Invoice v)] (fun y => .sl none 1 false (y.map (V.int .u8))) (fun _ => []) := by
 refine cmQ fun r hM => ?_
 rw [specieref38_Invoice.eq_1] at hM
 refine enterV En_ok En_mo noJ Tryd.func16 rfl Tryd.ntmps16 (by kernel_rfl) fun hw => ct_start ?_
 refine spQ ?_
 replace hw := nzQ hw
 refine ct_draw 18 11 [3, 4, 5, 6, 7, 8, 9, 10, 11, 12, 13] [] ([[], [0], [0, 1], [], [3], [0, 1, 2, 3, 4], [], [6], [0, 1, 2, 3, 4, 5, 6, 7], [], [9]] ++ [List.range 11, List.range 12, List.range 13, List.range 14, List.range 15]) [] (by kernel_rfl) (by exact alQ) ?_
 refine spQ ?_
 have hM0 := hM; clear hM; obtain ⟨x1, hx2, hM⟩ := letk_opn hM0; clear hM0
 have hcx1 := cmU hx2
 refine hcallC_give hcx1 clQ clQ ?_
 refine spQ ?_
 have hM0 := hM; clear hM; obtain ⟨x3, hx4, hM⟩ := letk_opn hM0; clear hM0
 have hcx3 := cmU hx4
 refine hcallC_give hcx3 clQ clQ ?_
 refine spQ ?_
 have hM0 := hM; clear hM; obtain ⟨x5, hx6, hM⟩ := letk_opn hM0; clear hM0
 have hcx5 := cmU hx6
 refine hcallC_give hcx5 clQ clQ ?_
 refine spQ ?_
 have hM0 := hM; clear hM; obtain ⟨x7, hx8, hM⟩ := letk_opn hM0; clear hM0
 have hcx7 := cmU hx8
 refine callC_give hcx7 clQ clQ (fun hw9 => ?_)
 replace hw9 := nzQ hw9
 refine spQ ?_
 have hM0 := hM; clear hM; obtain ⟨x10, hx11, hM⟩ := letk_opn hM0; clear hM0
 have hcx10 := cmU hx11
 refine callC_giveP hcx10 (weakP_pub 12 (T := 53) (n := 4) (g := true) (z := (some false)) (l := ([x1, x3, x5, x7] : List S_api_Item).map e_api_Item) clQ) clQ (fun hw12 => ?_)
 replace hw12 := nzQ hw12
 refine spQ ?_
 have hM0 := hM; clear hM; obtain ⟨x13, hx14, hM⟩ := letk_opn hM0; clear hM0
 have hcx13 := encI_ok  x10 (by (subst_vars; exact hgt_rinv _))
 rw [← hx14] at hcx13
 refine callC_give hcx13 clQ clQ (fun hw15 => ?_)
 replace hw15 := nzQ hw15
 refine spQ ?_
 subst hM
 exact retC_view lfQ
set_option maxHeartbeats 2000000 in
set_option maxRecDepth 100000 in
instance specieref06_constants_ok     : CM En (specieref06_constants) 81 [] (fun y => .sl none 1 false (y.map (V.int .u32))) (fun _ => []) := by
 refine cmQ fun r hM => ?_
 rw [specieref06_constants.eq_1] at hM
 refine enterV En_ok En_mo noJ Tryd.func81 rfl Tryd.ntmps81 (by kernel_rfl) fun hw => ct_start ?_
 refine spQ ?_
 replace hw := nzQ hw
 subst hM
 exact retC_view lfQ
set_option maxHeartbeats 2000000 in
set_option maxRecDepth 100000 in
instance specieref06_bytes_ok   (n_ : Int)  : CM En (specieref06_bytes n_) 98 [.int .i64 n_] (fun y => .sl none 1 false (y.map (V.int .u8))) (fun _ => []) := by
 refine cmQ fun r hM => ?_
 rw [specieref06_bytes.eq_1] at hM
 refine enterV En_ok En_mo noJ Tryd.func98 rfl Tryd.ntmps98 (by kernel_rfl) fun hw => ct_start ?_
 refine spQ ?_
 replace hw := nzQ hw
 have hM0 := hM; clear hM; obtain ⟨f1, d1, hf1, hd1, hM⟩ := iter_opn hM0; clear hM0
 refine ct_loopW (fun n S => ∃ p : Int × List Int, S = (⟨[(0, .int .i64 n_), (3, .own 0), (4, .int .i64 p.1)], [(0, .own 5 1 false none (p.2.map (V.int .u8)))], 1⟩ : St) ∧ ((-1 ≤ p.1) ∧ (p.1 ≤ 7) ∧ (((p.2).length : Int) = 7 - p.1)) ∧ ((p.1 + 1) : Int).toNat < n ∧ iter n f1 d1 p = r) (((7 + 1) : Int).toNat + 1) _ _ (weak_nil 3 5 rfl (by decide)) sbQ sbQ ⟨(7, ([] : List Int)), rfl, ⟨omQ, omQ, omQ⟩, (Nat.lt_succ_self _), hM⟩ ?_
 clear hM
 rintro n1 S ⟨p1, rfl, hfa1, hm1, hM⟩
 have hM0 := hM; clear hM; obtain ⟨ag1, hag1, hM⟩ := iter_step hM0 (by omega) hf1; clear hM0
 replace hfa1 := nzQ hfa1
 replace hm1 := nzQ hm1
 refine spQ ?_
 refine condC_intro (fun h2 => ?_) (fun h2 => ?_)
 ·rw [if_pos h2] at hM
  refine spQA h2 ?_
  have nh2 := nzQ h2
  try have hr3 := mpQ nh2
  obtain ⟨ha4, hbha4⟩ := mul_pos_ok (a := 8) (b := p1.1) 8 8 64 omQ omQ omQ omQ (by decide) (by decide)
  try simp only [ha4]
  refine bindC_intro omQ ?_
  refine spQA ha4 ?_
  refine bindC_intro omQ ?_
  refine spQA ha4 ?_
  have ha5 : subI .i64 p1.1 1 = (p1.1 - 1) := sub_ok omQ omQ
  try simp only [ha5]
  refine lp_intro (n1 - 1) _ (by omega) sbQ sbQ ⟨((p1.1 - 1), (p1.2 ++ ([(convI .u8 (shrI .i64 n_ (8 * p1.1)))] : List Int))), rfl, ⟨omQ, omQ, omQ⟩, omQ, iter_again hM hag1⟩
 ·rw [if_neg (ne_true h2)] at hM
  refine spQA h2 ?_
  have nh2 := nzQ h2
  try have hr6 := mpQ nh2
  subst hM
  exact retC_view (lfQA h2)
set_option maxHeartbeats 2000000 in
set_option maxRecDepth 100000 in
theorem specieref06_padded_ok   (b : (List Int)) (hp0 : b.length ≤ 1000000000) : CM En (specieref06_padded b) 82 [.sl none 1 false (b.map (V.int .u8))] (fun y => .sl none 1 false (y.map (V.int .u8))) (fun _ => []) := by
 refine cmQ fun r hM => ?_
 rw [specieref06_padded.eq_1] at hM
 refine enterV En_ok En_mo noJ Tryd.func82 rfl Tryd.ntmps82 (by kernel_rfl) fun hw => ct_start ?_
 refine spQ ?_
 replace hw := nzQ hw
 refine bindC_intro omQ ?_
 refine spQ ?_
 refine bindC_intro omQ ?_
 refine spQ ?_
 have hM0 := hM; clear hM; obtain ⟨f1, d1, hf1, hd1, hM⟩ := iter_opn hM0; clear hM0
 refine ct_loop (fun n S => ∃ p : List Int, S = (⟨[(0, .sl none 1 false (b.map (V.int .u8))), (3, .own 0)], [(0, .own 5 1 false none (p.map (V.int .u8)))], 2⟩ : St) ∧ ((((p).length : Int) + (56 - ((p).length : Int)) % 64 ≤ (b.length : Int) + 65)) ∧ ((56 - ((p).length : Int)) % 64).toNat < n ∧ iter n f1 d1 p = r) (((56 - ((((([] : List Int) ++ b) ++ ([128] : List Int))).length : Int)) % 64).toNat + 1) _ sbQ sbQ ⟨((([] : List Int) ++ b) ++ ([128] : List Int)), rfl, omQ, (Nat.lt_succ_self _), hM⟩ ?_
 clear hM
 rintro n1 S ⟨p1, rfl, hfa1, hm1, hM⟩
 have hM0 := hM; clear hM; obtain ⟨ag1, hag1, hM⟩ := iter_step hM0 (by omega) hf1; clear hM0
 replace hfa1 := nzQ hfa1
 replace hm1 := nzQ hm1
 refine spQ ?_
 have hF := trueQ
 exact auQ
set_option maxHeartbeats 2000000 in
set_option maxRecDepth 100000 in
theorem specieref06_right_ok   (x_ : Int) (n_ : Int) (hp0 : 0 ≤ n_) (hp1 : n_ ≤ 32) : CM En (specieref06_right x_ n_) 84 [.int .u32 x_, .int .i64 n_] (fun y => .int .u32 y) (fun _ => []) := by
 refine cmQ fun r hM => ?_
 rw [specieref06_right.eq_1] at hM
 refine enterV En_ok En_mo noJ Tryd.func84 rfl Tryd.ntmps84 (by kernel_rfl) fun hw => ct_start ?_
 refine spQ ?_
 replace hw := nzQ hw
 refine ct_draw 13 7 [5, 6, 7, 8, 9, 10, 11] [] ([[], [], [0, 1], [], [], [4], [3, 4, 5]] ++ [List.range 7, List.range 8]) [] (by kernel_rfl) (by exact alQ) ?_
 refine spQ ?_
 refine hbindC_intro omQ ?_
 refine spQ ?_
 have ha1 : subI .i64 32 n_ = (32 - n_) := sub_ok omQ omQ
 try simp only [ha1]
 have hF := ha1
 exact auQ
set_option maxHeartbeats 2000000 in
set_option maxRecDepth 100000 in
theorem specieref06_words_ok   (b : (List Int)) (hp0 : b.length = 64) : CM En (specieref06_words b) 83 [.sl none 1 false (b.map (V.int .u8))] (fun y => .sl none 1 false (y.map (V.int .u32))) (fun _ => []) := by
 refine cmQ fun r hM => ?_
 rw [specieref06_words.eq_1] at hM
 refine enterV En_ok En_mo noJ Tryd.func83 rfl Tryd.ntmps83 (by kernel_rfl) fun hw => ct_start ?_
 refine spQ ?_
 replace hw := nzQ hw
 have hM0 := hM; clear hM; obtain ⟨f1, d1, hf1, hd1, hM⟩ := iter_opn hM0; clear hM0
 refine ct_loopW (fun n S => ∃ p : Int × List Int, S = (⟨[(0, .sl none 1 false (b.map (V.int .u8))), (3, .own 0), (4, .int .i64 p.1)], [(0, .own 132 1 false none (p.2.map (V.int .u32)))], 1⟩ : St) ∧ ((0 ≤ p.1) ∧ (p.1 ≤ 16) ∧ (((p.2).length : Int) = p.1) ∧ (((p.2).length : Int) ≤ p.1)) ∧ ((16 : Int) - p.1).toNat < n ∧ iter n f1 d1 p = r) (((16 : Int) - 0).toNat + 1) _ _ (weak_nil 3 132 rfl (by decide)) sbQ sbQ ⟨(0, ([] : List Int)), rfl, ⟨omQ, omQ, omQ, omQ⟩, (Nat.lt_succ_self _), hM⟩ ?_
 clear hM
 rintro n1 S ⟨p1, rfl, hfa1, hm1, hM⟩
 have hM0 := hM; clear hM; obtain ⟨ag1, hag1, hM⟩ := iter_step hM0 (by omega) hf1; clear hM0
 replace hfa1 := nzQ hfa1
 replace hm1 := nzQ hm1
 have ha1 : addI .i64 p1.1 1 = p1.1 + 1 := add_one omQ omQ
 refine spQA ha1 ?_
 refine condC_intro (fun h2 => ?_) (fun h2 => ?_)
 ·rw [if_pos h2] at hM
  refine spQA (And.intro ha1 h2) ?_
  have nh2 := nzQ h2
  try have hr3 := mpQ nh2
  have hM0 := hM; clear hM; obtain ⟨f4, d4, hf4, hd4, hM⟩ := iter_opn hM0; clear hM0
  refine ct_loop (fun n S => ∃ p : Int × Int, S = (⟨[(0, .sl none 1 false (b.map (V.int .u8))), (3, .own 0), (4, .int .i64 p1.1), (5, .int .u32 p.1), (6, .int .i64 p.2)], [(0, .own 132 1 false none (p1.2.map (V.int .u32)))], 1⟩ : St) ∧ ((0 ≤ p.2) ∧ (p.2 ≤ 4)) ∧ ((4 : Int) - p.2).toNat < n ∧ iter n f4 d4 p = r) (((4 : Int) - 0).toNat + 1) _ sbQ sbQ ⟨(0, 0), rfl, ⟨omQ, omQ⟩, (Nat.lt_succ_self _), hM⟩ ?_
  clear hM
  rintro n4 S ⟨p4, rfl, hfa4, hm4, hM⟩
  have hM0 := hM; clear hM; obtain ⟨ag4, hag4, hM⟩ := iter_step hM0 (by omega) hf4; clear hM0
  replace hfa4 := nzQ hfa4
  replace hm4 := nzQ hm4
  have ha4 : addI .i64 p4.2 1 = p4.2 + 1 := add_one omQ omQ
  refine spQA (And.intro ha1 ha4) ?_
  refine condC_intro (fun h5 => ?_) (fun h5 => ?_)
  ·rw [if_pos h5] at hM
   refine spQA (And.intro ha1 (And.intro ha4 h5)) ?_
   have nh5 := nzQ h5
   try have hr6 := mpQ nh5
   obtain ⟨ha7, hbha7⟩ := mul_pos_ok (a := 4) (b := p1.1) 4 64 256 omQ omQ omQ omQ (by decide) (by decide)
   try simp only [ha7]
   have ha8 : addI .i64 (4 * p1.1) p4.2 = ((4 * p1.1) + p4.2) := add_ok omQ omQ
   try simp only [ha8]
   have hF := (And.intro ha1 (And.intro h2 (And.intro ha4 (And.intro h5 ha8))))
   exact auQ
  ·rw [if_neg (ne_true h5)] at hM
   refine spQA (And.intro ha1 (And.intro ha4 h5)) ?_
   have nh5 := nzQ h5
   try have hr10 := mpQ nh5
   have hF := (And.intro ha1 (And.intro h2 (And.intro ha4 h5)))
   exact auQ
 ·rw [if_neg (ne_true h2)] at hM
  refine spQA (And.intro ha1 h2) ?_
  have nh2 := nzQ h2
  try have hr11 := mpQ nh2
  have hM0 := hM; clear hM; obtain ⟨f12, d12, hf12, hd12, hM⟩ := iter_opn hM0; clear hM0
  refine ct_loop (fun n S => ∃ p : Int × List Int, S = (⟨[(3, .own 0), (7, .int .i64 p.1)], [(0, .own 132 1 false none (p.2.map (V.int .u32)))], 1⟩ : St) ∧ ((16 ≤ p.1) ∧ (p.1 ≤ 64 ∨ p.1 ≤ 16) ∧ (((p.2).length : Int) = p.1)) ∧ ((64 : Int) - p.1).toNat < n ∧ iter n f12 d12 p = r) (((64 : Int) - 16).toNat + 1) _ sbQ sbQ ⟨(16, p1.2), rfl, ⟨omQ, omQ, omQ⟩, (Nat.lt_succ_self _), hM⟩ ?_
  clear hM
  rintro n12 S ⟨p12, rfl, hfa12, hm12, hM⟩
  have hM0 := hM; clear hM; obtain ⟨ag12, hag12, hM⟩ := iter_step hM0 (by omega) hf12; clear hM0
  replace hfa12 := nzQ hfa12
  replace hm12 := nzQ hm12
  have ha12 : addI .i64 p12.1 1 = p12.1 + 1 := add_one omQ omQ
  refine spQA (And.intro ha1 ha12) ?_
  refine condC_intro (fun h13 => ?_) (fun h13 => ?_)
  ·rw [if_pos h13] at hM
   refine spQA (And.intro ha1 (And.intro ha12 h13)) ?_
   have nh13 := nzQ h13
   try have hr14 := mpQ nh13
   refine ct_draw 84 11 [8, 39, 40, 41, 42, 43, 44, 45, 46, 47, 48] [] ([[], [], [1], [0, 1, 2], [0, 1, 2, 3], [], [], [6], [5, 6, 7], [5, 6, 7, 8], [0, 1, 2, 3, 4]] ++ [List.range 11]) [] (by kernel_rfl) (by exact alQ) ?_
   refine spQA (And.intro ha1 ha12) ?_
   have ha15 : subI .i64 p12.1 15 = (p12.1 - 15) := sub_ok omQ omQ
   try simp only [ha15]
   refine hbindC_intro omQ ?_
   have he16 := fun d => elt_mp (l := p12.2) (f := (V.int .u32)) (i := (p12.1 - 15)) omQ d
   refine spQA (And.intro ha1 (And.intro ha12 (And.intro ha15 he16))) ?_
   refine hbindC_intro omQ ?_
   refine spQA (And.intro ha1 (And.intro ha12 (And.intro ha15 he16))) ?_
   have ha17 : subI .i64 p12.1 2 = (p12.1 - 2) := sub_ok omQ omQ
   try simp only [ha17]
   refine hbindC_intro omQ ?_
   have he18 := fun d => elt_mp (l := p12.2) (f := (V.int .u32)) (i := (p12.1 - 2)) omQ d
   refine spQA (And.intro ha1 (And.intro ha12 (And.intro ha15 (And.intro he16 (And.intro ha17 he18))))) ?_
   refine hbindC_intro omQ ?_
   refine spQA (And.intro ha1 (And.intro ha12 (And.intro ha15 (And.intro he16 (And.intro ha17 he18))))) ?_
   have hM0 := hM; clear hM; obtain ⟨x19, hx20, hM⟩ := letk_opn hM0; clear hM0
   have hcx19 := cmH hx20 (specieref06_right_ok  (gt p12.2 (p12.1 - 15)) 7 (by (exact pfQ)) (by (exact pfQ)))
   refine callC_give hcx19 (clQA (And.intro ha1 (And.intro ha12 (And.intro ha15 (And.intro he16 (And.intro ha17 he18)))))) (clQA (And.intro ha1 (And.intro ha12 (And.intro ha15 (And.intro he16 (And.intro ha17 he18)))))) (fun hw21 => ?_)
   replace hw21 := nzQ hw21
   refine spQA (And.intro ha1 (And.intro ha12 (And.intro ha15 (And.intro he16 (And.intro ha17 he18))))) ?_
   have hM0 := hM; clear hM; obtain ⟨x22, hx23, hM⟩ := letk_opn hM0; clear hM0
   have hcx22 := cmH hx23 (specieref06_right_ok  (gt p12.2 (p12.1 - 15)) 18 (by (exact pfQ)) (by (exact pfQ)))
   refine callC_give hcx22 (clQA (And.intro ha1 (And.intro ha12 (And.intro ha15 (And.intro he16 (And.intro ha17 he18)))))) (clQA (And.intro ha1 (And.intro ha12 (And.intro ha15 (And.intro he16 (And.intro ha17 he18)))))) (fun hw24 => ?_)
   replace hw24 := nzQ hw24
   refine spQA (And.intro ha1 (And.intro ha12 (And.intro ha15 (And.intro he16 (And.intro ha17 he18))))) ?_
   have hM0 := hM; clear hM; obtain ⟨x25, hx26, hM⟩ := letk_opn hM0; clear hM0
   have hcx25 := cmH hx26 (specieref06_right_ok  (gt p12.2 (p12.1 - 2)) 17 (by (exact pfQ)) (by (exact pfQ)))
   refine callC_give hcx25 (clQA (And.intro ha1 (And.intro ha12 (And.intro ha15 (And.intro he16 (And.intro ha17 he18)))))) (clQA (And.intro ha1 (And.intro ha12 (And.intro ha15 (And.intro he16 (And.intro ha17 he18)))))) (fun hw27 => ?_)
   replace hw27 := nzQ hw27
   refine spQA (And.intro ha1 (And.intro ha12 (And.intro ha15 (And.intro he16 (And.intro ha17 he18))))) ?_
   have hM0 := hM; clear hM; obtain ⟨x28, hx29, hM⟩ := letk_opn hM0; clear hM0
   have hcx28 := cmH hx29 (specieref06_right_ok  (gt p12.2 (p12.1 - 2)) 19 (by (exact pfQ)) (by (exact pfQ)))
   refine callC_give hcx28 (clQA (And.intro ha1 (And.intro ha12 (And.intro ha15 (And.intro he16 (And.intro ha17 he18)))))) (clQA (And.intro ha1 (And.intro ha12 (And.intro ha15 (And.intro he16 (And.intro ha17 he18)))))) (fun hw30 => ?_)
   replace hw30 := nzQ hw30
   refine spQA (And.intro ha1 (And.intro ha12 (And.intro ha15 (And.intro he16 (And.intro ha17 he18))))) ?_
   refine ct_draw 84 17 [65, 66, 67, 68, 69, 70, 71, 72, 73, 74, 75, 76, 77, 78, 79, 80, 81] [] ([[], [], [], [2], [1, 2, 3], [1, 2, 3, 4], [], [1, 2, 3, 4, 5, 6], [], [], [9], [8, 9, 10], [8, 9, 10, 11], [1, 2, 3, 4, 5, 6, 7, 8, 9, 10, 11, 12], [], [1, 2, 3, 4, 5, 6, 7, 8, 9, 10, 11, 12, 13, 14], [1, 2, 3, 4, 5, 6, 7, 8, 9, 10, 11, 12, 13, 14, 15]] ++ [List.range 17, List.range 18]) [] (by kernel_rfl) (by exact alQ) ?_
   refine spQA (And.intro ha1 (And.intro ha12 (And.intro ha15 (And.intro he16 (And.intro ha17 he18))))) ?_
   have ha31 : subI .i64 p12.1 16 = (p12.1 - 16) := sub_ok omQ omQ
   try simp only [ha31]
   refine hbindC_intro omQ ?_
   have he32 := fun d => elt_mp (l := p12.2) (f := (V.int .u32)) (i := (p12.1 - 16)) omQ d
   refine spQA (And.intro ha1 (And.intro ha12 (And.intro ha15 (And.intro he16 (And.intro ha17 (And.intro he18 (And.intro ha31 he32))))))) ?_
   refine hbindC_intro omQ ?_
   refine spQA (And.intro ha1 (And.intro ha12 (And.intro ha15 (And.intro he16 (And.intro ha17 (And.intro he18 (And.intro ha31 he32))))))) ?_
   have ha33 : subI .i64 p12.1 7 = (p12.1 - 7) := sub_ok omQ omQ
   try simp only [ha33]
   have hF := (And.intro ha1 (And.intro h2 (And.intro ha12 (And.intro h13 (And.intro ha15 (And.intro he16 (And.intro ha17 (And.intro he18 (And.intro ha31 (And.intro he32 ha33))))))))))
   exact auQ
  ·rw [if_neg (ne_true h13)] at hM
   refine spQA (And.intro ha1 (And.intro ha12 h13)) ?_
   have nh13 := nzQ h13
   try have hr35 := mpQ nh13
   subst hM
   exact retC_view (lfQA (And.intro ha1 (And.intro ha12 (And.intro h2 h13))))
instance (priority := 1004) : DRD 18 182 11 [152, 153, 154, 155, 156, 157, 158, 159, 160, 161, 162] [] ([[], [], [], [], [2, 3], [2, 3, 4], [], [], [6, 7], [6, 7, 8], [2, 3, 4, 5, 6, 7, 8, 9]] ++ [List.range 11, List.range 12]) [] := ⟨trivial⟩
set_option maxHeartbeats 2000000 in
set_option maxRecDepth 100000 in
theorem specieref06_Sum_ok   (b : (List Int)) (hp0 : b.length ≤ 1000000000) : CM En (specieref06_Sum b) 61 [.sl none 1 false (b.map (V.int .u8))] (fun y => (e_arr23 y)) (fun _ => []) := by
 refine cmQ fun r hM => ?_
 rw [specieref06_Sum.eq_1] at hM
 refine enterV En_ok En_mo noJ Tryd.func61 rfl Tryd.ntmps61 (by kernel_rfl) fun hw => ct_start ?_
 refine spQ ?_
 replace hw := nzQ hw
 have hM0 := hM; clear hM; obtain ⟨x1, hx2, hM⟩ := letk_opn hM0; clear hM0
 have hcx1 := cmU hx2
 refine callC_give hcx1 clQ clQ (fun hw3 => ?_)
 replace hw3 := nzQ hw3
 refine spQ ?_
 have hq4 := nzQ (cfU hx2)
 have hM0 := hM; clear hM; obtain ⟨x5, hx6, hM⟩ := letk_opn hM0; clear hM0
 have hcx5 := cmH hx6 (specieref06_padded_ok  b (by (exact pfQ)))
 refine callC_give hcx5 clQ clQ (fun hw7 => ?_)
 replace hw7 := nzQ hw7
 refine spQ ?_
 have hq8 := nzQ (cfU hx6)
 have hM0 := hM; clear hM; obtain ⟨f9, d9, hf9, hd9, hM⟩ := iter_opn hM0; clear hM0
 refine ct_loop (fun n S => ∃ p : Int × List Int, S = (⟨[(2, .ptr 0 0), (3, .own 1), (4, .sl none 1 false (x1.map (V.int .u32))), (5, .sl none 1 false (x5.map (V.int .u8))), (6, .int .i64 p.1)], [(0, .var 32 true (zv_23)), (1, .own 132 1 false none (p.2.map (V.int .u32)))], 2⟩ : St) ∧ ((0 ≤ p.1) ∧ (p.1 ≤ (x5.length : Int)) ∧ (p.1 % 64 = 0) ∧ ((p.2).length = (([1779033703, 3144134277, 1013904242, 2773480762, 1359893119, 2600822924, 528734635, 1541459225] : List Int)).length)) ∧ ((x5.length : Int) - p.1).toNat < n ∧ iter n f9 d9 p = r) (((x5.length : Int) - 0).toNat + 1) _ sbQ sbQ ⟨(0, ([1779033703, 3144134277, 1013904242, 2773480762, 1359893119, 2600822924, 528734635, 1541459225] : List Int)), rfl, ⟨omQ, omQ, omQ, omQ⟩, (Nat.lt_succ_self _), hM⟩ ?_
 clear hM
 rintro n9 S ⟨p9, rfl, hfa9, hm9, hM⟩
 have hM0 := hM; clear hM; obtain ⟨ag9, hag9, hM⟩ := iter_step hM0 (by omega) hf9; clear hM0
 replace hfa9 := nzQ hfa9
 replace hm9 := nzQ hm9
 have ha9 : addI .i64 p9.1 1 = p9.1 + 1 := add_one omQ omQ
 refine spQA ha9 ?_
 refine condC_intro (fun h10 => ?_) (fun h10 => ?_)
 ·rw [if_pos h10] at hM
  refine spQA (And.intro ha9 h10) ?_
  have nh10 := nzQ h10
  try have hr11 := mpQ nh10
  have ha12 : addI .i64 p9.1 64 = (p9.1 + 64) := add_ok omQ omQ
  try simp only [ha12]
  refine bindC_intro omQ ?_
  refine spQA (And.intro ha9 ha12) ?_
  have hM0 := hM; clear hM; obtain ⟨x13, hx14, hM⟩ := letk_opn hM0; clear hM0
  have hcx13 := cmH hx14 (specieref06_words_ok  (sl x5 p9.1 (p9.1 + 64)) (by (exact pfQ)))
  refine callC_give hcx13 (clQA (And.intro ha9 ha12)) (clQA (And.intro ha9 ha12)) (fun hw15 => ?_)
  replace hw15 := nzQ hw15
  refine spQA (And.intro ha9 ha12) ?_
  have hq16 := nzQ (cfU hx14)
  refine bindC_intro omQ ?_
  refine spQA (And.intro ha9 ha12) ?_
  have hM0 := hM; clear hM; obtain ⟨f17, d17, hf17, hd17, hM⟩ := iter_opn hM0; clear hM0
  refine ct_loop (fun n S => ∃ p : Int × List Int, S = (⟨[(2, .ptr 0 0), (3, .own 1), (4, .sl none 1 false (x1.map (V.int .u32))), (5, .sl none 1 false (x5.map (V.int .u8))), (6, .int .i64 p9.1), (7, .sl none 1 false (x13.map (V.int .u32))), (8, .own 2), (9, .int .i64 p.1)], [(0, .var 32 true (zv_23)), (1, .own 132 1 false none (p9.2.map (V.int .u32))), (2, .own 132 1 false none (p.2.map (V.int .u32)))], 3⟩ : St) ∧ ((0 ≤ p.1) ∧ (p.1 ≤ 64) ∧ (((p.2).length : Int) = 8) ∧ ((p.2).length = ((([] : List Int) ++ p9.2)).length)) ∧ ((64 : Int) - p.1).toNat < n ∧ iter n f17 d17 p = r) (((64 : Int) - 0).toNat + 1) _ sbQ sbQ ⟨(0, (([] : List Int) ++ p9.2)), rfl, ⟨omQ, omQ, omQ, omQ⟩, (Nat.lt_succ_self _), hM⟩ ?_
  clear hM
  rintro n17 S ⟨p17, rfl, hfa17, hm17, hM⟩
  have hM0 := hM; clear hM; obtain ⟨ag17, hag17, hM⟩ := iter_step hM0 (by omega) hf17; clear hM0
  replace hfa17 := nzQ hfa17
  replace hm17 := nzQ hm17
  have ha17 : addI .i64 p17.1 1 = p17.1 + 1 := add_one omQ omQ
  refine spQA (And.intro ha9 (And.intro ha12 ha17)) ?_
  refine condC_intro (fun h18 => ?_) (fun h18 => ?_)
  ·rw [if_pos h18] at hM
   refine spQA (And.intro ha9 (And.intro ha12 (And.intro ha17 h18))) ?_
   have nh18 := nzQ h18
   try have hr19 := mpQ nh18
   refine ct_draw 182 44 [38, 39, 40, 41, 42, 43, 44, 45, 46, 47, 48, 49, 50, 51, 52, 53, 54, 55, 56, 57, 58, 59, 60, 61, 62, 63, 64, 65, 66, 67, 68, 69, 70, 71, 72, 73, 74, 75, 76, 77, 78, 79, 80, 81] [] ([[], [0], [0, 1], [], [3], [3, 4], [3, 4, 5], [], [7], [7, 8], [7, 8, 9], [3, 4, 5, 6, 7, 8, 9, 10], [], [12], [12, 13], [12, 13, 14], [3, 4, 5, 6, 7, 8, 9, 10, 11, 12, 13, 14, 15], [0, 1, 2, 3, 4, 5, 6, 7, 8, 9, 10, 11, 12, 13, 14, 15, 16], [], [18], [18, 19], [], [21], [21, 22], [18, 19, 20, 21, 22, 23], [], [25], [25, 26], [25, 26, 27], [], [29], [29, 30], [25, 26, 27, 28, 29, 30, 31], [18, 19, 20, 21, 22, 23, 24, 25, 26, 27, 28, 29, 30, 31, 32], [0, 1, 2, 3, 4, 5, 6, 7, 8, 9, 10, 11, 12, 13, 14, 15, 16, 17, 18, 19, 20, 21, 22, 23, 24, 25, 26, 27, 28, 29, 30, 31, 32, 33], [], [], [35, 36], [35, 36, 37], [0, 1, 2, 3, 4, 5, 6, 7, 8, 9, 10, 11, 12, 13, 14, 15, 16, 17, 18, 19, 20, 21, 22, 23, 24, 25, 26, 27, 28, 29, 30, 31, 32, 33, 34, 35, 36, 37, 38], [], [], [40, 41], [40, 41, 42]] ++ [List.range 44, List.range 45]) [] (by kernel_rfl) (by exact alQ) ?_
   refine spQA (And.intro ha9 (And.intro ha12 ha17)) ?_
   refine hbindC_intro omQ ?_
   have he20 : ∀ d, elt (p17.2.map (V.int .u32)) 7 d = (V.int .u32) (gt p17.2 7) := fun d => elt_mp (l := p17.2) (f := (V.int .u32)) (i := 7) omQ d
   refine spQA (And.intro ha9 (And.intro ha12 (And.intro ha17 he20))) ?_
   refine hbindC_intro omQ ?_
   refine spQA (And.intro ha9 (And.intro ha12 (And.intro ha17 he20))) ?_
   refine hbindC_intro omQ ?_
   have he21 : ∀ d, elt (p17.2.map (V.int .u32)) 4 d = (V.int .u32) (gt p17.2 4) := fun d => elt_mp (l := p17.2) (f := (V.int .u32)) (i := 4) omQ d
   refine spQA (And.intro ha9 (And.intro ha12 (And.intro ha17 (And.intro he20 he21)))) ?_
   refine hbindC_intro omQ ?_
   refine spQA (And.intro ha9 (And.intro ha12 (And.intro ha17 (And.intro he20 he21)))) ?_
   have hM0 := hM; clear hM; obtain ⟨x22, hx23, hM⟩ := letk_opn hM0; clear hM0
   have hcx22 := cmH hx23 (specieref06_right_ok  (gt p17.2 4) 6 (by (exact pfQ)) (by (exact pfQ)))
   refine hcallC_give hcx22 (clQA (And.intro ha9 (And.intro ha12 (And.intro ha17 (And.intro he20 he21))))) (clQA (And.intro ha9 (And.intro ha12 (And.intro ha17 (And.intro he20 he21))))) ?_
   refine spQA (And.intro ha9 (And.intro ha12 (And.intro ha17 (And.intro he20 he21)))) ?_
   refine hbindC_intro omQ ?_
   refine spQA (And.intro ha9 (And.intro ha12 (And.intro ha17 (And.intro he20 he21)))) ?_
   refine hbindC_intro omQ ?_
   refine spQA (And.intro ha9 (And.intro ha12 (And.intro ha17 (And.intro he20 he21)))) ?_
   have hM0 := hM; clear hM; obtain ⟨x24, hx25, hM⟩ := letk_opn hM0; clear hM0
   have hcx24 := cmH hx25 (specieref06_right_ok  (gt p17.2 4) 11 (by (exact pfQ)) (by (exact pfQ)))
   refine hcallC_give hcx24 (clQA (And.intro ha9 (And.intro ha12 (And.intro ha17 (And.intro he20 he21))))) (clQA (And.intro ha9 (And.intro ha12 (And.intro ha17 (And.intro he20 he21))))) ?_
   refine spQA (And.intro ha9 (And.intro ha12 (And.intro ha17 (And.intro he20 he21)))) ?_
   refine hbindC_intro omQ ?_
   refine spQA (And.intro ha9 (And.intro ha12 (And.intro ha17 (And.intro he20 he21)))) ?_
   refine hbindC_intro omQ ?_
   refine spQA (And.intro ha9 (And.intro ha12 (And.intro ha17 (And.intro he20 he21)))) ?_
   have hM0 := hM; clear hM; obtain ⟨x26, hx27, hM⟩ := letk_opn hM0; clear hM0
   have hcx26 := cmH hx27 (specieref06_right_ok  (gt p17.2 4) 25 (by (exact pfQ)) (by (exact pfQ)))
   refine hcallC_give hcx26 (clQA (And.intro ha9 (And.intro ha12 (And.intro ha17 (And.intro he20 he21))))) (clQA (And.intro ha9 (And.intro ha12 (And.intro ha17 (And.intro he20 he21))))) ?_
   refine spQA (And.intro ha9 (And.intro ha12 (And.intro ha17 (And.intro he20 he21)))) ?_
   refine hbindC_intro omQ ?_
   refine spQA (And.intro ha9 (And.intro ha12 (And.intro ha17 (And.intro he20 he21)))) ?_
   refine hbindC_intro omQ ?_
   refine spQA (And.intro ha9 (And.intro ha12 (And.intro ha17 (And.intro he20 he21)))) ?_
   refine hbindC_intro omQ ?_
   have he28 : ∀ d, elt (p17.2.map (V.int .u32)) 5 d = (V.int .u32) (gt p17.2 5) := fun d => elt_mp (l := p17.2) (f := (V.int .u32)) (i := 5) omQ d
   refine spQA (And.intro ha9 (And.intro ha12 (And.intro ha17 (And.intro he20 (And.intro he21 he28))))) ?_
   refine hbindC_intro omQ ?_
   refine spQA (And.intro ha9 (And.intro ha12 (And.intro ha17 (And.intro he20 (And.intro he21 he28))))) ?_
   refine hbindC_intro omQ ?_
   refine spQA (And.intro ha9 (And.intro ha12 (And.intro ha17 (And.intro he20 (And.intro he21 he28))))) ?_
   refine hbindC_intro omQ ?_
   refine spQA (And.intro ha9 (And.intro ha12 (And.intro ha17 (And.intro he20 (And.intro he21 he28))))) ?_
   refine hbindC_intro omQ ?_
   have he29 : ∀ d, elt (p17.2.map (V.int .u32)) 6 d = (V.int .u32) (gt p17.2 6) := fun d => elt_mp (l := p17.2) (f := (V.int .u32)) (i := 6) omQ d
   refine spQA (And.intro ha9 (And.intro ha12 (And.intro ha17 (And.intro he20 (And.intro he21 (And.intro he28 he29)))))) ?_
   refine hbindC_intro omQ ?_
   refine spQA (And.intro ha9 (And.intro ha12 (And.intro ha17 (And.intro he20 (And.intro he21 (And.intro he28 he29)))))) ?_
   refine hbindC_intro omQ ?_
   have he30 := fun d => elt_mp (l := x1) (f := (V.int .u32)) (i := p17.1) omQ d
   refine spQA (And.intro ha9 (And.intro ha12 (And.intro ha17 (And.intro he20 (And.intro he21 (And.intro he28 (And.intro he29 he30))))))) ?_
   refine hbindC_intro omQ ?_
   have he31 := fun d => elt_mp (l := x13) (f := (V.int .u32)) (i := p17.1) omQ d
   refine spQA (And.intro ha9 (And.intro ha12 (And.intro ha17 (And.intro he20 (And.intro he21 (And.intro he28 (And.intro he29 (And.intro he30 he31)))))))) ?_
   refine ct_draw 182 37 [83, 84, 85, 86, 87, 88, 89, 90, 91, 92, 93, 94, 95, 96, 97, 98, 99, 100, 101, 102, 103, 104, 105, 106, 107, 108, 109, 110, 111, 112, 113, 114, 115, 116, 117, 118, 119] [] ([[], [0], [0, 1], [0, 1, 2], [], [4], [4, 5], [4, 5, 6], [0, 1, 2, 3, 4, 5, 6, 7], [], [9], [9, 10], [9, 10, 11], [0, 1, 2, 3, 4, 5, 6, 7, 8, 9, 10, 11, 12], [], [14], [14, 15], [], [17], [17, 18], [14, 15, 16, 17, 18, 19], [], [21], [21, 22], [], [24], [24, 25], [21, 22, 23, 24, 25, 26], [14, 15, 16, 17, 18, 19, 20, 21, 22, 23, 24, 25, 26, 27], [], [29], [29, 30], [], [32], [32, 33], [29, 30, 31, 32, 33, 34], [14, 15, 16, 17, 18, 19, 20, 21, 22, 23, 24, 25, 26, 27, 28, 29, 30, 31, 32, 33, 34, 35]] ++ [List.range 37, List.range 38]) [] (by kernel_rfl) (by exact alQ) ?_
   refine spQA (And.intro ha9 (And.intro ha12 (And.intro ha17 (And.intro he20 (And.intro he21 (And.intro he28 (And.intro he29 (And.intro he30 he31)))))))) ?_
   refine hbindC_intro omQ ?_
   have he32 : ∀ d, elt (p17.2.map (V.int .u32)) 0 d = (V.int .u32) (gt p17.2 0) := fun d => elt_mp (l := p17.2) (f := (V.int .u32)) (i := 0) omQ d
   refine spQA (And.intro ha9 (And.intro ha12 (And.intro ha17 (And.intro he20 (And.intro he21 (And.intro he28 (And.intro he29 (And.intro he30 (And.intro he31 he32))))))))) ?_
   refine hbindC_intro omQ ?_
   refine spQA (And.intro ha9 (And.intro ha12 (And.intro ha17 (And.intro he20 (And.intro he21 (And.intro he28 (And.intro he29 (And.intro he30 (And.intro he31 he32))))))))) ?_
   have hM0 := hM; clear hM; obtain ⟨x33, hx34, hM⟩ := letk_opn hM0; clear hM0
   have hcx33 := cmH hx34 (specieref06_right_ok  (gt p17.2 0) 2 (by (exact pfQ)) (by (exact pfQ)))
   refine hcallC_give hcx33 (clQA (And.intro ha9 (And.intro ha12 (And.intro ha17 (And.intro he20 (And.intro he21 (And.intro he28 (And.intro he29 (And.intro he30 (And.intro he31 he32)))))))))) (clQA (And.intro ha9 (And.intro ha12 (And.intro ha17 (And.intro he20 (And.intro he21 (And.intro he28 (And.intro he29 (And.intro he30 (And.intro he31 he32)))))))))) ?_
   refine spQA (And.intro ha9 (And.intro ha12 (And.intro ha17 (And.intro he20 (And.intro he21 (And.intro he28 (And.intro he29 (And.intro he30 (And.intro he31 he32))))))))) ?_
   refine hbindC_intro omQ ?_
   refine spQA (And.intro ha9 (And.intro ha12 (And.intro ha17 (And.intro he20 (And.intro he21 (And.intro he28 (And.intro he29 (And.intro he30 (And.intro he31 he32))))))))) ?_
   refine hbindC_intro omQ ?_
   refine spQA (And.intro ha9 (And.intro ha12 (And.intro ha17 (And.intro he20 (And.intro he21 (And.intro he28 (And.intro he29 (And.intro he30 (And.intro he31 he32))))))))) ?_
   have hM0 := hM; clear hM; obtain ⟨x35, hx36, hM⟩ := letk_opn hM0; clear hM0
   have hcx35 := cmH hx36 (specieref06_right_ok  (gt p17.2 0) 13 (by (exact pfQ)) (by (exact pfQ)))
   refine hcallC_give hcx35 (clQA (And.intro ha9 (And.intro ha12 (And.intro ha17 (And.intro he20 (And.intro he21 (And.intro he28 (And.intro he29 (And.intro he30 (And.intro he31 he32)))))))))) (clQA (And.intro ha9 (And.intro ha12 (And.intro ha17 (And.intro he20 (And.intro he21 (And.intro he28 (And.intro he29 (And.intro he30 (And.intro he31 he32)))))))))) ?_
   refine spQA (And.intro ha9 (And.intro ha12 (And.intro ha17 (And.intro he20 (And.intro he21 (And.intro he28 (And.intro he29 (And.intro he30 (And.intro he31 he32))))))))) ?_
   refine hbindC_intro omQ ?_
   refine spQA (And.intro ha9 (And.intro ha12 (And.intro ha17 (And.intro he20 (And.intro he21 (And.intro he28 (And.intro he29 (And.intro he30 (And.intro he31 he32))))))))) ?_
   refine hbindC_intro omQ ?_
   refine spQA (And.intro ha9 (And.intro ha12 (And.intro ha17 (And.intro he20 (And.intro he21 (And.intro he28 (And.intro he29 (And.intro he30 (And.intro he31 he32))))))))) ?_
   have hM0 := hM; clear hM; obtain ⟨x37, hx38, hM⟩ := letk_opn hM0; clear hM0
   have hcx37 := cmH hx38 (specieref06_right_ok  (gt p17.2 0) 22 (by (exact pfQ)) (by (exact pfQ)))
   refine hcallC_give hcx37 (clQA (And.intro ha9 (And.intro ha12 (And.intro ha17 (And.intro he20 (And.intro he21 (And.intro he28 (And.intro he29 (And.intro he30 (And.intro he31 he32)))))))))) (clQA (And.intro ha9 (And.intro ha12 (And.intro ha17 (And.intro he20 (And.intro he21 (And.intro he28 (And.intro he29 (And.intro he30 (And.intro he31 he32)))))))))) ?_
   refine spQA (And.intro ha9 (And.intro ha12 (And.intro ha17 (And.intro he20 (And.intro he21 (And.intro he28 (And.intro he29 (And.intro he30 (And.intro he31 he32))))))))) ?_
   refine hbindC_intro omQ ?_
   refine spQA (And.intro ha9 (And.intro ha12 (And.intro ha17 (And.intro he20 (And.intro he21 (And.intro he28 (And.intro he29 (And.intro he30 (And.intro he31 he32))))))))) ?_
   refine hbindC_intro omQ ?_
   refine spQA (And.intro ha9 (And.intro ha12 (And.intro ha17 (And.intro he20 (And.intro he21 (And.intro he28 (And.intro he29 (And.intro he30 (And.intro he31 he32))))))))) ?_
   refine hbindC_intro omQ ?_
   have he39 : ∀ d, elt (p17.2.map (V.int .u32)) 1 d = (V.int .u32) (gt p17.2 1) := fun d => elt_mp (l := p17.2) (f := (V.int .u32)) (i := 1) omQ d
   refine spQA (And.intro ha9 (And.intro ha12 (And.intro ha17 (And.intro he20 (And.intro he21 (And.intro he28 (And.intro he29 (And.intro he30 (And.intro he31 (And.intro he32 he39)))))))))) ?_
   refine hbindC_intro omQ ?_
   refine spQA (And.intro ha9 (And.intro ha12 (And.intro ha17 (And.intro he20 (And.intro he21 (And.intro he28 (And.intro he29 (And.intro he30 (And.intro he31 (And.intro he32 he39)))))))))) ?_
   refine hbindC_intro omQ ?_
   refine spQA (And.intro ha9 (And.intro ha12 (And.intro ha17 (And.intro he20 (And.intro he21 (And.intro he28 (And.intro he29 (And.intro he30 (And.intro he31 (And.intro he32 he39)))))))))) ?_
   refine hbindC_intro omQ ?_
   refine spQA (And.intro ha9 (And.intro ha12 (And.intro ha17 (And.intro he20 (And.intro he21 (And.intro he28 (And.intro he29 (And.intro he30 (And.intro he31 (And.intro he32 he39)))))))))) ?_
   refine hbindC_intro omQ ?_
   have he40 : ∀ d, elt (p17.2.map (V.int .u32)) 2 d = (V.int .u32) (gt p17.2 2) := fun d => elt_mp (l := p17.2) (f := (V.int .u32)) (i := 2) omQ d
   refine spQA (And.intro ha9 (And.intro ha12 (And.intro ha17 (And.intro he20 (And.intro he21 (And.intro he28 (And.intro he29 (And.intro he30 (And.intro he31 (And.intro he32 (And.intro he39 he40))))))))))) ?_
   refine hbindC_intro omQ ?_
   refine spQA (And.intro ha9 (And.intro ha12 (And.intro ha17 (And.intro he20 (And.intro he21 (And.intro he28 (And.intro he29 (And.intro he30 (And.intro he31 (And.intro he32 (And.intro he39 he40))))))))))) ?_
   refine hbindC_intro omQ ?_
   refine spQA (And.intro ha9 (And.intro ha12 (And.intro ha17 (And.intro he20 (And.intro he21 (And.intro he28 (And.intro he29 (And.intro he30 (And.intro he31 (And.intro he32 (And.intro he39 he40))))))))))) ?_
   refine hbindC_intro omQ ?_
   refine spQA (And.intro ha9 (And.intro ha12 (And.intro ha17 (And.intro he20 (And.intro he21 (And.intro he28 (And.intro he29 (And.intro he30 (And.intro he31 (And.intro he32 (And.intro he39 he40))))))))))) ?_
   refine hbindC_intro omQ ?_
   refine spQA (And.intro ha9 (And.intro ha12 (And.intro ha17 (And.intro he20 (And.intro he21 (And.intro he28 (And.intro he29 (And.intro he30 (And.intro he31 (And.intro he32 (And.intro he39 he40))))))))))) ?_
   refine hbindC_intro omQ ?_
   refine spQA (And.intro ha9 (And.intro ha12 (And.intro ha17 (And.intro he20 (And.intro he21 (And.intro he28 (And.intro he29 (And.intro he30 (And.intro he31 (And.intro he32 (And.intro he39 he40))))))))))) ?_
   refine ct_draw 182 26 [121, 122, 123, 124, 125, 126, 127, 128, 129, 130, 131, 132, 133, 134, 135, 136, 137, 138, 139, 140, 141, 142, 143, 144, 145, 146] [] ([[], [], [0, 1], [], [3], [3, 4], [], [6], [6, 7], [], [9], [9, 10], [], [12], [12, 13], [], [12, 13, 14, 15], [], [17], [17, 18], [], [20], [20, 21], [], [23], [23, 24]] ++ [List.range 26, List.range 27]) [] (by kernel_rfl) (by exact alQ) ?_
   refine spQA (And.intro ha9 (And.intro ha12 (And.intro ha17 (And.intro he20 (And.intro he21 (And.intro he28 (And.intro he29 (And.intro he30 (And.intro he31 (And.intro he32 (And.intro he39 he40))))))))))) ?_
   refine hbindC_intro omQ ?_
   refine spQA (And.intro ha9 (And.intro ha12 (And.intro ha17 (And.intro he20 (And.intro he21 (And.intro he28 (And.intro he29 (And.intro he30 (And.intro he31 (And.intro he32 (And.intro he39 he40))))))))))) ?_
   refine hbindC_intro omQ ?_
   refine spQA (And.intro ha9 (And.intro ha12 (And.intro ha17 (And.intro he20 (And.intro he21 (And.intro he28 (And.intro he29 (And.intro he30 (And.intro he31 (And.intro he32 (And.intro he39 he40))))))))))) ?_
   refine hbindC_intro omQ ?_
   refine spQA (And.intro ha9 (And.intro ha12 (And.intro ha17 (And.intro he20 (And.intro he21 (And.intro he28 (And.intro he29 (And.intro he30 (And.intro he31 (And.intro he32 (And.intro he39 he40))))))))))) ?_
   refine hbindC_intro omQ ?_
   refine spQA (And.intro ha9 (And.intro ha12 (And.intro ha17 (And.intro he20 (And.intro he21 (And.intro he28 (And.intro he29 (And.intro he30 (And.intro he31 (And.intro he32 (And.intro he39 he40))))))))))) ?_
   refine hbindC_intro omQ ?_
   refine spQA (And.intro ha9 (And.intro ha12 (And.intro ha17 (And.intro he20 (And.intro he21 (And.intro he28 (And.intro he29 (And.intro he30 (And.intro he31 (And.intro he32 (And.intro he39 he40))))))))))) ?_
   refine hbindC_intro omQ ?_
   refine spQA (And.intro ha9 (And.intro ha12 (And.intro ha17 (And.intro he20 (And.intro he21 (And.intro he28 (And.intro he29 (And.intro he30 (And.intro he31 (And.intro he32 (And.intro he39 he40))))))))))) ?_
   refine hbindC_intro omQ ?_
   have he41 : ∀ d, elt (p17.2.map (V.int .u32)) 3 d = (V.int .u32) (gt p17.2 3) := fun d => elt_mp (l := p17.2) (f := (V.int .u32)) (i := 3) omQ d
   refine spQA (And.intro ha9 (And.intro ha12 (And.intro ha17 (And.intro he20 (And.intro he21 (And.intro he28 (And.intro he29 (And.intro he30 (And.intro he31 (And.intro he32 (And.intro he39 (And.intro he40 he41)))))))))))) ?_
   refine hbindC_intro omQ ?_
   refine spQA (And.intro ha9 (And.intro ha12 (And.intro ha17 (And.intro he20 (And.intro he21 (And.intro he28 (And.intro he29 (And.intro he30 (And.intro he31 (And.intro he32 (And.intro he39 (And.intro he40 he41)))))))))))) ?_
   refine hbindC_intro omQ ?_
   refine spQA (And.intro ha9 (And.intro ha12 (And.intro ha17 (And.intro he20 (And.intro he21 (And.intro he28 (And.intro he29 (And.intro he30 (And.intro he31 (And.intro he32 (And.intro he39 (And.intro he40 he41)))))))))))) ?_
   refine hbindC_intro omQ ?_
   refine spQA (And.intro ha9 (And.intro ha12 (And.intro ha17 (And.intro he20 (And.intro he21 (And.intro he28 (And.intro he29 (And.intro he30 (And.intro he31 (And.intro he32 (And.intro he39 (And.intro he40 he41)))))))))))) ?_
   refine hbindC_intro omQ ?_
   refine spQA (And.intro ha9 (And.intro ha12 (And.intro ha17 (And.intro he20 (And.intro he21 (And.intro he28 (And.intro he29 (And.intro he30 (And.intro he31 (And.intro he32 (And.intro he39 (And.intro he40 he41)))))))))))) ?_
   refine hbindC_intro omQ ?_
   refine spQA (And.intro ha9 (And.intro ha12 (And.intro ha17 (And.intro he20 (And.intro he21 (And.intro he28 (And.intro he29 (And.intro he30 (And.intro he31 (And.intro he32 (And.intro he39 (And.intro he40 he41)))))))))))) ?_
   refine hbindC_intro omQ ?_
   refine spQA (And.intro ha9 (And.intro ha12 (And.intro ha17 (And.intro he20 (And.intro he21 (And.intro he28 (And.intro he29 (And.intro he30 (And.intro he31 (And.intro he32 (And.intro he39 (And.intro he40 he41)))))))))))) ?_
   refine hbindC_intro omQ ?_
   refine spQA (And.intro ha9 (And.intro ha12 (And.intro ha17 (And.intro he20 (And.intro he21 (And.intro he28 (And.intro he29 (And.intro he30 (And.intro he31 (And.intro he32 (And.intro he39 (And.intro he40 he41)))))))))))) ?_
   refine lp_introW (n17 - 1) _ _ (by omega) (weak_ren (S := ⟨_, _, _⟩) 8 2 110 (T := 132) (n := 1) (g := false) (z := (some false)) (l := ([(addI .u32 (addI .u32 (addI .u32 (addI .u32 (addI .u32 (gt p17.2 7) (xorI .u32 (xorI .u32 x22 x24) x26)) (xorI .u32 (andI .u32 (gt p17.2 4) (gt p17.2 5)) (andI .u32 (notI .u32 (gt p17.2 4)) (gt p17.2 6)))) (gt x1 p17.1)) (gt x13 p17.1)) (addI .u32 (xorI .u32 (xorI .u32 x33 x35) x37) (xorI .u32 (xorI .u32 (andI .u32 (gt p17.2 0) (gt p17.2 1)) (andI .u32 (gt p17.2 0) (gt p17.2 2))) (andI .u32 (gt p17.2 1) (gt p17.2 2))))), (gt p17.2 0), (gt p17.2 1), (gt p17.2 2), (addI .u32 (gt p17.2 3) (addI .u32 (addI .u32 (addI .u32 (addI .u32 (gt p17.2 7) (xorI .u32 (xorI .u32 x22 x24) x26)) (xorI .u32 (andI .u32 (gt p17.2 4) (gt p17.2 5)) (andI .u32 (notI .u32 (gt p17.2 4)) (gt p17.2 6)))) (gt x1 p17.1)) (gt x13 p17.1))), (gt p17.2 4), (gt p17.2 5), (gt p17.2 6)] : List Int).map (V.int .u32)) (clQA (And.intro ha9 (And.intro ha12 (And.intro ha17 (And.intro he20 (And.intro he21 (And.intro he28 (And.intro he29 (And.intro he30 (And.intro he31 (And.intro he32 (And.intro he39 (And.intro he40 he41))))))))))))) (clQA (And.intro ha9 (And.intro ha12 (And.intro ha17 (And.intro he20 (And.intro he21 (And.intro he28 (And.intro he29 (And.intro he30 (And.intro he31 (And.intro he32 (And.intro he39 (And.intro he40 he41))))))))))))) (by first | decide | (dsimp only; decide)) (by decide)) sbQ sbQ ⟨((p17.1 + 1), ([(addI .u32 (addI .u32 (addI .u32 (addI .u32 (addI .u32 (gt p17.2 7) (xorI .u32 (xorI .u32 x22 x24) x26)) (xorI .u32 (andI .u32 (gt p17.2 4) (gt p17.2 5)) (andI .u32 (notI .u32 (gt p17.2 4)) (gt p17.2 6)))) (gt x1 p17.1)) (gt x13 p17.1)) (addI .u32 (xorI .u32 (xorI .u32 x33 x35) x37) (xorI .u32 (xorI .u32 (andI .u32 (gt p17.2 0) (gt p17.2 1)) (andI .u32 (gt p17.2 0) (gt p17.2 2))) (andI .u32 (gt p17.2 1) (gt p17.2 2))))), (gt p17.2 0), (gt p17.2 1), (gt p17.2 2), (addI .u32 (gt p17.2 3) (addI .u32 (addI .u32 (addI .u32 (addI .u32 (gt p17.2 7) (xorI .u32 (xorI .u32 x22 x24) x26)) (xorI .u32 (andI .u32 (gt p17.2 4) (gt p17.2 5)) (andI .u32 (notI .u32 (gt p17.2 4)) (gt p17.2 6)))) (gt x1 p17.1)) (gt x13 p17.1))), (gt p17.2 4), (gt p17.2 5), (gt p17.2 6)] : List Int)), rfl, ⟨omQ, omQ, omQ, omQ⟩, omQ, iter_again hM hag17⟩
  ·rw [if_neg (ne_true h18)] at hM
   refine spQA (And.intro ha9 (And.intro ha12 (And.intro ha17 h18))) ?_
   have nh18 := nzQ h18
   try have hr42 := mpQ nh18
   have hM0 := hM; clear hM; obtain ⟨f43, d43, hf43, hd43, hM⟩ := iter_opn hM0; clear hM0
   refine ct_loop (fun n S => ∃ p : Int × List Int, S = (⟨[(2, .ptr 0 0), (3, .own 1), (4, .sl none 1 false (x1.map (V.int .u32))), (5, .sl none 1 false (x5.map (V.int .u8))), (6, .int .i64 p9.1), (8, .own 2), (12, .int .i64 p.1)], [(0, .var 32 true (zv_23)), (1, .own 132 1 false none (p.2.map (V.int .u32))), (2, .own 132 1 false none (p17.2.map (V.int .u32)))], 3⟩ : St) ∧ ((0 ≤ p.1) ∧ (p.1 ≤ 8) ∧ ((p.2).length = (p9.2).length)) ∧ ((8 : Int) - p.1).toNat < n ∧ iter n f43 d43 p = r) (((8 : Int) - 0).toNat + 1) _ sbQ sbQ ⟨(0, p9.2), rfl, ⟨omQ, omQ, omQ⟩, (Nat.lt_succ_self _), hM⟩ ?_
   clear hM
   rintro n43 S ⟨p43, rfl, hfa43, hm43, hM⟩
   have hM0 := hM; clear hM; obtain ⟨ag43, hag43, hM⟩ := iter_step hM0 (by omega) hf43; clear hM0
   replace hfa43 := nzQ hfa43
   replace hm43 := nzQ hm43
   have ha43 : addI .i64 p43.1 1 = p43.1 + 1 := add_one omQ omQ
   refine spQA (And.intro ha9 (And.intro ha12 (And.intro ha17 ha43))) ?_
   have hF := (And.intro ha9 (And.intro h10 (And.intro ha12 (And.intro ha17 (And.intro h18 ha43)))))
   exact auQ
 ·rw [if_neg (ne_true h10)] at hM
  refine spQA (And.intro ha9 h10) ?_
  have nh10 := nzQ h10
  try have hr50 := mpQ nh10
  have hM0 := hM; clear hM; obtain ⟨f51, d51, hf51, hd51, hM⟩ := iter_opn hM0; clear hM0
  refine ct_loop (fun n S => ∃ p : Int × (List Int), S = (⟨[(2, .ptr 0 0), (3, .own 1), (13, .ptr 2 0), (14, .int .i64 p.1)], [(0, .var 32 true (zv_23)), (1, .own 132 1 false none (p9.2.map (V.int .u32))), (2, .var 32 true ((e_arr23 p.2)))], 3⟩ : St) ∧ ((0 ≤ p.1) ∧ (p.1 ≤ 32)) ∧ ((32 : Int) - p.1).toNat < n ∧ iter n f51 d51 p = r) (((32 : Int) - 0).toNat + 1) _ sbQ (by simp only [go_sem, rowV_eq, rowV_eq0, List.length_replicate, rep_len, Int.toNat_natCast, ↓reduceIte, Nat.reduceEqDiff, Nat.reduceAdd, Int.reduceAdd, Nat.reduceMul, Nat.reduceLeDiff, Nat.reduceLT, Int.reduceLE, Int.reduceLT, Int.reduceNeg, Int.reduceToNat, map_st, mtL_repE, mtL_repM, subF, subH, mtO, mtB, mt, mtL, mtL_self, mt_self, ltV, ltL, ltB, eq_self, or_true, true_or, or_self, and_self, gt_cons0, gt_conss, Int.reduceSub]) ⟨(0, [0, 0, 0, 0, 0, 0, 0, 0, 0, 0, 0, 0, 0, 0, 0, 0, 0, 0, 0, 0, 0, 0, 0, 0, 0, 0, 0, 0, 0, 0, 0, 0]), rfl, ⟨omQ, omQ⟩, (Nat.lt_succ_self _), hM⟩ ?_
  clear hM
  rintro n51 S ⟨p51, rfl, hfa51, hm51, hM⟩
  have hM0 := hM; clear hM; obtain ⟨ag51, hag51, hM⟩ := iter_step hM0 (by omega) hf51; clear hM0
  replace hfa51 := nzQ hfa51
  replace hm51 := nzQ hm51
  have ha51 : addI .i64 p51.1 1 = p51.1 + 1 := add_one omQ omQ
  refine spQA (And.intro ha9 ha51) ?_
  refine condC_intro (fun h52 => ?_) (fun h52 => ?_)
  ·rw [if_pos h52] at hM
   refine spQA (And.intro ha9 (And.intro ha51 h52)) ?_
   have nh52 := nzQ h52
   try have hr53 := mpQ nh52
   have ha54 : quoI .i64 p51.1 4 = (p51.1 / 4) := quo_ok omQ omQ
   try simp only [ha54]
   refine bindC_intro omQ ?_
   refine spQA (And.intro ha9 (And.intro ha51 ha54)) ?_
   refine bindC_intro omQ ?_
   have he55 := fun d => elt_mp (l := p9.2) (f := (V.int .u32)) (i := (p51.1 / 4)) omQ d
   refine spQA (And.intro ha9 (And.intro ha51 (And.intro ha54 he55))) ?_
   refine bindC_intro omQ ?_
   refine spQA (And.intro ha9 (And.intro ha51 (And.intro ha54 he55))) ?_
   have ha56 : remI .i64 p51.1 4 = (p51.1 % 4) := rem_ok omQ omQ
   try simp only [ha56]
   refine bindC_intro omQ ?_
   refine spQA (And.intro ha9 (And.intro ha51 (And.intro ha54 (And.intro he55 ha56)))) ?_
   obtain ⟨ha57, hbha57⟩ := mul_pos_ok (a := 8) (b := (p51.1 % 4)) 8 64 512 omQ omQ omQ omQ (by decide) (by decide)
   try simp only [ha57]
   have ha58 : subI .i64 24 (8 * (p51.1 % 4)) = (24 - (8 * (p51.1 % 4))) := sub_ok omQ omQ
   try simp only [ha58]
   refine bindC_intro omQ ?_
   refine spQA (And.intro ha9 (And.intro ha51 (And.intro ha54 (And.intro he55 (And.intro ha56 (And.intro ha57 ha58)))))) ?_
   refine bindC_intro omQ ?_
   have he59 : ((p51.1).toNat * 1 + 1 ≤ 32) = True := eq_true omQ
   refine spQA (And.intro ha9 (And.intro ha51 (And.intro ha54 (And.intro he55 (And.intro ha56 (And.intro ha57 (And.intro ha58 he59))))))) ?_
   have he60 := arr_put (f := (V.int .u8)) (l := (arrN 32 p51.2)) (n := 32) (i := p51.1) (v := (convI .u8 (shrI .u32 (gt p9.2 (p51.1 / 4)) (24 - (8 * (p51.1 % 4)))))) arrN_len omQ
   replace he60 := spR he60
   refine spQA (And.intro ha9 (And.intro ha51 (And.intro ha54 (And.intro he55 (And.intro ha56 (And.intro ha57 (And.intro ha58 (And.intro he59 he60)))))))) ?_
   refine lp_intro (n51 - 1) _ (by omega) sbQ (by simp only [go_sem, rowV_eq, rowV_eq0, List.length_replicate, rep_len, Int.toNat_natCast, ↓reduceIte, Nat.reduceEqDiff, Nat.reduceAdd, Int.reduceAdd, Nat.reduceMul, Nat.reduceLeDiff, Nat.reduceLT, Int.reduceLE, Int.reduceLT, Int.reduceNeg, Int.reduceToNat, map_st, mtL_repE, mtL_repM, subF, subH, mtO, mtB, mt, mtL, mtL_self, mt_self, ltV, ltL, ltB, eq_self, or_true, true_or, or_self, and_self, gt_cons0, gt_conss, Int.reduceSub]) ⟨((p51.1 + 1), (arrN 32 (st (arrN 32 p51.2) p51.1 (convI .u8 (shrI .u32 (gt p9.2 (p51.1 / 4)) (24 - (8 * (p51.1 % 4)))))))), rfl, ⟨omQ, omQ⟩, omQ, iter_again hM hag51⟩
  ·rw [if_neg (ne_true h52)] at hM
   refine spQA (And.intro ha9 (And.intro ha51 h52)) ?_
   have nh52 := nzQ h52
   try have hr61 := mpQ nh52
   subst hM
   exact retC_view (lfQA (And.intro ha9 (And.intro ha51 (And.intro h10 h52))))
set_option maxHeartbeats 2000000 in
set_option maxRecDepth 100000 in
theorem specieref06_Join_ok   (b : (List Int)) (h_ : (List Int)) (hp0 : b.length ≤ 1000000000) : CM En (specieref06_Join b h_) 62 [.sl none 1 false (b.map (V.int .u8)), (e_arr23 h_)] (fun _ => .own 0) (fun y => [.own 5 1 false none (y.map (V.int .u8))]) := by
 refine cmQ fun r hM => ?_
 rw [specieref06_Join.eq_1] at hM
 refine enterV En_ok En_mo noJ Tryd.func62 rfl Tryd.ntmps62 (by kernel_rfl) fun hw => ct_start ?_
 refine spQ ?_
 replace hw := nzQ hw
 refine bindC_intro omQ ?_
 refine spQ ?_
 have hM0 := hM; clear hM; obtain ⟨f1, d1, hf1, hd1, hM⟩ := iter_opn hM0; clear hM0
 refine ct_loop (fun n S => ∃ p : Int × List Int, S = (⟨[(3, .ptr 0 0), (5, .own 1), (6, .int .i64 p.1)], [(0, .var 32 true ((e_arr23 h_))), (1, .own 5 1 false none (p.2.map (V.int .u8)))], 2⟩ : St) ∧ ((0 ≤ p.1) ∧ (p.1 ≤ 32) ∧ (((p.2).length : Int) ≤ p.1 + ((([] : List Int) ++ b)).length)) ∧ ((32 : Int) - p.1).toNat < n ∧ iter n f1 d1 p = r) (((32 : Int) - 0).toNat + 1) _ sbQ sbQ ⟨(0, (([] : List Int) ++ b)), rfl, ⟨omQ, omQ, omQ⟩, (Nat.lt_succ_self _), hM⟩ ?_
 clear hM
 rintro n1 S ⟨p1, rfl, hfa1, hm1, hM⟩
 have hM0 := hM; clear hM; obtain ⟨ag1, hag1, hM⟩ := iter_step hM0 (by omega) hf1; clear hM0
 replace hfa1 := nzQ hfa1
 replace hm1 := nzQ hm1
 have ha1 : addI .i64 p1.1 1 = p1.1 + 1 := add_one omQ omQ
 refine spQA ha1 ?_
 refine condC_intro (fun h2 => ?_) (fun h2 => ?_)
 ·rw [if_pos h2] at hM
  refine spQA (And.intro ha1 h2) ?_
  have nh2 := nzQ h2
  try have hr3 := mpQ nh2
  refine bindC_intro omQ ?_
  have he4 : ((p1.1).toNat * 1 + 1 ≤ 32) = True := eq_true omQ
  refine spQA (And.intro ha1 he4) ?_
  have he5 := arr_get (f := (V.int .u8)) (l := h_) (n := 32) (i := p1.1) omQ
  replace he5 := spR he5
  try refine spQA (And.intro ha1 (And.intro he4 he5)) ?_
  have hF := (And.intro ha1 (And.intro h2 (And.intro he4 he5)))
  exact auQ
 ·rw [if_neg (ne_true h2)] at hM
  refine spQA (And.intro ha1 h2) ?_
  have nh2 := nzQ h2
  try have hr6 := mpQ nh2
  subst hM
  exact retC_owns [1] (bs := [.own 5 1 false none (p1.2.map (V.int .u8))]) (clQA ha1) (by decide) (lfQA (And.intro ha1 h2))
set_option maxHeartbeats 2000000 in
set_option maxRecDepth 100000 in
theorem specieref06_Tagged_ok   (tag : (List UInt8)) (b : (List Int)) (hp0 : b.length ≤ 900000000) (hp1 : tag.length ≤ 1000) : CM En (specieref06_Tagged tag b) 40 [.str tag, .sl none 1 false (b.map (V.int .u8))] (fun y => (e_arr23 y)) (fun _ => []) := by
 refine cmQ fun r hM => ?_
 rw [specieref06_Tagged.eq_1] at hM
 refine enterV En_ok En_mo noJ Tryd.func40 rfl Tryd.ntmps40 (by kernel_rfl) fun hw => ct_start ?_
 refine spQ ?_
 replace hw := nzQ hw
 have hM0 := hM; clear hM; obtain ⟨x1, hx2, hM⟩ := letk_opn hM0; clear hM0
 have hcx1 := cmH hx2 (specieref06_Sum_ok  (nat8 tag) (by (exact pfQ)))
 refine callC_look hcx1 clQ clQ (fun hw3 => ?_)
 replace hw3 := nzQ hw3
 refine spQ ?_
 refine ct_draw 16 5 [9, 10, 11, 12, 13] [] ([[], [0], [], [0, 1, 2], []] ++ [List.range 5, List.range 6, List.range 7]) [] (by kernel_rfl) (by exact alQ) ?_
 refine spQ ?_
 have hM0 := hM; clear hM; obtain ⟨x4, hx5, hM⟩ := letk_opn hM0; clear hM0
 have hcx4 := CallOk.pub (cmH hx5 (specieref06_Join_ok  ([] : List Int) x1 (by (exact pfQ))))
 refine hcallC_give hcx4 clQ clQ ?_
 refine spQ ?_
 have hq6 := nzQ (cfU hx5)
 have hM0 := hM; clear hM; obtain ⟨x7, hx8, hM⟩ := letk_opn hM0; clear hM0
 have hcx7 := cmH hx8 (specieref06_Join_ok  x4 x1 (by (exact pfQ)))
 refine hcallC_own hcx7 clQ clQ ?_
 refine spQ ?_
 have hq9 := nzQ (cfU hx8)
 refine bindC_intro omQ ?_
 refine spQ ?_
 have hM0 := hM; clear hM; obtain ⟨x10, hx11, hM⟩ := letk_opn hM0; clear hM0
 have hcx10 := cmH hx11 (specieref06_Sum_ok  (x7 ++ b) (by (exact pfQ)))
 refine callC_look hcx10 clQ clQ (fun hw12 => ?_)
 replace hw12 := nzQ hw12
 refine spQ ?_
 subst hM
 exact retC_view lfQ
set_option maxHeartbeats 2000000 in
set_option maxRecDepth 100000 in
instance specieref06_Hex_ok   (h_ : (List Int))  : CM En (specieref06_Hex h_) 39 [(e_arr23 h_)] (fun y => .str y) (fun _ => []) := by
 refine cmQ fun r hM => ?_
 rw [specieref06_Hex.eq_1] at hM
 refine enterV En_ok En_mo noJ Tryd.func39 rfl Tryd.ntmps39 (by kernel_rfl) fun hw => ct_start ?_
 refine spQ ?_
 replace hw := nzQ hw
 have hM0 := hM; clear hM; obtain ⟨f1, d1, hf1, hd1, hM⟩ := iter_opn hM0; clear hM0
 refine ct_loopW (fun n S => ∃ p : Int × List Int, S = (⟨[(1, .ptr 0 0), (3, .str [48, 49, 50, 51, 52, 53, 54, 55, 56, 57, 97, 98, 99, 100, 101, 102]), (4, .own 1), (5, .int .i64 p.1)], [(0, .var 32 true ((e_arr23 h_))), (1, .own 5 1 false none (p.2.map (V.int .u8)))], 2⟩ : St) ∧ ((0 ≤ p.1) ∧ (p.1 ≤ 32) ∧ (((p.2).length : Int) = 2 * p.1)) ∧ ((32 : Int) - p.1).toNat < n ∧ iter n f1 d1 p = r) (((32 : Int) - 0).toNat + 1) _ _ (weak_nil 4 5 rfl (by decide)) sbQ sbQ ⟨(0, ([] : List Int)), rfl, ⟨by (first | exact omQ | (clear hM; first | (have hk := hx_rng hw (i := p1.1) (by omega) (by omega); exact omQ'))), by (first | exact omQ | (clear hM; first | (have hk := hx_rng hw (i := p1.1) (by omega) (by omega); exact omQ'))), by (first | exact omQ | (clear hM; first | (have hk := hx_rng hw (i := p1.1) (by omega) (by omega); exact omQ')))⟩, (Nat.lt_succ_self _), hM⟩ ?_
 clear hM
 rintro n1 S ⟨p1, rfl, hfa1, hm1, hM⟩
 have hM0 := hM; clear hM; obtain ⟨ag1, hag1, hM⟩ := iter_step hM0 (by omega) hf1; clear hM0
 replace hfa1 := nzQ hfa1
 replace hm1 := nzQ hm1
 have ha1 : addI .i64 p1.1 1 = p1.1 + 1 := add_one (by (first | exact omQ | (clear hM; first | (have hk := hx_rng hw (i := p1.1) (by omega) (by omega); exact omQ')))) (by (first | exact omQ | (clear hM; first | (have hk := hx_rng hw (i := p1.1) (by omega) (by omega); exact omQ'))))
 refine spQA ha1 ?_
 refine condC_intro (fun h2 => ?_) (fun h2 => ?_)
 ·rw [if_pos h2] at hM
  refine spQA (And.intro ha1 h2) ?_
  have nh2 := nzQ h2
  try have hr3 := mpQ nh2
  refine ct_draw 27 14 [10, 11, 12, 13, 14, 15, 16, 17, 18, 19, 20, 21, 22, 23] [] ([[], [], [], [2], [2, 3], [2, 3, 4], [1, 2, 3, 4, 5], [], [], [8], [8, 9], [8, 9, 10], [7, 8, 9, 10, 11], [1, 2, 3, 4, 5, 6, 7, 8, 9, 10, 11, 12]] ++ [List.range 14, List.range 15]) [] (by kernel_rfl) (by exact alQ) ?_
  refine spQA ha1 ?_
  refine hbindC_intro (by (first | exact omQ | (clear hM; first | (have hk := hx_rng hw (i := p1.1) (by omega) (by omega); exact omQ')))) ?_
  have he4 : ((p1.1).toNat * 1 + 1 ≤ 32) = True := eq_true (by (first | exact omQ | (clear hM; first | (have hk := hx_rng hw (i := p1.1) (by omega) (by omega); exact omQ'))))
  refine spQA (And.intro ha1 he4) ?_
  have he5 := arr_get (f := (V.int .u8)) (l := h_) (n := 32) (i := p1.1) (by (first | exact omQ | (clear hM; first | (have hk := hx_rng hw (i := p1.1) (by omega) (by omega); exact omQ'))))
  replace he5 := spR he5
  try refine spQA (And.intro ha1 (And.intro he4 he5)) ?_
  refine hbindC_intro (by (first | exact omQ | (clear hM; first | (have hk := hx_rng hw (i := p1.1) (by omega) (by omega); exact omQ')))) ?_
  refine spQA (And.intro ha1 (And.intro he4 he5)) ?_
  refine hbindC_intro (by (first | exact omQ | (clear hM; first | (have hk := hx_rng hw (i := p1.1) (by omega) (by omega); exact omQ')))) ?_
  refine spQA (And.intro ha1 (And.intro he4 he5)) ?_
  refine hbindC_intro (by (first | exact omQ | (clear hM; first | (have hk := hx_rng hw (i := p1.1) (by omega) (by omega); exact omQ')))) ?_
  have he6 : ((p1.1).toNat * 1 + 1 ≤ 32) = True := eq_true (by (first | exact omQ | (clear hM; first | (have hk := hx_rng hw (i := p1.1) (by omega) (by omega); exact omQ'))))
  refine spQA (And.intro ha1 (And.intro he4 (And.intro he5 he6))) ?_
  have he7 := arr_get (f := (V.int .u8)) (l := h_) (n := 32) (i := p1.1) (by (first | exact omQ | (clear hM; first | (have hk := hx_rng hw (i := p1.1) (by omega) (by omega); exact omQ'))))
  replace he7 := spR he7
  try refine spQA (And.intro ha1 (And.intro he4 (And.intro he5 (And.intro he6 he7)))) ?_
  refine hbindC_intro (by (first | exact omQ | (clear hM; first | (have hk := hx_rng hw (i := p1.1) (by omega) (by omega); exact omQ')))) ?_
  refine spQA (And.intro ha1 (And.intro he4 (And.intro he5 (And.intro he6 he7)))) ?_
  refine hbindC_intro (by (first | exact omQ | (clear hM; first | (have hk := hx_rng hw (i := p1.1) (by omega) (by omega); exact omQ')))) ?_
  refine spQA (And.intro ha1 (And.intro he4 (And.intro he5 (And.intro he6 he7)))) ?_
  refine bindC_intro (by (first | exact omQ | (clear hM; first | (have hk := hx_rng hw (i := p1.1) (by omega) (by omega); exact omQ')))) ?_
  refine spQA (And.intro ha1 (And.intro he4 (And.intro he5 (And.intro he6 he7)))) ?_
  refine lp_intro (n1 - 1) _ (by omega) sbQ sbQ ⟨((p1.1 + 1), (p1.2 ++ ([((([48, 49, 50, 51, 52, 53, 54, 55, 56, 57, 97, 98, 99, 100, 101, 102] : List UInt8).getD (quoI .u8 (gt h_ p1.1) 16).toNat 0).toNat : Int), ((([48, 49, 50, 51, 52, 53, 54, 55, 56, 57, 97, 98, 99, 100, 101, 102] : List UInt8).getD (remI .u8 (gt h_ p1.1) 16).toNat 0).toNat : Int)] : List Int))), rfl, ⟨by (first | exact omQ | (clear hM; first | (have hk := hx_rng hw (i := (p1.1 + 1)) (by omega) (by omega); exact omQ'))), by (first | exact omQ | (clear hM; first | (have hk := hx_rng hw (i := (p1.1 + 1)) (by omega) (by omega); exact omQ'))), by (first | exact omQ | (clear hM; first | (have hk := hx_rng hw (i := (p1.1 + 1)) (by omega) (by omega); exact omQ')))⟩, by (first | exact omQ | (clear hM; first | (have hk := hx_rng hw (i := (p1.1 + 1)) (by omega) (by omega); exact omQ'))), iter_again hM hag1⟩
 ·rw [if_neg (ne_true h2)] at hM
  refine spQA (And.intro ha1 h2) ?_
  have nh2 := nzQ h2
  try have hr8 := mpQ nh2
  refine bindC_intro (by (exact ⟨allU8_map, by (first | exact omQ | (clear hM; first | (have hk := hx_rng hw (i := p1.1) (by omega) (by omega); exact omQ')))⟩)) ?_
  refine spQA ha1 ?_
  subst hM
  exact retC_view (lfQA (And.intro ha1 h2))
set_option maxHeartbeats 2000000 in
set_option maxRecDepth 100000 in
instance specieref38_Label_ok   (v : S_api_Invoice)  : CM En (specieref38_Label v) 14 [(e_api_Invoice v)] (fun y => .str y) (fun _ => []) := by
 refine cmQ fun r hM => ?_
 rw [specieref38_Label.eq_1] at hM
 refine enterV En_ok En_mo noJ Tryd.func14 rfl Tryd.ntmps14 (by kernel_rfl) fun hw => ct_start ?_
 refine spQ ?_
 replace hw := nzQ hw
 have hM0 := hM; clear hM; obtain ⟨x1, hx2, hM⟩ := letk_opn hM0; clear hM0
 have hcx1 := cmU hx2
 refine callC_give hcx1 clQ clQ (fun hw3 => ?_)
 replace hw3 := nzQ hw3
 refine spQ ?_
 have hq4 := rinv_len hx2
 replace hq4 := nzQ hq4
 have hM0 := hM; clear hM; obtain ⟨x5, hx6, hM⟩ := letk_opn hM0; clear hM0
 have hcx5 := cmH hx6 (specieref06_Tagged_ok  ([115, 112, 101, 99, 105, 101, 47, 105, 110, 118, 111, 105, 99, 101]) x1 (by (first | decide | omega)) (by (first | decide | omega)))
 refine callC_give hcx5 clQ clQ (fun hw7 => ?_)
 replace hw7 := nzQ hw7
 refine spQ ?_
 have hF := trueQ
 exact auQ
set_option maxHeartbeats 2000000 in
set_option maxRecDepth 100000 in
instance bytes_Equal_ok   (a_ : (List Int)) (b : (List Int))  : CM En (bytes_Equal a_ b) 15 [.sl none 1 false (a_.map (V.int .u8)), .sl none 1 false (b.map (V.int .u8))] (fun y => .bool y) (fun _ => []) := by
 refine cmQ fun r hM => ?_
 rw [bytes_Equal.eq_1] at hM
 refine enterV En_ok En_mo noJ Tryd.func15 rfl Tryd.ntmps15 (by kernel_rfl) fun hw => ct_start ?_
 refine spQ ?_
 replace hw := nzQ hw
 refine bindC_intro (by (exact ⟨allU8_map, omQ⟩)) ?_
 refine spQ ?_
 refine bindC_intro (by (exact ⟨allU8_map, omQ⟩)) ?_
 refine spQ ?_
 subst hM
 exact retC_view lfQ
instance (priority := 1005) : DRD 15 133 35 [96, 97, 98, 99, 100, 101, 102, 103, 104, 105, 106, 107, 108, 109, 110, 111, 112, 113, 114, 115, 116, 117, 118, 119, 120, 121, 122, 123, 124, 125, 126, 127, 128, 129, 130] [] ([[], [0], [0, 1], [0, 1, 2], [0, 1, 2], [0, 1, 2, 4], [0, 1, 2, 3, 4, 5], [0, 1, 2, 3, 4, 5, 6], [0, 1, 2, 3, 4, 5, 6, 7], [0, 1, 2, 3, 4, 5, 6, 7, 8], [0, 1, 2, 3, 4, 5, 6, 7, 8, 9], [0, 1, 2, 3, 4, 5, 6, 7, 8, 9, 10], [0, 1, 2, 3, 4, 5, 6, 7, 8, 9, 10, 11], [0, 1, 2, 3, 4, 5, 6, 7, 8, 9, 10, 11, 12], [0, 1, 2, 3, 4, 5, 6, 7, 8, 9, 10, 11, 12], [0, 1, 2, 3, 4, 5, 6, 7, 8, 9, 10, 11, 12, 14], [0, 1, 2, 3, 4, 5, 6, 7, 8, 9, 10, 11, 12, 13, 14, 15], [0, 1, 2, 3, 4, 5, 6, 7, 8, 9, 10, 11, 12, 13, 14, 15, 16], [0, 1, 2, 3, 4, 5, 6, 7, 8, 9, 10, 11, 12, 13, 14, 15, 16, 17], [0, 1, 2, 3, 4, 5, 6, 7, 8, 9, 10, 11, 12, 13, 14, 15, 16, 17, 18], [0, 1, 2, 3, 4, 5, 6, 7, 8, 9, 10, 11, 12, 13, 14, 15, 16, 17, 18, 19], [0, 1, 2, 3, 4, 5, 6, 7, 8, 9, 10, 11, 12, 13, 14, 15, 16, 17, 18, 19, 20], [0, 1, 2, 3, 4, 5, 6, 7, 8, 9, 10, 11, 12, 13, 14, 15, 16, 17, 18, 19, 20, 21], [0, 1, 2, 3, 4, 5, 6, 7, 8, 9, 10, 11, 12, 13, 14, 15, 16, 17, 18, 19, 20, 21, 22], [0, 1, 2, 3, 4, 5, 6, 7, 8, 9, 10, 11, 12, 13, 14, 15, 16, 17, 18, 19, 20, 21, 22], [0, 1, 2, 3, 4, 5, 6, 7, 8, 9, 10, 11, 12, 13, 14, 15, 16, 17, 18, 19, 20, 21, 22, 24], [0, 1, 2, 3, 4, 5, 6, 7, 8, 9, 10, 11, 12, 13, 14, 15, 16, 17, 18, 19, 20, 21, 22, 23, 24, 25], [0, 1, 2, 3, 4, 5, 6, 7, 8, 9, 10, 11, 12, 13, 14, 15, 16, 17, 18, 19, 20, 21, 22, 23, 24, 25, 26], [0, 1, 2, 3, 4, 5, 6, 7, 8, 9, 10, 11, 12, 13, 14, 15, 16, 17, 18, 19, 20, 21, 22, 23, 24, 25, 26, 27], [0, 1, 2, 3, 4, 5, 6, 7, 8, 9, 10, 11, 12, 13, 14, 15, 16, 17, 18, 19, 20, 21, 22, 23, 24, 25, 26, 27, 28], [0, 1, 2, 3, 4, 5, 6, 7, 8, 9, 10, 11, 12, 13, 14, 15, 16, 17, 18, 19, 20, 21, 22, 23, 24, 25, 26, 27, 28, 29], [0, 1, 2, 3, 4, 5, 6, 7, 8, 9, 10, 11, 12, 13, 14, 15, 16, 17, 18, 19, 20, 21, 22, 23, 24, 25, 26, 27, 28, 29, 30], [0, 1, 2, 3, 4, 5, 6, 7, 8, 9, 10, 11, 12, 13, 14, 15, 16, 17, 18, 19, 20, 21, 22, 23, 24, 25, 26, 27, 28, 29, 30, 31], [0, 1, 2, 3, 4, 5, 6, 7, 8, 9, 10, 11, 12, 13, 14, 15, 16, 17, 18, 19, 20, 21, 22, 23, 24, 25, 26, 27, 28, 29, 30, 31, 32], [0, 1, 2, 3, 4, 5, 6, 7, 8, 9, 10, 11, 12, 13, 14, 15, 16, 17, 18, 19, 20, 21, 22, 23, 24, 25, 26, 27, 28, 29, 30, 31, 32]] ++ [List.range 35, List.range 36, List.range 37]) [] := ⟨trivial⟩
set_option maxHeartbeats 2000000 in
set_option maxRecDepth 100000 in
instance specielaw38_PaymentInvoices_ok   (v : S_api_Invoice) (x_ : (List Int))  : CM En (specielaw38_PaymentInvoices v x_) 3 [(e_api_Invoice v), .sl none 1 false (x_.map (V.int .u8))] (fun y => .bool y) (fun _ => []) := by
 refine cmQ fun r hM => ?_
 rw [specielaw38_PaymentInvoices.eq_1] at hM
 refine enterV En_ok En_mo noJ Tryd.func3 rfl Tryd.ntmps3 (by kernel_rfl) fun hw => ct_start ?_
 refine spQ ?_
 replace hw := nzQ hw
 have hF := trueQ
 exact auQ
end Go.Proofs.YtcbdmoihobdjaaaDoor
