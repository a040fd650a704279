import Derived.Test.YtcbdmoihobdjaaaU1
namespace Go.Proofs.Ytcbdmoihobdjaaa
open Go.RowKit
set_option linter.unusedSimpArgs false
set_option maxHeartbeats 2000000 in
set_option maxRecDepth 100000 in
theorem specieref07_valid_ok (N : Nat) (ih : ∀  (i_ : S_api_Item) (within : Int), (0 ≤ within) → (within ≤ 8) → hgt i_ < N → CallOk En 75 [.agg [.int .i64 i_.Kind, .int .i64 i_.N, .sl none 1 false (i_.B.map (V.int .u8)), .sl none 4 true (i_.L.map e_api_Item)], .int .i64 within] (.bool (rvalidM i_ within)) [])  (i_ : S_api_Item) (within : Int) (hp0 : 0 ≤ within) (hp1 : within ≤ 8) (hp_ : hgt i_ < N + 1) : CallOk En 75 [.agg [.int .i64 i_.Kind, .int .i64 i_.N, .sl none 1 false (i_.B.map (V.int .u8)), .sl none 4 true (i_.L.map e_api_Item)], .int .i64 within] (.bool (specieref07_valid i_ within)) [] := by
 generalize hM : specieref07_valid i_ within = r
 rw [specieref07_valid.eq_1] at hM
 refine enterV En_ok En_mo noJ Try.func75 rfl Try.ntmps75 (by kernel_rfl) fun hw => ct_start ?_
 refine spQ ?_
 replace hw := nzQ hw
 refine condC_intro (fun h1 => ?_) (fun h1 => ?_)
 ·rw [if_pos h1] at hM
  refine spQA h1 ?_
  have nh1 := nzQ h1
  try have hr2 := mpQ nh1
  have hF := h1
  exact auQ
 ·rw [if_neg (ne_true h1)] at hM
  refine spQA h1 ?_
  have nh1 := nzQ h1
  try have hr6 := mpQ nh1
  refine condC_intro (fun h7 => ?_) (fun h7 => ?_)
  ·rw [if_pos h7] at hM
   refine spQA h7 ?_
   have nh7 := nzQ h7
   try have hr8 := mpQ nh7
   have hF := (And.intro h1 h7)
   exact auQ
  ·rw [if_neg (ne_true h7)] at hM
   refine spQA h7 ?_
   have nh7 := nzQ h7
   try have hr12 := mpQ nh7
   refine condC_intro (fun h13 => ?_) (fun h13 => ?_)
   ·rw [if_pos h13] at hM
    refine spQA h13 ?_
    have nh13 := nzQ h13
    try have hr14 := mpQ nh13
    refine guardC_f (fun h15 => ?_) (fun h15 => ?_)
    ·rw [if_neg (ne_true h15)] at hM
     refine spQA h15 ?_
     have nh15 := nzQ h15
     try have hr16 := mpQ nh15
     refine guardC_f (fun h17 => ?_) (fun h17 => ?_)
     ·rw [if_neg (ne_true h17)] at hM
      refine spQA h17 ?_
      have nh17 := nzQ h17
      try have hr18 := mpQ nh17
      refine guardC_f (fun h19 => ?_) (fun h19 => ?_)
      ·rw [if_neg (ne_true h19)] at hM
       refine spQA h19 ?_
       have nh19 := nzQ h19
       try have hr20 := mpQ nh19
       refine condC_intro (fun h21 => ?_) (fun h21 => ?_)
       ·rw [if_pos h21] at hM
        refine spQA h21 ?_
        have nh21 := nzQ h21
        try have hr22 := mpQ nh21
        subst hM
        exact retC_view (lfQA (And.intro h1 (And.intro h7 (And.intro h13 (And.intro h15 (And.intro h17 (And.intro h19 h21)))))))
       ·rw [if_neg (ne_true h21)] at hM
        refine spQA h21 ?_
        have nh21 := nzQ h21
        try have hr23 := mpQ nh21
        have hM0 := hM; clear hM; obtain ⟨f24, d24, hf24, hd24, hM⟩ := iter_opn hM0; clear hM0
        refine ct_loop (fun n S => ∃ p : Int, S = (⟨[(1, .int .i64 within), (2, .ptr 0 0), (5, .int .i64 p)], [(0, .var 4 true (.agg [.int .i64 i_.Kind, .int .i64 i_.N, .sl none 1 false (i_.B.map (V.int .u8)), .sl none 4 true (i_.L.map e_api_Item)]))], 1⟩ : St) ∧ ((0 ≤ p) ∧ (p ≤ (i_.L.length : Int))) ∧ ((i_.L.length : Int) - p).toNat < n ∧ iter n f24 d24 p = r) (((i_.L.length : Int) - 0).toNat + 1) _ sbQ sbQ ⟨0, rfl, ⟨omQ, omQ⟩, (Nat.lt_succ_self _), hM⟩ ?_
        clear hM
        rintro n24 S ⟨p24, rfl, hfa24, hm24, hM⟩
        have hM0 := hM; clear hM; obtain ⟨ag24, hag24, hM⟩ := iter_step hM0 (by omega) hf24; clear hM0
        replace hfa24 := nzQ hfa24
        replace hm24 := nzQ hm24
        have ha24 : addI .i64 p24 1 = p24 + 1 := add_one omQ omQ
        refine spQA ha24 ?_
        refine condC_intro (fun h25 => ?_) (fun h25 => ?_)
        ·rw [if_pos h25] at hM
         refine spQA (And.intro ha24 h25) ?_
         have nh25 := nzQ h25
         try have hr26 := mpQ nh25
         refine bindC_intro omQ ?_
         have he27 := fun d => elt_mp (l := i_.L) (f := e_api_Item) (i := p24) omQ d
         refine spQA (And.intro ha24 he27) ?_
         have ha28 : addI .i64 within 1 = (within + 1) := add_ok omQ omQ
         try simp only [ha28]
         have hM0 := hM; clear hM; obtain ⟨x29, hx30, hM⟩ := letk_opn hM0; clear hM0
         have hcx29 := ih  (gt i_.L p24) (within + 1) (by (have h9 := hgt_L (i := i_) (gt_mem (l := i_.L) (i := p24) (by omega)); first | exact h9 | omega)) (by (have h9 := hgt_L (i := i_) (gt_mem (l := i_.L) (i := p24) (by omega)); first | exact h9 | omega)) (by (have h9 := hgt_L (i := i_) (gt_mem (l := i_.L) (i := p24) (by omega)); first | exact h9 | omega))
         rw [← hx30] at hcx29
         refine callC_give hcx29 (clQA (And.intro ha24 (And.intro he27 ha28))) (clQA (And.intro ha24 (And.intro he27 ha28))) (fun hw31 => ?_)
         replace hw31 := nzQ hw31
         refine spQA (And.intro ha24 (And.intro he27 ha28)) ?_
         have hF := (And.intro h1 (And.intro h7 (And.intro h13 (And.intro h15 (And.intro h17 (And.intro h19 (And.intro h21 (And.intro ha24 (And.intro h25 (And.intro he27 ha28))))))))))
         exact auQ
        ·rw [if_neg (ne_true h25)] at hM
         refine spQA (And.intro ha24 h25) ?_
         have nh25 := nzQ h25
         try have hr35 := mpQ nh25
         subst hM
         exact retC_view (lfQA (And.intro ha24 (And.intro h1 (And.intro h7 (And.intro h13 (And.intro h15 (And.intro h17 (And.intro h19 (And.intro h21 h25)))))))))
      ·rw [if_pos h19] at hM
       refine spQA h19 ?_
       have nh19 := nzQ h19
       try have hr36 := mpQ nh19
       subst hM
       exact retC_view (lfQA (And.intro h1 (And.intro h7 (And.intro h13 (And.intro h15 (And.intro h17 h19))))))
     ·rw [if_pos h17] at hM
      refine spQA h17 ?_
      have nh17 := nzQ h17
      try have hr37 := mpQ nh17
      subst hM
      exact retC_view (lfQA (And.intro h1 (And.intro h7 (And.intro h13 (And.intro h15 h17)))))
    ·rw [if_pos h15] at hM
     refine spQA h15 ?_
     have nh15 := nzQ h15
     try have hr38 := mpQ nh15
     subst hM
     exact retC_view (lfQA (And.intro h1 (And.intro h7 (And.intro h13 h15))))
   ·rw [if_neg (ne_true h13)] at hM
    refine spQA h13 ?_
    have nh13 := nzQ h13
    try have hr39 := mpQ nh13
    subst hM
    exact retC_view (lfQA (And.intro h1 (And.intro h7 h13)))
theorem rvalidM_okN : ∀ (N : Nat)  (i_ : S_api_Item) (within : Int), (0 ≤ within) → (within ≤ 8) → hgt i_ < N → CallOk En 75 [.agg [.int .i64 i_.Kind, .int .i64 i_.N, .sl none 1 false (i_.B.map (V.int .u8)), .sl none 4 true (i_.L.map e_api_Item)], .int .i64 within] (.bool (rvalidM i_ within)) [] := by
 intro N
 induction N with
 | zero => intro i_ within h0 h1 h; exact absurd h (Nat.not_lt_zero _)
 | succ N ih =>
  intro i_ within h0 h1 h
  have h9 := specieref07_valid_ok N ih i_ within h0 h1 h
  rw [specieref07_valid_eqM h0 h1] at h9
  exact h9
theorem rvalidM_ok  (i_ : S_api_Item) (within : Int) (hp0 : 0 ≤ within) (hp1 : within ≤ 8) : CallOk En 75 [.agg [.int .i64 i_.Kind, .int .i64 i_.N, .sl none 1 false (i_.B.map (V.int .u8)), .sl none 4 true (i_.L.map e_api_Item)], .int .i64 within] (.bool (rvalidM i_ within)) [] :=
 rvalidM_okN (hgt i_ + 1) i_ within hp0 hp1 (Nat.lt_succ_self _)
set_option maxHeartbeats 2000000 in
set_option maxRecDepth 100000 in
instance specieref07_Valid_ok   (i_ : S_api_Item)  : CM En (specieref07_Valid i_) 44 [.agg [.int .i64 i_.Kind, .int .i64 i_.N, .sl none 1 false (i_.B.map (V.int .u8)), .sl none 4 true (i_.L.map e_api_Item)]] (fun y => .bool y) (fun _ => []) := by
 refine cmQ fun r hM => ?_
 rw [specieref07_Valid.eq_1] at hM
 refine enterV En_ok En_mo noJ Try.func44 rfl Try.ntmps44 (by kernel_rfl) fun hw => ct_start ?_
 refine spQ ?_
 replace hw := nzQ hw
 have hM0 := hM; clear hM; obtain ⟨x1, hx2, hM⟩ := letk_opn hM0; clear hM0
 have hcx1 := rvalidM_ok  i_ 0 (by (first | decide | omega)) (by (first | decide | omega))
 rw [← hx2] at hcx1
 refine callC_give hcx1 clQ clQ (fun hw3 => ?_)
 replace hw3 := nzQ hw3
 refine spQ ?_
 subst hM
 exact retC_view lfQ
set_option maxHeartbeats 2000000 in
set_option maxRecDepth 100000 in
theorem specieref07_number_ok   (n_ : Int) (size : Int) (hp0 : 0 ≤ size) (hp1 : size ≤ 8) : CM En (specieref07_number n_ size) 76 [.int .u64 n_, .int .i64 size] (fun y => .sl none 1 false (y.map (V.int .u8))) (fun _ => []) := by
 refine cmQ fun r hM => ?_
 rw [specieref07_number.eq_1] at hM
 refine enterV En_ok En_mo noJ Try.func76 rfl Try.ntmps76 (by kernel_rfl) fun hw => ct_start ?_
 refine spQ ?_
 replace hw := nzQ hw
 refine bindC_intro omQ ?_
 refine spQ ?_
 have ha1 : subI .i64 size 1 = (size - 1) := sub_ok omQ omQ
 try simp only [ha1]
 have hM0 := hM; clear hM; obtain ⟨f2, d2, hf2, hd2, hM⟩ := iter_opn hM0; clear hM0
 refine ct_loop (fun n S => ∃ p : Int × Int × List Int, S = (⟨[(0, .int .u64 p.1), (5, .own 0), (6, .int .i64 p.2.1)], [(0, .own 5 1 false none (p.2.2.map (V.int .u8)))], 1⟩ : St) ∧ ((-1 ≤ p.2.1) ∧ (p.2.1 < size) ∧ (((p.2.2).length : Int) = size)) ∧ (p.2.1 + 1).toNat < n ∧ iter n f2 d2 p = r) (((size - 1) + 1).toNat + 1) _ sbQ sbQ ⟨(n_, (size - 1), (rep size.toNat (0 : Int))), rfl, ⟨omQ, omQ, omQ⟩, (Nat.lt_succ_self _), hM⟩ ?_
 clear hM
 rintro n2 S ⟨p2, rfl, hfa2, hm2, hM⟩
 have hM0 := hM; clear hM; obtain ⟨ag2, hag2, hM⟩ := iter_step hM0 (by omega) hf2; clear hM0
 replace hfa2 := nzQ hfa2
 replace hm2 := nzQ hm2
 refine spQA ha1 ?_
 refine condC_intro (fun h3 => ?_) (fun h3 => ?_)
 ·rw [if_pos h3] at hM
  refine spQA (And.intro ha1 h3) ?_
  have nh3 := nzQ h3
  try have hr4 := mpQ nh3
  refine bindC_intro omQ ?_
  refine spQA ha1 ?_
  refine bindC_intro omQ ?_
  have he5 := fun d => elt_mp (l := p2.2.2) (f := (V.int .u8)) (i := p2.2.1) omQ d
  refine spQA (And.intro ha1 he5) ?_
  refine bindC_intro omQ ?_
  refine spQA (And.intro ha1 he5) ?_
  refine bindC_intro omQ ?_
  refine spQA (And.intro ha1 he5) ?_
  have ha6 : subI .i64 p2.2.1 1 = (p2.2.1 - 1) := sub_ok omQ omQ
  try simp only [ha6]
  refine lp_intro (n2 - 1) _ (by omega) sbQ sbQ ⟨((quoI .u64 p2.1 256), (p2.2.1 - 1), (st p2.2.2 p2.2.1 (convI .u8 (remI .u64 p2.1 256)))), rfl, ⟨omQ, omQ, omQ⟩, omQ, iter_again hM hag2⟩
 ·rw [if_neg (ne_true h3)] at hM
  refine spQA (And.intro ha1 h3) ?_
  have nh3 := nzQ h3
  try have hr7 := mpQ nh3
  subst hM
  exact retC_view (lfQA (And.intro ha1 h3))
set_option maxHeartbeats 2000000 in
set_option maxRecDepth 100000 in
theorem specieref07_Encode_ok (N : Nat) (ih : ∀  (i_ : S_api_Item), (hgt i_ ≤ 50000000) → hgt i_ < N → CallOk En 45 [.agg [.int .i64 i_.Kind, .int .i64 i_.N, .sl none 1 false (i_.B.map (V.int .u8)), .sl none 4 true (i_.L.map e_api_Item)]] (.sl none 1 false ((encI i_).map (V.int .u8))) [])  (i_ : S_api_Item) (hp0 : hgt i_ ≤ 50000000) (hp_ : hgt i_ < N + 1) : CallOk En 45 [.agg [.int .i64 i_.Kind, .int .i64 i_.N, .sl none 1 false (i_.B.map (V.int .u8)), .sl none 4 true (i_.L.map e_api_Item)]] (.sl none 1 false ((specieref07_Encode i_).map (V.int .u8))) [] := by
 generalize hM : specieref07_Encode i_ = r
 rw [specieref07_Encode.eq_1] at hM
 refine enterV En_ok En_mo noJ Try.func45 rfl Try.ntmps45 (by kernel_rfl) fun hw => ct_start ?_
 refine spQ ?_
 replace hw := nzQ hw
 refine condC_intro (fun h1 => ?_) (fun h1 => ?_)
 ·rw [if_pos h1] at hM
  refine spQA h1 ?_
  have nh1 := nzQ h1
  try have hr2 := mpQ nh1
  have hM0 := hM; clear hM; obtain ⟨x3, hx4, hM⟩ := letk_opn hM0; clear hM0
  have hcx3 := cmH hx4 (specieref07_number_ok  (convI .u64 i_.N) 8 (by (simp only [decide_eq_true_eq, decide_eq_false_iff_not, Bool.and_eq_true, Bool.or_eq_true, Bool.not_eq_true', Bool.not_eq_false', beq_iff_eq, bne_iff_ne, beq_eq_false_iff_ne, bne_eq_false_iff_eq, ne_eq, Int.not_lt, Int.not_le, gt_iff_lt, ge_iff_le, List.length_map, wfL, wfV, and_true, true_and, LEN_eq, rng_i64, rng_u64, rng_u32, rng_i32, sl_len, st_len, List.length_append, List.length_cons, List.length_nil, List.length_replicate, rep_len, rowV_len, spl_len, cutN_len, arrN_len, nat8_len, remI_nn] at *; omega)) (by (simp only [decide_eq_true_eq, decide_eq_false_iff_not, Bool.and_eq_true, Bool.or_eq_true, Bool.not_eq_true', Bool.not_eq_false', beq_iff_eq, bne_iff_ne, beq_eq_false_iff_ne, bne_eq_false_iff_eq, ne_eq, Int.not_lt, Int.not_le, gt_iff_lt, ge_iff_le, List.length_map, wfL, wfV, and_true, true_and, LEN_eq, rng_i64, rng_u64, rng_u32, rng_i32, sl_len, st_len, List.length_append, List.length_cons, List.length_nil, List.length_replicate, rep_len, rowV_len, spl_len, cutN_len, arrN_len, nat8_len, remI_nn] at *; omega)))
  refine callC_give hcx3 clQ clQ (fun hw5 => ?_)
  replace hw5 := nzQ hw5
  refine spQ ?_
  have hq6 := rnl hx4 (by decide)
  replace hq6 := nzQ hq6
  refine bindC_intro (by (first | exact omQ | (clear hM; first | (have h9 := hgt_eq i_; exact omQ')))) ?_
  refine spQ ?_
  subst hM
  exact retC_view (lfQA h1)
 ·rw [if_neg (ne_true h1)] at hM
  refine spQA h1 ?_
  have nh1 := nzQ h1
  try have hr7 := mpQ nh1
  refine condC_intro (fun h8 => ?_) (fun h8 => ?_)
  ·rw [if_pos h8] at hM
   refine spQA h8 ?_
   have nh8 := nzQ h8
   try have hr9 := mpQ nh8
   refine ct_draw 50 9 [17, 18, 19, 20, 21, 22, 23, 24, 25] [] ([[], [], [1], [1, 2], [1, 2, 3], [1, 2, 3, 4], [0, 1, 2, 3, 4, 5], [], [7]] ++ [List.range 9, List.range 10]) [(6, 1)] (by kernel_rfl) (by exact alQ) ?_
   refine spQ ?_
   have hM0 := hM; clear hM; obtain ⟨x10, hx11, hM⟩ := letk_opn hM0; clear hM0
   have hcx10 := cmH hx11 (specieref07_number_ok  (convI .u64 (i_.B.length : Int)) 4 (by (simp only [decide_eq_true_eq, decide_eq_false_iff_not, Bool.and_eq_true, Bool.or_eq_true, Bool.not_eq_true', Bool.not_eq_false', beq_iff_eq, bne_iff_ne, beq_eq_false_iff_ne, bne_eq_false_iff_eq, ne_eq, Int.not_lt, Int.not_le, gt_iff_lt, ge_iff_le, List.length_map, wfL, wfV, and_true, true_and, LEN_eq, rng_i64, rng_u64, rng_u32, rng_i32, sl_len, st_len, List.length_append, List.length_cons, List.length_nil, List.length_replicate, rep_len, rowV_len, spl_len, cutN_len, arrN_len, nat8_len, remI_nn] at *; omega)) (by (simp only [decide_eq_true_eq, decide_eq_false_iff_not, Bool.and_eq_true, Bool.or_eq_true, Bool.not_eq_true', Bool.not_eq_false', beq_iff_eq, bne_iff_ne, beq_eq_false_iff_ne, bne_eq_false_iff_eq, ne_eq, Int.not_lt, Int.not_le, gt_iff_lt, ge_iff_le, List.length_map, wfL, wfV, and_true, true_and, LEN_eq, rng_i64, rng_u64, rng_u32, rng_i32, sl_len, st_len, List.length_append, List.length_cons, List.length_nil, List.length_replicate, rep_len, rowV_len, spl_len, cutN_len, arrN_len, nat8_len, remI_nn] at *; omega)))
   refine hcallC_give hcx10 clQ clQ ?_
   refine spQ ?_
   have hq12 := rnl hx11 (by decide)
   replace hq12 := nzQ hq12
   refine hbindC_introA (by (first | exact omQ | (clear hM; first | (have h9 := hgt_eq i_; exact omQ')))) clQ ?_
   refine spQ ?_
   refine bindC_intro (by (first | exact omQ | (clear hM; first | (have h9 := hgt_eq i_; exact omQ')))) ?_
   refine spQ ?_
   subst hM
   exact retC_view (lfQA (And.intro h1 h8))
  ·rw [if_neg (ne_true h8)] at hM
   refine spQA h8 ?_
   have nh8 := nzQ h8
   try have hr13 := mpQ nh8
   have hM0 := hM; clear hM; obtain ⟨x14, hx15, hM⟩ := letk_opn hM0; clear hM0
   have hcx14 := cmH hx15 (specieref07_number_ok  (convI .u64 (i_.L.length : Int)) 4 (by (simp only [decide_eq_true_eq, decide_eq_false_iff_not, Bool.and_eq_true, Bool.or_eq_true, Bool.not_eq_true', Bool.not_eq_false', beq_iff_eq, bne_iff_ne, beq_eq_false_iff_ne, bne_eq_false_iff_eq, ne_eq, Int.not_lt, Int.not_le, gt_iff_lt, ge_iff_le, List.length_map, wfL, wfV, and_true, true_and, LEN_eq, rng_i64, rng_u64, rng_u32, rng_i32, sl_len, st_len, List.length_append, List.length_cons, List.length_nil, List.length_replicate, rep_len, rowV_len, spl_len, cutN_len, arrN_len, nat8_len, remI_nn] at *; omega)) (by (simp only [decide_eq_true_eq, decide_eq_false_iff_not, Bool.and_eq_true, Bool.or_eq_true, Bool.not_eq_true', Bool.not_eq_false', beq_iff_eq, bne_iff_ne, beq_eq_false_iff_ne, bne_eq_false_iff_eq, ne_eq, Int.not_lt, Int.not_le, gt_iff_lt, ge_iff_le, List.length_map, wfL, wfV, and_true, true_and, LEN_eq, rng_i64, rng_u64, rng_u32, rng_i32, sl_len, st_len, List.length_append, List.length_cons, List.length_nil, List.length_replicate, rep_len, rowV_len, spl_len, cutN_len, arrN_len, nat8_len, remI_nn] at *; omega)))
   refine callC_give hcx14 clQ clQ (fun hw16 => ?_)
   replace hw16 := nzQ hw16
   refine spQ ?_
   have hq17 := rnl hx15 (by decide)
   replace hq17 := nzQ hq17
   refine bindC_intro (by (first | exact omQ | (clear hM; first | (have h9 := hgt_eq i_; exact omQ')))) ?_
   refine spQ ?_
   have hM0 := hM; clear hM; obtain ⟨f18, d18, hf18, hd18, hM⟩ := iter_opn hM0; clear hM0
   refine ct_loop (fun n S => ∃ p : Int × List Int, S = (⟨[(1, .ptr 0 0), (3, .own 1), (4, .int .i64 p.1)], [(0, .var 4 true (.agg [.int .i64 i_.Kind, .int .i64 i_.N, .sl none 1 false (i_.B.map (V.int .u8)), .sl none 4 true (i_.L.map e_api_Item)])), (1, .own 5 1 false none (p.2.map (V.int .u8)))], 2⟩ : St) ∧ (((0 ≤ p.1) ∧ (p.1 ≤ (i_.L.length : Int))) ∧ (((p.2).length : Int) + 9 * (hgtL (i_.L.drop (p.1).toNat) : Int) ≤ 9 * (hgt i_ : Int))) ∧ ((i_.L.length : Int) - p.1).toNat < n ∧ iter n f18 d18 p = r) (((i_.L.length : Int) - 0).toNat + 1) _ sbQ sbQ ⟨(0, (([3] : List Int) ++ x14)), rfl, ⟨⟨by (first | exact omQ | (clear hM; first | (have h9 := hgt_eq i_; exact omQ') | (have h9 := hgt_L (i := i_) (gt_mem (l := i_.L) (i := p18.1) (by omega)); exact omQ'))), by (first | exact omQ | (clear hM; first | (have h9 := hgt_eq i_; exact omQ') | (have h9 := hgt_L (i := i_) (gt_mem (l := i_.L) (i := p18.1) (by omega)); exact omQ')))⟩, by (have h9 := hgt_eq i_; simp only [Int.toNat_zero, List.drop_zero, List.length_append, List.length_cons, List.length_nil]; omega)⟩, (Nat.lt_succ_self _), hM⟩ ?_
   clear hM
   rintro n18 S ⟨p18, rfl, ⟨hfa18, hF8_0⟩, hm18, hM⟩
   have hM0 := hM; clear hM; obtain ⟨ag18, hag18, hM⟩ := iter_step hM0 (by omega) hf18; clear hM0
   replace hfa18 := nzQ hfa18
   replace hm18 := nzQ hm18
   have ha18 : addI .i64 p18.1 1 = p18.1 + 1 := add_one (by (first | exact omQ | (clear hM; first | (have h9 := hgt_eq i_; exact omQ') | (have h9 := hgt_L (i := i_) (gt_mem (l := i_.L) (i := p18.1) (by omega)); exact omQ')))) (by (first | exact omQ | (clear hM; first | (have h9 := hgt_eq i_; exact omQ') | (have h9 := hgt_L (i := i_) (gt_mem (l := i_.L) (i := p18.1) (by omega)); exact omQ'))))
   refine spQA ha18 ?_
   refine condC_intro (fun h19 => ?_) (fun h19 => ?_)
   ·rw [if_pos h19] at hM
    refine spQA (And.intro ha18 h19) ?_
    have nh19 := nzQ h19
    try have hr20 := mpQ nh19
    refine bindC_intro (by (first | exact omQ | (clear hM; first | (have h9 := hgt_eq i_; exact omQ') | (have h9 := hgt_L (i := i_) (gt_mem (l := i_.L) (i := p18.1) (by omega)); exact omQ')))) ?_
    have he21 := fun d => elt_mp (l := i_.L) (f := e_api_Item) (i := p18.1) (by (first | exact omQ | (clear hM; first | (have h9 := hgt_eq i_; exact omQ') | (have h9 := hgt_L (i := i_) (gt_mem (l := i_.L) (i := p18.1) (by omega)); exact omQ')))) d
    refine spQA (And.intro ha18 he21) ?_
    have hM0 := hM; clear hM; obtain ⟨x22, hx23, hM⟩ := letk_opn hM0; clear hM0
    have hcx22 := ih  (gt i_.L p18.1) (by (have h9 := hgt_L (i := i_) (gt_mem (l := i_.L) (i := p18.1) (by omega)); omega)) (by (have h9 := hgt_L (i := i_) (gt_mem (l := i_.L) (i := p18.1) (by omega)); omega))
    rw [← hx23] at hcx22
    refine callC_give hcx22 (clQA (And.intro ha18 he21)) (clQA (And.intro ha18 he21)) (fun hw24 => ?_)
    replace hw24 := nzQ hw24
    refine spQA (And.intro ha18 he21) ?_
    have hq25 := enc_after hx23
    replace hq25 := nzQ hq25
    refine bindC_intro (by (first | exact omQ | (clear hM; first | (have h9 := hgt_eq i_; exact omQ') | (have h9 := hgt_L (i := i_) (gt_mem (l := i_.L) (i := p18.1) (by omega)); exact omQ')))) ?_
    refine spQA (And.intro ha18 he21) ?_
    refine lp_intro (n18 - 1) _ (by omega) sbQ sbQ ⟨((p18.1 + 1), (p18.2 ++ x22)), rfl, ⟨⟨by (first | exact omQ | (clear hM; first | (have h9 := hgt_eq i_; exact omQ') | (have h9 := hgt_L (i := i_) (gt_mem (l := i_.L) (i := (p18.1 + 1)) (by omega)); exact omQ'))), by (first | exact omQ | (clear hM; first | (have h9 := hgt_eq i_; exact omQ') | (have h9 := hgt_L (i := i_) (gt_mem (l := i_.L) (i := (p18.1 + 1)) (by omega)); exact omQ')))⟩, by (have h9 := hgtL_drop (l := i_.L) (i := p18.1) (by omega); rw [show (((p18.1 + 1)) : Int).toNat = (p18.1).toNat + 1 by omega]; simp only [List.length_append]; omega)⟩, by (first | exact omQ | (clear hM; first | (have h9 := hgt_eq i_; exact omQ') | (have h9 := hgt_L (i := i_) (gt_mem (l := i_.L) (i := (p18.1 + 1)) (by omega)); exact omQ'))), iter_again hM hag18⟩
   ·rw [if_neg (ne_true h19)] at hM
    refine spQA (And.intro ha18 h19) ?_
    have nh19 := nzQ h19
    try have hr26 := mpQ nh19
    subst hM
    exact retC_view (lfQA (And.intro ha18 (And.intro h1 (And.intro h8 h19))))
theorem encI_okN : ∀ (N : Nat)  (i_ : S_api_Item), (hgt i_ ≤ 50000000) → hgt i_ < N → CallOk En 45 [.agg [.int .i64 i_.Kind, .int .i64 i_.N, .sl none 1 false (i_.B.map (V.int .u8)), .sl none 4 true (i_.L.map e_api_Item)]] (.sl none 1 false ((encI i_).map (V.int .u8))) [] := by
 intro N
 induction N with
 | zero => intro i_ h0 h; exact absurd h (Nat.not_lt_zero _)
 | succ N ih =>
  intro i_ h0 h
  have h9 := specieref07_Encode_ok N ih i_ h0 h
  rw [specieref07_Encode_eqM] at h9
  exact h9
theorem encI_ok  (i_ : S_api_Item) (hp0 : hgt i_ ≤ 50000000) : CallOk En 45 [.agg [.int .i64 i_.Kind, .int .i64 i_.N, .sl none 1 false (i_.B.map (V.int .u8)), .sl none 4 true (i_.L.map e_api_Item)]] (.sl none 1 false ((encI i_).map (V.int .u8))) [] :=
 encI_okN (hgt i_ + 1) i_ hp0 (Nat.lt_succ_self _)
set_option maxHeartbeats 2000000 in
set_option maxRecDepth 100000 in
theorem specieref38_Encode_ok   (p_ : S_api_Payment) (hp0 : (∀ x ∈ p_.Spends, okSp x) ∧ (∀ x ∈ p_.Chains, okSp x.First ∧ ∀ y ∈ x.L, okSp y)) (hp1 : hgt (specieref38_Item p_) ≤ 50000000) : CM En (specieref38_Encode p_) 11 [.agg [.int .i64 p_.Number, .sl none 80 true (p_.Spends.map e_api_Spend), .sl none 81 true (p_.Chains.map e_api_Chain), .sl none 5 true (p_.Escrow.map e_api_Escrow)]] (fun y => .tup [.sl none 1 false (y.1.map (V.int .u8)), .bool y.2]) (fun _ => []) := by
 refine cmQ fun r hM => ?_
 rw [specieref38_Encode.eq_1] at hM
 refine enterV En_ok En_mo noJ Try.func11 rfl Try.ntmps11 (by kernel_rfl) fun hw => ct_start ?_
 refine spQ ?_
 replace hw := nzQ hw
 have hM0 := hM; clear hM; obtain ⟨x1, hx2, hM⟩ := letk_opn hM0; clear hM0
 have hcx1 := cmH hx2 (specieref38_Item_ok  p_ (by (first | exact hp0.1 | exact hp0.2)) (by (first | exact hp0.1 | exact hp0.2)))
 refine callC_give hcx1 clQ clQ (fun hw3 => ?_)
 replace hw3 := nzQ hw3
 refine spQ ?_
 have hM0 := hM; clear hM; obtain ⟨x4, hx5, hM⟩ := letk_opn hM0; clear hM0
 have hcx4 := cmU hx5
 refine callC_give hcx4 clQ clQ (fun hw6 => ?_)
 replace hw6 := nzQ hw6
 refine spQ ?_
 refine condC_intro (fun h7 => ?_) (fun h7 => ?_)
 ·rw [if_pos h7] at hM
  refine spQA h7 ?_
  have nh7 := nzQ h7
  try have hr8 := mpQ nh7
  subst hM
  exact retC_view (lfQA h7)
 ·rw [if_neg (ne_true h7)] at hM
  refine spQA h7 ?_
  have nh7 := nzQ h7
  try have hr9 := mpQ nh7
  have hM0 := hM; clear hM; obtain ⟨x10, hx11, hM⟩ := letk_opn hM0; clear hM0
  have hcx10 := encI_ok  x1 (by (subst_vars; exact hp1))
  rw [← hx11] at hcx10
  refine callC_give hcx10 clQ clQ (fun hw12 => ?_)
  replace hw12 := nzQ hw12
  refine spQ ?_
  subst hM
  exact retC_view (lfQA h7)
set_option maxHeartbeats 2000000 in
set_option maxRecDepth 100000 in
instance specieref07_value_ok   (b : (List Int))  : CM En (specieref07_value b) 97 [.sl none 1 false (b.map (V.int .u8))] (fun y => .int .u64 y) (fun _ => []) := by
 refine cmQ fun r hM => ?_
 rw [specieref07_value.eq_1] at hM
 refine enterV En_ok En_mo noJ Try.func97 rfl Try.ntmps97 (by kernel_rfl) fun hw => ct_start ?_
 refine spQ ?_
 replace hw := nzQ hw
 have hM0 := hM; clear hM; obtain ⟨f1, d1, hf1, hd1, hM⟩ := iter_opn hM0; clear hM0
 refine ct_loop (fun n S => ∃ p : Int × Int, S = (⟨[(0, .sl none 1 false (b.map (V.int .u8))), (3, .int .u64 p.1), (4, .int .i64 p.2)], [], 0⟩ : St) ∧ ((0 ≤ p.2) ∧ (p.2 ≤ (b.length : Int))) ∧ ((b.length : Int) - p.2).toNat < n ∧ iter n f1 d1 p = r) (((b.length : Int) - 0).toNat + 1) _ sbQ sbQ ⟨(0, 0), rfl, ⟨omQ, omQ⟩, (Nat.lt_succ_self _), hM⟩ ?_
 clear hM
 rintro n1 S ⟨p1, rfl, hfa1, hm1, hM⟩
 have hM0 := hM; clear hM; obtain ⟨ag1, hag1, hM⟩ := iter_step hM0 (by omega) hf1; clear hM0
 replace hfa1 := nzQ hfa1
 replace hm1 := nzQ hm1
 have ha1 : addI .i64 p1.2 1 = p1.2 + 1 := add_one omQ omQ
 refine spQA ha1 ?_
 have hF := ha1
 exact auQ
instance (priority := 1015) : DRD 16 119 11 [78, 79, 80, 81, 82, 83, 84, 85, 86, 87] [] ([[], [], [], [], [2, 3], [1, 2, 3, 4], [0, 1, 2, 3, 4, 5], [], [], [7, 8], [0, 1, 2, 3, 4, 5, 6]] ++ [List.range 11, List.range 12]) [(5, 2), (10, 0)] := ⟨trivial⟩
set_option maxHeartbeats 2000000 in
set_option maxRecDepth 100000 in
theorem specieref07_read_ok (N : Nat) (ih : ∀ (z0 : Option Bool) (b : (List Int)) (within : Int), (0 ≤ within) → (within ≤ 8) → (isB b) → (8 - within).toNat < N → CallOk En 77 [.sl z0 1 false (b.map (V.int .u8)), .int .i64 within] (.tup [.agg [.int .i64 (rreadM b within).1.Kind, .int .i64 (rreadM b within).1.N, .sl none 1 false ((rreadM b within).1.B.map (V.int .u8)), .sl none 4 true ((rreadM b within).1.L.map e_api_Item)], .sl none 1 false ((rreadM b within).2.1.map (V.int .u8)), .int .i64 (rreadM b within).2.2]) []) (z0 : Option Bool) (b : (List Int)) (within : Int) (hp0 : 0 ≤ within) (hp1 : within ≤ 8) (hp2 : isB b) (hp_ : (8 - within).toNat < N + 1) : CallOk En 77 [.sl z0 1 false (b.map (V.int .u8)), .int .i64 within] (.tup [.agg [.int .i64 (specieref07_read b within).1.Kind, .int .i64 (specieref07_read b within).1.N, .sl none 1 false ((specieref07_read b within).1.B.map (V.int .u8)), .sl none 4 true ((specieref07_read b within).1.L.map e_api_Item)], .sl none 1 false ((specieref07_read b within).2.1.map (V.int .u8)), .int .i64 (specieref07_read b within).2.2]) [] := by
 generalize hM : specieref07_read b within = r
 rw [specieref07_read.eq_1] at hM
 refine enterV En_ok En_mo [11] Try.func77 rfl Try.ntmps77 (by kernel_rfl) fun hw => ct_start ?_
 refine spQ ?_
 replace hw := nzQ hw
 refine condC_intro (fun h1 => ?_) (fun h1 => ?_)
 ·rw [if_pos h1] at hM
  refine spQA h1 ?_
  have nh1 := nzQ h1
  try have hr2 := mpQ nh1
  subst hM
  exact retC_view (lfQA h1)
 ·rw [if_neg (ne_true h1)] at hM
  refine spQA h1 ?_
  have nh1 := nzQ h1
  try have hr3 := mpQ nh1
  refine bindC_intro omQ ?_
  have he4 : ∀ d, elt (b.map (V.int .u8)) 0 d = (V.int .u8) (gt b 0) := fun d => elt_mp (l := b) (f := (V.int .u8)) (i := 0) omQ d
  refine spQA he4 ?_
  refine bindC_intro omQ ?_
  refine spQA he4 ?_
  have hM0 := hM; clear hM; obtain ⟨j5, hj5, hM⟩ := letj_opn hM0; clear hM0
  refine seqC_intro (fun S => ∃ p : Unit, S = (⟨[(0, .sl none 1 false ((sl b 1 (b.length : Int)).map (V.int .u8))), (1, .int .i64 within), (4, .ptr 0 0), (7, .int .i64 (convI .i64 (gt b 0)))], [(0, .var 4 true (.agg [.int .i64 0, .int .i64 0, .sl (some true) 1 false [], .sl (some true) 4 true []]))], 1⟩ : St) ∧ ((2 ≤ (convI .i64 (gt b 0))) ∧ ((convI .i64 (gt b 0)) ≤ 3) ∧ ((convI .i64 (gt b 0)) ≠ 3 ∨ within ≠ 8) ∧ (4 ≤ (((sl b 1 (b.length : Int))).length : Int))) ∧ j5 p = r) ?_ (fun hcut5 => ?_)
  ·clear hM
   rintro S ⟨p5, rfl, hfa5, hM⟩
   replace hfa5 := nzQ hfa5
   have hM0 := hM; clear hM; have hM := letj_use hM0 hj5; clear hM0
   refine spQA he4 ?_
   refine bindC_intro omQ ?_
   refine spQA he4 ?_
   have hM0 := hM; clear hM; obtain ⟨x6, hx7, hM⟩ := letk_opn hM0; clear hM0
   have hcx6 := cmU hx7
   refine callC_give hcx6 (clQA he4) (clQA he4) (fun hw8 => ?_)
   replace hw8 := nzQ hw8
   refine spQA he4 ?_
   have hq9 := value_fact hx7 (isB_sl (isB_sl hp2))
   replace hq9 := nzQ hq9
   refine bindC_intro omQ ?_
   refine spQA he4 ?_
   refine condC_intro (fun h10 => ?_) (fun h10 => ?_)
   ·rw [if_pos h10] at hM
    refine spQA (And.intro he4 h10) ?_
    have nh10 := nzQ h10
    try have hr11 := mpQ nh10
    have hF := (And.intro h1 (And.intro he4 h10))
    exact auQ
   ·rw [if_neg (ne_true h10)] at hM
    refine spQA (And.intro he4 h10) ?_
    have nh10 := nzQ h10
    try have hr15 := mpQ nh10
    refine condC_intro (fun h16 => ?_) (fun h16 => ?_)
    ·rw [if_pos h16] at hM
     refine spQA (And.intro he4 h16) ?_
     have nh16 := nzQ h16
     try have hr17 := mpQ nh16
     subst hM
     exact retC_view (lfQA (And.intro he4 (And.intro h1 (And.intro h10 h16))))
    ·rw [if_neg (ne_true h16)] at hM
     refine spQA (And.intro he4 h16) ?_
     have nh16 := nzQ h16
     try have hr18 := mpQ nh16
     have hM0 := hM; clear hM; obtain ⟨f19, d19, hf19, hd19, hM⟩ := iter_opn hM0; clear hM0
     refine ct_loopW (fun n S => ∃ p : List Int × Int × S_api_Item × List S_api_Item, S = (⟨[(0, .sl none 1 false (p.1.map (V.int .u8))), (1, .int .i64 within), (4, .ptr 0 0), (8, .int .i64 (convI .i64 x6)), (9, .ptr 1 0), (10, .int .i64 p.2.1)], [(0, .var 4 true (.agg [.int .i64 p.2.2.1.Kind, .int .i64 p.2.2.1.N, .sl none 1 false (p.2.2.1.B.map (V.int .u8)), .sl none 4 true (p.2.2.1.L.map e_api_Item)])), (1, .var 4 true (.agg [.int .i64 (convI .i64 (gt b 0)), .int .i64 0, .sl (some true) 1 false [], .own 2])), (2, .own 86 4 true none (p.2.2.2.map e_api_Item))], 3⟩ : St) ∧ (((0 ≤ p.2.1) ∧ (p.2.1 ≤ (convI .i64 x6)) ∧ (((p.2.2.2).length : Int) ≤ p.2.1)) ∧ (isB (p.1))) ∧ ((convI .i64 x6) - p.2.1).toNat < n ∧ iter n f19 d19 p = r) (((convI .i64 x6) - 0).toNat + 1) _ _ (weak_nilV 1 3 86 rfl rfl (by decide)) sbQ (by simp only [go_sem, rowV_eq, rowV_eq0, List.length_replicate, rep_len, Int.toNat_natCast, ↓reduceIte, Nat.reduceEqDiff, Nat.reduceAdd, Int.reduceAdd, Nat.reduceMul, Nat.reduceLeDiff, Nat.reduceLT, Int.reduceLE, Int.reduceLT, Int.reduceNeg, Int.reduceToNat, map_st, mtL_repE, mtL_repM, subF, subH, mtO, mtB, mt, mtL, mtL_self, mt_self, ltV, ltL, ltB, eq_self, or_true, true_or, or_self, and_self, gt_cons0, gt_conss, Int.reduceSub]) ⟨((sl (sl b 1 (b.length : Int)) 4 ((sl b 1 (b.length : Int)).length : Int)), 0, z_api_Item, ([] : List S_api_Item)), rfl, ⟨⟨omQ, omQ, omQ⟩, by (exact isB_sl (isB_sl hp2))⟩, (Nat.lt_succ_self _), hM⟩ ?_
     clear hM
     rintro n19 S ⟨p19, rfl, ⟨hfa19, hF21_0⟩, hm19, hM⟩
     have hM0 := hM; clear hM; obtain ⟨ag19, hag19, hM⟩ := iter_step hM0 (by omega) hf19; clear hM0
     replace hfa19 := nzQ hfa19
     replace hm19 := nzQ hm19
     have ha19 : addI .i64 p19.2.1 1 = p19.2.1 + 1 := add_one omQ omQ
     refine spQA (And.intro he4 ha19) ?_
     refine condC_intro (fun h20 => ?_) (fun h20 => ?_)
     ·rw [if_pos h20] at hM
      refine spQA (And.intro he4 (And.intro ha19 h20)) ?_
      have nh20 := nzQ h20
      try have hr21 := mpQ nh20
      have ha22 : addI .i64 within 1 = (within + 1) := add_ok omQ omQ
      try simp only [ha22]
      have hM0 := hM; clear hM; obtain ⟨x23, hx24, hM⟩ := letk_opn hM0; clear hM0
      have hcx23 := ih none (p19.1) (within + 1) (by (first | assumption | omega)) (by (first | assumption | omega)) (by (first | assumption | omega)) (by omega)
      rw [← hx24] at hcx23
      refine callC_give hcx23 (clQA (And.intro he4 (And.intro ha19 ha22))) (clQA (And.intro he4 (And.intro ha19 ha22))) (fun hw25 => ?_)
      replace hw25 := nzQ hw25
      refine spQA (And.intro he4 (And.intro ha19 ha22)) ?_
      have hq26 := rread_isB hx24 (by assumption)
      replace hq26 := nzQ hq26
      refine condC_intro (fun h27 => ?_) (fun h27 => ?_)
      ·rw [if_pos h27] at hM
       refine spQA (And.intro he4 (And.intro ha19 (And.intro ha22 h27))) ?_
       have nh27 := nzQ h27
       try have hr28 := mpQ nh27
       subst hM
       exact retC_view (lfQA (And.intro he4 (And.intro ha19 (And.intro ha22 (And.intro h1 (And.intro h10 (And.intro h16 (And.intro h20 h27))))))))
      ·rw [if_neg (ne_true h27)] at hM
       refine spQA (And.intro he4 (And.intro ha19 (And.intro ha22 h27))) ?_
       have nh27 := nzQ h27
       try have hr29 := mpQ nh27
       refine bindC_intro omQ ?_
       refine spQA (And.intro he4 (And.intro ha19 ha22)) ?_
       refine lp_intro (n19 - 1) _ (by omega) sbQ sbQ ⟨(x23.2.1, (p19.2.1 + 1), p19.2.2.1, (p19.2.2.2 ++ ([x23.1] : List S_api_Item))), rfl, ⟨⟨omQ, omQ, omQ⟩, by assumption⟩, omQ, iter_again hM hag19⟩
     ·rw [if_neg (ne_true h20)] at hM
      refine spQA (And.intro he4 (And.intro ha19 h20)) ?_
      have nh20 := nzQ h20
      try have hr30 := mpQ nh20
      subst hM
      exact retC_view (lfQA (And.intro he4 (And.intro ha19 (And.intro h1 (And.intro h10 (And.intro h16 h20))))))
  ·refine spQA he4 ?_
   refine guardC_f (fun h31 => ?_) (fun h31 => ?_)
   ·rw [if_neg (ne_true h31)] at hM
    refine spQA (And.intro he4 h31) ?_
    have nh31 := nzQ h31
    try have hr32 := mpQ nh31
    refine guardC_f (fun h33 => ?_) (fun h33 => ?_)
    ·rw [if_neg (ne_true h33)] at hM
     refine spQA (And.intro he4 h33) ?_
     have nh33 := nzQ h33
     try have hr34 := mpQ nh33
     refine guardC_t (fun h35 => ?_) (fun h35 => ?_)
     ·rw [if_pos h35] at hM
      refine spQA (And.intro he4 h35) ?_
      have nh35 := nzQ h35
      try have hr36 := mpQ nh35
      refine condC_intro (fun h37 => ?_) (fun h37 => ?_)
      ·rw [if_pos h37] at hM
       refine spQA (And.intro he4 h37) ?_
       have nh37 := nzQ h37
       try have hr38 := mpQ nh37
       subst hM
       exact retC_view (lfQA (And.intro he4 (And.intro h1 (And.intro h31 (And.intro h33 (And.intro h35 h37))))))
      ·rw [if_neg (ne_true h37)] at hM
       refine spQA (And.intro he4 h37) ?_
       have nh37 := nzQ h37
       try have hr39 := mpQ nh37
       refine guardC_t (fun h40 => ?_) (fun h40 => ?_)
       ·rw [if_pos h40] at hM
        refine spQA (And.intro he4 h40) ?_
        have nh40 := nzQ h40
        try have hr41 := mpQ nh40
        refine guardC_f (fun h42 => ?_) (fun h42 => ?_)
        ·rw [if_neg (ne_true h42)] at hM
         refine spQA (And.intro he4 h42) ?_
         have nh42 := nzQ h42
         try have hr43 := mpQ nh42
         refine condC_intro (fun h44 => ?_) (fun h44 => ?_)
         ·rw [if_pos h44] at hM
          refine spQA (And.intro he4 h44) ?_
          have nh44 := nzQ h44
          try have hr45 := mpQ nh44
          subst hM
          exact retC_view (lfQA (And.intro he4 (And.intro h1 (And.intro h31 (And.intro h33 (And.intro h35 (And.intro h37 (And.intro h40 (And.intro h42 h44)))))))))
         ·rw [if_neg (ne_true h44)] at hM
          refine spQA (And.intro he4 h44) ?_
          have nh44 := nzQ h44
          try have hr46 := mpQ nh44
          refine condC_intro (fun h47 => ?_) (fun h47 => ?_)
          ·rw [if_pos h47] at hM
           refine spQA (And.intro he4 h47) ?_
           have nh47 := nzQ h47
           try have hr48 := mpQ nh47
           refine ct_draw 119 9 [57, 58, 59, 60, 61, 62, 63, 64] [] ([[], [], [1], [1, 2], [1, 2, 3], [0, 1, 2, 3, 4], [], [6], [0, 1, 2, 3, 4, 5]] ++ [List.range 9, List.range 10]) [(8, 0)] (by kernel_rfl) (by exact alQ) ?_
           refine spQA he4 ?_
           refine hbindC_intro omQ ?_
           refine spQA he4 ?_
           have hM0 := hM; clear hM; obtain ⟨x49, hx50, hM⟩ := letk_opn hM0; clear hM0
           have hcx49 := cmU hx50
           refine hcallC_give hcx49 (clQA he4) (clQA he4) ?_
           refine spQA he4 ?_
           have hq51 := value_fact hx50 (isB_sl (isB_sl hp2))
           replace hq51 := nzQ hq51
           have hF := (And.intro h1 (And.intro he4 (And.intro h31 (And.intro h33 (And.intro h35 (And.intro h37 (And.intro h40 (And.intro h42 (And.intro h44 h47)))))))))
           exact auQ
          ·rw [if_neg (ne_true h47)] at hM
           refine spQA (And.intro he4 h47) ?_
           have nh47 := nzQ h47
           try have hr52 := mpQ nh47
           exact cut_intro _ sbQ sbQ (hcut5 _ ⟨(), rfl, ⟨omQ, omQ, omQ, omQ⟩, hM⟩)
        ·rw [if_pos h42] at hM
         refine spQA (And.intro he4 h42) ?_
         have nh42 := nzQ h42
         try have hr53 := mpQ nh42
         subst hM
         exact retC_view (lfQA (And.intro he4 (And.intro h1 (And.intro h31 (And.intro h33 (And.intro h35 (And.intro h37 (And.intro h40 h42))))))))
       ·rw [if_neg (ne_true h40)] at hM
        refine spQA (And.intro he4 h40) ?_
        have nh40 := nzQ h40
        try have hr54 := mpQ nh40
        refine condC_intro (fun h55 => ?_) (fun h55 => ?_)
        ·rw [if_pos h55] at hM
         refine spQA (And.intro he4 h55) ?_
         have nh55 := nzQ h55
         try have hr56 := mpQ nh55
         subst hM
         exact retC_view (lfQA (And.intro he4 (And.intro h1 (And.intro h31 (And.intro h33 (And.intro h35 (And.intro h37 (And.intro h40 h55))))))))
        ·rw [if_neg (ne_true h55)] at hM
         refine spQA (And.intro he4 h55) ?_
         have nh55 := nzQ h55
         try have hr57 := mpQ nh55
         refine condC_intro (fun h58 => ?_) (fun h58 => ?_)
         ·rw [if_pos h58] at hM
          refine spQA (And.intro he4 h58) ?_
          have nh58 := nzQ h58
          try have hr59 := mpQ nh58
          refine ct_draw 119 9 [57, 58, 59, 60, 61, 62, 63, 64] [] ([[], [], [1], [1, 2], [1, 2, 3], [0, 1, 2, 3, 4], [], [6], [0, 1, 2, 3, 4, 5]] ++ [List.range 9, List.range 10]) [(8, 0)] (by kernel_rfl) (by exact alQ) ?_
          refine spQA he4 ?_
          refine hbindC_intro omQ ?_
          refine spQA he4 ?_
          have hM0 := hM; clear hM; obtain ⟨x60, hx61, hM⟩ := letk_opn hM0; clear hM0
          have hcx60 := cmU hx61
          refine hcallC_give hcx60 (clQA he4) (clQA he4) ?_
          refine spQA he4 ?_
          have hq62 := value_fact hx61 (isB_sl (isB_sl hp2))
          replace hq62 := nzQ hq62
          have hF := (And.intro h1 (And.intro he4 (And.intro h31 (And.intro h33 (And.intro h35 (And.intro h37 (And.intro h40 (And.intro h55 h58))))))))
          exact auQ
         ·rw [if_neg (ne_true h58)] at hM
          refine spQA (And.intro he4 h58) ?_
          have nh58 := nzQ h58
          try have hr63 := mpQ nh58
          exact cut_intro _ sbQ sbQ (hcut5 _ ⟨(), rfl, ⟨omQ, omQ, omQ, omQ⟩, hM⟩)
     ·rw [if_neg (ne_true h35)] at hM
      refine spQA (And.intro he4 h35) ?_
      have nh35 := nzQ h35
      try have hr64 := mpQ nh35
      refine guardC_t (fun h65 => ?_) (fun h65 => ?_)
      ·rw [if_pos h65] at hM
       refine spQA (And.intro he4 h65) ?_
       have nh65 := nzQ h65
       try have hr66 := mpQ nh65
       refine guardC_f (fun h67 => ?_) (fun h67 => ?_)
       ·rw [if_neg (ne_true h67)] at hM
        refine spQA (And.intro he4 h67) ?_
        have nh67 := nzQ h67
        try have hr68 := mpQ nh67
        refine condC_intro (fun h69 => ?_) (fun h69 => ?_)
        ·rw [if_pos h69] at hM
         refine spQA (And.intro he4 h69) ?_
         have nh69 := nzQ h69
         try have hr70 := mpQ nh69
         subst hM
         exact retC_view (lfQA (And.intro he4 (And.intro h1 (And.intro h31 (And.intro h33 (And.intro h35 (And.intro h65 (And.intro h67 h69))))))))
        ·rw [if_neg (ne_true h69)] at hM
         refine spQA (And.intro he4 h69) ?_
         have nh69 := nzQ h69
         try have hr71 := mpQ nh69
         refine condC_intro (fun h72 => ?_) (fun h72 => ?_)
         ·rw [if_pos h72] at hM
          refine spQA (And.intro he4 h72) ?_
          have nh72 := nzQ h72
          try have hr73 := mpQ nh72
          refine ct_draw 119 9 [57, 58, 59, 60, 61, 62, 63, 64] [] ([[], [], [1], [1, 2], [1, 2, 3], [0, 1, 2, 3, 4], [], [6], [0, 1, 2, 3, 4, 5]] ++ [List.range 9, List.range 10]) [(8, 0)] (by kernel_rfl) (by exact alQ) ?_
          refine spQA he4 ?_
          refine hbindC_intro omQ ?_
          refine spQA he4 ?_
          have hM0 := hM; clear hM; obtain ⟨x74, hx75, hM⟩ := letk_opn hM0; clear hM0
          have hcx74 := cmU hx75
          refine hcallC_give hcx74 (clQA he4) (clQA he4) ?_
          refine spQA he4 ?_
          have hq76 := value_fact hx75 (isB_sl (isB_sl hp2))
          replace hq76 := nzQ hq76
          have hF := (And.intro h1 (And.intro he4 (And.intro h31 (And.intro h33 (And.intro h35 (And.intro h65 (And.intro h67 (And.intro h69 h72))))))))
          exact auQ
         ·rw [if_neg (ne_true h72)] at hM
          refine spQA (And.intro he4 h72) ?_
          have nh72 := nzQ h72
          try have hr77 := mpQ nh72
          exact cut_intro _ sbQ sbQ (hcut5 _ ⟨(), rfl, ⟨omQ, omQ, omQ, omQ⟩, hM⟩)
       ·rw [if_pos h67] at hM
        refine spQA (And.intro he4 h67) ?_
        have nh67 := nzQ h67
        try have hr78 := mpQ nh67
        subst hM
        exact retC_view (lfQA (And.intro he4 (And.intro h1 (And.intro h31 (And.intro h33 (And.intro h35 (And.intro h65 h67)))))))
      ·rw [if_neg (ne_true h65)] at hM
       refine spQA (And.intro he4 h65) ?_
       have nh65 := nzQ h65
       try have hr79 := mpQ nh65
       refine condC_intro (fun h80 => ?_) (fun h80 => ?_)
       ·rw [if_pos h80] at hM
        refine spQA (And.intro he4 h80) ?_
        have nh80 := nzQ h80
        try have hr81 := mpQ nh80
        subst hM
        exact retC_view (lfQA (And.intro he4 (And.intro h1 (And.intro h31 (And.intro h33 (And.intro h35 (And.intro h65 h80)))))))
       ·rw [if_neg (ne_true h80)] at hM
        refine spQA (And.intro he4 h80) ?_
        have nh80 := nzQ h80
        try have hr82 := mpQ nh80
        refine condC_intro (fun h83 => ?_) (fun h83 => ?_)
        ·rw [if_pos h83] at hM
         refine spQA (And.intro he4 h83) ?_
         have nh83 := nzQ h83
         try have hr84 := mpQ nh83
         refine ct_draw 119 9 [57, 58, 59, 60, 61, 62, 63, 64] [] ([[], [], [1], [1, 2], [1, 2, 3], [0, 1, 2, 3, 4], [], [6], [0, 1, 2, 3, 4, 5]] ++ [List.range 9, List.range 10]) [(8, 0)] (by kernel_rfl) (by exact alQ) ?_
         refine spQA he4 ?_
         refine hbindC_intro omQ ?_
         refine spQA he4 ?_
         have hM0 := hM; clear hM; obtain ⟨x85, hx86, hM⟩ := letk_opn hM0; clear hM0
         have hcx85 := cmU hx86
         refine hcallC_give hcx85 (clQA he4) (clQA he4) ?_
         refine spQA he4 ?_
         have hq87 := value_fact hx86 (isB_sl (isB_sl hp2))
         replace hq87 := nzQ hq87
         have hF := (And.intro h1 (And.intro he4 (And.intro h31 (And.intro h33 (And.intro h35 (And.intro h65 (And.intro h80 h83)))))))
         exact auQ
        ·rw [if_neg (ne_true h83)] at hM
         refine spQA (And.intro he4 h83) ?_
         have nh83 := nzQ h83
         try have hr88 := mpQ nh83
         exact cut_intro _ sbQ sbQ (hcut5 _ ⟨(), rfl, ⟨omQ, omQ, omQ, omQ⟩, hM⟩)
    ·rw [if_pos h33] at hM
     refine spQA (And.intro he4 h33) ?_
     have nh33 := nzQ h33
     try have hr89 := mpQ nh33
     subst hM
     exact retC_view (lfQA (And.intro he4 (And.intro h1 (And.intro h31 h33))))
   ·rw [if_pos h31] at hM
    refine spQA (And.intro he4 h31) ?_
    have nh31 := nzQ h31
    try have hr90 := mpQ nh31
    subst hM
    exact retC_view (lfQA (And.intro he4 (And.intro h1 h31)))
theorem rreadM_okN : ∀ (N : Nat) (z0 : Option Bool) (b : (List Int)) (within : Int), (0 ≤ within) → (within ≤ 8) → (isB b) → (8 - within).toNat < N → CallOk En 77 [.sl z0 1 false (b.map (V.int .u8)), .int .i64 within] (.tup [.agg [.int .i64 (rreadM b within).1.Kind, .int .i64 (rreadM b within).1.N, .sl none 1 false ((rreadM b within).1.B.map (V.int .u8)), .sl none 4 true ((rreadM b within).1.L.map e_api_Item)], .sl none 1 false ((rreadM b within).2.1.map (V.int .u8)), .int .i64 (rreadM b within).2.2]) [] := by
 intro N
 induction N with
 | zero => intro z0 b within h0 h1 h2 h; exact absurd h (Nat.not_lt_zero _)
 | succ N ih =>
  intro z0 b within h0 h1 h2 h
  have h9 := specieref07_read_ok N ih z0 b within h0 h1 h2 h
  rw [specieref07_read_eqM h0 h1 h2] at h9
  exact h9
theorem rreadM_ok (z0 : Option Bool) (b : (List Int)) (within : Int) (hp0 : 0 ≤ within) (hp1 : within ≤ 8) (hp2 : isB b) : CallOk En 77 [.sl z0 1 false (b.map (V.int .u8)), .int .i64 within] (.tup [.agg [.int .i64 (rreadM b within).1.Kind, .int .i64 (rreadM b within).1.N, .sl none 1 false ((rreadM b within).1.B.map (V.int .u8)), .sl none 4 true ((rreadM b within).1.L.map e_api_Item)], .sl none 1 false ((rreadM b within).2.1.map (V.int .u8)), .int .i64 (rreadM b within).2.2]) [] :=
 rreadM_okN ((8 - within).toNat + 1) z0 b within hp0 hp1 hp2 (Nat.lt_succ_self _)
set_option maxHeartbeats 2000000 in
set_option maxRecDepth 100000 in
instance specieref07_Decode_ok   (b : (List Int))  : CM En (specieref07_Decode b) 46 [.sl none 1 false (b.map (V.int .u8))] (fun y => .tup [.agg [.int .i64 y.1.Kind, .int .i64 y.1.N, .sl none 1 false (y.1.B.map (V.int .u8)), .sl none 4 true (y.1.L.map e_api_Item)], .int .i64 y.2]) (fun _ => []) := by
 refine cmQ fun r hM => ?_
 rw [specieref07_Decode.eq_1] at hM
 refine enterV En_ok En_mo noJ Try.func46 rfl Try.ntmps46 (by kernel_rfl) fun hw => ct_start ?_
 refine spQ ?_
 replace hw := nzQ hw
 refine condC_intro (fun h1 => ?_) (fun h1 => ?_)
 ·rw [if_pos h1] at hM
  refine spQA h1 ?_
  have nh1 := nzQ h1
  try have hr2 := mpQ nh1
  subst hM
  exact retC_view (lfQA h1)
 ·rw [if_neg (ne_true h1)] at hM
  refine spQA h1 ?_
  have nh1 := nzQ h1
  try have hr3 := mpQ nh1
  have hM0 := hM; clear hM; obtain ⟨x4, hx5, hM⟩ := letk_opn hM0; clear hM0
  have hcx4 := rreadM_ok none b 0 (by (first | decide | omega | exact isB_wf hw.2)) (by (first | decide | omega | exact isB_wf hw.2)) (by (first | decide | omega | exact isB_wf hw.2))
  rw [← hx5] at hcx4
  refine callC_give hcx4 clQ clQ (fun hw6 => ?_)
  replace hw6 := nzQ hw6
  refine spQ ?_
  have hF := h1
  exact auQ
set_option maxHeartbeats 2000000 in
set_option maxRecDepth 100000 in
instance specieref31_Numbers_ok   (i_ : S_api_Item) (n_ : Int)  : CM En (specieref31_Numbers i_ n_) 79 [.agg [.int .i64 i_.Kind, .int .i64 i_.N, .sl none 1 false (i_.B.map (V.int .u8)), .sl none 4 true (i_.L.map e_api_Item)], .int .i64 n_] (fun y => .tup [.sl none 1 false (y.1.map (V.int .i64)), .bool y.2]) (fun _ => []) := by
 refine cmQ fun r hM => ?_
 rw [specieref31_Numbers.eq_1] at hM
 refine enterV En_ok En_mo noJ Try.func79 rfl Try.ntmps79 (by kernel_rfl) fun hw => ct_start ?_
 refine spQ ?_
 replace hw := nzQ hw
 refine guardC_f (fun h1 => ?_) (fun h1 => ?_)
 ·rw [if_neg (ne_true h1)] at hM
  refine spQA h1 ?_
  have nh1 := nzQ h1
  try have hr2 := mpQ nh1
  refine condC_intro (fun h3 => ?_) (fun h3 => ?_)
  ·rw [if_pos h3] at hM
   refine spQA h3 ?_
   have nh3 := nzQ h3
   try have hr4 := mpQ nh3
   subst hM
   exact retC_view (lfQA (And.intro h1 h3))
  ·rw [if_neg (ne_true h3)] at hM
   refine spQA h3 ?_
   have nh3 := nzQ h3
   try have hr5 := mpQ nh3
   have hM0 := hM; clear hM; obtain ⟨f6, d6, hf6, hd6, hM⟩ := iter_opn hM0; clear hM0
   refine ct_loopW (fun n S => ∃ p : Int × List Int, S = (⟨[(1, .int .i64 n_), (2, .ptr 0 0), (6, .own 1), (7, .int .i64 p.1)], [(0, .var 4 true (.agg [.int .i64 i_.Kind, .int .i64 i_.N, .sl none 1 false (i_.B.map (V.int .u8)), .sl none 4 true (i_.L.map e_api_Item)])), (1, .own 3 1 false none (p.2.map (V.int .i64)))], 2⟩ : St) ∧ ((0 ≤ p.1) ∧ (p.1 ≤ n_) ∧ (((p.2).length : Int) ≤ p.1)) ∧ (n_ - p.1).toNat < n ∧ iter n f6 d6 p = r) ((n_ - 0).toNat + 1) _ _ (weak_nil 6 3 rfl (by decide)) sbQ sbQ ⟨(0, ([] : List Int)), rfl, ⟨omQ, omQ, omQ⟩, (Nat.lt_succ_self _), hM⟩ ?_
   clear hM
   rintro n6 S ⟨p6, rfl, hfa6, hm6, hM⟩
   have hM0 := hM; clear hM; obtain ⟨ag6, hag6, hM⟩ := iter_step hM0 (by omega) hf6; clear hM0
   replace hfa6 := nzQ hfa6
   replace hm6 := nzQ hm6
   have ha6 : addI .i64 p6.1 1 = p6.1 + 1 := add_one omQ omQ
   refine spQA ha6 ?_
   have hF := (And.intro h1 (And.intro h3 ha6))
   exact auQ
 ·rw [if_pos h1] at hM
  refine spQA h1 ?_
  have nh1 := nzQ h1
  try have hr14 := mpQ nh1
  subst hM
  exact retC_view (lfQA h1)
set_option maxHeartbeats 2000000 in
set_option maxRecDepth 100000 in
instance specieref31_Hash_ok   (i_ : S_api_Item)  : CM En (specieref31_Hash i_) 80 [.agg [.int .i64 i_.Kind, .int .i64 i_.N, .sl none 1 false (i_.B.map (V.int .u8)), .sl none 4 true (i_.L.map e_api_Item)]] (fun y => .tup [(e_arr45 y.1), .bool y.2]) (fun _ => []) := by
 refine cmQ fun r hM => ?_
 rw [specieref31_Hash.eq_1] at hM
 refine enterV En_ok En_mo noJ Try.func80 rfl Try.ntmps80 (by kernel_rfl) fun hw => ct_start ?_
 refine spQ ?_
 replace hw := nzQ hw
 refine guardC_f (fun h1 => ?_) (fun h1 => ?_)
 ·rw [if_neg (ne_true h1)] at hM
  refine spQA h1 ?_
  have nh1 := nzQ h1
  try have hr2 := mpQ nh1
  refine condC_intro (fun h3 => ?_) (fun h3 => ?_)
  ·rw [if_pos h3] at hM
   refine spQA h3 ?_
   have nh3 := nzQ h3
   try have hr4 := mpQ nh3
   subst hM
   exact retC_view (lfQA (And.intro h1 h3))
  ·rw [if_neg (ne_true h3)] at hM
   refine spQA h3 ?_
   have nh3 := nzQ h3
   try have hr5 := mpQ nh3
   have hM0 := hM; clear hM; obtain ⟨f6, d6, hf6, hd6, hM⟩ := iter_opn hM0; clear hM0
   refine ct_loop (fun n S => ∃ p : Int × (List Int), S = (⟨[(1, .ptr 0 0), (2, .ptr 1 0), (4, .ptr 2 0), (5, .int .i64 p.1)], [(0, .var 4 true (.agg [.int .i64 i_.Kind, .int .i64 i_.N, .sl none 1 false (i_.B.map (V.int .u8)), .sl none 4 true (i_.L.map e_api_Item)])), (1, .var 32 true (zv_45)), (2, .var 32 true ((e_arr45 p.2)))], 3⟩ : St) ∧ ((0 ≤ p.1) ∧ (p.1 ≤ 32)) ∧ ((32 : Int) - p.1).toNat < n ∧ iter n f6 d6 p = r) (((32 : Int) - 0).toNat + 1) _ sbQ (by simp only [go_sem, rowV_eq, rowV_eq0, List.length_replicate, rep_len, Int.toNat_natCast, ↓reduceIte, Nat.reduceEqDiff, Nat.reduceAdd, Int.reduceAdd, Nat.reduceMul, Nat.reduceLeDiff, Nat.reduceLT, Int.reduceLE, Int.reduceLT, Int.reduceNeg, Int.reduceToNat, map_st, mtL_repE, mtL_repM, subF, subH, mtO, mtB, mt, mtL, mtL_self, mt_self, ltV, ltL, ltB, eq_self, or_true, true_or, or_self, and_self, gt_cons0, gt_conss, Int.reduceSub]) ⟨(0, [0, 0, 0, 0, 0, 0, 0, 0, 0, 0, 0, 0, 0, 0, 0, 0, 0, 0, 0, 0, 0, 0, 0, 0, 0, 0, 0, 0, 0, 0, 0, 0]), rfl, ⟨omQ, omQ⟩, (Nat.lt_succ_self _), hM⟩ ?_
   clear hM
   rintro n6 S ⟨p6, rfl, hfa6, hm6, hM⟩
   have hM0 := hM; clear hM; obtain ⟨ag6, hag6, hM⟩ := iter_step hM0 (by omega) hf6; clear hM0
   replace hfa6 := nzQ hfa6
   replace hm6 := nzQ hm6
   have ha6 : addI .i64 p6.1 1 = p6.1 + 1 := add_one omQ omQ
   refine spQA ha6 ?_
   refine condC_intro (fun h7 => ?_) (fun h7 => ?_)
   ·rw [if_pos h7] at hM
    refine spQA (And.intro ha6 h7) ?_
    have nh7 := nzQ h7
    try have hr8 := mpQ nh7
    refine bindC_intro omQ ?_
    have he9 := fun d => elt_mp (l := i_.B) (f := (V.int .u8)) (i := p6.1) omQ d
    refine spQA (And.intro ha6 he9) ?_
    refine bindC_intro omQ ?_
    have he10 : ((p6.1).toNat * 1 + 1 ≤ 32) = True := eq_true omQ
    refine spQA (And.intro ha6 (And.intro he9 he10)) ?_
    have he11 := arr_put (f := (V.int .u8)) (l := (arrN 32 p6.2)) (n := 32) (i := p6.1) (v := (gt i_.B p6.1)) arrN_len omQ
    simp only [go_sem, rowV_eq, rowV_eq0, List.length_replicate, rep_len, Int.toNat_natCast, ↓reduceIte, Nat.reduceEqDiff, Nat.reduceAdd, Int.reduceAdd, Nat.reduceMul, Nat.reduceLeDiff, Nat.reduceLT, Int.reduceLE, Int.reduceLT, Int.reduceNeg, Int.reduceToNat] at he11
    refine spQA (And.intro ha6 (And.intro he9 (And.intro he10 he11))) ?_
    refine lp_intro (n6 - 1) _ (by omega) sbQ (by simp only [go_sem, rowV_eq, rowV_eq0, List.length_replicate, rep_len, Int.toNat_natCast, ↓reduceIte, Nat.reduceEqDiff, Nat.reduceAdd, Int.reduceAdd, Nat.reduceMul, Nat.reduceLeDiff, Nat.reduceLT, Int.reduceLE, Int.reduceLT, Int.reduceNeg, Int.reduceToNat, map_st, mtL_repE, mtL_repM, subF, subH, mtO, mtB, mt, mtL, mtL_self, mt_self, ltV, ltL, ltB, eq_self, or_true, true_or, or_self, and_self, gt_cons0, gt_conss, Int.reduceSub]) ⟨((p6.1 + 1), (arrN 32 (st (arrN 32 p6.2) p6.1 (gt i_.B p6.1)))), rfl, ⟨omQ, omQ⟩, omQ, iter_again hM hag6⟩
   ·rw [if_neg (ne_true h7)] at hM
    refine spQA (And.intro ha6 h7) ?_
    have nh7 := nzQ h7
    try have hr12 := mpQ nh7
    subst hM
    exact retC_view (lfQA (And.intro ha6 (And.intro h1 (And.intro h3 h7))))
 ·rw [if_pos h1] at hM
  refine spQA h1 ?_
  have nh1 := nzQ h1
  try have hr13 := mpQ nh1
  subst hM
  exact retC_view (lfQA h1)
instance (priority := 1016) : DRD 12 81 29 [51, 52, 53, 54, 55, 56, 57, 58, 59, 60, 61, 62, 63, 64, 65, 66, 67, 68, 69, 70, 71, 72, 73, 74, 75, 76, 77, 78, 79] [] ([[], [0], [0, 1], [], [3], [3, 4], [], [6], [6, 7], [], [9], [9, 10], [], [12], [12, 13], [], [], [16], [16, 17], [], [19], [19, 20], [], [22], [22, 23], [], [25], [25, 26], [16, 17, 18, 19, 20, 21, 22, 23, 24, 25, 26, 27]] ++ [List.range 29, List.range 30, List.range 31]) [] := ⟨trivial⟩
set_option maxHeartbeats 2000000 in
set_option maxRecDepth 100000 in
instance specieref31_FromItem_ok   (i_ : S_api_Item)  : CM En (specieref31_FromItem i_) 78 [.agg [.int .i64 i_.Kind, .int .i64 i_.N, .sl none 1 false (i_.B.map (V.int .u8)), .sl none 4 true (i_.L.map e_api_Item)]] (fun y => .tup [(e_api_Coin y.1), .bool y.2]) (fun _ => []) := by
 refine cmQ fun r hM => ?_
 rw [specieref31_FromItem.eq_1] at hM
 refine enterV En_ok En_mo noJ Try.func78 rfl Try.ntmps78 (by kernel_rfl) fun hw => ct_start ?_
 refine spQ ?_
 replace hw := nzQ hw
 have hF := trueQ
 exact auQ
set_option maxHeartbeats 2000000 in
set_option maxRecDepth 100000 in
instance specieref32_FromItem_ok   (i_ : S_api_Item)  : CM En (specieref32_FromItem i_) 48 [.agg [.int .i64 i_.Kind, .int .i64 i_.N, .sl none 1 false (i_.B.map (V.int .u8)), .sl none 4 true (i_.L.map e_api_Item)]] (fun y => .tup [(e_api_Spend y.1), .bool y.2]) (fun _ => []) := by
 refine cmQ fun r hM => ?_
 rw [specieref32_FromItem.eq_1] at hM
 refine enterV En_ok En_mo noJ Try.func48 rfl Try.ntmps48 (by kernel_rfl) fun hw => ct_start ?_
 refine spQ ?_
 replace hw := nzQ hw
 have h0_0 := wf_sub hw.2.2.2.2 4
 have h0_1 := wf_sub hw.2.2.2.2 5
 refine guardC_f (fun h1 => ?_) (fun h1 => ?_)
 ·rw [if_neg (ne_true h1)] at hM
  refine spQA h1 ?_
  have nh1 := nzQ h1
  try have hr2 := mpQ nh1
  refine condC_intro (fun h3 => ?_) (fun h3 => ?_)
  ·rw [if_pos h3] at hM
   refine spQA h3 ?_
   have nh3 := nzQ h3
   try have hr4 := mpQ nh3
   subst hM
   exact retC_view (lfQA (And.intro h1 h3))
  ·rw [if_neg (ne_true h3)] at hM
   refine spQA h3 ?_
   have nh3 := nzQ h3
   try have hr5 := mpQ nh3
   refine bindC_intro omQ ?_
   have he6 : ∀ d, elt (i_.L.map e_api_Item) 0 d = e_api_Item (gt i_.L 0) := fun d => elt_mp (l := i_.L) (f := e_api_Item) (i := 0) omQ d
   refine spQA he6 ?_
   have hM0 := hM; clear hM; obtain ⟨x7, hx8, hM⟩ := letk_opn hM0; clear hM0
   have hcx7 := cmU hx8
   refine callC_give hcx7 (clQA he6) (clQA he6) (fun hw9 => ?_)
   replace hw9 := nzQ hw9
   refine spQA he6 ?_
   refine condC_intro (fun h10 => ?_) (fun h10 => ?_)
   ·rw [if_pos h10] at hM
    refine spQA (And.intro he6 h10) ?_
    have nh10 := nzQ h10
    try have hr11 := mpQ nh10
    subst hM
    exact retC_view (lfQA (And.intro he6 (And.intro h1 (And.intro h3 h10))))
   ·rw [if_neg (ne_true h10)] at hM
    refine spQA (And.intro he6 h10) ?_
    have nh10 := nzQ h10
    try have hr12 := mpQ nh10
    refine bindC_intro omQ ?_
    have he13 : ∀ d, elt (i_.L.map e_api_Item) 1 d = e_api_Item (gt i_.L 1) := fun d => elt_mp (l := i_.L) (f := e_api_Item) (i := 1) omQ d
    refine spQA (And.intro he6 he13) ?_
    have hM0 := hM; clear hM; obtain ⟨x14, hx15, hM⟩ := letk_opn hM0; clear hM0
    have hcx14 := cmU hx15
    refine callC_give hcx14 (clQA (And.intro he6 he13)) (clQA (And.intro he6 he13)) (fun hw16 => ?_)
    replace hw16 := nzQ hw16
    refine spQA (And.intro he6 he13) ?_
    have hq17 := cfU hx15
    refine condC_intro (fun h18 => ?_) (fun h18 => ?_)
    ·rw [if_pos h18] at hM
     refine spQA (And.intro he6 (And.intro he13 h18)) ?_
     have nh18 := nzQ h18
     try have hr19 := mpQ nh18
     subst hM
     exact retC_view (lfQA (And.intro he6 (And.intro he13 (And.intro h1 (And.intro h3 (And.intro h10 h18))))))
    ·rw [if_neg (ne_true h18)] at hM
     refine spQA (And.intro he6 (And.intro he13 h18)) ?_
     have nh18 := nzQ h18
     try have hr20 := mpQ nh18
     refine bindC_intro omQ ?_
     have he21 : ∀ d, elt (i_.L.map e_api_Item) 2 d = e_api_Item (gt i_.L 2) := fun d => elt_mp (l := i_.L) (f := e_api_Item) (i := 2) omQ d
     refine spQA (And.intro he6 (And.intro he13 he21)) ?_
     have hM0 := hM; clear hM; obtain ⟨x22, hx23, hM⟩ := letk_opn hM0; clear hM0
     have hcx22 := cmU hx23
     refine callC_give hcx22 (clQA (And.intro he6 (And.intro he13 he21))) (clQA (And.intro he6 (And.intro he13 he21))) (fun hw24 => ?_)
     replace hw24 := nzQ hw24
     refine spQA (And.intro he6 (And.intro he13 he21)) ?_
     refine condC_intro (fun h25 => ?_) (fun h25 => ?_)
     ·rw [if_pos h25] at hM
      refine spQA (And.intro he6 (And.intro he13 (And.intro he21 h25))) ?_
      have nh25 := nzQ h25
      try have hr26 := mpQ nh25
      subst hM
      exact retC_view (lfQA (And.intro he6 (And.intro he13 (And.intro he21 (And.intro h1 (And.intro h3 (And.intro h10 (And.intro h18 h25))))))))
     ·rw [if_neg (ne_true h25)] at hM
      refine spQA (And.intro he6 (And.intro he13 (And.intro he21 h25))) ?_
      have nh25 := nzQ h25
      try have hr27 := mpQ nh25
      refine bindC_intro omQ ?_
      have he28 : ∀ d, elt (i_.L.map e_api_Item) 3 d = e_api_Item (gt i_.L 3) := fun d => elt_mp (l := i_.L) (f := e_api_Item) (i := 3) omQ d
      refine spQA (And.intro he6 (And.intro he13 (And.intro he21 he28))) ?_
      have hM0 := hM; clear hM; obtain ⟨x29, hx30, hM⟩ := letk_opn hM0; clear hM0
      have hcx29 := cmU hx30
      refine callC_give hcx29 (clQA (And.intro he6 (And.intro he13 (And.intro he21 he28)))) (clQA (And.intro he6 (And.intro he13 (And.intro he21 he28)))) (fun hw31 => ?_)
      replace hw31 := nzQ hw31
      refine spQA (And.intro he6 (And.intro he13 (And.intro he21 he28))) ?_
      have hq32 := cfU hx30
      refine condC_intro (fun h33 => ?_) (fun h33 => ?_)
      ·rw [if_pos h33] at hM
       refine spQA (And.intro he6 (And.intro he13 (And.intro he21 (And.intro he28 h33)))) ?_
       have nh33 := nzQ h33
       try have hr34 := mpQ nh33
       subst hM
       exact retC_view (lfQA (And.intro he6 (And.intro he13 (And.intro he21 (And.intro he28 (And.intro h1 (And.intro h3 (And.intro h10 (And.intro h18 (And.intro h25 h33))))))))))
      ·rw [if_neg (ne_true h33)] at hM
       refine spQA (And.intro he6 (And.intro he13 (And.intro he21 (And.intro he28 h33)))) ?_
       have nh33 := nzQ h33
       try have hr35 := mpQ nh33
       refine bindC_intro omQ ?_
       have he36 : ∀ d, elt (i_.L.map e_api_Item) 4 d = e_api_Item (gt i_.L 4) := fun d => elt_mp (l := i_.L) (f := e_api_Item) (i := 4) omQ d
       refine spQA (And.intro he6 (And.intro he13 (And.intro he21 (And.intro he28 he36)))) ?_
       refine guardC_f (fun h37 => ?_) (fun h37 => ?_)
       ·rw [if_neg (ne_true h37)] at hM
        refine spQA (And.intro he6 (And.intro he13 (And.intro he21 (And.intro he28 (And.intro he36 h37))))) ?_
        have nh37 := nzQ h37
        try have hr38 := mpQ nh37
        refine bindC_intro omQ ?_
        refine spQA (And.intro he6 (And.intro he13 (And.intro he21 (And.intro he28 he36)))) ?_
        refine bindC_intro omQ ?_
        refine spQA (And.intro he6 (And.intro he13 (And.intro he21 (And.intro he28 he36)))) ?_
        refine condC_intro (fun h39 => ?_) (fun h39 => ?_)
        ·rw [if_pos h39] at hM
         refine spQA (And.intro he6 (And.intro he13 (And.intro he21 (And.intro he28 (And.intro he36 h39))))) ?_
         have nh39 := nzQ h39
         try have hr40 := mpQ nh39
         subst hM
         exact retC_view (lfQA (And.intro he6 (And.intro he13 (And.intro he21 (And.intro he28 (And.intro he36 (And.intro h1 (And.intro h3 (And.intro h10 (And.intro h18 (And.intro h25 (And.intro h33 (And.intro h37 h39)))))))))))))
        ·rw [if_neg (ne_true h39)] at hM
         refine spQA (And.intro he6 (And.intro he13 (And.intro he21 (And.intro he28 (And.intro he36 h39))))) ?_
         have nh39 := nzQ h39
         try have hr41 := mpQ nh39
         refine ct_draw 203 15 [9, 87, 88, 89, 90, 91, 92, 93, 94, 95, 96, 97, 98, 99, 100] [] ([[], [0], [0, 1], [0, 1, 2], [], [4], [4, 5], [4, 5, 6], [4, 5, 6, 7], [4, 5, 6, 7, 8], [0, 1, 2, 3, 4, 5, 6, 7, 8, 9], [0, 1, 2, 3, 4, 5, 6, 7, 8, 9, 10], [0, 1, 2, 3, 4, 5, 6, 7, 8, 9, 10, 11], [0, 1, 2, 3, 4, 5, 6, 7, 8, 9, 10, 11], [0, 1, 2, 3, 4, 5, 6, 7, 8, 9, 10, 11, 12]] ++ [List.range 15]) [] (by kernel_rfl) (by exact alQ) ?_
         refine spQA (And.intro he6 (And.intro he13 (And.intro he21 (And.intro he28 he36)))) ?_
         refine hbindC_intro omQ ?_
         refine spQA (And.intro he6 (And.intro he13 (And.intro he21 (And.intro he28 he36)))) ?_
         refine hbindC_intro omQ ?_
         refine spQA (And.intro he6 (And.intro he13 (And.intro he21 (And.intro he28 he36)))) ?_
         have hM0 := hM; clear hM; obtain ⟨x42, hx43, hM⟩ := letk_opn hM0; clear hM0
         have hcx42 := cmU hx43
         refine hcallC_give hcx42 (clQA (And.intro he6 (And.intro he13 (And.intro he21 (And.intro he28 he36))))) (clQA (And.intro he6 (And.intro he13 (And.intro he21 (And.intro he28 he36))))) ?_
         refine spQA (And.intro he6 (And.intro he13 (And.intro he21 (And.intro he28 he36)))) ?_
         have hq44 := cfU hx43
         refine condC_intro (fun h45 => ?_) (fun h45 => ?_)
         ·rw [if_pos h45] at hM
          refine spQA (And.intro he6 (And.intro he13 (And.intro he21 (And.intro he28 (And.intro he36 h45))))) ?_
          have nh45 := nzQ h45
          try have hr46 := mpQ nh45
          subst hM
          exact retC_view (lfQA (And.intro he6 (And.intro he13 (And.intro he21 (And.intro he28 (And.intro he36 (And.intro h1 (And.intro h3 (And.intro h10 (And.intro h18 (And.intro h25 (And.intro h33 (And.intro h37 (And.intro h39 h45))))))))))))))
         ·rw [if_neg (ne_true h45)] at hM
          refine spQA (And.intro he6 (And.intro he13 (And.intro he21 (And.intro he28 (And.intro he36 h45))))) ?_
          have nh45 := nzQ h45
          try have hr47 := mpQ nh45
          refine bindC_intro omQ ?_
          have he48 : ∀ d, elt (i_.L.map e_api_Item) 5 d = e_api_Item (gt i_.L 5) := fun d => elt_mp (l := i_.L) (f := e_api_Item) (i := 5) omQ d
          refine spQA (And.intro he6 (And.intro he13 (And.intro he21 (And.intro he28 (And.intro he36 he48))))) ?_
          refine guardC_f (fun h49 => ?_) (fun h49 => ?_)
          ·rw [if_neg (ne_true h49)] at hM
           refine spQA (And.intro he6 (And.intro he13 (And.intro he21 (And.intro he28 (And.intro he36 (And.intro he48 h49)))))) ?_
           have nh49 := nzQ h49
           try have hr50 := mpQ nh49
           refine guardC_f (fun h51 => ?_) (fun h51 => ?_)
           ·rw [if_neg (ne_true h51)] at hM
            refine spQA (And.intro he6 (And.intro he13 (And.intro he21 (And.intro he28 (And.intro he36 (And.intro he48 h51)))))) ?_
            have nh51 := nzQ h51
            try have hr52 := mpQ nh51
            refine bindC_intro omQ ?_
            have he53 : ∀ d, elt ((gt i_.L 5).L.map e_api_Item) 0 d = e_api_Item (gt (gt i_.L 5).L 0) := fun d => elt_mp (l := (gt i_.L 5).L) (f := e_api_Item) (i := 0) omQ d
            refine spQA (And.intro he6 (And.intro he13 (And.intro he21 (And.intro he28 (And.intro he36 (And.intro he48 he53)))))) ?_
            refine condC_intro (fun h54 => ?_) (fun h54 => ?_)
            ·rw [if_pos h54] at hM
             refine spQA (And.intro he6 (And.intro he13 (And.intro he21 (And.intro he28 (And.intro he36 (And.intro he48 (And.intro he53 h54))))))) ?_
             have nh54 := nzQ h54
             try have hr55 := mpQ nh54
             subst hM
             exact retC_view (lfQA (And.intro he6 (And.intro he13 (And.intro he21 (And.intro he28 (And.intro he36 (And.intro he48 (And.intro he53 (And.intro h1 (And.intro h3 (And.intro h10 (And.intro h18 (And.intro h25 (And.intro h33 (And.intro h37 (And.intro h39 (And.intro h45 (And.intro h49 (And.intro h51 h54)))))))))))))))))))
            ·rw [if_neg (ne_true h54)] at hM
             refine spQA (And.intro he6 (And.intro he13 (And.intro he21 (And.intro he28 (And.intro he36 (And.intro he48 (And.intro he53 h54))))))) ?_
             have nh54 := nzQ h54
             try have hr56 := mpQ nh54
             refine ct_draw 203 24 [11, 126, 127, 128, 129, 130, 131, 132, 133, 134, 135, 136, 137, 138, 139, 140, 141, 142, 143, 144, 145, 146, 147, 148] [] ([[], [], [1], [1, 2], [], [4], [4, 5], [1, 2, 3, 4, 5, 6], [], [], [9], [9, 10], [], [12], [12, 13], [8, 9, 10, 11, 12, 13, 14], [], [16], [16, 17], [16, 17, 18], [16, 17, 18, 19], [16, 17, 18, 19, 20], [0, 1, 2, 3, 4, 5, 6, 7, 8, 9, 10, 11, 12, 13, 14, 15, 16, 17, 18, 19, 20, 21], []] ++ [List.range 24]) [] (by kernel_rfl) (by exact alQ) ?_
             refine spQA (And.intro he6 (And.intro he13 (And.intro he21 (And.intro he28 (And.intro he36 (And.intro he48 he53)))))) ?_
             refine hbindC_intro omQ ?_
             have he57 : ∀ d, elt (x14.1.map (V.int .i64)) 0 d = (V.int .i64) (gt x14.1 0) := fun d => elt_mp (l := x14.1) (f := (V.int .i64)) (i := 0) omQ d
             refine spQA (And.intro he6 (And.intro he13 (And.intro he21 (And.intro he28 (And.intro he36 (And.intro he48 (And.intro he53 he57))))))) ?_
             refine hbindC_intro omQ ?_
             have he58 : ∀ d, elt (x14.1.map (V.int .i64)) 1 d = (V.int .i64) (gt x14.1 1) := fun d => elt_mp (l := x14.1) (f := (V.int .i64)) (i := 1) omQ d
             refine spQA (And.intro he6 (And.intro he13 (And.intro he21 (And.intro he28 (And.intro he36 (And.intro he48 (And.intro he53 (And.intro he57 he58)))))))) ?_
             refine hbindC_intro omQ ?_
             have he59 : ∀ d, elt (x29.1.map (V.int .i64)) 0 d = (V.int .i64) (gt x29.1 0) := fun d => elt_mp (l := x29.1) (f := (V.int .i64)) (i := 0) omQ d
             refine spQA (And.intro he6 (And.intro he13 (And.intro he21 (And.intro he28 (And.intro he36 (And.intro he48 (And.intro he53 (And.intro he57 (And.intro he58 he59))))))))) ?_
             refine hbindC_intro omQ ?_
             have he60 : ∀ d, elt (x29.1.map (V.int .i64)) 1 d = (V.int .i64) (gt x29.1 1) := fun d => elt_mp (l := x29.1) (f := (V.int .i64)) (i := 1) omQ d
             refine spQA (And.intro he6 (And.intro he13 (And.intro he21 (And.intro he28 (And.intro he36 (And.intro he48 (And.intro he53 (And.intro he57 (And.intro he58 (And.intro he59 he60)))))))))) ?_
             refine hbindC_intro omQ ?_
             refine spQA (And.intro he6 (And.intro he13 (And.intro he21 (And.intro he28 (And.intro he36 (And.intro he48 (And.intro he53 (And.intro he57 (And.intro he58 (And.intro he59 he60)))))))))) ?_
             have hM0 := hM; clear hM; obtain ⟨f61, d61, hf61, hd61, hM⟩ := iter_opn hM0; clear hM0
             refine ct_loopW (fun n S => ∃ p : Int × List S_api_Leaf, S = (⟨[(2, .ptr 1 0), (9, .sl none 1 false (x42.1.map (V.int .i64))), (10, .ptr 19 0), (11, .ptr 43 0), (12, .int .i64 p.1)], [(1, .var 80 true (zv_59)), (19, .var 4 true (.agg [.int .i64 (gt i_.L 5).Kind, .int .i64 (gt i_.L 5).N, .sl none 1 false ((gt i_.L 5).B.map (V.int .u8)), .sl none 4 true ((gt i_.L 5).L.map e_api_Item)])), (43, .var 80 true (.agg (.int .i64 x7.1.Bank :: .int .i64 x7.1.Epoch :: .int .i64 x7.1.Denom :: .int .i64 x7.1.Depth :: .int .i64 x7.1.A :: .int .u8 (gt x7.1.Root 0) :: .int .u8 (gt x7.1.Root 1) :: .int .u8 (gt x7.1.Root 2) :: .int .u8 (gt x7.1.Root 3) :: .int .u8 (gt x7.1.Root 4) :: .int .u8 (gt x7.1.Root 5) :: .int .u8 (gt x7.1.Root 6) :: .int .u8 (gt x7.1.Root 7) :: .int .u8 (gt x7.1.Root 8) :: .int .u8 (gt x7.1.Root 9) :: .int .u8 (gt x7.1.Root 10) :: .int .u8 (gt x7.1.Root 11) :: .int .u8 (gt x7.1.Root 12) :: .int .u8 (gt x7.1.Root 13) :: .int .u8 (gt x7.1.Root 14) :: .int .u8 (gt x7.1.Root 15) :: .int .u8 (gt x7.1.Root 16) :: .int .u8 (gt x7.1.Root 17) :: .int .u8 (gt x7.1.Root 18) :: .int .u8 (gt x7.1.Root 19) :: .int .u8 (gt x7.1.Root 20) :: .int .u8 (gt x7.1.Root 21) :: .int .u8 (gt x7.1.Root 22) :: .int .u8 (gt x7.1.Root 23) :: .int .u8 (gt x7.1.Root 24) :: .int .u8 (gt x7.1.Root 25) :: .int .u8 (gt x7.1.Root 26) :: .int .u8 (gt x7.1.Root 27) :: .int .u8 (gt x7.1.Root 28) :: .int .u8 (gt x7.1.Root 29) :: .int .u8 (gt x7.1.Root 30) :: .int .u8 (gt x7.1.Root 31) :: .int .i64 x7.1.Sign.Z :: .int .i64 x7.1.Sign.A :: .int .i64 x7.1.Sign.B :: .int .i64 x7.1.Sign.R :: .int .i64 (gt x14.1 0) :: .int .i64 (gt x14.1 1) :: .int .u8 (gt x22.1 0) :: .int .u8 (gt x22.1 1) :: .int .u8 (gt x22.1 2) :: .int .u8 (gt x22.1 3) :: .int .u8 (gt x22.1 4) :: .int .u8 (gt x22.1 5) :: .int .u8 (gt x22.1 6) :: .int .u8 (gt x22.1 7) :: .int .u8 (gt x22.1 8) :: .int .u8 (gt x22.1 9) :: .int .u8 (gt x22.1 10) :: .int .u8 (gt x22.1 11) :: .int .u8 (gt x22.1 12) :: .int .u8 (gt x22.1 13) :: .int .u8 (gt x22.1 14) :: .int .u8 (gt x22.1 15) :: .int .u8 (gt x22.1 16) :: .int .u8 (gt x22.1 17) :: .int .u8 (gt x22.1 18) :: .int .u8 (gt x22.1 19) :: .int .u8 (gt x22.1 20) :: .int .u8 (gt x22.1 21) :: .int .u8 (gt x22.1 22) :: .int .u8 (gt x22.1 23) :: .int .u8 (gt x22.1 24) :: .int .u8 (gt x22.1 25) :: .int .u8 (gt x22.1 26) :: .int .u8 (gt x22.1 27) :: .int .u8 (gt x22.1 28) :: .int .u8 (gt x22.1 29) :: .int .u8 (gt x22.1 30) :: .int .u8 (gt x22.1 31) :: .int .i64 (gt x29.1 0) :: .int .i64 (gt x29.1 1) :: .own 44 :: .int .i64 (gt (gt i_.L 5).L 0).N :: .sl (some true) 32 true [] :: []))), (44, .own 116 3 true none (p.2.map e_api_Leaf))], 45⟩ : St) ∧ ((0 ≤ p.1) ∧ (p.1 ≤ (x42.1.length : Int)) ∧ (p.1 % 3 = 0) ∧ (((p.2).length : Int) ≤ p.1)) ∧ ((x42.1.length : Int) - p.1).toNat < n ∧ iter n f61 d61 p = r) (((x42.1.length : Int) - 0).toNat + 1) _ _ (weak_nilV 43 77 116 rfl rfl (by decide)) sbQ sbQ ⟨(0, ([] : List S_api_Leaf)), rfl, ⟨omQ, omQ, omQ, omQ⟩, (Nat.lt_succ_self _), hM⟩ ?_
             clear hM
             rintro n61 S ⟨p61, rfl, hfa61, hm61, hM⟩
             have hM0 := hM; clear hM; obtain ⟨ag61, hag61, hM⟩ := iter_step hM0 (by omega) hf61; clear hM0
             replace hfa61 := nzQ hfa61
             replace hm61 := nzQ hm61
             have ha61 : addI .i64 p61.1 1 = p61.1 + 1 := add_one omQ omQ
             refine spQA (And.intro he6 (And.intro he13 (And.intro he21 (And.intro he28 (And.intro he36 (And.intro he48 (And.intro he53 (And.intro he57 (And.intro he58 (And.intro he59 (And.intro he60 ha61))))))))))) ?_
             refine condC_intro (fun h62 => ?_) (fun h62 => ?_)
             ·rw [if_pos h62] at hM
              refine spQA (And.intro he6 (And.intro he13 (And.intro he21 (And.intro he28 (And.intro he36 (And.intro he48 (And.intro he53 (And.intro he57 (And.intro he58 (And.intro he59 (And.intro he60 (And.intro ha61 h62)))))))))))) ?_
              have nh62 := nzQ h62
              try have hr63 := mpQ nh62
              refine ct_draw 203 18 [155, 156, 157, 158, 159, 160, 161, 162, 163, 164, 165, 166, 167, 168, 169, 170, 171, 172] [] ([[], [0], [], [], [2, 3], [2, 3, 4], [], [], [7], [6, 7, 8], [6, 7, 8, 9], [], [], [12], [11, 12, 13], [11, 12, 13, 14], [2, 3, 4, 5, 6, 7, 8, 9, 10, 11, 12, 13, 14, 15], [2, 3, 4, 5, 6, 7, 8, 9, 10, 11, 12, 13, 14, 15, 16]] ++ [List.range 18, List.range 19, List.range 20]) [] (by kernel_rfl) (by exact alQ) ?_
              refine spQA (And.intro he6 (And.intro he13 (And.intro he21 (And.intro he28 (And.intro he36 (And.intro he48 (And.intro he53 (And.intro he57 (And.intro he58 (And.intro he59 (And.intro he60 ha61))))))))))) ?_
              refine hbindC_intro omQ ?_
              have he64 := fun d => elt_mp (l := x42.1) (f := (V.int .i64)) (i := p61.1) omQ d
              refine spQA (And.intro he6 (And.intro he13 (And.intro he21 (And.intro he28 (And.intro he36 (And.intro he48 (And.intro he53 (And.intro he57 (And.intro he58 (And.intro he59 (And.intro he60 (And.intro ha61 he64)))))))))))) ?_
              refine hbindC_intro omQ ?_
              have he65 := fun d => elt_mp (l := x42.1) (f := (V.int .i64)) (i := (p61.1 + 1)) omQ d
              refine spQA (And.intro he6 (And.intro he13 (And.intro he21 (And.intro he28 (And.intro he36 (And.intro he48 (And.intro he53 (And.intro he57 (And.intro he58 (And.intro he59 (And.intro he60 (And.intro ha61 (And.intro he64 he65))))))))))))) ?_
              have ha66 : addI .i64 p61.1 2 = (p61.1 + 2) := add_ok omQ omQ
              try simp only [ha66]
              refine hbindC_intro omQ ?_
              have he67 := fun d => elt_mp (l := x42.1) (f := (V.int .i64)) (i := (p61.1 + 2)) omQ d
              refine spQA (And.intro he6 (And.intro he13 (And.intro he21 (And.intro he28 (And.intro he36 (And.intro he48 (And.intro he53 (And.intro he57 (And.intro he58 (And.intro he59 (And.intro he60 (And.intro ha61 (And.intro he64 (And.intro he65 (And.intro ha66 he67))))))))))))))) ?_
              refine bindC_intro omQ ?_
              refine spQA (And.intro he6 (And.intro he13 (And.intro he21 (And.intro he28 (And.intro he36 (And.intro he48 (And.intro he53 (And.intro he57 (And.intro he58 (And.intro he59 (And.intro he60 (And.intro ha61 (And.intro he64 (And.intro he65 (And.intro ha66 he67))))))))))))))) ?_
              have ha68 : addI .i64 p61.1 3 = (p61.1 + 3) := add_ok omQ omQ
              try simp only [ha68]
              refine lp_intro (n61 - 1) _ (by omega) sbQ sbQ ⟨((p61.1 + 3), (p61.2 ++ ([({ B := (gt x42.1 p61.1), R1 := (gt x42.1 (p61.1 + 1)), R2 := (gt x42.1 (p61.1 + 2)) } : S_api_Leaf)] : List S_api_Leaf))), rfl, ⟨omQ, omQ, omQ, omQ⟩, omQ, iter_again hM hag61⟩
             ·rw [if_neg (ne_true h62)] at hM
              refine spQA (And.intro he6 (And.intro he13 (And.intro he21 (And.intro he28 (And.intro he36 (And.intro he48 (And.intro he53 (And.intro he57 (And.intro he58 (And.intro he59 (And.intro he60 (And.intro ha61 h62)))))))))))) ?_
              have nh62 := nzQ h62
              try have hr69 := mpQ nh62
              have hM0 := hM; clear hM; obtain ⟨f70, d70, hf70, hd70, hM⟩ := iter_opn hM0; clear hM0
              refine ct_loopW (fun n S => ∃ p : Int × S_api_Spend × List (List Int), S = (⟨[(2, .ptr 1 0), (10, .ptr 19 0), (11, .ptr 43 0), (13, .int .i64 p.1)], [(1, .var 80 true ((e_api_Spend p.2.1))), (19, .var 4 true (.agg [.int .i64 (gt i_.L 5).Kind, .int .i64 (gt i_.L 5).N, .sl none 1 false ((gt i_.L 5).B.map (V.int .u8)), .sl none 4 true ((gt i_.L 5).L.map e_api_Item)])), (43, .var 80 true (.agg (.int .i64 x7.1.Bank :: .int .i64 x7.1.Epoch :: .int .i64 x7.1.Denom :: .int .i64 x7.1.Depth :: .int .i64 x7.1.A :: .int .u8 (gt x7.1.Root 0) :: .int .u8 (gt x7.1.Root 1) :: .int .u8 (gt x7.1.Root 2) :: .int .u8 (gt x7.1.Root 3) :: .int .u8 (gt x7.1.Root 4) :: .int .u8 (gt x7.1.Root 5) :: .int .u8 (gt x7.1.Root 6) :: .int .u8 (gt x7.1.Root 7) :: .int .u8 (gt x7.1.Root 8) :: .int .u8 (gt x7.1.Root 9) :: .int .u8 (gt x7.1.Root 10) :: .int .u8 (gt x7.1.Root 11) :: .int .u8 (gt x7.1.Root 12) :: .int .u8 (gt x7.1.Root 13) :: .int .u8 (gt x7.1.Root 14) :: .int .u8 (gt x7.1.Root 15) :: .int .u8 (gt x7.1.Root 16) :: .int .u8 (gt x7.1.Root 17) :: .int .u8 (gt x7.1.Root 18) :: .int .u8 (gt x7.1.Root 19) :: .int .u8 (gt x7.1.Root 20) :: .int .u8 (gt x7.1.Root 21) :: .int .u8 (gt x7.1.Root 22) :: .int .u8 (gt x7.1.Root 23) :: .int .u8 (gt x7.1.Root 24) :: .int .u8 (gt x7.1.Root 25) :: .int .u8 (gt x7.1.Root 26) :: .int .u8 (gt x7.1.Root 27) :: .int .u8 (gt x7.1.Root 28) :: .int .u8 (gt x7.1.Root 29) :: .int .u8 (gt x7.1.Root 30) :: .int .u8 (gt x7.1.Root 31) :: .int .i64 x7.1.Sign.Z :: .int .i64 x7.1.Sign.A :: .int .i64 x7.1.Sign.B :: .int .i64 x7.1.Sign.R :: .int .i64 (gt x14.1 0) :: .int .i64 (gt x14.1 1) :: .int .u8 (gt x22.1 0) :: .int .u8 (gt x22.1 1) :: .int .u8 (gt x22.1 2) :: .int .u8 (gt x22.1 3) :: .int .u8 (gt x22.1 4) :: .int .u8 (gt x22.1 5) :: .int .u8 (gt x22.1 6) :: .int .u8 (gt x22.1 7) :: .int .u8 (gt x22.1 8) :: .int .u8 (gt x22.1 9) :: .int .u8 (gt x22.1 10) :: .int .u8 (gt x22.1 11) :: .int .u8 (gt x22.1 12) :: .int .u8 (gt x22.1 13) :: .int .u8 (gt x22.1 14) :: .int .u8 (gt x22.1 15) :: .int .u8 (gt x22.1 16) :: .int .u8 (gt x22.1 17) :: .int .u8 (gt x22.1 18) :: .int .u8 (gt x22.1 19) :: .int .u8 (gt x22.1 20) :: .int .u8 (gt x22.1 21) :: .int .u8 (gt x22.1 22) :: .int .u8 (gt x22.1 23) :: .int .u8 (gt x22.1 24) :: .int .u8 (gt x22.1 25) :: .int .u8 (gt x22.1 26) :: .int .u8 (gt x22.1 27) :: .int .u8 (gt x22.1 28) :: .int .u8 (gt x22.1 29) :: .int .u8 (gt x22.1 30) :: .int .u8 (gt x22.1 31) :: .int .i64 (gt x29.1 0) :: .int .i64 (gt x29.1 1) :: .own 44 :: .int .i64 (gt (gt i_.L 5).L 0).N :: .own 45 :: []))), (44, .own 116 3 true none (p61.2.map e_api_Leaf)), (45, .own 45 32 true none (p.2.2.map e_arr45))], 46⟩ : St) ∧ ((1 ≤ p.1) ∧ (p.1 ≤ ((gt i_.L 5).L.length : Int) ∨ p.1 ≤ 1) ∧ (((p.2.2).length : Int) ≤ p.1)) ∧ (((gt i_.L 5).L.length : Int) - p.1).toNat < n ∧ iter n f70 d70 p = r) ((((gt i_.L 5).L.length : Int) - 1).toNat + 1) _ _ (weak_nilV 43 79 45 rfl rfl (by decide)) sbQ (by simp only [go_sem, rowV_eq, rowV_eq0, List.length_replicate, rep_len, Int.toNat_natCast, ↓reduceIte, Nat.reduceEqDiff, Nat.reduceAdd, Int.reduceAdd, Nat.reduceMul, Nat.reduceLeDiff, Nat.reduceLT, Int.reduceLE, Int.reduceLT, Int.reduceNeg, Int.reduceToNat, map_st, mtL_repE, mtL_repM, subF, subH, mtO, mtB, mt, mtL, mtL_self, mt_self, ltV, ltL, ltB, eq_self, or_true, true_or, or_self, and_self, gt_cons0, gt_conss, Int.reduceSub]) ⟨(1, z_api_Spend, ([] : List (List Int))), rfl, ⟨omQ, omQ, omQ⟩, (Nat.lt_succ_self _), hM⟩ ?_
              clear hM
              rintro n70 S ⟨p70, rfl, hfa70, hm70, hM⟩
              have hM0 := hM; clear hM; obtain ⟨ag70, hag70, hM⟩ := iter_step hM0 (by omega) hf70; clear hM0
              replace hfa70 := nzQ hfa70
              replace hm70 := nzQ hm70
              have ha70 : addI .i64 p70.1 1 = p70.1 + 1 := add_one omQ omQ
              refine spQA (And.intro he6 (And.intro he13 (And.intro he21 (And.intro he28 (And.intro he36 (And.intro he48 (And.intro he53 (And.intro he57 (And.intro he58 (And.intro he59 (And.intro he60 (And.intro ha61 ha70)))))))))))) ?_
              have hF := (And.intro h1 (And.intro h3 (And.intro he6 (And.intro h10 (And.intro he13 (And.intro h18 (And.intro he21 (And.intro h25 (And.intro he28 (And.intro h33 (And.intro he36 (And.intro h37 (And.intro h39 (And.intro h45 (And.intro he48 (And.intro h49 (And.intro h51 (And.intro he53 (And.intro h54 (And.intro he57 (And.intro he58 (And.intro he59 (And.intro he60 (And.intro ha61 (And.intro h62 ha70)))))))))))))))))))))))))
              exact auQ
           ·rw [if_pos h51] at hM
            refine spQA (And.intro he6 (And.intro he13 (And.intro he21 (And.intro he28 (And.intro he36 (And.intro he48 h51)))))) ?_
            have nh51 := nzQ h51
            try have hr81 := mpQ nh51
            subst hM
            exact retC_view (lfQA (And.intro he6 (And.intro he13 (And.intro he21 (And.intro he28 (And.intro he36 (And.intro he48 (And.intro h1 (And.intro h3 (And.intro h10 (And.intro h18 (And.intro h25 (And.intro h33 (And.intro h37 (And.intro h39 (And.intro h45 (And.intro h49 h51)))))))))))))))))
          ·rw [if_pos h49] at hM
           refine spQA (And.intro he6 (And.intro he13 (And.intro he21 (And.intro he28 (And.intro he36 (And.intro he48 h49)))))) ?_
           have nh49 := nzQ h49
           try have hr82 := mpQ nh49
           subst hM
           exact retC_view (lfQA (And.intro he6 (And.intro he13 (And.intro he21 (And.intro he28 (And.intro he36 (And.intro he48 (And.intro h1 (And.intro h3 (And.intro h10 (And.intro h18 (And.intro h25 (And.intro h33 (And.intro h37 (And.intro h39 (And.intro h45 h49))))))))))))))))
       ·rw [if_pos h37] at hM
        refine spQA (And.intro he6 (And.intro he13 (And.intro he21 (And.intro he28 (And.intro he36 h37))))) ?_
        have nh37 := nzQ h37
        try have hr83 := mpQ nh37
        subst hM
        exact retC_view (lfQA (And.intro he6 (And.intro he13 (And.intro he21 (And.intro he28 (And.intro he36 (And.intro h1 (And.intro h3 (And.intro h10 (And.intro h18 (And.intro h25 (And.intro h33 h37))))))))))))
 ·rw [if_pos h1] at hM
  refine spQA h1 ?_
  have nh1 := nzQ h1
  try have hr84 := mpQ nh1
  subst hM
  exact retC_view (lfQA h1)
set_option maxHeartbeats 2000000 in
set_option maxRecDepth 100000 in
instance specieref38_spends_ok   (i_ : S_api_Item)  : CM En (specieref38_spends i_) 47 [.agg [.int .i64 i_.Kind, .int .i64 i_.N, .sl none 1 false (i_.B.map (V.int .u8)), .sl none 4 true (i_.L.map e_api_Item)]] (fun y => .tup [.sl none 80 true (y.1.map e_api_Spend), .bool y.2]) (fun _ => []) := by
 refine cmQ fun r hM => ?_
 rw [specieref38_spends.eq_1] at hM
 refine enterV En_ok En_mo noJ Try.func47 rfl Try.ntmps47 (by kernel_rfl) fun hw => ct_start ?_
 refine spQ ?_
 replace hw := nzQ hw
 refine condC_intro (fun h1 => ?_) (fun h1 => ?_)
 ·rw [if_pos h1] at hM
  refine spQA h1 ?_
  have nh1 := nzQ h1
  try have hr2 := mpQ nh1
  subst hM
  exact retC_view (lfQA h1)
 ·rw [if_neg (ne_true h1)] at hM
  refine spQA h1 ?_
  have nh1 := nzQ h1
  try have hr3 := mpQ nh1
  have hM0 := hM; clear hM; obtain ⟨f4, d4, hf4, hd4, hM⟩ := iter_opn hM0; clear hM0
  refine ct_loopW (fun n S => ∃ p : Int × List S_api_Spend, S = (⟨[(1, .ptr 0 0), (4, .own 1), (5, .int .i64 p.1)], [(0, .var 4 true (.agg [.int .i64 i_.Kind, .int .i64 i_.N, .sl none 1 false (i_.B.map (V.int .u8)), .sl none 4 true (i_.L.map e_api_Item)])), (1, .own 59 80 true none (p.2.map e_api_Spend))], 2⟩ : St) ∧ ((0 ≤ p.1) ∧ (p.1 ≤ (i_.L.length : Int)) ∧ (((p.2).length : Int) ≤ p.1)) ∧ ((i_.L.length : Int) - p.1).toNat < n ∧ iter n f4 d4 p = r) (((i_.L.length : Int) - 0).toNat + 1) _ _ (weak_nil 4 59 rfl (by decide)) sbQ sbQ ⟨(0, ([] : List S_api_Spend)), rfl, ⟨omQ, omQ, omQ⟩, (Nat.lt_succ_self _), hM⟩ ?_
  clear hM
  rintro n4 S ⟨p4, rfl, hfa4, hm4, hM⟩
  have hM0 := hM; clear hM; obtain ⟨ag4, hag4, hM⟩ := iter_step hM0 (by omega) hf4; clear hM0
  replace hfa4 := nzQ hfa4
  replace hm4 := nzQ hm4
  have ha4 : addI .i64 p4.1 1 = p4.1 + 1 := add_one omQ omQ
  refine spQA ha4 ?_
  have hF := (And.intro h1 ha4)
  exact auQ
instance (priority := 1017) : DRD 8 106 15 [6, 57, 58, 59, 60, 61, 62, 63, 64, 65, 66, 67, 68, 69, 70] [] ([[], [0], [0, 1], [0, 1, 2], [], [4], [4, 5], [4, 5, 6], [4, 5, 6, 7], [4, 5, 6, 7, 8], [0, 1, 2, 3, 4, 5, 6, 7, 8, 9], [0, 1, 2, 3, 4, 5, 6, 7, 8, 9, 10], [0, 1, 2, 3, 4, 5, 6, 7, 8, 9, 10, 11], [0, 1, 2, 3, 4, 5, 6, 7, 8, 9, 10, 11], [0, 1, 2, 3, 4, 5, 6, 7, 8, 9, 10, 11, 12]] ++ [List.range 15]) [] := ⟨trivial⟩
instance (priority := 1018) : DRD 11 106 15 [7, 74, 75, 76, 77, 78, 79, 80, 81, 82, 83, 84, 85, 86, 87] [] ([[], [0], [0, 1], [0, 1, 2], [], [4], [4, 5], [4, 5, 6], [4, 5, 6, 7], [4, 5, 6, 7, 8], [0, 1, 2, 3, 4, 5, 6, 7, 8, 9], [0, 1, 2, 3, 4, 5, 6, 7, 8, 9, 10], [0, 1, 2, 3, 4, 5, 6, 7, 8, 9, 10, 11], [0, 1, 2, 3, 4, 5, 6, 7, 8, 9, 10, 11], [0, 1, 2, 3, 4, 5, 6, 7, 8, 9, 10, 11, 12]] ++ [List.range 15]) [] := ⟨trivial⟩
instance (priority := 1019) : DRD 14 106 14 [91, 92, 93, 94, 95, 96, 97, 98, 99, 100, 101, 102, 103, 104] [] ([[], [0], [0, 1], [], [3], [3, 4], [], [], [7], [7, 8], [7, 8, 9], [7, 8, 9, 10], [], [6, 7, 8, 9, 10, 11, 12]] ++ [List.range 14, List.range 15, List.range 16]) [] := ⟨trivial⟩
set_option maxHeartbeats 2000000 in
set_option maxRecDepth 100000 in
instance specieref36_FromItem_ok   (i_ : S_api_Item)  : CM En (specieref36_FromItem i_) 49 [.agg [.int .i64 i_.Kind, .int .i64 i_.N, .sl none 1 false (i_.B.map (V.int .u8)), .sl none 4 true (i_.L.map e_api_Item)]] (fun y => .tup [(e_api_Escrow y.1), .int .i64 y.2]) (fun _ => []) := by
 refine cmQ fun r hM => ?_
 rw [specieref36_FromItem.eq_1] at hM
 refine enterV En_ok En_mo noJ Try.func49 rfl Try.ntmps49 (by kernel_rfl) fun hw => ct_start ?_
 refine spQ ?_
 replace hw := nzQ hw
 have hF := trueQ
 exact auQ
set_option maxHeartbeats 2000000 in
set_option maxRecDepth 100000 in
instance specieref38_Decode_ok   (b : (List Int))  : CM En (specieref38_Decode b) 12 [.sl none 1 false (b.map (V.int .u8))] (fun y => .tup [.agg [.int .i64 y.1.Number, .sl none 80 true (y.1.Spends.map e_api_Spend), .sl none 81 true (y.1.Chains.map e_api_Chain), .sl none 5 true (y.1.Escrow.map e_api_Escrow)], .bool y.2]) (fun _ => []) := by
 refine cmQ fun r hM => ?_
 rw [specieref38_Decode.eq_1] at hM
 refine enterV En_ok En_mo noJ Try.func12 rfl Try.ntmps12 (by kernel_rfl) fun hw => ct_start ?_
 refine spQ ?_
 replace hw := nzQ hw
 have hM0 := hM; clear hM; obtain ⟨x1, hx2, hM⟩ := letk_opn hM0; clear hM0
 have hcx1 := cmU hx2
 refine callC_give hcx1 clQ clQ (fun hw3 => ?_)
 replace hw3 := nzQ hw3
 refine spQ ?_
 have hq4 := wf_sub hw3.1.2.2.2.2 2
 replace hq4 := nzQ hq4
 have hq5 := wf_sub hw3.1.2.2.2.2 3
 replace hq5 := nzQ hq5
 refine guardC_f (fun h6 => ?_) (fun h6 => ?_)
 ·rw [if_neg (ne_true h6)] at hM
  refine spQA h6 ?_
  have nh6 := nzQ h6
  try have hr7 := mpQ nh6
  refine guardC_f (fun h8 => ?_) (fun h8 => ?_)
  ·rw [if_neg (ne_true h8)] at hM
   refine spQA h8 ?_
   have nh8 := nzQ h8
   try have hr9 := mpQ nh8
   refine guardC_f (fun h10 => ?_) (fun h10 => ?_)
   ·rw [if_neg (ne_true h10)] at hM
    refine spQA h10 ?_
    have nh10 := nzQ h10
    try have hr11 := mpQ nh10
    refine bindC_intro omQ ?_
    have he12 : ∀ d, elt (x1.1.L.map e_api_Item) 0 d = e_api_Item (gt x1.1.L 0) := fun d => elt_mp (l := x1.1.L) (f := e_api_Item) (i := 0) omQ d
    refine spQA he12 ?_
    refine guardC_f (fun h13 => ?_) (fun h13 => ?_)
    ·rw [if_neg (ne_true h13)] at hM
     refine spQA (And.intro he12 h13) ?_
     have nh13 := nzQ h13
     try have hr14 := mpQ nh13
     refine bindC_intro omQ ?_
     have he15 : ∀ d, elt (x1.1.L.map e_api_Item) 2 d = e_api_Item (gt x1.1.L 2) := fun d => elt_mp (l := x1.1.L) (f := e_api_Item) (i := 2) omQ d
     refine spQA (And.intro he12 he15) ?_
     refine guardC_f (fun h16 => ?_) (fun h16 => ?_)
     ·rw [if_neg (ne_true h16)] at hM
      refine spQA (And.intro he12 (And.intro he15 h16)) ?_
      have nh16 := nzQ h16
      try have hr17 := mpQ nh16
      refine bindC_intro omQ ?_
      have he18 : ∀ d, elt (x1.1.L.map e_api_Item) 3 d = e_api_Item (gt x1.1.L 3) := fun d => elt_mp (l := x1.1.L) (f := e_api_Item) (i := 3) omQ d
      refine spQA (And.intro he12 (And.intro he15 he18)) ?_
      refine condC_intro (fun h19 => ?_) (fun h19 => ?_)
      ·rw [if_pos h19] at hM
       refine spQA (And.intro he12 (And.intro he15 (And.intro he18 h19))) ?_
       have nh19 := nzQ h19
       try have hr20 := mpQ nh19
       subst hM
       exact retC_view (lfQA (And.intro he12 (And.intro he15 (And.intro he18 (And.intro h6 (And.intro h8 (And.intro h10 (And.intro h13 (And.intro h16 h19)))))))))
      ·rw [if_neg (ne_true h19)] at hM
       refine spQA (And.intro he12 (And.intro he15 (And.intro he18 h19))) ?_
       have nh19 := nzQ h19
       try have hr21 := mpQ nh19
       refine bindC_intro omQ ?_
       refine spQA (And.intro he12 (And.intro he15 he18)) ?_
       refine bindC_intro omQ ?_
       have he22 : ∀ d, elt (x1.1.L.map e_api_Item) 1 d = e_api_Item (gt x1.1.L 1) := fun d => elt_mp (l := x1.1.L) (f := e_api_Item) (i := 1) omQ d
       refine spQA (And.intro he12 (And.intro he15 (And.intro he18 he22))) ?_
       have hM0 := hM; clear hM; obtain ⟨x23, hx24, hM⟩ := letk_opn hM0; clear hM0
       have hcx23 := cmU hx24
       refine callC_give hcx23 (clQA (And.intro he12 (And.intro he15 (And.intro he18 he22)))) (clQA (And.intro he12 (And.intro he15 (And.intro he18 he22)))) (fun hw25 => ?_)
       replace hw25 := nzQ hw25
       refine spQA (And.intro he12 (And.intro he15 (And.intro he18 he22))) ?_
       refine condC_intro (fun h26 => ?_) (fun h26 => ?_)
       ·rw [if_pos h26] at hM
        refine spQA (And.intro he12 (And.intro he15 (And.intro he18 (And.intro he22 h26)))) ?_
        have nh26 := nzQ h26
        try have hr27 := mpQ nh26
        subst hM
        exact retC_view (lfQA (And.intro he12 (And.intro he15 (And.intro he18 (And.intro he22 (And.intro h6 (And.intro h8 (And.intro h10 (And.intro h13 (And.intro h16 (And.intro h19 h26)))))))))))
       ·rw [if_neg (ne_true h26)] at hM
        refine spQA (And.intro he12 (And.intro he15 (And.intro he18 (And.intro he22 h26)))) ?_
        have nh26 := nzQ h26
        try have hr28 := mpQ nh26
        have hM0 := hM; clear hM; obtain ⟨f29, d29, hf29, hd29, hM⟩ := iter_opn hM0; clear hM0
        refine ct_loopW (fun n S => ∃ p : Int × S_api_Payment × List S_api_Chain, S = (⟨[(2, .ptr 0 0), (4, .ptr 1 0), (6, .ptr 2 0), (9, .int .i64 p.1)], [(0, .var 4 true (.agg [.int .i64 p.2.1.Number, .sl none 80 true (p.2.1.Spends.map e_api_Spend), .sl none 81 true (p.2.1.Chains.map e_api_Chain), .sl none 5 true (p.2.1.Escrow.map e_api_Escrow)])), (1, .var 4 true (.agg [.int .i64 x1.1.Kind, .int .i64 x1.1.N, .sl none 1 false (x1.1.B.map (V.int .u8)), .sl none 4 true (x1.1.L.map e_api_Item)])), (2, .var 4 true (.agg [.int .i64 (gt x1.1.L 0).N, .sl none 80 true (x23.1.map e_api_Spend), .own 3, .sl (some true) 5 true []])), (3, .own 74 81 true none (p.2.2.map e_api_Chain))], 4⟩ : St) ∧ ((0 ≤ p.1) ∧ (p.1 ≤ ((gt x1.1.L 2).L.length : Int)) ∧ (((p.2.2).length : Int) ≤ p.1)) ∧ (((gt x1.1.L 2).L.length : Int) - p.1).toNat < n ∧ iter n f29 d29 p = r) ((((gt x1.1.L 2).L.length : Int) - 0).toNat + 1) _ _ (weak_nilV 2 2 74 rfl rfl (by decide)) sbQ (by simp only [go_sem, rowV_eq, rowV_eq0, List.length_replicate, rep_len, Int.toNat_natCast, ↓reduceIte, Nat.reduceEqDiff, Nat.reduceAdd, Int.reduceAdd, Nat.reduceMul, Nat.reduceLeDiff, Nat.reduceLT, Int.reduceLE, Int.reduceLT, Int.reduceNeg, Int.reduceToNat, map_st, mtL_repE, mtL_repM, subF, subH, mtO, mtB, mt, mtL, mtL_self, mt_self, ltV, ltL, ltB, eq_self, or_true, true_or, or_self, and_self, gt_cons0, gt_conss, Int.reduceSub]) ⟨(0, z_api_Payment, ([] : List S_api_Chain)), rfl, ⟨omQ, omQ, omQ⟩, (Nat.lt_succ_self _), hM⟩ ?_
        clear hM
        rintro n29 S ⟨p29, rfl, hfa29, hm29, hM⟩
        have hM0 := hM; clear hM; obtain ⟨ag29, hag29, hM⟩ := iter_step hM0 (by omega) hf29; clear hM0
        replace hfa29 := nzQ hfa29
        replace hm29 := nzQ hm29
        have ha29 : addI .i64 p29.1 1 = p29.1 + 1 := add_one omQ omQ
        refine spQA (And.intro he12 (And.intro he15 (And.intro he18 (And.intro he22 ha29)))) ?_
        refine bindC_intro omQ ?_
        refine spQA (And.intro he12 (And.intro he15 (And.intro he18 (And.intro he22 ha29)))) ?_
        refine condC_intro (fun h30 => ?_) (fun h30 => ?_)
        ·rw [if_pos h30] at hM
         refine spQA (And.intro he12 (And.intro he15 (And.intro he18 (And.intro he22 (And.intro ha29 h30))))) ?_
         have nh30 := nzQ h30
         try have hr31 := mpQ nh30
         have hF := (And.intro h6 (And.intro h8 (And.intro h10 (And.intro he12 (And.intro h13 (And.intro he15 (And.intro h16 (And.intro he18 (And.intro h19 (And.intro he22 (And.intro h26 (And.intro ha29 h30))))))))))))
         exact auQ
        ·rw [if_neg (ne_true h30)] at hM
         refine spQA (And.intro he12 (And.intro he15 (And.intro he18 (And.intro he22 (And.intro ha29 h30))))) ?_
         have nh30 := nzQ h30
         try have hr53 := mpQ nh30
         have hM0 := hM; clear hM; obtain ⟨f54, d54, hf54, hd54, hM⟩ := iter_opn hM0; clear hM0
         refine ct_loopW (fun n S => ∃ p : Int × S_api_Payment × List S_api_Escrow, S = (⟨[(2, .ptr 0 0), (4, .ptr 1 0), (6, .ptr 2 0), (15, .int .i64 p.1)], [(0, .var 4 true (.agg [.int .i64 p.2.1.Number, .sl none 80 true (p.2.1.Spends.map e_api_Spend), .sl none 81 true (p.2.1.Chains.map e_api_Chain), .sl none 5 true (p.2.1.Escrow.map e_api_Escrow)])), (1, .var 4 true (.agg [.int .i64 x1.1.Kind, .int .i64 x1.1.N, .sl none 1 false (x1.1.B.map (V.int .u8)), .sl none 4 true (x1.1.L.map e_api_Item)])), (2, .var 4 true (.agg [.int .i64 (gt x1.1.L 0).N, .sl none 80 true (x23.1.map e_api_Spend), .own 3, .own 4])), (3, .own 74 81 true none (p29.2.2.map e_api_Chain)), (4, .own 81 5 true none (p.2.2.map e_api_Escrow))], 5⟩ : St) ∧ ((0 ≤ p.1) ∧ (p.1 ≤ ((gt x1.1.L 3).L.length : Int)) ∧ (((p.2.2).length : Int) ≤ p.1)) ∧ (((gt x1.1.L 3).L.length : Int) - p.1).toNat < n ∧ iter n f54 d54 p = r) ((((gt x1.1.L 3).L.length : Int) - 0).toNat + 1) _ _ (weak_nilV 2 3 81 rfl rfl (by decide)) sbQ sbQ ⟨(0, p29.2.1, ([] : List S_api_Escrow)), rfl, ⟨omQ, omQ, omQ⟩, (Nat.lt_succ_self _), hM⟩ ?_
         clear hM
         rintro n54 S ⟨p54, rfl, hfa54, hm54, hM⟩
         have hM0 := hM; clear hM; obtain ⟨ag54, hag54, hM⟩ := iter_step hM0 (by omega) hf54; clear hM0
         replace hfa54 := nzQ hfa54
         replace hm54 := nzQ hm54
         have ha54 : addI .i64 p54.1 1 = p54.1 + 1 := add_one omQ omQ
         refine spQA (And.intro he12 (And.intro he15 (And.intro he18 (And.intro he22 (And.intro ha29 ha54))))) ?_
         have hF := (And.intro h6 (And.intro h8 (And.intro h10 (And.intro he12 (And.intro h13 (And.intro he15 (And.intro h16 (And.intro he18 (And.intro h19 (And.intro he22 (And.intro h26 (And.intro ha29 (And.intro h30 ha54)))))))))))))
         exact auQ
     ·rw [if_pos h16] at hM
      refine spQA (And.intro he12 (And.intro he15 h16)) ?_
      have nh16 := nzQ h16
      try have hr65 := mpQ nh16
      subst hM
      exact retC_view (lfQA (And.intro he12 (And.intro he15 (And.intro h6 (And.intro h8 (And.intro h10 (And.intro h13 h16)))))))
    ·rw [if_pos h13] at hM
     refine spQA (And.intro he12 h13) ?_
     have nh13 := nzQ h13
     try have hr66 := mpQ nh13
     subst hM
     exact retC_view (lfQA (And.intro he12 (And.intro h6 (And.intro h8 (And.intro h10 h13)))))
   ·rw [if_pos h10] at hM
    refine spQA h10 ?_
    have nh10 := nzQ h10
    try have hr67 := mpQ nh10
    subst hM
    exact retC_view (lfQA (And.intro h6 (And.intro h8 h10)))
  ·rw [if_pos h8] at hM
   refine spQA h8 ?_
   have nh8 := nzQ h8
   try have hr68 := mpQ nh8
   subst hM
   exact retC_view (lfQA (And.intro h6 h8))
 ·rw [if_pos h6] at hM
  refine spQA h6 ?_
  have nh6 := nzQ h6
  try have hr69 := mpQ nh6
  subst hM
  exact retC_view (lfQA h6)
set_option maxHeartbeats 2000000 in
set_option maxRecDepth 100000 in
theorem payment_spends_ok   (p_ : S_api_Payment) (hp0 : SmallP p_) : CM En (payment_spends p_) 50 [.agg [.int .i64 p_.Number, .sl none 80 true (p_.Spends.map e_api_Spend), .sl none 81 true (p_.Chains.map e_api_Chain), .sl none 5 true (p_.Escrow.map e_api_Escrow)]] (fun y => .sl none 80 true (y.map e_api_Spend)) (fun _ => []) := by
 refine cmQ fun r hM => ?_
 rw [payment_spends.eq_1] at hM
 refine enterV En_ok En_mo noJ Try.func50 rfl Try.ntmps50 (by kernel_rfl) fun hw => ct_start ?_
 refine spQ ?_
 replace hw := nzQ hw
 refine bindC_intro (by (first | exact omQ | (clear hM; first | (have h9 := hp0.s.1; have h8 := hp0.c.1; exact omQ')))) ?_
 refine spQ ?_
 have hM0 := hM; clear hM; obtain ⟨f1, d1, hf1, hd1, hM⟩ := iter_opn hM0; clear hM0
 refine ct_loop (fun n S => ∃ p : Int × List S_api_Spend, S = (⟨[(3, .own 1), (11, .sl none 81 true (p_.Chains.map e_api_Chain)), (12, .int .i64 (p_.Chains.length : Int)), (13, .int .i64 p.1)], [(1, .own 59 80 true none (p.2.map e_api_Spend))], 2⟩ : St) ∧ (((0 ≤ p.1) ∧ (p.1 ≤ (p_.Chains.length : Int))) ∧ (((p.2).length : Int) ≤ 60 + 13 * p.1)) ∧ ((p_.Chains.length : Int) - p.1).toNat < n ∧ iter n f1 d1 p = r) (((p_.Chains.length : Int) - 0).toNat + 1) _ sbQ sbQ ⟨(0, (([] : List S_api_Spend) ++ p_.Spends)), rfl, ⟨⟨by (first | exact omQ | (clear hM; first | (have h9 := hp0.s.1; have h8 := hp0.c.1; exact omQ') | (have h9 := hp0.s.1; have h8 := hp0.c.1; have h7 := (hp0.c.2 _ (gt_mem (l := p_.Chains) (i := p1.1) (by omega))).1; exact omQ'))), by (first | exact omQ | (clear hM; first | (have h9 := hp0.s.1; have h8 := hp0.c.1; exact omQ') | (have h9 := hp0.s.1; have h8 := hp0.c.1; have h7 := (hp0.c.2 _ (gt_mem (l := p_.Chains) (i := p1.1) (by omega))).1; exact omQ')))⟩, by (have h9 := hp0.s.1; exact omQ')⟩, (Nat.lt_succ_self _), hM⟩ ?_
 clear hM
 rintro n1 S ⟨p1, rfl, ⟨hfa1, hF3_0⟩, hm1, hM⟩
 have hM0 := hM; clear hM; obtain ⟨ag1, hag1, hM⟩ := iter_step hM0 (by omega) hf1; clear hM0
 replace hfa1 := nzQ hfa1
 replace hm1 := nzQ hm1
 have ha1 : addI .i64 p1.1 1 = p1.1 + 1 := add_one (by (first | exact omQ | (clear hM; first | (have h9 := hp0.s.1; have h8 := hp0.c.1; exact omQ') | (have h9 := hp0.s.1; have h8 := hp0.c.1; have h7 := (hp0.c.2 _ (gt_mem (l := p_.Chains) (i := p1.1) (by omega))).1; exact omQ')))) (by (first | exact omQ | (clear hM; first | (have h9 := hp0.s.1; have h8 := hp0.c.1; exact omQ') | (have h9 := hp0.s.1; have h8 := hp0.c.1; have h7 := (hp0.c.2 _ (gt_mem (l := p_.Chains) (i := p1.1) (by omega))).1; exact omQ'))))
 refine spQA ha1 ?_
 refine condC_intro (fun h2 => ?_) (fun h2 => ?_)
 ·rw [if_pos h2] at hM
  refine spQA (And.intro ha1 h2) ?_
  have nh2 := nzQ h2
  try have hr3 := mpQ nh2
  refine bindC_intro (by (first | exact omQ | (clear hM; first | (have h9 := hp0.s.1; have h8 := hp0.c.1; exact omQ') | (have h9 := hp0.s.1; have h8 := hp0.c.1; have h7 := (hp0.c.2 _ (gt_mem (l := p_.Chains) (i := p1.1) (by omega))).1; exact omQ')))) ?_
  have he4 := fun d => elt_mp (l := p_.Chains) (f := e_api_Chain) (i := p1.1) (by (first | exact omQ | (clear hM; first | (have h9 := hp0.s.1; have h8 := hp0.c.1; exact omQ') | (have h9 := hp0.s.1; have h8 := hp0.c.1; have h7 := (hp0.c.2 _ (gt_mem (l := p_.Chains) (i := p1.1) (by omega))).1; exact omQ')))) d
  refine spQA (And.intro ha1 he4) ?_
  refine ct_draw 27 7 [17, 18, 19, 20, 21, 22, 23] [] ([[], [], [1], [1, 2], [0, 1, 2, 3], [], [5]] ++ [List.range 7, List.range 8]) [(4, 1)] (by kernel_rfl) (by exact alQ) ?_
  refine spQA (And.intro ha1 he4) ?_
  refine hbindC_introA (by (first | exact omQ | (clear hM; first | (have h9 := hp0.s.1; have h8 := hp0.c.1; exact omQ') | (have h9 := hp0.s.1; have h8 := hp0.c.1; have h7 := (hp0.c.2 _ (gt_mem (l := p_.Chains) (i := p1.1) (by omega))).1; exact omQ')))) clQ ?_
  refine spQA (And.intro ha1 he4) ?_
  refine bindC_intro (by (first | exact omQ | (clear hM; first | (have h9 := hp0.s.1; have h8 := hp0.c.1; exact omQ') | (have h9 := hp0.s.1; have h8 := hp0.c.1; have h7 := (hp0.c.2 _ (gt_mem (l := p_.Chains) (i := p1.1) (by omega))).1; exact omQ')))) ?_
  refine spQA (And.intro ha1 he4) ?_
  refine lp_introW (n1 - 1) _ _ (by omega) (weak_ren (S := ⟨_, _, _⟩) 3 1 7 (T := 59) (n := 80) (g := true) (z := (zApp ((gt p_.Chains p1.1).L.map e_api_Spend))) (l := ((p1.2 ++ ([(gt p_.Chains p1.1).First] : List S_api_Spend)) ++ (gt p_.Chains p1.1).L).map e_api_Spend) (clQA (And.intro ha1 he4)) (clQA (And.intro ha1 he4)) (by first | decide | (dsimp only; decide)) (by decide)) sbQ sbQ ⟨((p1.1 + 1), ((p1.2 ++ ([(gt p_.Chains p1.1).First] : List S_api_Spend)) ++ (gt p_.Chains p1.1).L)), rfl, ⟨⟨by (first | exact omQ | (clear hM; first | (have h9 := hp0.s.1; have h8 := hp0.c.1; exact omQ') | (have h9 := hp0.s.1; have h8 := hp0.c.1; have h7 := (hp0.c.2 _ (gt_mem (l := p_.Chains) (i := (p1.1 + 1)) (by omega))).1; exact omQ'))), by (first | exact omQ | (clear hM; first | (have h9 := hp0.s.1; have h8 := hp0.c.1; exact omQ') | (have h9 := hp0.s.1; have h8 := hp0.c.1; have h7 := (hp0.c.2 _ (gt_mem (l := p_.Chains) (i := (p1.1 + 1)) (by omega))).1; exact omQ')))⟩, by (have h7 := (hp0.c.2 _ (gt_mem (l := p_.Chains) (i := p1.1) (by omega))).1; clear hM; exact omQ')⟩, by (first | exact omQ | (clear hM; first | (have h9 := hp0.s.1; have h8 := hp0.c.1; exact omQ') | (have h9 := hp0.s.1; have h8 := hp0.c.1; have h7 := (hp0.c.2 _ (gt_mem (l := p_.Chains) (i := (p1.1 + 1)) (by omega))).1; exact omQ'))), iter_again hM hag1⟩
 ·rw [if_neg (ne_true h2)] at hM
  refine spQA (And.intro ha1 h2) ?_
  have nh2 := nzQ h2
  try have hr5 := mpQ nh2
  subst hM
  exact retC_view (lfQA (And.intro ha1 h2))
set_option maxHeartbeats 2000000 in
set_option maxRecDepth 100000 in
theorem payment_Leaves_ok   (p_ : S_api_Payment) (hp0 : SmallP p_) : CM En (payment_Leaves p_) 14 [.agg [.int .i64 p_.Number, .sl none 80 true (p_.Spends.map e_api_Spend), .sl none 81 true (p_.Chains.map e_api_Chain), .sl none 5 true (p_.Escrow.map e_api_Escrow)]] (fun y => .sl none 83 true (y.map e_api_Use)) (fun _ => []) := by
 refine cmQ fun r hM => ?_
 rw [payment_Leaves.eq_1] at hM
 refine enterV En_ok En_mo noJ Try.func14 rfl Try.ntmps14 (by kernel_rfl) fun hw => ct_start ?_
 refine spQ ?_
 replace hw := nzQ hw
 have hM0 := hM; clear hM; obtain ⟨x1, hx2, hM⟩ := letk_opn hM0; clear hM0
 have hcx1 := cmH hx2 (payment_spends_ok  p_ (by (exact hp0)))
 refine callC_give hcx1 clQ clQ (fun hw3 => ?_)
 replace hw3 := nzQ hw3
 refine spQ ?_
 have hq4 := spends_small hp0 hx2
 replace hq4 := nzQ hq4
 have hM0 := hM; clear hM; obtain ⟨f5, d5, hf5, hd5, hM⟩ := iter_opn hM0; clear hM0
 refine ct_loopW (fun n S => ∃ p : Int × List S_api_Use, S = (⟨[(3, .own 1), (9, .sl none 80 true (x1.map e_api_Spend)), (10, .int .i64 (x1.length : Int)), (11, .int .i64 p.1)], [(1, .own 61 83 true none (p.2.map e_api_Use))], 2⟩ : St) ∧ (((0 ≤ p.1) ∧ (p.1 ≤ (x1.length : Int))) ∧ (((p.2).length : Int) ≤ 40 * p.1)) ∧ ((x1.length : Int) - p.1).toNat < n ∧ iter n f5 d5 p = r) (((x1.length : Int) - 0).toNat + 1) _ _ (weak_nil 3 61 rfl (by decide)) sbQ sbQ ⟨(0, ([] : List S_api_Use)), rfl, ⟨⟨by (first | exact omQ | (clear hM; first | (have h9 := leaf_le (i := p5.1) (by assumption) (by omega); exact omQ'))), by (first | exact omQ | (clear hM; first | (have h9 := leaf_le (i := p5.1) (by assumption) (by omega); exact omQ')))⟩, by exact omQ'⟩, (Nat.lt_succ_self _), hM⟩ ?_
 clear hM
 rintro n5 S ⟨p5, rfl, ⟨hfa5, hF3_0⟩, hm5, hM⟩
 have hM0 := hM; clear hM; obtain ⟨ag5, hag5, hM⟩ := iter_step hM0 (by omega) hf5; clear hM0
 replace hfa5 := nzQ hfa5
 replace hm5 := nzQ hm5
 have ha5 : addI .i64 p5.1 1 = p5.1 + 1 := add_one (by (first | exact omQ | (clear hM; first | (have h9 := leaf_le (i := p5.1) (by assumption) (by omega); exact omQ')))) (by (first | exact omQ | (clear hM; first | (have h9 := leaf_le (i := p5.1) (by assumption) (by omega); exact omQ'))))
 refine spQA ha5 ?_
 refine condC_intro (fun h6 => ?_) (fun h6 => ?_)
 ·rw [if_pos h6] at hM
  refine spQA (And.intro ha5 h6) ?_
  have nh6 := nzQ h6
  try have hr7 := mpQ nh6
  refine bindC_intro (by (first | exact omQ | (clear hM; first | (have h9 := leaf_le (i := p5.1) (by assumption) (by omega); exact omQ')))) ?_
  have he8 := fun d => elt_mp (l := x1) (f := e_api_Spend) (i := p5.1) (by (first | exact omQ | (clear hM; first | (have h9 := leaf_le (i := p5.1) (by assumption) (by omega); exact omQ')))) d
  refine spQA (And.intro ha5 he8) ?_
  have hM0 := hM; clear hM; obtain ⟨f9, d9, hf9, hd9, hM⟩ := iter_opn hM0; clear hM0
  refine ct_loop (fun n S => ∃ p : Int × List S_api_Use, S = (⟨[(3, .own 1), (5, .ptr 2 0), (9, .sl none 80 true (x1.map e_api_Spend)), (10, .int .i64 (x1.length : Int)), (11, .int .i64 p5.1), (16, .sl none 3 true ((gt x1 p5.1).Leaves.map e_api_Leaf)), (17, .int .i64 ((gt x1 p5.1).Leaves.length : Int)), (18, .int .i64 p.1)], [(1, .own 61 83 true none (p.2.map e_api_Use)), (2, .var 80 true ((e_api_Spend (gt x1 p5.1))))], 3⟩ : St) ∧ ((0 ≤ p.1) ∧ (p.1 ≤ ((gt x1 p5.1).Leaves.length : Int)) ∧ (((p.2).length : Int) ≤ 40 * p5.1 + p.1)) ∧ (((gt x1 p5.1).Leaves.length : Int) - p.1).toNat < n ∧ iter n f9 d9 p = r) ((((gt x1 p5.1).Leaves.length : Int) - 0).toNat + 1) _ sbQ sbQ ⟨(0, p5.2), rfl, ⟨by (first | exact omQ | (clear hM; first | (have h9 := leaf_le (i := p5.1) (by assumption) (by omega); exact omQ'))), by (first | exact omQ | (clear hM; first | (have h9 := leaf_le (i := p5.1) (by assumption) (by omega); exact omQ'))), by (first | exact omQ | (clear hM; first | (have h9 := leaf_le (i := p5.1) (by assumption) (by omega); exact omQ')))⟩, (Nat.lt_succ_self _), hM⟩ ?_
  clear hM
  rintro n9 S ⟨p9, rfl, hfa9, hm9, hM⟩
  have hM0 := hM; clear hM; obtain ⟨ag9, hag9, hM⟩ := iter_step hM0 (by omega) hf9; clear hM0
  replace hfa9 := nzQ hfa9
  replace hm9 := nzQ hm9
  have ha9 : addI .i64 p9.1 1 = p9.1 + 1 := add_one (by (first | exact omQ | (clear hM; first | (have h9 := leaf_le (i := p5.1) (by assumption) (by omega); exact omQ')))) (by (first | exact omQ | (clear hM; first | (have h9 := leaf_le (i := p5.1) (by assumption) (by omega); exact omQ'))))
  refine spQA (And.intro ha5 (And.intro he8 ha9)) ?_
  refine condC_intro (fun h10 => ?_) (fun h10 => ?_)
  ·rw [if_pos h10] at hM
   refine spQA (And.intro ha5 (And.intro he8 (And.intro ha9 h10))) ?_
   have nh10 := nzQ h10
   try have hr11 := mpQ nh10
   refine bindC_intro (by (first | exact omQ | (clear hM; first | (have h9 := leaf_le (i := p5.1) (by assumption) (by omega); exact omQ')))) ?_
   have he12 := fun d => elt_mp (l := (gt x1 p5.1).Leaves) (f := e_api_Leaf) (i := p9.1) (by (first | exact omQ | (clear hM; first | (have h9 := leaf_le (i := p5.1) (by assumption) (by omega); exact omQ')))) d
   refine spQA (And.intro ha5 (And.intro he8 (And.intro ha9 he12))) ?_
   refine bindC_intro (by (first | exact omQ | (clear hM; first | (have h9 := leaf_le (i := p5.1) (by assumption) (by omega); exact omQ')))) ?_
   refine spQA (And.intro ha5 (And.intro he8 (And.intro ha9 he12))) ?_
   refine lp_intro (n9 - 1) _ (by omega) sbQ sbQ ⟨((p9.1 + 1), (p9.2 ++ ([({ A := (gt x1 p5.1).Coin.A, B := (gt (gt x1 p5.1).Leaves p9.1).B, Spend := (gt x1 p5.1), Leaf := p9.1 } : S_api_Use)] : List S_api_Use))), rfl, ⟨by (first | exact omQ | (clear hM; first | (have h9 := leaf_le (i := p5.1) (by assumption) (by omega); exact omQ'))), by (first | exact omQ | (clear hM; first | (have h9 := leaf_le (i := p5.1) (by assumption) (by omega); exact omQ'))), by (first | exact omQ | (clear hM; first | (have h9 := leaf_le (i := p5.1) (by assumption) (by omega); exact omQ')))⟩, by (first | exact omQ | (clear hM; first | (have h9 := leaf_le (i := p5.1) (by assumption) (by omega); exact omQ'))), iter_again hM hag9⟩
  ·rw [if_neg (ne_true h10)] at hM
   refine spQA (And.intro ha5 (And.intro he8 (And.intro ha9 h10))) ?_
   have nh10 := nzQ h10
   try have hr13 := mpQ nh10
   refine lp_intro (n5 - 1) _ (by omega) sbQ sbQ ⟨((p5.1 + 1), p9.2), rfl, ⟨⟨by (first | exact omQ | (clear hM; first | (have h9 := leaf_le (i := (p5.1 + 1)) (by assumption) (by omega); exact omQ'))), by (first | exact omQ | (clear hM; first | (have h9 := leaf_le (i := (p5.1 + 1)) (by assumption) (by omega); exact omQ')))⟩, by (have h9 := leaf_le (i := p5.1) (by assumption) (by omega); clear hM; exact omQ')⟩, by (first | exact omQ | (clear hM; first | (have h9 := leaf_le (i := (p5.1 + 1)) (by assumption) (by omega); exact omQ'))), iter_again hM hag5⟩
 ·rw [if_neg (ne_true h6)] at hM
  refine spQA (And.intro ha5 h6) ?_
  have nh6 := nzQ h6
  try have hr14 := mpQ nh6
  subst hM
  exact retC_view (lfQA (And.intro ha5 h6))
set_option maxHeartbeats 2000000 in
set_option maxRecDepth 100000 in
theorem specieref38_Spends_ok   (p_ : S_api_Payment) (hp0 : SmallP p_) : CM En (specieref38_Spends p_) 51 [.agg [.int .i64 p_.Number, .sl none 80 true (p_.Spends.map e_api_Spend), .sl none 81 true (p_.Chains.map e_api_Chain), .sl none 5 true (p_.Escrow.map e_api_Escrow)]] (fun y => .sl none 80 true (y.map e_api_Spend)) (fun _ => []) := by
 refine cmQ fun r hM => ?_
 rw [specieref38_Spends.eq_1] at hM
 refine enterV En_ok En_mo noJ Try.func51 rfl Try.ntmps51 (by kernel_rfl) fun hw => ct_start ?_
 refine spQ ?_
 replace hw := nzQ hw
 have hM0 := hM; clear hM; obtain ⟨f1, d1, hf1, hd1, hM⟩ := iter_opn hM0; clear hM0
 refine ct_loopW (fun n S => ∃ p : Int × List S_api_Spend, S = (⟨[(1, .ptr 0 0), (3, .own 1), (4, .int .i64 p.1)], [(0, .var 4 true (.agg [.int .i64 p_.Number, .sl none 80 true (p_.Spends.map e_api_Spend), .sl none 81 true (p_.Chains.map e_api_Chain), .sl none 5 true (p_.Escrow.map e_api_Escrow)])), (1, .own 59 80 true none (p.2.map e_api_Spend))], 2⟩ : St) ∧ ((0 ≤ p.1) ∧ (p.1 ≤ (p_.Spends.length : Int)) ∧ (((p.2).length : Int) ≤ p.1)) ∧ ((p_.Spends.length : Int) - p.1).toNat < n ∧ iter n f1 d1 p = r) (((p_.Spends.length : Int) - 0).toNat + 1) _ _ (weak_nil 3 59 rfl (by decide)) sbQ sbQ ⟨(0, ([] : List S_api_Spend)), rfl, ⟨by (first | exact omQ | (clear hM; first | (have h9 := hp0.s.1; have h8 := hp0.c.1; exact omQ'))), by (first | exact omQ | (clear hM; first | (have h9 := hp0.s.1; have h8 := hp0.c.1; exact omQ'))), by (first | exact omQ | (clear hM; first | (have h9 := hp0.s.1; have h8 := hp0.c.1; exact omQ')))⟩, (Nat.lt_succ_self _), hM⟩ ?_
 clear hM
 rintro n1 S ⟨p1, rfl, hfa1, hm1, hM⟩
 have hM0 := hM; clear hM; obtain ⟨ag1, hag1, hM⟩ := iter_step hM0 (by omega) hf1; clear hM0
 replace hfa1 := nzQ hfa1
 replace hm1 := nzQ hm1
 have ha1 : addI .i64 p1.1 1 = p1.1 + 1 := add_one (by (first | exact omQ | (clear hM; first | (have h9 := hp0.s.1; have h8 := hp0.c.1; exact omQ')))) (by (first | exact omQ | (clear hM; first | (have h9 := hp0.s.1; have h8 := hp0.c.1; exact omQ'))))
 refine spQA ha1 ?_
 refine condC_intro (fun h2 => ?_) (fun h2 => ?_)
 ·rw [if_pos h2] at hM
  refine spQA (And.intro ha1 h2) ?_
  have nh2 := nzQ h2
  try have hr3 := mpQ nh2
  refine bindC_intro (by (first | exact omQ | (clear hM; first | (have h9 := hp0.s.1; have h8 := hp0.c.1; exact omQ')))) ?_
  have he4 := fun d => elt_mp (l := p_.Spends) (f := e_api_Spend) (i := p1.1) (by (first | exact omQ | (clear hM; first | (have h9 := hp0.s.1; have h8 := hp0.c.1; exact omQ')))) d
  refine spQA (And.intro ha1 he4) ?_
  refine bindC_intro (by (first | exact omQ | (clear hM; first | (have h9 := hp0.s.1; have h8 := hp0.c.1; exact omQ')))) ?_
  refine spQA (And.intro ha1 he4) ?_
  refine lp_intro (n1 - 1) _ (by omega) sbQ sbQ ⟨((p1.1 + 1), (p1.2 ++ ([(gt p_.Spends p1.1)] : List S_api_Spend))), rfl, ⟨by (first | exact omQ | (clear hM; first | (have h9 := hp0.s.1; have h8 := hp0.c.1; exact omQ'))), by (first | exact omQ | (clear hM; first | (have h9 := hp0.s.1; have h8 := hp0.c.1; exact omQ'))), by (first | exact omQ | (clear hM; first | (have h9 := hp0.s.1; have h8 := hp0.c.1; exact omQ')))⟩, by (first | exact omQ | (clear hM; first | (have h9 := hp0.s.1; have h8 := hp0.c.1; exact omQ'))), iter_again hM hag1⟩
 ·rw [if_neg (ne_true h2)] at hM
  refine spQA (And.intro ha1 h2) ?_
  have nh2 := nzQ h2
  try have hr5 := mpQ nh2
  have hM0 := hM; clear hM; obtain ⟨f6, d6, hf6, hd6, hM⟩ := iter_opn hM0; clear hM0
  refine ct_loop (fun n S => ∃ p : Int × List S_api_Spend, S = (⟨[(1, .ptr 0 0), (3, .own 1), (5, .int .i64 p.1)], [(0, .var 4 true (.agg [.int .i64 p_.Number, .sl none 80 true (p_.Spends.map e_api_Spend), .sl none 81 true (p_.Chains.map e_api_Chain), .sl none 5 true (p_.Escrow.map e_api_Escrow)])), (1, .own 59 80 true none (p.2.map e_api_Spend))], 2⟩ : St) ∧ (((0 ≤ p.1) ∧ (p.1 ≤ (p_.Chains.length : Int))) ∧ (((p.2).length : Int) ≤ 60 + 13 * p.1)) ∧ ((p_.Chains.length : Int) - p.1).toNat < n ∧ iter n f6 d6 p = r) (((p_.Chains.length : Int) - 0).toNat + 1) _ sbQ sbQ ⟨(0, p1.2), rfl, ⟨⟨by (first | exact omQ | (clear hM; first | (have h9 := hp0.s.1; have h8 := hp0.c.1; exact omQ') | (have h9 := hp0.s.1; have h8 := hp0.c.1; have h7 := (hp0.c.2 _ (gt_mem (l := p_.Chains) (i := p6.1) (by omega))).1; exact omQ'))), by (first | exact omQ | (clear hM; first | (have h9 := hp0.s.1; have h8 := hp0.c.1; exact omQ') | (have h9 := hp0.s.1; have h8 := hp0.c.1; have h7 := (hp0.c.2 _ (gt_mem (l := p_.Chains) (i := p6.1) (by omega))).1; exact omQ')))⟩, by (have h9 := hp0.s.1; exact omQ')⟩, (Nat.lt_succ_self _), hM⟩ ?_
  clear hM
  rintro n6 S ⟨p6, rfl, ⟨hfa6, hF7_0⟩, hm6, hM⟩
  have hM0 := hM; clear hM; obtain ⟨ag6, hag6, hM⟩ := iter_step hM0 (by omega) hf6; clear hM0
  replace hfa6 := nzQ hfa6
  replace hm6 := nzQ hm6
  have ha6 : addI .i64 p6.1 1 = p6.1 + 1 := add_one (by (first | exact omQ | (clear hM; first | (have h9 := hp0.s.1; have h8 := hp0.c.1; exact omQ') | (have h9 := hp0.s.1; have h8 := hp0.c.1; have h7 := (hp0.c.2 _ (gt_mem (l := p_.Chains) (i := p6.1) (by omega))).1; exact omQ')))) (by (first | exact omQ | (clear hM; first | (have h9 := hp0.s.1; have h8 := hp0.c.1; exact omQ') | (have h9 := hp0.s.1; have h8 := hp0.c.1; have h7 := (hp0.c.2 _ (gt_mem (l := p_.Chains) (i := p6.1) (by omega))).1; exact omQ'))))
  refine spQA (And.intro ha1 ha6) ?_
  refine condC_intro (fun h7 => ?_) (fun h7 => ?_)
  ·rw [if_pos h7] at hM
   refine spQA (And.intro ha1 (And.intro ha6 h7)) ?_
   have nh7 := nzQ h7
   try have hr8 := mpQ nh7
   refine bindC_intro (by (first | exact omQ | (clear hM; first | (have h9 := hp0.s.1; have h8 := hp0.c.1; exact omQ') | (have h9 := hp0.s.1; have h8 := hp0.c.1; have h7 := (hp0.c.2 _ (gt_mem (l := p_.Chains) (i := p6.1) (by omega))).1; exact omQ')))) ?_
   have he9 := fun d => elt_mp (l := p_.Chains) (f := e_api_Chain) (i := p6.1) (by (first | exact omQ | (clear hM; first | (have h9 := hp0.s.1; have h8 := hp0.c.1; exact omQ') | (have h9 := hp0.s.1; have h8 := hp0.c.1; have h7 := (hp0.c.2 _ (gt_mem (l := p_.Chains) (i := p6.1) (by omega))).1; exact omQ')))) d
   refine spQA (And.intro ha1 (And.intro ha6 he9)) ?_
   have hM0 := hM; clear hM; obtain ⟨x10, hx11, hM⟩ := letk_opn hM0; clear hM0
   have hcx10 := cmH hx11 (specieref35_Spends_ok  (gt p_.Chains p6.1) (by (have h7 := (hp0.c.2 _ (gt_mem (l := p_.Chains) (i := p6.1) (by omega))).1; omega)))
   refine callC_give hcx10 (clQA (And.intro ha1 (And.intro ha6 he9))) (clQA (And.intro ha1 (And.intro ha6 he9))) (fun hw12 => ?_)
   replace hw12 := nzQ hw12
   refine spQA (And.intro ha1 (And.intro ha6 he9)) ?_
   have hq13 := rs_len hx11
   replace hq13 := nzQ hq13
   have hM0 := hM; clear hM; obtain ⟨f14, d14, hf14, hd14, hM⟩ := iter_opn hM0; clear hM0
   refine ct_loop (fun n S => ∃ p : Int × List S_api_Spend, S = (⟨[(1, .ptr 0 0), (3, .own 1), (5, .int .i64 p6.1), (6, .sl none 80 true (x10.map e_api_Spend)), (7, .int .i64 p.1)], [(0, .var 4 true (.agg [.int .i64 p_.Number, .sl none 80 true (p_.Spends.map e_api_Spend), .sl none 81 true (p_.Chains.map e_api_Chain), .sl none 5 true (p_.Escrow.map e_api_Escrow)])), (1, .own 59 80 true none (p.2.map e_api_Spend))], 2⟩ : St) ∧ ((0 ≤ p.1) ∧ (p.1 ≤ (x10.length : Int)) ∧ (((p.2).length : Int) ≤ 60 + 13 * p6.1 + p.1)) ∧ ((x10.length : Int) - p.1).toNat < n ∧ iter n f14 d14 p = r) (((x10.length : Int) - 0).toNat + 1) _ sbQ sbQ ⟨(0, p6.2), rfl, ⟨by (first | exact omQ | (clear hM; first | (have h9 := hp0.s.1; have h8 := hp0.c.1; exact omQ') | (have h9 := hp0.s.1; have h8 := hp0.c.1; have h7 := (hp0.c.2 _ (gt_mem (l := p_.Chains) (i := p6.1) (by omega))).1; exact omQ'))), by (first | exact omQ | (clear hM; first | (have h9 := hp0.s.1; have h8 := hp0.c.1; exact omQ') | (have h9 := hp0.s.1; have h8 := hp0.c.1; have h7 := (hp0.c.2 _ (gt_mem (l := p_.Chains) (i := p6.1) (by omega))).1; exact omQ'))), by (first | exact omQ | (clear hM; first | (have h9 := hp0.s.1; have h8 := hp0.c.1; exact omQ') | (have h9 := hp0.s.1; have h8 := hp0.c.1; have h7 := (hp0.c.2 _ (gt_mem (l := p_.Chains) (i := p6.1) (by omega))).1; exact omQ')))⟩, (Nat.lt_succ_self _), hM⟩ ?_
   clear hM
   rintro n14 S ⟨p14, rfl, hfa14, hm14, hM⟩
   have hM0 := hM; clear hM; obtain ⟨ag14, hag14, hM⟩ := iter_step hM0 (by omega) hf14; clear hM0
   replace hfa14 := nzQ hfa14
   replace hm14 := nzQ hm14
   have ha14 : addI .i64 p14.1 1 = p14.1 + 1 := add_one (by (first | exact omQ | (clear hM; first | (have h9 := hp0.s.1; have h8 := hp0.c.1; exact omQ') | (have h9 := hp0.s.1; have h8 := hp0.c.1; have h7 := (hp0.c.2 _ (gt_mem (l := p_.Chains) (i := p6.1) (by omega))).1; exact omQ')))) (by (first | exact omQ | (clear hM; first | (have h9 := hp0.s.1; have h8 := hp0.c.1; exact omQ') | (have h9 := hp0.s.1; have h8 := hp0.c.1; have h7 := (hp0.c.2 _ (gt_mem (l := p_.Chains) (i := p6.1) (by omega))).1; exact omQ'))))
   refine spQA (And.intro ha1 (And.intro ha6 (And.intro he9 ha14))) ?_
   refine condC_intro (fun h15 => ?_) (fun h15 => ?_)
   ·rw [if_pos h15] at hM
    refine spQA (And.intro ha1 (And.intro ha6 (And.intro he9 (And.intro ha14 h15)))) ?_
    have nh15 := nzQ h15
    try have hr16 := mpQ nh15
    refine bindC_intro (by (first | exact omQ | (clear hM; first | (have h9 := hp0.s.1; have h8 := hp0.c.1; exact omQ') | (have h9 := hp0.s.1; have h8 := hp0.c.1; have h7 := (hp0.c.2 _ (gt_mem (l := p_.Chains) (i := p6.1) (by omega))).1; exact omQ')))) ?_
    have he17 := fun d => elt_mp (l := x10) (f := e_api_Spend) (i := p14.1) (by (first | exact omQ | (clear hM; first | (have h9 := hp0.s.1; have h8 := hp0.c.1; exact omQ') | (have h9 := hp0.s.1; have h8 := hp0.c.1; have h7 := (hp0.c.2 _ (gt_mem (l := p_.Chains) (i := p6.1) (by omega))).1; exact omQ')))) d
    refine spQA (And.intro ha1 (And.intro ha6 (And.intro he9 (And.intro ha14 he17)))) ?_
    refine bindC_intro (by (first | exact omQ | (clear hM; first | (have h9 := hp0.s.1; have h8 := hp0.c.1; exact omQ') | (have h9 := hp0.s.1; have h8 := hp0.c.1; have h7 := (hp0.c.2 _ (gt_mem (l := p_.Chains) (i := p6.1) (by omega))).1; exact omQ')))) ?_
    refine spQA (And.intro ha1 (And.intro ha6 (And.intro he9 (And.intro ha14 he17)))) ?_
    refine lp_intro (n14 - 1) _ (by omega) sbQ sbQ ⟨((p14.1 + 1), (p14.2 ++ ([(gt x10 p14.1)] : List S_api_Spend))), rfl, ⟨by (first | exact omQ | (clear hM; first | (have h9 := hp0.s.1; have h8 := hp0.c.1; exact omQ') | (have h9 := hp0.s.1; have h8 := hp0.c.1; have h7 := (hp0.c.2 _ (gt_mem (l := p_.Chains) (i := p6.1) (by omega))).1; exact omQ'))), by (first | exact omQ | (clear hM; first | (have h9 := hp0.s.1; have h8 := hp0.c.1; exact omQ') | (have h9 := hp0.s.1; have h8 := hp0.c.1; have h7 := (hp0.c.2 _ (gt_mem (l := p_.Chains) (i := p6.1) (by omega))).1; exact omQ'))), by (first | exact omQ | (clear hM; first | (have h9 := hp0.s.1; have h8 := hp0.c.1; exact omQ') | (have h9 := hp0.s.1; have h8 := hp0.c.1; have h7 := (hp0.c.2 _ (gt_mem (l := p_.Chains) (i := p6.1) (by omega))).1; exact omQ')))⟩, by (first | exact omQ | (clear hM; first | (have h9 := hp0.s.1; have h8 := hp0.c.1; exact omQ') | (have h9 := hp0.s.1; have h8 := hp0.c.1; have h7 := (hp0.c.2 _ (gt_mem (l := p_.Chains) (i := p6.1) (by omega))).1; exact omQ'))), iter_again hM hag14⟩
   ·rw [if_neg (ne_true h15)] at hM
    refine spQA (And.intro ha1 (And.intro ha6 (And.intro he9 (And.intro ha14 h15)))) ?_
    have nh15 := nzQ h15
    try have hr18 := mpQ nh15
    refine lp_intro (n6 - 1) _ (by omega) sbQ sbQ ⟨((p6.1 + 1), p14.2), rfl, ⟨⟨by (first | exact omQ | (clear hM; first | (have h9 := hp0.s.1; have h8 := hp0.c.1; exact omQ') | (have h9 := hp0.s.1; have h8 := hp0.c.1; have h7 := (hp0.c.2 _ (gt_mem (l := p_.Chains) (i := (p6.1 + 1)) (by omega))).1; exact omQ'))), by (first | exact omQ | (clear hM; first | (have h9 := hp0.s.1; have h8 := hp0.c.1; exact omQ') | (have h9 := hp0.s.1; have h8 := hp0.c.1; have h7 := (hp0.c.2 _ (gt_mem (l := p_.Chains) (i := (p6.1 + 1)) (by omega))).1; exact omQ')))⟩, by (have h7 := (hp0.c.2 _ (gt_mem (l := p_.Chains) (i := p6.1) (by omega))).1; clear hM; exact omQ')⟩, by (first | exact omQ | (clear hM; first | (have h9 := hp0.s.1; have h8 := hp0.c.1; exact omQ') | (have h9 := hp0.s.1; have h8 := hp0.c.1; have h7 := (hp0.c.2 _ (gt_mem (l := p_.Chains) (i := (p6.1 + 1)) (by omega))).1; exact omQ'))), iter_again hM hag6⟩
  ·rw [if_neg (ne_true h7)] at hM
   refine spQA (And.intro ha1 (And.intro ha6 h7)) ?_
   have nh7 := nzQ h7
   try have hr19 := mpQ nh7
   subst hM
   exact retC_view (lfQA (And.intro ha1 (And.intro ha6 (And.intro h2 h7))))
set_option maxHeartbeats 2000000 in
set_option maxRecDepth 100000 in
theorem specieref38_Leaves_ok   (p_ : S_api_Payment) (hp0 : SmallP p_) : CM En (specieref38_Leaves p_) 15 [.agg [.int .i64 p_.Number, .sl none 80 true (p_.Spends.map e_api_Spend), .sl none 81 true (p_.Chains.map e_api_Chain), .sl none 5 true (p_.Escrow.map e_api_Escrow)]] (fun y => .sl none 83 true (y.map e_api_Use)) (fun _ => []) := by
 refine cmQ fun r hM => ?_
 rw [specieref38_Leaves.eq_1] at hM
 refine enterV En_ok En_mo noJ Try.func15 rfl Try.ntmps15 (by kernel_rfl) fun hw => ct_start ?_
 refine spQ ?_
 replace hw := nzQ hw
 have hM0 := hM; clear hM; obtain ⟨x1, hx2, hM⟩ := letk_opn hM0; clear hM0
 have hcx1 := cmH hx2 (specieref38_Spends_ok  p_ (by (exact hp0)))
 refine callC_give hcx1 clQ clQ (fun hw3 => ?_)
 replace hw3 := nzQ hw3
 refine spQ ?_
 have hq4 := rspends_small hp0 hx2
 replace hq4 := nzQ hq4
 have hM0 := hM; clear hM; obtain ⟨f5, d5, hf5, hd5, hM⟩ := iter_opn hM0; clear hM0
 refine ct_loopW (fun n S => ∃ p : Int × List S_api_Use, S = (⟨[(3, .own 1), (4, .sl none 80 true (x1.map e_api_Spend)), (5, .int .i64 p.1)], [(1, .own 61 83 true none (p.2.map e_api_Use))], 2⟩ : St) ∧ (((0 ≤ p.1) ∧ (p.1 ≤ (x1.length : Int))) ∧ (((p.2).length : Int) ≤ 40 * p.1)) ∧ ((x1.length : Int) - p.1).toNat < n ∧ iter n f5 d5 p = r) (((x1.length : Int) - 0).toNat + 1) _ _ (weak_nil 3 61 rfl (by decide)) sbQ sbQ ⟨(0, ([] : List S_api_Use)), rfl, ⟨⟨by (first | exact omQ | (clear hM; first | (have h9 := leaf_le (i := p5.1) (by assumption) (by omega); exact omQ'))), by (first | exact omQ | (clear hM; first | (have h9 := leaf_le (i := p5.1) (by assumption) (by omega); exact omQ')))⟩, by exact omQ'⟩, (Nat.lt_succ_self _), hM⟩ ?_
 clear hM
 rintro n5 S ⟨p5, rfl, ⟨hfa5, hF4_0⟩, hm5, hM⟩
 have hM0 := hM; clear hM; obtain ⟨ag5, hag5, hM⟩ := iter_step hM0 (by omega) hf5; clear hM0
 replace hfa5 := nzQ hfa5
 replace hm5 := nzQ hm5
 have ha5 : addI .i64 p5.1 1 = p5.1 + 1 := add_one (by (first | exact omQ | (clear hM; first | (have h9 := leaf_le (i := p5.1) (by assumption) (by omega); exact omQ')))) (by (first | exact omQ | (clear hM; first | (have h9 := leaf_le (i := p5.1) (by assumption) (by omega); exact omQ'))))
 refine spQA ha5 ?_
 refine condC_intro (fun h6 => ?_) (fun h6 => ?_)
 ·rw [if_pos h6] at hM
  refine spQA (And.intro ha5 h6) ?_
  have nh6 := nzQ h6
  try have hr7 := mpQ nh6
  have hM0 := hM; clear hM; obtain ⟨f8, d8, hf8, hd8, hM⟩ := iter_opn hM0; clear hM0
  refine ct_loop (fun n S => ∃ p : Int × List S_api_Use, S = (⟨[(3, .own 1), (4, .sl none 80 true (x1.map e_api_Spend)), (5, .int .i64 p5.1), (6, .int .i64 p.1)], [(1, .own 61 83 true none (p.2.map e_api_Use))], 2⟩ : St) ∧ ((0 ≤ p.1) ∧ (p.1 ≤ ((gt x1 p5.1).Leaves.length : Int)) ∧ (((p.2).length : Int) ≤ 40 * p5.1 + p.1)) ∧ (((gt x1 p5.1).Leaves.length : Int) - p.1).toNat < n ∧ iter n f8 d8 p = r) ((((gt x1 p5.1).Leaves.length : Int) - 0).toNat + 1) _ sbQ sbQ ⟨(0, p5.2), rfl, ⟨by (first | exact omQ | (clear hM; first | (have h9 := leaf_le (i := p5.1) (by assumption) (by omega); exact omQ'))), by (first | exact omQ | (clear hM; first | (have h9 := leaf_le (i := p5.1) (by assumption) (by omega); exact omQ'))), by (first | exact omQ | (clear hM; first | (have h9 := leaf_le (i := p5.1) (by assumption) (by omega); exact omQ')))⟩, (Nat.lt_succ_self _), hM⟩ ?_
  clear hM
  rintro n8 S ⟨p8, rfl, hfa8, hm8, hM⟩
  have hM0 := hM; clear hM; obtain ⟨ag8, hag8, hM⟩ := iter_step hM0 (by omega) hf8; clear hM0
  replace hfa8 := nzQ hfa8
  replace hm8 := nzQ hm8
  have ha8 : addI .i64 p8.1 1 = p8.1 + 1 := add_one (by (first | exact omQ | (clear hM; first | (have h9 := leaf_le (i := p5.1) (by assumption) (by omega); exact omQ')))) (by (first | exact omQ | (clear hM; first | (have h9 := leaf_le (i := p5.1) (by assumption) (by omega); exact omQ'))))
  refine spQA (And.intro ha5 ha8) ?_
  refine bindC_intro (by (first | exact omQ | (clear hM; first | (have h9 := leaf_le (i := p5.1) (by assumption) (by omega); exact omQ')))) ?_
  have he9 := fun d => elt_mp (l := x1) (f := e_api_Spend) (i := p5.1) (by (first | exact omQ | (clear hM; first | (have h9 := leaf_le (i := p5.1) (by assumption) (by omega); exact omQ')))) d
  refine spQA (And.intro ha5 (And.intro ha8 he9)) ?_
  refine condC_intro (fun h10 => ?_) (fun h10 => ?_)
  ·rw [if_pos h10] at hM
   refine spQA (And.intro ha5 (And.intro ha8 (And.intro he9 h10))) ?_
   have nh10 := nzQ h10
   try have hr11 := mpQ nh10
   refine ct_draw 50 23 [25, 26, 27, 28, 29, 30, 31, 32, 33, 34, 35, 36, 37, 38, 39, 40, 41, 42, 43, 44, 45, 46, 47] [] ([[], [], [], [1, 2], [1, 2, 3], [1, 2, 3, 4], [1, 2, 3, 4, 5], [], [], [7, 8], [7, 8, 9], [7, 8, 9, 10], [], [7, 8, 9, 10, 11, 12], [7, 8, 9, 10, 11, 12, 13], [7, 8, 9, 10, 11, 12, 13, 14], [], [], [16, 17], [16, 17, 18], [], [1, 2, 3, 4, 5, 6, 7, 8, 9, 10, 11, 12, 13, 14, 15, 16, 17, 18, 19, 20], [1, 2, 3, 4, 5, 6, 7, 8, 9, 10, 11, 12, 13, 14, 15, 16, 17, 18, 19, 20, 21]] ++ [List.range 23, List.range 24]) [] (by kernel_rfl) (by exact alQ) ?_
   refine spQA (And.intro ha5 (And.intro ha8 he9)) ?_
   refine hbindC_intro (by (first | exact omQ | (clear hM; first | (have h9 := leaf_le (i := p5.1) (by assumption) (by omega); exact omQ')))) ?_
   refine spQA (And.intro ha5 (And.intro ha8 he9)) ?_
   refine hbindC_intro (by (first | exact omQ | (clear hM; first | (have h9 := leaf_le (i := p5.1) (by assumption) (by omega); exact omQ')))) ?_
   refine spQA (And.intro ha5 (And.intro ha8 he9)) ?_
   refine hbindC_intro (by (first | exact omQ | (clear hM; first | (have h9 := leaf_le (i := p5.1) (by assumption) (by omega); exact omQ')))) ?_
   have he12 := fun d => elt_mp (l := (gt x1 p5.1).Leaves) (f := e_api_Leaf) (i := p8.1) (by (first | exact omQ | (clear hM; first | (have h9 := leaf_le (i := p5.1) (by assumption) (by omega); exact omQ')))) d
   refine spQA (And.intro ha5 (And.intro ha8 (And.intro he9 he12))) ?_
   refine hbindC_intro (by (first | exact omQ | (clear hM; first | (have h9 := leaf_le (i := p5.1) (by assumption) (by omega); exact omQ')))) ?_
   refine spQA (And.intro ha5 (And.intro ha8 (And.intro he9 he12))) ?_
   refine bindC_intro (by (first | exact omQ | (clear hM; first | (have h9 := leaf_le (i := p5.1) (by assumption) (by omega); exact omQ')))) ?_
   refine spQA (And.intro ha5 (And.intro ha8 (And.intro he9 he12))) ?_
   refine lp_intro (n8 - 1) _ (by omega) sbQ sbQ ⟨((p8.1 + 1), (p8.2 ++ ([({ A := (gt x1 p5.1).Coin.A, B := (gt (gt x1 p5.1).Leaves p8.1).B, Spend := (gt x1 p5.1), Leaf := p8.1 } : S_api_Use)] : List S_api_Use))), rfl, ⟨by (first | exact omQ | (clear hM; first | (have h9 := leaf_le (i := p5.1) (by assumption) (by omega); exact omQ'))), by (first | exact omQ | (clear hM; first | (have h9 := leaf_le (i := p5.1) (by assumption) (by omega); exact omQ'))), by (first | exact omQ | (clear hM; first | (have h9 := leaf_le (i := p5.1) (by assumption) (by omega); exact omQ')))⟩, by (first | exact omQ | (clear hM; first | (have h9 := leaf_le (i := p5.1) (by assumption) (by omega); exact omQ'))), iter_again hM hag8⟩
  ·rw [if_neg (ne_true h10)] at hM
   refine spQA (And.intro ha5 (And.intro ha8 (And.intro he9 h10))) ?_
   have nh10 := nzQ h10
   try have hr13 := mpQ nh10
   refine lp_intro (n5 - 1) _ (by omega) sbQ sbQ ⟨((p5.1 + 1), p8.2), rfl, ⟨⟨by (first | exact omQ | (clear hM; first | (have h9 := leaf_le (i := (p5.1 + 1)) (by assumption) (by omega); exact omQ'))), by (first | exact omQ | (clear hM; first | (have h9 := leaf_le (i := (p5.1 + 1)) (by assumption) (by omega); exact omQ')))⟩, by (have h9 := leaf_le (i := p5.1) (by assumption) (by omega); clear hM; exact omQ')⟩, by (first | exact omQ | (clear hM; first | (have h9 := leaf_le (i := (p5.1 + 1)) (by assumption) (by omega); exact omQ'))), iter_again hM hag5⟩
 ·rw [if_neg (ne_true h6)] at hM
  refine spQA (And.intro ha5 h6) ?_
  have nh6 := nzQ h6
  try have hr14 := mpQ nh6
  subst hM
  exact retC_view (lfQA (And.intro ha5 h6))
set_option maxHeartbeats 2000000 in
set_option maxRecDepth 100000 in
instance specielaw38_PaymentCodes_1_ok   (a_ : S_api_Use) (b : S_api_Use)  : CM En (specielaw38_PaymentCodes_1 a_ b) 16 [(e_api_Use a_), (e_api_Use b)] (fun y => .bool y) (fun _ => []) := by
 refine cmQ fun r hM => ?_
 rw [specielaw38_PaymentCodes_1.eq_1] at hM
 refine enterV En_ok En_mo noJ Try.func16 rfl Try.ntmps16 (by kernel_rfl) fun hw => ct_start ?_
 refine spQ ?_
 replace hw := nzQ hw
 have hF := trueQ
 exact auQ
set_option maxHeartbeats 2000000 in
set_option maxRecDepth 100000 in
instance slices_EqualFunc_api_Use_api_Use_api_Use_api_Use_at_specielaw38_PaymentCodes_1_ok   (s1 : (List S_api_Use)) (s2 : (List S_api_Use))  : CM En (slices_EqualFunc_api_Use_api_Use_api_Use_api_Use_at_specielaw38_PaymentCodes_1 s1 s2) 13 [.sl none 83 true (s1.map e_api_Use), .sl none 83 true (s2.map e_api_Use), .fn 16 []] (fun y => .bool y) (fun _ => []) := by
 refine cmQ fun r hM => ?_
 rw [slices_EqualFunc_api_Use_api_Use_api_Use_api_Use_at_specielaw38_PaymentCodes_1.eq_1] at hM
 refine enterV En_ok En_mo noJ Try.func13 rfl Try.ntmps13 (by kernel_rfl) fun hw => ct_start ?_
 refine spQ ?_
 replace hw := nzQ hw
 refine condC_intro (fun h1 => ?_) (fun h1 => ?_)
 ·rw [if_pos h1] at hM
  refine spQA h1 ?_
  have nh1 := nzQ h1
  try have hr2 := mpQ nh1
  subst hM
  exact retC_view (lfQA h1)
 ·rw [if_neg (ne_true h1)] at hM
  refine spQA h1 ?_
  have nh1 := nzQ h1
  try have hr3 := mpQ nh1
  have hM0 := hM; clear hM; obtain ⟨f4, d4, hf4, hd4, hM⟩ := iter_opn hM0; clear hM0
  refine ct_loop (fun n S => ∃ p : Int, S = (⟨[(1, .sl none 83 true (s2.map e_api_Use)), (2, .fn 16 []), (15, .sl none 83 true (s1.map e_api_Use)), (16, .int .i64 (s1.length : Int)), (17, .int .i64 p)], [], 0⟩ : St) ∧ ((0 ≤ p) ∧ (p ≤ (s1.length : Int))) ∧ ((s1.length : Int) - p).toNat < n ∧ iter n f4 d4 p = r) (((s1.length : Int) - 0).toNat + 1) _ sbQ sbQ ⟨0, rfl, ⟨omQ, omQ⟩, (Nat.lt_succ_self _), hM⟩ ?_
  clear hM
  rintro n4 S ⟨p4, rfl, hfa4, hm4, hM⟩
  have hM0 := hM; clear hM; obtain ⟨ag4, hag4, hM⟩ := iter_step hM0 (by omega) hf4; clear hM0
  replace hfa4 := nzQ hfa4
  replace hm4 := nzQ hm4
  have ha4 : addI .i64 p4 1 = p4 + 1 := add_one omQ omQ
  refine spQA ha4 ?_
  have hF := (And.intro h1 ha4)
  exact auQ
set_option maxHeartbeats 2000000 in
set_option maxRecDepth 100000 in
instance specielaw38_PaymentCodes_ok   (p_ : S_api_Payment) (x_ : (List Int))  : CM En (specielaw38_PaymentCodes p_ x_) 4 [.agg [.int .i64 p_.Number, .sl none 80 true (p_.Spends.map e_api_Spend), .sl none 81 true (p_.Chains.map e_api_Chain), .sl none 5 true (p_.Escrow.map e_api_Escrow)], .sl none 1 false (x_.map (V.int .u8))] (fun y => .bool y) (fun _ => []) := by
 refine cmQ fun r hM => ?_
 rw [specielaw38_PaymentCodes.eq_1] at hM
 refine enterV En_ok En_mo noJ Try.func4 rfl Try.ntmps4 (by kernel_rfl) fun hw => ct_start ?_
 refine spQ ?_
 replace hw := nzQ hw
 have hM0 := hM; clear hM; obtain ⟨x1, hx2, hM⟩ := letk_opn hM0; clear hM0
 have hcx1 := cmU hx2
 refine callC_give hcx1 clQ clQ (fun hw3 => ?_)
 replace hw3 := nzQ hw3
 refine spQ ?_
 refine condC_intro (fun h4 => ?_) (fun h4 => ?_)
 ·rw [if_pos h4] at hM
  refine spQA h4 ?_
  have nh4 := nzQ h4
  try have hr5 := mpQ nh4
  subst hM
  exact retC_view (lfQA h4)
 ·rw [if_neg (ne_true h4)] at hM
  refine spQA h4 ?_
  have nh4 := nzQ h4
  try have hr6 := mpQ nh4
  have hM0 := hM; clear hM; obtain ⟨x7, hx8, hM⟩ := letk_opn hM0; clear hM0
  have hcx7 := cmU hx8
  refine callC_give hcx7 clQ clQ (fun hw9 => ?_)
  replace hw9 := nzQ hw9
  refine spQ ?_
  refine guardC_f (fun h10 => ?_) (fun h10 => ?_)
  ·subst h10
   rw [if_neg (by decide)] at hM
   refine spQ ?_
   refine condC_intro (fun h11 => ?_) (fun h11 => ?_)
   ·rw [if_pos h11] at hM
    refine spQA h11 ?_
    have nh11 := nzQ h11
    try have hr12 := mpQ nh11
    subst hM
    exact retC_view (lfQA (And.intro h4 h11))
   ·rw [if_neg (ne_true h11)] at hM
    refine spQA h11 ?_
    have nh11 := nzQ h11
    try have hr13 := mpQ nh11
    have hM0 := hM; clear hM; obtain ⟨x14, hx15, hM⟩ := letk_opn hM0; clear hM0
    have hcx14 := cmH hx15 (payment_Encode_ok  p_ (by (exact great_ok (by assumption))))
    refine callC_give hcx14 clQ clQ (fun hw16 => ?_)
    replace hw16 := nzQ hw16
    refine spQ ?_
    have hM0 := hM; clear hM; obtain ⟨x17, hx18, hM⟩ := letk_opn hM0; clear hM0
    have hcx17 := cmH hx18 (specieref38_Encode_ok  p_ (by (first | exact great_sp (by assumption) | exact great_hgt (by assumption))) (by (first | exact great_sp (by assumption) | exact great_hgt (by assumption))))
    refine callC_give hcx17 clQ clQ (fun hw19 => ?_)
    replace hw19 := nzQ hw19
    refine spQ ?_
    refine guardC_f (fun h20 => ?_) (fun h20 => ?_)
    ·rw [if_neg (ne_true h20)] at hM
     refine spQA h20 ?_
     have nh20 := nzQ h20
     try have hr21 := mpQ nh20
     refine guardC_t (fun h22 => ?_) (fun h22 => ?_)
     ·rw [if_pos h22] at hM
      refine spQA h22 ?_
      have nh22 := nzQ h22
      try have hr23 := mpQ nh22
      have hM0 := hM; clear hM; obtain ⟨x24, hx25, hM⟩ := letk_opn hM0; clear hM0
      have hcx24 := cmU hx25
      refine callC_give hcx24 clQ clQ (fun hw26 => ?_)
      replace hw26 := nzQ hw26
      refine spQ ?_
      refine guardC_f (fun h27 => ?_) (fun h27 => ?_)
      ·rw [if_neg (ne_true h27)] at hM
       refine spQA h27 ?_
       have nh27 := nzQ h27
       try have hr28 := mpQ nh27
       have hM0 := hM; clear hM; obtain ⟨x29, hx30, hM⟩ := letk_opn hM0; clear hM0
       have hcx29 := cmU hx30
       refine callC_give hcx29 clQ clQ (fun hw31 => ?_)
       replace hw31 := nzQ hw31
       refine spQ ?_
       have hM0 := hM; clear hM; obtain ⟨x32, hx33, hM⟩ := letk_opn hM0; clear hM0
       have hcx32 := cmU hx33
       refine callC_give hcx32 clQ clQ (fun hw34 => ?_)
       replace hw34 := nzQ hw34
       refine spQ ?_
       refine guardC_f (fun h35 => ?_) (fun h35 => ?_)
       ·rw [if_neg (ne_true h35)] at hM
        refine spQA h35 ?_
        have nh35 := nzQ h35
        try have hr36 := mpQ nh35
        refine guardC_t (fun h37 => ?_) (fun h37 => ?_)
        ·rw [if_pos h37] at hM
         refine spQA h37 ?_
         have nh37 := nzQ h37
         try have hr38 := mpQ nh37
         refine guardC_f (fun h39 => ?_) (fun h39 => ?_)
         ·rw [if_neg (ne_true h39)] at hM
          refine spQA h39 ?_
          have nh39 := nzQ h39
          try have hr40 := mpQ nh39
          have hM0 := hM; clear hM; obtain ⟨x41, hx42, hM⟩ := letk_opn hM0; clear hM0
          have hcx41 := cmH hx42 (specieref38_Same_ok  (x29.1) (x32.1) (by (first | exact dec_chains (isB_wf hw.2.2) (by assumption) | exact rdec_chains (isB_wf hw.2.2) (by assumption))) (by (first | exact dec_chains (isB_wf hw.2.2) (by assumption) | exact rdec_chains (isB_wf hw.2.2) (by assumption))))
          refine callC_give hcx41 clQ clQ (fun hw43 => ?_)
          replace hw43 := nzQ hw43
          refine spQ ?_
          refine condC_intro (fun h44 => ?_) (fun h44 => ?_)
          ·rw [if_pos h44] at hM
           refine spQA h44 ?_
           have nh44 := nzQ h44
           try have hr45 := mpQ nh44
           subst hM
           exact retC_view (lfQA (And.intro h4 (And.intro h11 (And.intro h20 (And.intro h22 (And.intro h27 (And.intro h35 (And.intro h37 (And.intro h39 h44)))))))))
          ·rw [if_neg (ne_true h44)] at hM
           refine spQA h44 ?_
           have nh44 := nzQ h44
           try have hr46 := mpQ nh44
           refine ct_draw 91 3 [86, 87, 88] [] ([[], [0], []] ++ [List.range 3, List.range 4, List.range 5]) [] (by kernel_rfl) (by exact alQ) ?_
           refine spQ ?_
           have hM0 := hM; clear hM; obtain ⟨x47, hx48, hM⟩ := letk_opn hM0; clear hM0
           have hcx47 := cmH hx48 (payment_Leaves_ok  p_ (by (exact great_sm (by assumption))))
           refine hcallC_give hcx47 clQ clQ ?_
           refine spQ ?_
           have hM0 := hM; clear hM; obtain ⟨x49, hx50, hM⟩ := letk_opn hM0; clear hM0
           have hcx49 := cmH hx50 (specieref38_Leaves_ok  p_ (by (exact great_sm (by assumption))))
           refine callC_give hcx49 clQ clQ (fun hw51 => ?_)
           replace hw51 := nzQ hw51
           refine spQ ?_
           have hF := (And.intro h4 (And.intro h11 (And.intro h20 (And.intro h22 (And.intro h27 (And.intro h35 (And.intro h37 (And.intro h39 h44))))))))
           exact auQ
         ·rw [if_pos h39] at hM
          refine spQA h39 ?_
          have nh39 := nzQ h39
          try have hr55 := mpQ nh39
          subst hM
          exact retC_view (lfQA (And.intro h4 (And.intro h11 (And.intro h20 (And.intro h22 (And.intro h27 (And.intro h35 (And.intro h37 h39))))))))
        ·rw [if_neg (ne_true h37)] at hM
         refine spQA h37 ?_
         have nh37 := nzQ h37
         try have hr56 := mpQ nh37
         have hM0 := hM; clear hM; obtain ⟨x57, hx58, hM⟩ := letk_opn hM0; clear hM0
         have hcx57 := cmH hx58 (specieref38_Same_ok  (x29.1) (x32.1) (by (first | exact dec_chains (isB_wf hw.2.2) (by assumption) | exact rdec_chains (isB_wf hw.2.2) (by assumption))) (by (first | exact dec_chains (isB_wf hw.2.2) (by assumption) | exact rdec_chains (isB_wf hw.2.2) (by assumption))))
         refine callC_give hcx57 clQ clQ (fun hw59 => ?_)
         replace hw59 := nzQ hw59
         refine spQ ?_
         refine condC_intro (fun h60 => ?_) (fun h60 => ?_)
         ·rw [if_pos h60] at hM
          refine spQA h60 ?_
          have nh60 := nzQ h60
          try have hr61 := mpQ nh60
          subst hM
          exact retC_view (lfQA (And.intro h4 (And.intro h11 (And.intro h20 (And.intro h22 (And.intro h27 (And.intro h35 (And.intro h37 h60))))))))
         ·rw [if_neg (ne_true h60)] at hM
          refine spQA h60 ?_
          have nh60 := nzQ h60
          try have hr62 := mpQ nh60
          refine ct_draw 91 3 [86, 87, 88] [] ([[], [0], []] ++ [List.range 3, List.range 4, List.range 5]) [] (by kernel_rfl) (by exact alQ) ?_
          refine spQ ?_
          have hM0 := hM; clear hM; obtain ⟨x63, hx64, hM⟩ := letk_opn hM0; clear hM0
          have hcx63 := cmH hx64 (payment_Leaves_ok  p_ (by (exact great_sm (by assumption))))
          refine hcallC_give hcx63 clQ clQ ?_
          refine spQ ?_
          have hM0 := hM; clear hM; obtain ⟨x65, hx66, hM⟩ := letk_opn hM0; clear hM0
          have hcx65 := cmH hx66 (specieref38_Leaves_ok  p_ (by (exact great_sm (by assumption))))
          refine callC_give hcx65 clQ clQ (fun hw67 => ?_)
          replace hw67 := nzQ hw67
          refine spQ ?_
          have hF := (And.intro h4 (And.intro h11 (And.intro h20 (And.intro h22 (And.intro h27 (And.intro h35 (And.intro h37 h60)))))))
          exact auQ
       ·rw [if_pos h35] at hM
        refine spQA h35 ?_
        have nh35 := nzQ h35
        try have hr71 := mpQ nh35
        subst hM
        exact retC_view (lfQA (And.intro h4 (And.intro h11 (And.intro h20 (And.intro h22 (And.intro h27 h35))))))
      ·rw [if_pos h27] at hM
       refine spQA h27 ?_
       have nh27 := nzQ h27
       try have hr72 := mpQ nh27
       subst hM
       exact retC_view (lfQA (And.intro h4 (And.intro h11 (And.intro h20 (And.intro h22 h27)))))
     ·rw [if_neg (ne_true h22)] at hM
      refine spQA h22 ?_
      have nh22 := nzQ h22
      try have hr73 := mpQ nh22
      refine guardC_f (fun h74 => ?_) (fun h74 => ?_)
      ·rw [if_neg (ne_true h74)] at hM
       refine spQA h74 ?_
       have nh74 := nzQ h74
       try have hr75 := mpQ nh74
       refine condC_intro (fun h76 => ?_) (fun h76 => ?_)
       ·rw [if_pos h76] at hM
        refine spQA h76 ?_
        have nh76 := nzQ h76
        try have hr77 := mpQ nh76
        subst hM
        exact retC_view (lfQA (And.intro h4 (And.intro h11 (And.intro h20 (And.intro h22 (And.intro h74 h76))))))
       ·rw [if_neg (ne_true h76)] at hM
        refine spQA h76 ?_
        have nh76 := nzQ h76
        try have hr78 := mpQ nh76
        have hM0 := hM; clear hM; obtain ⟨x79, hx80, hM⟩ := letk_opn hM0; clear hM0
        have hcx79 := cmU hx80
        refine callC_give hcx79 clQ clQ (fun hw81 => ?_)
        replace hw81 := nzQ hw81
        refine spQ ?_
        have hM0 := hM; clear hM; obtain ⟨x82, hx83, hM⟩ := letk_opn hM0; clear hM0
        have hcx82 := cmU hx83
        refine callC_give hcx82 clQ clQ (fun hw84 => ?_)
        replace hw84 := nzQ hw84
        refine spQ ?_
        refine guardC_f (fun h85 => ?_) (fun h85 => ?_)
        ·rw [if_neg (ne_true h85)] at hM
         refine spQA h85 ?_
         have nh85 := nzQ h85
         try have hr86 := mpQ nh85
         refine guardC_t (fun h87 => ?_) (fun h87 => ?_)
         ·rw [if_pos h87] at hM
          refine spQA h87 ?_
          have nh87 := nzQ h87
          try have hr88 := mpQ nh87
          refine guardC_f (fun h89 => ?_) (fun h89 => ?_)
          ·rw [if_neg (ne_true h89)] at hM
           refine spQA h89 ?_
           have nh89 := nzQ h89
           try have hr90 := mpQ nh89
           have hM0 := hM; clear hM; obtain ⟨x91, hx92, hM⟩ := letk_opn hM0; clear hM0
           have hcx91 := cmH hx92 (specieref38_Same_ok  (x79.1) (x82.1) (by (first | exact dec_chains (isB_wf hw.2.2) (by assumption) | exact rdec_chains (isB_wf hw.2.2) (by assumption))) (by (first | exact dec_chains (isB_wf hw.2.2) (by assumption) | exact rdec_chains (isB_wf hw.2.2) (by assumption))))
           refine callC_give hcx91 clQ clQ (fun hw93 => ?_)
           replace hw93 := nzQ hw93
           refine spQ ?_
           refine condC_intro (fun h94 => ?_) (fun h94 => ?_)
           ·rw [if_pos h94] at hM
            refine spQA h94 ?_
            have nh94 := nzQ h94
            try have hr95 := mpQ nh94
            subst hM
            exact retC_view (lfQA (And.intro h4 (And.intro h11 (And.intro h20 (And.intro h22 (And.intro h74 (And.intro h76 (And.intro h85 (And.intro h87 (And.intro h89 h94))))))))))
           ·rw [if_neg (ne_true h94)] at hM
            refine spQA h94 ?_
            have nh94 := nzQ h94
            try have hr96 := mpQ nh94
            refine ct_draw 91 3 [86, 87, 88] [] ([[], [0], []] ++ [List.range 3, List.range 4, List.range 5]) [] (by kernel_rfl) (by exact alQ) ?_
            refine spQ ?_
            have hM0 := hM; clear hM; obtain ⟨x97, hx98, hM⟩ := letk_opn hM0; clear hM0
            have hcx97 := cmH hx98 (payment_Leaves_ok  p_ (by (exact great_sm (by assumption))))
            refine hcallC_give hcx97 clQ clQ ?_
            refine spQ ?_
            have hM0 := hM; clear hM; obtain ⟨x99, hx100, hM⟩ := letk_opn hM0; clear hM0
            have hcx99 := cmH hx100 (specieref38_Leaves_ok  p_ (by (exact great_sm (by assumption))))
            refine callC_give hcx99 clQ clQ (fun hw101 => ?_)
            replace hw101 := nzQ hw101
            refine spQ ?_
            have hF := (And.intro h4 (And.intro h11 (And.intro h20 (And.intro h22 (And.intro h74 (And.intro h76 (And.intro h85 (And.intro h87 (And.intro h89 h94)))))))))
            exact auQ
          ·rw [if_pos h89] at hM
           refine spQA h89 ?_
           have nh89 := nzQ h89
           try have hr105 := mpQ nh89
           subst hM
           exact retC_view (lfQA (And.intro h4 (And.intro h11 (And.intro h20 (And.intro h22 (And.intro h74 (And.intro h76 (And.intro h85 (And.intro h87 h89)))))))))
         ·rw [if_neg (ne_true h87)] at hM
          refine spQA h87 ?_
          have nh87 := nzQ h87
          try have hr106 := mpQ nh87
          have hM0 := hM; clear hM; obtain ⟨x107, hx108, hM⟩ := letk_opn hM0; clear hM0
          have hcx107 := cmH hx108 (specieref38_Same_ok  (x79.1) (x82.1) (by (first | exact dec_chains (isB_wf hw.2.2) (by assumption) | exact rdec_chains (isB_wf hw.2.2) (by assumption))) (by (first | exact dec_chains (isB_wf hw.2.2) (by assumption) | exact rdec_chains (isB_wf hw.2.2) (by assumption))))
          refine callC_give hcx107 clQ clQ (fun hw109 => ?_)
          replace hw109 := nzQ hw109
          refine spQ ?_
          refine condC_intro (fun h110 => ?_) (fun h110 => ?_)
          ·rw [if_pos h110] at hM
           refine spQA h110 ?_
           have nh110 := nzQ h110
           try have hr111 := mpQ nh110
           subst hM
           exact retC_view (lfQA (And.intro h4 (And.intro h11 (And.intro h20 (And.intro h22 (And.intro h74 (And.intro h76 (And.intro h85 (And.intro h87 h110)))))))))
          ·rw [if_neg (ne_true h110)] at hM
           refine spQA h110 ?_
           have nh110 := nzQ h110
           try have hr112 := mpQ nh110
           refine ct_draw 91 3 [86, 87, 88] [] ([[], [0], []] ++ [List.range 3, List.range 4, List.range 5]) [] (by kernel_rfl) (by exact alQ) ?_
           refine spQ ?_
           have hM0 := hM; clear hM; obtain ⟨x113, hx114, hM⟩ := letk_opn hM0; clear hM0
           have hcx113 := cmH hx114 (payment_Leaves_ok  p_ (by (exact great_sm (by assumption))))
           refine hcallC_give hcx113 clQ clQ ?_
           refine spQ ?_
           have hM0 := hM; clear hM; obtain ⟨x115, hx116, hM⟩ := letk_opn hM0; clear hM0
           have hcx115 := cmH hx116 (specieref38_Leaves_ok  p_ (by (exact great_sm (by assumption))))
           refine callC_give hcx115 clQ clQ (fun hw117 => ?_)
           replace hw117 := nzQ hw117
           refine spQ ?_
           have hF := (And.intro h4 (And.intro h11 (And.intro h20 (And.intro h22 (And.intro h74 (And.intro h76 (And.intro h85 (And.intro h87 h110))))))))
           exact auQ
        ·rw [if_pos h85] at hM
         refine spQA h85 ?_
         have nh85 := nzQ h85
         try have hr121 := mpQ nh85
         subst hM
         exact retC_view (lfQA (And.intro h4 (And.intro h11 (And.intro h20 (And.intro h22 (And.intro h74 (And.intro h76 h85)))))))
      ·rw [if_pos h74] at hM
       refine spQA h74 ?_
       have nh74 := nzQ h74
       try have hr122 := mpQ nh74
       subst hM
       exact retC_view (lfQA (And.intro h4 (And.intro h11 (And.intro h20 (And.intro h22 h74)))))
    ·rw [if_pos h20] at hM
     refine spQA h20 ?_
     have nh20 := nzQ h20
     try have hr123 := mpQ nh20
     subst hM
     exact retC_view (lfQA (And.intro h4 (And.intro h11 h20)))
  ·subst h10
   rw [if_pos rfl] at hM
   refine spQ ?_
   subst hM
   exact retC_view (lfQA h4)
end Go.Proofs.Ytcbdmoihobdjaaa
