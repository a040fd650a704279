/- Texts of this proof, one after the other: U1. -/
import Derived.Test.YtjnikknlcmbcmaaGreatDoorZ6
set_option linter.unusedVariables false
set_option linter.unusedSimpArgs false
namespace Go.Proofs.YtjnikknlcmbcmaaGreatDoor
open Go.RowKit
set_option linter.unusedSimpArgs false
set_option maxHeartbeats 2000000 in
set_option maxRecDepth 100000 in
instance withdraw_Begin_1_ok   (e_ : Int)  : CM En (withdraw_Begin_1 e_) 163 [.int .i64 e_] (fun y => .tup [(e_api_Withdrawal y.1), .sl none 1 false (y.2.1.map (V.int .u8)), (e_api_Draw y.2.2.1), .int .i64 y.2.2.2]) (fun _ => []) := by
 refine cmQ fun r hM => ?_
 rw [withdraw_Begin_1.eq_1] at hM
 refine enterV En_ok En_mo noJ Tryz.func163 rfl Tryz.ntmps163 (by kernel_rfl) fun hw => ct_start ?_
 refine spQ ?_
 replace hw := nzQ hw
 subst hM
 exact retC_view lfQ
set_option maxHeartbeats 2000000 in
set_option maxRecDepth 100000 in
instance math_bits_TrailingZeros64_ok   (x_ : Int)  : CM En (math_bits_TrailingZeros64 x_) 248 [.int .u64 x_] (fun y => .int .i64 y) (fun _ => []) := by
 refine cmQ fun r hM => ?_
 rw [math_bits_TrailingZeros64.eq_1] at hM
 refine enterV En_ok En_mo noJ Tryz.func248 rfl Tryz.ntmps248 (by kernel_rfl) fun hw => ct_start ?_
 refine spQ ?_
 replace hw := nzQ hw
 have h0_0 := tzix (x := andI .u64 x_ (negI .u64 x_))
 refine condC_intro (fun h1 => ?_) (fun h1 => ?_)
 ·rw [if_pos h1] at hM
  refine spQA h1 ?_
  have nh1 := nzQ h1
  try have hr2 := mpQ nh1
  subst hM
  exact retC_view (lfQA h1)
 ·rw [if_neg (ne_true h1)] at hM
  refine spQA h1 ?_
  have nh1 := nzQ h1
  try have hr3 := mpQ nh1
  refine bindC_intro omQ ?_
  have he4 := pp_get (f := V.int .u8) (l := kg_4) (n := 64) (i := (shrI .u64 (mulI .u64 (andI .u64 x_ (negI .u64 x_)) 285870213051353865) 58)) rfl omQ
  replace he4 := spR he4
  refine spQA he4 ?_
  subst hM
  exact retC_view (lfQA (And.intro he4 h1))
set_option maxHeartbeats 2000000 in
set_option maxRecDepth 100000 in
instance math_bits_Mul64_ok   (x_ : Int) (y : Int)  : CM En (math_bits_Mul64 x_ y) 216 [.int .u64 x_, .int .u64 y] (fun y => .tup [.int .u64 y.1, .int .u64 y.2]) (fun _ => []) := by
 refine cmQ fun r hM => ?_
 rw [math_bits_Mul64.eq_1] at hM
 refine enterV En_ok En_mo noJ Tryz.func216 rfl Tryz.ntmps216 (by kernel_rfl) fun hw => ct_start ?_
 refine spQ ?_
 replace hw := nzQ hw
 subst hM
 exact retC_view lfQ
set_option maxHeartbeats 2000000 in
set_option maxRecDepth 100000 in
instance math_bits_LeadingZeros64_ok   (x_ : Int)  : CM En (math_bits_LeadingZeros64 x_) 260 [.int .u64 x_] (fun y => .int .i64 y) (fun _ => []) := by
 refine cmQ fun r hM => ?_
 rw [math_bits_LeadingZeros64.eq_1] at hM
 refine enterV En_ok En_mo noJ Tryz.func260 rfl Tryz.ntmps260 (by kernel_rfl) fun hw => ct_start ?_
 refine spQ ?_
 replace hw := nzQ hw
 have hF := trueQ
 exact auQ
instance (priority := 1001) : DRD 6 135 7 [6, 28, 29, 30, 31, 32, 33] [] ([[], [], [0, 1], [], [], [3, 4], [0, 1, 2]] ++ [List.range 7]) [] := ⟨trivial⟩
set_option maxHeartbeats 2000000 in
set_option maxRecDepth 100000 in
theorem math_bits_Div64_ok   (hi : Int) (lo : Int) (y : Int) (hp0 : hi < y) : CM En (math_bits_Div64 hi lo y) 217 [.int .u64 hi, .int .u64 lo, .int .u64 y] (fun y => .tup [.int .u64 y.1, .int .u64 y.2]) (fun _ => []) := by
 refine cmQ fun r hM => ?_
 rw [math_bits_Div64.eq_1] at hM
 refine enterV En_ok En_mo [21, 28] Tryz.func217 rfl Tryz.ntmps217 (by kernel_rfl) fun hw => ct_start ?_
 refine spQ ?_
 replace hw := nzQ hw
 refine condC_intro (fun h1 => ?_) (fun h1 => ?_)
 ·rw [if_pos h1] at hM
  refine spQA h1 ?_
  have nh1 := nzQ h1
  try have hr2 := mpQ nh1
  exact False.elim omQ
 ·rw [if_neg (ne_true h1)] at hM
  refine spQA h1 ?_
  have nh1 := nzQ h1
  try have hr3 := mpQ nh1
  refine condC_intro (fun h4 => ?_) (fun h4 => ?_)
  ·rw [if_pos h4] at hM
   refine spQA h4 ?_
   have nh4 := nzQ h4
   try have hr5 := mpQ nh4
   exact False.elim omQ
  ·rw [if_neg (ne_true h4)] at hM
   refine spQA h4 ?_
   have nh4 := nzQ h4
   try have hr6 := mpQ nh4
   refine condC_intro (fun h7 => ?_) (fun h7 => ?_)
   ·rw [if_pos h7] at hM
    refine spQA h7 ?_
    have nh7 := nzQ h7
    try have hr8 := mpQ nh7
    have hF := (And.intro h1 (And.intro h4 h7))
    exact auQ
   ·rw [if_neg (ne_true h7)] at hM
    refine spQA h7 ?_
    have nh7 := nzQ h7
    try have hr9 := mpQ nh7
    have hM0 := hM; clear hM; obtain ⟨x10, hx11, hM⟩ := letk_opn hM0; clear hM0
    have hcx10 := cmU hx11
    refine callC_give hcx10 clQ clQ (fun hw12 => ?_)
    replace hw12 := nzQ hw12
    refine spQ ?_
    have hq13 := lz_after hx11 (by omega) (by omega)
    replace hq13 := nzQ hq13
    refine bindC_intro (by (exact nn_u64 _)) ?_
    refine spQ ?_
    refine bindC_intro (by (exact nn_u64 _)) ?_
    refine spQ ?_
    refine bindC_intro (by (exact (rng_subI .u64 _ _).1)) ?_
    refine spQ ?_
    refine bindC_intro (by (exact nn_u64 _)) ?_
    refine spQ ?_
    refine bindC_intro omQ ?_
    refine spQ ?_
    have hM0 := hM; clear hM; obtain ⟨j14, hj14, hM⟩ := letj_opn hM0; clear hM0
    refine seqC_intro (fun S => ∃ p : Int, S = (⟨[(2, .int .u64 (shlI .u64 y (convI .u64 x10))), (8, .int .u64 (convI .u64 x10)), (9, .int .u64 (shrI .u64 (shlI .u64 y (convI .u64 x10)) 32)), (10, .int .u64 (andI .u64 (shlI .u64 y (convI .u64 x10)) 4294967295)), (11, .int .u64 (orI .u64 (shlI .u64 hi (convI .u64 x10)) (shrI .u64 lo (subI .u64 64 (convI .u64 x10))))), (13, .int .u64 (shrI .u64 (shlI .u64 lo (convI .u64 x10)) 32)), (14, .int .u64 (andI .u64 (shlI .u64 lo (convI .u64 x10)) 4294967295)), (15, .int .u64 p)], [], 0⟩ : St) ∧ (True) ∧ j14 p = r) ?_ (fun hcut14 => ?_)
    ·clear hM
     rintro S ⟨p14, rfl, hfa14, hM⟩
     have hM0 := hM; clear hM; have hM := letj_use hM0 hj14; clear hM0
     try refine spQ ?_
     refine bindC_intro omQ ?_
     refine spQ ?_
     have hM0 := hM; clear hM; obtain ⟨j15, hj15, hM⟩ := letj_opn hM0; clear hM0
     refine seqC_intro (fun S => ∃ p : Int, S = (⟨[(2, .int .u64 (shlI .u64 y (convI .u64 x10))), (8, .int .u64 (convI .u64 x10)), (14, .int .u64 (andI .u64 (shlI .u64 lo (convI .u64 x10)) 4294967295)), (15, .int .u64 p14), (17, .int .u64 (subI .u64 (addI .u64 (mulI .u64 (orI .u64 (shlI .u64 hi (convI .u64 x10)) (shrI .u64 lo (subI .u64 64 (convI .u64 x10)))) 4294967296) (shrI .u64 (shlI .u64 lo (convI .u64 x10)) 32)) (mulI .u64 p14 (shlI .u64 y (convI .u64 x10))))), (18, .int .u64 p)], [], 0⟩ : St) ∧ (True) ∧ j15 p = r) ?_ (fun hcut15 => ?_)
     ·clear hM
      rintro S ⟨p15, rfl, hfa15, hM⟩
      have hM0 := hM; clear hM; have hM := letj_use hM0 hj15; clear hM0
      try refine spQ ?_
      refine bindC_intro (by (exact nn_u64 _)) ?_
      refine spQ ?_
      subst hM
      exact retC_view (lfQA (And.intro h1 (And.intro h4 h7)))
     ·refine spQ ?_
      have hM0 := hM; clear hM; obtain ⟨f16, d16, hf16, hd16, hM⟩ := iter_opn hM0; clear hM0
      refine ct_loop (fun n S => ∃ p : Int × Int, S = (⟨[(2, .int .u64 (shlI .u64 y (convI .u64 x10))), (8, .int .u64 (convI .u64 x10)), (9, .int .u64 (shrI .u64 (shlI .u64 y (convI .u64 x10)) 32)), (10, .int .u64 (andI .u64 (shlI .u64 y (convI .u64 x10)) 4294967295)), (14, .int .u64 (andI .u64 (shlI .u64 lo (convI .u64 x10)) 4294967295)), (15, .int .u64 p14), (16, .int .u64 p.1), (17, .int .u64 (subI .u64 (addI .u64 (mulI .u64 (orI .u64 (shlI .u64 hi (convI .u64 x10)) (shrI .u64 lo (subI .u64 64 (convI .u64 x10)))) 4294967296) (shrI .u64 (shlI .u64 lo (convI .u64 x10)) 32)) (mulI .u64 p14 (shlI .u64 y (convI .u64 x10))))), (18, .int .u64 p.2)], [], 0⟩ : St) ∧ ((0 ≤ p.1 ∧ p.1 ≤ 4294967295)) ∧ (4294967296 - p.1).toNat < n ∧ iter n f16 d16 p = r) ((4294967296 - (subI .u64 (subI .u64 (addI .u64 (mulI .u64 (orI .u64 (shlI .u64 hi (convI .u64 x10)) (shrI .u64 lo (subI .u64 64 (convI .u64 x10)))) 4294967296) (shrI .u64 (shlI .u64 lo (convI .u64 x10)) 32)) (mulI .u64 p14 (shlI .u64 y (convI .u64 x10)))) (mulI .u64 (quoI .u64 (subI .u64 (addI .u64 (mulI .u64 (orI .u64 (shlI .u64 hi (convI .u64 x10)) (shrI .u64 lo (subI .u64 64 (convI .u64 x10)))) 4294967296) (shrI .u64 (shlI .u64 lo (convI .u64 x10)) 32)) (mulI .u64 p14 (shlI .u64 y (convI .u64 x10)))) (shrI .u64 (shlI .u64 y (convI .u64 x10)) 32)) (shrI .u64 (shlI .u64 y (convI .u64 x10)) 32)))).toNat + 1) _ sbQ sbQ ⟨((subI .u64 (subI .u64 (addI .u64 (mulI .u64 (orI .u64 (shlI .u64 hi (convI .u64 x10)) (shrI .u64 lo (subI .u64 64 (convI .u64 x10)))) 4294967296) (shrI .u64 (shlI .u64 lo (convI .u64 x10)) 32)) (mulI .u64 p14 (shlI .u64 y (convI .u64 x10)))) (mulI .u64 (quoI .u64 (subI .u64 (addI .u64 (mulI .u64 (orI .u64 (shlI .u64 hi (convI .u64 x10)) (shrI .u64 lo (subI .u64 64 (convI .u64 x10)))) 4294967296) (shrI .u64 (shlI .u64 lo (convI .u64 x10)) 32)) (mulI .u64 p14 (shlI .u64 y (convI .u64 x10)))) (shrI .u64 (shlI .u64 y (convI .u64 x10)) 32)) (shrI .u64 (shlI .u64 y (convI .u64 x10)) 32))), (quoI .u64 (subI .u64 (addI .u64 (mulI .u64 (orI .u64 (shlI .u64 hi (convI .u64 x10)) (shrI .u64 lo (subI .u64 64 (convI .u64 x10)))) 4294967296) (shrI .u64 (shlI .u64 lo (convI .u64 x10)) 32)) (mulI .u64 p14 (shlI .u64 y (convI .u64 x10)))) (shrI .u64 (shlI .u64 y (convI .u64 x10)) 32))), rfl, by (exact dv_i (sub_rng _ _) (by omega) (by omega)), (Nat.lt_succ_self _), hM⟩ ?_
      clear hM
      rintro n16 S ⟨p16, rfl, hF24_0, hm16, hM⟩
      have hM0 := hM; clear hM; obtain ⟨ag16, hag16, hM⟩ := iter_step hM0 (by omega) hf16; clear hM0
      replace hm16 := nzQ hm16
      refine spQ ?_
      refine guardC_f (fun h17 => ?_) (fun h17 => ?_)
      ·rw [if_neg (ne_true h17)] at hM
       refine spQA h17 ?_
       have nh17 := nzQ h17
       try have hr18 := mpQ nh17
       refine condC_intro (fun h19 => ?_) (fun h19 => ?_)
       ·rw [if_pos h19] at hM
        refine spQA h19 ?_
        have nh19 := nzQ h19
        try have hr20 := mpQ nh19
        refine condC_intro (fun h21 => ?_) (fun h21 => ?_)
        ·rw [if_pos h21] at hM
         refine spQA h21 ?_
         have nh21 := nzQ h21
         try have hr22 := mpQ nh21
         exact cut_intro _ sbQ sbQ (hcut15 _ ⟨(subI .u64 p16.2 1), rfl, trivial, hM⟩)
        ·rw [if_neg (ne_true h21)] at hM
         refine spQA h21 ?_
         have nh21 := nzQ h21
         try have hr23 := mpQ nh21
         refine lp_intro (n16 - 1) _ (by omega) sbQ sbQ ⟨((addI .u64 p16.1 (shrI .u64 (shlI .u64 y (convI .u64 x10)) 32)), (subI .u64 p16.2 1)), rfl, by (have h9 := add_u (a := p16.1) (b := (shrI .u64 (shlI .u64 y (convI .u64 x10)) 32)) (by omega) (by omega) (by omega) (by omega); omega), by (have h9 := add_u (a := p16.1) (b := (shrI .u64 (shlI .u64 y (convI .u64 x10)) 32)) (by omega) (by omega) (by omega) (by omega); omega), iter_again hM hag16⟩
       ·rw [if_neg (ne_true h19)] at hM
        refine spQA h19 ?_
        have nh19 := nzQ h19
        try have hr24 := mpQ nh19
        exact cut_intro _ sbQ sbQ (hcut15 _ ⟨p16.2, rfl, trivial, hM⟩)
      ·rw [if_pos h17] at hM
       refine spQA h17 ?_
       have nh17 := nzQ h17
       try have hr25 := mpQ nh17
       refine condC_intro (fun h26 => ?_) (fun h26 => ?_)
       ·rw [if_pos h26] at hM
        refine spQA h26 ?_
        have nh26 := nzQ h26
        try have hr27 := mpQ nh26
        exact cut_intro _ sbQ sbQ (hcut15 _ ⟨(subI .u64 p16.2 1), rfl, trivial, hM⟩)
       ·rw [if_neg (ne_true h26)] at hM
        refine spQA h26 ?_
        have nh26 := nzQ h26
        try have hr28 := mpQ nh26
        refine lp_intro (n16 - 1) _ (by omega) sbQ sbQ ⟨((addI .u64 p16.1 (shrI .u64 (shlI .u64 y (convI .u64 x10)) 32)), (subI .u64 p16.2 1)), rfl, by (have h9 := add_u (a := p16.1) (b := (shrI .u64 (shlI .u64 y (convI .u64 x10)) 32)) (by omega) (by omega) (by omega) (by omega); omega), by (have h9 := add_u (a := p16.1) (b := (shrI .u64 (shlI .u64 y (convI .u64 x10)) 32)) (by omega) (by omega) (by omega) (by omega); omega), iter_again hM hag16⟩
    ·refine spQ ?_
     have hM0 := hM; clear hM; obtain ⟨f29, d29, hf29, hd29, hM⟩ := iter_opn hM0; clear hM0
     refine ct_loop (fun n S => ∃ p : Int × Int, S = (⟨[(2, .int .u64 (shlI .u64 y (convI .u64 x10))), (8, .int .u64 (convI .u64 x10)), (9, .int .u64 (shrI .u64 (shlI .u64 y (convI .u64 x10)) 32)), (10, .int .u64 (andI .u64 (shlI .u64 y (convI .u64 x10)) 4294967295)), (11, .int .u64 (orI .u64 (shlI .u64 hi (convI .u64 x10)) (shrI .u64 lo (subI .u64 64 (convI .u64 x10))))), (13, .int .u64 (shrI .u64 (shlI .u64 lo (convI .u64 x10)) 32)), (14, .int .u64 (andI .u64 (shlI .u64 lo (convI .u64 x10)) 4294967295)), (15, .int .u64 p.1), (16, .int .u64 p.2)], [], 0⟩ : St) ∧ ((0 ≤ p.2 ∧ p.2 ≤ 4294967295)) ∧ (4294967296 - p.2).toNat < n ∧ iter n f29 d29 p = r) ((4294967296 - (subI .u64 (orI .u64 (shlI .u64 hi (convI .u64 x10)) (shrI .u64 lo (subI .u64 64 (convI .u64 x10)))) (mulI .u64 (quoI .u64 (orI .u64 (shlI .u64 hi (convI .u64 x10)) (shrI .u64 lo (subI .u64 64 (convI .u64 x10)))) (shrI .u64 (shlI .u64 y (convI .u64 x10)) 32)) (shrI .u64 (shlI .u64 y (convI .u64 x10)) 32)))).toNat + 1) _ sbQ sbQ ⟨((quoI .u64 (orI .u64 (shlI .u64 hi (convI .u64 x10)) (shrI .u64 lo (subI .u64 64 (convI .u64 x10)))) (shrI .u64 (shlI .u64 y (convI .u64 x10)) 32)), (subI .u64 (orI .u64 (shlI .u64 hi (convI .u64 x10)) (shrI .u64 lo (subI .u64 64 (convI .u64 x10)))) (mulI .u64 (quoI .u64 (orI .u64 (shlI .u64 hi (convI .u64 x10)) (shrI .u64 lo (subI .u64 64 (convI .u64 x10)))) (shrI .u64 (shlI .u64 y (convI .u64 x10)) 32)) (shrI .u64 (shlI .u64 y (convI .u64 x10)) 32)))), rfl, by (exact dv_i (or_rng _ _) (by omega) (by omega)), (Nat.lt_succ_self _), hM⟩ ?_
     clear hM
     rintro n29 S ⟨p29, rfl, hF17_0, hm29, hM⟩
     have hM0 := hM; clear hM; obtain ⟨ag29, hag29, hM⟩ := iter_step hM0 (by omega) hf29; clear hM0
     replace hm29 := nzQ hm29
     refine spQ ?_
     refine guardC_f (fun h30 => ?_) (fun h30 => ?_)
     ·rw [if_neg (ne_true h30)] at hM
      refine spQA h30 ?_
      have nh30 := nzQ h30
      try have hr31 := mpQ nh30
      refine condC_intro (fun h32 => ?_) (fun h32 => ?_)
      ·rw [if_pos h32] at hM
       refine spQA h32 ?_
       have nh32 := nzQ h32
       try have hr33 := mpQ nh32
       refine condC_intro (fun h34 => ?_) (fun h34 => ?_)
       ·rw [if_pos h34] at hM
        refine spQA h34 ?_
        have nh34 := nzQ h34
        try have hr35 := mpQ nh34
        exact cut_intro _ sbQ sbQ (hcut14 _ ⟨(subI .u64 p29.1 1), rfl, trivial, hM⟩)
       ·rw [if_neg (ne_true h34)] at hM
        refine spQA h34 ?_
        have nh34 := nzQ h34
        try have hr36 := mpQ nh34
        refine lp_intro (n29 - 1) _ (by omega) sbQ sbQ ⟨((subI .u64 p29.1 1), (addI .u64 p29.2 (shrI .u64 (shlI .u64 y (convI .u64 x10)) 32))), rfl, by (have h9 := add_u (a := p29.2) (b := (shrI .u64 (shlI .u64 y (convI .u64 x10)) 32)) (by omega) (by omega) (by omega) (by omega); omega), by (have h9 := add_u (a := p29.2) (b := (shrI .u64 (shlI .u64 y (convI .u64 x10)) 32)) (by omega) (by omega) (by omega) (by omega); omega), iter_again hM hag29⟩
      ·rw [if_neg (ne_true h32)] at hM
       refine spQA h32 ?_
       have nh32 := nzQ h32
       try have hr37 := mpQ nh32
       exact cut_intro _ sbQ sbQ (hcut14 _ ⟨p29.1, rfl, trivial, hM⟩)
     ·rw [if_pos h30] at hM
      refine spQA h30 ?_
      have nh30 := nzQ h30
      try have hr38 := mpQ nh30
      refine condC_intro (fun h39 => ?_) (fun h39 => ?_)
      ·rw [if_pos h39] at hM
       refine spQA h39 ?_
       have nh39 := nzQ h39
       try have hr40 := mpQ nh39
       exact cut_intro _ sbQ sbQ (hcut14 _ ⟨(subI .u64 p29.1 1), rfl, trivial, hM⟩)
      ·rw [if_neg (ne_true h39)] at hM
       refine spQA h39 ?_
       have nh39 := nzQ h39
       try have hr41 := mpQ nh39
       refine lp_intro (n29 - 1) _ (by omega) sbQ sbQ ⟨((subI .u64 p29.1 1), (addI .u64 p29.2 (shrI .u64 (shlI .u64 y (convI .u64 x10)) 32))), rfl, by (have h9 := add_u (a := p29.2) (b := (shrI .u64 (shlI .u64 y (convI .u64 x10)) 32)) (by omega) (by omega) (by omega) (by omega); omega), by (have h9 := add_u (a := p29.2) (b := (shrI .u64 (shlI .u64 y (convI .u64 x10)) 32)) (by omega) (by omega) (by omega) (by omega); omega), iter_again hM hag29⟩
set_option maxHeartbeats 2000000 in
set_option maxRecDepth 100000 in
theorem prime_mul_ok   (a_ : Int) (b : Int) (n_ : Int) (hp0 : a_ < n_) : CM En (prime_mul a_ b n_) 276 [.int .u64 a_, .int .u64 b, .int .u64 n_] (fun y => .int .u64 y) (fun _ => []) := by
 refine cmQ fun r hM => ?_
 rw [prime_mul.eq_1] at hM
 refine enterV En_ok En_mo noJ Tryz.func276 rfl Tryz.ntmps276 (by kernel_rfl) fun hw => ct_start ?_
 refine spQ ?_
 replace hw := nzQ hw
 have hM0 := hM; clear hM; obtain ⟨x1, hx2, hM⟩ := letk_opn hM0; clear hM0
 have hcx1 := cmU hx2
 refine callC_give hcx1 clQ clQ (fun hw3 => ?_)
 replace hw3 := nzQ hw3
 refine spQ ?_
 have hq4 := mul_afterN n_ hx2 (by omega) (by omega) (by omega) (by omega) (by omega)
 replace hq4 := nzQ hq4
 have hM0 := hM; clear hM; obtain ⟨x5, hx6, hM⟩ := letk_opn hM0; clear hM0
 have hcx5 := cmH hx6 (math_bits_Div64_ok  (x1.1) (x1.2) n_ (by (exact pfQ)))
 refine callC_give hcx5 clQ clQ (fun hw7 => ?_)
 replace hw7 := nzQ hw7
 refine spQ ?_
 subst hM
 exact retC_view lfQ
set_option maxHeartbeats 2000000 in
set_option maxRecDepth 100000 in
theorem prime_pow_ok   (a_ : Int) (e_ : Int) (n_ : Int) (hp0 : a_ < n_) (hp1 : 1 < n_) : CM En (prime_pow a_ e_ n_) 275 [.int .u64 a_, .int .u64 e_, .int .u64 n_] (fun y => .int .u64 y) (fun _ => []) := by
 refine cmQ fun r hM => ?_
 rw [prime_pow.eq_1] at hM
 refine enterV En_ok En_mo noJ Tryz.func275 rfl Tryz.ntmps275 (by kernel_rfl) fun hw => ct_start ?_
 refine spQ ?_
 replace hw := nzQ hw
 have hM0 := hM; clear hM; obtain ⟨f1, d1, hf1, hd1, hM⟩ := iter_opn hM0; clear hM0
 refine ct_loop (fun n S => ∃ p : Int × Int × Int, S = (⟨[(0, .int .u64 p.1), (1, .int .u64 p.2.1), (2, .int .u64 n_), (7, .int .u64 p.2.2)], [], 0⟩ : St) ∧ ((0 ≤ p.1) ∧ (p.1 < n_) ∧ (0 ≤ p.2.1) ∧ (0 ≤ p.2.2) ∧ (p.2.2 < n_)) ∧ p.2.1.toNat < n ∧ iter n f1 d1 p = r) (e_.toNat + 1) _ sbQ sbQ ⟨(a_, e_, 1), rfl, ⟨omQ, omQ, omQ, omQ, omQ⟩, (Nat.lt_succ_self _), hM⟩ ?_
 clear hM
 rintro n1 S ⟨p1, rfl, hfa1, hm1, hM⟩
 have hM0 := hM; clear hM; obtain ⟨ag1, hag1, hM⟩ := iter_step hM0 (by omega) hf1; clear hM0
 replace hfa1 := nzQ hfa1
 replace hm1 := nzQ hm1
 refine spQ ?_
 refine condC_intro (fun h2 => ?_) (fun h2 => ?_)
 ·rw [if_pos h2] at hM
  refine spQA h2 ?_
  have nh2 := nzQ h2
  try have hr3 := mpQ nh2
  refine condC_intro (fun h4 => ?_) (fun h4 => ?_)
  ·rw [if_pos h4] at hM
   refine spQA h4 ?_
   have nh4 := nzQ h4
   try have hr5 := mpQ nh4
   have hM0 := hM; clear hM; obtain ⟨x6, hx7, hM⟩ := letk_opn hM0; clear hM0
   have hcx6 := cmH hx7 (prime_mul_ok  (p1.2.2) (p1.1) n_ (by (exact pfQ)))
   refine callC_give hcx6 clQ clQ (fun hw8 => ?_)
   replace hw8 := nzQ hw8
   refine spQ ?_
   have hq9 := prime_mul_rng hx7 (by omega) (by omega) (by omega) (by omega) (by omega)
   replace hq9 := nzQ hq9
   have hM0 := hM; clear hM; obtain ⟨x10, hx11, hM⟩ := letk_opn hM0; clear hM0
   have hcx10 := cmH hx11 (prime_mul_ok  (p1.1) (p1.1) n_ (by (exact pfQ)))
   refine callC_give hcx10 clQ clQ (fun hw12 => ?_)
   replace hw12 := nzQ hw12
   refine spQ ?_
   have hq13 := prime_mul_rng hx11 (by omega) (by omega) (by omega) (by omega) (by omega)
   replace hq13 := nzQ hq13
   refine lp_intro (n1 - 1) _ (by omega) sbQ sbQ ⟨(x10, (shrI .u64 p1.2.1 1), x6), rfl, ⟨by (clear hM; (try dsimp only); (try rw [shr1]); (try rw [shr1i]); omega), by (clear hM; (try dsimp only); (try rw [shr1]); (try rw [shr1i]); omega), by (clear hM; (try dsimp only); (try rw [shr1]); (try rw [shr1i]); omega), by (clear hM; (try dsimp only); (try rw [shr1]); (try rw [shr1i]); omega), by (clear hM; (try dsimp only); (try rw [shr1]); (try rw [shr1i]); omega)⟩, by (clear hM; (try dsimp only); (try rw [shr1]); (try rw [shr1i]); omega), iter_again hM hag1⟩
  ·rw [if_neg (ne_true h4)] at hM
   refine spQA h4 ?_
   have nh4 := nzQ h4
   try have hr14 := mpQ nh4
   have hM0 := hM; clear hM; obtain ⟨x15, hx16, hM⟩ := letk_opn hM0; clear hM0
   have hcx15 := cmH hx16 (prime_mul_ok  (p1.1) (p1.1) n_ (by (exact pfQ)))
   refine callC_give hcx15 clQ clQ (fun hw17 => ?_)
   replace hw17 := nzQ hw17
   refine spQ ?_
   have hq18 := prime_mul_rng hx16 (by omega) (by omega) (by omega) (by omega) (by omega)
   replace hq18 := nzQ hq18
   refine lp_intro (n1 - 1) _ (by omega) sbQ sbQ ⟨(x15, (shrI .u64 p1.2.1 1), p1.2.2), rfl, ⟨by (clear hM; (try dsimp only); (try rw [shr1]); (try rw [shr1i]); omega), by (clear hM; (try dsimp only); (try rw [shr1]); (try rw [shr1i]); omega), by (clear hM; (try dsimp only); (try rw [shr1]); (try rw [shr1i]); omega), by (clear hM; (try dsimp only); (try rw [shr1]); (try rw [shr1i]); omega), by (clear hM; (try dsimp only); (try rw [shr1]); (try rw [shr1i]); omega)⟩, by (clear hM; (try dsimp only); (try rw [shr1]); (try rw [shr1i]); omega), iter_again hM hag1⟩
 ·rw [if_neg (ne_true h2)] at hM
  refine spQA h2 ?_
  have nh2 := nzQ h2
  try have hr19 := mpQ nh2
  subst hM
  exact retC_view (lfQA h2)
set_option maxHeartbeats 2000000 in
set_option maxRecDepth 100000 in
theorem prime_composite_ok   (a_ : Int) (n_ : Int) (d_ : Int) (s : Int) (hp0 : a_ < n_) (hp1 : 1 < n_) (hp2 : 0 ≤ s) (hp3 : s ≤ 64) : CM En (prime_composite a_ n_ d_ s) 249 [.int .u64 a_, .int .u64 n_, .int .u64 d_, .int .i64 s] (fun y => .bool y) (fun _ => []) := by
 refine cmQ fun r hM => ?_
 rw [prime_composite.eq_1] at hM
 refine enterV En_ok En_mo noJ Tryz.func249 rfl Tryz.ntmps249 (by kernel_rfl) fun hw => ct_start ?_
 refine spQ ?_
 replace hw := nzQ hw
 have h0_0 := si64 (x := s) (by omega) (by omega)
 have hM0 := hM; clear hM; obtain ⟨x1, hx2, hM⟩ := letk_opn hM0; clear hM0
 have hcx1 := cmH hx2 (prime_pow_ok  a_ d_ n_ (by (exact pfQ)) (by (exact pfQ)))
 refine callC_give hcx1 clQ clQ (fun hw3 => ?_)
 replace hw3 := nzQ hw3
 refine spQ ?_
 have hq4 := prime_pow_rng hx2 (by omega) (by omega) (by omega) (by omega)
 replace hq4 := nzQ hq4
 refine guardC_f (fun h5 => ?_) (fun h5 => ?_)
 ·rw [if_neg (ne_true h5)] at hM
  refine spQA h5 ?_
  have nh5 := nzQ h5
  try have hr6 := mpQ nh5
  refine condC_intro (fun h7 => ?_) (fun h7 => ?_)
  ·rw [if_pos h7] at hM
   refine spQA h7 ?_
   have nh7 := nzQ h7
   try have hr8 := mpQ nh7
   subst hM
   exact retC_view (lfQA (And.intro h5 h7))
  ·rw [if_neg (ne_true h7)] at hM
   refine spQA h7 ?_
   have nh7 := nzQ h7
   try have hr9 := mpQ nh7
   have hM0 := hM; clear hM; obtain ⟨f10, d10, hf10, hd10, hM⟩ := iter_opn hM0; clear hM0
   refine ct_loop (fun n S => ∃ p : Int × Int, S = (⟨[(1, .int .u64 n_), (9, .int .u64 p.1), (23, .int .i64 (subI .i64 s 1)), (24, .int .i64 p.2)], [], 0⟩ : St) ∧ ((0 ≤ p.2) ∧ (p.2 ≤ subI .i64 s 1 ∨ p.2 ≤ 0) ∧ (0 ≤ p.1) ∧ (p.1 < n_)) ∧ (subI .i64 s 1 - p.2).toNat < n ∧ iter n f10 d10 p = r) ((subI .i64 s 1 - 0).toNat + 1) _ sbQ sbQ ⟨(x1, 0), rfl, ⟨omQ, omQ, omQ, omQ⟩, (Nat.lt_succ_self _), hM⟩ ?_
   clear hM
   rintro n10 S ⟨p10, rfl, hfa10, hm10, hM⟩
   have hM0 := hM; clear hM; obtain ⟨ag10, hag10, hM⟩ := iter_step hM0 (by omega) hf10; clear hM0
   replace hfa10 := nzQ hfa10
   replace hm10 := nzQ hm10
   have ha10 : addI .i64 p10.2 1 = p10.2 + 1 := add_one omQ omQ
   refine spQA ha10 ?_
   refine condC_intro (fun h11 => ?_) (fun h11 => ?_)
   ·rw [if_pos h11] at hM
    refine spQA (And.intro ha10 h11) ?_
    have nh11 := nzQ h11
    try have hr12 := mpQ nh11
    have hM0 := hM; clear hM; obtain ⟨x13, hx14, hM⟩ := letk_opn hM0; clear hM0
    have hcx13 := cmH hx14 (prime_mul_ok  (p10.1) (p10.1) n_ (by (exact pfQ)))
    refine callC_give hcx13 (clQA ha10) (clQA ha10) (fun hw15 => ?_)
    replace hw15 := nzQ hw15
    refine spQA ha10 ?_
    have hq16 := prime_mul_rng hx14 (by omega) (by omega) (by omega) (by omega) (by omega)
    replace hq16 := nzQ hq16
    have hF := (And.intro h5 (And.intro h7 (And.intro ha10 h11)))
    exact auQ
   ·rw [if_neg (ne_true h11)] at hM
    refine spQA (And.intro ha10 h11) ?_
    have nh11 := nzQ h11
    try have hr20 := mpQ nh11
    subst hM
    exact retC_view (lfQA (And.intro ha10 (And.intro h5 (And.intro h7 h11))))
 ·rw [if_pos h5] at hM
  refine spQA h5 ?_
  have nh5 := nzQ h5
  try have hr21 := mpQ nh5
  subst hM
  exact retC_view (lfQA h5)
set_option maxHeartbeats 2000000 in
set_option maxRecDepth 100000 in
instance prime_Is_ok   (n_ : Int)  : CM En (prime_Is n_) 207 [.int .i64 n_] (fun y => .bool y) (fun _ => []) := by
 refine cmQ fun r hM => ?_
 rw [prime_Is.eq_1] at hM
 refine enterV En_ok En_mo noJ Tryz.func207 rfl Tryz.ntmps207 (by kernel_rfl) fun hw => ct_start ?_
 refine spQ ?_
 replace hw := nzQ hw
 have h0_0 := kg2_len
 refine condC_intro (fun h1 => ?_) (fun h1 => ?_)
 ·rw [if_pos h1] at hM
  refine spQA h1 ?_
  have nh1 := nzQ h1
  try have hr2 := mpQ nh1
  subst hM
  exact retC_view (lfQA h1)
 ·rw [if_neg (ne_true h1)] at hM
  refine spQA h1 ?_
  have nh1 := nzQ h1
  try have hr3 := mpQ nh1
  have hM0 := hM; clear hM; obtain ⟨f4, d4, hf4, hd4, hM⟩ := iter_opn hM0; clear hM0
  refine ct_loop (fun n S => ∃ p : Int, S = (⟨[(3, .int .u64 (convI .u64 n_)), (13, .agg (kg_0.map (V.int .u64))), (14, .int .i64 p)], [], 0⟩ : St) ∧ (((0 ≤ p) ∧ (p ≤ 12)) ∧ (NoDiv (convI .u64 n_) p)) ∧ ((12 : Int) - p).toNat < n ∧ iter n f4 d4 p = r) (((12 : Int) - 0).toNat + 1) _ sbQ sbQ ⟨0, rfl, ⟨⟨by (first | exact omQ | (clear hM; first | (have hk := kg2_rng (j := p4) (by omega) (by omega); exact omQ'))), by (first | exact omQ | (clear hM; first | (have hk := kg2_rng (j := p4) (by omega) (by omega); exact omQ')))⟩, by (exact NoDiv_zero)⟩, (Nat.lt_succ_self _), hM⟩ ?_
  clear hM
  rintro n4 S ⟨p4, rfl, ⟨hfa4, hF5_0⟩, hm4, hM⟩
  have hM0 := hM; clear hM; obtain ⟨ag4, hag4, hM⟩ := iter_step hM0 (by omega) hf4; clear hM0
  replace hfa4 := nzQ hfa4
  replace hm4 := nzQ hm4
  have ha4 : addI .i64 p4 1 = p4 + 1 := add_one (by (first | exact omQ | (clear hM; first | (have hk := kg2_rng (j := p4) (by omega) (by omega); exact omQ')))) (by (first | exact omQ | (clear hM; first | (have hk := kg2_rng (j := p4) (by omega) (by omega); exact omQ'))))
  refine spQA ha4 ?_
  refine condC_intro (fun h5 => ?_) (fun h5 => ?_)
  ·rw [if_pos h5] at hM
   refine spQA (And.intro ha4 h5) ?_
   have nh5 := nzQ h5
   try have hr6 := mpQ nh5
   have he7 := pp_get (f := V.int .u64) (l := kg_0) (n := 12) (i := p4) rfl (by (first | exact omQ | (clear hM; first | (have hk := kg2_rng (j := p4) (by omega) (by omega); exact omQ'))))
   replace he7 := spR he7
   refine spQA (And.intro ha4 he7) ?_
   refine bindC_intro (by (first | exact omQ | (clear hM; first | (have hk := kg2_rng (j := p4) (by omega) (by omega); exact omQ')))) ?_
   refine spQA (And.intro ha4 he7) ?_
   refine bindC_intro (by (first | exact omQ | (clear hM; first | (have hk := kg2_rng (j := p4) (by omega) (by omega); exact omQ')))) ?_
   refine spQA (And.intro ha4 he7) ?_
   refine condC_intro (fun h8 => ?_) (fun h8 => ?_)
   ·rw [if_pos h8] at hM
    refine spQA (And.intro ha4 (And.intro he7 h8)) ?_
    have nh8 := nzQ h8
    try have hr9 := mpQ nh8
    subst hM
    exact retC_view (lfQA (And.intro ha4 (And.intro he7 (And.intro h1 (And.intro h5 h8)))))
   ·rw [if_neg (ne_true h8)] at hM
    refine spQA (And.intro ha4 (And.intro he7 h8)) ?_
    have nh8 := nzQ h8
    try have hr10 := mpQ nh8
    refine lp_intro (n4 - 1) _ (by omega) sbQ sbQ ⟨(p4 + 1), rfl, ⟨⟨by (first | exact omQ | (clear hM; first | (have hk := kg2_rng (j := (p4 + 1)) (by omega) (by omega); exact omQ'))), by (first | exact omQ | (clear hM; first | (have hk := kg2_rng (j := (p4 + 1)) (by omega) (by omega); exact omQ')))⟩, by (clear hM; exact NoDiv_step hF5_0 (nn_u64 _) (by omega) (by omega) (by assumption))⟩, by (first | exact omQ | (clear hM; first | (have hk := kg2_rng (j := (p4 + 1)) (by omega) (by omega); exact omQ'))), iter_again hM hag4⟩
  ·rw [if_neg (ne_true h5)] at hM
   refine spQA (And.intro ha4 h5) ?_
   have nh5 := nzQ h5
   try have hr11 := mpQ nh5
   have hM0 := hM; clear hM; obtain ⟨x12, hx13, hM⟩ := letk_opn hM0; clear hM0
   have hcx12 := cmU hx13
   refine callC_give hcx12 (clQA ha4) (clQA ha4) (fun hw14 => ?_)
   replace hw14 := nzQ hw14
   refine spQA ha4 ?_
   have hq15 := tz_rng hx13
   replace hq15 := nzQ hq15
   have hM0 := hM; clear hM; obtain ⟨f16, d16, hf16, hd16, hM⟩ := iter_opn hM0; clear hM0
   refine ct_loop (fun n S => ∃ p : Int, S = (⟨[(3, .int .u64 (convI .u64 n_)), (6, .int .i64 x12), (28, .agg (kg_0.map (V.int .u64))), (29, .int .i64 p)], [], 0⟩ : St) ∧ (((0 ≤ p) ∧ (p ≤ 12)) ∧ (37 < convI .u64 n_)) ∧ ((12 : Int) - p).toNat < n ∧ iter n f16 d16 p = r) (((12 : Int) - 0).toNat + 1) _ sbQ sbQ ⟨0, rfl, ⟨⟨by (first | exact omQ | (clear hM; first | (have hk := kg2_rng (j := p16) (by omega) (by omega); exact omQ'))), by (first | exact omQ | (clear hM; first | (have hk := kg2_rng (j := p16) (by omega) (by omega); exact omQ')))⟩, by (clear hM; exact NoDiv_all hF5_0 (by omega) (by rw [cu63 (by omega) (by omega)]; omega))⟩, (Nat.lt_succ_self _), hM⟩ ?_
   clear hM
   rintro n16 S ⟨p16, rfl, ⟨hfa16, hF12_0⟩, hm16, hM⟩
   have hM0 := hM; clear hM; obtain ⟨ag16, hag16, hM⟩ := iter_step hM0 (by omega) hf16; clear hM0
   replace hfa16 := nzQ hfa16
   replace hm16 := nzQ hm16
   have ha16 : addI .i64 p16 1 = p16 + 1 := add_one (by (first | exact omQ | (clear hM; first | (have hk := kg2_rng (j := p16) (by omega) (by omega); exact omQ')))) (by (first | exact omQ | (clear hM; first | (have hk := kg2_rng (j := p16) (by omega) (by omega); exact omQ'))))
   refine spQA (And.intro ha4 ha16) ?_
   refine condC_intro (fun h17 => ?_) (fun h17 => ?_)
   ·rw [if_pos h17] at hM
    refine spQA (And.intro ha4 (And.intro ha16 h17)) ?_
    have nh17 := nzQ h17
    try have hr18 := mpQ nh17
    have he19 := pp_get (f := V.int .u64) (l := kg_0) (n := 12) (i := p16) rfl (by (first | exact omQ | (clear hM; first | (have hk := kg2_rng (j := p16) (by omega) (by omega); exact omQ'))))
    replace he19 := spR he19
    refine spQA (And.intro ha4 (And.intro ha16 he19)) ?_
    refine bindC_intro (by (first | exact omQ | (clear hM; first | (have hk := kg2_rng (j := p16) (by omega) (by omega); exact omQ')))) ?_
    refine spQA (And.intro ha4 (And.intro ha16 he19)) ?_
    refine bindC_intro (by (first | exact omQ | (clear hM; first | (have hk := kg2_rng (j := p16) (by omega) (by omega); exact omQ')))) ?_
    refine spQA (And.intro ha4 (And.intro ha16 he19)) ?_
    have hM0 := hM; clear hM; obtain ⟨x20, hx21, hM⟩ := letk_opn hM0; clear hM0
    have hcx20 := cmH hx21 (prime_composite_ok  (gt kg_0 p16) (convI .u64 n_) (shrI .u64 (subI .u64 (convI .u64 n_) 1) x12) x12 (by (first | omega | (have hk := kg2_rng (j := p16) (by omega) (by omega); omega))) (by (first | omega | (have hk := kg2_rng (j := p16) (by omega) (by omega); omega))) (by (first | omega | (have hk := kg2_rng (j := p16) (by omega) (by omega); omega))) (by (first | omega | (have hk := kg2_rng (j := p16) (by omega) (by omega); omega))))
    refine callC_give hcx20 (clQA (And.intro ha4 (And.intro ha16 he19))) (clQA (And.intro ha4 (And.intro ha16 he19))) (fun hw22 => ?_)
    replace hw22 := nzQ hw22
    refine spQA (And.intro ha4 (And.intro ha16 he19)) ?_
    refine condC_intro (fun h23 => ?_) (fun h23 => ?_)
    ·subst h23
     rw [if_pos rfl] at hM
     refine spQA (And.intro ha4 (And.intro ha16 he19)) ?_
     subst hM
     exact retC_view (lfQA (And.intro ha4 (And.intro ha16 (And.intro he19 (And.intro h1 (And.intro h5 h17))))))
    ·subst h23
     rw [if_neg (by decide)] at hM
     refine spQA (And.intro ha4 (And.intro ha16 he19)) ?_
     refine lp_intro (n16 - 1) _ (by omega) sbQ sbQ ⟨(p16 + 1), rfl, ⟨⟨by (first | exact omQ | (clear hM; first | (have hk := kg2_rng (j := (p16 + 1)) (by omega) (by omega); exact omQ'))), by (first | exact omQ | (clear hM; first | (have hk := kg2_rng (j := (p16 + 1)) (by omega) (by omega); exact omQ')))⟩, by (clear hM; exact hF12_0)⟩, by (first | exact omQ | (clear hM; first | (have hk := kg2_rng (j := (p16 + 1)) (by omega) (by omega); exact omQ'))), iter_again hM hag16⟩
   ·rw [if_neg (ne_true h17)] at hM
    refine spQA (And.intro ha4 (And.intro ha16 h17)) ?_
    have nh17 := nzQ h17
    try have hr24 := mpQ nh17
    subst hM
    exact retC_view (lfQA (And.intro ha4 (And.intro ha16 (And.intro h1 (And.intro h5 h17)))))
set_option maxHeartbeats 2000000 in
set_option maxRecDepth 100000 in
instance word_residue_ok   (a_ : Int) (m : Int)  : CM En (word_residue a_ m) 215 [.int .i64 a_, .int .i64 m] (fun y => .bool y) (fun _ => []) := by
 refine cmQ fun r hM => ?_
 rw [word_residue.eq_1] at hM
 refine enterV En_ok En_mo noJ Tryz.func215 rfl Tryz.ntmps215 (by kernel_rfl) fun hw => ct_start ?_
 refine spQ ?_
 replace hw := nzQ hw
 have hF := trueQ
 exact auQ
set_option maxHeartbeats 2000000 in
set_option maxRecDepth 100000 in
instance word_check_ok   (a_ : Int) (b : Int) (m : Int)  : CM En (word_check a_ b m) 148 [.int .i64 a_, .int .i64 b, .int .i64 m] (fun y => .int .i64 y) (fun _ => []) := by
 refine cmQ fun r hM => ?_
 rw [word_check.eq_1] at hM
 refine enterV En_ok En_mo noJ Tryz.func148 rfl Tryz.ntmps148 (by kernel_rfl) fun hw => ct_start ?_
 refine spQ ?_
 replace hw := nzQ hw
 have hF := trueQ
 exact auQ
set_option maxHeartbeats 2000000 in
set_option maxRecDepth 100000 in
theorem word_mul_ok   (a_ : Int) (b : Int) (m : Int) (hp0 : 0 ≤ a_) (hp1 : a_ < m) (hp2 : 0 ≤ b) : CM En (word_mul a_ b m) 149 [.int .i64 a_, .int .i64 b, .int .i64 m] (fun y => .int .i64 y) (fun _ => []) := by
 refine cmQ fun r hM => ?_
 rw [word_mul.eq_1] at hM
 refine enterV En_ok En_mo noJ Tryz.func149 rfl Tryz.ntmps149 (by kernel_rfl) fun hw => ct_start ?_
 refine spQ ?_
 replace hw := nzQ hw
 have h0_0 := cu63 (x := a_) (by omega) (by omega)
 have h0_1 := cu63 (x := b) (by omega) (by omega)
 have h0_2 := cu63 (x := m) (by omega) (by omega)
 have hM0 := hM; clear hM; obtain ⟨x1, hx2, hM⟩ := letk_opn hM0; clear hM0
 have hcx1 := cmU hx2
 refine callC_give hcx1 clQ clQ (fun hw3 => ?_)
 replace hw3 := nzQ hw3
 refine spQ ?_
 have hq4 := mul_afterN (convI .u64 m) hx2 (by omega) (by omega) (by omega) (by omega) (by omega)
 replace hq4 := nzQ hq4
 have hM0 := hM; clear hM; obtain ⟨x5, hx6, hM⟩ := letk_opn hM0; clear hM0
 have hcx5 := cmH hx6 (math_bits_Div64_ok  (x1.1) (x1.2) (convI .u64 m) (by (exact pfQ)))
 refine callC_give hcx5 clQ clQ (fun hw7 => ?_)
 replace hw7 := nzQ hw7
 refine spQ ?_
 subst hM
 exact retC_view lfQ
set_option maxHeartbeats 2000000 in
set_option maxRecDepth 100000 in
instance word_Pow_ok   (a_ : Int) (e_ : Int) (m : Int)  : CM En (word_Pow a_ e_ m) 83 [.int .i64 a_, .int .i64 e_, .int .i64 m] (fun y => .tup [.int .i64 y.1, .int .i64 y.2]) (fun _ => []) := by
 refine cmQ fun r hM => ?_
 rw [word_Pow.eq_1] at hM
 refine enterV En_ok En_mo noJ Tryz.func83 rfl Tryz.ntmps83 (by kernel_rfl) fun hw => ct_start ?_
 refine spQ ?_
 replace hw := nzQ hw
 have hM0 := hM; clear hM; obtain ⟨x1, hx2, hM⟩ := letk_opn hM0; clear hM0
 have hcx1 := cmU hx2
 refine callC_give hcx1 clQ clQ (fun hw3 => ?_)
 replace hw3 := nzQ hw3
 refine spQ ?_
 have hq4 := nzQ (cfU hx2)
 refine condC_intro (fun h5 => ?_) (fun h5 => ?_)
 ·rw [if_pos h5] at hM
  refine spQA h5 ?_
  have nh5 := nzQ h5
  try have hr6 := mpQ nh5
  subst hM
  exact retC_view (lfQA h5)
 ·rw [if_neg (ne_true h5)] at hM
  refine spQA h5 ?_
  have nh5 := nzQ h5
  try have hr7 := mpQ nh5
  refine condC_intro (fun h8 => ?_) (fun h8 => ?_)
  ·rw [if_pos h8] at hM
   refine spQA h8 ?_
   have nh8 := nzQ h8
   try have hr9 := mpQ nh8
   subst hM
   exact retC_view (lfQA (And.intro h5 h8))
  ·rw [if_neg (ne_true h8)] at hM
   refine spQA h8 ?_
   have nh8 := nzQ h8
   try have hr10 := mpQ nh8
   refine bindC_intro (by (first | exact omQ | (clear hM; first | (have hk := rem1_rng (m := m) (by omega); exact omQ')))) ?_
   refine spQ ?_
   have hM0 := hM; clear hM; obtain ⟨f11, d11, hf11, hd11, hM⟩ := iter_opn hM0; clear hM0
   refine ct_loop (fun n S => ∃ p : Int × Int × Int, S = (⟨[(0, .int .i64 p.1), (1, .int .i64 p.2.1), (2, .int .i64 m), (9, .int .i64 p.2.2)], [], 0⟩ : St) ∧ ((0 ≤ p.1) ∧ (p.1 < m) ∧ (0 ≤ p.2.1) ∧ (0 ≤ p.2.2) ∧ (p.2.2 < m)) ∧ p.2.1.toNat < n ∧ iter n f11 d11 p = r) (e_.toNat + 1) _ sbQ sbQ ⟨(a_, e_, (remI .i64 1 m)), rfl, ⟨by (first | exact omQ | (clear hM; first | (have hk := rem1_rng (m := m) (by omega); exact omQ'))), by (first | exact omQ | (clear hM; first | (have hk := rem1_rng (m := m) (by omega); exact omQ'))), by (first | exact omQ | (clear hM; first | (have hk := rem1_rng (m := m) (by omega); exact omQ'))), by (first | exact omQ | (clear hM; first | (have hk := rem1_rng (m := m) (by omega); exact omQ'))), by (first | exact omQ | (clear hM; first | (have hk := rem1_rng (m := m) (by omega); exact omQ')))⟩, (Nat.lt_succ_self _), hM⟩ ?_
   clear hM
   rintro n11 S ⟨p11, rfl, hfa11, hm11, hM⟩
   have hM0 := hM; clear hM; obtain ⟨ag11, hag11, hM⟩ := iter_step hM0 (by omega) hf11; clear hM0
   replace hfa11 := nzQ hfa11
   replace hm11 := nzQ hm11
   refine spQ ?_
   refine condC_intro (fun h12 => ?_) (fun h12 => ?_)
   ·rw [if_pos h12] at hM
    refine spQA h12 ?_
    have nh12 := nzQ h12
    try have hr13 := mpQ nh12
    refine condC_intro (fun h14 => ?_) (fun h14 => ?_)
    ·rw [if_pos h14] at hM
     refine spQA h14 ?_
     have nh14 := nzQ h14
     try have hr15 := mpQ nh14
     have hM0 := hM; clear hM; obtain ⟨x16, hx17, hM⟩ := letk_opn hM0; clear hM0
     have hcx16 := cmH hx17 (word_mul_ok  (p11.2.2) (p11.1) m (by (exact pfQ)) (by (exact pfQ)) (by (exact pfQ)))
     refine callC_give hcx16 clQ clQ (fun hw18 => ?_)
     replace hw18 := nzQ hw18
     refine spQ ?_
     have hq19 := word_mul_rng hx17 (by omega) (by omega) (by omega) (by omega) (by omega)
     replace hq19 := nzQ hq19
     have hM0 := hM; clear hM; obtain ⟨x20, hx21, hM⟩ := letk_opn hM0; clear hM0
     have hcx20 := cmH hx21 (word_mul_ok  (p11.1) (p11.1) m (by (exact pfQ)) (by (exact pfQ)) (by (exact pfQ)))
     refine callC_give hcx20 clQ clQ (fun hw22 => ?_)
     replace hw22 := nzQ hw22
     refine spQ ?_
     have hq23 := word_mul_rng hx21 (by omega) (by omega) (by omega) (by omega) (by omega)
     replace hq23 := nzQ hq23
     refine lp_intro (n11 - 1) _ (by omega) sbQ sbQ ⟨(x20, (shrI .i64 p11.2.1 1), x16), rfl, ⟨by (clear hM; (try dsimp only); (try rw [shr1]); (try rw [shr1i]); omega), by (clear hM; (try dsimp only); (try rw [shr1]); (try rw [shr1i]); omega), by (clear hM; (try dsimp only); (try rw [shr1]); (try rw [shr1i]); omega), by (clear hM; (try dsimp only); (try rw [shr1]); (try rw [shr1i]); omega), by (clear hM; (try dsimp only); (try rw [shr1]); (try rw [shr1i]); omega)⟩, by (clear hM; (try dsimp only); (try rw [shr1]); (try rw [shr1i]); omega), iter_again hM hag11⟩
    ·rw [if_neg (ne_true h14)] at hM
     refine spQA h14 ?_
     have nh14 := nzQ h14
     try have hr24 := mpQ nh14
     have hM0 := hM; clear hM; obtain ⟨x25, hx26, hM⟩ := letk_opn hM0; clear hM0
     have hcx25 := cmH hx26 (word_mul_ok  (p11.1) (p11.1) m (by (exact pfQ)) (by (exact pfQ)) (by (exact pfQ)))
     refine callC_give hcx25 clQ clQ (fun hw27 => ?_)
     replace hw27 := nzQ hw27
     refine spQ ?_
     have hq28 := word_mul_rng hx26 (by omega) (by omega) (by omega) (by omega) (by omega)
     replace hq28 := nzQ hq28
     refine lp_intro (n11 - 1) _ (by omega) sbQ sbQ ⟨(x25, (shrI .i64 p11.2.1 1), p11.2.2), rfl, ⟨by (clear hM; (try dsimp only); (try rw [shr1]); (try rw [shr1i]); omega), by (clear hM; (try dsimp only); (try rw [shr1]); (try rw [shr1i]); omega), by (clear hM; (try dsimp only); (try rw [shr1]); (try rw [shr1i]); omega), by (clear hM; (try dsimp only); (try rw [shr1]); (try rw [shr1i]); omega), by (clear hM; (try dsimp only); (try rw [shr1]); (try rw [shr1i]); omega)⟩, by (clear hM; (try dsimp only); (try rw [shr1]); (try rw [shr1i]); omega), iter_again hM hag11⟩
   ·rw [if_neg (ne_true h12)] at hM
    refine spQA h12 ?_
    have nh12 := nzQ h12
    try have hr29 := mpQ nh12
    subst hM
    exact retC_view (lfQA (And.intro h5 (And.intro h8 h12)))
set_option maxHeartbeats 2000000 in
set_option maxRecDepth 100000 in
instance group_Valid_ok   (g : S_api_Group)  : CM En (group_Valid g) 135 [.agg [.int .i64 g.P, .int .i64 g.Q, .int .i64 g.G]] (fun y => .bool y) (fun _ => []) := by
 refine cmQ fun r hM => ?_
 rw [group_Valid.eq_1] at hM
 refine enterV En_ok En_mo noJ Tryz.func135 rfl Tryz.ntmps135 (by kernel_rfl) fun hw => ct_start ?_
 refine spQ ?_
 replace hw := nzQ hw
 have hF := trueQ
 exact auQ
set_option maxHeartbeats 2000000 in
set_option maxRecDepth 100000 in
instance group_element_ok   (g : S_api_Group) (x_ : Int)  : CM En (group_element g x_) 137 [.agg [.int .i64 g.P, .int .i64 g.Q, .int .i64 g.G], .int .i64 x_] (fun y => .bool y) (fun _ => []) := by
 refine cmQ fun r hM => ?_
 rw [group_element.eq_1] at hM
 refine enterV En_ok En_mo noJ Tryz.func137 rfl Tryz.ntmps137 (by kernel_rfl) fun hw => ct_start ?_
 refine spQ ?_
 replace hw := nzQ hw
 have hF := trueQ
 exact auQ
set_option maxHeartbeats 2000000 in
set_option maxRecDepth 100000 in
instance group_Contains_ok   (g : S_api_Group) (x_ : Int)  : CM En (group_Contains g x_) 65 [.agg [.int .i64 g.P, .int .i64 g.Q, .int .i64 g.G], .int .i64 x_] (fun y => .bool y) (fun _ => []) := by
 refine cmQ fun r hM => ?_
 rw [group_Contains.eq_1] at hM
 refine enterV En_ok En_mo noJ Tryz.func65 rfl Tryz.ntmps65 (by kernel_rfl) fun hw => ct_start ?_
 refine spQ ?_
 replace hw := nzQ hw
 have hF := trueQ
 exact auQ
set_option maxHeartbeats 2000000 in
set_option maxRecDepth 100000 in
instance base_Valid_ok   (b : S_api_Bases)  : CM En (base_Valid b) 63 [(e_api_Bases b)] (fun y => .bool y) (fun _ => []) := by
 refine cmQ fun r hM => ?_
 rw [base_Valid.eq_1] at hM
 refine enterV En_ok En_mo noJ Tryz.func63 rfl Tryz.ntmps63 (by kernel_rfl) fun hw => ct_start ?_
 refine spQ ?_
 replace hw := nzQ hw
 have hM0 := hM; clear hM; obtain ⟨x1, hx2, hM⟩ := letk_opn hM0; clear hM0
 have hcx1 := cmU hx2
 refine callC_give hcx1 clQ clQ (fun hw3 => ?_)
 replace hw3 := nzQ hw3
 refine spQ ?_
 refine condC_intro (fun h4 => ?_) (fun h4 => ?_)
 ·rw [if_pos h4] at hM
  refine spQA h4 ?_
  have nh4 := nzQ h4
  try have hr5 := mpQ nh4
  subst hM
  exact retC_view (lfQA h4)
 ·rw [if_neg (ne_true h4)] at hM
  refine spQA h4 ?_
  have nh4 := nzQ h4
  try have hr6 := mpQ nh4
  have hM0 := hM; clear hM; obtain ⟨f7, d7, hf7, hd7, hM⟩ := iter_opn hM0; clear hM0
  refine ct_loop (fun n S => ∃ p : Int, S = (⟨[(1, .ptr 0 0), (15, .own 1), (16, .int .i64 (3 : Int)), (17, .int .i64 p)], [(0, .var 6 true ((e_api_Bases b))), (1, .own 3 1 false (some false) (([b.G1, b.G2, b.H] : List Int).map (V.int .i64)))], 2⟩ : St) ∧ ((0 ≤ p) ∧ (p ≤ (3 : Int))) ∧ ((3 : Int) - p).toNat < n ∧ iter n f7 d7 p = r) (((3 : Int) - 0).toNat + 1) _ sbQ sbQ ⟨0, rfl, ⟨omQ, omQ⟩, (Nat.lt_succ_self _), hM⟩ ?_
  clear hM
  rintro n7 S ⟨p7, rfl, hfa7, hm7, hM⟩
  have hM0 := hM; clear hM; obtain ⟨ag7, hag7, hM⟩ := iter_step hM0 (by omega) hf7; clear hM0
  replace hfa7 := nzQ hfa7
  replace hm7 := nzQ hm7
  have ha7 : addI .i64 p7 1 = p7 + 1 := add_one omQ omQ
  refine spQA ha7 ?_
  have hF := (And.intro h4 ha7)
  exact auQ
set_option maxHeartbeats 2000000 in
set_option maxRecDepth 100000 in
instance epoch_within_ok   (x_ : Int) (low : Int) (high : Int)  : CM En (epoch_within x_ low high) 182 [.int .i64 x_, .int .i64 low, .int .i64 high] (fun y => .bool y) (fun _ => []) := by
 refine cmQ fun r hM => ?_
 rw [epoch_within.eq_1] at hM
 refine enterV En_ok En_mo noJ Tryz.func182 rfl Tryz.ntmps182 (by kernel_rfl) fun hw => ct_start ?_
 refine spQ ?_
 replace hw := nzQ hw
 have hF := trueQ
 exact auQ
set_option maxHeartbeats 2000000 in
set_option maxRecDepth 100000 in
instance epoch_numbers_ok   (bank : Int) (epoch : Int) (from_ : Int) (until_ : Int) (final : Int)  : CM En (epoch_numbers bank epoch from_ until_ final) 181 [.int .i64 bank, .int .i64 epoch, .int .i64 from_, .int .i64 until_, .int .i64 final] (fun y => .bool y) (fun _ => []) := by
 refine cmQ fun r hM => ?_
 rw [epoch_numbers.eq_1] at hM
 refine enterV En_ok En_mo noJ Tryz.func181 rfl Tryz.ntmps181 (by kernel_rfl) fun hw => ct_start ?_
 refine spQ ?_
 replace hw := nzQ hw
 have hF := trueQ
 exact auQ
set_option maxHeartbeats 2000000 in
set_option maxRecDepth 100000 in
instance denom_single_ok   (d_ : S_api_Denom)  : CM En (denom_single d_) 239 [.agg [.int .i64 d_.Value, .int .i64 d_.Depth]] (fun y => .bool y) (fun _ => []) := by
 refine cmQ fun r hM => ?_
 rw [denom_single.eq_1] at hM
 refine enterV En_ok En_mo noJ Tryz.func239 rfl Tryz.ntmps239 (by kernel_rfl) fun hw => ct_start ?_
 refine spQ ?_
 replace hw := nzQ hw
 refine condC_intro (fun h1 => ?_) (fun h1 => ?_)
 ·have kh1 : (q_api_Denom d_ z_api_Denom) = true := h1
  rw [if_pos kh1] at hM
  refine spQA h1 ?_
  have nh1 := nzQ kh1
  try have hr2 := mpQ nh1
  subst hM
  exact retC_view (lfQA h1)
 ·have kh1 : (q_api_Denom d_ z_api_Denom) = false := h1
  rw [if_neg (ne_true kh1)] at hM
  refine spQA h1 ?_
  have nh1 := nzQ kh1
  try have hr3 := mpQ nh1
  refine ct_draw 33 24 [6, 7, 8, 9, 10, 11, 12, 13, 14, 15, 16, 17, 18, 19, 20, 21, 22, 23, 24, 25, 26, 27, 28, 29] [] ([[], [0], [0, 1], [0, 1, 2], [0, 1, 2, 3], [0, 1, 2, 3, 4], [0, 1, 2, 3, 4, 5], [0, 1, 2, 3, 4, 5, 6], [0, 1, 2, 3, 4, 5, 6, 7], [0, 1, 2, 3, 4, 5, 6, 7, 8], [0, 1, 2, 3, 4, 5, 6, 7, 8, 9], [0, 1, 2, 3, 4, 5, 6, 7, 8, 9, 10], [0, 1, 2, 3, 4, 5, 6, 7, 8, 9, 10, 11], [0, 1, 2, 3, 4, 5, 6, 7, 8, 9, 10, 11, 12], [0, 1, 2, 3, 4, 5, 6, 7, 8, 9, 10, 11, 12, 13], [0, 1, 2, 3, 4, 5, 6, 7, 8, 9, 10, 11, 12, 13, 14], [0, 1, 2, 3, 4, 5, 6, 7, 8, 9, 10, 11, 12, 13, 14, 15], [0, 1, 2, 3, 4, 5, 6, 7, 8, 9, 10, 11, 12, 13, 14, 15, 16], [0, 1, 2, 3, 4, 5, 6, 7, 8, 9, 10, 11, 12, 13, 14, 15, 16, 17], [0, 1, 2, 3, 4, 5, 6, 7, 8, 9, 10, 11, 12, 13, 14, 15, 16, 17, 18], [0, 1, 2, 3, 4, 5, 6, 7, 8, 9, 10, 11, 12, 13, 14, 15, 16, 17, 18, 19], [0, 1, 2, 3, 4, 5, 6, 7, 8, 9, 10, 11, 12, 13, 14, 15, 16, 17, 18], [0, 1, 2, 3, 4, 5, 6, 7, 8, 9, 10, 11, 12, 13, 14, 15, 16, 17, 18, 21], [0, 1, 2, 3, 4, 5, 6, 7, 8, 9, 10, 11, 12, 13, 14, 15, 16, 17, 18, 21, 22]] ++ [List.range 24, List.range 25, List.range 26, List.range 27]) [] (by kernel_rfl) (by exact alQ) ?_
  refine spQ ?_
  refine hguardC_t (fun h4 => ?_) (fun h4 => ?_)
  ·rw [if_pos h4] at hM
   refine spQA h4 ?_
   have nh4 := nzQ h4
   try have hr5 := mpQ nh4
   refine hguardC_t (fun h6 => ?_) (fun h6 => ?_)
   ·rw [if_pos h6] at hM
    refine spQA h6 ?_
    have nh6 := nzQ h6
    try have hr7 := mpQ nh6
    refine hguardC_t (fun h8 => ?_) (fun h8 => ?_)
    ·rw [if_pos h8] at hM
     refine spQA h8 ?_
     have nh8 := nzQ h8
     try have hr9 := mpQ nh8
     refine hguardC_t (fun h10 => ?_) (fun h10 => ?_)
     ·rw [if_pos h10] at hM
      refine spQA h10 ?_
      have nh10 := nzQ h10
      try have hr11 := mpQ nh10
      refine hbindC_intro omQ ?_
      refine spQ ?_
      refine bindC_intro (by (clear hM; simp only [decide_eq_true_eq] at *; rcases (show d_.Depth = 0 ∨ d_.Depth = 1 ∨ d_.Depth = 2 ∨ d_.Depth = 3 ∨ d_.Depth = 4 ∨ d_.Depth = 5 by omega) with h | h | h | h | h | h <;> rw [h] <;> decide)) ?_
      refine spQ ?_
      subst hM
      exact retC_view (lfQA (And.intro h1 (And.intro h4 (And.intro h6 (And.intro h8 h10)))))
     ·rw [if_neg (ne_true h10)] at hM
      refine spQA h10 ?_
      have nh10 := nzQ h10
      try have hr12 := mpQ nh10
      subst hM
      exact retC_view (lfQA (And.intro h1 (And.intro h4 (And.intro h6 (And.intro h8 h10)))))
    ·rw [if_neg (ne_true h8)] at hM
     refine spQA h8 ?_
     have nh8 := nzQ h8
     try have hr13 := mpQ nh8
     subst hM
     exact retC_view (lfQA (And.intro h1 (And.intro h4 (And.intro h6 h8))))
   ·rw [if_neg (ne_true h6)] at hM
    refine spQA h6 ?_
    have nh6 := nzQ h6
    try have hr14 := mpQ nh6
    subst hM
    exact retC_view (lfQA (And.intro h1 (And.intro h4 h6)))
  ·rw [if_neg (ne_true h4)] at hM
   refine spQA h4 ?_
   have nh4 := nzQ h4
   try have hr15 := mpQ nh4
   subst hM
   exact retC_view (lfQA (And.intro h1 h4))
set_option maxHeartbeats 2000000 in
set_option maxRecDepth 100000 in
instance denom_Valid_ok   (l : (List S_api_Denom))  : CM En (denom_Valid l) 183 [.sl none 2 true (l.map e_api_Denom)] (fun y => .bool y) (fun _ => []) := by
 refine cmQ fun r hM => ?_
 rw [denom_Valid.eq_1] at hM
 refine enterV En_ok En_mo noJ Tryz.func183 rfl Tryz.ntmps183 (by kernel_rfl) fun hw => ct_start ?_
 refine spQ ?_
 replace hw := nzQ hw
 refine guardC_f (fun h1 => ?_) (fun h1 => ?_)
 ·rw [if_neg (ne_true h1)] at hM
  refine spQA h1 ?_
  have nh1 := nzQ h1
  try have hr2 := mpQ nh1
  refine condC_intro (fun h3 => ?_) (fun h3 => ?_)
  ·rw [if_pos h3] at hM
   refine spQA h3 ?_
   have nh3 := nzQ h3
   try have hr4 := mpQ nh3
   subst hM
   exact retC_view (lfQA (And.intro h1 h3))
  ·rw [if_neg (ne_true h3)] at hM
   refine spQA h3 ?_
   have nh3 := nzQ h3
   try have hr5 := mpQ nh3
   have hM0 := hM; clear hM; obtain ⟨f6, d6, hf6, hd6, hM⟩ := iter_opn hM0; clear hM0
   refine ct_loop (fun n S => ∃ p : Int, S = (⟨[(0, .sl none 2 true (l.map e_api_Denom)), (13, .sl none 2 true (l.map e_api_Denom)), (14, .int .i64 (l.length : Int)), (15, .int .i64 p)], [], 0⟩ : St) ∧ ((0 ≤ p) ∧ (p ≤ (l.length : Int))) ∧ ((l.length : Int) - p).toNat < n ∧ iter n f6 d6 p = r) (((l.length : Int) - 0).toNat + 1) _ sbQ sbQ ⟨0, rfl, ⟨omQ, omQ⟩, (Nat.lt_succ_self _), hM⟩ ?_
   clear hM
   rintro n6 S ⟨p6, rfl, hfa6, hm6, hM⟩
   have hM0 := hM; clear hM; obtain ⟨ag6, hag6, hM⟩ := iter_step hM0 (by omega) hf6; clear hM0
   replace hfa6 := nzQ hfa6
   replace hm6 := nzQ hm6
   have ha6 : addI .i64 p6 1 = p6 + 1 := add_one omQ omQ
   refine spQA ha6 ?_
   refine condC_intro (fun h7 => ?_) (fun h7 => ?_)
   ·rw [if_pos h7] at hM
    refine spQA (And.intro ha6 h7) ?_
    have nh7 := nzQ h7
    try have hr8 := mpQ nh7
    refine bindC_intro omQ ?_
    have he9 := fun d => elt_mp (l := l) (f := e_api_Denom) (i := p6) omQ d
    refine spQA (And.intro ha6 he9) ?_
    have hM0 := hM; clear hM; obtain ⟨x10, hx11, hM⟩ := letk_opn hM0; clear hM0
    have hcx10 := cmU hx11
    refine callC_give hcx10 (clQA (And.intro ha6 he9)) (clQA (And.intro ha6 he9)) (fun hw12 => ?_)
    replace hw12 := nzQ hw12
    refine spQA (And.intro ha6 he9) ?_
    refine condC_intro (fun h13 => ?_) (fun h13 => ?_)
    ·rw [if_pos h13] at hM
     refine spQA (And.intro ha6 (And.intro he9 h13)) ?_
     have nh13 := nzQ h13
     try have hr14 := mpQ nh13
     subst hM
     exact retC_view (lfQA (And.intro ha6 (And.intro he9 (And.intro h1 (And.intro h3 (And.intro h7 h13))))))
    ·rw [if_neg (ne_true h13)] at hM
     refine spQA (And.intro ha6 (And.intro he9 h13)) ?_
     have nh13 := nzQ h13
     try have hr15 := mpQ nh13
     refine ct_draw 59 31 [23, 24, 25, 26, 27, 28, 29, 30, 31, 32, 33, 34, 35, 36, 37, 38, 39, 40, 41, 42, 43, 44, 45, 46, 47, 48, 49, 50, 51, 52, 53] [] ([[], [0], [0, 1], [0, 1, 2], [0, 1, 2, 3], [0, 1, 2], [0, 1, 2], [0, 1, 2, 6], [0, 1, 2, 5, 6, 7], [0, 1, 2, 5, 6, 7, 8], [0, 1, 2, 5, 6, 7, 8, 9], [0, 1, 2, 3, 4, 5, 6, 7, 8, 9, 10], [0, 1, 2, 3, 4, 5, 6, 7, 8, 9, 10, 11], [0, 1, 2, 3, 4, 5, 6, 7, 8, 9, 10, 11, 12], [0, 1, 2, 3, 4, 5, 6, 7, 8, 9, 10, 11, 12, 13], [0, 1, 2, 3, 4, 5, 6, 7, 8, 9, 10, 11, 12], [0, 1, 2, 3, 4, 5, 6, 7, 8, 9, 10, 11, 12], [0, 1, 2, 3, 4, 5, 6, 7, 8, 9, 10, 11, 12, 16], [0, 1, 2, 3, 4, 5, 6, 7, 8, 9, 10, 11, 12, 15, 16, 17], [0, 1, 2, 3, 4, 5, 6, 7, 8, 9, 10, 11, 12, 15, 16, 17, 18], [0, 1, 2, 3, 4, 5, 6, 7, 8, 9, 10, 11, 12, 15, 16, 17, 18, 19], [0, 1, 2, 3, 4, 5, 6, 7, 8, 9, 10, 11, 12, 13, 14, 15, 16, 17, 18, 19, 20], [0, 1, 2, 3, 4, 5, 6, 7, 8, 9, 10, 11, 12, 13, 14, 15, 16, 17, 18, 19, 20, 21], [0, 1, 2, 3, 4, 5, 6, 7, 8, 9, 10, 11, 12, 13, 14, 15, 16, 17, 18, 19, 20, 21, 22], [0, 1, 2, 3, 4, 5, 6, 7, 8, 9, 10, 11, 12, 13, 14, 15, 16, 17, 18, 19, 20, 21, 22, 23], [0, 1, 2, 3, 4, 5, 6, 7, 8, 9, 10, 11, 12, 13, 14, 15, 16, 17, 18, 19, 20, 21, 22], [0, 1, 2, 3, 4, 5, 6, 7, 8, 9, 10, 11, 12, 13, 14, 15, 16, 17, 18, 19, 20, 21, 22], [0, 1, 2, 3, 4, 5, 6, 7, 8, 9, 10, 11, 12, 13, 14, 15, 16, 17, 18, 19, 20, 21, 22, 26], [0, 1, 2, 3, 4, 5, 6, 7, 8, 9, 10, 11, 12, 13, 14, 15, 16, 17, 18, 19, 20, 21, 22, 25, 26, 27], [0, 1, 2, 3, 4, 5, 6, 7, 8, 9, 10, 11, 12, 13, 14, 15, 16, 17, 18, 19, 20, 21, 22, 25, 26, 27, 28], [0, 1, 2, 3, 4, 5, 6, 7, 8, 9, 10, 11, 12, 13, 14, 15, 16, 17, 18, 19, 20, 21, 22, 25, 26, 27, 28, 29]] ++ [List.range 31, List.range 32, List.range 33, List.range 34]) [] (by kernel_rfl) (by exact alQ) ?_
     refine spQA (And.intro ha6 he9) ?_
     refine hguardC_t (fun h16 => ?_) (fun h16 => ?_)
     ·rw [if_pos h16] at hM
      refine spQA (And.intro ha6 (And.intro he9 h16)) ?_
      have nh16 := nzQ h16
      try have hr17 := mpQ nh16
      have ha18 : subI .i64 p6 1 = (p6 - 1) := sub_ok omQ omQ
      try simp only [ha18]
      have hF := (And.intro h1 (And.intro h3 (And.intro ha6 (And.intro h7 (And.intro he9 (And.intro h13 (And.intro h16 ha18)))))))
      exact auQ
     ·rw [if_neg (ne_true h16)] at hM
      refine spQA (And.intro ha6 (And.intro he9 h16)) ?_
      have nh16 := nzQ h16
      try have hr31 := mpQ nh16
      refine lp_intro (n6 - 1) _ (by omega) sbQ sbQ ⟨(p6 + 1), rfl, ⟨omQ, omQ⟩, omQ, iter_again hM hag6⟩
   ·rw [if_neg (ne_true h7)] at hM
    refine spQA (And.intro ha6 h7) ?_
    have nh7 := nzQ h7
    try have hr32 := mpQ nh7
    subst hM
    exact retC_view (lfQA (And.intro ha6 (And.intro h1 (And.intro h3 h7))))
 ·rw [if_pos h1] at hM
  refine spQA h1 ?_
  have nh1 := nzQ h1
  try have hr33 := mpQ nh1
  subst hM
  exact retC_view (lfQA h1)
set_option maxHeartbeats 2000000 in
set_option maxRecDepth 100000 in
instance restrict_element_ok   (b : S_api_Bases) (x_ : Int)  : CM En (restrict_element b x_) 240 [(e_api_Bases b), .int .i64 x_] (fun y => .bool y) (fun _ => []) := by
 refine cmQ fun r hM => ?_
 rw [restrict_element.eq_1] at hM
 refine enterV En_ok En_mo noJ Tryz.func240 rfl Tryz.ntmps240 (by kernel_rfl) fun hw => ct_start ?_
 refine spQ ?_
 replace hw := nzQ hw
 have hF := trueQ
 exact auQ
set_option maxHeartbeats 2000000 in
set_option maxRecDepth 100000 in
instance restrict_message_ok   (b : S_api_Bases) (m : Int)  : CM En (restrict_message b m) 184 [(e_api_Bases b), .int .i64 m] (fun y => .bool y) (fun _ => []) := by
 refine cmQ fun r hM => ?_
 rw [restrict_message.eq_1] at hM
 refine enterV En_ok En_mo noJ Tryz.func184 rfl Tryz.ntmps184 (by kernel_rfl) fun hw => ct_start ?_
 refine spQ ?_
 replace hw := nzQ hw
 have hF := trueQ
 exact auQ
set_option maxHeartbeats 2000000 in
set_option maxRecDepth 100000 in
instance restrict_Valid_ok   (b : S_api_Bases) (k_ : S_api_BankKey)  : CM En (restrict_Valid b k_) 172 [(e_api_Bases b), .agg [.int .i64 k_.H, .int .i64 k_.H1, .int .i64 k_.H2]] (fun y => .bool y) (fun _ => []) := by
 refine cmQ fun r hM => ?_
 rw [restrict_Valid.eq_1] at hM
 refine enterV En_ok En_mo noJ Tryz.func172 rfl Tryz.ntmps172 (by kernel_rfl) fun hw => ct_start ?_
 refine spQ ?_
 replace hw := nzQ hw
 have hF := trueQ
 exact auQ
set_option maxHeartbeats 2000000 in
set_option maxRecDepth 100000 in
instance epoch_Valid_ok   (b : S_api_Bases) (r_ : S_api_KeyRecord)  : CM En (epoch_Valid b r_) 102 [(e_api_Bases b), (e_api_KeyRecord r_)] (fun y => .bool y) (fun _ => []) := by
 refine cmQ fun r hM => ?_
 rw [epoch_Valid.eq_1] at hM
 refine enterV En_ok En_mo noJ Tryz.func102 rfl Tryz.ntmps102 (by kernel_rfl) fun hw => ct_start ?_
 refine spQ ?_
 replace hw := nzQ hw
 have hF := trueQ
 exact auQ
set_option maxHeartbeats 2000000 in
set_option maxRecDepth 100000 in
instance draw_Valid_ok   (d_ : S_api_Draw)  : CM En (draw_Valid d_) 164 [(e_api_Draw d_)] (fun y => .bool y) (fun _ => []) := by
 refine cmQ fun r hM => ?_
 rw [draw_Valid.eq_1] at hM
 refine enterV En_ok En_mo noJ Tryz.func164 rfl Tryz.ntmps164 (by kernel_rfl) fun hw => ct_start ?_
 refine spQ ?_
 replace hw := nzQ hw
 have hF := trueQ
 exact auQ
set_option maxHeartbeats 2000000 in
set_option maxRecDepth 100000 in
instance withdraw_secret_ok   (b : S_api_Bases) (x_ : Int)  : CM En (withdraw_secret b x_) 127 [(e_api_Bases b), .int .i64 x_] (fun y => .bool y) (fun _ => []) := by
 refine cmQ fun r hM => ?_
 rw [withdraw_secret.eq_1] at hM
 refine enterV En_ok En_mo noJ Tryz.func127 rfl Tryz.ntmps127 (by kernel_rfl) fun hw => ct_start ?_
 refine spQ ?_
 replace hw := nzQ hw
 have hF := trueQ
 exact auQ
set_option maxHeartbeats 2000000 in
set_option maxRecDepth 100000 in
instance withdraw_power_ok   (b : S_api_Bases) (x_ : Int) (e_ : Int)  : CM En (withdraw_power b x_ e_) 106 [(e_api_Bases b), .int .i64 x_, .int .i64 e_] (fun y => .int .i64 y) (fun _ => []) := by
 refine cmQ fun r hM => ?_
 rw [withdraw_power.eq_1] at hM
 refine enterV En_ok En_mo noJ Tryz.func106 rfl Tryz.ntmps106 (by kernel_rfl) fun hw => ct_start ?_
 refine spQ ?_
 replace hw := nzQ hw
 have hF := trueQ
 exact auQ
set_option maxHeartbeats 2000000 in
set_option maxRecDepth 100000 in
instance word_Mul_ok   (a_ : Int) (b : Int) (m : Int)  : CM En (word_Mul a_ b m) 84 [.int .i64 a_, .int .i64 b, .int .i64 m] (fun y => .tup [.int .i64 y.1, .int .i64 y.2]) (fun _ => []) := by
 refine cmQ fun r hM => ?_
 rw [word_Mul.eq_1] at hM
 refine enterV En_ok En_mo noJ Tryz.func84 rfl Tryz.ntmps84 (by kernel_rfl) fun hw => ct_start ?_
 refine spQ ?_
 replace hw := nzQ hw
 have hM0 := hM; clear hM; obtain ⟨x1, hx2, hM⟩ := letk_opn hM0; clear hM0
 have hcx1 := cmU hx2
 refine callC_give hcx1 clQ clQ (fun hw3 => ?_)
 replace hw3 := nzQ hw3
 refine spQ ?_
 have hq4 := nzQ (cfU hx2)
 refine condC_intro (fun h5 => ?_) (fun h5 => ?_)
 ·rw [if_pos h5] at hM
  refine spQA h5 ?_
  have nh5 := nzQ h5
  try have hr6 := mpQ nh5
  subst hM
  exact retC_view (lfQA h5)
 ·rw [if_neg (ne_true h5)] at hM
  refine spQA h5 ?_
  have nh5 := nzQ h5
  try have hr7 := mpQ nh5
  have hM0 := hM; clear hM; obtain ⟨x8, hx9, hM⟩ := letk_opn hM0; clear hM0
  have hcx8 := cmH hx9 (word_mul_ok  a_ b m (by (exact pfQ)) (by (exact pfQ)) (by (exact pfQ)))
  refine callC_give hcx8 clQ clQ (fun hw10 => ?_)
  replace hw10 := nzQ hw10
  refine spQ ?_
  subst hM
  exact retC_view (lfQA h5)
set_option maxHeartbeats 2000000 in
set_option maxRecDepth 100000 in
instance withdraw_times_ok   (b : S_api_Bases) (x_ : Int) (y : Int)  : CM En (withdraw_times b x_ y) 227 [(e_api_Bases b), .int .i64 x_, .int .i64 y] (fun y => .int .i64 y) (fun _ => []) := by
 refine cmQ fun r hM => ?_
 rw [withdraw_times.eq_1] at hM
 refine enterV En_ok En_mo noJ Tryz.func227 rfl Tryz.ntmps227 (by kernel_rfl) fun hw => ct_start ?_
 refine spQ ?_
 replace hw := nzQ hw
 have hF := trueQ
 exact auQ
instance (priority := 1002) : DRD 1 26 17 [7, 8, 9, 10, 11, 12, 13, 14, 15, 16, 17, 18, 19, 20, 21, 22, 23] [] ([[], [], [], [2], [], [1, 2, 3, 4], [], [6], [0, 1, 2, 3, 4, 5, 6, 7], [], [], [], [11], [], [0, 1, 2, 3, 4, 5, 6, 7, 8, 10, 11, 12, 13], [], [15]] ++ [List.range 17, List.range 18, List.range 19]) [] := ⟨trivial⟩
set_option maxHeartbeats 2000000 in
set_option maxRecDepth 100000 in
instance withdraw_start_ok   (b : S_api_Bases) (k_ : S_api_BankKey) (u : Int)  : CM En (withdraw_start b k_ u) 165 [(e_api_Bases b), .agg [.int .i64 k_.H, .int .i64 k_.H1, .int .i64 k_.H2], .int .i64 u] (fun y => (e_api_CoinView y)) (fun _ => []) := by
 refine cmQ fun r hM => ?_
 rw [withdraw_start.eq_1] at hM
 refine enterV En_ok En_mo noJ Tryz.func165 rfl Tryz.ntmps165 (by kernel_rfl) fun hw => ct_start ?_
 refine spQ ?_
 replace hw := nzQ hw
 have hF := trueQ
 exact auQ
set_option maxHeartbeats 2000000 in
set_option maxRecDepth 100000 in
instance withdraw_number_ok   (n_ : Int)  : CM En (withdraw_number n_) 103 [.int .i64 n_] (fun y => .bool y) (fun _ => []) := by
 refine cmQ fun r hM => ?_
 rw [withdraw_number.eq_1] at hM
 refine enterV En_ok En_mo noJ Tryz.func103 rfl Tryz.ntmps103 (by kernel_rfl) fun hw => ct_start ?_
 refine spQ ?_
 replace hw := nzQ hw
 have hF := trueQ
 exact auQ
set_option maxHeartbeats 2000000 in
set_option maxRecDepth 100000 in
instance coin_nonzero_ok   (b : S_api_Bases) (n_ : Int)  : CM En (coin_nonzero b n_) 132 [(e_api_Bases b), .int .i64 n_] (fun y => .bool y) (fun _ => []) := by
 refine cmQ fun r hM => ?_
 rw [coin_nonzero.eq_1] at hM
 refine enterV En_ok En_mo noJ Tryz.func132 rfl Tryz.ntmps132 (by kernel_rfl) fun hw => ct_start ?_
 refine spQ ?_
 replace hw := nzQ hw
 have hF := trueQ
 exact auQ
set_option maxHeartbeats 2000000 in
set_option maxRecDepth 100000 in
instance product_elements_1_ok   (x_ : Int) (c0 : S_api_Group)  : CM En (product_elements_1 x_ c0) 246 [.int .i64 x_, .pp 3 true (.agg [.int .i64 c0.P, .int .i64 c0.Q, .int .i64 c0.G])] (fun y => .bool y) (fun _ => []) := by
 refine cmQ fun r hM => ?_
 rw [product_elements_1.eq_1] at hM
 refine enterV En_ok En_mo noJ Tryz.func246 rfl Tryz.ntmps246 (by kernel_rfl) fun hw => ct_start ?_
 refine spQ ?_
 replace hw := nzQ hw
 have hF := trueQ
 exact auQ
set_option maxHeartbeats 2000000 in
set_option maxRecDepth 100000 in
instance slices_IndexFunc_int_int_at_product_elements_1_ok   (s : (List Int)) (f__c0 : S_api_Group)  : CM En (slices_IndexFunc_int_int_at_product_elements_1 s f__c0) 76 [.sl none 1 false (s.map (V.int .i64)), .fn 246 [.pp 3 true (.agg [.int .i64 f__c0.P, .int .i64 f__c0.Q, .int .i64 f__c0.G])]] (fun y => .int .i64 y) (fun _ => []) := by
 refine cmQ fun r hM => ?_
 rw [slices_IndexFunc_int_int_at_product_elements_1.eq_1] at hM
 refine enterV En_ok En_mo noJ Tryz.func76 rfl Tryz.ntmps76 (by kernel_rfl) fun hw => ct_start ?_
 refine spQ ?_
 replace hw := nzQ hw
 have hM0 := hM; clear hM; obtain ⟨f1, d1, hf1, hd1, hM⟩ := iter_opn hM0; clear hM0
 refine ct_loop (fun n S => ∃ p : Int, S = (⟨[(0, .sl none 1 false (s.map (V.int .i64))), (1, .fn 246 [.pp 3 true (.agg [.int .i64 f__c0.P, .int .i64 f__c0.Q, .int .i64 f__c0.G])]), (7, .int .i64 (s.length : Int)), (8, .int .i64 p)], [], 0⟩ : St) ∧ ((0 ≤ p) ∧ (p ≤ (s.length : Int))) ∧ ((s.length : Int) - p).toNat < n ∧ iter n f1 d1 p = r) (((s.length : Int) - 0).toNat + 1) _ sbQ sbQ ⟨0, rfl, ⟨omQ, omQ⟩, (Nat.lt_succ_self _), hM⟩ ?_
 clear hM
 rintro n1 S ⟨p1, rfl, hfa1, hm1, hM⟩
 have hM0 := hM; clear hM; obtain ⟨ag1, hag1, hM⟩ := iter_step hM0 (by omega) hf1; clear hM0
 replace hfa1 := nzQ hfa1
 replace hm1 := nzQ hm1
 have ha1 : addI .i64 p1 1 = p1 + 1 := add_one omQ omQ
 refine spQA ha1 ?_
 have hF := ha1
 exact auQ
set_option maxHeartbeats 2000000 in
set_option maxRecDepth 100000 in
instance slices_ContainsFunc_int_int_at_product_elements_1_ok   (s : (List Int)) (f__c0 : S_api_Group)  : CM En (slices_ContainsFunc_int_int_at_product_elements_1 s f__c0) 23 [.sl none 1 false (s.map (V.int .i64)), .fn 246 [.pp 3 true (.agg [.int .i64 f__c0.P, .int .i64 f__c0.Q, .int .i64 f__c0.G])]] (fun y => .bool y) (fun _ => []) := by
 refine cmQ fun r hM => ?_
 rw [slices_ContainsFunc_int_int_at_product_elements_1.eq_1] at hM
 refine enterV En_ok En_mo noJ Tryz.func23 rfl Tryz.ntmps23 (by kernel_rfl) fun hw => ct_start ?_
 refine spQ ?_
 replace hw := nzQ hw
 have hF := trueQ
 exact auQ
set_option maxHeartbeats 2000000 in
set_option maxRecDepth 100000 in
instance product_elements_ok   (g : S_api_Group) (l : (List Int))  : CM En (product_elements g l) 204 [.agg [.int .i64 g.P, .int .i64 g.Q, .int .i64 g.G], .sl none 1 false (l.map (V.int .i64))] (fun y => .bool y) (fun _ => []) := by
 refine cmQ fun r hM => ?_
 rw [product_elements.eq_1] at hM
 refine enterV En_ok En_mo noJ Tryz.func204 rfl Tryz.ntmps204 (by kernel_rfl) fun hw => ct_start ?_
 refine spQ ?_
 replace hw := nzQ hw
 have hF := trueQ
 exact auQ
set_option maxHeartbeats 2000000 in
set_option maxRecDepth 100000 in
instance product_exponents_1_ok   (e_ : Int) (c0 : S_api_Group)  : CM En (product_exponents_1 e_ c0) 247 [.int .i64 e_, .pp 3 true (.agg [.int .i64 c0.P, .int .i64 c0.Q, .int .i64 c0.G])] (fun y => .bool y) (fun _ => []) := by
 refine cmQ fun r hM => ?_
 rw [product_exponents_1.eq_1] at hM
 refine enterV En_ok En_mo noJ Tryz.func247 rfl Tryz.ntmps247 (by kernel_rfl) fun hw => ct_start ?_
 refine spQ ?_
 replace hw := nzQ hw
 have hF := trueQ
 exact auQ
set_option maxHeartbeats 2000000 in
set_option maxRecDepth 100000 in
instance slices_IndexFunc_int_int_at_product_exponents_1_ok   (s : (List Int)) (f__c0 : S_api_Group)  : CM En (slices_IndexFunc_int_int_at_product_exponents_1 s f__c0) 76 [.sl none 1 false (s.map (V.int .i64)), .fn 247 [.pp 3 true (.agg [.int .i64 f__c0.P, .int .i64 f__c0.Q, .int .i64 f__c0.G])]] (fun y => .int .i64 y) (fun _ => []) := by
 refine cmQ fun r hM => ?_
 rw [slices_IndexFunc_int_int_at_product_exponents_1.eq_1] at hM
 refine enterV En_ok En_mo noJ Tryz.func76 rfl Tryz.ntmps76 (by kernel_rfl) fun hw => ct_start ?_
 refine spQ ?_
 replace hw := nzQ hw
 have hM0 := hM; clear hM; obtain ⟨f1, d1, hf1, hd1, hM⟩ := iter_opn hM0; clear hM0
 refine ct_loop (fun n S => ∃ p : Int, S = (⟨[(0, .sl none 1 false (s.map (V.int .i64))), (1, .fn 247 [.pp 3 true (.agg [.int .i64 f__c0.P, .int .i64 f__c0.Q, .int .i64 f__c0.G])]), (7, .int .i64 (s.length : Int)), (8, .int .i64 p)], [], 0⟩ : St) ∧ ((0 ≤ p) ∧ (p ≤ (s.length : Int))) ∧ ((s.length : Int) - p).toNat < n ∧ iter n f1 d1 p = r) (((s.length : Int) - 0).toNat + 1) _ sbQ sbQ ⟨0, rfl, ⟨omQ, omQ⟩, (Nat.lt_succ_self _), hM⟩ ?_
 clear hM
 rintro n1 S ⟨p1, rfl, hfa1, hm1, hM⟩
 have hM0 := hM; clear hM; obtain ⟨ag1, hag1, hM⟩ := iter_step hM0 (by omega) hf1; clear hM0
 replace hfa1 := nzQ hfa1
 replace hm1 := nzQ hm1
 have ha1 : addI .i64 p1 1 = p1 + 1 := add_one omQ omQ
 refine spQA ha1 ?_
 have hF := ha1
 exact auQ
set_option maxHeartbeats 2000000 in
set_option maxRecDepth 100000 in
instance slices_ContainsFunc_int_int_at_product_exponents_1_ok   (s : (List Int)) (f__c0 : S_api_Group)  : CM En (slices_ContainsFunc_int_int_at_product_exponents_1 s f__c0) 23 [.sl none 1 false (s.map (V.int .i64)), .fn 247 [.pp 3 true (.agg [.int .i64 f__c0.P, .int .i64 f__c0.Q, .int .i64 f__c0.G])]] (fun y => .bool y) (fun _ => []) := by
 refine cmQ fun r hM => ?_
 rw [slices_ContainsFunc_int_int_at_product_exponents_1.eq_1] at hM
 refine enterV En_ok En_mo noJ Tryz.func23 rfl Tryz.ntmps23 (by kernel_rfl) fun hw => ct_start ?_
 refine spQ ?_
 replace hw := nzQ hw
 have hF := trueQ
 exact auQ
set_option maxHeartbeats 2000000 in
set_option maxRecDepth 100000 in
instance product_exponents_ok   (g : S_api_Group) (l : (List Int))  : CM En (product_exponents g l) 205 [.agg [.int .i64 g.P, .int .i64 g.Q, .int .i64 g.G], .sl none 1 false (l.map (V.int .i64))] (fun y => .bool y) (fun _ => []) := by
 refine cmQ fun r hM => ?_
 rw [product_exponents.eq_1] at hM
 refine enterV En_ok En_mo noJ Tryz.func205 rfl Tryz.ntmps205 (by kernel_rfl) fun hw => ct_start ?_
 refine spQ ?_
 replace hw := nzQ hw
 have hF := trueQ
 exact auQ
set_option maxHeartbeats 2000000 in
set_option maxRecDepth 100000 in
instance group_check_ok   (g : S_api_Group) (l : (List Int))  : CM En (group_check g l) 81 [.agg [.int .i64 g.P, .int .i64 g.Q, .int .i64 g.G], .sl none 1 false (l.map (V.int .i64))] (fun y => .int .i64 y) (fun _ => []) := by
 refine cmQ fun r hM => ?_
 rw [group_check.eq_1] at hM
 refine enterV En_ok En_mo noJ Tryz.func81 rfl Tryz.ntmps81 (by kernel_rfl) fun hw => ct_start ?_
 refine spQ ?_
 replace hw := nzQ hw
 have hM0 := hM; clear hM; obtain ⟨x1, hx2, hM⟩ := letk_opn hM0; clear hM0
 have hcx1 := cmU hx2
 refine callC_give hcx1 clQ clQ (fun hw3 => ?_)
 replace hw3 := nzQ hw3
 refine spQ ?_
 refine condC_intro (fun h4 => ?_) (fun h4 => ?_)
 ·rw [if_pos h4] at hM
  refine spQA h4 ?_
  have nh4 := nzQ h4
  try have hr5 := mpQ nh4
  subst hM
  exact retC_view (lfQA h4)
 ·rw [if_neg (ne_true h4)] at hM
  refine spQA h4 ?_
  have nh4 := nzQ h4
  try have hr6 := mpQ nh4
  have hM0 := hM; clear hM; obtain ⟨f7, d7, hf7, hd7, hM⟩ := iter_opn hM0; clear hM0
  refine ct_loop (fun n S => ∃ p : Int, S = (⟨[(2, .ptr 0 0), (10, .sl none 1 false (l.map (V.int .i64))), (11, .int .i64 (l.length : Int)), (12, .int .i64 p)], [(0, .var 3 true (.agg [.int .i64 g.P, .int .i64 g.Q, .int .i64 g.G]))], 1⟩ : St) ∧ ((0 ≤ p) ∧ (p ≤ (l.length : Int))) ∧ ((l.length : Int) - p).toNat < n ∧ iter n f7 d7 p = r) (((l.length : Int) - 0).toNat + 1) _ sbQ sbQ ⟨0, rfl, ⟨omQ, omQ⟩, (Nat.lt_succ_self _), hM⟩ ?_
  clear hM
  rintro n7 S ⟨p7, rfl, hfa7, hm7, hM⟩
  have hM0 := hM; clear hM; obtain ⟨ag7, hag7, hM⟩ := iter_step hM0 (by omega) hf7; clear hM0
  replace hfa7 := nzQ hfa7
  replace hm7 := nzQ hm7
  have ha7 : addI .i64 p7 1 = p7 + 1 := add_one omQ omQ
  refine spQA ha7 ?_
  have hF := (And.intro h4 ha7)
  exact auQ
set_option maxHeartbeats 2000000 in
set_option maxRecDepth 100000 in
instance word_Reduce_ok   (a_ : Int) (m : Int)  : CM En (word_Reduce a_ m) 82 [.int .i64 a_, .int .i64 m] (fun y => .tup [.int .i64 y.1, .int .i64 y.2]) (fun _ => []) := by
 refine cmQ fun r hM => ?_
 rw [word_Reduce.eq_1] at hM
 refine enterV En_ok En_mo noJ Tryz.func82 rfl Tryz.ntmps82 (by kernel_rfl) fun hw => ct_start ?_
 refine spQ ?_
 replace hw := nzQ hw
 have hF := trueQ
 exact auQ
set_option maxHeartbeats 2000000 in
set_option maxRecDepth 100000 in
instance group_Power_ok   (g : S_api_Group) (a_ : Int) (e_ : Int)  : CM En (group_Power g a_ e_) 29 [.agg [.int .i64 g.P, .int .i64 g.Q, .int .i64 g.G], .int .i64 a_, .int .i64 e_] (fun y => .tup [.int .i64 y.1, .int .i64 y.2]) (fun _ => []) := by
 refine cmQ fun r hM => ?_
 rw [group_Power.eq_1] at hM
 refine enterV En_ok En_mo noJ Tryz.func29 rfl Tryz.ntmps29 (by kernel_rfl) fun hw => ct_start ?_
 refine spQ ?_
 replace hw := nzQ hw
 have hF := trueQ
 exact auQ
set_option maxHeartbeats 2000000 in
set_option maxRecDepth 100000 in
instance group_Mul_ok   (g : S_api_Group) (a_ : Int) (b : Int)  : CM En (group_Mul g a_ b) 30 [.agg [.int .i64 g.P, .int .i64 g.Q, .int .i64 g.G], .int .i64 a_, .int .i64 b] (fun y => .tup [.int .i64 y.1, .int .i64 y.2]) (fun _ => []) := by
 refine cmQ fun r hM => ?_
 rw [group_Mul.eq_1] at hM
 refine enterV En_ok En_mo noJ Tryz.func30 rfl Tryz.ntmps30 (by kernel_rfl) fun hw => ct_start ?_
 refine spQ ?_
 replace hw := nzQ hw
 have hF := trueQ
 exact auQ
instance (priority := 1003) : DRD 5 45 11 [11, 20, 21, 22, 23, 24, 25, 26, 27, 28, 29] [] ([[], [], [], [], [2, 3], [2, 3, 4], [0, 1, 2, 3, 4, 5], [0, 1, 2, 3, 4, 5, 6], [0, 1, 2, 3, 4, 5, 6, 7], [0, 1, 2, 3, 4, 5, 6, 7], [0, 1, 2, 3, 4, 5, 6, 7, 8]] ++ [List.range 11]) [] := ⟨trivial⟩
set_option maxHeartbeats 2000000 in
set_option maxRecDepth 100000 in
theorem product_powers_ok   (g : S_api_Group) (bases : (List Int)) (exps : (List Int)) (hp0 : bases.length = exps.length) : CM En (product_powers g bases exps) 206 [.agg [.int .i64 g.P, .int .i64 g.Q, .int .i64 g.G], .sl none 1 false (bases.map (V.int .i64)), .sl none 1 false (exps.map (V.int .i64))] (fun y => .tup [.int .i64 y.1, .int .i64 y.2]) (fun _ => []) := by
 refine cmQ fun r hM => ?_
 rw [product_powers.eq_1] at hM
 refine enterV En_ok En_mo noJ Tryz.func206 rfl Tryz.ntmps206 (by kernel_rfl) fun hw => ct_start ?_
 refine spQ ?_
 replace hw := nzQ hw
 have hM0 := hM; clear hM; obtain ⟨f1, d1, hf1, hd1, hM⟩ := iter_opn hM0; clear hM0
 refine ct_loop (fun n S => ∃ p : Int × Int, S = (⟨[(2, .sl none 1 false (exps.map (V.int .i64))), (3, .ptr 0 0), (8, .int .i64 p.1), (13, .sl none 1 false (bases.map (V.int .i64))), (14, .int .i64 (bases.length : Int)), (15, .int .i64 p.2)], [(0, .var 3 true (.agg [.int .i64 g.P, .int .i64 g.Q, .int .i64 g.G]))], 1⟩ : St) ∧ ((0 ≤ p.2) ∧ (p.2 ≤ (bases.length : Int))) ∧ ((bases.length : Int) - p.2).toNat < n ∧ iter n f1 d1 p = r) (((bases.length : Int) - 0).toNat + 1) _ sbQ sbQ ⟨(1, 0), rfl, ⟨omQ, omQ⟩, (Nat.lt_succ_self _), hM⟩ ?_
 clear hM
 rintro n1 S ⟨p1, rfl, hfa1, hm1, hM⟩
 have hM0 := hM; clear hM; obtain ⟨ag1, hag1, hM⟩ := iter_step hM0 (by omega) hf1; clear hM0
 replace hfa1 := nzQ hfa1
 replace hm1 := nzQ hm1
 have ha1 : addI .i64 p1.2 1 = p1.2 + 1 := add_one omQ omQ
 refine spQA ha1 ?_
 have hF := ha1
 exact auQ
set_option maxHeartbeats 2000000 in
set_option maxRecDepth 100000 in
instance product_Product_ok   (g : S_api_Group) (bases : (List Int)) (exps : (List Int))  : CM En (product_Product g bases exps) 134 [.agg [.int .i64 g.P, .int .i64 g.Q, .int .i64 g.G], .sl none 1 false (bases.map (V.int .i64)), .sl none 1 false (exps.map (V.int .i64))] (fun y => .tup [.int .i64 y.1, .int .i64 y.2]) (fun _ => []) := by
 refine cmQ fun r hM => ?_
 rw [product_Product.eq_1] at hM
 refine enterV En_ok En_mo noJ Tryz.func134 rfl Tryz.ntmps134 (by kernel_rfl) fun hw => ct_start ?_
 refine spQ ?_
 replace hw := nzQ hw
 have hM0 := hM; clear hM; obtain ⟨x1, hx2, hM⟩ := letk_opn hM0; clear hM0
 have hcx1 := cmU hx2
 refine callC_give hcx1 clQ clQ (fun hw3 => ?_)
 replace hw3 := nzQ hw3
 refine spQ ?_
 refine guardC_f (fun h4 => ?_) (fun h4 => ?_)
 ·rw [if_neg (ne_true h4)] at hM
  refine spQA h4 ?_
  have nh4 := nzQ h4
  try have hr5 := mpQ nh4
  refine condC_intro (fun h6 => ?_) (fun h6 => ?_)
  ·rw [if_pos h6] at hM
   refine spQA h6 ?_
   have nh6 := nzQ h6
   try have hr7 := mpQ nh6
   subst hM
   exact retC_view (lfQA (And.intro h4 h6))
  ·rw [if_neg (ne_true h6)] at hM
   refine spQA h6 ?_
   have nh6 := nzQ h6
   try have hr8 := mpQ nh6
   refine condC_intro (fun h9 => ?_) (fun h9 => ?_)
   ·rw [if_pos h9] at hM
    refine spQA h9 ?_
    have nh9 := nzQ h9
    try have hr10 := mpQ nh9
    subst hM
    exact retC_view (lfQA (And.intro h4 (And.intro h6 h9)))
   ·rw [if_neg (ne_true h9)] at hM
    refine spQA h9 ?_
    have nh9 := nzQ h9
    try have hr11 := mpQ nh9
    have hM0 := hM; clear hM; obtain ⟨x12, hx13, hM⟩ := letk_opn hM0; clear hM0
    have hcx12 := cmU hx13
    refine callC_give hcx12 clQ clQ (fun hw14 => ?_)
    replace hw14 := nzQ hw14
    refine spQ ?_
    refine guardC_f (fun h15 => ?_) (fun h15 => ?_)
    ·rw [if_neg (ne_true h15)] at hM
     refine spQA h15 ?_
     have nh15 := nzQ h15
     try have hr16 := mpQ nh15
     have hM0 := hM; clear hM; obtain ⟨x17, hx18, hM⟩ := letk_opn hM0; clear hM0
     have hcx17 := cmU hx18
     refine callC_give hcx17 clQ clQ (fun hw19 => ?_)
     replace hw19 := nzQ hw19
     refine spQ ?_
     refine condC_intro (fun h20 => ?_) (fun h20 => ?_)
     ·rw [if_pos h20] at hM
      refine spQA h20 ?_
      have nh20 := nzQ h20
      try have hr21 := mpQ nh20
      subst hM
      exact retC_view (lfQA (And.intro h4 (And.intro h6 (And.intro h9 (And.intro h15 h20)))))
     ·rw [if_neg (ne_true h20)] at hM
      refine spQA h20 ?_
      have nh20 := nzQ h20
      try have hr22 := mpQ nh20
      have hM0 := hM; clear hM; obtain ⟨x23, hx24, hM⟩ := letk_opn hM0; clear hM0
      have hcx23 := cmH hx24 (product_powers_ok  g bases exps (by (exact pfQ)))
      refine callC_give hcx23 clQ clQ (fun hw25 => ?_)
      replace hw25 := nzQ hw25
      refine spQ ?_
      subst hM
      exact retC_view (lfQA (And.intro h4 (And.intro h6 (And.intro h9 (And.intro h15 h20)))))
    ·rw [if_pos h15] at hM
     refine spQA h15 ?_
     have nh15 := nzQ h15
     try have hr26 := mpQ nh15
     subst hM
     exact retC_view (lfQA (And.intro h4 (And.intro h6 (And.intro h9 h15))))
 ·rw [if_pos h4] at hM
  refine spQA h4 ?_
  have nh4 := nzQ h4
  try have hr27 := mpQ nh4
  subst hM
  exact retC_view (lfQA h4)
set_option maxHeartbeats 2000000 in
set_option maxRecDepth 100000 in
instance coin_message_ok   (b : S_api_Bases) (u : Int)  : CM En (coin_message b u) 61 [(e_api_Bases b), .int .i64 u] (fun y => .int .i64 y) (fun _ => []) := by
 refine cmQ fun r hM => ?_
 rw [coin_message.eq_1] at hM
 refine enterV En_ok En_mo noJ Tryz.func61 rfl Tryz.ntmps61 (by kernel_rfl) fun hw => ct_start ?_
 refine spQ ?_
 replace hw := nzQ hw
 have hF := trueQ
 exact auQ
set_option maxRecDepth 100000 in
theorem bytes_Clone_ok (z0 : Option Bool) (s : List Int) : CallOk En 210 [.sl z0 1 false (s.map (V.int .u8))] (.own 0) [.own 5 1 false none ((bytes_Clone s).map (V.int .u8))] := by
 show CallOk En 210 [.sl z0 1 false (s.map (V.int .u8))] (.own 0) [.own 5 1 false none (s.map (V.int .u8))]
 refine callOk_nil (pre := []) (post := []) (fun hl => ?_) ?_ z0
 ·have hl : s = [] := by cases s with | nil => rfl | cons a s => cases hl
  subst hl
  refine enterV En_ok En_mo noJ Tryz.func210 rfl Tryz.ntmps210 (by kernel_rfl) fun hw => ct_start ?_
  simp only [go_sem, rowV_eq, rowV_eq0, List.length_replicate, rep_len, Int.toNat_natCast, ↓reduceIte, Nat.reduceEqDiff, Nat.reduceAdd, Int.reduceAdd, Nat.reduceMul, Nat.reduceLeDiff, Nat.reduceLT, Int.reduceLE, Int.reduceLT, Int.reduceNeg, Int.reduceToNat, List.nil_append]
  exact retC_nil (by decide)
 ·refine enterV En_ok En_mo noJ Tryz.func210 rfl Tryz.ntmps210 (by kernel_rfl) fun hw => ct_start ?_
  simp only [go_sem, rowV_eq, rowV_eq0, List.length_replicate, rep_len, Int.toNat_natCast, ↓reduceIte, Nat.reduceEqDiff, Nat.reduceAdd, Int.reduceAdd, Nat.reduceMul, Nat.reduceLeDiff, Nat.reduceLT, Int.reduceLE, Int.reduceLT, Int.reduceNeg, Int.reduceToNat, List.nil_append]
  have hn : s.length ≤ 1073741824 := by have h := hw; simp only [wfL, wfV, List.nil_append, LEN_eq, List.length_map] at h; exact h.1.1
  refine bindC_intro (by first | omega | (simp only [List.length_map, List.length_nil, List.nil_append]; omega)) ?_
  refine spQ ?_
  refine retC_ownZ 0 rfl clQ
set_option maxHeartbeats 2000000 in
set_option maxRecDepth 100000 in
instance digest_count_ok   (n_ : Int)  : CM En (digest_count n_) 250 [.int .u64 n_] (fun y => .sl none 1 false (y.map (V.int .u8))) (fun _ => []) := by
 refine cmQ fun r hM => ?_
 rw [digest_count.eq_1] at hM
 refine enterV En_ok En_mo noJ Tryz.func250 rfl Tryz.ntmps250 (by kernel_rfl) fun hw => ct_start ?_
 refine spQ ?_
 replace hw := nzQ hw
 have hM0 := hM; clear hM; obtain ⟨f1, d1, hf1, hd1, hM⟩ := iter_opn hM0; clear hM0
 refine ct_loop (fun n S => ∃ p : Int × List Int, S = (⟨[(0, .int .u64 n_), (3, .own 0), (7, .int .i64 (8 : Int)), (8, .int .i64 p.1)], [(0, .own 5 1 false none (p.2.map (V.int .u8)))], 1⟩ : St) ∧ ((0 ≤ p.1) ∧ (p.1 ≤ (8 : Int)) ∧ ((p.2).length = (([(0 : Int), (0 : Int), (0 : Int), (0 : Int), (0 : Int), (0 : Int), (0 : Int), (0 : Int)] : List Int)).length)) ∧ ((8 : Int) - p.1).toNat < n ∧ iter n f1 d1 p = r) (((8 : Int) - 0).toNat + 1) _ sbQ sbQ ⟨(0, ([(0 : Int), (0 : Int), (0 : Int), (0 : Int), (0 : Int), (0 : Int), (0 : Int), (0 : Int)] : List Int)), rfl, ⟨omQ, omQ, omQ⟩, (Nat.lt_succ_self _), hM⟩ ?_
 clear hM
 rintro n1 S ⟨p1, rfl, hfa1, hm1, hM⟩
 have hM0 := hM; clear hM; obtain ⟨ag1, hag1, hM⟩ := iter_step hM0 (by omega) hf1; clear hM0
 replace hfa1 := nzQ hfa1
 replace hm1 := nzQ hm1
 have ha1 : addI .i64 p1.1 1 = p1.1 + 1 := add_one omQ omQ
 refine spQA ha1 ?_
 refine condC_intro (fun h2 => ?_) (fun h2 => ?_)
 ·rw [if_pos h2] at hM
  refine spQA (And.intro ha1 h2) ?_
  have nh2 := nzQ h2
  try have hr3 := mpQ nh2
  obtain ⟨ha4, hbha4⟩ := mul_pos_ok (a := 8) (b := p1.1) 8 8 64 omQ omQ omQ omQ (by decide) (by decide)
  try simp only [ha4]
  have ha5 : subI .i64 56 (8 * p1.1) = (56 - (8 * p1.1)) := sub_ok omQ omQ
  try simp only [ha5]
  have hF := (And.intro ha1 (And.intro h2 ha5))
  exact auQ
 ·rw [if_neg (ne_true h2)] at hM
  refine spQA (And.intro ha1 h2) ?_
  have nh2 := nzQ h2
  try have hr7 := mpQ nh2
  subst hM
  exact retC_view (lfQA (And.intro ha1 h2))
set_option maxHeartbeats 2000000 in
set_option maxRecDepth 100000 in
instance math_bits_RotateLeft32_ok   (x_ : Int) (k_ : Int)  : CM En (math_bits_RotateLeft32 x_ k_) 289 [.int .u32 x_, .int .i64 k_] (fun y => .int .u32 y) (fun _ => []) := by
 refine cmQ fun r hM => ?_
 rw [math_bits_RotateLeft32.eq_1] at hM
 refine enterV En_ok En_mo noJ Tryz.func289 rfl Tryz.ntmps289 (by kernel_rfl) fun hw => ct_start ?_
 refine spQ ?_
 replace hw := nzQ hw
 refine bindC_intro (by (exact (rng_andI .u64 _ _).1)) ?_
 refine spQ ?_
 refine bindC_intro (by (exact (rng_subI .u64 _ _).1)) ?_
 refine spQ ?_
 subst hM
 exact retC_view lfQ
set_option maxHeartbeats 2000000 in
set_option maxRecDepth 100000 in
instance digest_right_ok   (x_ : Int) (n_ : Int)  : CM En (digest_right x_ n_) 278 [.int .u32 x_, .int .i64 n_] (fun y => .int .u32 y) (fun _ => []) := by
 refine cmQ fun r hM => ?_
 rw [digest_right.eq_1] at hM
 refine enterV En_ok En_mo noJ Tryz.func278 rfl Tryz.ntmps278 (by kernel_rfl) fun hw => ct_start ?_
 refine spQ ?_
 replace hw := nzQ hw
 have hF := trueQ
 exact auQ
set_option maxHeartbeats 2000000 in
set_option maxRecDepth 100000 in
theorem digest_schedule_ok   (block : (List Int)) (hp0 : block.length = 64) : CM En (digest_schedule block) 277 [.sl none 1 false (block.map (V.int .u8))] (fun y => (e_arr311 y)) (fun _ => []) := by
 refine cmQ fun r hM => ?_
 rw [digest_schedule.eq_1] at hM
 refine enterV En_ok En_mo noJ Tryz.func277 rfl Tryz.ntmps277 (by kernel_rfl) fun hw => ct_start ?_
 refine spQ ?_
 replace hw := nzQ hw
 have hM0 := hM; clear hM; obtain ⟨f1, d1, hf1, hd1, hM⟩ := iter_opn hM0; clear hM0
 refine ct_loop (fun n S => ∃ p : Int × (List Int), S = (⟨[(0, .sl none 1 false (block.map (V.int .u8))), (2, .ptr 0 0), (3, .ptr 1 0), (12, .int .i64 p.1)], [(0, .var 64 true (zv_311)), (1, .var 64 true ((e_arr311 p.2)))], 2⟩ : St) ∧ ((0 ≤ p.1) ∧ (p.1 ≤ 16)) ∧ ((16 : Int) - p.1).toNat < n ∧ iter n f1 d1 p = r) (((16 : Int) - 0).toNat + 1) _ sbQ (by simp only [go_sem, rowV_eq, rowV_eq0, List.length_replicate, rep_len, Int.toNat_natCast, ↓reduceIte, Nat.reduceEqDiff, Nat.reduceAdd, Int.reduceAdd, Nat.reduceMul, Nat.reduceLeDiff, Nat.reduceLT, Int.reduceLE, Int.reduceLT, Int.reduceNeg, Int.reduceToNat, List.isEmpty_nil, map_st, mtL_repE, mtL_repM, subF, subH, mtO, mtB, mt, mtL, mtL_self, mt_self, ltV, ltL, ltB, eq_self, or_true, true_or, or_self, and_self, gt_cons0, gt_conss, Int.reduceSub]) ⟨(0, [0, 0, 0, 0, 0, 0, 0, 0, 0, 0, 0, 0, 0, 0, 0, 0, 0, 0, 0, 0, 0, 0, 0, 0, 0, 0, 0, 0, 0, 0, 0, 0, 0, 0, 0, 0, 0, 0, 0, 0, 0, 0, 0, 0, 0, 0, 0, 0, 0, 0, 0, 0, 0, 0, 0, 0, 0, 0, 0, 0, 0, 0, 0, 0]), rfl, ⟨omQ, omQ⟩, (Nat.lt_succ_self _), hM⟩ ?_
 clear hM
 rintro n1 S ⟨p1, rfl, hfa1, hm1, hM⟩
 have hM0 := hM; clear hM; obtain ⟨ag1, hag1, hM⟩ := iter_step hM0 (by omega) hf1; clear hM0
 replace hfa1 := nzQ hfa1
 replace hm1 := nzQ hm1
 have ha1 : addI .i64 p1.1 1 = p1.1 + 1 := add_one omQ omQ
 refine spQA ha1 ?_
 refine condC_intro (fun h2 => ?_) (fun h2 => ?_)
 ·rw [if_pos h2] at hM
  refine spQA (And.intro ha1 h2) ?_
  have nh2 := nzQ h2
  try have hr3 := mpQ nh2
  obtain ⟨ha4, hbha4⟩ := mul_pos_ok (a := 4) (b := p1.1) 4 16 64 omQ omQ omQ omQ (by decide) (by decide)
  try simp only [ha4]
  have ha6 : addI .i64 (4 * p1.1) 4 = ((4 * p1.1) + 4) := add_ok omQ omQ
  try simp only [ha6]
  refine bindC_intro omQ ?_
  refine spQA (And.intro ha1 (And.intro ha4 ha6)) ?_
  have hM0 := hM; clear hM; obtain ⟨f7, d7, hf7, hd7, hM⟩ := iter_opn hM0; clear hM0
  refine ct_loop (fun n S => ∃ p : Int × (List Int), S = (⟨[(0, .sl none 1 false (block.map (V.int .u8))), (2, .ptr 0 0), (3, .ptr 1 0), (4, .int .i64 p1.1), (12, .int .i64 p1.1), (21, .sl none 1 false ((sl block (4 * p1.1) ((4 * p1.1) + 4)).map (V.int .u8))), (22, .int .i64 ((sl block (4 * p1.1) ((4 * p1.1) + 4)).length : Int)), (23, .int .i64 p.1)], [(0, .var 64 true (zv_311)), (1, .var 64 true ((e_arr311 p.2)))], 2⟩ : St) ∧ ((0 ≤ p.1) ∧ (p.1 ≤ ((sl block (4 * p1.1) ((4 * p1.1) + 4)).length : Int))) ∧ (((sl block (4 * p1.1) ((4 * p1.1) + 4)).length : Int) - p.1).toNat < n ∧ iter n f7 d7 p = r) ((((sl block (4 * p1.1) ((4 * p1.1) + 4)).length : Int) - 0).toNat + 1) _ sbQ sbQ ⟨(0, p1.2), rfl, ⟨omQ, omQ⟩, (Nat.lt_succ_self _), hM⟩ ?_
  clear hM
  rintro n7 S ⟨p7, rfl, hfa7, hm7, hM⟩
  have hM0 := hM; clear hM; obtain ⟨ag7, hag7, hM⟩ := iter_step hM0 (by omega) hf7; clear hM0
  replace hfa7 := nzQ hfa7
  replace hm7 := nzQ hm7
  have ha7 : addI .i64 p7.1 1 = p7.1 + 1 := add_one omQ omQ
  refine spQA (And.intro ha1 (And.intro ha4 (And.intro ha6 ha7))) ?_
  refine condC_intro (fun h8 => ?_) (fun h8 => ?_)
  ·rw [if_pos h8] at hM
   refine spQA (And.intro ha1 (And.intro ha4 (And.intro ha6 (And.intro ha7 h8)))) ?_
   have nh8 := nzQ h8
   try have hr9 := mpQ nh8
   refine bindC_intro omQ ?_
   have he10 := fun d => elt_mp (l := (sl block (4 * p1.1) ((4 * p1.1) + 4))) (f := (V.int .u8)) (i := p7.1) omQ d
   refine spQA (And.intro ha1 (And.intro ha4 (And.intro ha6 (And.intro ha7 he10)))) ?_
   refine bindC_intro omQ ?_
   have he11 : ((p1.1).toNat * 1 + 1 ≤ 64) = True := eq_true omQ
   refine spQA (And.intro ha1 (And.intro ha4 (And.intro ha6 (And.intro ha7 (And.intro he10 he11))))) ?_
   have he12 := arr_get (f := (V.int .u32)) (l := p7.2) (n := 64) (i := p1.1) omQ
   replace he12 := spR he12
   try refine spQA (And.intro ha1 (And.intro ha4 (And.intro ha6 (And.intro ha7 (And.intro he10 (And.intro he11 he12)))))) ?_
   refine bindC_intro omQ ?_
   have he13 : ((p1.1).toNat * 1 + 1 ≤ 64) = True := eq_true omQ
   refine spQA (And.intro ha1 (And.intro ha4 (And.intro ha6 (And.intro ha7 (And.intro he10 (And.intro he11 (And.intro he12 he13))))))) ?_
   have he14 := arr_put (f := (V.int .u32)) (l := (arrN 64 p7.2)) (n := 64) (i := p1.1) (v := (orI .u32 (shlI .u32 (gt p7.2 p1.1) 8) (convI .u32 (gt (sl block (4 * p1.1) ((4 * p1.1) + 4)) p7.1)))) arrN_len omQ
   replace he14 := spR he14
   refine spQA (And.intro ha1 (And.intro ha4 (And.intro ha6 (And.intro ha7 (And.intro he10 (And.intro he11 (And.intro he12 (And.intro he13 he14)))))))) ?_
   refine lp_intro (n7 - 1) _ (by omega) sbQ (by simp only [go_sem, rowV_eq, rowV_eq0, List.length_replicate, rep_len, Int.toNat_natCast, ↓reduceIte, Nat.reduceEqDiff, Nat.reduceAdd, Int.reduceAdd, Nat.reduceMul, Nat.reduceLeDiff, Nat.reduceLT, Int.reduceLE, Int.reduceLT, Int.reduceNeg, Int.reduceToNat, List.isEmpty_nil, map_st, mtL_repE, mtL_repM, subF, subH, mtO, mtB, mt, mtL, mtL_self, mt_self, ltV, ltL, ltB, eq_self, or_true, true_or, or_self, and_self, gt_cons0, gt_conss, Int.reduceSub]) ⟨((p7.1 + 1), (arrN 64 (st (arrN 64 p7.2) p1.1 (orI .u32 (shlI .u32 (gt p7.2 p1.1) 8) (convI .u32 (gt (sl block (4 * p1.1) ((4 * p1.1) + 4)) p7.1)))))), rfl, ⟨omQ, omQ⟩, omQ, iter_again hM hag7⟩
  ·rw [if_neg (ne_true h8)] at hM
   refine spQA (And.intro ha1 (And.intro ha4 (And.intro ha6 (And.intro ha7 h8)))) ?_
   have nh8 := nzQ h8
   try have hr15 := mpQ nh8
   refine lp_intro (n1 - 1) _ (by omega) sbQ sbQ ⟨((p1.1 + 1), p7.2), rfl, ⟨omQ, omQ⟩, omQ, iter_again hM hag1⟩
 ·rw [if_neg (ne_true h2)] at hM
  refine spQA (And.intro ha1 h2) ?_
  have nh2 := nzQ h2
  try have hr16 := mpQ nh2
  have hM0 := hM; clear hM; obtain ⟨f17, d17, hf17, hd17, hM⟩ := iter_opn hM0; clear hM0
  refine ct_loop (fun n S => ∃ p : Int × (List Int), S = (⟨[(2, .ptr 0 0), (3, .ptr 1 0), (7, .int .i64 p.1)], [(0, .var 64 true (zv_311)), (1, .var 64 true ((e_arr311 p.2)))], 2⟩ : St) ∧ ((16 ≤ p.1) ∧ (p.1 ≤ 64 ∨ p.1 ≤ 16)) ∧ ((64 : Int) - p.1).toNat < n ∧ iter n f17 d17 p = r) (((64 : Int) - 16).toNat + 1) _ sbQ sbQ ⟨(16, p1.2), rfl, ⟨omQ, omQ⟩, (Nat.lt_succ_self _), hM⟩ ?_
  clear hM
  rintro n17 S ⟨p17, rfl, hfa17, hm17, hM⟩
  have hM0 := hM; clear hM; obtain ⟨ag17, hag17, hM⟩ := iter_step hM0 (by omega) hf17; clear hM0
  replace hfa17 := nzQ hfa17
  replace hm17 := nzQ hm17
  have ha17 : addI .i64 p17.1 1 = p17.1 + 1 := add_one omQ omQ
  refine spQA (And.intro ha1 ha17) ?_
  refine condC_intro (fun h18 => ?_) (fun h18 => ?_)
  ·rw [if_pos h18] at hM
   refine spQA (And.intro ha1 (And.intro ha17 h18)) ?_
   have nh18 := nzQ h18
   try have hr19 := mpQ nh18
   refine ct_draw 82 9 [8, 42, 43, 44, 45, 46, 47, 48, 49] [] ([[], [0], [0, 1], [0, 1, 2], [], [4], [4, 5], [4, 5, 6], [0, 1, 2, 3]] ++ [List.range 9]) [] (by kernel_rfl) (by exact alQ) ?_
   refine spQA (And.intro ha1 ha17) ?_
   have ha20 : subI .i64 p17.1 15 = (p17.1 - 15) := sub_ok omQ omQ
   try simp only [ha20]
   refine hbindC_intro omQ ?_
   have he21 : (((p17.1 - 15)).toNat * 1 + 1 ≤ 64) = True := eq_true omQ
   refine spQA (And.intro ha1 (And.intro ha17 (And.intro ha20 he21))) ?_
   have he22 := arr_get (f := (V.int .u32)) (l := p17.2) (n := 64) (i := (p17.1 - 15)) omQ
   replace he22 := spR he22
   try refine spQA (And.intro ha1 (And.intro ha17 (And.intro ha20 (And.intro he21 he22)))) ?_
   have ha23 : subI .i64 p17.1 2 = (p17.1 - 2) := sub_ok omQ omQ
   try simp only [ha23]
   refine hbindC_intro omQ ?_
   have he24 : (((p17.1 - 2)).toNat * 1 + 1 ≤ 64) = True := eq_true omQ
   refine spQA (And.intro ha1 (And.intro ha17 (And.intro ha20 (And.intro he21 (And.intro he22 (And.intro ha23 he24)))))) ?_
   have he25 := arr_get (f := (V.int .u32)) (l := p17.2) (n := 64) (i := (p17.1 - 2)) omQ
   replace he25 := spR he25
   try refine spQA (And.intro ha1 (And.intro ha17 (And.intro ha20 (And.intro he21 (And.intro he22 (And.intro ha23 (And.intro he24 he25))))))) ?_
   have hM0 := hM; clear hM; obtain ⟨x26, hx27, hM⟩ := letk_opn hM0; clear hM0
   have hcx26 := cmU hx27
   refine callC_give hcx26 (clQA (And.intro ha1 (And.intro ha17 (And.intro ha20 (And.intro he21 (And.intro he22 (And.intro ha23 (And.intro he24 he25)))))))) (clQA (And.intro ha1 (And.intro ha17 (And.intro ha20 (And.intro he21 (And.intro he22 (And.intro ha23 (And.intro he24 he25)))))))) (fun hw28 => ?_)
   replace hw28 := nzQ hw28
   refine spQA (And.intro ha1 (And.intro ha17 (And.intro ha20 (And.intro he21 (And.intro he22 (And.intro ha23 (And.intro he24 he25))))))) ?_
   have hM0 := hM; clear hM; obtain ⟨x29, hx30, hM⟩ := letk_opn hM0; clear hM0
   have hcx29 := cmU hx30
   refine callC_give hcx29 (clQA (And.intro ha1 (And.intro ha17 (And.intro ha20 (And.intro he21 (And.intro he22 (And.intro ha23 (And.intro he24 he25)))))))) (clQA (And.intro ha1 (And.intro ha17 (And.intro ha20 (And.intro he21 (And.intro he22 (And.intro ha23 (And.intro he24 he25)))))))) (fun hw31 => ?_)
   replace hw31 := nzQ hw31
   refine spQA (And.intro ha1 (And.intro ha17 (And.intro ha20 (And.intro he21 (And.intro he22 (And.intro ha23 (And.intro he24 he25))))))) ?_
   have hM0 := hM; clear hM; obtain ⟨x32, hx33, hM⟩ := letk_opn hM0; clear hM0
   have hcx32 := cmU hx33
   refine callC_give hcx32 (clQA (And.intro ha1 (And.intro ha17 (And.intro ha20 (And.intro he21 (And.intro he22 (And.intro ha23 (And.intro he24 he25)))))))) (clQA (And.intro ha1 (And.intro ha17 (And.intro ha20 (And.intro he21 (And.intro he22 (And.intro ha23 (And.intro he24 he25)))))))) (fun hw34 => ?_)
   replace hw34 := nzQ hw34
   refine spQA (And.intro ha1 (And.intro ha17 (And.intro ha20 (And.intro he21 (And.intro he22 (And.intro ha23 (And.intro he24 he25))))))) ?_
   have hM0 := hM; clear hM; obtain ⟨x35, hx36, hM⟩ := letk_opn hM0; clear hM0
   have hcx35 := cmU hx36
   refine callC_give hcx35 (clQA (And.intro ha1 (And.intro ha17 (And.intro ha20 (And.intro he21 (And.intro he22 (And.intro ha23 (And.intro he24 he25)))))))) (clQA (And.intro ha1 (And.intro ha17 (And.intro ha20 (And.intro he21 (And.intro he22 (And.intro ha23 (And.intro he24 he25)))))))) (fun hw37 => ?_)
   replace hw37 := nzQ hw37
   refine spQA (And.intro ha1 (And.intro ha17 (And.intro ha20 (And.intro he21 (And.intro he22 (And.intro ha23 (And.intro he24 he25))))))) ?_
   refine ct_draw 82 14 [66, 67, 68, 69, 70, 71, 72, 73, 74, 75, 76, 77, 78, 79] [] ([[], [], [1], [1, 2], [1, 2, 3], [], [1, 2, 3, 4, 5], [], [7], [7, 8], [7, 8, 9], [1, 2, 3, 4, 5, 6, 7, 8, 9, 10], [], [1, 2, 3, 4, 5, 6, 7, 8, 9, 10, 11, 12]] ++ [List.range 14, List.range 15]) [] (by kernel_rfl) (by exact alQ) ?_
   refine spQA (And.intro ha1 (And.intro ha17 (And.intro ha20 (And.intro he21 (And.intro he22 (And.intro ha23 (And.intro he24 he25))))))) ?_
   have ha38 : subI .i64 p17.1 16 = (p17.1 - 16) := sub_ok omQ omQ
   try simp only [ha38]
   refine hbindC_intro omQ ?_
   have he39 : (((p17.1 - 16)).toNat * 1 + 1 ≤ 64) = True := eq_true omQ
   refine spQA (And.intro ha1 (And.intro ha17 (And.intro ha20 (And.intro he21 (And.intro he22 (And.intro ha23 (And.intro he24 (And.intro he25 (And.intro ha38 he39))))))))) ?_
   have he40 := arr_get (f := (V.int .u32)) (l := p17.2) (n := 64) (i := (p17.1 - 16)) omQ
   replace he40 := spR he40
   try refine spQA (And.intro ha1 (And.intro ha17 (And.intro ha20 (And.intro he21 (And.intro he22 (And.intro ha23 (And.intro he24 (And.intro he25 (And.intro ha38 (And.intro he39 he40)))))))))) ?_
   have ha41 : subI .i64 p17.1 7 = (p17.1 - 7) := sub_ok omQ omQ
   try simp only [ha41]
   refine hbindC_intro omQ ?_
   have he42 : (((p17.1 - 7)).toNat * 1 + 1 ≤ 64) = True := eq_true omQ
   refine spQA (And.intro ha1 (And.intro ha17 (And.intro ha20 (And.intro he21 (And.intro he22 (And.intro ha23 (And.intro he24 (And.intro he25 (And.intro ha38 (And.intro he39 (And.intro he40 (And.intro ha41 he42)))))))))))) ?_
   have he43 := arr_get (f := (V.int .u32)) (l := p17.2) (n := 64) (i := (p17.1 - 7)) omQ
   replace he43 := spR he43
   try refine spQA (And.intro ha1 (And.intro ha17 (And.intro ha20 (And.intro he21 (And.intro he22 (And.intro ha23 (And.intro he24 (And.intro he25 (And.intro ha38 (And.intro he39 (And.intro he40 (And.intro ha41 (And.intro he42 he43))))))))))))) ?_
   refine bindC_intro omQ ?_
   have he44 : ((p17.1).toNat * 1 + 1 ≤ 64) = True := eq_true omQ
   refine spQA (And.intro ha1 (And.intro ha17 (And.intro ha20 (And.intro he21 (And.intro he22 (And.intro ha23 (And.intro he24 (And.intro he25 (And.intro ha38 (And.intro he39 (And.intro he40 (And.intro ha41 (And.intro he42 (And.intro he43 he44)))))))))))))) ?_
   have he45 := arr_put (f := (V.int .u32)) (l := (arrN 64 p17.2)) (n := 64) (i := p17.1) (v := (addI .u32 (addI .u32 (addI .u32 (gt p17.2 (p17.1 - 16)) (xorI .u32 (xorI .u32 x26 x29) (shrI .u32 (gt p17.2 (p17.1 - 15)) 3))) (gt p17.2 (p17.1 - 7))) (xorI .u32 (xorI .u32 x32 x35) (shrI .u32 (gt p17.2 (p17.1 - 2)) 10)))) arrN_len omQ
   replace he45 := spR he45
   refine spQA (And.intro ha1 (And.intro ha17 (And.intro ha20 (And.intro he21 (And.intro he22 (And.intro ha23 (And.intro he24 (And.intro he25 (And.intro ha38 (And.intro he39 (And.intro he40 (And.intro ha41 (And.intro he42 (And.intro he43 (And.intro he44 he45))))))))))))))) ?_
   refine lp_intro (n17 - 1) _ (by omega) sbQ (by simp only [go_sem, rowV_eq, rowV_eq0, List.length_replicate, rep_len, Int.toNat_natCast, ↓reduceIte, Nat.reduceEqDiff, Nat.reduceAdd, Int.reduceAdd, Nat.reduceMul, Nat.reduceLeDiff, Nat.reduceLT, Int.reduceLE, Int.reduceLT, Int.reduceNeg, Int.reduceToNat, List.isEmpty_nil, map_st, mtL_repE, mtL_repM, subF, subH, mtO, mtB, mt, mtL, mtL_self, mt_self, ltV, ltL, ltB, eq_self, or_true, true_or, or_self, and_self, gt_cons0, gt_conss, Int.reduceSub]) ⟨((p17.1 + 1), (arrN 64 (st (arrN 64 p17.2) p17.1 (addI .u32 (addI .u32 (addI .u32 (gt p17.2 (p17.1 - 16)) (xorI .u32 (xorI .u32 x26 x29) (shrI .u32 (gt p17.2 (p17.1 - 15)) 3))) (gt p17.2 (p17.1 - 7))) (xorI .u32 (xorI .u32 x32 x35) (shrI .u32 (gt p17.2 (p17.1 - 2)) 10)))))), rfl, ⟨omQ, omQ⟩, omQ, iter_again hM hag17⟩
  ·rw [if_neg (ne_true h18)] at hM
   refine spQA (And.intro ha1 (And.intro ha17 h18)) ?_
   have nh18 := nzQ h18
   try have hr46 := mpQ nh18
   subst hM
   exact retC_view (lfQA (And.intro ha1 (And.intro ha17 (And.intro h2 h18))))
set_option maxHeartbeats 2000000 in
set_option maxRecDepth 100000 in
theorem digest_mix_ok   (state : (List Int)) (block : (List Int)) (hp0 : block.length = 64) : CM En (digest_mix state block) 251 [(e_arr283 state), .sl none 1 false (block.map (V.int .u8))] (fun y => (e_arr283 y)) (fun _ => []) := by
 refine cmQ fun r hM => ?_
 rw [digest_mix.eq_1] at hM
 refine enterV En_ok En_mo noJ Tryz.func251 rfl Tryz.ntmps251 (by kernel_rfl) fun hw => ct_start ?_
 refine spQ ?_
 replace hw := nzQ hw
 have hM0 := hM; clear hM; obtain ⟨x1, hx2, hM⟩ := letk_opn hM0; clear hM0
 have hcx1 := cmH hx2 (digest_schedule_ok  block (by (exact pfQ)))
 refine callC_give hcx1 clQ clQ (fun hw3 => ?_)
 replace hw3 := nzQ hw3
 refine spQ ?_
 refine ct_draw 121 23 [6, 7, 8, 9, 10, 11, 12, 21, 22, 23, 24, 25, 26, 27, 28, 29, 30, 31, 32, 33, 34, 35, 36] [] ([[], [0], [], [2], [], [4], [], [6], [], [8], [], [10], [], [12], [], [14], [0, 1], [2, 3], [4, 5], [6, 7], [8, 9], [10, 11], [12, 13]] ++ [List.range 23]) [] (by kernel_rfl) (by exact alQ) ?_
 refine spQ ?_
 have hM0 := hM; clear hM; obtain ⟨f4, d4, hf4, hd4, hM⟩ := iter_opn hM0; clear hM0
 refine ct_loop (fun n S => ∃ p : Int × Int × Int × Int × Int × Int × Int × Int × Int, S = (⟨[(2, .ptr 0 0), (4, .ptr 1 0), (5, .ptr 2 0), (6, .int .u32 p.1), (7, .int .u32 p.2.1), (8, .int .u32 p.2.2.1), (9, .int .u32 p.2.2.2.1), (10, .int .u32 p.2.2.2.2.1), (11, .int .u32 p.2.2.2.2.2.1), (12, .int .u32 p.2.2.2.2.2.2.1), (13, .int .u32 p.2.2.2.2.2.2.2.1), (37, .int .i64 p.2.2.2.2.2.2.2.2)], [(0, .var 8 true ((e_arr283 state))), (1, .var 8 true (zv_283)), (2, .var 64 true ((e_arr311 x1)))], 26⟩ : St) ∧ ((0 ≤ p.2.2.2.2.2.2.2.2) ∧ (p.2.2.2.2.2.2.2.2 ≤ 64)) ∧ ((64 : Int) - p.2.2.2.2.2.2.2.2).toNat < n ∧ iter n f4 d4 p = r) (((64 : Int) - 0).toNat + 1) _ sbQ sbQ ⟨((gt state 0), (gt state 1), (gt state 2), (gt state 3), (gt state 4), (gt state 5), (gt state 6), (gt state 7), 0), rfl, ⟨omQ, omQ⟩, (Nat.lt_succ_self _), hM⟩ ?_
 clear hM
 rintro n4 S ⟨p4, rfl, hfa4, hm4, hM⟩
 have hM0 := hM; clear hM; obtain ⟨ag4, hag4, hM⟩ := iter_step hM0 (by omega) hf4; clear hM0
 replace hfa4 := nzQ hfa4
 replace hm4 := nzQ hm4
 have ha4 : addI .i64 p4.2.2.2.2.2.2.2.2 1 = p4.2.2.2.2.2.2.2.2 + 1 := add_one omQ omQ
 refine spQA ha4 ?_
 refine condC_intro (fun h5 => ?_) (fun h5 => ?_)
 ·rw [if_pos h5] at hM
  refine spQA (And.intro ha4 h5) ?_
  have nh5 := nzQ h5
  try have hr6 := mpQ nh5
  refine ct_draw 121 26 [40, 41, 42, 43, 44, 45, 46, 47, 48, 49, 50, 51, 52, 53, 54, 55, 56, 57, 58, 59, 60, 61, 62, 63, 64, 65] [] ([[], [], [1], [], [3], [1, 2, 3, 4], [], [6], [1, 2, 3, 4, 5, 6, 7], [0, 1, 2, 3, 4, 5, 6, 7, 8], [], [], [10, 11], [], [13], [], [13, 14, 15], [10, 11, 12, 13, 14, 15, 16], [0, 1, 2, 3, 4, 5, 6, 7, 8, 9, 10, 11, 12, 13, 14, 15, 16, 17], [], [19], [19, 20], [0, 1, 2, 3, 4, 5, 6, 7, 8, 9, 10, 11, 12, 13, 14, 15, 16, 17, 18, 19, 20, 21], [], [23], [23, 24]] ++ [List.range 26, List.range 27]) [] (by kernel_rfl) (by exact alQ) ?_
  refine spQA ha4 ?_
  have hM0 := hM; clear hM; obtain ⟨x7, hx8, hM⟩ := letk_opn hM0; clear hM0
  have hcx7 := cmU hx8
  refine hcallC_give hcx7 (clQA ha4) (clQA ha4) ?_
  refine spQA ha4 ?_
  have hM0 := hM; clear hM; obtain ⟨x9, hx10, hM⟩ := letk_opn hM0; clear hM0
  have hcx9 := cmU hx10
  refine hcallC_give hcx9 (clQA ha4) (clQA ha4) ?_
  refine spQA ha4 ?_
  have hM0 := hM; clear hM; obtain ⟨x11, hx12, hM⟩ := letk_opn hM0; clear hM0
  have hcx11 := cmU hx12
  refine hcallC_give hcx11 (clQA ha4) (clQA ha4) ?_
  refine spQA ha4 ?_
  refine hbindC_intro omQ ?_
  refine spQA ha4 ?_
  have he13 := pp_get (f := V.int .u32) (l := kg_5) (n := 64) (i := p4.2.2.2.2.2.2.2.2) rfl omQ
  replace he13 := spR he13
  refine spQA (And.intro ha4 he13) ?_
  refine hbindC_intro omQ ?_
  have he14 : ((p4.2.2.2.2.2.2.2.2).toNat * 1 + 1 ≤ 64) = True := eq_true omQ
  refine spQA (And.intro ha4 (And.intro he13 he14)) ?_
  have he15 := arr_get (f := (V.int .u32)) (l := x1) (n := 64) (i := p4.2.2.2.2.2.2.2.2) omQ
  replace he15 := spR he15
  try refine spQA (And.intro ha4 (And.intro he13 (And.intro he14 he15))) ?_
  have hF := (And.intro ha4 (And.intro h5 (And.intro he13 (And.intro he14 he15))))
  exact auQ
 ·rw [if_neg (ne_true h5)] at hM
  refine spQA (And.intro ha4 h5) ?_
  have nh5 := nzQ h5
  try have hr25 := mpQ nh5
  have hM0 := hM; clear hM; obtain ⟨f26, d26, hf26, hd26, hM⟩ := iter_opn hM0; clear hM0
  refine ct_loop (fun n S => ∃ p : Int × (List Int), S = (⟨[(2, .ptr 0 0), (4, .ptr 1 0), (108, .agg [.int .u32 p4.1, .int .u32 p4.2.1, .int .u32 p4.2.2.1, .int .u32 p4.2.2.2.1, .int .u32 p4.2.2.2.2.1, .int .u32 p4.2.2.2.2.2.1, .int .u32 p4.2.2.2.2.2.2.1, .int .u32 p4.2.2.2.2.2.2.2.1]), (109, .int .i64 p.1)], [(0, .var 8 true ((e_arr283 p.2))), (1, .var 8 true (zv_283))], 26⟩ : St) ∧ ((0 ≤ p.1) ∧ (p.1 ≤ 8)) ∧ ((8 : Int) - p.1).toNat < n ∧ iter n f26 d26 p = r) (((8 : Int) - 0).toNat + 1) _ sbQ sbQ ⟨(0, state), rfl, ⟨omQ, omQ⟩, (Nat.lt_succ_self _), hM⟩ ?_
  clear hM
  rintro n26 S ⟨p26, rfl, hfa26, hm26, hM⟩
  have hM0 := hM; clear hM; obtain ⟨ag26, hag26, hM⟩ := iter_step hM0 (by omega) hf26; clear hM0
  replace hfa26 := nzQ hfa26
  replace hm26 := nzQ hm26
  have ha26 : addI .i64 p26.1 1 = p26.1 + 1 := add_one omQ omQ
  refine spQA (And.intro ha4 ha26) ?_
  refine condC_intro (fun h27 => ?_) (fun h27 => ?_)
  ·rw [if_pos h27] at hM
   refine spQA (And.intro ha4 (And.intro ha26 h27)) ?_
   have nh27 := nzQ h27
   try have hr28 := mpQ nh27
   have he29 := pp_get (f := (V.int .u32)) (l := ([p4.1, p4.2.1, p4.2.2.1, p4.2.2.2.1, p4.2.2.2.2.1, p4.2.2.2.2.2.1, p4.2.2.2.2.2.2.1, p4.2.2.2.2.2.2.2.1] : List Int)) (n := 8) (i := p26.1) rfl omQ
   replace he29 := spR he29
   refine spQA (And.intro ha4 (And.intro ha26 he29)) ?_
   refine bindC_intro omQ ?_
   refine spQA (And.intro ha4 (And.intro ha26 he29)) ?_
   refine bindC_intro omQ ?_
   have he30 : ((p26.1).toNat * 1 + 1 ≤ 8) = True := eq_true omQ
   refine spQA (And.intro ha4 (And.intro ha26 (And.intro he29 he30))) ?_
   have he31 := arr_get (f := (V.int .u32)) (l := p26.2) (n := 8) (i := p26.1) omQ
   replace he31 := spR he31
   try refine spQA (And.intro ha4 (And.intro ha26 (And.intro he29 (And.intro he30 he31)))) ?_
   refine bindC_intro omQ ?_
   have he32 : ((p26.1).toNat * 1 + 1 ≤ 8) = True := eq_true omQ
   refine spQA (And.intro ha4 (And.intro ha26 (And.intro he29 (And.intro he30 (And.intro he31 he32))))) ?_
   have he33 := arr_put (f := (V.int .u32)) (l := (arrN 8 p26.2)) (n := 8) (i := p26.1) (v := (addI .u32 (gt p26.2 p26.1) (gt ([p4.1, p4.2.1, p4.2.2.1, p4.2.2.2.1, p4.2.2.2.2.1, p4.2.2.2.2.2.1, p4.2.2.2.2.2.2.1, p4.2.2.2.2.2.2.2.1] : List Int) p26.1))) arrN_len omQ
   replace he33 := spR he33
   refine spQA (And.intro ha4 (And.intro ha26 (And.intro he29 (And.intro he30 (And.intro he31 (And.intro he32 he33)))))) ?_
   refine lp_intro (n26 - 1) _ (by omega) sbQ (by simp only [go_sem, rowV_eq, rowV_eq0, List.length_replicate, rep_len, Int.toNat_natCast, ↓reduceIte, Nat.reduceEqDiff, Nat.reduceAdd, Int.reduceAdd, Nat.reduceMul, Nat.reduceLeDiff, Nat.reduceLT, Int.reduceLE, Int.reduceLT, Int.reduceNeg, Int.reduceToNat, List.isEmpty_nil, map_st, mtL_repE, mtL_repM, subF, subH, mtO, mtB, mt, mtL, mtL_self, mt_self, ltV, ltL, ltB, eq_self, or_true, true_or, or_self, and_self, gt_cons0, gt_conss, Int.reduceSub]) ⟨((p26.1 + 1), (arrN 8 (st (arrN 8 p26.2) p26.1 (addI .u32 (gt p26.2 p26.1) (gt ([p4.1, p4.2.1, p4.2.2.1, p4.2.2.2.1, p4.2.2.2.2.1, p4.2.2.2.2.2.1, p4.2.2.2.2.2.2.1, p4.2.2.2.2.2.2.2.1] : List Int) p26.1))))), rfl, ⟨omQ, omQ⟩, omQ, iter_again hM hag26⟩
  ·rw [if_neg (ne_true h27)] at hM
   refine spQA (And.intro ha4 (And.intro ha26 h27)) ?_
   have nh27 := nzQ h27
   try have hr34 := mpQ nh27
   subst hM
   exact retC_view (lfQA (And.intro ha4 (And.intro ha26 (And.intro h5 h27))))
end Go.Proofs.YtjnikknlcmbcmaaGreatDoor
