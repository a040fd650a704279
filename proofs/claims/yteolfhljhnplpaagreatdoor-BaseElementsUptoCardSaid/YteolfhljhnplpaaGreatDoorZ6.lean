/- Texts of this proof, one after the other: U1, U2. -/
import Derived.Test.YteolfhljhnplpaaGreatDoorZ5
set_option linter.unusedVariables false
set_option linter.unusedSimpArgs false
namespace Go.Proofs.YteolfhljhnplpaaGreatDoor
open Go.RowKit
set_option linter.unusedSimpArgs false
set_option maxHeartbeats 2000000 in
set_option maxRecDepth 100000 in
instance math_bits_TrailingZeros64_ok   (x_ : Int)  : CM En (math_bits_TrailingZeros64 x_) 141 [.int .u64 x_] (fun y => .int .i64 y) (fun _ => []) := by
 refine cmQ fun r hM => ?_
 rw [math_bits_TrailingZeros64.eq_1] at hM
 refine enterV En_ok En_mo noJ Tryz.func141 rfl Tryz.ntmps141 (by kernel_rfl) fun hw => ct_start ?_
 refine spQ ?_
 replace hw := nzQ hw
 have h0_0 := tzix (x := andI .u64 x_ (negI .u64 x_))
 refine condC_intro (fun h1 => ?_) (fun h1 => ?_)
 ·rw [if_pos h1] at hM
  refine spQA h1 ?_
  have nh1 := nzQ h1
  try have hr2 := mpQ nh1
  subst hM
  exact retC_view (lfQA h1)
 ·rw [if_neg (ne_true h1)] at hM
  refine spQA h1 ?_
  have nh1 := nzQ h1
  try have hr3 := mpQ nh1
  refine bindC_intro omQ ?_
  have he4 := pp_get (f := V.int .u8) (l := kg_4) (n := 64) (i := (shrI .u64 (mulI .u64 (andI .u64 x_ (negI .u64 x_)) 285870213051353865) 58)) rfl omQ
  replace he4 := spR he4
  refine spQA he4 ?_
  subst hM
  exact retC_view (lfQA (And.intro he4 h1))
set_option maxHeartbeats 2000000 in
set_option maxRecDepth 100000 in
instance math_bits_Mul64_ok   (x_ : Int) (y : Int)  : CM En (math_bits_Mul64 x_ y) 123 [.int .u64 x_, .int .u64 y] (fun y => .tup [.int .u64 y.1, .int .u64 y.2]) (fun _ => []) := by
 refine cmQ fun r hM => ?_
 rw [math_bits_Mul64.eq_1] at hM
 refine enterV En_ok En_mo noJ Tryz.func123 rfl Tryz.ntmps123 (by kernel_rfl) fun hw => ct_start ?_
 refine spQ ?_
 replace hw := nzQ hw
 subst hM
 exact retC_view lfQ
set_option maxHeartbeats 2000000 in
set_option maxRecDepth 100000 in
instance math_bits_LeadingZeros64_ok   (x_ : Int)  : CM En (math_bits_LeadingZeros64 x_) 161 [.int .u64 x_] (fun y => .int .i64 y) (fun _ => []) := by
 refine cmQ fun r hM => ?_
 rw [math_bits_LeadingZeros64.eq_1] at hM
 refine enterV En_ok En_mo noJ Tryz.func161 rfl Tryz.ntmps161 (by kernel_rfl) fun hw => ct_start ?_
 refine spQ ?_
 replace hw := nzQ hw
 have hF := trueQ
 exact auQ
instance (priority := 1001) : DRD 6 135 7 [6, 28, 29, 30, 31, 32, 33] [] ([[], [], [0, 1], [], [], [3, 4], [0, 1, 2]] ++ [List.range 7]) [] := ⟨trivial⟩
set_option maxHeartbeats 2000000 in
set_option maxRecDepth 100000 in
theorem math_bits_Div64_ok   (hi : Int) (lo : Int) (y : Int) (hp0 : hi < y) : CM En (math_bits_Div64 hi lo y) 124 [.int .u64 hi, .int .u64 lo, .int .u64 y] (fun y => .tup [.int .u64 y.1, .int .u64 y.2]) (fun _ => []) := by
 refine cmQ fun r hM => ?_
 rw [math_bits_Div64.eq_1] at hM
 refine enterV En_ok En_mo [21, 28] Tryz.func124 rfl Tryz.ntmps124 (by kernel_rfl) fun hw => ct_start ?_
 refine spQ ?_
 replace hw := nzQ hw
 refine condC_intro (fun h1 => ?_) (fun h1 => ?_)
 ·rw [if_pos h1] at hM
  refine spQA h1 ?_
  have nh1 := nzQ h1
  try have hr2 := mpQ nh1
  exact False.elim omQ
 ·rw [if_neg (ne_true h1)] at hM
  refine spQA h1 ?_
  have nh1 := nzQ h1
  try have hr3 := mpQ nh1
  refine condC_intro (fun h4 => ?_) (fun h4 => ?_)
  ·rw [if_pos h4] at hM
   refine spQA h4 ?_
   have nh4 := nzQ h4
   try have hr5 := mpQ nh4
   exact False.elim omQ
  ·rw [if_neg (ne_true h4)] at hM
   refine spQA h4 ?_
   have nh4 := nzQ h4
   try have hr6 := mpQ nh4
   refine condC_intro (fun h7 => ?_) (fun h7 => ?_)
   ·rw [if_pos h7] at hM
    refine spQA h7 ?_
    have nh7 := nzQ h7
    try have hr8 := mpQ nh7
    have hF := (And.intro h1 (And.intro h4 h7))
    exact auQ
   ·rw [if_neg (ne_true h7)] at hM
    refine spQA h7 ?_
    have nh7 := nzQ h7
    try have hr9 := mpQ nh7
    have hM0 := hM; clear hM; obtain ⟨x10, hx11, hM⟩ := letk_opn hM0; clear hM0
    have hcx10 := cmU hx11
    refine callC_give hcx10 clQ clQ (fun hw12 => ?_)
    replace hw12 := nzQ hw12
    refine spQ ?_
    have hq13 := lz_after hx11 (by omega) (by omega)
    replace hq13 := nzQ hq13
    refine bindC_intro (by (exact nn_u64 _)) ?_
    refine spQ ?_
    refine bindC_intro (by (exact nn_u64 _)) ?_
    refine spQ ?_
    refine bindC_intro (by (exact (rng_subI .u64 _ _).1)) ?_
    refine spQ ?_
    refine bindC_intro (by (exact nn_u64 _)) ?_
    refine spQ ?_
    refine bindC_intro omQ ?_
    refine spQ ?_
    have hM0 := hM; clear hM; obtain ⟨j14, hj14, hM⟩ := letj_opn hM0; clear hM0
    refine seqC_intro (fun S => ∃ p : Int, S = (⟨[(2, .int .u64 (shlI .u64 y (convI .u64 x10))), (8, .int .u64 (convI .u64 x10)), (9, .int .u64 (shrI .u64 (shlI .u64 y (convI .u64 x10)) 32)), (10, .int .u64 (andI .u64 (shlI .u64 y (convI .u64 x10)) 4294967295)), (11, .int .u64 (orI .u64 (shlI .u64 hi (convI .u64 x10)) (shrI .u64 lo (subI .u64 64 (convI .u64 x10))))), (13, .int .u64 (shrI .u64 (shlI .u64 lo (convI .u64 x10)) 32)), (14, .int .u64 (andI .u64 (shlI .u64 lo (convI .u64 x10)) 4294967295)), (15, .int .u64 p)], [], 0⟩ : St) ∧ (True) ∧ j14 p = r) ?_ (fun hcut14 => ?_)
    ·clear hM
     rintro S ⟨p14, rfl, hfa14, hM⟩
     have hM0 := hM; clear hM; have hM := letj_use hM0 hj14; clear hM0
     try refine spQ ?_
     refine bindC_intro omQ ?_
     refine spQ ?_
     have hM0 := hM; clear hM; obtain ⟨j15, hj15, hM⟩ := letj_opn hM0; clear hM0
     refine seqC_intro (fun S => ∃ p : Int, S = (⟨[(2, .int .u64 (shlI .u64 y (convI .u64 x10))), (8, .int .u64 (convI .u64 x10)), (14, .int .u64 (andI .u64 (shlI .u64 lo (convI .u64 x10)) 4294967295)), (15, .int .u64 p14), (17, .int .u64 (subI .u64 (addI .u64 (mulI .u64 (orI .u64 (shlI .u64 hi (convI .u64 x10)) (shrI .u64 lo (subI .u64 64 (convI .u64 x10)))) 4294967296) (shrI .u64 (shlI .u64 lo (convI .u64 x10)) 32)) (mulI .u64 p14 (shlI .u64 y (convI .u64 x10))))), (18, .int .u64 p)], [], 0⟩ : St) ∧ (True) ∧ j15 p = r) ?_ (fun hcut15 => ?_)
     ·clear hM
      rintro S ⟨p15, rfl, hfa15, hM⟩
      have hM0 := hM; clear hM; have hM := letj_use hM0 hj15; clear hM0
      try refine spQ ?_
      refine bindC_intro (by (exact nn_u64 _)) ?_
      refine spQ ?_
      subst hM
      exact retC_view (lfQA (And.intro h1 (And.intro h4 h7)))
     ·refine spQ ?_
      have hM0 := hM; clear hM; obtain ⟨f16, d16, hf16, hd16, hM⟩ := iter_opn hM0; clear hM0
      refine ct_loop (fun n S => ∃ p : Int × Int, S = (⟨[(2, .int .u64 (shlI .u64 y (convI .u64 x10))), (8, .int .u64 (convI .u64 x10)), (9, .int .u64 (shrI .u64 (shlI .u64 y (convI .u64 x10)) 32)), (10, .int .u64 (andI .u64 (shlI .u64 y (convI .u64 x10)) 4294967295)), (14, .int .u64 (andI .u64 (shlI .u64 lo (convI .u64 x10)) 4294967295)), (15, .int .u64 p14), (16, .int .u64 p.1), (17, .int .u64 (subI .u64 (addI .u64 (mulI .u64 (orI .u64 (shlI .u64 hi (convI .u64 x10)) (shrI .u64 lo (subI .u64 64 (convI .u64 x10)))) 4294967296) (shrI .u64 (shlI .u64 lo (convI .u64 x10)) 32)) (mulI .u64 p14 (shlI .u64 y (convI .u64 x10))))), (18, .int .u64 p.2)], [], 0⟩ : St) ∧ ((0 ≤ p.1 ∧ p.1 ≤ 4294967295)) ∧ (4294967296 - p.1).toNat < n ∧ iter n f16 d16 p = r) ((4294967296 - (subI .u64 (subI .u64 (addI .u64 (mulI .u64 (orI .u64 (shlI .u64 hi (convI .u64 x10)) (shrI .u64 lo (subI .u64 64 (convI .u64 x10)))) 4294967296) (shrI .u64 (shlI .u64 lo (convI .u64 x10)) 32)) (mulI .u64 p14 (shlI .u64 y (convI .u64 x10)))) (mulI .u64 (quoI .u64 (subI .u64 (addI .u64 (mulI .u64 (orI .u64 (shlI .u64 hi (convI .u64 x10)) (shrI .u64 lo (subI .u64 64 (convI .u64 x10)))) 4294967296) (shrI .u64 (shlI .u64 lo (convI .u64 x10)) 32)) (mulI .u64 p14 (shlI .u64 y (convI .u64 x10)))) (shrI .u64 (shlI .u64 y (convI .u64 x10)) 32)) (shrI .u64 (shlI .u64 y (convI .u64 x10)) 32)))).toNat + 1) _ sbQ sbQ ⟨((subI .u64 (subI .u64 (addI .u64 (mulI .u64 (orI .u64 (shlI .u64 hi (convI .u64 x10)) (shrI .u64 lo (subI .u64 64 (convI .u64 x10)))) 4294967296) (shrI .u64 (shlI .u64 lo (convI .u64 x10)) 32)) (mulI .u64 p14 (shlI .u64 y (convI .u64 x10)))) (mulI .u64 (quoI .u64 (subI .u64 (addI .u64 (mulI .u64 (orI .u64 (shlI .u64 hi (convI .u64 x10)) (shrI .u64 lo (subI .u64 64 (convI .u64 x10)))) 4294967296) (shrI .u64 (shlI .u64 lo (convI .u64 x10)) 32)) (mulI .u64 p14 (shlI .u64 y (convI .u64 x10)))) (shrI .u64 (shlI .u64 y (convI .u64 x10)) 32)) (shrI .u64 (shlI .u64 y (convI .u64 x10)) 32))), (quoI .u64 (subI .u64 (addI .u64 (mulI .u64 (orI .u64 (shlI .u64 hi (convI .u64 x10)) (shrI .u64 lo (subI .u64 64 (convI .u64 x10)))) 4294967296) (shrI .u64 (shlI .u64 lo (convI .u64 x10)) 32)) (mulI .u64 p14 (shlI .u64 y (convI .u64 x10)))) (shrI .u64 (shlI .u64 y (convI .u64 x10)) 32))), rfl, by (exact dv_i (sub_rng _ _) (by omega) (by omega)), (Nat.lt_succ_self _), hM⟩ ?_
      clear hM
      rintro n16 S ⟨p16, rfl, hF24_0, hm16, hM⟩
      have hM0 := hM; clear hM; obtain ⟨ag16, hag16, hM⟩ := iter_step hM0 (by omega) hf16; clear hM0
      replace hm16 := nzQ hm16
      refine spQ ?_
      refine guardC_f (fun h17 => ?_) (fun h17 => ?_)
      ·rw [if_neg (ne_true h17)] at hM
       refine spQA h17 ?_
       have nh17 := nzQ h17
       try have hr18 := mpQ nh17
       refine condC_intro (fun h19 => ?_) (fun h19 => ?_)
       ·rw [if_pos h19] at hM
        refine spQA h19 ?_
        have nh19 := nzQ h19
        try have hr20 := mpQ nh19
        refine condC_intro (fun h21 => ?_) (fun h21 => ?_)
        ·rw [if_pos h21] at hM
         refine spQA h21 ?_
         have nh21 := nzQ h21
         try have hr22 := mpQ nh21
         exact cut_intro _ sbQ sbQ (hcut15 _ ⟨(subI .u64 p16.2 1), rfl, trivial, hM⟩)
        ·rw [if_neg (ne_true h21)] at hM
         refine spQA h21 ?_
         have nh21 := nzQ h21
         try have hr23 := mpQ nh21
         refine lp_intro (n16 - 1) _ (by omega) sbQ sbQ ⟨((addI .u64 p16.1 (shrI .u64 (shlI .u64 y (convI .u64 x10)) 32)), (subI .u64 p16.2 1)), rfl, by (have h9 := add_u (a := p16.1) (b := (shrI .u64 (shlI .u64 y (convI .u64 x10)) 32)) (by omega) (by omega) (by omega) (by omega); omega), by (have h9 := add_u (a := p16.1) (b := (shrI .u64 (shlI .u64 y (convI .u64 x10)) 32)) (by omega) (by omega) (by omega) (by omega); omega), iter_again hM hag16⟩
       ·rw [if_neg (ne_true h19)] at hM
        refine spQA h19 ?_
        have nh19 := nzQ h19
        try have hr24 := mpQ nh19
        exact cut_intro _ sbQ sbQ (hcut15 _ ⟨p16.2, rfl, trivial, hM⟩)
      ·rw [if_pos h17] at hM
       refine spQA h17 ?_
       have nh17 := nzQ h17
       try have hr25 := mpQ nh17
       refine condC_intro (fun h26 => ?_) (fun h26 => ?_)
       ·rw [if_pos h26] at hM
        refine spQA h26 ?_
        have nh26 := nzQ h26
        try have hr27 := mpQ nh26
        exact cut_intro _ sbQ sbQ (hcut15 _ ⟨(subI .u64 p16.2 1), rfl, trivial, hM⟩)
       ·rw [if_neg (ne_true h26)] at hM
        refine spQA h26 ?_
        have nh26 := nzQ h26
        try have hr28 := mpQ nh26
        refine lp_intro (n16 - 1) _ (by omega) sbQ sbQ ⟨((addI .u64 p16.1 (shrI .u64 (shlI .u64 y (convI .u64 x10)) 32)), (subI .u64 p16.2 1)), rfl, by (have h9 := add_u (a := p16.1) (b := (shrI .u64 (shlI .u64 y (convI .u64 x10)) 32)) (by omega) (by omega) (by omega) (by omega); omega), by (have h9 := add_u (a := p16.1) (b := (shrI .u64 (shlI .u64 y (convI .u64 x10)) 32)) (by omega) (by omega) (by omega) (by omega); omega), iter_again hM hag16⟩
    ·refine spQ ?_
     have hM0 := hM; clear hM; obtain ⟨f29, d29, hf29, hd29, hM⟩ := iter_opn hM0; clear hM0
     refine ct_loop (fun n S => ∃ p : Int × Int, S = (⟨[(2, .int .u64 (shlI .u64 y (convI .u64 x10))), (8, .int .u64 (convI .u64 x10)), (9, .int .u64 (shrI .u64 (shlI .u64 y (convI .u64 x10)) 32)), (10, .int .u64 (andI .u64 (shlI .u64 y (convI .u64 x10)) 4294967295)), (11, .int .u64 (orI .u64 (shlI .u64 hi (convI .u64 x10)) (shrI .u64 lo (subI .u64 64 (convI .u64 x10))))), (13, .int .u64 (shrI .u64 (shlI .u64 lo (convI .u64 x10)) 32)), (14, .int .u64 (andI .u64 (shlI .u64 lo (convI .u64 x10)) 4294967295)), (15, .int .u64 p.1), (16, .int .u64 p.2)], [], 0⟩ : St) ∧ ((0 ≤ p.2 ∧ p.2 ≤ 4294967295)) ∧ (4294967296 - p.2).toNat < n ∧ iter n f29 d29 p = r) ((4294967296 - (subI .u64 (orI .u64 (shlI .u64 hi (convI .u64 x10)) (shrI .u64 lo (subI .u64 64 (convI .u64 x10)))) (mulI .u64 (quoI .u64 (orI .u64 (shlI .u64 hi (convI .u64 x10)) (shrI .u64 lo (subI .u64 64 (convI .u64 x10)))) (shrI .u64 (shlI .u64 y (convI .u64 x10)) 32)) (shrI .u64 (shlI .u64 y (convI .u64 x10)) 32)))).toNat + 1) _ sbQ sbQ ⟨((quoI .u64 (orI .u64 (shlI .u64 hi (convI .u64 x10)) (shrI .u64 lo (subI .u64 64 (convI .u64 x10)))) (shrI .u64 (shlI .u64 y (convI .u64 x10)) 32)), (subI .u64 (orI .u64 (shlI .u64 hi (convI .u64 x10)) (shrI .u64 lo (subI .u64 64 (convI .u64 x10)))) (mulI .u64 (quoI .u64 (orI .u64 (shlI .u64 hi (convI .u64 x10)) (shrI .u64 lo (subI .u64 64 (convI .u64 x10)))) (shrI .u64 (shlI .u64 y (convI .u64 x10)) 32)) (shrI .u64 (shlI .u64 y (convI .u64 x10)) 32)))), rfl, by (exact dv_i (or_rng _ _) (by omega) (by omega)), (Nat.lt_succ_self _), hM⟩ ?_
     clear hM
     rintro n29 S ⟨p29, rfl, hF17_0, hm29, hM⟩
     have hM0 := hM; clear hM; obtain ⟨ag29, hag29, hM⟩ := iter_step hM0 (by omega) hf29; clear hM0
     replace hm29 := nzQ hm29
     refine spQ ?_
     refine guardC_f (fun h30 => ?_) (fun h30 => ?_)
     ·rw [if_neg (ne_true h30)] at hM
      refine spQA h30 ?_
      have nh30 := nzQ h30
      try have hr31 := mpQ nh30
      refine condC_intro (fun h32 => ?_) (fun h32 => ?_)
      ·rw [if_pos h32] at hM
       refine spQA h32 ?_
       have nh32 := nzQ h32
       try have hr33 := mpQ nh32
       refine condC_intro (fun h34 => ?_) (fun h34 => ?_)
       ·rw [if_pos h34] at hM
        refine spQA h34 ?_
        have nh34 := nzQ h34
        try have hr35 := mpQ nh34
        exact cut_intro _ sbQ sbQ (hcut14 _ ⟨(subI .u64 p29.1 1), rfl, trivial, hM⟩)
       ·rw [if_neg (ne_true h34)] at hM
        refine spQA h34 ?_
        have nh34 := nzQ h34
        try have hr36 := mpQ nh34
        refine lp_intro (n29 - 1) _ (by omega) sbQ sbQ ⟨((subI .u64 p29.1 1), (addI .u64 p29.2 (shrI .u64 (shlI .u64 y (convI .u64 x10)) 32))), rfl, by (have h9 := add_u (a := p29.2) (b := (shrI .u64 (shlI .u64 y (convI .u64 x10)) 32)) (by omega) (by omega) (by omega) (by omega); omega), by (have h9 := add_u (a := p29.2) (b := (shrI .u64 (shlI .u64 y (convI .u64 x10)) 32)) (by omega) (by omega) (by omega) (by omega); omega), iter_again hM hag29⟩
      ·rw [if_neg (ne_true h32)] at hM
       refine spQA h32 ?_
       have nh32 := nzQ h32
       try have hr37 := mpQ nh32
       exact cut_intro _ sbQ sbQ (hcut14 _ ⟨p29.1, rfl, trivial, hM⟩)
     ·rw [if_pos h30] at hM
      refine spQA h30 ?_
      have nh30 := nzQ h30
      try have hr38 := mpQ nh30
      refine condC_intro (fun h39 => ?_) (fun h39 => ?_)
      ·rw [if_pos h39] at hM
       refine spQA h39 ?_
       have nh39 := nzQ h39
       try have hr40 := mpQ nh39
       exact cut_intro _ sbQ sbQ (hcut14 _ ⟨(subI .u64 p29.1 1), rfl, trivial, hM⟩)
      ·rw [if_neg (ne_true h39)] at hM
       refine spQA h39 ?_
       have nh39 := nzQ h39
       try have hr41 := mpQ nh39
       refine lp_intro (n29 - 1) _ (by omega) sbQ sbQ ⟨((subI .u64 p29.1 1), (addI .u64 p29.2 (shrI .u64 (shlI .u64 y (convI .u64 x10)) 32))), rfl, by (have h9 := add_u (a := p29.2) (b := (shrI .u64 (shlI .u64 y (convI .u64 x10)) 32)) (by omega) (by omega) (by omega) (by omega); omega), by (have h9 := add_u (a := p29.2) (b := (shrI .u64 (shlI .u64 y (convI .u64 x10)) 32)) (by omega) (by omega) (by omega) (by omega); omega), iter_again hM hag29⟩
set_option maxHeartbeats 2000000 in
set_option maxRecDepth 100000 in
theorem prime_mul_ok   (a_ : Int) (b : Int) (n_ : Int) (hp0 : a_ < n_) : CM En (prime_mul a_ b n_) 177 [.int .u64 a_, .int .u64 b, .int .u64 n_] (fun y => .int .u64 y) (fun _ => []) := by
 refine cmQ fun r hM => ?_
 rw [prime_mul.eq_1] at hM
 refine enterV En_ok En_mo noJ Tryz.func177 rfl Tryz.ntmps177 (by kernel_rfl) fun hw => ct_start ?_
 refine spQ ?_
 replace hw := nzQ hw
 have hM0 := hM; clear hM; obtain ⟨x1, hx2, hM⟩ := letk_opn hM0; clear hM0
 have hcx1 := cmU hx2
 refine callC_give hcx1 clQ clQ (fun hw3 => ?_)
 replace hw3 := nzQ hw3
 refine spQ ?_
 have hq4 := mul_afterN n_ hx2 (by omega) (by omega) (by omega) (by omega) (by omega)
 replace hq4 := nzQ hq4
 have hM0 := hM; clear hM; obtain ⟨x5, hx6, hM⟩ := letk_opn hM0; clear hM0
 have hcx5 := cmH hx6 (math_bits_Div64_ok  (x1.1) (x1.2) n_ (by (exact pfQ)))
 refine callC_give hcx5 clQ clQ (fun hw7 => ?_)
 replace hw7 := nzQ hw7
 refine spQ ?_
 subst hM
 exact retC_view lfQ
set_option maxHeartbeats 2000000 in
set_option maxRecDepth 100000 in
theorem prime_pow_ok   (a_ : Int) (e_ : Int) (n_ : Int) (hp0 : a_ < n_) (hp1 : 1 < n_) : CM En (prime_pow a_ e_ n_) 176 [.int .u64 a_, .int .u64 e_, .int .u64 n_] (fun y => .int .u64 y) (fun _ => []) := by
 refine cmQ fun r hM => ?_
 rw [prime_pow.eq_1] at hM
 refine enterV En_ok En_mo noJ Tryz.func176 rfl Tryz.ntmps176 (by kernel_rfl) fun hw => ct_start ?_
 refine spQ ?_
 replace hw := nzQ hw
 have hM0 := hM; clear hM; obtain ⟨f1, d1, hf1, hd1, hM⟩ := iter_opn hM0; clear hM0
 refine ct_loop (fun n S => ∃ p : Int × Int × Int, S = (⟨[(0, .int .u64 p.1), (1, .int .u64 p.2.1), (2, .int .u64 n_), (7, .int .u64 p.2.2)], [], 0⟩ : St) ∧ ((0 ≤ p.1) ∧ (p.1 < n_) ∧ (0 ≤ p.2.1) ∧ (0 ≤ p.2.2) ∧ (p.2.2 < n_)) ∧ p.2.1.toNat < n ∧ iter n f1 d1 p = r) (e_.toNat + 1) _ sbQ sbQ ⟨(a_, e_, 1), rfl, ⟨omQ, omQ, omQ, omQ, omQ⟩, (Nat.lt_succ_self _), hM⟩ ?_
 clear hM
 rintro n1 S ⟨p1, rfl, hfa1, hm1, hM⟩
 have hM0 := hM; clear hM; obtain ⟨ag1, hag1, hM⟩ := iter_step hM0 (by omega) hf1; clear hM0
 replace hfa1 := nzQ hfa1
 replace hm1 := nzQ hm1
 refine spQ ?_
 refine condC_intro (fun h2 => ?_) (fun h2 => ?_)
 ·rw [if_pos h2] at hM
  refine spQA h2 ?_
  have nh2 := nzQ h2
  try have hr3 := mpQ nh2
  refine condC_intro (fun h4 => ?_) (fun h4 => ?_)
  ·rw [if_pos h4] at hM
   refine spQA h4 ?_
   have nh4 := nzQ h4
   try have hr5 := mpQ nh4
   have hM0 := hM; clear hM; obtain ⟨x6, hx7, hM⟩ := letk_opn hM0; clear hM0
   have hcx6 := cmH hx7 (prime_mul_ok  (p1.2.2) (p1.1) n_ (by (exact pfQ)))
   refine callC_give hcx6 clQ clQ (fun hw8 => ?_)
   replace hw8 := nzQ hw8
   refine spQ ?_
   have hq9 := prime_mul_rng hx7 (by omega) (by omega) (by omega) (by omega) (by omega)
   replace hq9 := nzQ hq9
   have hM0 := hM; clear hM; obtain ⟨x10, hx11, hM⟩ := letk_opn hM0; clear hM0
   have hcx10 := cmH hx11 (prime_mul_ok  (p1.1) (p1.1) n_ (by (exact pfQ)))
   refine callC_give hcx10 clQ clQ (fun hw12 => ?_)
   replace hw12 := nzQ hw12
   refine spQ ?_
   have hq13 := prime_mul_rng hx11 (by omega) (by omega) (by omega) (by omega) (by omega)
   replace hq13 := nzQ hq13
   refine lp_intro (n1 - 1) _ (by omega) sbQ sbQ ⟨(x10, (shrI .u64 p1.2.1 1), x6), rfl, ⟨by (clear hM; (try dsimp only); (try rw [shr1]); (try rw [shr1i]); omega), by (clear hM; (try dsimp only); (try rw [shr1]); (try rw [shr1i]); omega), by (clear hM; (try dsimp only); (try rw [shr1]); (try rw [shr1i]); omega), by (clear hM; (try dsimp only); (try rw [shr1]); (try rw [shr1i]); omega), by (clear hM; (try dsimp only); (try rw [shr1]); (try rw [shr1i]); omega)⟩, by (clear hM; (try dsimp only); (try rw [shr1]); (try rw [shr1i]); omega), iter_again hM hag1⟩
  ·rw [if_neg (ne_true h4)] at hM
   refine spQA h4 ?_
   have nh4 := nzQ h4
   try have hr14 := mpQ nh4
   have hM0 := hM; clear hM; obtain ⟨x15, hx16, hM⟩ := letk_opn hM0; clear hM0
   have hcx15 := cmH hx16 (prime_mul_ok  (p1.1) (p1.1) n_ (by (exact pfQ)))
   refine callC_give hcx15 clQ clQ (fun hw17 => ?_)
   replace hw17 := nzQ hw17
   refine spQ ?_
   have hq18 := prime_mul_rng hx16 (by omega) (by omega) (by omega) (by omega) (by omega)
   replace hq18 := nzQ hq18
   refine lp_intro (n1 - 1) _ (by omega) sbQ sbQ ⟨(x15, (shrI .u64 p1.2.1 1), p1.2.2), rfl, ⟨by (clear hM; (try dsimp only); (try rw [shr1]); (try rw [shr1i]); omega), by (clear hM; (try dsimp only); (try rw [shr1]); (try rw [shr1i]); omega), by (clear hM; (try dsimp only); (try rw [shr1]); (try rw [shr1i]); omega), by (clear hM; (try dsimp only); (try rw [shr1]); (try rw [shr1i]); omega), by (clear hM; (try dsimp only); (try rw [shr1]); (try rw [shr1i]); omega)⟩, by (clear hM; (try dsimp only); (try rw [shr1]); (try rw [shr1i]); omega), iter_again hM hag1⟩
 ·rw [if_neg (ne_true h2)] at hM
  refine spQA h2 ?_
  have nh2 := nzQ h2
  try have hr19 := mpQ nh2
  subst hM
  exact retC_view (lfQA h2)
set_option maxHeartbeats 2000000 in
set_option maxRecDepth 100000 in
theorem prime_composite_ok   (a_ : Int) (n_ : Int) (d_ : Int) (s : Int) (hp0 : a_ < n_) (hp1 : 1 < n_) (hp2 : 0 ≤ s) (hp3 : s ≤ 64) : CM En (prime_composite a_ n_ d_ s) 142 [.int .u64 a_, .int .u64 n_, .int .u64 d_, .int .i64 s] (fun y => .bool y) (fun _ => []) := by
 refine cmQ fun r hM => ?_
 rw [prime_composite.eq_1] at hM
 refine enterV En_ok En_mo noJ Tryz.func142 rfl Tryz.ntmps142 (by kernel_rfl) fun hw => ct_start ?_
 refine spQ ?_
 replace hw := nzQ hw
 have h0_0 := si64 (x := s) (by omega) (by omega)
 have hM0 := hM; clear hM; obtain ⟨x1, hx2, hM⟩ := letk_opn hM0; clear hM0
 have hcx1 := cmH hx2 (prime_pow_ok  a_ d_ n_ (by (exact pfQ)) (by (exact pfQ)))
 refine callC_give hcx1 clQ clQ (fun hw3 => ?_)
 replace hw3 := nzQ hw3
 refine spQ ?_
 have hq4 := prime_pow_rng hx2 (by omega) (by omega) (by omega) (by omega)
 replace hq4 := nzQ hq4
 refine guardC_f (fun h5 => ?_) (fun h5 => ?_)
 ·rw [if_neg (ne_true h5)] at hM
  refine spQA h5 ?_
  have nh5 := nzQ h5
  try have hr6 := mpQ nh5
  refine condC_intro (fun h7 => ?_) (fun h7 => ?_)
  ·rw [if_pos h7] at hM
   refine spQA h7 ?_
   have nh7 := nzQ h7
   try have hr8 := mpQ nh7
   subst hM
   exact retC_view (lfQA (And.intro h5 h7))
  ·rw [if_neg (ne_true h7)] at hM
   refine spQA h7 ?_
   have nh7 := nzQ h7
   try have hr9 := mpQ nh7
   have hM0 := hM; clear hM; obtain ⟨f10, d10, hf10, hd10, hM⟩ := iter_opn hM0; clear hM0
   refine ct_loop (fun n S => ∃ p : Int × Int, S = (⟨[(1, .int .u64 n_), (9, .int .u64 p.1), (23, .int .i64 (subI .i64 s 1)), (24, .int .i64 p.2)], [], 0⟩ : St) ∧ ((0 ≤ p.2) ∧ (p.2 ≤ subI .i64 s 1 ∨ p.2 ≤ 0) ∧ (0 ≤ p.1) ∧ (p.1 < n_)) ∧ (subI .i64 s 1 - p.2).toNat < n ∧ iter n f10 d10 p = r) ((subI .i64 s 1 - 0).toNat + 1) _ sbQ sbQ ⟨(x1, 0), rfl, ⟨omQ, omQ, omQ, omQ⟩, (Nat.lt_succ_self _), hM⟩ ?_
   clear hM
   rintro n10 S ⟨p10, rfl, hfa10, hm10, hM⟩
   have hM0 := hM; clear hM; obtain ⟨ag10, hag10, hM⟩ := iter_step hM0 (by omega) hf10; clear hM0
   replace hfa10 := nzQ hfa10
   replace hm10 := nzQ hm10
   have ha10 : addI .i64 p10.2 1 = p10.2 + 1 := add_one omQ omQ
   refine spQA ha10 ?_
   refine condC_intro (fun h11 => ?_) (fun h11 => ?_)
   ·rw [if_pos h11] at hM
    refine spQA (And.intro ha10 h11) ?_
    have nh11 := nzQ h11
    try have hr12 := mpQ nh11
    have hM0 := hM; clear hM; obtain ⟨x13, hx14, hM⟩ := letk_opn hM0; clear hM0
    have hcx13 := cmH hx14 (prime_mul_ok  (p10.1) (p10.1) n_ (by (exact pfQ)))
    refine callC_give hcx13 (clQA ha10) (clQA ha10) (fun hw15 => ?_)
    replace hw15 := nzQ hw15
    refine spQA ha10 ?_
    have hq16 := prime_mul_rng hx14 (by omega) (by omega) (by omega) (by omega) (by omega)
    replace hq16 := nzQ hq16
    have hF := (And.intro h5 (And.intro h7 (And.intro ha10 h11)))
    exact auQ
   ·rw [if_neg (ne_true h11)] at hM
    refine spQA (And.intro ha10 h11) ?_
    have nh11 := nzQ h11
    try have hr20 := mpQ nh11
    subst hM
    exact retC_view (lfQA (And.intro ha10 (And.intro h5 (And.intro h7 h11))))
 ·rw [if_pos h5] at hM
  refine spQA h5 ?_
  have nh5 := nzQ h5
  try have hr21 := mpQ nh5
  subst hM
  exact retC_view (lfQA h5)
set_option maxHeartbeats 2000000 in
set_option maxRecDepth 100000 in
instance prime_Is_ok   (n_ : Int)  : CM En (prime_Is n_) 106 [.int .i64 n_] (fun y => .bool y) (fun _ => []) := by
 refine cmQ fun r hM => ?_
 rw [prime_Is.eq_1] at hM
 refine enterV En_ok En_mo noJ Tryz.func106 rfl Tryz.ntmps106 (by kernel_rfl) fun hw => ct_start ?_
 refine spQ ?_
 replace hw := nzQ hw
 have h0_0 := kg2_len
 refine condC_intro (fun h1 => ?_) (fun h1 => ?_)
 ·rw [if_pos h1] at hM
  refine spQA h1 ?_
  have nh1 := nzQ h1
  try have hr2 := mpQ nh1
  subst hM
  exact retC_view (lfQA h1)
 ·rw [if_neg (ne_true h1)] at hM
  refine spQA h1 ?_
  have nh1 := nzQ h1
  try have hr3 := mpQ nh1
  have hM0 := hM; clear hM; obtain ⟨f4, d4, hf4, hd4, hM⟩ := iter_opn hM0; clear hM0
  refine ct_loop (fun n S => ∃ p : Int, S = (⟨[(3, .int .u64 (convI .u64 n_)), (13, .agg (kg_0.map (V.int .u64))), (14, .int .i64 p)], [], 0⟩ : St) ∧ (((0 ≤ p) ∧ (p ≤ 12)) ∧ (NoDiv (convI .u64 n_) p)) ∧ ((12 : Int) - p).toNat < n ∧ iter n f4 d4 p = r) (((12 : Int) - 0).toNat + 1) _ sbQ sbQ ⟨0, rfl, ⟨⟨by (first | exact omQ | (clear hM; first | (have hk := kg2_rng (j := p4) (by omega) (by omega); exact omQ'))), by (first | exact omQ | (clear hM; first | (have hk := kg2_rng (j := p4) (by omega) (by omega); exact omQ')))⟩, by (exact NoDiv_zero)⟩, (Nat.lt_succ_self _), hM⟩ ?_
  clear hM
  rintro n4 S ⟨p4, rfl, ⟨hfa4, hF5_0⟩, hm4, hM⟩
  have hM0 := hM; clear hM; obtain ⟨ag4, hag4, hM⟩ := iter_step hM0 (by omega) hf4; clear hM0
  replace hfa4 := nzQ hfa4
  replace hm4 := nzQ hm4
  have ha4 : addI .i64 p4 1 = p4 + 1 := add_one (by (first | exact omQ | (clear hM; first | (have hk := kg2_rng (j := p4) (by omega) (by omega); exact omQ')))) (by (first | exact omQ | (clear hM; first | (have hk := kg2_rng (j := p4) (by omega) (by omega); exact omQ'))))
  refine spQA ha4 ?_
  refine condC_intro (fun h5 => ?_) (fun h5 => ?_)
  ·rw [if_pos h5] at hM
   refine spQA (And.intro ha4 h5) ?_
   have nh5 := nzQ h5
   try have hr6 := mpQ nh5
   have he7 := pp_get (f := V.int .u64) (l := kg_0) (n := 12) (i := p4) rfl (by (first | exact omQ | (clear hM; first | (have hk := kg2_rng (j := p4) (by omega) (by omega); exact omQ'))))
   replace he7 := spR he7
   refine spQA (And.intro ha4 he7) ?_
   refine bindC_intro (by (first | exact omQ | (clear hM; first | (have hk := kg2_rng (j := p4) (by omega) (by omega); exact omQ')))) ?_
   refine spQA (And.intro ha4 he7) ?_
   refine bindC_intro (by (first | exact omQ | (clear hM; first | (have hk := kg2_rng (j := p4) (by omega) (by omega); exact omQ')))) ?_
   refine spQA (And.intro ha4 he7) ?_
   refine condC_intro (fun h8 => ?_) (fun h8 => ?_)
   ·rw [if_pos h8] at hM
    refine spQA (And.intro ha4 (And.intro he7 h8)) ?_
    have nh8 := nzQ h8
    try have hr9 := mpQ nh8
    subst hM
    exact retC_view (lfQA (And.intro ha4 (And.intro he7 (And.intro h1 (And.intro h5 h8)))))
   ·rw [if_neg (ne_true h8)] at hM
    refine spQA (And.intro ha4 (And.intro he7 h8)) ?_
    have nh8 := nzQ h8
    try have hr10 := mpQ nh8
    refine lp_intro (n4 - 1) _ (by omega) sbQ sbQ ⟨(p4 + 1), rfl, ⟨⟨by (first | exact omQ | (clear hM; first | (have hk := kg2_rng (j := (p4 + 1)) (by omega) (by omega); exact omQ'))), by (first | exact omQ | (clear hM; first | (have hk := kg2_rng (j := (p4 + 1)) (by omega) (by omega); exact omQ')))⟩, by (clear hM; exact NoDiv_step hF5_0 (nn_u64 _) (by omega) (by omega) (by assumption))⟩, by (first | exact omQ | (clear hM; first | (have hk := kg2_rng (j := (p4 + 1)) (by omega) (by omega); exact omQ'))), iter_again hM hag4⟩
  ·rw [if_neg (ne_true h5)] at hM
   refine spQA (And.intro ha4 h5) ?_
   have nh5 := nzQ h5
   try have hr11 := mpQ nh5
   have hM0 := hM; clear hM; obtain ⟨x12, hx13, hM⟩ := letk_opn hM0; clear hM0
   have hcx12 := cmU hx13
   refine callC_give hcx12 (clQA ha4) (clQA ha4) (fun hw14 => ?_)
   replace hw14 := nzQ hw14
   refine spQA ha4 ?_
   have hq15 := tz_rng hx13
   replace hq15 := nzQ hq15
   have hM0 := hM; clear hM; obtain ⟨f16, d16, hf16, hd16, hM⟩ := iter_opn hM0; clear hM0
   refine ct_loop (fun n S => ∃ p : Int, S = (⟨[(3, .int .u64 (convI .u64 n_)), (6, .int .i64 x12), (28, .agg (kg_0.map (V.int .u64))), (29, .int .i64 p)], [], 0⟩ : St) ∧ (((0 ≤ p) ∧ (p ≤ 12)) ∧ (37 < convI .u64 n_)) ∧ ((12 : Int) - p).toNat < n ∧ iter n f16 d16 p = r) (((12 : Int) - 0).toNat + 1) _ sbQ sbQ ⟨0, rfl, ⟨⟨by (first | exact omQ | (clear hM; first | (have hk := kg2_rng (j := p16) (by omega) (by omega); exact omQ'))), by (first | exact omQ | (clear hM; first | (have hk := kg2_rng (j := p16) (by omega) (by omega); exact omQ')))⟩, by (clear hM; exact NoDiv_all hF5_0 (by omega) (by rw [cu63 (by omega) (by omega)]; omega))⟩, (Nat.lt_succ_self _), hM⟩ ?_
   clear hM
   rintro n16 S ⟨p16, rfl, ⟨hfa16, hF12_0⟩, hm16, hM⟩
   have hM0 := hM; clear hM; obtain ⟨ag16, hag16, hM⟩ := iter_step hM0 (by omega) hf16; clear hM0
   replace hfa16 := nzQ hfa16
   replace hm16 := nzQ hm16
   have ha16 : addI .i64 p16 1 = p16 + 1 := add_one (by (first | exact omQ | (clear hM; first | (have hk := kg2_rng (j := p16) (by omega) (by omega); exact omQ')))) (by (first | exact omQ | (clear hM; first | (have hk := kg2_rng (j := p16) (by omega) (by omega); exact omQ'))))
   refine spQA (And.intro ha4 ha16) ?_
   refine condC_intro (fun h17 => ?_) (fun h17 => ?_)
   ·rw [if_pos h17] at hM
    refine spQA (And.intro ha4 (And.intro ha16 h17)) ?_
    have nh17 := nzQ h17
    try have hr18 := mpQ nh17
    have he19 := pp_get (f := V.int .u64) (l := kg_0) (n := 12) (i := p16) rfl (by (first | exact omQ | (clear hM; first | (have hk := kg2_rng (j := p16) (by omega) (by omega); exact omQ'))))
    replace he19 := spR he19
    refine spQA (And.intro ha4 (And.intro ha16 he19)) ?_
    refine bindC_intro (by (first | exact omQ | (clear hM; first | (have hk := kg2_rng (j := p16) (by omega) (by omega); exact omQ')))) ?_
    refine spQA (And.intro ha4 (And.intro ha16 he19)) ?_
    refine bindC_intro (by (first | exact omQ | (clear hM; first | (have hk := kg2_rng (j := p16) (by omega) (by omega); exact omQ')))) ?_
    refine spQA (And.intro ha4 (And.intro ha16 he19)) ?_
    have hM0 := hM; clear hM; obtain ⟨x20, hx21, hM⟩ := letk_opn hM0; clear hM0
    have hcx20 := cmH hx21 (prime_composite_ok  (gt kg_0 p16) (convI .u64 n_) (shrI .u64 (subI .u64 (convI .u64 n_) 1) x12) x12 (by (first | omega | (have hk := kg2_rng (j := p16) (by omega) (by omega); omega))) (by (first | omega | (have hk := kg2_rng (j := p16) (by omega) (by omega); omega))) (by (first | omega | (have hk := kg2_rng (j := p16) (by omega) (by omega); omega))) (by (first | omega | (have hk := kg2_rng (j := p16) (by omega) (by omega); omega))))
    refine callC_give hcx20 (clQA (And.intro ha4 (And.intro ha16 he19))) (clQA (And.intro ha4 (And.intro ha16 he19))) (fun hw22 => ?_)
    replace hw22 := nzQ hw22
    refine spQA (And.intro ha4 (And.intro ha16 he19)) ?_
    refine condC_intro (fun h23 => ?_) (fun h23 => ?_)
    ·subst h23
     rw [if_pos rfl] at hM
     refine spQA (And.intro ha4 (And.intro ha16 he19)) ?_
     subst hM
     exact retC_view (lfQA (And.intro ha4 (And.intro ha16 (And.intro he19 (And.intro h1 (And.intro h5 h17))))))
    ·subst h23
     rw [if_neg (by decide)] at hM
     refine spQA (And.intro ha4 (And.intro ha16 he19)) ?_
     refine lp_intro (n16 - 1) _ (by omega) sbQ sbQ ⟨(p16 + 1), rfl, ⟨⟨by (first | exact omQ | (clear hM; first | (have hk := kg2_rng (j := (p16 + 1)) (by omega) (by omega); exact omQ'))), by (first | exact omQ | (clear hM; first | (have hk := kg2_rng (j := (p16 + 1)) (by omega) (by omega); exact omQ')))⟩, by (clear hM; exact hF12_0)⟩, by (first | exact omQ | (clear hM; first | (have hk := kg2_rng (j := (p16 + 1)) (by omega) (by omega); exact omQ'))), iter_again hM hag16⟩
   ·rw [if_neg (ne_true h17)] at hM
    refine spQA (And.intro ha4 (And.intro ha16 h17)) ?_
    have nh17 := nzQ h17
    try have hr24 := mpQ nh17
    subst hM
    exact retC_view (lfQA (And.intro ha4 (And.intro ha16 (And.intro h1 (And.intro h5 h17)))))
set_option maxHeartbeats 2000000 in
set_option maxRecDepth 100000 in
instance word_residue_ok   (a_ : Int) (m : Int)  : CM En (word_residue a_ m) 122 [.int .i64 a_, .int .i64 m] (fun y => .bool y) (fun _ => []) := by
 refine cmQ fun r hM => ?_
 rw [word_residue.eq_1] at hM
 refine enterV En_ok En_mo noJ Tryz.func122 rfl Tryz.ntmps122 (by kernel_rfl) fun hw => ct_start ?_
 refine spQ ?_
 replace hw := nzQ hw
 have hF := trueQ
 exact auQ
set_option maxHeartbeats 2000000 in
set_option maxRecDepth 100000 in
instance word_check_ok   (a_ : Int) (b : Int) (m : Int)  : CM En (word_check a_ b m) 86 [.int .i64 a_, .int .i64 b, .int .i64 m] (fun y => .int .i64 y) (fun _ => []) := by
 refine cmQ fun r hM => ?_
 rw [word_check.eq_1] at hM
 refine enterV En_ok En_mo noJ Tryz.func86 rfl Tryz.ntmps86 (by kernel_rfl) fun hw => ct_start ?_
 refine spQ ?_
 replace hw := nzQ hw
 have hF := trueQ
 exact auQ
set_option maxHeartbeats 2000000 in
set_option maxRecDepth 100000 in
theorem word_mul_ok   (a_ : Int) (b : Int) (m : Int) (hp0 : 0 ≤ a_) (hp1 : a_ < m) (hp2 : 0 ≤ b) : CM En (word_mul a_ b m) 87 [.int .i64 a_, .int .i64 b, .int .i64 m] (fun y => .int .i64 y) (fun _ => []) := by
 refine cmQ fun r hM => ?_
 rw [word_mul.eq_1] at hM
 refine enterV En_ok En_mo noJ Tryz.func87 rfl Tryz.ntmps87 (by kernel_rfl) fun hw => ct_start ?_
 refine spQ ?_
 replace hw := nzQ hw
 have h0_0 := cu63 (x := a_) (by omega) (by omega)
 have h0_1 := cu63 (x := b) (by omega) (by omega)
 have h0_2 := cu63 (x := m) (by omega) (by omega)
 have hM0 := hM; clear hM; obtain ⟨x1, hx2, hM⟩ := letk_opn hM0; clear hM0
 have hcx1 := cmU hx2
 refine callC_give hcx1 clQ clQ (fun hw3 => ?_)
 replace hw3 := nzQ hw3
 refine spQ ?_
 have hq4 := mul_afterN (convI .u64 m) hx2 (by omega) (by omega) (by omega) (by omega) (by omega)
 replace hq4 := nzQ hq4
 have hM0 := hM; clear hM; obtain ⟨x5, hx6, hM⟩ := letk_opn hM0; clear hM0
 have hcx5 := cmH hx6 (math_bits_Div64_ok  (x1.1) (x1.2) (convI .u64 m) (by (exact pfQ)))
 refine callC_give hcx5 clQ clQ (fun hw7 => ?_)
 replace hw7 := nzQ hw7
 refine spQ ?_
 subst hM
 exact retC_view lfQ
set_option maxHeartbeats 2000000 in
set_option maxRecDepth 100000 in
instance word_Pow_ok   (a_ : Int) (e_ : Int) (m : Int)  : CM En (word_Pow a_ e_ m) 58 [.int .i64 a_, .int .i64 e_, .int .i64 m] (fun y => .tup [.int .i64 y.1, .int .i64 y.2]) (fun _ => []) := by
 refine cmQ fun r hM => ?_
 rw [word_Pow.eq_1] at hM
 refine enterV En_ok En_mo noJ Tryz.func58 rfl Tryz.ntmps58 (by kernel_rfl) fun hw => ct_start ?_
 refine spQ ?_
 replace hw := nzQ hw
 have hM0 := hM; clear hM; obtain ⟨x1, hx2, hM⟩ := letk_opn hM0; clear hM0
 have hcx1 := cmU hx2
 refine callC_give hcx1 clQ clQ (fun hw3 => ?_)
 replace hw3 := nzQ hw3
 refine spQ ?_
 have hq4 := nzQ (cfU hx2)
 refine condC_intro (fun h5 => ?_) (fun h5 => ?_)
 ·rw [if_pos h5] at hM
  refine spQA h5 ?_
  have nh5 := nzQ h5
  try have hr6 := mpQ nh5
  subst hM
  exact retC_view (lfQA h5)
 ·rw [if_neg (ne_true h5)] at hM
  refine spQA h5 ?_
  have nh5 := nzQ h5
  try have hr7 := mpQ nh5
  refine condC_intro (fun h8 => ?_) (fun h8 => ?_)
  ·rw [if_pos h8] at hM
   refine spQA h8 ?_
   have nh8 := nzQ h8
   try have hr9 := mpQ nh8
   subst hM
   exact retC_view (lfQA (And.intro h5 h8))
  ·rw [if_neg (ne_true h8)] at hM
   refine spQA h8 ?_
   have nh8 := nzQ h8
   try have hr10 := mpQ nh8
   refine bindC_intro (by (first | exact omQ | (clear hM; first | (have hk := rem1_rng (m := m) (by omega); exact omQ')))) ?_
   refine spQ ?_
   have hM0 := hM; clear hM; obtain ⟨f11, d11, hf11, hd11, hM⟩ := iter_opn hM0; clear hM0
   refine ct_loop (fun n S => ∃ p : Int × Int × Int, S = (⟨[(0, .int .i64 p.1), (1, .int .i64 p.2.1), (2, .int .i64 m), (9, .int .i64 p.2.2)], [], 0⟩ : St) ∧ ((0 ≤ p.1) ∧ (p.1 < m) ∧ (0 ≤ p.2.1) ∧ (0 ≤ p.2.2) ∧ (p.2.2 < m)) ∧ p.2.1.toNat < n ∧ iter n f11 d11 p = r) (e_.toNat + 1) _ sbQ sbQ ⟨(a_, e_, (remI .i64 1 m)), rfl, ⟨by (first | exact omQ | (clear hM; first | (have hk := rem1_rng (m := m) (by omega); exact omQ'))), by (first | exact omQ | (clear hM; first | (have hk := rem1_rng (m := m) (by omega); exact omQ'))), by (first | exact omQ | (clear hM; first | (have hk := rem1_rng (m := m) (by omega); exact omQ'))), by (first | exact omQ | (clear hM; first | (have hk := rem1_rng (m := m) (by omega); exact omQ'))), by (first | exact omQ | (clear hM; first | (have hk := rem1_rng (m := m) (by omega); exact omQ')))⟩, (Nat.lt_succ_self _), hM⟩ ?_
   clear hM
   rintro n11 S ⟨p11, rfl, hfa11, hm11, hM⟩
   have hM0 := hM; clear hM; obtain ⟨ag11, hag11, hM⟩ := iter_step hM0 (by omega) hf11; clear hM0
   replace hfa11 := nzQ hfa11
   replace hm11 := nzQ hm11
   refine spQ ?_
   refine condC_intro (fun h12 => ?_) (fun h12 => ?_)
   ·rw [if_pos h12] at hM
    refine spQA h12 ?_
    have nh12 := nzQ h12
    try have hr13 := mpQ nh12
    refine condC_intro (fun h14 => ?_) (fun h14 => ?_)
    ·rw [if_pos h14] at hM
     refine spQA h14 ?_
     have nh14 := nzQ h14
     try have hr15 := mpQ nh14
     have hM0 := hM; clear hM; obtain ⟨x16, hx17, hM⟩ := letk_opn hM0; clear hM0
     have hcx16 := cmH hx17 (word_mul_ok  (p11.2.2) (p11.1) m (by (exact pfQ)) (by (exact pfQ)) (by (exact pfQ)))
     refine callC_give hcx16 clQ clQ (fun hw18 => ?_)
     replace hw18 := nzQ hw18
     refine spQ ?_
     have hq19 := word_mul_rng hx17 (by omega) (by omega) (by omega) (by omega) (by omega)
     replace hq19 := nzQ hq19
     have hM0 := hM; clear hM; obtain ⟨x20, hx21, hM⟩ := letk_opn hM0; clear hM0
     have hcx20 := cmH hx21 (word_mul_ok  (p11.1) (p11.1) m (by (exact pfQ)) (by (exact pfQ)) (by (exact pfQ)))
     refine callC_give hcx20 clQ clQ (fun hw22 => ?_)
     replace hw22 := nzQ hw22
     refine spQ ?_
     have hq23 := word_mul_rng hx21 (by omega) (by omega) (by omega) (by omega) (by omega)
     replace hq23 := nzQ hq23
     refine lp_intro (n11 - 1) _ (by omega) sbQ sbQ ⟨(x20, (shrI .i64 p11.2.1 1), x16), rfl, ⟨by (clear hM; (try dsimp only); (try rw [shr1]); (try rw [shr1i]); omega), by (clear hM; (try dsimp only); (try rw [shr1]); (try rw [shr1i]); omega), by (clear hM; (try dsimp only); (try rw [shr1]); (try rw [shr1i]); omega), by (clear hM; (try dsimp only); (try rw [shr1]); (try rw [shr1i]); omega), by (clear hM; (try dsimp only); (try rw [shr1]); (try rw [shr1i]); omega)⟩, by (clear hM; (try dsimp only); (try rw [shr1]); (try rw [shr1i]); omega), iter_again hM hag11⟩
    ·rw [if_neg (ne_true h14)] at hM
     refine spQA h14 ?_
     have nh14 := nzQ h14
     try have hr24 := mpQ nh14
     have hM0 := hM; clear hM; obtain ⟨x25, hx26, hM⟩ := letk_opn hM0; clear hM0
     have hcx25 := cmH hx26 (word_mul_ok  (p11.1) (p11.1) m (by (exact pfQ)) (by (exact pfQ)) (by (exact pfQ)))
     refine callC_give hcx25 clQ clQ (fun hw27 => ?_)
     replace hw27 := nzQ hw27
     refine spQ ?_
     have hq28 := word_mul_rng hx26 (by omega) (by omega) (by omega) (by omega) (by omega)
     replace hq28 := nzQ hq28
     refine lp_intro (n11 - 1) _ (by omega) sbQ sbQ ⟨(x25, (shrI .i64 p11.2.1 1), p11.2.2), rfl, ⟨by (clear hM; (try dsimp only); (try rw [shr1]); (try rw [shr1i]); omega), by (clear hM; (try dsimp only); (try rw [shr1]); (try rw [shr1i]); omega), by (clear hM; (try dsimp only); (try rw [shr1]); (try rw [shr1i]); omega), by (clear hM; (try dsimp only); (try rw [shr1]); (try rw [shr1i]); omega), by (clear hM; (try dsimp only); (try rw [shr1]); (try rw [shr1i]); omega)⟩, by (clear hM; (try dsimp only); (try rw [shr1]); (try rw [shr1i]); omega), iter_again hM hag11⟩
   ·rw [if_neg (ne_true h12)] at hM
    refine spQA h12 ?_
    have nh12 := nzQ h12
    try have hr29 := mpQ nh12
    subst hM
    exact retC_view (lfQA (And.intro h5 (And.intro h8 h12)))
set_option maxHeartbeats 2000000 in
set_option maxRecDepth 100000 in
instance group_Valid_ok   (g : S_api_Group)  : CM En (group_Valid g) 67 [.agg [.int .i64 g.P, .int .i64 g.Q, .int .i64 g.G]] (fun y => .bool y) (fun _ => []) := by
 refine cmQ fun r hM => ?_
 rw [group_Valid.eq_1] at hM
 refine enterV En_ok En_mo noJ Tryz.func67 rfl Tryz.ntmps67 (by kernel_rfl) fun hw => ct_start ?_
 refine spQ ?_
 replace hw := nzQ hw
 have hF := trueQ
 exact auQ
set_option maxHeartbeats 2000000 in
set_option maxRecDepth 100000 in
instance group_element_ok   (g : S_api_Group) (x_ : Int)  : CM En (group_element g x_) 75 [.agg [.int .i64 g.P, .int .i64 g.Q, .int .i64 g.G], .int .i64 x_] (fun y => .bool y) (fun _ => []) := by
 refine cmQ fun r hM => ?_
 rw [group_element.eq_1] at hM
 refine enterV En_ok En_mo noJ Tryz.func75 rfl Tryz.ntmps75 (by kernel_rfl) fun hw => ct_start ?_
 refine spQ ?_
 replace hw := nzQ hw
 have hF := trueQ
 exact auQ
set_option maxHeartbeats 2000000 in
set_option maxRecDepth 100000 in
instance group_Contains_ok   (g : S_api_Group) (x_ : Int)  : CM En (group_Contains g x_) 41 [.agg [.int .i64 g.P, .int .i64 g.Q, .int .i64 g.G], .int .i64 x_] (fun y => .bool y) (fun _ => []) := by
 refine cmQ fun r hM => ?_
 rw [group_Contains.eq_1] at hM
 refine enterV En_ok En_mo noJ Tryz.func41 rfl Tryz.ntmps41 (by kernel_rfl) fun hw => ct_start ?_
 refine spQ ?_
 replace hw := nzQ hw
 have hF := trueQ
 exact auQ
set_option maxHeartbeats 2000000 in
set_option maxRecDepth 100000 in
instance base_Valid_ok   (b : S_api_Bases)  : CM En (base_Valid b) 39 [(e_api_Bases b)] (fun y => .bool y) (fun _ => []) := by
 refine cmQ fun r hM => ?_
 rw [base_Valid.eq_1] at hM
 refine enterV En_ok En_mo noJ Tryz.func39 rfl Tryz.ntmps39 (by kernel_rfl) fun hw => ct_start ?_
 refine spQ ?_
 replace hw := nzQ hw
 have hM0 := hM; clear hM; obtain ⟨x1, hx2, hM⟩ := letk_opn hM0; clear hM0
 have hcx1 := cmU hx2
 refine callC_give hcx1 clQ clQ (fun hw3 => ?_)
 replace hw3 := nzQ hw3
 refine spQ ?_
 refine condC_intro (fun h4 => ?_) (fun h4 => ?_)
 ·rw [if_pos h4] at hM
  refine spQA h4 ?_
  have nh4 := nzQ h4
  try have hr5 := mpQ nh4
  subst hM
  exact retC_view (lfQA h4)
 ·rw [if_neg (ne_true h4)] at hM
  refine spQA h4 ?_
  have nh4 := nzQ h4
  try have hr6 := mpQ nh4
  have hM0 := hM; clear hM; obtain ⟨f7, d7, hf7, hd7, hM⟩ := iter_opn hM0; clear hM0
  refine ct_loop (fun n S => ∃ p : Int, S = (⟨[(1, .ptr 0 0), (15, .own 1), (16, .int .i64 (3 : Int)), (17, .int .i64 p)], [(0, .var 6 true ((e_api_Bases b))), (1, .own 3 1 false (some false) (([b.G1, b.G2, b.H] : List Int).map (V.int .i64)))], 2⟩ : St) ∧ ((0 ≤ p) ∧ (p ≤ (3 : Int))) ∧ ((3 : Int) - p).toNat < n ∧ iter n f7 d7 p = r) (((3 : Int) - 0).toNat + 1) _ sbQ sbQ ⟨0, rfl, ⟨omQ, omQ⟩, (Nat.lt_succ_self _), hM⟩ ?_
  clear hM
  rintro n7 S ⟨p7, rfl, hfa7, hm7, hM⟩
  have hM0 := hM; clear hM; obtain ⟨ag7, hag7, hM⟩ := iter_step hM0 (by omega) hf7; clear hM0
  replace hfa7 := nzQ hfa7
  replace hm7 := nzQ hm7
  have ha7 : addI .i64 p7 1 = p7 + 1 := add_one omQ omQ
  refine spQA ha7 ?_
  have hF := (And.intro h4 ha7)
  exact auQ
set_option maxHeartbeats 2000000 in
set_option maxRecDepth 100000 in
instance base_numbers_ok   (b : S_api_Bases)  : CM En (base_numbers b) 101 [(e_api_Bases b)] (fun y => .sl none 1 false (y.map (V.int .i64))) (fun _ => []) := by
 refine cmQ fun r hM => ?_
 rw [base_numbers.eq_1] at hM
 refine enterV En_ok En_mo noJ Tryz.func101 rfl Tryz.ntmps101 (by kernel_rfl) fun hw => ct_start ?_
 refine spQ ?_
 replace hw := nzQ hw
 subst hM
 exact retC_view lfQ
set_option maxHeartbeats 2000000 in
set_option maxRecDepth 100000 in
instance base_Text_ok   (b : S_api_Bases)  : CM En (base_Text b) 65 [(e_api_Bases b)] (fun y => .tup [.str y.1, .int .i64 y.2]) (fun _ => []) := by
 refine cmQ fun r hM => ?_
 rw [base_Text.eq_1] at hM
 refine enterV En_ok En_mo noJ Tryz.func65 rfl Tryz.ntmps65 (by kernel_rfl) fun hw => ct_start ?_
 refine spQ ?_
 replace hw := nzQ hw
 have hM0 := hM; clear hM; obtain ⟨x1, hx2, hM⟩ := letk_opn hM0; clear hM0
 have hcx1 := cmU hx2
 refine callC_give hcx1 clQ clQ (fun hw3 => ?_)
 replace hw3 := nzQ hw3
 refine spQ ?_
 refine condC_intro (fun h4 => ?_) (fun h4 => ?_)
 ·rw [if_pos h4] at hM
  refine spQA h4 ?_
  have nh4 := nzQ h4
  try have hr5 := mpQ nh4
  subst hM
  exact retC_view (lfQA h4)
 ·rw [if_neg (ne_true h4)] at hM
  refine spQA h4 ?_
  have nh4 := nzQ h4
  try have hr6 := mpQ nh4
  have hM0 := hM; clear hM; obtain ⟨x7, hx8, hM⟩ := letk_opn hM0; clear hM0
  have hcx7 := cmU hx8
  refine callC_give hcx7 clQ clQ (fun hw9 => ?_)
  replace hw9 := nzQ hw9
  refine spQ ?_
  have hq10 := nzQ (cfU hx8)
  have hM0 := hM; clear hM; obtain ⟨f11, d11, hf11, hd11, hM⟩ := iter_opn hM0; clear hM0
  refine ct_loopW (fun n S => ∃ p : Int × List (List UInt8), S = (⟨[(4, .own 1), (11, .sl none 1 false (x7.map (V.int .i64))), (12, .int .i64 (x7.length : Int)), (13, .int .i64 p.1)], [(1, .own 9 1 false none (p.2.map V.str))], 2⟩ : St) ∧ (((0 ≤ p.1) ∧ (p.1 ≤ (x7.length : Int)) ∧ (((p.2).length : Int) ≤ p.1)) ∧ ((textLen (p.2) : Int) ≤ 21 * p.1)) ∧ ((x7.length : Int) - p.1).toNat < n ∧ iter n f11 d11 p = r) (((x7.length : Int) - 0).toNat + 1) _ _ (weak_nil 4 9 rfl (by decide)) sbQ sbQ ⟨(0, ([] : List (List UInt8))), rfl, ⟨⟨omQ, omQ, omQ⟩, by (simp [textLen])⟩, (Nat.lt_succ_self _), hM⟩ ?_
  clear hM
  rintro n11 S ⟨p11, rfl, ⟨hfa11, hF5_0⟩, hm11, hM⟩
  have hM0 := hM; clear hM; obtain ⟨ag11, hag11, hM⟩ := iter_step hM0 (by omega) hf11; clear hM0
  replace hfa11 := nzQ hfa11
  replace hm11 := nzQ hm11
  have ha11 : addI .i64 p11.1 1 = p11.1 + 1 := add_one omQ omQ
  refine spQA ha11 ?_
  refine condC_intro (fun h12 => ?_) (fun h12 => ?_)
  ·rw [if_pos h12] at hM
   refine spQA (And.intro ha11 h12) ?_
   have nh12 := nzQ h12
   try have hr13 := mpQ nh12
   refine bindC_intro omQ ?_
   have he14 := fun d => elt_mp (l := x7) (f := (V.int .i64)) (i := p11.1) omQ d
   refine spQA (And.intro ha11 he14) ?_
   have hM0 := hM; clear hM; obtain ⟨x15, hx16, hM⟩ := letk_opn hM0; clear hM0
   have hcx15 := cmU hx16
   refine callC_give hcx15 (clQA (And.intro ha11 he14)) (clQA (And.intro ha11 he14)) (fun hw17 => ?_)
   replace hw17 := nzQ hw17
   refine spQA (And.intro ha11 he14) ?_
   have hq18 := itoa_len hx16 (wf_gt hw9.2 (by omega))
   replace hq18 := nzQ hq18
   refine bindC_intro omQ ?_
   refine spQA (And.intro ha11 he14) ?_
   refine lp_intro (n11 - 1) _ (by omega) sbQ sbQ ⟨((p11.1 + 1), (p11.2 ++ ([x15] : List (List UInt8)))), rfl, ⟨⟨omQ, omQ, omQ⟩, by (clear hM; rw [textLen_app]; omega)⟩, omQ, iter_again hM hag11⟩
  ·rw [if_neg (ne_true h12)] at hM
   refine spQA (And.intro ha11 h12) ?_
   have nh12 := nzQ h12
   try have hr19 := mpQ nh12
   have hM0 := hM; clear hM; obtain ⟨x20, hx21, hM⟩ := letk_opn hM0; clear hM0
   have hcx20 := cmH hx21 (strings_Join_ok  (p11.2) ([32]) (by (refine Nat.le_trans (join_le _ _) ?_; simp only [List.length_cons, List.length_nil]; omega)))
   refine callC_look hcx20 (clQA ha11) (clQA ha11) (fun hw22 => ?_)
   replace hw22 := nzQ hw22
   refine spQA ha11 ?_
   subst hM
   exact retC_view (lfQA (And.intro ha11 (And.intro h4 h12)))
instance (priority := 1002) : DRD 14 77 21 [9, 52, 53, 54, 55, 56, 57, 58, 59, 60, 61, 62, 63, 64, 65, 66, 67, 68, 69, 70, 71] [] ([[], [0], [0, 1], [], [3], [3, 4], [], [6], [6, 7], [0, 1, 2, 3, 4, 5, 6, 7, 8], [], [10], [10, 11], [], [13], [13, 14], [], [16], [16, 17], [0, 1, 2, 3, 4, 5, 6, 7, 8, 9, 10, 11, 12, 13, 14, 15, 16, 17, 18], []] ++ [List.range 21]) [] := ⟨trivial⟩
set_option maxHeartbeats 2000000 in
set_option maxRecDepth 100000 in
instance base_Parse_ok   (s : (List UInt8))  : CM En (base_Parse s) 66 [.str s] (fun y => .tup [(e_api_Bases y.1), .int .i64 y.2]) (fun _ => []) := by
 refine cmQ fun r hM => ?_
 rw [base_Parse.eq_1] at hM
 refine enterV En_ok En_mo noJ Tryz.func66 rfl Tryz.ntmps66 (by kernel_rfl) fun hw => ct_start ?_
 refine spQ ?_
 replace hw := nzQ hw
 refine condC_intro (fun h1 => ?_) (fun h1 => ?_)
 ·rw [if_pos h1] at hM
  refine spQA h1 ?_
  have nh1 := nzQ h1
  try have hr2 := mpQ nh1
  subst hM
  exact retC_view (lfQA h1)
 ·rw [if_neg (ne_true h1)] at hM
  refine spQA h1 ?_
  have nh1 := nzQ h1
  try have hr3 := mpQ nh1
  have hM0 := hM; clear hM; obtain ⟨x4, hx5, hM⟩ := letk_opn hM0; clear hM0
  have hcx4 := cmH hx5 (strings_Split_ok  s ([32]) (by (exact pfQ)) (by (exact pfQ)))
  refine callC_give hcx4 clQ clQ (fun hw6 => ?_)
  replace hw6 := nzQ hw6
  refine spQ ?_
  have hM0 := hM; clear hM; obtain ⟨f7, d7, hf7, hd7, hM⟩ := iter_opn hM0; clear hM0
  refine ct_loopW (fun n S => ∃ p : Int × S_api_Bases × List Int, S = (⟨[(2, .ptr 0 0), (4, .own 1), (15, .sl none 1 false (x4.map V.str)), (16, .int .i64 (x4.length : Int)), (17, .int .i64 p.1)], [(0, .var 6 true ((e_api_Bases p.2.1))), (1, .own 3 1 false none (p.2.2.map (V.int .i64)))], 2⟩ : St) ∧ ((0 ≤ p.1) ∧ (p.1 ≤ (x4.length : Int)) ∧ (((p.2.2).length : Int) ≤ p.1)) ∧ ((x4.length : Int) - p.1).toNat < n ∧ iter n f7 d7 p = r) (((x4.length : Int) - 0).toNat + 1) _ _ (weak_nil 4 3 rfl (by decide)) sbQ (by simp only [go_sem, rowV_eq, rowV_eq0, List.length_replicate, rep_len, Int.toNat_natCast, ↓reduceIte, Nat.reduceEqDiff, Nat.reduceAdd, Int.reduceAdd, Nat.reduceMul, Nat.reduceLeDiff, Nat.reduceLT, Int.reduceLE, Int.reduceLT, Int.reduceNeg, Int.reduceToNat, List.isEmpty_nil, map_st, mtL_repE, mtL_repM, subF, subH, mtO, mtB, mt, mtL, mtL_self, mt_self, ltV, ltL, ltB, eq_self, or_true, true_or, or_self, and_self, gt_cons0, gt_conss, Int.reduceSub]) ⟨(0, z_api_Bases, ([] : List Int)), rfl, ⟨omQ, omQ, omQ⟩, (Nat.lt_succ_self _), hM⟩ ?_
  clear hM
  rintro n7 S ⟨p7, rfl, hfa7, hm7, hM⟩
  have hM0 := hM; clear hM; obtain ⟨ag7, hag7, hM⟩ := iter_step hM0 (by omega) hf7; clear hM0
  replace hfa7 := nzQ hfa7
  replace hm7 := nzQ hm7
  have ha7 : addI .i64 p7.1 1 = p7.1 + 1 := add_one omQ omQ
  refine spQA ha7 ?_
  have hF := (And.intro h1 ha7)
  exact auQ
set_option maxHeartbeats 2000000 in
set_option maxRecDepth 100000 in
instance specielaw11_awake_ok     : CM En (specielaw11_awake) 32 [] (fun y => .bool y) (fun _ => []) := by
 refine cmQ fun r hM => ?_
 rw [specielaw11_awake.eq_1] at hM
 refine enterV En_ok En_mo noJ Tryz.func32 rfl Tryz.ntmps32 (by kernel_rfl) fun hw => ct_start ?_
 refine spQ ?_
 replace hw := nzQ hw
 have hF := trueQ
 exact auQ
set_option maxHeartbeats 2000000 in
set_option maxRecDepth 100000 in
instance base_number_ok   (n_ : Int)  : CM En (base_number n_) 144 [.int .i64 n_] (fun y => .agg [.int .i64 y.Kind, .int .i64 y.N, .sl none 1 false (y.B.map (V.int .u8)), .sl none 4 true (y.L.map e_api_Item)]) (fun _ => []) := by
 refine cmQ fun r hM => ?_
 rw [base_number.eq_1] at hM
 refine enterV En_ok En_mo noJ Tryz.func144 rfl Tryz.ntmps144 (by kernel_rfl) fun hw => ct_start ?_
 refine spQ ?_
 replace hw := nzQ hw
 subst hM
 exact retC_view lfQ
set_option maxHeartbeats 2000000 in
set_option maxRecDepth 100000 in
instance base_text_ok   (b : (List Int))  : CM En (base_text b) 145 [.sl none 1 false (b.map (V.int .u8))] (fun y => .agg [.int .i64 y.Kind, .int .i64 y.N, .sl none 1 false (y.B.map (V.int .u8)), .sl none 4 true (y.L.map e_api_Item)]) (fun _ => []) := by
 refine cmQ fun r hM => ?_
 rw [base_text.eq_1] at hM
 refine enterV En_ok En_mo noJ Tryz.func145 rfl Tryz.ntmps145 (by kernel_rfl) fun hw => ct_start ?_
 refine spQ ?_
 replace hw := nzQ hw
 subst hM
 exact retC_view lfQ
set_option maxHeartbeats 2000000 in
set_option maxRecDepth 100000 in
theorem encode_within_1_ok (N : Nat) (ih : ∀  (i_ : S_api_Item) (depth : Int), hgt i_ < N → CallOk En 116 [.agg [.int .i64 i_.Kind, .int .i64 i_.N, .sl none 1 false (i_.B.map (V.int .u8)), .sl none 4 true (i_.L.map e_api_Item)], .int .i64 depth] (.bool (withinM i_ depth)) [])  (x_ : S_api_Item) (c0 : Int) (hp0 : hgt x_ < N) (hp1 : 0 < c0) : CallOk En 154 [.agg [.int .i64 x_.Kind, .int .i64 x_.N, .sl none 1 false (x_.B.map (V.int .u8)), .sl none 4 true (x_.L.map e_api_Item)], .pp 1 false (.int .i64 c0)] (.bool (encode_within_1 x_ c0)) [] := by
 generalize hM : encode_within_1 x_ c0 = r
 rw [encode_within_1.eq_1] at hM
 refine enterV En_ok En_mo noJ Tryz.func154 rfl Tryz.ntmps154 (by kernel_rfl) fun hw => ct_start ?_
 refine spQ ?_
 replace hw := nzQ hw
 have ha1 : subI .i64 c0 1 = (c0 - 1) := sub_ok omQ omQ
 try simp only [ha1]
 have hM0 := hM; clear hM; obtain ⟨x2, hx3, hM⟩ := letk_opn hM0; clear hM0
 have hcx2 := ih  x_ (c0 - 1)  (by omega)
 rw [← hx3] at hcx2
 refine callC_give hcx2 (clQA ha1) (clQA ha1) (fun hw4 => ?_)
 replace hw4 := nzQ hw4
 refine spQA ha1 ?_
 subst hM
 exact retC_view (lfQA ha1)
set_option maxHeartbeats 2000000 in
set_option maxRecDepth 100000 in
theorem slices_IndexFunc_api_Item_api_Item_at_encode_within_1_ok (N : Nat) (ih : ∀  (i_ : S_api_Item) (depth : Int), hgt i_ < N → CallOk En 116 [.agg [.int .i64 i_.Kind, .int .i64 i_.N, .sl none 1 false (i_.B.map (V.int .u8)), .sl none 4 true (i_.L.map e_api_Item)], .int .i64 depth] (.bool (withinM i_ depth)) []) (z0 : Option Bool) (s : (List S_api_Item)) (f__c0 : Int) (hp0 : ∀ x ∈ s, hgt x < N) (hp1 : 0 < f__c0) : CallOk En 185 [.sl z0 4 true (s.map e_api_Item), .fn 154 [.pp 1 false (.int .i64 f__c0)]] (.int .i64 (slices_IndexFunc_api_Item_api_Item_at_encode_within_1 s f__c0)) [] := by
 generalize hM : slices_IndexFunc_api_Item_api_Item_at_encode_within_1 s f__c0 = r
 rw [slices_IndexFunc_api_Item_api_Item_at_encode_within_1.eq_1] at hM
 refine enterV En_ok En_mo noJ Tryz.func185 rfl Tryz.ntmps185 (by kernel_rfl) fun hw => ct_start ?_
 refine spQ ?_
 replace hw := nzQ hw
 have hM0 := hM; clear hM; obtain ⟨f1, d1, hf1, hd1, hM⟩ := iter_opn hM0; clear hM0
 refine ct_loop (fun n S => ∃ p : Int, S = (⟨[(0, .sl z0 4 true (s.map e_api_Item)), (1, .fn 154 [.pp 1 false (.int .i64 f__c0)]), (7, .int .i64 (s.length : Int)), (8, .int .i64 p)], [], 0⟩ : St) ∧ ((0 ≤ p) ∧ (p ≤ (s.length : Int))) ∧ ((s.length : Int) - p).toNat < n ∧ iter n f1 d1 p = r) (((s.length : Int) - 0).toNat + 1) _ sbQ sbQ ⟨0, rfl, ⟨omQ, omQ⟩, (Nat.lt_succ_self _), hM⟩ ?_
 clear hM
 rintro n1 S ⟨p1, rfl, hfa1, hm1, hM⟩
 have hM0 := hM; clear hM; obtain ⟨ag1, hag1, hM⟩ := iter_step hM0 (by omega) hf1; clear hM0
 replace hfa1 := nzQ hfa1
 replace hm1 := nzQ hm1
 have ha1 : addI .i64 p1 1 = p1 + 1 := add_one omQ omQ
 refine spQA ha1 ?_
 refine condC_intro (fun h2 => ?_) (fun h2 => ?_)
 ·rw [if_pos h2] at hM
  refine spQA (And.intro ha1 h2) ?_
  have nh2 := nzQ h2
  try have hr3 := mpQ nh2
  refine bindC_intro omQ ?_
  have he4 := fun d => elt_mp (l := s) (f := e_api_Item) (i := p1) omQ d
  refine spQA (And.intro ha1 he4) ?_
  have hM0 := hM; clear hM; obtain ⟨x5, hx6, hM⟩ := letk_opn hM0; clear hM0
  have hcx5 := encode_within_1_ok N ih  (gt s p1) f__c0 (by (first | exact hp1 | exact hp0 _ (gt_mem (by omega)))) (by (first | exact hp1 | exact hp0 _ (gt_mem (by omega))))
  rw [← hx6] at hcx5
  refine callC_give hcx5 (clQA (And.intro ha1 he4)) (clQA (And.intro ha1 he4)) (fun hw7 => ?_)
  replace hw7 := nzQ hw7
  refine spQA (And.intro ha1 he4) ?_
  have hF := (And.intro ha1 (And.intro h2 he4))
  exact auQ
 ·rw [if_neg (ne_true h2)] at hM
  refine spQA (And.intro ha1 h2) ?_
  have nh2 := nzQ h2
  try have hr9 := mpQ nh2
  subst hM
  exact retC_view (lfQA (And.intro ha1 h2))
set_option maxHeartbeats 2000000 in
set_option maxRecDepth 100000 in
theorem slices_ContainsFunc_api_Item_api_Item_at_encode_within_1_ok (N : Nat) (ih : ∀  (i_ : S_api_Item) (depth : Int), hgt i_ < N → CallOk En 116 [.agg [.int .i64 i_.Kind, .int .i64 i_.N, .sl none 1 false (i_.B.map (V.int .u8)), .sl none 4 true (i_.L.map e_api_Item)], .int .i64 depth] (.bool (withinM i_ depth)) []) (z0 : Option Bool) (s : (List S_api_Item)) (f__c0 : Int) (hp0 : ∀ x ∈ s, hgt x < N) (hp1 : 0 < f__c0) : CallOk En 153 [.sl z0 4 true (s.map e_api_Item), .fn 154 [.pp 1 false (.int .i64 f__c0)]] (.bool (slices_ContainsFunc_api_Item_api_Item_at_encode_within_1 s f__c0)) [] := by
 generalize hM : slices_ContainsFunc_api_Item_api_Item_at_encode_within_1 s f__c0 = r
 rw [slices_ContainsFunc_api_Item_api_Item_at_encode_within_1.eq_1] at hM
 refine enterV En_ok En_mo noJ Tryz.func153 rfl Tryz.ntmps153 (by kernel_rfl) fun hw => ct_start ?_
 refine spQ ?_
 replace hw := nzQ hw
 have hM0 := hM; clear hM; obtain ⟨x1, hx2, hM⟩ := letk_opn hM0; clear hM0
 have hcx1 := slices_IndexFunc_api_Item_api_Item_at_encode_within_1_ok N ih z0 s f__c0 (by (first | exact hp1 | exact hp0)) (by (first | exact hp1 | exact hp0))
 rw [← hx2] at hcx1
 refine callC_give hcx1 clQ clQ (fun hw3 => ?_)
 replace hw3 := nzQ hw3
 refine spQ ?_
 subst hM
 exact retC_view lfQ
set_option maxHeartbeats 2000000 in
set_option maxRecDepth 100000 in
theorem encode_within_ok (N : Nat) (ih : ∀  (i_ : S_api_Item) (depth : Int), hgt i_ < N → CallOk En 116 [.agg [.int .i64 i_.Kind, .int .i64 i_.N, .sl none 1 false (i_.B.map (V.int .u8)), .sl none 4 true (i_.L.map e_api_Item)], .int .i64 depth] (.bool (withinM i_ depth)) [])  (i_ : S_api_Item) (depth : Int) (hp_ : hgt i_ < N + 1) : CallOk En 116 [.agg [.int .i64 i_.Kind, .int .i64 i_.N, .sl none 1 false (i_.B.map (V.int .u8)), .sl none 4 true (i_.L.map e_api_Item)], .int .i64 depth] (.bool (encode_within i_ depth)) [] := by
 generalize hM : encode_within i_ depth = r
 rw [encode_within.eq_1] at hM
 refine enterV En_ok En_mo noJ Tryz.func116 rfl Tryz.ntmps116 (by kernel_rfl) fun hw => ct_start ?_
 refine spQ ?_
 replace hw := nzQ hw
 refine condC_intro (fun h1 => ?_) (fun h1 => ?_)
 ·rw [if_pos h1] at hM
  refine spQA h1 ?_
  have nh1 := nzQ h1
  try have hr2 := mpQ nh1
  have hF := h1
  exact auQ
 ·rw [if_neg (ne_true h1)] at hM
  refine spQA h1 ?_
  have nh1 := nzQ h1
  try have hr6 := mpQ nh1
  refine condC_intro (fun h7 => ?_) (fun h7 => ?_)
  ·rw [if_pos h7] at hM
   refine spQA h7 ?_
   have nh7 := nzQ h7
   try have hr8 := mpQ nh7
   have hF := (And.intro h1 h7)
   exact auQ
  ·rw [if_neg (ne_true h7)] at hM
   refine spQA h7 ?_
   have nh7 := nzQ h7
   try have hr12 := mpQ nh7
   refine condC_intro (fun h13 => ?_) (fun h13 => ?_)
   ·rw [if_pos h13] at hM
    refine spQA h13 ?_
    have nh13 := nzQ h13
    try have hr14 := mpQ nh13
    refine guardC_t (fun h15 => ?_) (fun h15 => ?_)
    ·rw [if_pos h15] at hM
     refine spQA h15 ?_
     have nh15 := nzQ h15
     try have hr16 := mpQ nh15
     refine guardC_t (fun h17 => ?_) (fun h17 => ?_)
     ·rw [if_pos h17] at hM
      refine spQA h17 ?_
      have nh17 := nzQ h17
      try have hr18 := mpQ nh17
      refine guardC_t (fun h19 => ?_) (fun h19 => ?_)
      ·rw [if_pos h19] at hM
       refine spQA h19 ?_
       have nh19 := nzQ h19
       try have hr20 := mpQ nh19
       refine guardC_t (fun h21 => ?_) (fun h21 => ?_)
       ·rw [if_pos h21] at hM
        refine spQA h21 ?_
        have nh21 := nzQ h21
        try have hr22 := mpQ nh21
        have hM0 := hM; clear hM; obtain ⟨x23, hx24, hM⟩ := letk_opn hM0; clear hM0
        have hcx23 := slices_ContainsFunc_api_Item_api_Item_at_encode_within_1_ok N ih none (i_.L) depth (by (first | omega | exact fun x hx => Nat.lt_of_lt_of_le (hgt_L hx) (Nat.lt_succ_iff.1 hp_))) (by (first | omega | exact fun x hx => Nat.lt_of_lt_of_le (hgt_L hx) (Nat.lt_succ_iff.1 hp_)))
        rw [← hx24] at hcx23
        refine callC_look hcx23 clQ clQ (fun hw25 => ?_)
        replace hw25 := nzQ hw25
        refine spQ ?_
        subst hM
        exact retC_view (lfQA (And.intro h1 (And.intro h7 (And.intro h13 (And.intro h15 (And.intro h17 (And.intro h19 h21)))))))
       ·rw [if_neg (ne_true h21)] at hM
        refine spQA h21 ?_
        have nh21 := nzQ h21
        try have hr26 := mpQ nh21
        subst hM
        exact retC_view (lfQA (And.intro h1 (And.intro h7 (And.intro h13 (And.intro h15 (And.intro h17 (And.intro h19 h21)))))))
      ·rw [if_neg (ne_true h19)] at hM
       refine spQA h19 ?_
       have nh19 := nzQ h19
       try have hr27 := mpQ nh19
       subst hM
       exact retC_view (lfQA (And.intro h1 (And.intro h7 (And.intro h13 (And.intro h15 (And.intro h17 h19))))))
     ·rw [if_neg (ne_true h17)] at hM
      refine spQA h17 ?_
      have nh17 := nzQ h17
      try have hr28 := mpQ nh17
      subst hM
      exact retC_view (lfQA (And.intro h1 (And.intro h7 (And.intro h13 (And.intro h15 h17)))))
    ·rw [if_neg (ne_true h15)] at hM
     refine spQA h15 ?_
     have nh15 := nzQ h15
     try have hr29 := mpQ nh15
     subst hM
     exact retC_view (lfQA (And.intro h1 (And.intro h7 (And.intro h13 h15))))
   ·rw [if_neg (ne_true h13)] at hM
    refine spQA h13 ?_
    have nh13 := nzQ h13
    try have hr30 := mpQ nh13
    subst hM
    exact retC_view (lfQA (And.intro h1 (And.intro h7 h13)))
theorem withinM_okN : ∀ (N : Nat)  (i_ : S_api_Item) (depth : Int), hgt i_ < N → CallOk En 116 [.agg [.int .i64 i_.Kind, .int .i64 i_.N, .sl none 1 false (i_.B.map (V.int .u8)), .sl none 4 true (i_.L.map e_api_Item)], .int .i64 depth] (.bool (withinM i_ depth)) [] := by
 intro N
 induction N with
 | zero => intro i_ depth  h; exact absurd h (Nat.not_lt_zero _)
 | succ N ih =>
  intro i_ depth  h
  have h9 := encode_within_ok N ih i_ depth  h
  rw [encode_within_eqM] at h9
  exact h9
theorem withinM_ok  (i_ : S_api_Item) (depth : Int)  : CallOk En 116 [.agg [.int .i64 i_.Kind, .int .i64 i_.N, .sl none 1 false (i_.B.map (V.int .u8)), .sl none 4 true (i_.L.map e_api_Item)], .int .i64 depth] (.bool (withinM i_ depth)) [] :=
 withinM_okN (hgt i_ + 1) i_ depth  (Nat.lt_succ_self _)
set_option maxHeartbeats 2000000 in
set_option maxRecDepth 100000 in
instance encode_Valid_ok   (i_ : S_api_Item)  : CM En (encode_Valid i_) 76 [.agg [.int .i64 i_.Kind, .int .i64 i_.N, .sl none 1 false (i_.B.map (V.int .u8)), .sl none 4 true (i_.L.map e_api_Item)]] (fun y => .bool y) (fun _ => []) := by
 refine cmQ fun r hM => ?_
 rw [encode_Valid.eq_1] at hM
 refine enterV En_ok En_mo noJ Tryz.func76 rfl Tryz.ntmps76 (by kernel_rfl) fun hw => ct_start ?_
 refine spQ ?_
 replace hw := nzQ hw
 have hM0 := hM; clear hM; obtain ⟨x1, hx2, hM⟩ := letk_opn hM0; clear hM0
 have hcx1 := withinM_ok  i_ 8 
 rw [← hx2] at hcx1
 refine callC_give hcx1 clQ clQ (fun hw3 => ?_)
 replace hw3 := nzQ hw3
 refine spQ ?_
 subst hM
 exact retC_view lfQ
set_option maxHeartbeats 2000000 in
set_option maxRecDepth 100000 in
theorem encode_number_ok  (z0 : Option Bool) (out : (List Int)) (n_ : Int) (size : Int) (hp0 : size ≤ 8) (hp1 : out.length ≤ 1000000000) (hp2 : 0 ≤ size) : CallIn En 117 [.own 0, .int .u64 n_, .int .i64 size] [.own 5 1 false z0 (out.map (V.int .u8))] (.own 0) [.own 5 1 false none ((encode_number out n_ size).map (V.int .u8))] [] := by
 generalize hM : encode_number out n_ size = r
 rw [encode_number.eq_1] at hM
 refine enterI En_ok En_mo noJ Tryz.func117 rfl Tryz.ntmps117 (by kernel_rfl) rfl fun ks hw hwB => ct_start ?_
 refine spQ ?_
 replace hw := nzQ hw
 try simp only [wfBs, wfB, decide_eq_true_eq, decide_eq_false_iff_not, Bool.and_eq_true, Bool.or_eq_true, Bool.not_eq_true', Bool.not_eq_false', beq_iff_eq, bne_iff_ne, beq_eq_false_iff_ne, bne_eq_false_iff_eq, ne_eq, Int.not_lt, Int.not_le, gt_iff_lt, ge_iff_le, List.length_map, wfL, wfV, and_true, true_and, LEN_eq, rng_i64, rng_u64, rng_u32, rng_i32, sl_len, st_len, List.length_append, List.length_cons, List.length_nil, List.length_replicate, rep_len, rowV_len, spl_len, cutN_len, arrN_len, nat8_len, remI_nn] at hwB
 have ha1 : subI .i64 size 1 = (size - 1) := sub_ok omQ omQ
 try simp only [ha1]
 have hM0 := hM; clear hM; obtain ⟨f2, d2, hf2, hd2, hM⟩ := iter_opn hM0; clear hM0
 refine ct_loop (fun n S => ∃ p : Int × List Int, S = (⟨[(0, .own 0), (1, .int .u64 n_), (7, .int .i64 p.1)], [(0, .own 5 1 false none (p.2.map (V.int .u8)))], 1⟩ : St) ∧ ((-1 ≤ p.1) ∧ (p.1 < 8) ∧ (((p.2).length : Int) + p.1 ≤ 1000000020)) ∧ (p.1 + 1).toNat < n ∧ iter n f2 d2 p = r) (((size - 1) + 1).toNat + 1) _ sbQ sbQ ⟨((size - 1), out), rfl, ⟨omQ, omQ, omQ⟩, (Nat.lt_succ_self _), hM⟩ ?_
 clear hM
 rintro n2 S ⟨p2, rfl, hfa2, hm2, hM⟩
 have hM0 := hM; clear hM; obtain ⟨ag2, hag2, hM⟩ := iter_step hM0 (by omega) hf2; clear hM0
 replace hfa2 := nzQ hfa2
 replace hm2 := nzQ hm2
 refine spQA ha1 ?_
 refine condC_intro (fun h3 => ?_) (fun h3 => ?_)
 ·rw [if_pos h3] at hM
  refine spQA (And.intro ha1 h3) ?_
  have nh3 := nzQ h3
  try have hr4 := mpQ nh3
  obtain ⟨ha5, hbha5⟩ := mul_pos_ok (a := 8) (b := p2.1) 8 8 64 omQ omQ omQ omQ (by decide) (by decide)
  try simp only [ha5]
  refine bindC_intro omQ ?_
  refine spQA (And.intro ha1 ha5) ?_
  refine bindC_intro omQ ?_
  refine spQA (And.intro ha1 ha5) ?_
  have ha6 : subI .i64 p2.1 1 = (p2.1 - 1) := sub_ok omQ omQ
  try simp only [ha6]
  refine lp_intro (n2 - 1) _ (by omega) sbQ sbQ ⟨((p2.1 - 1), (p2.2 ++ ([(convI .u8 (shrI .u64 n_ (8 * p2.1)))] : List Int))), rfl, ⟨omQ, omQ, omQ⟩, omQ, iter_again hM hag2⟩
 ·rw [if_neg (ne_true h3)] at hM
  refine spQA (And.intro ha1 h3) ?_
  have nh3 := nzQ h3
  try have hr7 := mpQ nh3
  subst hM
  exact retCI_in [0] (by simp only [go_sem, rowV_eq, rowV_eq0, List.length_replicate, rep_len, Int.toNat_natCast, ↓reduceIte, Nat.reduceEqDiff, Nat.reduceAdd, Int.reduceAdd, Nat.reduceMul, Nat.reduceLeDiff, Nat.reduceLT, Int.reduceLE, Int.reduceLT, Int.reduceNeg, Int.reduceToNat, mt, mtL, mtL_self, mt_self, mtZ, and_self, eq_self, or_true, true_or, map_st, ha1, gt_cons0, gt_conss, Int.reduceSub, or_self, h3]) (by decide) (by simp only [go_sem, rowV_eq, rowV_eq0, List.length_replicate, rep_len, Int.toNat_natCast, ↓reduceIte, Nat.reduceEqDiff, Nat.reduceAdd, Int.reduceAdd, Nat.reduceMul, Nat.reduceLeDiff, Nat.reduceLT, Int.reduceLE, Int.reduceLT, Int.reduceNeg, Int.reduceToNat, mt, mtL, mtL_self, mt_self, mtZ, and_self, eq_self, or_true, true_or, map_st, ha1, gt_cons0, gt_conss, Int.reduceSub, or_self, h3])
set_option maxHeartbeats 2000000 in
set_option maxRecDepth 100000 in
theorem encode_write_ok (N : Nat) (ih : ∀ (z0 : Option Bool) (out : (List Int)) (i_ : S_api_Item), (hgt i_ ≤ 500000000) → hgt i_ < N → CallIn En 77 [.own 0, .agg [.int .i64 i_.Kind, .int .i64 i_.N, .sl none 1 false (i_.B.map (V.int .u8)), .sl none 4 true (i_.L.map e_api_Item)]] [.own 5 1 false z0 (out.map (V.int .u8))] (.own 0) [.own 5 1 false none ((writeM out i_).map (V.int .u8))] []) (z0 : Option Bool) (out : (List Int)) (i_ : S_api_Item) (hp0 : hgt i_ ≤ 500000000) (hp_ : hgt i_ < N + 1) : CallIn En 77 [.own 0, .agg [.int .i64 i_.Kind, .int .i64 i_.N, .sl none 1 false (i_.B.map (V.int .u8)), .sl none 4 true (i_.L.map e_api_Item)]] [.own 5 1 false z0 (out.map (V.int .u8))] (.own 0) [.own 5 1 false none ((encode_write out i_).map (V.int .u8))] [] := by
 generalize hM : encode_write out i_ = r
 rw [encode_write.eq_1] at hM
 refine enterI En_ok En_mo noJ Tryz.func77 rfl Tryz.ntmps77 (by kernel_rfl) rfl fun ks hw hwB => ct_start ?_
 refine spQ ?_
 replace hw := nzQ hw
 try simp only [wfBs, wfB, decide_eq_true_eq, decide_eq_false_iff_not, Bool.and_eq_true, Bool.or_eq_true, Bool.not_eq_true', Bool.not_eq_false', beq_iff_eq, bne_iff_ne, beq_eq_false_iff_ne, bne_eq_false_iff_eq, ne_eq, Int.not_lt, Int.not_le, gt_iff_lt, ge_iff_le, List.length_map, wfL, wfV, and_true, true_and, LEN_eq, rng_i64, rng_u64, rng_u32, rng_i32, sl_len, st_len, List.length_append, List.length_cons, List.length_nil, List.length_replicate, rep_len, rowV_len, spl_len, cutN_len, arrN_len, nat8_len, remI_nn] at hwB
 refine condC_intro (fun h1 => ?_) (fun h1 => ?_)
 ·rw [if_pos h1] at hM
  refine spQA h1 ?_
  have nh1 := nzQ h1
  try have hr2 := mpQ nh1
  subst hM
  exact retCI_in [0] (by simp only [go_sem, rowV_eq, rowV_eq0, List.length_replicate, rep_len, Int.toNat_natCast, ↓reduceIte, Nat.reduceEqDiff, Nat.reduceAdd, Int.reduceAdd, Nat.reduceMul, Nat.reduceLeDiff, Nat.reduceLT, Int.reduceLE, Int.reduceLT, Int.reduceNeg, Int.reduceToNat, mt, mtL, mtL_self, mt_self, mtZ, and_self, eq_self, or_true, true_or, map_st, gt_cons0, gt_conss, Int.reduceSub, or_self, h1]) (by decide) (by simp only [go_sem, rowV_eq, rowV_eq0, List.length_replicate, rep_len, Int.toNat_natCast, ↓reduceIte, Nat.reduceEqDiff, Nat.reduceAdd, Int.reduceAdd, Nat.reduceMul, Nat.reduceLeDiff, Nat.reduceLT, Int.reduceLE, Int.reduceLT, Int.reduceNeg, Int.reduceToNat, mt, mtL, mtL_self, mt_self, mtZ, and_self, eq_self, or_true, true_or, map_st, gt_cons0, gt_conss, Int.reduceSub, or_self, h1])
 ·rw [if_neg (ne_true h1)] at hM
  refine spQA h1 ?_
  have nh1 := nzQ h1
  try have hr3 := mpQ nh1
  refine bindC_intro (by (first | exact omQ | (clear hM; first | (have h9 := hgt_eq i_; exact omQ')))) ?_
  refine spQ ?_
  refine condC_intro (fun h4 => ?_) (fun h4 => ?_)
  ·rw [if_pos h4] at hM
   refine spQA h4 ?_
   have nh4 := nzQ h4
   try have hr5 := mpQ nh4
   have hM0 := hM; clear hM; obtain ⟨x6, hx7, hM⟩ := letk_opn hM0; clear hM0
   have hcx6 := encode_number_ok (some false) (out ++ ([(convI .u8 i_.Kind)] : List Int)) (convI .u64 i_.N) 8 (by (exact pfQ)) (by (exact pfQ)) (by (exact pfQ))
   rw [← hx7] at hcx6
   refine callC_in [0] hcx6 (by decide) (by simp only [go_sem, rowV_eq, rowV_eq0, List.length_replicate, rep_len, Int.toNat_natCast, ↓reduceIte, Nat.reduceEqDiff, Nat.reduceAdd, Int.reduceAdd, Nat.reduceMul, Nat.reduceLeDiff, Nat.reduceLT, Int.reduceLE, Int.reduceLT, Int.reduceNeg, Int.reduceToNat, mt, mtL, mtL_self, mt_self, mtZ, and_self, eq_self, or_true, true_or]) (by simp only [go_sem, rowV_eq, rowV_eq0, List.length_replicate, rep_len, Int.toNat_natCast, ↓reduceIte, Nat.reduceEqDiff, Nat.reduceAdd, Int.reduceAdd, Nat.reduceMul, Nat.reduceLeDiff, Nat.reduceLT, Int.reduceLE, Int.reduceLT, Int.reduceNeg, Int.reduceToNat, mt, mtL, mtL_self, mt_self, mtZ, and_self, eq_self, or_true, true_or]) (fun hw8 => ?_)
   replace hw8 := nzQ hw8
   refine spQ ?_
   have hq9 := num_le hx7
   replace hq9 := nzQ hq9
   subst hM
   exact retCI_in [0] (by simp only [go_sem, rowV_eq, rowV_eq0, List.length_replicate, rep_len, Int.toNat_natCast, ↓reduceIte, Nat.reduceEqDiff, Nat.reduceAdd, Int.reduceAdd, Nat.reduceMul, Nat.reduceLeDiff, Nat.reduceLT, Int.reduceLE, Int.reduceLT, Int.reduceNeg, Int.reduceToNat, mt, mtL, mtL_self, mt_self, mtZ, and_self, eq_self, or_true, true_or, map_st, gt_cons0, gt_conss, Int.reduceSub, or_self, h1, h4]) (by decide) (by simp only [go_sem, rowV_eq, rowV_eq0, List.length_replicate, rep_len, Int.toNat_natCast, ↓reduceIte, Nat.reduceEqDiff, Nat.reduceAdd, Int.reduceAdd, Nat.reduceMul, Nat.reduceLeDiff, Nat.reduceLT, Int.reduceLE, Int.reduceLT, Int.reduceNeg, Int.reduceToNat, mt, mtL, mtL_self, mt_self, mtZ, and_self, eq_self, or_true, true_or, map_st, gt_cons0, gt_conss, Int.reduceSub, or_self, h1, h4])
  ·rw [if_neg (ne_true h4)] at hM
   refine spQA h4 ?_
   have nh4 := nzQ h4
   try have hr10 := mpQ nh4
   refine condC_intro (fun h11 => ?_) (fun h11 => ?_)
   ·rw [if_pos h11] at hM
    refine spQA h11 ?_
    have nh11 := nzQ h11
    try have hr12 := mpQ nh11
    refine ct_draw 55 8 [28, 29, 30, 31, 32, 33, 34, 35] [] ([[], [], [1], [1, 2], [1, 2, 3], [0, 1, 2, 3, 4], [], [6]] ++ [List.range 8, List.range 9]) [(5, 0)] (by kernel_rfl) (by exact alQ) ?_
    refine spQ ?_
    have hM0 := hM; clear hM; obtain ⟨x13, hx14, hM⟩ := letk_opn hM0; clear hM0
    have hcx13 := encode_number_ok (some false) (out ++ ([(convI .u8 i_.Kind)] : List Int)) (convI .u64 (i_.B.length : Int)) 4 (by (exact pfQ)) (by (exact pfQ)) (by (exact pfQ))
    rw [← hx14] at hcx13
    refine hcallC_kill 0 hcx13 (by simp only [go_sem, rowV_eq, rowV_eq0, List.length_replicate, rep_len, Int.toNat_natCast, ↓reduceIte, Nat.reduceEqDiff, Nat.reduceAdd, Int.reduceAdd, Nat.reduceMul, Nat.reduceLeDiff, Nat.reduceLT, Int.reduceLE, Int.reduceLT, Int.reduceNeg, Int.reduceToNat, mt, mtL, mtL_self, mt_self, mtZ, and_self, eq_self, or_true, true_or]) (by simp only [go_sem, rowV_eq, rowV_eq0, List.length_replicate, rep_len, Int.toNat_natCast, ↓reduceIte, Nat.reduceEqDiff, Nat.reduceAdd, Int.reduceAdd, Nat.reduceMul, Nat.reduceLeDiff, Nat.reduceLT, Int.reduceLE, Int.reduceLT, Int.reduceNeg, Int.reduceToNat, mt, mtL, mtL_self, mt_self, mtZ, and_self, eq_self, or_true, true_or]) (by simp only [go_sem, rowV_eq, rowV_eq0, List.length_replicate, rep_len, Int.toNat_natCast, ↓reduceIte, Nat.reduceEqDiff, Nat.reduceAdd, Int.reduceAdd, Nat.reduceMul, Nat.reduceLeDiff, Nat.reduceLT, Int.reduceLE, Int.reduceLT, Int.reduceNeg, Int.reduceToNat, mt, mtL, mtL_self, mt_self, mtZ, and_self, eq_self, or_true, true_or]) (flatL_map fun _ => (by simp only [go_sem, rowV_eq, rowV_eq0, List.length_replicate, rep_len, Int.toNat_natCast, ↓reduceIte, Nat.reduceEqDiff, Nat.reduceAdd, Int.reduceAdd, Nat.reduceMul, Nat.reduceLeDiff, Nat.reduceLT, Int.reduceLE, Int.reduceLT, Int.reduceNeg, Int.reduceToNat, mt, mtL, mtL_self, mt_self, mtZ, and_self, eq_self, or_true, true_or])) ?_
    refine spQ ?_
    have hq15 := num_le hx14
    replace hq15 := nzQ hq15
    refine bindC_intro (by (first | exact omQ | (clear hM; first | (have h9 := hgt_eq i_; exact omQ')))) ?_
    refine spQ ?_
    subst hM
    exact retCI_in [8] (by simp only [go_sem, rowV_eq, rowV_eq0, List.length_replicate, rep_len, Int.toNat_natCast, ↓reduceIte, Nat.reduceEqDiff, Nat.reduceAdd, Int.reduceAdd, Nat.reduceMul, Nat.reduceLeDiff, Nat.reduceLT, Int.reduceLE, Int.reduceLT, Int.reduceNeg, Int.reduceToNat, mt, mtL, mtL_self, mt_self, mtZ, and_self, eq_self, or_true, true_or, map_st, gt_cons0, gt_conss, Int.reduceSub, or_self, h1, h4, h11]) (by decide) (by simp only [go_sem, rowV_eq, rowV_eq0, List.length_replicate, rep_len, Int.toNat_natCast, ↓reduceIte, Nat.reduceEqDiff, Nat.reduceAdd, Int.reduceAdd, Nat.reduceMul, Nat.reduceLeDiff, Nat.reduceLT, Int.reduceLE, Int.reduceLT, Int.reduceNeg, Int.reduceToNat, mt, mtL, mtL_self, mt_self, mtZ, and_self, eq_self, or_true, true_or, map_st, gt_cons0, gt_conss, Int.reduceSub, or_self, h1, h4, h11])
   ·rw [if_neg (ne_true h11)] at hM
    refine spQA h11 ?_
    have nh11 := nzQ h11
    try have hr16 := mpQ nh11
    have hM0 := hM; clear hM; obtain ⟨x17, hx18, hM⟩ := letk_opn hM0; clear hM0
    have hcx17 := encode_number_ok (some false) (out ++ ([(convI .u8 i_.Kind)] : List Int)) (convI .u64 (i_.L.length : Int)) 4 (by (exact pfQ)) (by (exact pfQ)) (by (exact pfQ))
    rw [← hx18] at hcx17
    refine callC_in [0] hcx17 (by decide) (by simp only [go_sem, rowV_eq, rowV_eq0, List.length_replicate, rep_len, Int.toNat_natCast, ↓reduceIte, Nat.reduceEqDiff, Nat.reduceAdd, Int.reduceAdd, Nat.reduceMul, Nat.reduceLeDiff, Nat.reduceLT, Int.reduceLE, Int.reduceLT, Int.reduceNeg, Int.reduceToNat, mt, mtL, mtL_self, mt_self, mtZ, and_self, eq_self, or_true, true_or]) (by simp only [go_sem, rowV_eq, rowV_eq0, List.length_replicate, rep_len, Int.toNat_natCast, ↓reduceIte, Nat.reduceEqDiff, Nat.reduceAdd, Int.reduceAdd, Nat.reduceMul, Nat.reduceLeDiff, Nat.reduceLT, Int.reduceLE, Int.reduceLT, Int.reduceNeg, Int.reduceToNat, mt, mtL, mtL_self, mt_self, mtZ, and_self, eq_self, or_true, true_or]) (fun hw19 => ?_)
    replace hw19 := nzQ hw19
    refine spQ ?_
    have hq20 := num_le hx18
    replace hq20 := nzQ hq20
    have hM0 := hM; clear hM; obtain ⟨f21, d21, hf21, hd21, hM⟩ := iter_opn hM0; clear hM0
    refine ct_loop (fun n S => ∃ p : Int × List Int, S = (⟨[(0, .own 0), (44, .sl none 4 true (i_.L.map e_api_Item)), (45, .int .i64 (i_.L.length : Int)), (46, .int .i64 p.1)], [(0, .own 5 1 false none (p.2.map (V.int .u8)))], 3⟩ : St) ∧ ((0 ≤ p.1) ∧ (p.1 ≤ (i_.L.length : Int))) ∧ ((i_.L.length : Int) - p.1).toNat < n ∧ iter n f21 d21 p = r) (((i_.L.length : Int) - 0).toNat + 1) _ sbQ sbQ ⟨(0, x17), rfl, ⟨by (first | exact omQ | (clear hM; first | (have h9 := hgt_eq i_; exact omQ'))), by (first | exact omQ | (clear hM; first | (have h9 := hgt_eq i_; exact omQ')))⟩, (Nat.lt_succ_self _), hM⟩ ?_
    clear hM
    rintro n21 S ⟨p21, rfl, hfa21, hm21, hM⟩
    have hM0 := hM; clear hM; obtain ⟨ag21, hag21, hM⟩ := iter_step hM0 (by omega) hf21; clear hM0
    replace hfa21 := nzQ hfa21
    replace hm21 := nzQ hm21
    have ha21 : addI .i64 p21.1 1 = p21.1 + 1 := add_one (by (first | exact omQ | (clear hM; first | (have h9 := hgt_eq i_; exact omQ')))) (by (first | exact omQ | (clear hM; first | (have h9 := hgt_eq i_; exact omQ'))))
    refine spQA ha21 ?_
    refine condC_intro (fun h22 => ?_) (fun h22 => ?_)
    ·rw [if_pos h22] at hM
     refine spQA (And.intro ha21 h22) ?_
     have nh22 := nzQ h22
     try have hr23 := mpQ nh22
     refine bindC_intro (by (first | exact omQ | (clear hM; first | (have h9 := hgt_eq i_; exact omQ')))) ?_
     have he24 := fun d => elt_mp (l := i_.L) (f := e_api_Item) (i := p21.1) (by (first | exact omQ | (clear hM; first | (have h9 := hgt_eq i_; exact omQ')))) d
     refine spQA (And.intro ha21 he24) ?_
     have hM0 := hM; clear hM; obtain ⟨x25, hx26, hM⟩ := letk_opn hM0; clear hM0
     have hcx25 := ih none (p21.2) (gt i_.L p21.1) (by (have h9 := hgt_L (i := i_) (gt_mem (l := i_.L) (i := p21.1) (by omega)); omega)) (by (have h9 := hgt_L (i := i_) (gt_mem (l := i_.L) (i := p21.1) (by omega)); omega))
     rw [← hx26] at hcx25
     refine callC_in [0] hcx25 (by decide) (by simp only [go_sem, rowV_eq, rowV_eq0, List.length_replicate, rep_len, Int.toNat_natCast, ↓reduceIte, Nat.reduceEqDiff, Nat.reduceAdd, Int.reduceAdd, Nat.reduceMul, Nat.reduceLeDiff, Nat.reduceLT, Int.reduceLE, Int.reduceLT, Int.reduceNeg, Int.reduceToNat, mt, mtL, mtL_self, mt_self, mtZ, and_self, eq_self, or_true, true_or, ha21, he24]) (by simp only [go_sem, rowV_eq, rowV_eq0, List.length_replicate, rep_len, Int.toNat_natCast, ↓reduceIte, Nat.reduceEqDiff, Nat.reduceAdd, Int.reduceAdd, Nat.reduceMul, Nat.reduceLeDiff, Nat.reduceLT, Int.reduceLE, Int.reduceLT, Int.reduceNeg, Int.reduceToNat, mt, mtL, mtL_self, mt_self, mtZ, and_self, eq_self, or_true, true_or, ha21, he24]) (fun hw27 => ?_)
     replace hw27 := nzQ hw27
     refine spQA (And.intro ha21 he24) ?_
     refine lp_intro (n21 - 1) _ (by omega) sbQ sbQ ⟨((p21.1 + 1), x25), rfl, ⟨by (first | exact omQ | (clear hM; first | (have h9 := hgt_eq i_; exact omQ'))), by (first | exact omQ | (clear hM; first | (have h9 := hgt_eq i_; exact omQ')))⟩, by (first | exact omQ | (clear hM; first | (have h9 := hgt_eq i_; exact omQ'))), iter_again hM hag21⟩
    ·rw [if_neg (ne_true h22)] at hM
     refine spQA (And.intro ha21 h22) ?_
     have nh22 := nzQ h22
     try have hr28 := mpQ nh22
     subst hM
     exact retCI_in [0] (by simp only [go_sem, rowV_eq, rowV_eq0, List.length_replicate, rep_len, Int.toNat_natCast, ↓reduceIte, Nat.reduceEqDiff, Nat.reduceAdd, Int.reduceAdd, Nat.reduceMul, Nat.reduceLeDiff, Nat.reduceLT, Int.reduceLE, Int.reduceLT, Int.reduceNeg, Int.reduceToNat, mt, mtL, mtL_self, mt_self, mtZ, and_self, eq_self, or_true, true_or, map_st, ha21, gt_cons0, gt_conss, Int.reduceSub, or_self, h1, h4, h11, h22]) (by decide) (by simp only [go_sem, rowV_eq, rowV_eq0, List.length_replicate, rep_len, Int.toNat_natCast, ↓reduceIte, Nat.reduceEqDiff, Nat.reduceAdd, Int.reduceAdd, Nat.reduceMul, Nat.reduceLeDiff, Nat.reduceLT, Int.reduceLE, Int.reduceLT, Int.reduceNeg, Int.reduceToNat, mt, mtL, mtL_self, mt_self, mtZ, and_self, eq_self, or_true, true_or, map_st, ha21, gt_cons0, gt_conss, Int.reduceSub, or_self, h1, h4, h11, h22])
theorem writeM_okN : ∀ (N : Nat) (z0 : Option Bool) (out : (List Int)) (i_ : S_api_Item), (hgt i_ ≤ 500000000) → hgt i_ < N → CallIn En 77 [.own 0, .agg [.int .i64 i_.Kind, .int .i64 i_.N, .sl none 1 false (i_.B.map (V.int .u8)), .sl none 4 true (i_.L.map e_api_Item)]] [.own 5 1 false z0 (out.map (V.int .u8))] (.own 0) [.own 5 1 false none ((writeM out i_).map (V.int .u8))] [] := by
 intro N
 induction N with
 | zero => intro z0 out i_ h0 h; exact absurd h (Nat.not_lt_zero _)
 | succ N ih =>
  intro z0 out i_ h0 h
  have h9 := encode_write_ok N ih z0 out i_ h0 h
  rw [encode_write_eqM] at h9
  exact h9
theorem writeM_ok (z0 : Option Bool) (out : (List Int)) (i_ : S_api_Item) (hp0 : hgt i_ ≤ 500000000) : CallIn En 77 [.own 0, .agg [.int .i64 i_.Kind, .int .i64 i_.N, .sl none 1 false (i_.B.map (V.int .u8)), .sl none 4 true (i_.L.map e_api_Item)]] [.own 5 1 false z0 (out.map (V.int .u8))] (.own 0) [.own 5 1 false none ((writeM out i_).map (V.int .u8))] [] :=
 writeM_okN (hgt i_ + 1) z0 out i_ hp0 (Nat.lt_succ_self _)
set_option maxHeartbeats 2000000 in
set_option maxRecDepth 100000 in
theorem encode_Encode_ok   (i_ : S_api_Item) (hp0 : hgt i_ ≤ 500000000) : CM En (encode_Encode i_) 42 [.agg [.int .i64 i_.Kind, .int .i64 i_.N, .sl none 1 false (i_.B.map (V.int .u8)), .sl none 4 true (i_.L.map e_api_Item)]] (fun y => .tup [.sl none 1 false (y.1.map (V.int .u8)), .int .i64 y.2]) (fun _ => []) := by
 refine cmQ fun r hM => ?_
 rw [encode_Encode.eq_1] at hM
 refine enterV En_ok En_mo noJ Tryz.func42 rfl Tryz.ntmps42 (by kernel_rfl) fun hw => ct_start ?_
 refine spQ ?_
 replace hw := nzQ hw
 have hM0 := hM; clear hM; obtain ⟨x1, hx2, hM⟩ := letk_opn hM0; clear hM0
 have hcx1 := cmU hx2
 refine callC_give hcx1 clQ clQ (fun hw3 => ?_)
 replace hw3 := nzQ hw3
 refine spQ ?_
 refine condC_intro (fun h4 => ?_) (fun h4 => ?_)
 ·rw [if_pos h4] at hM
  refine spQA h4 ?_
  have nh4 := nzQ h4
  try have hr5 := mpQ nh4
  subst hM
  exact retC_view (lfQA h4)
 ·rw [if_neg (ne_true h4)] at hM
  refine spQA h4 ?_
  have nh4 := nzQ h4
  try have hr6 := mpQ nh4
  have hM0 := hM; clear hM; obtain ⟨x7, hx8, hM⟩ := letk_opn hM0; clear hM0
  have hcx7 := callIn_nil (pre := []) (post := [_]) (writeM_ok (some true) ([] : List Int) i_ (by (exact pfQ))) (by decide)
  rw [← hx8] at hcx7
  simp only [List.nil_append, List.cons_append] at hcx7
  refine callC_giveG hcx7 clQ (fun hw9 => ?_)
  replace hw9 := nzQ hw9
  refine spQ ?_
  have hF := h4
  exact auQ
set_option maxRecDepth 100000 in
theorem bytes_Clone_ok (z0 : Option Bool) (s : List Int) : CallOk En 119 [.sl z0 1 false (s.map (V.int .u8))] (.own 0) [.own 5 1 false none ((bytes_Clone s).map (V.int .u8))] := by
 show CallOk En 119 [.sl z0 1 false (s.map (V.int .u8))] (.own 0) [.own 5 1 false none (s.map (V.int .u8))]
 refine callOk_nil (pre := []) (post := []) (fun hl => ?_) ?_ z0
 ·have hl : s = [] := by cases s with | nil => rfl | cons a s => cases hl
  subst hl
  refine enterV En_ok En_mo noJ Tryz.func119 rfl Tryz.ntmps119 (by kernel_rfl) fun hw => ct_start ?_
  simp only [go_sem, rowV_eq, rowV_eq0, List.length_replicate, rep_len, Int.toNat_natCast, ↓reduceIte, Nat.reduceEqDiff, Nat.reduceAdd, Int.reduceAdd, Nat.reduceMul, Nat.reduceLeDiff, Nat.reduceLT, Int.reduceLE, Int.reduceLT, Int.reduceNeg, Int.reduceToNat, List.nil_append]
  exact retC_nil (by decide)
 ·refine enterV En_ok En_mo noJ Tryz.func119 rfl Tryz.ntmps119 (by kernel_rfl) fun hw => ct_start ?_
  simp only [go_sem, rowV_eq, rowV_eq0, List.length_replicate, rep_len, Int.toNat_natCast, ↓reduceIte, Nat.reduceEqDiff, Nat.reduceAdd, Int.reduceAdd, Nat.reduceMul, Nat.reduceLeDiff, Nat.reduceLT, Int.reduceLE, Int.reduceLT, Int.reduceNeg, Int.reduceToNat, List.nil_append]
  have hn : s.length ≤ 1073741824 := by have h := hw; simp only [wfL, wfV, List.nil_append, LEN_eq, List.length_map] at h; exact h.1.1
  refine bindC_intro (by first | omega | (simp only [List.length_map, List.length_nil, List.nil_append]; omega)) ?_
  refine spQ ?_
  refine retC_ownZ 0 rfl clQ
set_option maxHeartbeats 2000000 in
set_option maxRecDepth 100000 in
instance digest_count_ok   (n_ : Int)  : CM En (digest_count n_) 155 [.int .u64 n_] (fun y => .sl none 1 false (y.map (V.int .u8))) (fun _ => []) := by
 refine cmQ fun r hM => ?_
 rw [digest_count.eq_1] at hM
 refine enterV En_ok En_mo noJ Tryz.func155 rfl Tryz.ntmps155 (by kernel_rfl) fun hw => ct_start ?_
 refine spQ ?_
 replace hw := nzQ hw
 have hM0 := hM; clear hM; obtain ⟨f1, d1, hf1, hd1, hM⟩ := iter_opn hM0; clear hM0
 refine ct_loop (fun n S => ∃ p : Int × List Int, S = (⟨[(0, .int .u64 n_), (3, .own 0), (7, .int .i64 (8 : Int)), (8, .int .i64 p.1)], [(0, .own 5 1 false none (p.2.map (V.int .u8)))], 1⟩ : St) ∧ ((0 ≤ p.1) ∧ (p.1 ≤ (8 : Int)) ∧ ((p.2).length = (([(0 : Int), (0 : Int), (0 : Int), (0 : Int), (0 : Int), (0 : Int), (0 : Int), (0 : Int)] : List Int)).length)) ∧ ((8 : Int) - p.1).toNat < n ∧ iter n f1 d1 p = r) (((8 : Int) - 0).toNat + 1) _ sbQ sbQ ⟨(0, ([(0 : Int), (0 : Int), (0 : Int), (0 : Int), (0 : Int), (0 : Int), (0 : Int), (0 : Int)] : List Int)), rfl, ⟨omQ, omQ, omQ⟩, (Nat.lt_succ_self _), hM⟩ ?_
 clear hM
 rintro n1 S ⟨p1, rfl, hfa1, hm1, hM⟩
 have hM0 := hM; clear hM; obtain ⟨ag1, hag1, hM⟩ := iter_step hM0 (by omega) hf1; clear hM0
 replace hfa1 := nzQ hfa1
 replace hm1 := nzQ hm1
 have ha1 : addI .i64 p1.1 1 = p1.1 + 1 := add_one omQ omQ
 refine spQA ha1 ?_
 refine condC_intro (fun h2 => ?_) (fun h2 => ?_)
 ·rw [if_pos h2] at hM
  refine spQA (And.intro ha1 h2) ?_
  have nh2 := nzQ h2
  try have hr3 := mpQ nh2
  obtain ⟨ha4, hbha4⟩ := mul_pos_ok (a := 8) (b := p1.1) 8 8 64 omQ omQ omQ omQ (by decide) (by decide)
  try simp only [ha4]
  have ha5 : subI .i64 56 (8 * p1.1) = (56 - (8 * p1.1)) := sub_ok omQ omQ
  try simp only [ha5]
  have hF := (And.intro ha1 (And.intro h2 ha5))
  exact auQ
 ·rw [if_neg (ne_true h2)] at hM
  refine spQA (And.intro ha1 h2) ?_
  have nh2 := nzQ h2
  try have hr7 := mpQ nh2
  subst hM
  exact retC_view (lfQA (And.intro ha1 h2))
set_option maxHeartbeats 2000000 in
set_option maxRecDepth 100000 in
instance math_bits_RotateLeft32_ok   (x_ : Int) (k_ : Int)  : CM En (math_bits_RotateLeft32 x_ k_) 207 [.int .u32 x_, .int .i64 k_] (fun y => .int .u32 y) (fun _ => []) := by
 refine cmQ fun r hM => ?_
 rw [math_bits_RotateLeft32.eq_1] at hM
 refine enterV En_ok En_mo noJ Tryz.func207 rfl Tryz.ntmps207 (by kernel_rfl) fun hw => ct_start ?_
 refine spQ ?_
 replace hw := nzQ hw
 refine bindC_intro (by (exact (rng_andI .u64 _ _).1)) ?_
 refine spQ ?_
 refine bindC_intro (by (exact (rng_subI .u64 _ _).1)) ?_
 refine spQ ?_
 subst hM
 exact retC_view lfQ
set_option maxHeartbeats 2000000 in
set_option maxRecDepth 100000 in
instance digest_right_ok   (x_ : Int) (n_ : Int)  : CM En (digest_right x_ n_) 187 [.int .u32 x_, .int .i64 n_] (fun y => .int .u32 y) (fun _ => []) := by
 refine cmQ fun r hM => ?_
 rw [digest_right.eq_1] at hM
 refine enterV En_ok En_mo noJ Tryz.func187 rfl Tryz.ntmps187 (by kernel_rfl) fun hw => ct_start ?_
 refine spQ ?_
 replace hw := nzQ hw
 have hF := trueQ
 exact auQ
set_option maxHeartbeats 2000000 in
set_option maxRecDepth 100000 in
theorem digest_schedule_ok   (block : (List Int)) (hp0 : block.length = 64) : CM En (digest_schedule block) 186 [.sl none 1 false (block.map (V.int .u8))] (fun y => (e_arr214 y)) (fun _ => []) := by
 refine cmQ fun r hM => ?_
 rw [digest_schedule.eq_1] at hM
 refine enterV En_ok En_mo noJ Tryz.func186 rfl Tryz.ntmps186 (by kernel_rfl) fun hw => ct_start ?_
 refine spQ ?_
 replace hw := nzQ hw
 have hM0 := hM; clear hM; obtain ⟨f1, d1, hf1, hd1, hM⟩ := iter_opn hM0; clear hM0
 refine ct_loop (fun n S => ∃ p : Int × (List Int), S = (⟨[(0, .sl none 1 false (block.map (V.int .u8))), (2, .ptr 0 0), (3, .ptr 1 0), (12, .int .i64 p.1)], [(0, .var 64 true (zv_214)), (1, .var 64 true ((e_arr214 p.2)))], 2⟩ : St) ∧ ((0 ≤ p.1) ∧ (p.1 ≤ 16)) ∧ ((16 : Int) - p.1).toNat < n ∧ iter n f1 d1 p = r) (((16 : Int) - 0).toNat + 1) _ sbQ (by simp only [go_sem, rowV_eq, rowV_eq0, List.length_replicate, rep_len, Int.toNat_natCast, ↓reduceIte, Nat.reduceEqDiff, Nat.reduceAdd, Int.reduceAdd, Nat.reduceMul, Nat.reduceLeDiff, Nat.reduceLT, Int.reduceLE, Int.reduceLT, Int.reduceNeg, Int.reduceToNat, List.isEmpty_nil, map_st, mtL_repE, mtL_repM, subF, subH, mtO, mtB, mt, mtL, mtL_self, mt_self, ltV, ltL, ltB, eq_self, or_true, true_or, or_self, and_self, gt_cons0, gt_conss, Int.reduceSub]) ⟨(0, [0, 0, 0, 0, 0, 0, 0, 0, 0, 0, 0, 0, 0, 0, 0, 0, 0, 0, 0, 0, 0, 0, 0, 0, 0, 0, 0, 0, 0, 0, 0, 0, 0, 0, 0, 0, 0, 0, 0, 0, 0, 0, 0, 0, 0, 0, 0, 0, 0, 0, 0, 0, 0, 0, 0, 0, 0, 0, 0, 0, 0, 0, 0, 0]), rfl, ⟨omQ, omQ⟩, (Nat.lt_succ_self _), hM⟩ ?_
 clear hM
 rintro n1 S ⟨p1, rfl, hfa1, hm1, hM⟩
 have hM0 := hM; clear hM; obtain ⟨ag1, hag1, hM⟩ := iter_step hM0 (by omega) hf1; clear hM0
 replace hfa1 := nzQ hfa1
 replace hm1 := nzQ hm1
 have ha1 : addI .i64 p1.1 1 = p1.1 + 1 := add_one omQ omQ
 refine spQA ha1 ?_
 refine condC_intro (fun h2 => ?_) (fun h2 => ?_)
 ·rw [if_pos h2] at hM
  refine spQA (And.intro ha1 h2) ?_
  have nh2 := nzQ h2
  try have hr3 := mpQ nh2
  obtain ⟨ha4, hbha4⟩ := mul_pos_ok (a := 4) (b := p1.1) 4 16 64 omQ omQ omQ omQ (by decide) (by decide)
  try simp only [ha4]
  have ha6 : addI .i64 (4 * p1.1) 4 = ((4 * p1.1) + 4) := add_ok omQ omQ
  try simp only [ha6]
  refine bindC_intro omQ ?_
  refine spQA (And.intro ha1 (And.intro ha4 ha6)) ?_
  have hM0 := hM; clear hM; obtain ⟨f7, d7, hf7, hd7, hM⟩ := iter_opn hM0; clear hM0
  refine ct_loop (fun n S => ∃ p : Int × (List Int), S = (⟨[(0, .sl none 1 false (block.map (V.int .u8))), (2, .ptr 0 0), (3, .ptr 1 0), (4, .int .i64 p1.1), (12, .int .i64 p1.1), (21, .sl none 1 false ((sl block (4 * p1.1) ((4 * p1.1) + 4)).map (V.int .u8))), (22, .int .i64 ((sl block (4 * p1.1) ((4 * p1.1) + 4)).length : Int)), (23, .int .i64 p.1)], [(0, .var 64 true (zv_214)), (1, .var 64 true ((e_arr214 p.2)))], 2⟩ : St) ∧ ((0 ≤ p.1) ∧ (p.1 ≤ ((sl block (4 * p1.1) ((4 * p1.1) + 4)).length : Int))) ∧ (((sl block (4 * p1.1) ((4 * p1.1) + 4)).length : Int) - p.1).toNat < n ∧ iter n f7 d7 p = r) ((((sl block (4 * p1.1) ((4 * p1.1) + 4)).length : Int) - 0).toNat + 1) _ sbQ sbQ ⟨(0, p1.2), rfl, ⟨omQ, omQ⟩, (Nat.lt_succ_self _), hM⟩ ?_
  clear hM
  rintro n7 S ⟨p7, rfl, hfa7, hm7, hM⟩
  have hM0 := hM; clear hM; obtain ⟨ag7, hag7, hM⟩ := iter_step hM0 (by omega) hf7; clear hM0
  replace hfa7 := nzQ hfa7
  replace hm7 := nzQ hm7
  have ha7 : addI .i64 p7.1 1 = p7.1 + 1 := add_one omQ omQ
  refine spQA (And.intro ha1 (And.intro ha4 (And.intro ha6 ha7))) ?_
  refine condC_intro (fun h8 => ?_) (fun h8 => ?_)
  ·rw [if_pos h8] at hM
   refine spQA (And.intro ha1 (And.intro ha4 (And.intro ha6 (And.intro ha7 h8)))) ?_
   have nh8 := nzQ h8
   try have hr9 := mpQ nh8
   refine bindC_intro omQ ?_
   have he10 := fun d => elt_mp (l := (sl block (4 * p1.1) ((4 * p1.1) + 4))) (f := (V.int .u8)) (i := p7.1) omQ d
   refine spQA (And.intro ha1 (And.intro ha4 (And.intro ha6 (And.intro ha7 he10)))) ?_
   refine bindC_intro omQ ?_
   have he11 : ((p1.1).toNat * 1 + 1 ≤ 64) = True := eq_true omQ
   refine spQA (And.intro ha1 (And.intro ha4 (And.intro ha6 (And.intro ha7 (And.intro he10 he11))))) ?_
   have he12 := arr_get (f := (V.int .u32)) (l := p7.2) (n := 64) (i := p1.1) omQ
   replace he12 := spR he12
   try refine spQA (And.intro ha1 (And.intro ha4 (And.intro ha6 (And.intro ha7 (And.intro he10 (And.intro he11 he12)))))) ?_
   refine bindC_intro omQ ?_
   have he13 : ((p1.1).toNat * 1 + 1 ≤ 64) = True := eq_true omQ
   refine spQA (And.intro ha1 (And.intro ha4 (And.intro ha6 (And.intro ha7 (And.intro he10 (And.intro he11 (And.intro he12 he13))))))) ?_
   have he14 := arr_put (f := (V.int .u32)) (l := (arrN 64 p7.2)) (n := 64) (i := p1.1) (v := (orI .u32 (shlI .u32 (gt p7.2 p1.1) 8) (convI .u32 (gt (sl block (4 * p1.1) ((4 * p1.1) + 4)) p7.1)))) arrN_len omQ
   replace he14 := spR he14
   refine spQA (And.intro ha1 (And.intro ha4 (And.intro ha6 (And.intro ha7 (And.intro he10 (And.intro he11 (And.intro he12 (And.intro he13 he14)))))))) ?_
   refine lp_intro (n7 - 1) _ (by omega) sbQ (by simp only [go_sem, rowV_eq, rowV_eq0, List.length_replicate, rep_len, Int.toNat_natCast, ↓reduceIte, Nat.reduceEqDiff, Nat.reduceAdd, Int.reduceAdd, Nat.reduceMul, Nat.reduceLeDiff, Nat.reduceLT, Int.reduceLE, Int.reduceLT, Int.reduceNeg, Int.reduceToNat, List.isEmpty_nil, map_st, mtL_repE, mtL_repM, subF, subH, mtO, mtB, mt, mtL, mtL_self, mt_self, ltV, ltL, ltB, eq_self, or_true, true_or, or_self, and_self, gt_cons0, gt_conss, Int.reduceSub]) ⟨((p7.1 + 1), (arrN 64 (st (arrN 64 p7.2) p1.1 (orI .u32 (shlI .u32 (gt p7.2 p1.1) 8) (convI .u32 (gt (sl block (4 * p1.1) ((4 * p1.1) + 4)) p7.1)))))), rfl, ⟨omQ, omQ⟩, omQ, iter_again hM hag7⟩
  ·rw [if_neg (ne_true h8)] at hM
   refine spQA (And.intro ha1 (And.intro ha4 (And.intro ha6 (And.intro ha7 h8)))) ?_
   have nh8 := nzQ h8
   try have hr15 := mpQ nh8
   refine lp_intro (n1 - 1) _ (by omega) sbQ sbQ ⟨((p1.1 + 1), p7.2), rfl, ⟨omQ, omQ⟩, omQ, iter_again hM hag1⟩
 ·rw [if_neg (ne_true h2)] at hM
  refine spQA (And.intro ha1 h2) ?_
  have nh2 := nzQ h2
  try have hr16 := mpQ nh2
  have hM0 := hM; clear hM; obtain ⟨f17, d17, hf17, hd17, hM⟩ := iter_opn hM0; clear hM0
  refine ct_loop (fun n S => ∃ p : Int × (List Int), S = (⟨[(2, .ptr 0 0), (3, .ptr 1 0), (7, .int .i64 p.1)], [(0, .var 64 true (zv_214)), (1, .var 64 true ((e_arr214 p.2)))], 2⟩ : St) ∧ ((16 ≤ p.1) ∧ (p.1 ≤ 64 ∨ p.1 ≤ 16)) ∧ ((64 : Int) - p.1).toNat < n ∧ iter n f17 d17 p = r) (((64 : Int) - 16).toNat + 1) _ sbQ sbQ ⟨(16, p1.2), rfl, ⟨omQ, omQ⟩, (Nat.lt_succ_self _), hM⟩ ?_
  clear hM
  rintro n17 S ⟨p17, rfl, hfa17, hm17, hM⟩
  have hM0 := hM; clear hM; obtain ⟨ag17, hag17, hM⟩ := iter_step hM0 (by omega) hf17; clear hM0
  replace hfa17 := nzQ hfa17
  replace hm17 := nzQ hm17
  have ha17 : addI .i64 p17.1 1 = p17.1 + 1 := add_one omQ omQ
  refine spQA (And.intro ha1 ha17) ?_
  refine condC_intro (fun h18 => ?_) (fun h18 => ?_)
  ·rw [if_pos h18] at hM
   refine spQA (And.intro ha1 (And.intro ha17 h18)) ?_
   have nh18 := nzQ h18
   try have hr19 := mpQ nh18
   refine ct_draw 82 9 [8, 42, 43, 44, 45, 46, 47, 48, 49] [] ([[], [0], [0, 1], [0, 1, 2], [], [4], [4, 5], [4, 5, 6], [0, 1, 2, 3]] ++ [List.range 9]) [] (by kernel_rfl) (by exact alQ) ?_
   refine spQA (And.intro ha1 ha17) ?_
   have ha20 : subI .i64 p17.1 15 = (p17.1 - 15) := sub_ok omQ omQ
   try simp only [ha20]
   refine hbindC_intro omQ ?_
   have he21 : (((p17.1 - 15)).toNat * 1 + 1 ≤ 64) = True := eq_true omQ
   refine spQA (And.intro ha1 (And.intro ha17 (And.intro ha20 he21))) ?_
   have he22 := arr_get (f := (V.int .u32)) (l := p17.2) (n := 64) (i := (p17.1 - 15)) omQ
   replace he22 := spR he22
   try refine spQA (And.intro ha1 (And.intro ha17 (And.intro ha20 (And.intro he21 he22)))) ?_
   have ha23 : subI .i64 p17.1 2 = (p17.1 - 2) := sub_ok omQ omQ
   try simp only [ha23]
   refine hbindC_intro omQ ?_
   have he24 : (((p17.1 - 2)).toNat * 1 + 1 ≤ 64) = True := eq_true omQ
   refine spQA (And.intro ha1 (And.intro ha17 (And.intro ha20 (And.intro he21 (And.intro he22 (And.intro ha23 he24)))))) ?_
   have he25 := arr_get (f := (V.int .u32)) (l := p17.2) (n := 64) (i := (p17.1 - 2)) omQ
   replace he25 := spR he25
   try refine spQA (And.intro ha1 (And.intro ha17 (And.intro ha20 (And.intro he21 (And.intro he22 (And.intro ha23 (And.intro he24 he25))))))) ?_
   have hM0 := hM; clear hM; obtain ⟨x26, hx27, hM⟩ := letk_opn hM0; clear hM0
   have hcx26 := cmU hx27
   refine callC_give hcx26 (clQA (And.intro ha1 (And.intro ha17 (And.intro ha20 (And.intro he21 (And.intro he22 (And.intro ha23 (And.intro he24 he25)))))))) (clQA (And.intro ha1 (And.intro ha17 (And.intro ha20 (And.intro he21 (And.intro he22 (And.intro ha23 (And.intro he24 he25)))))))) (fun hw28 => ?_)
   replace hw28 := nzQ hw28
   refine spQA (And.intro ha1 (And.intro ha17 (And.intro ha20 (And.intro he21 (And.intro he22 (And.intro ha23 (And.intro he24 he25))))))) ?_
   have hM0 := hM; clear hM; obtain ⟨x29, hx30, hM⟩ := letk_opn hM0; clear hM0
   have hcx29 := cmU hx30
   refine callC_give hcx29 (clQA (And.intro ha1 (And.intro ha17 (And.intro ha20 (And.intro he21 (And.intro he22 (And.intro ha23 (And.intro he24 he25)))))))) (clQA (And.intro ha1 (And.intro ha17 (And.intro ha20 (And.intro he21 (And.intro he22 (And.intro ha23 (And.intro he24 he25)))))))) (fun hw31 => ?_)
   replace hw31 := nzQ hw31
   refine spQA (And.intro ha1 (And.intro ha17 (And.intro ha20 (And.intro he21 (And.intro he22 (And.intro ha23 (And.intro he24 he25))))))) ?_
   have hM0 := hM; clear hM; obtain ⟨x32, hx33, hM⟩ := letk_opn hM0; clear hM0
   have hcx32 := cmU hx33
   refine callC_give hcx32 (clQA (And.intro ha1 (And.intro ha17 (And.intro ha20 (And.intro he21 (And.intro he22 (And.intro ha23 (And.intro he24 he25)))))))) (clQA (And.intro ha1 (And.intro ha17 (And.intro ha20 (And.intro he21 (And.intro he22 (And.intro ha23 (And.intro he24 he25)))))))) (fun hw34 => ?_)
   replace hw34 := nzQ hw34
   refine spQA (And.intro ha1 (And.intro ha17 (And.intro ha20 (And.intro he21 (And.intro he22 (And.intro ha23 (And.intro he24 he25))))))) ?_
   have hM0 := hM; clear hM; obtain ⟨x35, hx36, hM⟩ := letk_opn hM0; clear hM0
   have hcx35 := cmU hx36
   refine callC_give hcx35 (clQA (And.intro ha1 (And.intro ha17 (And.intro ha20 (And.intro he21 (And.intro he22 (And.intro ha23 (And.intro he24 he25)))))))) (clQA (And.intro ha1 (And.intro ha17 (And.intro ha20 (And.intro he21 (And.intro he22 (And.intro ha23 (And.intro he24 he25)))))))) (fun hw37 => ?_)
   replace hw37 := nzQ hw37
   refine spQA (And.intro ha1 (And.intro ha17 (And.intro ha20 (And.intro he21 (And.intro he22 (And.intro ha23 (And.intro he24 he25))))))) ?_
   refine ct_draw 82 14 [66, 67, 68, 69, 70, 71, 72, 73, 74, 75, 76, 77, 78, 79] [] ([[], [], [1], [1, 2], [1, 2, 3], [], [1, 2, 3, 4, 5], [], [7], [7, 8], [7, 8, 9], [1, 2, 3, 4, 5, 6, 7, 8, 9, 10], [], [1, 2, 3, 4, 5, 6, 7, 8, 9, 10, 11, 12]] ++ [List.range 14, List.range 15]) [] (by kernel_rfl) (by exact alQ) ?_
   refine spQA (And.intro ha1 (And.intro ha17 (And.intro ha20 (And.intro he21 (And.intro he22 (And.intro ha23 (And.intro he24 he25))))))) ?_
   have ha38 : subI .i64 p17.1 16 = (p17.1 - 16) := sub_ok omQ omQ
   try simp only [ha38]
   refine hbindC_intro omQ ?_
   have he39 : (((p17.1 - 16)).toNat * 1 + 1 ≤ 64) = True := eq_true omQ
   refine spQA (And.intro ha1 (And.intro ha17 (And.intro ha20 (And.intro he21 (And.intro he22 (And.intro ha23 (And.intro he24 (And.intro he25 (And.intro ha38 he39))))))))) ?_
   have he40 := arr_get (f := (V.int .u32)) (l := p17.2) (n := 64) (i := (p17.1 - 16)) omQ
   replace he40 := spR he40
   try refine spQA (And.intro ha1 (And.intro ha17 (And.intro ha20 (And.intro he21 (And.intro he22 (And.intro ha23 (And.intro he24 (And.intro he25 (And.intro ha38 (And.intro he39 he40)))))))))) ?_
   have ha41 : subI .i64 p17.1 7 = (p17.1 - 7) := sub_ok omQ omQ
   try simp only [ha41]
   refine hbindC_intro omQ ?_
   have he42 : (((p17.1 - 7)).toNat * 1 + 1 ≤ 64) = True := eq_true omQ
   refine spQA (And.intro ha1 (And.intro ha17 (And.intro ha20 (And.intro he21 (And.intro he22 (And.intro ha23 (And.intro he24 (And.intro he25 (And.intro ha38 (And.intro he39 (And.intro he40 (And.intro ha41 he42)))))))))))) ?_
   have he43 := arr_get (f := (V.int .u32)) (l := p17.2) (n := 64) (i := (p17.1 - 7)) omQ
   replace he43 := spR he43
   try refine spQA (And.intro ha1 (And.intro ha17 (And.intro ha20 (And.intro he21 (And.intro he22 (And.intro ha23 (And.intro he24 (And.intro he25 (And.intro ha38 (And.intro he39 (And.intro he40 (And.intro ha41 (And.intro he42 he43))))))))))))) ?_
   refine bindC_intro omQ ?_
   have he44 : ((p17.1).toNat * 1 + 1 ≤ 64) = True := eq_true omQ
   refine spQA (And.intro ha1 (And.intro ha17 (And.intro ha20 (And.intro he21 (And.intro he22 (And.intro ha23 (And.intro he24 (And.intro he25 (And.intro ha38 (And.intro he39 (And.intro he40 (And.intro ha41 (And.intro he42 (And.intro he43 he44)))))))))))))) ?_
   have he45 := arr_put (f := (V.int .u32)) (l := (arrN 64 p17.2)) (n := 64) (i := p17.1) (v := (addI .u32 (addI .u32 (addI .u32 (gt p17.2 (p17.1 - 16)) (xorI .u32 (xorI .u32 x26 x29) (shrI .u32 (gt p17.2 (p17.1 - 15)) 3))) (gt p17.2 (p17.1 - 7))) (xorI .u32 (xorI .u32 x32 x35) (shrI .u32 (gt p17.2 (p17.1 - 2)) 10)))) arrN_len omQ
   replace he45 := spR he45
   refine spQA (And.intro ha1 (And.intro ha17 (And.intro ha20 (And.intro he21 (And.intro he22 (And.intro ha23 (And.intro he24 (And.intro he25 (And.intro ha38 (And.intro he39 (And.intro he40 (And.intro ha41 (And.intro he42 (And.intro he43 (And.intro he44 he45))))))))))))))) ?_
   refine lp_intro (n17 - 1) _ (by omega) sbQ (by simp only [go_sem, rowV_eq, rowV_eq0, List.length_replicate, rep_len, Int.toNat_natCast, ↓reduceIte, Nat.reduceEqDiff, Nat.reduceAdd, Int.reduceAdd, Nat.reduceMul, Nat.reduceLeDiff, Nat.reduceLT, Int.reduceLE, Int.reduceLT, Int.reduceNeg, Int.reduceToNat, List.isEmpty_nil, map_st, mtL_repE, mtL_repM, subF, subH, mtO, mtB, mt, mtL, mtL_self, mt_self, ltV, ltL, ltB, eq_self, or_true, true_or, or_self, and_self, gt_cons0, gt_conss, Int.reduceSub]) ⟨((p17.1 + 1), (arrN 64 (st (arrN 64 p17.2) p17.1 (addI .u32 (addI .u32 (addI .u32 (gt p17.2 (p17.1 - 16)) (xorI .u32 (xorI .u32 x26 x29) (shrI .u32 (gt p17.2 (p17.1 - 15)) 3))) (gt p17.2 (p17.1 - 7))) (xorI .u32 (xorI .u32 x32 x35) (shrI .u32 (gt p17.2 (p17.1 - 2)) 10)))))), rfl, ⟨omQ, omQ⟩, omQ, iter_again hM hag17⟩
  ·rw [if_neg (ne_true h18)] at hM
   refine spQA (And.intro ha1 (And.intro ha17 h18)) ?_
   have nh18 := nzQ h18
   try have hr46 := mpQ nh18
   subst hM
   exact retC_view (lfQA (And.intro ha1 (And.intro ha17 (And.intro h2 h18))))
end Go.Proofs.YteolfhljhnplpaaGreatDoor
namespace Go.Proofs.YteolfhljhnplpaaGreatDoor
open Go.RowKit
set_option linter.unusedSimpArgs false
set_option maxHeartbeats 2000000 in
set_option maxRecDepth 100000 in
theorem digest_mix_ok   (state : (List Int)) (block : (List Int)) (hp0 : block.length = 64) : CM En (digest_mix state block) 156 [(e_arr185 state), .sl none 1 false (block.map (V.int .u8))] (fun y => (e_arr185 y)) (fun _ => []) := by
 refine cmQ fun r hM => ?_
 rw [digest_mix.eq_1] at hM
 refine enterV En_ok En_mo noJ Tryz.func156 rfl Tryz.ntmps156 (by kernel_rfl) fun hw => ct_start ?_
 refine spQ ?_
 replace hw := nzQ hw
 have hM0 := hM; clear hM; obtain ⟨x1, hx2, hM⟩ := letk_opn hM0; clear hM0
 have hcx1 := cmH hx2 (digest_schedule_ok  block (by (exact pfQ)))
 refine callC_give hcx1 clQ clQ (fun hw3 => ?_)
 replace hw3 := nzQ hw3
 refine spQ ?_
 refine ct_draw 121 23 [6, 7, 8, 9, 10, 11, 12, 21, 22, 23, 24, 25, 26, 27, 28, 29, 30, 31, 32, 33, 34, 35, 36] [] ([[], [0], [], [2], [], [4], [], [6], [], [8], [], [10], [], [12], [], [14], [0, 1], [2, 3], [4, 5], [6, 7], [8, 9], [10, 11], [12, 13]] ++ [List.range 23]) [] (by kernel_rfl) (by exact alQ) ?_
 refine spQ ?_
 have hM0 := hM; clear hM; obtain ⟨f4, d4, hf4, hd4, hM⟩ := iter_opn hM0; clear hM0
 refine ct_loop (fun n S => ∃ p : Int × Int × Int × Int × Int × Int × Int × Int × Int, S = (⟨[(2, .ptr 0 0), (4, .ptr 1 0), (5, .ptr 2 0), (6, .int .u32 p.1), (7, .int .u32 p.2.1), (8, .int .u32 p.2.2.1), (9, .int .u32 p.2.2.2.1), (10, .int .u32 p.2.2.2.2.1), (11, .int .u32 p.2.2.2.2.2.1), (12, .int .u32 p.2.2.2.2.2.2.1), (13, .int .u32 p.2.2.2.2.2.2.2.1), (37, .int .i64 p.2.2.2.2.2.2.2.2)], [(0, .var 8 true ((e_arr185 state))), (1, .var 8 true (zv_185)), (2, .var 64 true ((e_arr214 x1)))], 26⟩ : St) ∧ ((0 ≤ p.2.2.2.2.2.2.2.2) ∧ (p.2.2.2.2.2.2.2.2 ≤ 64)) ∧ ((64 : Int) - p.2.2.2.2.2.2.2.2).toNat < n ∧ iter n f4 d4 p = r) (((64 : Int) - 0).toNat + 1) _ sbQ sbQ ⟨((gt state 0), (gt state 1), (gt state 2), (gt state 3), (gt state 4), (gt state 5), (gt state 6), (gt state 7), 0), rfl, ⟨omQ, omQ⟩, (Nat.lt_succ_self _), hM⟩ ?_
 clear hM
 rintro n4 S ⟨p4, rfl, hfa4, hm4, hM⟩
 have hM0 := hM; clear hM; obtain ⟨ag4, hag4, hM⟩ := iter_step hM0 (by omega) hf4; clear hM0
 replace hfa4 := nzQ hfa4
 replace hm4 := nzQ hm4
 have ha4 : addI .i64 p4.2.2.2.2.2.2.2.2 1 = p4.2.2.2.2.2.2.2.2 + 1 := add_one omQ omQ
 refine spQA ha4 ?_
 refine condC_intro (fun h5 => ?_) (fun h5 => ?_)
 ·rw [if_pos h5] at hM
  refine spQA (And.intro ha4 h5) ?_
  have nh5 := nzQ h5
  try have hr6 := mpQ nh5
  refine ct_draw 121 26 [40, 41, 42, 43, 44, 45, 46, 47, 48, 49, 50, 51, 52, 53, 54, 55, 56, 57, 58, 59, 60, 61, 62, 63, 64, 65] [] ([[], [], [1], [], [3], [1, 2, 3, 4], [], [6], [1, 2, 3, 4, 5, 6, 7], [0, 1, 2, 3, 4, 5, 6, 7, 8], [], [], [10, 11], [], [13], [], [13, 14, 15], [10, 11, 12, 13, 14, 15, 16], [0, 1, 2, 3, 4, 5, 6, 7, 8, 9, 10, 11, 12, 13, 14, 15, 16, 17], [], [19], [19, 20], [0, 1, 2, 3, 4, 5, 6, 7, 8, 9, 10, 11, 12, 13, 14, 15, 16, 17, 18, 19, 20, 21], [], [23], [23, 24]] ++ [List.range 26, List.range 27]) [] (by kernel_rfl) (by exact alQ) ?_
  refine spQA ha4 ?_
  have hM0 := hM; clear hM; obtain ⟨x7, hx8, hM⟩ := letk_opn hM0; clear hM0
  have hcx7 := cmU hx8
  refine hcallC_give hcx7 (clQA ha4) (clQA ha4) ?_
  refine spQA ha4 ?_
  have hM0 := hM; clear hM; obtain ⟨x9, hx10, hM⟩ := letk_opn hM0; clear hM0
  have hcx9 := cmU hx10
  refine hcallC_give hcx9 (clQA ha4) (clQA ha4) ?_
  refine spQA ha4 ?_
  have hM0 := hM; clear hM; obtain ⟨x11, hx12, hM⟩ := letk_opn hM0; clear hM0
  have hcx11 := cmU hx12
  refine hcallC_give hcx11 (clQA ha4) (clQA ha4) ?_
  refine spQA ha4 ?_
  refine hbindC_intro omQ ?_
  refine spQA ha4 ?_
  have he13 := pp_get (f := V.int .u32) (l := kg_5) (n := 64) (i := p4.2.2.2.2.2.2.2.2) rfl omQ
  replace he13 := spR he13
  refine spQA (And.intro ha4 he13) ?_
  refine hbindC_intro omQ ?_
  have he14 : ((p4.2.2.2.2.2.2.2.2).toNat * 1 + 1 ≤ 64) = True := eq_true omQ
  refine spQA (And.intro ha4 (And.intro he13 he14)) ?_
  have he15 := arr_get (f := (V.int .u32)) (l := x1) (n := 64) (i := p4.2.2.2.2.2.2.2.2) omQ
  replace he15 := spR he15
  try refine spQA (And.intro ha4 (And.intro he13 (And.intro he14 he15))) ?_
  have hF := (And.intro ha4 (And.intro h5 (And.intro he13 (And.intro he14 he15))))
  exact auQ
 ·rw [if_neg (ne_true h5)] at hM
  refine spQA (And.intro ha4 h5) ?_
  have nh5 := nzQ h5
  try have hr25 := mpQ nh5
  have hM0 := hM; clear hM; obtain ⟨f26, d26, hf26, hd26, hM⟩ := iter_opn hM0; clear hM0
  refine ct_loop (fun n S => ∃ p : Int × (List Int), S = (⟨[(2, .ptr 0 0), (4, .ptr 1 0), (108, .agg [.int .u32 p4.1, .int .u32 p4.2.1, .int .u32 p4.2.2.1, .int .u32 p4.2.2.2.1, .int .u32 p4.2.2.2.2.1, .int .u32 p4.2.2.2.2.2.1, .int .u32 p4.2.2.2.2.2.2.1, .int .u32 p4.2.2.2.2.2.2.2.1]), (109, .int .i64 p.1)], [(0, .var 8 true ((e_arr185 p.2))), (1, .var 8 true (zv_185))], 26⟩ : St) ∧ ((0 ≤ p.1) ∧ (p.1 ≤ 8)) ∧ ((8 : Int) - p.1).toNat < n ∧ iter n f26 d26 p = r) (((8 : Int) - 0).toNat + 1) _ sbQ sbQ ⟨(0, state), rfl, ⟨omQ, omQ⟩, (Nat.lt_succ_self _), hM⟩ ?_
  clear hM
  rintro n26 S ⟨p26, rfl, hfa26, hm26, hM⟩
  have hM0 := hM; clear hM; obtain ⟨ag26, hag26, hM⟩ := iter_step hM0 (by omega) hf26; clear hM0
  replace hfa26 := nzQ hfa26
  replace hm26 := nzQ hm26
  have ha26 : addI .i64 p26.1 1 = p26.1 + 1 := add_one omQ omQ
  refine spQA (And.intro ha4 ha26) ?_
  refine condC_intro (fun h27 => ?_) (fun h27 => ?_)
  ·rw [if_pos h27] at hM
   refine spQA (And.intro ha4 (And.intro ha26 h27)) ?_
   have nh27 := nzQ h27
   try have hr28 := mpQ nh27
   have he29 := pp_get (f := (V.int .u32)) (l := ([p4.1, p4.2.1, p4.2.2.1, p4.2.2.2.1, p4.2.2.2.2.1, p4.2.2.2.2.2.1, p4.2.2.2.2.2.2.1, p4.2.2.2.2.2.2.2.1] : List Int)) (n := 8) (i := p26.1) rfl omQ
   replace he29 := spR he29
   refine spQA (And.intro ha4 (And.intro ha26 he29)) ?_
   refine bindC_intro omQ ?_
   refine spQA (And.intro ha4 (And.intro ha26 he29)) ?_
   refine bindC_intro omQ ?_
   have he30 : ((p26.1).toNat * 1 + 1 ≤ 8) = True := eq_true omQ
   refine spQA (And.intro ha4 (And.intro ha26 (And.intro he29 he30))) ?_
   have he31 := arr_get (f := (V.int .u32)) (l := p26.2) (n := 8) (i := p26.1) omQ
   replace he31 := spR he31
   try refine spQA (And.intro ha4 (And.intro ha26 (And.intro he29 (And.intro he30 he31)))) ?_
   refine bindC_intro omQ ?_
   have he32 : ((p26.1).toNat * 1 + 1 ≤ 8) = True := eq_true omQ
   refine spQA (And.intro ha4 (And.intro ha26 (And.intro he29 (And.intro he30 (And.intro he31 he32))))) ?_
   have he33 := arr_put (f := (V.int .u32)) (l := (arrN 8 p26.2)) (n := 8) (i := p26.1) (v := (addI .u32 (gt p26.2 p26.1) (gt ([p4.1, p4.2.1, p4.2.2.1, p4.2.2.2.1, p4.2.2.2.2.1, p4.2.2.2.2.2.1, p4.2.2.2.2.2.2.1, p4.2.2.2.2.2.2.2.1] : List Int) p26.1))) arrN_len omQ
   replace he33 := spR he33
   refine spQA (And.intro ha4 (And.intro ha26 (And.intro he29 (And.intro he30 (And.intro he31 (And.intro he32 he33)))))) ?_
   refine lp_intro (n26 - 1) _ (by omega) sbQ (by simp only [go_sem, rowV_eq, rowV_eq0, List.length_replicate, rep_len, Int.toNat_natCast, ↓reduceIte, Nat.reduceEqDiff, Nat.reduceAdd, Int.reduceAdd, Nat.reduceMul, Nat.reduceLeDiff, Nat.reduceLT, Int.reduceLE, Int.reduceLT, Int.reduceNeg, Int.reduceToNat, List.isEmpty_nil, map_st, mtL_repE, mtL_repM, subF, subH, mtO, mtB, mt, mtL, mtL_self, mt_self, ltV, ltL, ltB, eq_self, or_true, true_or, or_self, and_self, gt_cons0, gt_conss, Int.reduceSub]) ⟨((p26.1 + 1), (arrN 8 (st (arrN 8 p26.2) p26.1 (addI .u32 (gt p26.2 p26.1) (gt ([p4.1, p4.2.1, p4.2.2.1, p4.2.2.2.1, p4.2.2.2.2.1, p4.2.2.2.2.2.1, p4.2.2.2.2.2.2.1, p4.2.2.2.2.2.2.2.1] : List Int) p26.1))))), rfl, ⟨omQ, omQ⟩, omQ, iter_again hM hag26⟩
  ·rw [if_neg (ne_true h27)] at hM
   refine spQA (And.intro ha4 (And.intro ha26 h27)) ?_
   have nh27 := nzQ h27
   try have hr34 := mpQ nh27
   subst hM
   exact retC_view (lfQA (And.intro ha4 (And.intro ha26 (And.intro h5 h27))))
set_option maxHeartbeats 2000000 in
set_option maxRecDepth 100000 in
theorem digest_Sum_ok   (b : (List Int)) (hp0 : b.length ≤ 1000000000) : CM En (digest_Sum b) 118 [.sl none 1 false (b.map (V.int .u8))] (fun y => (e_arr40 y)) (fun _ => []) := by
 refine cmQ fun r hM => ?_
 rw [digest_Sum.eq_1] at hM
 refine enterV En_ok En_mo [6] Tryz.func118 rfl Tryz.ntmps118 (by kernel_rfl) fun hw => ct_start ?_
 refine spQ ?_
 replace hw := nzQ hw
 have hM0 := hM; clear hM; obtain ⟨x1, hx2, hM⟩ := letk_opn hM0; clear hM0
 have hcx1 := bytes_Clone_ok none b 
 rw [← hx2] at hcx1
 refine callC_give hcx1 clQ clQ (fun hw3 => ?_)
 replace hw3 := nzQ hw3
 refine spQ ?_
 have hq4 := nzQ (cfU hx2)
 refine bindC_intro omQ ?_
 refine spQ ?_
 have hM0 := hM; clear hM; obtain ⟨f5, d5, hf5, hd5, hM⟩ := iter_opn hM0; clear hM0
 refine ct_loop (fun n S => ∃ p : List Int, S = (⟨[(0, .sl none 1 false (b.map (V.int .u8))), (2, .ptr 0 0), (3, .own 1)], [(0, .var 32 true (zv_40)), (1, .own 5 1 false none (p.map (V.int .u8)))], 3⟩ : St) ∧ ((((p).length : Int) + (56 - ((p).length : Int)) % 64 ≤ (b.length : Int) + 65)) ∧ ((56 - ((p).length : Int)) % 64).toNat < n ∧ iter n f5 d5 p = r) (((56 - (((x1 ++ ([128] : List Int))).length : Int)) % 64).toNat + 1) _ sbQ sbQ ⟨(x1 ++ ([128] : List Int)), rfl, omQ, (Nat.lt_succ_self _), hM⟩ ?_
 clear hM
 rintro n5 S ⟨p5, rfl, hfa5, hm5, hM⟩
 have hM0 := hM; clear hM; obtain ⟨ag5, hag5, hM⟩ := iter_step hM0 (by omega) hf5; clear hM0
 replace hfa5 := nzQ hfa5
 replace hm5 := nzQ hm5
 refine spQ ?_
 refine bindC_intro omQ ?_
 refine spQ ?_
 refine condC_intro (fun h6 => ?_) (fun h6 => ?_)
 ·rw [if_pos h6] at hM
  refine spQA h6 ?_
  have nh6 := nzQ h6
  try have hr7 := mpQ nh6
  have hF := h6
  exact auQ
 ·rw [if_neg (ne_true h6)] at hM
  refine spQA h6 ?_
  have nh6 := nzQ h6
  try have hr8 := mpQ nh6
  have hM0 := hM; clear hM; obtain ⟨x9, hx10, hM⟩ := letk_opn hM0; clear hM0
  have hcx9 := cmU hx10
  refine callC_give hcx9 clQ clQ (fun hw11 => ?_)
  replace hw11 := nzQ hw11
  refine spQ ?_
  have hq12 := nzQ (cfU hx10)
  refine bindC_intro omQ ?_
  refine spQ ?_
  refine seqC_pass ?_
  try refine spQ ?_
  refine cut_weakW _ (⟨[(2, .ptr 0 0), (3, .sl (zApp (x9.map (V.int .u8))) 1 false ((p5 ++ x9).map (V.int .u8))), (4, .ptr 3 0)], [(0, .var 32 true (zv_40)), (1, .pown 1 false (zApp (x9.map (V.int .u8))) ((p5 ++ x9).map (V.int .u8))), (3, .var 8 true (.agg [.int .u32 1779033703, .int .u32 3144134277, .int .u32 1013904242, .int .u32 2773480762, .int .u32 1359893119, .int .u32 2600822924, .int .u32 528734635, .int .u32 1541459225]))], 4⟩ : St) ((weak_pub (S := ⟨_, _, _⟩) 1 (T := 5) (n := 1) (g := false) (z := (zApp (x9.map (V.int .u8)))) (l := (p5 ++ x9).map (V.int .u8)) clQ).trans (weak_slot (S := ⟨_, _, _⟩) 3 1 (n := 1) (g := false) (z := (zApp (x9.map (V.int .u8)))) (l := (p5 ++ x9).map (V.int .u8)) clQ clQ)) sbQ sbQ ?_
  try refine spQ ?_
  have hM0 := hM; clear hM; obtain ⟨f13, d13, hf13, hd13, hM⟩ := iter_opn hM0; clear hM0
  refine ct_loop (fun n S => ∃ p : List Int × (List Int), S = (⟨[(2, .ptr 0 0), (3, .sl none 1 false (p.1.map (V.int .u8))), (4, .ptr 3 0)], [(0, .var 32 true (zv_40)), (3, .var 8 true ((e_arr185 p.2)))], 4⟩ : St) ∧ ((((p.1).length : Int) % 64 = 0)) ∧ (p.1).length < n ∧ iter n f13 d13 p = r) (((p5 ++ x9)).length + 1) _ sbQ (by simp only [go_sem, rowV_eq, rowV_eq0, List.length_replicate, rep_len, Int.toNat_natCast, ↓reduceIte, Nat.reduceEqDiff, Nat.reduceAdd, Int.reduceAdd, Nat.reduceMul, Nat.reduceLeDiff, Nat.reduceLT, Int.reduceLE, Int.reduceLT, Int.reduceNeg, Int.reduceToNat, List.isEmpty_nil, map_st, mtL_repE, mtL_repM, subF, subH, mtO, mtB, mt, mtL, mtL_self, mt_self, ltV, ltL, ltB, eq_self, or_true, true_or, or_self, and_self, gt_cons0, gt_conss, Int.reduceSub]) ⟨((p5 ++ x9), [1779033703, 3144134277, 1013904242, 2773480762, 1359893119, 2600822924, 528734635, 1541459225]), rfl, omQ, (Nat.lt_succ_self _), hM⟩ ?_
  clear hM
  rintro n13 S ⟨p13, rfl, hfa13, hm13, hM⟩
  have hM0 := hM; clear hM; obtain ⟨ag13, hag13, hM⟩ := iter_step hM0 (by omega) hf13; clear hM0
  replace hfa13 := nzQ hfa13
  replace hm13 := nzQ hm13
  refine spQ ?_
  refine condC_intro (fun h14 => ?_) (fun h14 => ?_)
  ·rw [if_pos h14] at hM
   refine spQA h14 ?_
   have nh14 := nzQ h14
   try have hr15 := mpQ nh14
   refine ct_draw 59 3 [33, 34, 35] [] ([[], [], [1]] ++ [List.range 3, List.range 4]) [] (by kernel_rfl) (by exact alQ) ?_
   refine spQ ?_
   refine hbindC_intro omQ ?_
   refine spQ ?_
   have hM0 := hM; clear hM; obtain ⟨x16, hx17, hM⟩ := letk_opn hM0; clear hM0
   have hcx16 := cmH hx17 (digest_mix_ok  (p13.2) (sl p13.1 0 64) (by (exact pfQ)))
   refine callC_give hcx16 clQ clQ (fun hw18 => ?_)
   replace hw18 := nzQ hw18
   refine spQ ?_
   have hF := (And.intro h6 h14)
   exact auQ
  ·rw [if_neg (ne_true h14)] at hM
   refine spQA h14 ?_
   have nh14 := nzQ h14
   try have hr19 := mpQ nh14
   have hM0 := hM; clear hM; obtain ⟨f20, d20, hf20, hd20, hM⟩ := iter_opn hM0; clear hM0
   refine ct_loop (fun n S => ∃ p : Int × (List Int), S = (⟨[(2, .ptr 0 0), (5, .ptr 4 0), (37, (e_arr185 p13.2)), (38, .int .i64 p.1)], [(0, .var 32 true (zv_40)), (4, .var 32 true ((e_arr40 p.2)))], 5⟩ : St) ∧ ((0 ≤ p.1) ∧ (p.1 ≤ 8)) ∧ ((8 : Int) - p.1).toNat < n ∧ iter n f20 d20 p = r) (((8 : Int) - 0).toNat + 1) _ sbQ (by simp only [go_sem, rowV_eq, rowV_eq0, List.length_replicate, rep_len, Int.toNat_natCast, ↓reduceIte, Nat.reduceEqDiff, Nat.reduceAdd, Int.reduceAdd, Nat.reduceMul, Nat.reduceLeDiff, Nat.reduceLT, Int.reduceLE, Int.reduceLT, Int.reduceNeg, Int.reduceToNat, List.isEmpty_nil, map_st, mtL_repE, mtL_repM, subF, subH, mtO, mtB, mt, mtL, mtL_self, mt_self, ltV, ltL, ltB, eq_self, or_true, true_or, or_self, and_self, gt_cons0, gt_conss, Int.reduceSub]) ⟨(0, [0, 0, 0, 0, 0, 0, 0, 0, 0, 0, 0, 0, 0, 0, 0, 0, 0, 0, 0, 0, 0, 0, 0, 0, 0, 0, 0, 0, 0, 0, 0, 0]), rfl, ⟨omQ, omQ⟩, (Nat.lt_succ_self _), hM⟩ ?_
   clear hM
   rintro n20 S ⟨p20, rfl, hfa20, hm20, hM⟩
   have hM0 := hM; clear hM; obtain ⟨ag20, hag20, hM⟩ := iter_step hM0 (by omega) hf20; clear hM0
   replace hfa20 := nzQ hfa20
   replace hm20 := nzQ hm20
   have ha20 : addI .i64 p20.1 1 = p20.1 + 1 := add_one omQ omQ
   refine spQA ha20 ?_
   refine condC_intro (fun h21 => ?_) (fun h21 => ?_)
   ·rw [if_pos h21] at hM
    refine spQA (And.intro ha20 h21) ?_
    have nh21 := nzQ h21
    try have hr22 := mpQ nh21
    have he23 := arr_get1 (f := (V.int .u32)) (l := p13.2) (n := 8) (i := p20.1) omQ
    replace he23 := spR he23
    refine spQA (And.intro ha20 he23) ?_
    refine bindC_intro omQ ?_
    refine spQA (And.intro ha20 he23) ?_
    have hM0 := hM; clear hM; obtain ⟨f24, d24, hf24, hd24, hM⟩ := iter_opn hM0; clear hM0
    refine ct_loop (fun n S => ∃ p : Int × (List Int), S = (⟨[(2, .ptr 0 0), (5, .ptr 4 0), (6, .int .i64 p20.1), (7, .int .u32 (gt p13.2 p20.1)), (37, (e_arr185 p13.2)), (38, .int .i64 p20.1), (42, .int .i64 p.1)], [(0, .var 32 true (zv_40)), (4, .var 32 true ((e_arr40 p.2)))], 5⟩ : St) ∧ ((0 ≤ p.1) ∧ (p.1 ≤ 4)) ∧ ((4 : Int) - p.1).toNat < n ∧ iter n f24 d24 p = r) (((4 : Int) - 0).toNat + 1) _ sbQ sbQ ⟨(0, p20.2), rfl, ⟨omQ, omQ⟩, (Nat.lt_succ_self _), hM⟩ ?_
    clear hM
    rintro n24 S ⟨p24, rfl, hfa24, hm24, hM⟩
    have hM0 := hM; clear hM; obtain ⟨ag24, hag24, hM⟩ := iter_step hM0 (by omega) hf24; clear hM0
    replace hfa24 := nzQ hfa24
    replace hm24 := nzQ hm24
    have ha24 : addI .i64 p24.1 1 = p24.1 + 1 := add_one omQ omQ
    refine spQA (And.intro ha20 (And.intro he23 ha24)) ?_
    refine condC_intro (fun h25 => ?_) (fun h25 => ?_)
    ·rw [if_pos h25] at hM
     refine spQA (And.intro ha20 (And.intro he23 (And.intro ha24 h25))) ?_
     have nh25 := nzQ h25
     try have hr26 := mpQ nh25
     obtain ⟨ha27, hbha27⟩ := mul_pos_ok (a := 4) (b := p20.1) 8 64 512 omQ omQ omQ omQ (by decide) (by decide)
     try simp only [ha27]
     have ha28 : addI .i64 (4 * p20.1) p24.1 = ((4 * p20.1) + p24.1) := add_ok omQ omQ
     try simp only [ha28]
     obtain ⟨ha29, hbha29⟩ := mul_pos_ok (a := 8) (b := p24.1) 8 64 512 omQ omQ omQ omQ (by decide) (by decide)
     try simp only [ha29]
     have ha30 : subI .i64 24 (8 * p24.1) = (24 - (8 * p24.1)) := sub_ok omQ omQ
     try simp only [ha30]
     refine bindC_intro omQ ?_
     refine spQA (And.intro ha20 (And.intro he23 (And.intro ha24 (And.intro ha27 (And.intro ha28 (And.intro ha29 ha30)))))) ?_
     refine bindC_intro omQ ?_
     have he31 : ((((4 * p20.1) + p24.1)).toNat * 1 + 1 ≤ 32) = True := eq_true omQ
     refine spQA (And.intro ha20 (And.intro he23 (And.intro ha24 (And.intro ha27 (And.intro ha28 (And.intro ha29 (And.intro ha30 he31))))))) ?_
     have he32 := arr_put (f := (V.int .u8)) (l := (arrN 32 p24.2)) (n := 32) (i := ((4 * p20.1) + p24.1)) (v := (convI .u8 (shrI .u32 (gt p13.2 p20.1) (24 - (8 * p24.1))))) arrN_len omQ
     replace he32 := spR he32
     refine spQA (And.intro ha20 (And.intro he23 (And.intro ha24 (And.intro ha27 (And.intro ha28 (And.intro ha29 (And.intro ha30 (And.intro he31 he32)))))))) ?_
     refine lp_intro (n24 - 1) _ (by omega) sbQ (by simp only [go_sem, rowV_eq, rowV_eq0, List.length_replicate, rep_len, Int.toNat_natCast, ↓reduceIte, Nat.reduceEqDiff, Nat.reduceAdd, Int.reduceAdd, Nat.reduceMul, Nat.reduceLeDiff, Nat.reduceLT, Int.reduceLE, Int.reduceLT, Int.reduceNeg, Int.reduceToNat, List.isEmpty_nil, map_st, mtL_repE, mtL_repM, subF, subH, mtO, mtB, mt, mtL, mtL_self, mt_self, ltV, ltL, ltB, eq_self, or_true, true_or, or_self, and_self, gt_cons0, gt_conss, Int.reduceSub]) ⟨((p24.1 + 1), (arrN 32 (st (arrN 32 p24.2) ((4 * p20.1) + p24.1) (convI .u8 (shrI .u32 (gt p13.2 p20.1) (24 - (8 * p24.1))))))), rfl, ⟨omQ, omQ⟩, omQ, iter_again hM hag24⟩
    ·rw [if_neg (ne_true h25)] at hM
     refine spQA (And.intro ha20 (And.intro he23 (And.intro ha24 h25))) ?_
     have nh25 := nzQ h25
     try have hr33 := mpQ nh25
     refine lp_intro (n20 - 1) _ (by omega) sbQ sbQ ⟨((p20.1 + 1), p24.2), rfl, ⟨omQ, omQ⟩, omQ, iter_again hM hag20⟩
   ·rw [if_neg (ne_true h21)] at hM
    refine spQA (And.intro ha20 h21) ?_
    have nh21 := nzQ h21
    try have hr34 := mpQ nh21
    subst hM
    exact retC_view (lfQA (And.intro ha20 (And.intro h6 (And.intro h14 h21))))
set_option maxHeartbeats 2000000 in
set_option maxRecDepth 100000 in
theorem digest_Tagged_ok   (tag : (List UInt8)) (b : (List Int)) (hp0 : b.length ≤ 900000000) : CM En (digest_Tagged tag b) 78 [.str tag, .sl none 1 false (b.map (V.int .u8))] (fun y => .tup [(e_arr40 y.1), .int .i64 y.2]) (fun _ => []) := by
 refine cmQ fun r hM => ?_
 rw [digest_Tagged.eq_1] at hM
 refine enterV En_ok En_mo [4] Tryz.func78 rfl Tryz.ntmps78 (by kernel_rfl) fun hw => ct_start ?_
 refine spQ ?_
 replace hw := nzQ hw
 refine guardC_f (fun h1 => ?_) (fun h1 => ?_)
 ·rw [if_neg (ne_true h1)] at hM
  refine spQA h1 ?_
  have nh1 := nzQ h1
  try have hr2 := mpQ nh1
  refine condC_intro (fun h3 => ?_) (fun h3 => ?_)
  ·rw [if_pos h3] at hM
   refine spQA h3 ?_
   have nh3 := nzQ h3
   try have hr4 := mpQ nh3
   subst hM
   exact retC_view (lfQA (And.intro h1 h3))
  ·rw [if_neg (ne_true h3)] at hM
   refine spQA h3 ?_
   have nh3 := nzQ h3
   try have hr5 := mpQ nh3
   refine seqC_pass ?_
   try refine spQ ?_
   have hM0 := hM; clear hM; obtain ⟨x6, hx7, hM⟩ := letk_opn hM0; clear hM0
   have hcx6 := cmH hx7 (digest_Sum_ok  (nat8 tag) (by (exact pfQ)))
   refine callC_look hcx6 clQ clQ (fun hw8 => ?_)
   replace hw8 := nzQ hw8
   refine spQ ?_
   refine cut_weakW _ (⟨[(1, .sl none 1 false (b.map (V.int .u8))), (4, .ptr 0 0), (6, .ptr 2 0)], [(0, .var 32 true (zv_40)), (2, .pvar 32 true ((e_arr40 x6)))], 3⟩ : St) (weak_pubv (S := ⟨_, _, _⟩) 2 (n := 32) (g := true) (d := (e_arr40 x6)) clQ clQ) sbQ sbQ ?_
   try refine spQ ?_
   refine ct_draw 26 5 [19, 20, 21, 22, 23] [] ([[], [0], [], [0, 1, 2], []] ++ [List.range 5, List.range 6, List.range 7, List.range 8]) [(3, 4)] (by kernel_rfl) (by exact alQ) ?_
   refine spQ ?_
   have hM0 := hM; clear hM; obtain ⟨x9, hx10, hM⟩ := letk_opn hM0; clear hM0
   have hcx9 := bytes_Clone_ok (some false) (arrN 32 x6) 
   rw [← hx10] at hcx9
   refine hcallC_own hcx9 clQ clQ ?_
   refine spQ ?_
   have hq11 := nzQ (cfU hx10)
   refine hbindC_introA omQ clQ ?_
   refine spQ ?_
   refine bindC_intro omQ ?_
   refine spQ ?_
   have hM0 := hM; clear hM; obtain ⟨x12, hx13, hM⟩ := letk_opn hM0; clear hM0
   have hcx12 := cmH hx13 (digest_Sum_ok  ((x9 ++ (arrN 32 x6)) ++ b) (by (exact pfQ)))
   refine callC_look hcx12 clQ clQ (fun hw14 => ?_)
   replace hw14 := nzQ hw14
   refine spQ ?_
   subst hM
   exact retC_view (lfQA (And.intro h1 h3))
 ·rw [if_pos h1] at hM
  refine spQA h1 ?_
  have nh1 := nzQ h1
  try have hr15 := mpQ nh1
  subst hM
  exact retC_view (lfQA h1)
set_option maxHeartbeats 2000000 in
set_option maxRecDepth 100000 in
instance word_Add_ok   (a_ : Int) (b : Int) (m : Int)  : CM En (word_Add a_ b m) 178 [.int .i64 a_, .int .i64 b, .int .i64 m] (fun y => .tup [.int .i64 y.1, .int .i64 y.2]) (fun _ => []) := by
 refine cmQ fun r hM => ?_
 rw [word_Add.eq_1] at hM
 refine enterV En_ok En_mo noJ Tryz.func178 rfl Tryz.ntmps178 (by kernel_rfl) fun hw => ct_start ?_
 refine spQ ?_
 replace hw := nzQ hw
 have hF := trueQ
 exact auQ
set_option maxHeartbeats 2000000 in
set_option maxRecDepth 100000 in
instance digest_Number_ok   (h_ : (List Int)) (m : Int)  : CM En (digest_Number h_ m) 146 [(e_arr40 h_), .int .i64 m] (fun y => .tup [.int .i64 y.1, .int .i64 y.2]) (fun _ => []) := by
 refine cmQ fun r hM => ?_
 rw [digest_Number.eq_1] at hM
 refine enterV En_ok En_mo noJ Tryz.func146 rfl Tryz.ntmps146 (by kernel_rfl) fun hw => ct_start ?_
 refine spQ ?_
 replace hw := nzQ hw
 refine guardC_f (fun h1 => ?_) (fun h1 => ?_)
 ·rw [if_neg (ne_true h1)] at hM
  refine spQA h1 ?_
  have nh1 := nzQ h1
  try have hr2 := mpQ nh1
  refine condC_intro (fun h3 => ?_) (fun h3 => ?_)
  ·rw [if_pos h3] at hM
   refine spQA h3 ?_
   have nh3 := nzQ h3
   try have hr4 := mpQ nh3
   subst hM
   exact retC_view (lfQA (And.intro h1 h3))
  ·rw [if_neg (ne_true h3)] at hM
   refine spQA h3 ?_
   have nh3 := nzQ h3
   try have hr5 := mpQ nh3
   have hM0 := hM; clear hM; obtain ⟨f6, d6, hf6, hd6, hM⟩ := iter_opn hM0; clear hM0
   refine ct_loop (fun n S => ∃ p : Int × Int, S = (⟨[(1, .int .i64 m), (6, .int .i64 p.1), (15, .sl (some false) 1 false (([(gt h_ 0), (gt h_ 1), (gt h_ 2), (gt h_ 3), (gt h_ 4), (gt h_ 5), (gt h_ 6), (gt h_ 7), (gt h_ 8), (gt h_ 9), (gt h_ 10), (gt h_ 11), (gt h_ 12), (gt h_ 13), (gt h_ 14), (gt h_ 15)] : List Int).map (V.int .u8))), (16, .int .i64 (16 : Int)), (17, .int .i64 p.2)], [], 1⟩ : St) ∧ ((0 ≤ p.2) ∧ (p.2 ≤ (16 : Int))) ∧ ((16 : Int) - p.2).toNat < n ∧ iter n f6 d6 p = r) (((16 : Int) - 0).toNat + 1) _ sbQ sbQ ⟨(0, 0), rfl, ⟨omQ, omQ⟩, (Nat.lt_succ_self _), hM⟩ ?_
   clear hM
   rintro n6 S ⟨p6, rfl, hfa6, hm6, hM⟩
   have hM0 := hM; clear hM; obtain ⟨ag6, hag6, hM⟩ := iter_step hM0 (by omega) hf6; clear hM0
   replace hfa6 := nzQ hfa6
   replace hm6 := nzQ hm6
   have ha6 : addI .i64 p6.2 1 = p6.2 + 1 := add_one omQ omQ
   refine spQA ha6 ?_
   refine condC_intro (fun h7 => ?_) (fun h7 => ?_)
   ·rw [if_pos h7] at hM
    refine spQA (And.intro ha6 h7) ?_
    have nh7 := nzQ h7
    try have hr8 := mpQ nh7
    refine bindC_intro omQ ?_
    have he9 := fun d => elt_mp (l := ([(gt h_ 0), (gt h_ 1), (gt h_ 2), (gt h_ 3), (gt h_ 4), (gt h_ 5), (gt h_ 6), (gt h_ 7), (gt h_ 8), (gt h_ 9), (gt h_ 10), (gt h_ 11), (gt h_ 12), (gt h_ 13), (gt h_ 14), (gt h_ 15)] : List Int)) (f := (V.int .u8)) (i := p6.2) omQ d
    refine spQA (And.intro ha6 he9) ?_
    have hM0 := hM; clear hM; obtain ⟨f10, d10, hf10, hd10, hM⟩ := iter_opn hM0; clear hM0
    refine ct_loop (fun n S => ∃ p : Int × Int, S = (⟨[(1, .int .i64 m), (6, .int .i64 p.1), (8, .int .u8 (gt ([(gt h_ 0), (gt h_ 1), (gt h_ 2), (gt h_ 3), (gt h_ 4), (gt h_ 5), (gt h_ 6), (gt h_ 7), (gt h_ 8), (gt h_ 9), (gt h_ 10), (gt h_ 11), (gt h_ 12), (gt h_ 13), (gt h_ 14), (gt h_ 15)] : List Int) p6.2)), (15, .sl (some false) 1 false (([(gt h_ 0), (gt h_ 1), (gt h_ 2), (gt h_ 3), (gt h_ 4), (gt h_ 5), (gt h_ 6), (gt h_ 7), (gt h_ 8), (gt h_ 9), (gt h_ 10), (gt h_ 11), (gt h_ 12), (gt h_ 13), (gt h_ 14), (gt h_ 15)] : List Int).map (V.int .u8))), (16, .int .i64 (16 : Int)), (17, .int .i64 p6.2), (21, .int .i64 p.2)], [], 1⟩ : St) ∧ ((0 ≤ p.2) ∧ (p.2 ≤ 8)) ∧ ((8 : Int) - p.2).toNat < n ∧ iter n f10 d10 p = r) (((8 : Int) - 0).toNat + 1) _ sbQ sbQ ⟨(p6.1, 0), rfl, ⟨omQ, omQ⟩, (Nat.lt_succ_self _), hM⟩ ?_
    clear hM
    rintro n10 S ⟨p10, rfl, hfa10, hm10, hM⟩
    have hM0 := hM; clear hM; obtain ⟨ag10, hag10, hM⟩ := iter_step hM0 (by omega) hf10; clear hM0
    replace hfa10 := nzQ hfa10
    replace hm10 := nzQ hm10
    have ha10 : addI .i64 p10.2 1 = p10.2 + 1 := add_one omQ omQ
    refine spQA (And.intro ha6 (And.intro he9 ha10)) ?_
    have hF := (And.intro h1 (And.intro h3 (And.intro ha6 (And.intro h7 (And.intro he9 ha10)))))
    exact auQ
   ·rw [if_neg (ne_true h7)] at hM
    refine spQA (And.intro ha6 h7) ?_
    have nh7 := nzQ h7
    try have hr20 := mpQ nh7
    subst hM
    exact retC_view (lfQA (And.intro ha6 (And.intro h1 (And.intro h3 h7))))
 ·rw [if_pos h1] at hM
  refine spQA h1 ?_
  have nh1 := nzQ h1
  try have hr21 := mpQ nh1
  subst hM
  exact retC_view (lfQA h1)
set_option maxHeartbeats 2000000 in
set_option maxRecDepth 100000 in
theorem base_tried_1_seg_ok  (pY : Cx → Value → Prop) (g : S_api_Group) (label : (List UInt8)) (b : (List Int)) (i_ : Int) (hp0 : 1 ≤ g.Q) (hp1 : label.length ≤ 100) (hp2 : b.length ≤ 1000) : SegOk En 71 base_tried_1_seg_code [.opq pY, .pp 3 true (.agg [.int .i64 g.P, .int .i64 g.Q, .int .i64 g.G]), .pp 1 false (.str label), .pp 1 false (.sl none 1 false (b.map (V.int .u8))), .un, .int .i64 i_, .un, .un, .un, .un, .un, .un, .un, .un, .un, .int .i64 i_] (fun S => getA S.F 13 = some (.int .i64 (base_tried_1_seg g label b i_)) ∧ getA S.F 0 = some (.opq pY) ∧ getA S.F 1 = some (.pp 3 true (.agg [.int .i64 g.P, .int .i64 g.Q, .int .i64 g.G])) ∧ getA S.F 2 = some (.pp 1 false (.str label)) ∧ getA S.F 3 = some (.pp 1 false (.sl none 1 false (b.map (V.int .u8)))) ∧ getA S.F 5 = some (.int .i64 i_) ∧ getA S.F 15 = some (.int .i64 i_)) := by
 generalize hM : base_tried_1_seg g label b i_ = r
 rw [base_tried_1_seg.eq_1] at hM
 refine enterS (code := base_tried_1_seg_code) (by kernel_rfl) fun hw => ?_
 simp only [base_tried_1_seg_code, Tryz.f143]
 refine ct_start ?_
 refine spQ ?_
 replace hw := nzQ hw
 refine ct_draw 71 15 [18, 19, 20, 21, 22, 23, 24, 25, 26, 27, 28, 29, 30, 31, 32] [] ([[], [0], [0, 1], [], [3], [0, 1, 2, 3, 4], [], [6], [0, 1, 2, 3, 4, 5, 6, 7], [], [9], [0, 1, 2, 3, 4, 5, 6, 7, 8, 9, 10], [], [0, 1, 2, 3, 4, 5, 6, 7, 8, 9, 10, 11, 12], []] ++ [List.range 15, List.range 16, List.range 17]) [(10, 10)] (by kernel_rfl) (by exact alQ) ?_
 refine spQ ?_
 have hM0 := hM; clear hM; obtain ⟨x1, hx2, hM⟩ := letk_opn hM0; clear hM0
 have hcx1 := cmU hx2
 refine hcallC_give hcx1 clQ clQ ?_
 refine spQ ?_
 have hq3 := hgt_bnum hx2
 replace hq3 := nzQ hq3
 have hM0 := hM; clear hM; obtain ⟨x4, hx5, hM⟩ := letk_opn hM0; clear hM0
 have hcx4 := cmU hx5
 refine hcallC_give hcx4 clQ clQ ?_
 refine spQ ?_
 have hq6 := hgt_bnum hx5
 replace hq6 := nzQ hq6
 have hM0 := hM; clear hM; obtain ⟨x7, hx8, hM⟩ := letk_opn hM0; clear hM0
 have hcx7 := cmU hx8
 refine hcallC_give hcx7 clQ clQ ?_
 refine spQ ?_
 have hq9 := hgt_bnum hx8
 replace hq9 := nzQ hq9
 have hM0 := hM; clear hM; obtain ⟨x10, hx11, hM⟩ := letk_opn hM0; clear hM0
 have hcx10 := cmU hx11
 refine hcallC_give hcx10 clQ clQ ?_
 refine spQ ?_
 have hq12 := hgt_btext hx11
 replace hq12 := nzQ hq12
 have hM0 := hM; clear hM; obtain ⟨x13, hx14, hM⟩ := letk_opn hM0; clear hM0
 have hcx13 := cmU hx14
 refine hcallC_give hcx13 clQ clQ ?_
 refine spQ ?_
 have hq15 := hgt_btext hx14
 replace hq15 := nzQ hq15
 have hM0 := hM; clear hM; obtain ⟨x16, hx17, hM⟩ := letk_opn hM0; clear hM0
 have hcx16 := cmU hx17
 refine callC_give hcx16 clQ clQ (fun hw18 => ?_)
 replace hw18 := nzQ hw18
 refine spQ ?_
 have hq19 := hgt_bnum hx17
 replace hq19 := nzQ hq19
 have hM0 := hM; clear hM; obtain ⟨x20, hx21, hM⟩ := letk_opn hM0; clear hM0
 have hcx20 := cmH hx21 (encode_Encode_ok  ({ Kind := 3, N := 0, B := ([] : List Int), L := ([x1, x4, x7, x10, x13, x16] : List S_api_Item) } : S_api_Item) (by (simp only [hgt, hgtL, List.length_nil, nat8, List.length_map] at *; omega)))
 refine callC_giveP hcx20 (weakP_pub 15 (T := 79) (n := 4) (g := true) (z := (some false)) (l := ([x1, x4, x7, x10, x13, x16] : List S_api_Item).map e_api_Item) clQ) clQ (fun hw22 => ?_)
 replace hw22 := nzQ hw22
 refine spQ ?_
 have hq23 := encode_len hx21
 replace hq23 := nzQ hq23
 have hM0 := hM; clear hM; obtain ⟨x24, hx25, hM⟩ := letk_opn hM0; clear hM0
 have hcx24 := cmH hx25 (digest_Tagged_ok  ([115, 112, 101, 99, 105, 101, 47, 101, 108, 101, 109, 101, 110, 116]) (x20.1) (by (exact pfQ)))
 refine callC_give hcx24 clQ clQ (fun hw26 => ?_)
 replace hw26 := nzQ hw26
 refine spQ ?_
 have hM0 := hM; clear hM; obtain ⟨x27, hx28, hM⟩ := letk_opn hM0; clear hM0
 have hcx27 := cmU hx28
 refine callC_give hcx27 clQ clQ (fun hw29 => ?_)
 replace hw29 := nzQ hw29
 refine spQ ?_
 refine ct_draw 71 14 [13, 53, 54, 55, 56, 57, 58, 59, 60, 61, 62, 63, 64, 65] [] ([[], [], [1], [1, 2], [], [4], [1, 2, 3, 4, 5], [], [7], [0, 1, 2, 3, 4, 5, 6, 7, 8], [0, 1, 2, 3, 4, 5, 6, 7, 8, 9], [0, 1, 2, 3, 4, 5, 6, 7, 8, 9, 10], [0, 1, 2, 3, 4, 5, 6, 7, 8, 9, 10], [0, 1, 2, 3, 4, 5, 6, 7, 8, 9, 10, 11]] ++ [List.range 14]) [] (by kernel_rfl) (by exact alQ) ?_
 refine spQ ?_
 refine hbindC_intro omQ ?_
 refine spQ ?_
 have hM0 := hM; clear hM; obtain ⟨x30, hx31, hM⟩ := letk_opn hM0; clear hM0
 have hcx30 := cmU hx31
 refine hcallC_give hcx30 clQ clQ ?_
 refine spQ ?_
 subst hM
 exact seg_end ⟨rfl, rfl, rfl, rfl, rfl, rfl, rfl⟩
end Go.Proofs.YteolfhljhnplpaaGreatDoor
