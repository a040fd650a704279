/- Texts of this proof, one after the other: U1, U2, A1, L1, L2. -/
import Derived.Test.YtbfeamknaiaghaaDoorZ5
import Derived.Lib.SplitLaws
import Derived.Lib.ItoaMem
set_option linter.unusedVariables false
set_option linter.unusedSimpArgs false
namespace Go.Proofs.YtbfeamknaiaghaaDoor
open Go.RowKit
set_option linter.unusedSimpArgs false
set_option maxHeartbeats 2000000 in
set_option maxRecDepth 100000 in
instance math_bits_TrailingZeros64_ok   (x_ : Int)  : CM En (math_bits_TrailingZeros64 x_) 80 [.int .u64 x_] (fun y => .int .i64 y) (fun _ => []) := by
 refine cmQ fun r hM => ?_
 rw [math_bits_TrailingZeros64.eq_1] at hM
 refine enterV En_ok En_mo noJ Tryd.func80 rfl Tryd.ntmps80 (by kernel_rfl) fun hw => ct_start ?_
 refine spQ ?_
 replace hw := nzQ hw
 have h0_0 := tzix (x := andI .u64 x_ (negI .u64 x_))
 refine condC_intro (fun h1 => ?_) (fun h1 => ?_)
 ·rw [if_pos h1] at hM
  refine spQA h1 ?_
  have nh1 := nzQ h1
  try have hr2 := mpQ nh1
  subst hM
  exact retC_view (lfQA h1)
 ·rw [if_neg (ne_true h1)] at hM
  refine spQA h1 ?_
  have nh1 := nzQ h1
  try have hr3 := mpQ nh1
  refine bindC_intro omQ ?_
  have he4 := pp_get (f := V.int .u8) (l := kg_6) (n := 64) (i := (shrI .u64 (mulI .u64 (andI .u64 x_ (negI .u64 x_)) 285870213051353865) 58)) rfl omQ
  replace he4 := spR he4
  refine spQA he4 ?_
  subst hM
  exact retC_view (lfQA (And.intro he4 h1))
set_option maxHeartbeats 2000000 in
set_option maxRecDepth 100000 in
instance math_bits_Mul64_ok   (x_ : Int) (y : Int)  : CM En (math_bits_Mul64 x_ y) 91 [.int .u64 x_, .int .u64 y] (fun y => .tup [.int .u64 y.1, .int .u64 y.2]) (fun _ => []) := by
 refine cmQ fun r hM => ?_
 rw [math_bits_Mul64.eq_1] at hM
 refine enterV En_ok En_mo noJ Tryd.func91 rfl Tryd.ntmps91 (by kernel_rfl) fun hw => ct_start ?_
 refine spQ ?_
 replace hw := nzQ hw
 subst hM
 exact retC_view lfQ
set_option maxHeartbeats 2000000 in
set_option maxRecDepth 100000 in
instance math_bits_LeadingZeros64_ok   (x_ : Int)  : CM En (math_bits_LeadingZeros64 x_) 125 [.int .u64 x_] (fun y => .int .i64 y) (fun _ => []) := by
 refine cmQ fun r hM => ?_
 rw [math_bits_LeadingZeros64.eq_1] at hM
 refine enterV En_ok En_mo noJ Tryd.func125 rfl Tryd.ntmps125 (by kernel_rfl) fun hw => ct_start ?_
 refine spQ ?_
 replace hw := nzQ hw
 have hF := trueQ
 exact auQ
instance (priority := 1001) : DRD 6 135 7 [6, 28, 29, 30, 31, 32, 33] [] ([[], [], [0, 1], [], [], [3, 4], [0, 1, 2]] ++ [List.range 7]) [] := ⟨trivial⟩
set_option maxHeartbeats 2000000 in
set_option maxRecDepth 100000 in
theorem math_bits_Div64_ok   (hi : Int) (lo : Int) (y : Int) (hp0 : hi < y) : CM En (math_bits_Div64 hi lo y) 111 [.int .u64 hi, .int .u64 lo, .int .u64 y] (fun y => .tup [.int .u64 y.1, .int .u64 y.2]) (fun _ => []) := by
 refine cmQ fun r hM => ?_
 rw [math_bits_Div64.eq_1] at hM
 refine enterV En_ok En_mo [21, 28] Tryd.func111 rfl Tryd.ntmps111 (by kernel_rfl) fun hw => ct_start ?_
 refine spQ ?_
 replace hw := nzQ hw
 refine condC_intro (fun h1 => ?_) (fun h1 => ?_)
 ·rw [if_pos h1] at hM
  refine spQA h1 ?_
  have nh1 := nzQ h1
  try have hr2 := mpQ nh1
  exact False.elim omQ
 ·rw [if_neg (ne_true h1)] at hM
  refine spQA h1 ?_
  have nh1 := nzQ h1
  try have hr3 := mpQ nh1
  refine condC_intro (fun h4 => ?_) (fun h4 => ?_)
  ·rw [if_pos h4] at hM
   refine spQA h4 ?_
   have nh4 := nzQ h4
   try have hr5 := mpQ nh4
   exact False.elim omQ
  ·rw [if_neg (ne_true h4)] at hM
   refine spQA h4 ?_
   have nh4 := nzQ h4
   try have hr6 := mpQ nh4
   refine condC_intro (fun h7 => ?_) (fun h7 => ?_)
   ·rw [if_pos h7] at hM
    refine spQA h7 ?_
    have nh7 := nzQ h7
    try have hr8 := mpQ nh7
    have hF := (And.intro h1 (And.intro h4 h7))
    exact auQ
   ·rw [if_neg (ne_true h7)] at hM
    refine spQA h7 ?_
    have nh7 := nzQ h7
    try have hr9 := mpQ nh7
    have hM0 := hM; clear hM; obtain ⟨x10, hx11, hM⟩ := letk_opn hM0; clear hM0
    have hcx10 := cmU hx11
    refine callC_give hcx10 clQ clQ (fun hw12 => ?_)
    replace hw12 := nzQ hw12
    refine spQ ?_
    have hq13 := lz_after hx11 (by omega) (by omega)
    replace hq13 := nzQ hq13
    refine bindC_intro (by (exact nn_u64 _)) ?_
    refine spQ ?_
    refine bindC_intro (by (exact nn_u64 _)) ?_
    refine spQ ?_
    refine bindC_intro (by (exact (rng_subI .u64 _ _).1)) ?_
    refine spQ ?_
    refine bindC_intro (by (exact nn_u64 _)) ?_
    refine spQ ?_
    refine bindC_intro omQ ?_
    refine spQ ?_
    have hM0 := hM; clear hM; obtain ⟨j14, hj14, hM⟩ := letj_opn hM0; clear hM0
    refine seqC_intro (fun S => ∃ p : Int, S = (⟨[(2, .int .u64 (shlI .u64 y (convI .u64 x10))), (8, .int .u64 (convI .u64 x10)), (9, .int .u64 (shrI .u64 (shlI .u64 y (convI .u64 x10)) 32)), (10, .int .u64 (andI .u64 (shlI .u64 y (convI .u64 x10)) 4294967295)), (11, .int .u64 (orI .u64 (shlI .u64 hi (convI .u64 x10)) (shrI .u64 lo (subI .u64 64 (convI .u64 x10))))), (13, .int .u64 (shrI .u64 (shlI .u64 lo (convI .u64 x10)) 32)), (14, .int .u64 (andI .u64 (shlI .u64 lo (convI .u64 x10)) 4294967295)), (15, .int .u64 p)], [], 0⟩ : St) ∧ (True) ∧ j14 p = r) ?_ (fun hcut14 => ?_)
    ·clear hM
     rintro S ⟨p14, rfl, hfa14, hM⟩
     have hM0 := hM; clear hM; have hM := letj_use hM0 hj14; clear hM0
     refine spQ ?_
     refine bindC_intro omQ ?_
     refine spQ ?_
     have hM0 := hM; clear hM; obtain ⟨j15, hj15, hM⟩ := letj_opn hM0; clear hM0
     refine seqC_intro (fun S => ∃ p : Int, S = (⟨[(2, .int .u64 (shlI .u64 y (convI .u64 x10))), (8, .int .u64 (convI .u64 x10)), (14, .int .u64 (andI .u64 (shlI .u64 lo (convI .u64 x10)) 4294967295)), (15, .int .u64 p14), (17, .int .u64 (subI .u64 (addI .u64 (mulI .u64 (orI .u64 (shlI .u64 hi (convI .u64 x10)) (shrI .u64 lo (subI .u64 64 (convI .u64 x10)))) 4294967296) (shrI .u64 (shlI .u64 lo (convI .u64 x10)) 32)) (mulI .u64 p14 (shlI .u64 y (convI .u64 x10))))), (18, .int .u64 p)], [], 0⟩ : St) ∧ (True) ∧ j15 p = r) ?_ (fun hcut15 => ?_)
     ·clear hM
      rintro S ⟨p15, rfl, hfa15, hM⟩
      have hM0 := hM; clear hM; have hM := letj_use hM0 hj15; clear hM0
      refine spQ ?_
      refine bindC_intro (by (exact nn_u64 _)) ?_
      refine spQ ?_
      subst hM
      exact retC_view (lfQA (And.intro h1 (And.intro h4 h7)))
     ·refine spQ ?_
      have hM0 := hM; clear hM; obtain ⟨f16, d16, hf16, hd16, hM⟩ := iter_opn hM0; clear hM0
      refine ct_loop (fun n S => ∃ p : Int × Int, S = (⟨[(2, .int .u64 (shlI .u64 y (convI .u64 x10))), (8, .int .u64 (convI .u64 x10)), (9, .int .u64 (shrI .u64 (shlI .u64 y (convI .u64 x10)) 32)), (10, .int .u64 (andI .u64 (shlI .u64 y (convI .u64 x10)) 4294967295)), (14, .int .u64 (andI .u64 (shlI .u64 lo (convI .u64 x10)) 4294967295)), (15, .int .u64 p14), (16, .int .u64 p.1), (17, .int .u64 (subI .u64 (addI .u64 (mulI .u64 (orI .u64 (shlI .u64 hi (convI .u64 x10)) (shrI .u64 lo (subI .u64 64 (convI .u64 x10)))) 4294967296) (shrI .u64 (shlI .u64 lo (convI .u64 x10)) 32)) (mulI .u64 p14 (shlI .u64 y (convI .u64 x10))))), (18, .int .u64 p.2)], [], 0⟩ : St) ∧ ((0 ≤ p.1 ∧ p.1 ≤ 4294967295)) ∧ (4294967296 - p.1).toNat < n ∧ iter n f16 d16 p = r) ((4294967296 - (subI .u64 (subI .u64 (addI .u64 (mulI .u64 (orI .u64 (shlI .u64 hi (convI .u64 x10)) (shrI .u64 lo (subI .u64 64 (convI .u64 x10)))) 4294967296) (shrI .u64 (shlI .u64 lo (convI .u64 x10)) 32)) (mulI .u64 p14 (shlI .u64 y (convI .u64 x10)))) (mulI .u64 (quoI .u64 (subI .u64 (addI .u64 (mulI .u64 (orI .u64 (shlI .u64 hi (convI .u64 x10)) (shrI .u64 lo (subI .u64 64 (convI .u64 x10)))) 4294967296) (shrI .u64 (shlI .u64 lo (convI .u64 x10)) 32)) (mulI .u64 p14 (shlI .u64 y (convI .u64 x10)))) (shrI .u64 (shlI .u64 y (convI .u64 x10)) 32)) (shrI .u64 (shlI .u64 y (convI .u64 x10)) 32)))).toNat + 1) _ sbQ sbQ ⟨((subI .u64 (subI .u64 (addI .u64 (mulI .u64 (orI .u64 (shlI .u64 hi (convI .u64 x10)) (shrI .u64 lo (subI .u64 64 (convI .u64 x10)))) 4294967296) (shrI .u64 (shlI .u64 lo (convI .u64 x10)) 32)) (mulI .u64 p14 (shlI .u64 y (convI .u64 x10)))) (mulI .u64 (quoI .u64 (subI .u64 (addI .u64 (mulI .u64 (orI .u64 (shlI .u64 hi (convI .u64 x10)) (shrI .u64 lo (subI .u64 64 (convI .u64 x10)))) 4294967296) (shrI .u64 (shlI .u64 lo (convI .u64 x10)) 32)) (mulI .u64 p14 (shlI .u64 y (convI .u64 x10)))) (shrI .u64 (shlI .u64 y (convI .u64 x10)) 32)) (shrI .u64 (shlI .u64 y (convI .u64 x10)) 32))), (quoI .u64 (subI .u64 (addI .u64 (mulI .u64 (orI .u64 (shlI .u64 hi (convI .u64 x10)) (shrI .u64 lo (subI .u64 64 (convI .u64 x10)))) 4294967296) (shrI .u64 (shlI .u64 lo (convI .u64 x10)) 32)) (mulI .u64 p14 (shlI .u64 y (convI .u64 x10)))) (shrI .u64 (shlI .u64 y (convI .u64 x10)) 32))), rfl, by (exact dv_i (sub_rng _ _) (by omega) (by omega)), (Nat.lt_succ_self _), hM⟩ ?_
      clear hM
      rintro n16 S ⟨p16, rfl, hF24_0, hm16, hM⟩
      have hM0 := hM; clear hM; obtain ⟨ag16, hag16, hM⟩ := iter_step hM0 (by omega) hf16; clear hM0
      replace hm16 := nzQ hm16
      refine spQ ?_
      refine guardC_f (fun h17 => ?_) (fun h17 => ?_)
      ·rw [if_neg (ne_true h17)] at hM
       refine spQA h17 ?_
       have nh17 := nzQ h17
       try have hr18 := mpQ nh17
       refine condC_intro (fun h19 => ?_) (fun h19 => ?_)
       ·rw [if_pos h19] at hM
        refine spQA h19 ?_
        have nh19 := nzQ h19
        try have hr20 := mpQ nh19
        refine condC_intro (fun h21 => ?_) (fun h21 => ?_)
        ·rw [if_pos h21] at hM
         refine spQA h21 ?_
         have nh21 := nzQ h21
         try have hr22 := mpQ nh21
         exact cut_intro _ sbQ sbQ (hcut15 _ ⟨(subI .u64 p16.2 1), rfl, trivial, hM⟩)
        ·rw [if_neg (ne_true h21)] at hM
         refine spQA h21 ?_
         have nh21 := nzQ h21
         try have hr23 := mpQ nh21
         refine lp_intro (n16 - 1) _ (by omega) sbQ sbQ ⟨((addI .u64 p16.1 (shrI .u64 (shlI .u64 y (convI .u64 x10)) 32)), (subI .u64 p16.2 1)), rfl, by (have h9 := add_u (a := p16.1) (b := (shrI .u64 (shlI .u64 y (convI .u64 x10)) 32)) (by omega) (by omega) (by omega) (by omega); omega), by (have h9 := add_u (a := p16.1) (b := (shrI .u64 (shlI .u64 y (convI .u64 x10)) 32)) (by omega) (by omega) (by omega) (by omega); omega), iter_again hM hag16⟩
       ·rw [if_neg (ne_true h19)] at hM
        refine spQA h19 ?_
        have nh19 := nzQ h19
        try have hr24 := mpQ nh19
        exact cut_intro _ sbQ sbQ (hcut15 _ ⟨p16.2, rfl, trivial, hM⟩)
      ·rw [if_pos h17] at hM
       refine spQA h17 ?_
       have nh17 := nzQ h17
       try have hr25 := mpQ nh17
       refine condC_intro (fun h26 => ?_) (fun h26 => ?_)
       ·rw [if_pos h26] at hM
        refine spQA h26 ?_
        have nh26 := nzQ h26
        try have hr27 := mpQ nh26
        exact cut_intro _ sbQ sbQ (hcut15 _ ⟨(subI .u64 p16.2 1), rfl, trivial, hM⟩)
       ·rw [if_neg (ne_true h26)] at hM
        refine spQA h26 ?_
        have nh26 := nzQ h26
        try have hr28 := mpQ nh26
        refine lp_intro (n16 - 1) _ (by omega) sbQ sbQ ⟨((addI .u64 p16.1 (shrI .u64 (shlI .u64 y (convI .u64 x10)) 32)), (subI .u64 p16.2 1)), rfl, by (have h9 := add_u (a := p16.1) (b := (shrI .u64 (shlI .u64 y (convI .u64 x10)) 32)) (by omega) (by omega) (by omega) (by omega); omega), by (have h9 := add_u (a := p16.1) (b := (shrI .u64 (shlI .u64 y (convI .u64 x10)) 32)) (by omega) (by omega) (by omega) (by omega); omega), iter_again hM hag16⟩
    ·refine spQ ?_
     have hM0 := hM; clear hM; obtain ⟨f29, d29, hf29, hd29, hM⟩ := iter_opn hM0; clear hM0
     refine ct_loop (fun n S => ∃ p : Int × Int, S = (⟨[(2, .int .u64 (shlI .u64 y (convI .u64 x10))), (8, .int .u64 (convI .u64 x10)), (9, .int .u64 (shrI .u64 (shlI .u64 y (convI .u64 x10)) 32)), (10, .int .u64 (andI .u64 (shlI .u64 y (convI .u64 x10)) 4294967295)), (11, .int .u64 (orI .u64 (shlI .u64 hi (convI .u64 x10)) (shrI .u64 lo (subI .u64 64 (convI .u64 x10))))), (13, .int .u64 (shrI .u64 (shlI .u64 lo (convI .u64 x10)) 32)), (14, .int .u64 (andI .u64 (shlI .u64 lo (convI .u64 x10)) 4294967295)), (15, .int .u64 p.1), (16, .int .u64 p.2)], [], 0⟩ : St) ∧ ((0 ≤ p.2 ∧ p.2 ≤ 4294967295)) ∧ (4294967296 - p.2).toNat < n ∧ iter n f29 d29 p = r) ((4294967296 - (subI .u64 (orI .u64 (shlI .u64 hi (convI .u64 x10)) (shrI .u64 lo (subI .u64 64 (convI .u64 x10)))) (mulI .u64 (quoI .u64 (orI .u64 (shlI .u64 hi (convI .u64 x10)) (shrI .u64 lo (subI .u64 64 (convI .u64 x10)))) (shrI .u64 (shlI .u64 y (convI .u64 x10)) 32)) (shrI .u64 (shlI .u64 y (convI .u64 x10)) 32)))).toNat + 1) _ sbQ sbQ ⟨((quoI .u64 (orI .u64 (shlI .u64 hi (convI .u64 x10)) (shrI .u64 lo (subI .u64 64 (convI .u64 x10)))) (shrI .u64 (shlI .u64 y (convI .u64 x10)) 32)), (subI .u64 (orI .u64 (shlI .u64 hi (convI .u64 x10)) (shrI .u64 lo (subI .u64 64 (convI .u64 x10)))) (mulI .u64 (quoI .u64 (orI .u64 (shlI .u64 hi (convI .u64 x10)) (shrI .u64 lo (subI .u64 64 (convI .u64 x10)))) (shrI .u64 (shlI .u64 y (convI .u64 x10)) 32)) (shrI .u64 (shlI .u64 y (convI .u64 x10)) 32)))), rfl, by (exact dv_i (or_rng _ _) (by omega) (by omega)), (Nat.lt_succ_self _), hM⟩ ?_
     clear hM
     rintro n29 S ⟨p29, rfl, hF17_0, hm29, hM⟩
     have hM0 := hM; clear hM; obtain ⟨ag29, hag29, hM⟩ := iter_step hM0 (by omega) hf29; clear hM0
     replace hm29 := nzQ hm29
     refine spQ ?_
     refine guardC_f (fun h30 => ?_) (fun h30 => ?_)
     ·rw [if_neg (ne_true h30)] at hM
      refine spQA h30 ?_
      have nh30 := nzQ h30
      try have hr31 := mpQ nh30
      refine condC_intro (fun h32 => ?_) (fun h32 => ?_)
      ·rw [if_pos h32] at hM
       refine spQA h32 ?_
       have nh32 := nzQ h32
       try have hr33 := mpQ nh32
       refine condC_intro (fun h34 => ?_) (fun h34 => ?_)
       ·rw [if_pos h34] at hM
        refine spQA h34 ?_
        have nh34 := nzQ h34
        try have hr35 := mpQ nh34
        exact cut_intro _ sbQ sbQ (hcut14 _ ⟨(subI .u64 p29.1 1), rfl, trivial, hM⟩)
       ·rw [if_neg (ne_true h34)] at hM
        refine spQA h34 ?_
        have nh34 := nzQ h34
        try have hr36 := mpQ nh34
        refine lp_intro (n29 - 1) _ (by omega) sbQ sbQ ⟨((subI .u64 p29.1 1), (addI .u64 p29.2 (shrI .u64 (shlI .u64 y (convI .u64 x10)) 32))), rfl, by (have h9 := add_u (a := p29.2) (b := (shrI .u64 (shlI .u64 y (convI .u64 x10)) 32)) (by omega) (by omega) (by omega) (by omega); omega), by (have h9 := add_u (a := p29.2) (b := (shrI .u64 (shlI .u64 y (convI .u64 x10)) 32)) (by omega) (by omega) (by omega) (by omega); omega), iter_again hM hag29⟩
      ·rw [if_neg (ne_true h32)] at hM
       refine spQA h32 ?_
       have nh32 := nzQ h32
       try have hr37 := mpQ nh32
       exact cut_intro _ sbQ sbQ (hcut14 _ ⟨p29.1, rfl, trivial, hM⟩)
     ·rw [if_pos h30] at hM
      refine spQA h30 ?_
      have nh30 := nzQ h30
      try have hr38 := mpQ nh30
      refine condC_intro (fun h39 => ?_) (fun h39 => ?_)
      ·rw [if_pos h39] at hM
       refine spQA h39 ?_
       have nh39 := nzQ h39
       try have hr40 := mpQ nh39
       exact cut_intro _ sbQ sbQ (hcut14 _ ⟨(subI .u64 p29.1 1), rfl, trivial, hM⟩)
      ·rw [if_neg (ne_true h39)] at hM
       refine spQA h39 ?_
       have nh39 := nzQ h39
       try have hr41 := mpQ nh39
       refine lp_intro (n29 - 1) _ (by omega) sbQ sbQ ⟨((subI .u64 p29.1 1), (addI .u64 p29.2 (shrI .u64 (shlI .u64 y (convI .u64 x10)) 32))), rfl, by (have h9 := add_u (a := p29.2) (b := (shrI .u64 (shlI .u64 y (convI .u64 x10)) 32)) (by omega) (by omega) (by omega) (by omega); omega), by (have h9 := add_u (a := p29.2) (b := (shrI .u64 (shlI .u64 y (convI .u64 x10)) 32)) (by omega) (by omega) (by omega) (by omega); omega), iter_again hM hag29⟩
set_option maxHeartbeats 2000000 in
set_option maxRecDepth 100000 in
theorem prime_mul_ok   (a_ : Int) (b : Int) (n_ : Int) (hp0 : a_ < n_) : CM En (prime_mul a_ b n_) 109 [.int .u64 a_, .int .u64 b, .int .u64 n_] (fun y => .int .u64 y) (fun _ => []) := by
 refine cmQ fun r hM => ?_
 rw [prime_mul.eq_1] at hM
 refine enterV En_ok En_mo noJ Tryd.func109 rfl Tryd.ntmps109 (by kernel_rfl) fun hw => ct_start ?_
 refine spQ ?_
 replace hw := nzQ hw
 have hM0 := hM; clear hM; obtain ⟨x1, hx2, hM⟩ := letk_opn hM0; clear hM0
 have hcx1 := cmU hx2
 refine callC_give hcx1 clQ clQ (fun hw3 => ?_)
 replace hw3 := nzQ hw3
 refine spQ ?_
 have hq4 := mul_afterN n_ hx2 (by omega) (by omega) (by omega) (by omega) (by omega)
 replace hq4 := nzQ hq4
 have hM0 := hM; clear hM; obtain ⟨x5, hx6, hM⟩ := letk_opn hM0; clear hM0
 have hcx5 := cmH hx6 (math_bits_Div64_ok  (x1.1) (x1.2) n_ (by (exact pfQ)))
 refine callC_give hcx5 clQ clQ (fun hw7 => ?_)
 replace hw7 := nzQ hw7
 refine spQ ?_
 subst hM
 exact retC_view lfQ
set_option maxHeartbeats 2000000 in
set_option maxRecDepth 100000 in
theorem prime_pow_ok   (a_ : Int) (e_ : Int) (n_ : Int) (hp0 : a_ < n_) (hp1 : 1 < n_) : CM En (prime_pow a_ e_ n_) 108 [.int .u64 a_, .int .u64 e_, .int .u64 n_] (fun y => .int .u64 y) (fun _ => []) := by
 refine cmQ fun r hM => ?_
 rw [prime_pow.eq_1] at hM
 refine enterV En_ok En_mo noJ Tryd.func108 rfl Tryd.ntmps108 (by kernel_rfl) fun hw => ct_start ?_
 refine spQ ?_
 replace hw := nzQ hw
 have hM0 := hM; clear hM; obtain ⟨f1, d1, hf1, hd1, hM⟩ := iter_opn hM0; clear hM0
 refine ct_loop (fun n S => ∃ p : Int × Int × Int, S = (⟨[(0, .int .u64 p.1), (1, .int .u64 p.2.1), (2, .int .u64 n_), (7, .int .u64 p.2.2)], [], 0⟩ : St) ∧ ((0 ≤ p.1) ∧ (p.1 < n_) ∧ (0 ≤ p.2.1) ∧ (0 ≤ p.2.2) ∧ (p.2.2 < n_)) ∧ p.2.1.toNat < n ∧ iter n f1 d1 p = r) (e_.toNat + 1) _ sbQ sbQ ⟨(a_, e_, 1), rfl, ⟨omQ, omQ, omQ, omQ, omQ⟩, (Nat.lt_succ_self _), hM⟩ ?_
 clear hM
 rintro n1 S ⟨p1, rfl, hfa1, hm1, hM⟩
 have hM0 := hM; clear hM; obtain ⟨ag1, hag1, hM⟩ := iter_step hM0 (by omega) hf1; clear hM0
 replace hfa1 := nzQ hfa1
 replace hm1 := nzQ hm1
 refine spQ ?_
 refine condC_intro (fun h2 => ?_) (fun h2 => ?_)
 ·rw [if_pos h2] at hM
  refine spQA h2 ?_
  have nh2 := nzQ h2
  try have hr3 := mpQ nh2
  refine condC_intro (fun h4 => ?_) (fun h4 => ?_)
  ·rw [if_pos h4] at hM
   refine spQA h4 ?_
   have nh4 := nzQ h4
   try have hr5 := mpQ nh4
   have hM0 := hM; clear hM; obtain ⟨x6, hx7, hM⟩ := letk_opn hM0; clear hM0
   have hcx6 := cmH hx7 (prime_mul_ok  (p1.2.2) (p1.1) n_ (by (exact pfQ)))
   refine callC_give hcx6 clQ clQ (fun hw8 => ?_)
   replace hw8 := nzQ hw8
   refine spQ ?_
   have hq9 := prime_mul_rng hx7 (by omega) (by omega) (by omega) (by omega) (by omega)
   replace hq9 := nzQ hq9
   have hM0 := hM; clear hM; obtain ⟨x10, hx11, hM⟩ := letk_opn hM0; clear hM0
   have hcx10 := cmH hx11 (prime_mul_ok  (p1.1) (p1.1) n_ (by (exact pfQ)))
   refine callC_give hcx10 clQ clQ (fun hw12 => ?_)
   replace hw12 := nzQ hw12
   refine spQ ?_
   have hq13 := prime_mul_rng hx11 (by omega) (by omega) (by omega) (by omega) (by omega)
   replace hq13 := nzQ hq13
   refine lp_intro (n1 - 1) _ (by omega) sbQ sbQ ⟨(x10, (shrI .u64 p1.2.1 1), x6), rfl, ⟨by (clear hM; (try dsimp only); (try rw [shr1]); (try rw [shr1i]); omega), by (clear hM; (try dsimp only); (try rw [shr1]); (try rw [shr1i]); omega), by (clear hM; (try dsimp only); (try rw [shr1]); (try rw [shr1i]); omega), by (clear hM; (try dsimp only); (try rw [shr1]); (try rw [shr1i]); omega), by (clear hM; (try dsimp only); (try rw [shr1]); (try rw [shr1i]); omega)⟩, by (clear hM; (try dsimp only); (try rw [shr1]); (try rw [shr1i]); omega), iter_again hM hag1⟩
  ·rw [if_neg (ne_true h4)] at hM
   refine spQA h4 ?_
   have nh4 := nzQ h4
   try have hr14 := mpQ nh4
   have hM0 := hM; clear hM; obtain ⟨x15, hx16, hM⟩ := letk_opn hM0; clear hM0
   have hcx15 := cmH hx16 (prime_mul_ok  (p1.1) (p1.1) n_ (by (exact pfQ)))
   refine callC_give hcx15 clQ clQ (fun hw17 => ?_)
   replace hw17 := nzQ hw17
   refine spQ ?_
   have hq18 := prime_mul_rng hx16 (by omega) (by omega) (by omega) (by omega) (by omega)
   replace hq18 := nzQ hq18
   refine lp_intro (n1 - 1) _ (by omega) sbQ sbQ ⟨(x15, (shrI .u64 p1.2.1 1), p1.2.2), rfl, ⟨by (clear hM; (try dsimp only); (try rw [shr1]); (try rw [shr1i]); omega), by (clear hM; (try dsimp only); (try rw [shr1]); (try rw [shr1i]); omega), by (clear hM; (try dsimp only); (try rw [shr1]); (try rw [shr1i]); omega), by (clear hM; (try dsimp only); (try rw [shr1]); (try rw [shr1i]); omega), by (clear hM; (try dsimp only); (try rw [shr1]); (try rw [shr1i]); omega)⟩, by (clear hM; (try dsimp only); (try rw [shr1]); (try rw [shr1i]); omega), iter_again hM hag1⟩
 ·rw [if_neg (ne_true h2)] at hM
  refine spQA h2 ?_
  have nh2 := nzQ h2
  try have hr19 := mpQ nh2
  subst hM
  exact retC_view (lfQA h2)
set_option maxHeartbeats 2000000 in
set_option maxRecDepth 100000 in
theorem prime_composite_ok   (a_ : Int) (n_ : Int) (d_ : Int) (s : Int) (hp0 : a_ < n_) (hp1 : 1 < n_) (hp2 : 0 ≤ s) (hp3 : s ≤ 64) : CM En (prime_composite a_ n_ d_ s) 81 [.int .u64 a_, .int .u64 n_, .int .u64 d_, .int .i64 s] (fun y => .bool y) (fun _ => []) := by
 refine cmQ fun r hM => ?_
 rw [prime_composite.eq_1] at hM
 refine enterV En_ok En_mo noJ Tryd.func81 rfl Tryd.ntmps81 (by kernel_rfl) fun hw => ct_start ?_
 refine spQ ?_
 replace hw := nzQ hw
 have h0_0 := si64 (x := s) (by omega) (by omega)
 have hM0 := hM; clear hM; obtain ⟨x1, hx2, hM⟩ := letk_opn hM0; clear hM0
 have hcx1 := cmH hx2 (prime_pow_ok  a_ d_ n_ (by (exact pfQ)) (by (exact pfQ)))
 refine callC_give hcx1 clQ clQ (fun hw3 => ?_)
 replace hw3 := nzQ hw3
 refine spQ ?_
 have hq4 := prime_pow_rng hx2 (by omega) (by omega) (by omega) (by omega)
 replace hq4 := nzQ hq4
 refine guardC_f (fun h5 => ?_) (fun h5 => ?_)
 ·rw [if_neg (ne_true h5)] at hM
  refine spQA h5 ?_
  have nh5 := nzQ h5
  try have hr6 := mpQ nh5
  refine condC_intro (fun h7 => ?_) (fun h7 => ?_)
  ·rw [if_pos h7] at hM
   refine spQA h7 ?_
   have nh7 := nzQ h7
   try have hr8 := mpQ nh7
   subst hM
   exact retC_view (lfQA (And.intro h5 h7))
  ·rw [if_neg (ne_true h7)] at hM
   refine spQA h7 ?_
   have nh7 := nzQ h7
   try have hr9 := mpQ nh7
   have hM0 := hM; clear hM; obtain ⟨f10, d10, hf10, hd10, hM⟩ := iter_opn hM0; clear hM0
   refine ct_loop (fun n S => ∃ p : Int × Int, S = (⟨[(1, .int .u64 n_), (9, .int .u64 p.1), (23, .int .i64 (subI .i64 s 1)), (24, .int .i64 p.2)], [], 0⟩ : St) ∧ ((0 ≤ p.2) ∧ (p.2 ≤ subI .i64 s 1 ∨ p.2 ≤ 0) ∧ (0 ≤ p.1) ∧ (p.1 < n_)) ∧ (subI .i64 s 1 - p.2).toNat < n ∧ iter n f10 d10 p = r) ((subI .i64 s 1 - 0).toNat + 1) _ sbQ sbQ ⟨(x1, 0), rfl, ⟨omQ, omQ, omQ, omQ⟩, (Nat.lt_succ_self _), hM⟩ ?_
   clear hM
   rintro n10 S ⟨p10, rfl, hfa10, hm10, hM⟩
   have hM0 := hM; clear hM; obtain ⟨ag10, hag10, hM⟩ := iter_step hM0 (by omega) hf10; clear hM0
   replace hfa10 := nzQ hfa10
   replace hm10 := nzQ hm10
   have ha10 : addI .i64 p10.2 1 = p10.2 + 1 := add_one omQ omQ
   refine spQA ha10 ?_
   refine condC_intro (fun h11 => ?_) (fun h11 => ?_)
   ·rw [if_pos h11] at hM
    refine spQA (And.intro ha10 h11) ?_
    have nh11 := nzQ h11
    try have hr12 := mpQ nh11
    have hM0 := hM; clear hM; obtain ⟨x13, hx14, hM⟩ := letk_opn hM0; clear hM0
    have hcx13 := cmH hx14 (prime_mul_ok  (p10.1) (p10.1) n_ (by (exact pfQ)))
    refine callC_give hcx13 (clQA ha10) (clQA ha10) (fun hw15 => ?_)
    replace hw15 := nzQ hw15
    refine spQA ha10 ?_
    have hq16 := prime_mul_rng hx14 (by omega) (by omega) (by omega) (by omega) (by omega)
    replace hq16 := nzQ hq16
    have hF := (And.intro h5 (And.intro h7 (And.intro ha10 h11)))
    exact auQ
   ·rw [if_neg (ne_true h11)] at hM
    refine spQA (And.intro ha10 h11) ?_
    have nh11 := nzQ h11
    try have hr20 := mpQ nh11
    subst hM
    exact retC_view (lfQA (And.intro ha10 (And.intro h5 (And.intro h7 h11))))
 ·rw [if_pos h5] at hM
  refine spQA h5 ?_
  have nh5 := nzQ h5
  try have hr21 := mpQ nh5
  subst hM
  exact retC_view (lfQA h5)
set_option maxHeartbeats 2000000 in
set_option maxRecDepth 100000 in
instance prime_Is_ok   (n_ : Int)  : CM En (prime_Is n_) 56 [.int .i64 n_] (fun y => .bool y) (fun _ => []) := by
 refine cmQ fun r hM => ?_
 rw [prime_Is.eq_1] at hM
 refine enterV En_ok En_mo noJ Tryd.func56 rfl Tryd.ntmps56 (by kernel_rfl) fun hw => ct_start ?_
 refine spQ ?_
 replace hw := nzQ hw
 have h0_0 := kg2_len
 refine condC_intro (fun h1 => ?_) (fun h1 => ?_)
 ·rw [if_pos h1] at hM
  refine spQA h1 ?_
  have nh1 := nzQ h1
  try have hr2 := mpQ nh1
  subst hM
  exact retC_view (lfQA h1)
 ·rw [if_neg (ne_true h1)] at hM
  refine spQA h1 ?_
  have nh1 := nzQ h1
  try have hr3 := mpQ nh1
  have hM0 := hM; clear hM; obtain ⟨f4, d4, hf4, hd4, hM⟩ := iter_opn hM0; clear hM0
  refine ct_loop (fun n S => ∃ p : Int, S = (⟨[(3, .int .u64 (convI .u64 n_)), (13, .agg (kg_1.map (V.int .u64))), (14, .int .i64 p)], [], 0⟩ : St) ∧ (((0 ≤ p) ∧ (p ≤ 12)) ∧ (NoDiv (convI .u64 n_) p)) ∧ ((12 : Int) - p).toNat < n ∧ iter n f4 d4 p = r) (((12 : Int) - 0).toNat + 1) _ sbQ sbQ ⟨0, rfl, ⟨⟨by (first | exact omQ | (clear hM; first | (have hk := kg2_rng (j := p4) (by omega) (by omega); exact omQ'))), by (first | exact omQ | (clear hM; first | (have hk := kg2_rng (j := p4) (by omega) (by omega); exact omQ')))⟩, by (exact NoDiv_zero)⟩, (Nat.lt_succ_self _), hM⟩ ?_
  clear hM
  rintro n4 S ⟨p4, rfl, ⟨hfa4, hF5_0⟩, hm4, hM⟩
  have hM0 := hM; clear hM; obtain ⟨ag4, hag4, hM⟩ := iter_step hM0 (by omega) hf4; clear hM0
  replace hfa4 := nzQ hfa4
  replace hm4 := nzQ hm4
  have ha4 : addI .i64 p4 1 = p4 + 1 := add_one (by (first | exact omQ | (clear hM; first | (have hk := kg2_rng (j := p4) (by omega) (by omega); exact omQ')))) (by (first | exact omQ | (clear hM; first | (have hk := kg2_rng (j := p4) (by omega) (by omega); exact omQ'))))
  refine spQA ha4 ?_
  refine condC_intro (fun h5 => ?_) (fun h5 => ?_)
  ·rw [if_pos h5] at hM
   refine spQA (And.intro ha4 h5) ?_
   have nh5 := nzQ h5
   try have hr6 := mpQ nh5
   have he7 := pp_get (f := V.int .u64) (l := kg_1) (n := 12) (i := p4) rfl (by (first | exact omQ | (clear hM; first | (have hk := kg2_rng (j := p4) (by omega) (by omega); exact omQ'))))
   replace he7 := spR he7
   refine spQA (And.intro ha4 he7) ?_
   refine bindC_intro (by (first | exact omQ | (clear hM; first | (have hk := kg2_rng (j := p4) (by omega) (by omega); exact omQ')))) ?_
   refine spQA (And.intro ha4 he7) ?_
   refine bindC_intro (by (first | exact omQ | (clear hM; first | (have hk := kg2_rng (j := p4) (by omega) (by omega); exact omQ')))) ?_
   refine spQA (And.intro ha4 he7) ?_
   refine condC_intro (fun h8 => ?_) (fun h8 => ?_)
   ·rw [if_pos h8] at hM
    refine spQA (And.intro ha4 (And.intro he7 h8)) ?_
    have nh8 := nzQ h8
    try have hr9 := mpQ nh8
    subst hM
    exact retC_view (lfQA (And.intro ha4 (And.intro he7 (And.intro h1 (And.intro h5 h8)))))
   ·rw [if_neg (ne_true h8)] at hM
    refine spQA (And.intro ha4 (And.intro he7 h8)) ?_
    have nh8 := nzQ h8
    try have hr10 := mpQ nh8
    refine lp_intro (n4 - 1) _ (by omega) sbQ sbQ ⟨(p4 + 1), rfl, ⟨⟨by (first | exact omQ | (clear hM; first | (have hk := kg2_rng (j := (p4 + 1)) (by omega) (by omega); exact omQ'))), by (first | exact omQ | (clear hM; first | (have hk := kg2_rng (j := (p4 + 1)) (by omega) (by omega); exact omQ')))⟩, by (clear hM; exact NoDiv_step hF5_0 (nn_u64 _) (by omega) (by omega) (by assumption))⟩, by (first | exact omQ | (clear hM; first | (have hk := kg2_rng (j := (p4 + 1)) (by omega) (by omega); exact omQ'))), iter_again hM hag4⟩
  ·rw [if_neg (ne_true h5)] at hM
   refine spQA (And.intro ha4 h5) ?_
   have nh5 := nzQ h5
   try have hr11 := mpQ nh5
   have hM0 := hM; clear hM; obtain ⟨x12, hx13, hM⟩ := letk_opn hM0; clear hM0
   have hcx12 := cmU hx13
   refine callC_give hcx12 (clQA ha4) (clQA ha4) (fun hw14 => ?_)
   replace hw14 := nzQ hw14
   refine spQA ha4 ?_
   have hq15 := tz_rng hx13
   replace hq15 := nzQ hq15
   have hM0 := hM; clear hM; obtain ⟨f16, d16, hf16, hd16, hM⟩ := iter_opn hM0; clear hM0
   refine ct_loop (fun n S => ∃ p : Int, S = (⟨[(3, .int .u64 (convI .u64 n_)), (6, .int .i64 x12), (28, .agg (kg_1.map (V.int .u64))), (29, .int .i64 p)], [], 0⟩ : St) ∧ (((0 ≤ p) ∧ (p ≤ 12)) ∧ (37 < convI .u64 n_)) ∧ ((12 : Int) - p).toNat < n ∧ iter n f16 d16 p = r) (((12 : Int) - 0).toNat + 1) _ sbQ sbQ ⟨0, rfl, ⟨⟨by (first | exact omQ | (clear hM; first | (have hk := kg2_rng (j := p16) (by omega) (by omega); exact omQ'))), by (first | exact omQ | (clear hM; first | (have hk := kg2_rng (j := p16) (by omega) (by omega); exact omQ')))⟩, by (clear hM; exact NoDiv_all hF5_0 (by omega) (by rw [cu63 (by omega) (by omega)]; omega))⟩, (Nat.lt_succ_self _), hM⟩ ?_
   clear hM
   rintro n16 S ⟨p16, rfl, ⟨hfa16, hF12_0⟩, hm16, hM⟩
   have hM0 := hM; clear hM; obtain ⟨ag16, hag16, hM⟩ := iter_step hM0 (by omega) hf16; clear hM0
   replace hfa16 := nzQ hfa16
   replace hm16 := nzQ hm16
   have ha16 : addI .i64 p16 1 = p16 + 1 := add_one (by (first | exact omQ | (clear hM; first | (have hk := kg2_rng (j := p16) (by omega) (by omega); exact omQ')))) (by (first | exact omQ | (clear hM; first | (have hk := kg2_rng (j := p16) (by omega) (by omega); exact omQ'))))
   refine spQA (And.intro ha4 ha16) ?_
   refine condC_intro (fun h17 => ?_) (fun h17 => ?_)
   ·rw [if_pos h17] at hM
    refine spQA (And.intro ha4 (And.intro ha16 h17)) ?_
    have nh17 := nzQ h17
    try have hr18 := mpQ nh17
    have he19 := pp_get (f := V.int .u64) (l := kg_1) (n := 12) (i := p16) rfl (by (first | exact omQ | (clear hM; first | (have hk := kg2_rng (j := p16) (by omega) (by omega); exact omQ'))))
    replace he19 := spR he19
    refine spQA (And.intro ha4 (And.intro ha16 he19)) ?_
    refine bindC_intro (by (first | exact omQ | (clear hM; first | (have hk := kg2_rng (j := p16) (by omega) (by omega); exact omQ')))) ?_
    refine spQA (And.intro ha4 (And.intro ha16 he19)) ?_
    refine bindC_intro (by (first | exact omQ | (clear hM; first | (have hk := kg2_rng (j := p16) (by omega) (by omega); exact omQ')))) ?_
    refine spQA (And.intro ha4 (And.intro ha16 he19)) ?_
    have hM0 := hM; clear hM; obtain ⟨x20, hx21, hM⟩ := letk_opn hM0; clear hM0
    have hcx20 := cmH hx21 (prime_composite_ok  (gt kg_1 p16) (convI .u64 n_) (shrI .u64 (subI .u64 (convI .u64 n_) 1) x12) x12 (by (first | omega | (have hk := kg2_rng (j := p16) (by omega) (by omega); omega))) (by (first | omega | (have hk := kg2_rng (j := p16) (by omega) (by omega); omega))) (by (first | omega | (have hk := kg2_rng (j := p16) (by omega) (by omega); omega))) (by (first | omega | (have hk := kg2_rng (j := p16) (by omega) (by omega); omega))))
    refine callC_give hcx20 (clQA (And.intro ha4 (And.intro ha16 he19))) (clQA (And.intro ha4 (And.intro ha16 he19))) (fun hw22 => ?_)
    replace hw22 := nzQ hw22
    refine spQA (And.intro ha4 (And.intro ha16 he19)) ?_
    refine condC_intro (fun h23 => ?_) (fun h23 => ?_)
    ·subst h23
     rw [if_pos rfl] at hM
     refine spQA (And.intro ha4 (And.intro ha16 he19)) ?_
     subst hM
     exact retC_view (lfQA (And.intro ha4 (And.intro ha16 (And.intro he19 (And.intro h1 (And.intro h5 h17))))))
    ·subst h23
     rw [if_neg (by decide)] at hM
     refine spQA (And.intro ha4 (And.intro ha16 he19)) ?_
     refine lp_intro (n16 - 1) _ (by omega) sbQ sbQ ⟨(p16 + 1), rfl, ⟨⟨by (first | exact omQ | (clear hM; first | (have hk := kg2_rng (j := (p16 + 1)) (by omega) (by omega); exact omQ'))), by (first | exact omQ | (clear hM; first | (have hk := kg2_rng (j := (p16 + 1)) (by omega) (by omega); exact omQ')))⟩, by (clear hM; exact hF12_0)⟩, by (first | exact omQ | (clear hM; first | (have hk := kg2_rng (j := (p16 + 1)) (by omega) (by omega); exact omQ'))), iter_again hM hag16⟩
   ·rw [if_neg (ne_true h17)] at hM
    refine spQA (And.intro ha4 (And.intro ha16 h17)) ?_
    have nh17 := nzQ h17
    try have hr24 := mpQ nh17
    subst hM
    exact retC_view (lfQA (And.intro ha4 (And.intro ha16 (And.intro h1 (And.intro h5 h17)))))
set_option maxHeartbeats 2000000 in
set_option maxRecDepth 100000 in
instance word_residue_ok   (a_ : Int) (m : Int)  : CM En (word_residue a_ m) 110 [.int .i64 a_, .int .i64 m] (fun y => .bool y) (fun _ => []) := by
 refine cmQ fun r hM => ?_
 rw [word_residue.eq_1] at hM
 refine enterV En_ok En_mo noJ Tryd.func110 rfl Tryd.ntmps110 (by kernel_rfl) fun hw => ct_start ?_
 refine spQ ?_
 replace hw := nzQ hw
 have hF := trueQ
 exact auQ
set_option maxHeartbeats 2000000 in
set_option maxRecDepth 100000 in
instance word_check_ok   (a_ : Int) (b : Int) (m : Int)  : CM En (word_check a_ b m) 82 [.int .i64 a_, .int .i64 b, .int .i64 m] (fun y => .int .i64 y) (fun _ => []) := by
 refine cmQ fun r hM => ?_
 rw [word_check.eq_1] at hM
 refine enterV En_ok En_mo noJ Tryd.func82 rfl Tryd.ntmps82 (by kernel_rfl) fun hw => ct_start ?_
 refine spQ ?_
 replace hw := nzQ hw
 have hF := trueQ
 exact auQ
set_option maxHeartbeats 2000000 in
set_option maxRecDepth 100000 in
theorem word_mul_ok   (a_ : Int) (b : Int) (m : Int) (hp0 : 0 ≤ a_) (hp1 : a_ < m) (hp2 : 0 ≤ b) : CM En (word_mul a_ b m) 83 [.int .i64 a_, .int .i64 b, .int .i64 m] (fun y => .int .i64 y) (fun _ => []) := by
 refine cmQ fun r hM => ?_
 rw [word_mul.eq_1] at hM
 refine enterV En_ok En_mo noJ Tryd.func83 rfl Tryd.ntmps83 (by kernel_rfl) fun hw => ct_start ?_
 refine spQ ?_
 replace hw := nzQ hw
 have h0_0 := cu63 (x := a_) (by omega) (by omega)
 have h0_1 := cu63 (x := b) (by omega) (by omega)
 have h0_2 := cu63 (x := m) (by omega) (by omega)
 have hM0 := hM; clear hM; obtain ⟨x1, hx2, hM⟩ := letk_opn hM0; clear hM0
 have hcx1 := cmU hx2
 refine callC_give hcx1 clQ clQ (fun hw3 => ?_)
 replace hw3 := nzQ hw3
 refine spQ ?_
 have hq4 := mul_afterN (convI .u64 m) hx2 (by omega) (by omega) (by omega) (by omega) (by omega)
 replace hq4 := nzQ hq4
 have hM0 := hM; clear hM; obtain ⟨x5, hx6, hM⟩ := letk_opn hM0; clear hM0
 have hcx5 := cmH hx6 (math_bits_Div64_ok  (x1.1) (x1.2) (convI .u64 m) (by (exact pfQ)))
 refine callC_give hcx5 clQ clQ (fun hw7 => ?_)
 replace hw7 := nzQ hw7
 refine spQ ?_
 subst hM
 exact retC_view lfQ
set_option maxHeartbeats 2000000 in
set_option maxRecDepth 100000 in
instance word_Pow_ok   (a_ : Int) (e_ : Int) (m : Int)  : CM En (word_Pow a_ e_ m) 57 [.int .i64 a_, .int .i64 e_, .int .i64 m] (fun y => .tup [.int .i64 y.1, .int .i64 y.2]) (fun _ => []) := by
 refine cmQ fun r hM => ?_
 rw [word_Pow.eq_1] at hM
 refine enterV En_ok En_mo noJ Tryd.func57 rfl Tryd.ntmps57 (by kernel_rfl) fun hw => ct_start ?_
 refine spQ ?_
 replace hw := nzQ hw
 have hM0 := hM; clear hM; obtain ⟨x1, hx2, hM⟩ := letk_opn hM0; clear hM0
 have hcx1 := cmU hx2
 refine callC_give hcx1 clQ clQ (fun hw3 => ?_)
 replace hw3 := nzQ hw3
 refine spQ ?_
 have hq4 := nzQ (cfU hx2)
 refine condC_intro (fun h5 => ?_) (fun h5 => ?_)
 ·rw [if_pos h5] at hM
  refine spQA h5 ?_
  have nh5 := nzQ h5
  try have hr6 := mpQ nh5
  subst hM
  exact retC_view (lfQA h5)
 ·rw [if_neg (ne_true h5)] at hM
  refine spQA h5 ?_
  have nh5 := nzQ h5
  try have hr7 := mpQ nh5
  refine condC_intro (fun h8 => ?_) (fun h8 => ?_)
  ·rw [if_pos h8] at hM
   refine spQA h8 ?_
   have nh8 := nzQ h8
   try have hr9 := mpQ nh8
   subst hM
   exact retC_view (lfQA (And.intro h5 h8))
  ·rw [if_neg (ne_true h8)] at hM
   refine spQA h8 ?_
   have nh8 := nzQ h8
   try have hr10 := mpQ nh8
   refine bindC_intro (by (first | exact omQ | (clear hM; first | (have hk := rem1_rng (m := m) (by omega); exact omQ')))) ?_
   refine spQ ?_
   have hM0 := hM; clear hM; obtain ⟨f11, d11, hf11, hd11, hM⟩ := iter_opn hM0; clear hM0
   refine ct_loop (fun n S => ∃ p : Int × Int × Int, S = (⟨[(0, .int .i64 p.1), (1, .int .i64 p.2.1), (2, .int .i64 m), (9, .int .i64 p.2.2)], [], 0⟩ : St) ∧ ((0 ≤ p.1) ∧ (p.1 < m) ∧ (0 ≤ p.2.1) ∧ (0 ≤ p.2.2) ∧ (p.2.2 < m)) ∧ p.2.1.toNat < n ∧ iter n f11 d11 p = r) (e_.toNat + 1) _ sbQ sbQ ⟨(a_, e_, (remI .i64 1 m)), rfl, ⟨by (first | exact omQ | (clear hM; first | (have hk := rem1_rng (m := m) (by omega); exact omQ'))), by (first | exact omQ | (clear hM; first | (have hk := rem1_rng (m := m) (by omega); exact omQ'))), by (first | exact omQ | (clear hM; first | (have hk := rem1_rng (m := m) (by omega); exact omQ'))), by (first | exact omQ | (clear hM; first | (have hk := rem1_rng (m := m) (by omega); exact omQ'))), by (first | exact omQ | (clear hM; first | (have hk := rem1_rng (m := m) (by omega); exact omQ')))⟩, (Nat.lt_succ_self _), hM⟩ ?_
   clear hM
   rintro n11 S ⟨p11, rfl, hfa11, hm11, hM⟩
   have hM0 := hM; clear hM; obtain ⟨ag11, hag11, hM⟩ := iter_step hM0 (by omega) hf11; clear hM0
   replace hfa11 := nzQ hfa11
   replace hm11 := nzQ hm11
   refine spQ ?_
   refine condC_intro (fun h12 => ?_) (fun h12 => ?_)
   ·rw [if_pos h12] at hM
    refine spQA h12 ?_
    have nh12 := nzQ h12
    try have hr13 := mpQ nh12
    refine condC_intro (fun h14 => ?_) (fun h14 => ?_)
    ·rw [if_pos h14] at hM
     refine spQA h14 ?_
     have nh14 := nzQ h14
     try have hr15 := mpQ nh14
     have hM0 := hM; clear hM; obtain ⟨x16, hx17, hM⟩ := letk_opn hM0; clear hM0
     have hcx16 := cmH hx17 (word_mul_ok  (p11.2.2) (p11.1) m (by (exact pfQ)) (by (exact pfQ)) (by (exact pfQ)))
     refine callC_give hcx16 clQ clQ (fun hw18 => ?_)
     replace hw18 := nzQ hw18
     refine spQ ?_
     have hq19 := word_mul_rng hx17 (by omega) (by omega) (by omega) (by omega) (by omega)
     replace hq19 := nzQ hq19
     have hM0 := hM; clear hM; obtain ⟨x20, hx21, hM⟩ := letk_opn hM0; clear hM0
     have hcx20 := cmH hx21 (word_mul_ok  (p11.1) (p11.1) m (by (exact pfQ)) (by (exact pfQ)) (by (exact pfQ)))
     refine callC_give hcx20 clQ clQ (fun hw22 => ?_)
     replace hw22 := nzQ hw22
     refine spQ ?_
     have hq23 := word_mul_rng hx21 (by omega) (by omega) (by omega) (by omega) (by omega)
     replace hq23 := nzQ hq23
     refine lp_intro (n11 - 1) _ (by omega) sbQ sbQ ⟨(x20, (shrI .i64 p11.2.1 1), x16), rfl, ⟨by (clear hM; (try dsimp only); (try rw [shr1]); (try rw [shr1i]); omega), by (clear hM; (try dsimp only); (try rw [shr1]); (try rw [shr1i]); omega), by (clear hM; (try dsimp only); (try rw [shr1]); (try rw [shr1i]); omega), by (clear hM; (try dsimp only); (try rw [shr1]); (try rw [shr1i]); omega), by (clear hM; (try dsimp only); (try rw [shr1]); (try rw [shr1i]); omega)⟩, by (clear hM; (try dsimp only); (try rw [shr1]); (try rw [shr1i]); omega), iter_again hM hag11⟩
    ·rw [if_neg (ne_true h14)] at hM
     refine spQA h14 ?_
     have nh14 := nzQ h14
     try have hr24 := mpQ nh14
     have hM0 := hM; clear hM; obtain ⟨x25, hx26, hM⟩ := letk_opn hM0; clear hM0
     have hcx25 := cmH hx26 (word_mul_ok  (p11.1) (p11.1) m (by (exact pfQ)) (by (exact pfQ)) (by (exact pfQ)))
     refine callC_give hcx25 clQ clQ (fun hw27 => ?_)
     replace hw27 := nzQ hw27
     refine spQ ?_
     have hq28 := word_mul_rng hx26 (by omega) (by omega) (by omega) (by omega) (by omega)
     replace hq28 := nzQ hq28
     refine lp_intro (n11 - 1) _ (by omega) sbQ sbQ ⟨(x25, (shrI .i64 p11.2.1 1), p11.2.2), rfl, ⟨by (clear hM; (try dsimp only); (try rw [shr1]); (try rw [shr1i]); omega), by (clear hM; (try dsimp only); (try rw [shr1]); (try rw [shr1i]); omega), by (clear hM; (try dsimp only); (try rw [shr1]); (try rw [shr1i]); omega), by (clear hM; (try dsimp only); (try rw [shr1]); (try rw [shr1i]); omega), by (clear hM; (try dsimp only); (try rw [shr1]); (try rw [shr1i]); omega)⟩, by (clear hM; (try dsimp only); (try rw [shr1]); (try rw [shr1i]); omega), iter_again hM hag11⟩
   ·rw [if_neg (ne_true h12)] at hM
    refine spQA h12 ?_
    have nh12 := nzQ h12
    try have hr29 := mpQ nh12
    subst hM
    exact retC_view (lfQA (And.intro h5 (And.intro h8 h12)))
set_option maxHeartbeats 2000000 in
set_option maxRecDepth 100000 in
instance group_Valid_ok   (g : S_api_Group)  : CM En (group_Valid g) 37 [.agg [.int .i64 g.P, .int .i64 g.Q, .int .i64 g.G]] (fun y => .bool y) (fun _ => []) := by
 refine cmQ fun r hM => ?_
 rw [group_Valid.eq_1] at hM
 refine enterV En_ok En_mo noJ Tryd.func37 rfl Tryd.ntmps37 (by kernel_rfl) fun hw => ct_start ?_
 refine spQ ?_
 replace hw := nzQ hw
 have hF := trueQ
 exact auQ
set_option maxHeartbeats 2000000 in
set_option maxRecDepth 100000 in
instance group_element_ok   (g : S_api_Group) (x_ : Int)  : CM En (group_element g x_) 58 [.agg [.int .i64 g.P, .int .i64 g.Q, .int .i64 g.G], .int .i64 x_] (fun y => .bool y) (fun _ => []) := by
 refine cmQ fun r hM => ?_
 rw [group_element.eq_1] at hM
 refine enterV En_ok En_mo noJ Tryd.func58 rfl Tryd.ntmps58 (by kernel_rfl) fun hw => ct_start ?_
 refine spQ ?_
 replace hw := nzQ hw
 have hF := trueQ
 exact auQ
set_option maxHeartbeats 2000000 in
set_option maxRecDepth 100000 in
instance group_Contains_ok   (g : S_api_Group) (x_ : Int)  : CM En (group_Contains g x_) 38 [.agg [.int .i64 g.P, .int .i64 g.Q, .int .i64 g.G], .int .i64 x_] (fun y => .bool y) (fun _ => []) := by
 refine cmQ fun r hM => ?_
 rw [group_Contains.eq_1] at hM
 refine enterV En_ok En_mo noJ Tryd.func38 rfl Tryd.ntmps38 (by kernel_rfl) fun hw => ct_start ?_
 refine spQ ?_
 replace hw := nzQ hw
 have hF := trueQ
 exact auQ
set_option maxHeartbeats 2000000 in
set_option maxRecDepth 100000 in
instance base_Valid_ok   (b : S_api_Bases)  : CM En (base_Valid b) 17 [(e_api_Bases b)] (fun y => .bool y) (fun _ => []) := by
 refine cmQ fun r hM => ?_
 rw [base_Valid.eq_1] at hM
 refine enterV En_ok En_mo noJ Tryd.func17 rfl Tryd.ntmps17 (by kernel_rfl) fun hw => ct_start ?_
 refine spQ ?_
 replace hw := nzQ hw
 have hM0 := hM; clear hM; obtain ⟨x1, hx2, hM⟩ := letk_opn hM0; clear hM0
 have hcx1 := cmU hx2
 refine callC_give hcx1 clQ clQ (fun hw3 => ?_)
 replace hw3 := nzQ hw3
 refine spQ ?_
 refine condC_intro (fun h4 => ?_) (fun h4 => ?_)
 ·rw [if_pos h4] at hM
  refine spQA h4 ?_
  have nh4 := nzQ h4
  try have hr5 := mpQ nh4
  subst hM
  exact retC_view (lfQA h4)
 ·rw [if_neg (ne_true h4)] at hM
  refine spQA h4 ?_
  have nh4 := nzQ h4
  try have hr6 := mpQ nh4
  have hM0 := hM; clear hM; obtain ⟨f7, d7, hf7, hd7, hM⟩ := iter_opn hM0; clear hM0
  refine ct_loop (fun n S => ∃ p : Int, S = (⟨[(1, .ptr 0 0), (15, .own 1), (16, .int .i64 (3 : Int)), (17, .int .i64 p)], [(0, .var 6 true ((e_api_Bases b))), (1, .own 3 1 false (some false) (([b.G1, b.G2, b.H] : List Int).map (V.int .i64)))], 2⟩ : St) ∧ ((0 ≤ p) ∧ (p ≤ (3 : Int))) ∧ ((3 : Int) - p).toNat < n ∧ iter n f7 d7 p = r) (((3 : Int) - 0).toNat + 1) _ sbQ sbQ ⟨0, rfl, ⟨omQ, omQ⟩, (Nat.lt_succ_self _), hM⟩ ?_
  clear hM
  rintro n7 S ⟨p7, rfl, hfa7, hm7, hM⟩
  have hM0 := hM; clear hM; obtain ⟨ag7, hag7, hM⟩ := iter_step hM0 (by omega) hf7; clear hM0
  replace hfa7 := nzQ hfa7
  replace hm7 := nzQ hm7
  have ha7 : addI .i64 p7 1 = p7 + 1 := add_one omQ omQ
  refine spQA ha7 ?_
  have hF := (And.intro h4 ha7)
  exact auQ
set_option maxHeartbeats 2000000 in
set_option maxRecDepth 100000 in
instance base_numbers_ok   (b : S_api_Bases)  : CM En (base_numbers b) 35 [(e_api_Bases b)] (fun y => .sl none 1 false (y.map (V.int .i64))) (fun _ => []) := by
 refine cmQ fun r hM => ?_
 rw [base_numbers.eq_1] at hM
 refine enterV En_ok En_mo noJ Tryd.func35 rfl Tryd.ntmps35 (by kernel_rfl) fun hw => ct_start ?_
 refine spQ ?_
 replace hw := nzQ hw
 subst hM
 exact retC_view lfQ
set_option maxHeartbeats 2000000 in
set_option maxRecDepth 100000 in
instance base_Text_ok   (b : S_api_Bases)  : CM En (base_Text b) 15 [(e_api_Bases b)] (fun y => .tup [.str y.1, .int .i64 y.2]) (fun _ => []) := by
 refine cmQ fun r hM => ?_
 rw [base_Text.eq_1] at hM
 refine enterV En_ok En_mo noJ Tryd.func15 rfl Tryd.ntmps15 (by kernel_rfl) fun hw => ct_start ?_
 refine spQ ?_
 replace hw := nzQ hw
 have hM0 := hM; clear hM; obtain ⟨x1, hx2, hM⟩ := letk_opn hM0; clear hM0
 have hcx1 := cmU hx2
 refine callC_give hcx1 clQ clQ (fun hw3 => ?_)
 replace hw3 := nzQ hw3
 refine spQ ?_
 refine condC_intro (fun h4 => ?_) (fun h4 => ?_)
 ·rw [if_pos h4] at hM
  refine spQA h4 ?_
  have nh4 := nzQ h4
  try have hr5 := mpQ nh4
  subst hM
  exact retC_view (lfQA h4)
 ·rw [if_neg (ne_true h4)] at hM
  refine spQA h4 ?_
  have nh4 := nzQ h4
  try have hr6 := mpQ nh4
  have hM0 := hM; clear hM; obtain ⟨x7, hx8, hM⟩ := letk_opn hM0; clear hM0
  have hcx7 := cmU hx8
  refine callC_give hcx7 clQ clQ (fun hw9 => ?_)
  replace hw9 := nzQ hw9
  refine spQ ?_
  have hq10 := nzQ (cfU hx8)
  have hM0 := hM; clear hM; obtain ⟨f11, d11, hf11, hd11, hM⟩ := iter_opn hM0; clear hM0
  refine ct_loopW (fun n S => ∃ p : Int × List (List UInt8), S = (⟨[(4, .own 1), (11, .sl none 1 false (x7.map (V.int .i64))), (12, .int .i64 (x7.length : Int)), (13, .int .i64 p.1)], [(1, .own 9 1 false none (p.2.map V.str))], 2⟩ : St) ∧ (((0 ≤ p.1) ∧ (p.1 ≤ (x7.length : Int)) ∧ (((p.2).length : Int) ≤ p.1)) ∧ ((textLen (p.2) : Int) ≤ 21 * p.1)) ∧ ((x7.length : Int) - p.1).toNat < n ∧ iter n f11 d11 p = r) (((x7.length : Int) - 0).toNat + 1) _ _ (weak_nil 4 9 rfl (by decide)) sbQ sbQ ⟨(0, ([] : List (List UInt8))), rfl, ⟨⟨omQ, omQ, omQ⟩, by (simp [textLen])⟩, (Nat.lt_succ_self _), hM⟩ ?_
  clear hM
  rintro n11 S ⟨p11, rfl, ⟨hfa11, hF5_0⟩, hm11, hM⟩
  have hM0 := hM; clear hM; obtain ⟨ag11, hag11, hM⟩ := iter_step hM0 (by omega) hf11; clear hM0
  replace hfa11 := nzQ hfa11
  replace hm11 := nzQ hm11
  have ha11 : addI .i64 p11.1 1 = p11.1 + 1 := add_one omQ omQ
  refine spQA ha11 ?_
  refine condC_intro (fun h12 => ?_) (fun h12 => ?_)
  ·rw [if_pos h12] at hM
   refine spQA (And.intro ha11 h12) ?_
   have nh12 := nzQ h12
   try have hr13 := mpQ nh12
   refine bindC_intro omQ ?_
   have he14 := fun d => elt_mp (l := x7) (f := (V.int .i64)) (i := p11.1) omQ d
   refine spQA (And.intro ha11 he14) ?_
   have hM0 := hM; clear hM; obtain ⟨x15, hx16, hM⟩ := letk_opn hM0; clear hM0
   have hcx15 := cmU hx16
   refine callC_give hcx15 (clQA (And.intro ha11 he14)) (clQA (And.intro ha11 he14)) (fun hw17 => ?_)
   replace hw17 := nzQ hw17
   refine spQA (And.intro ha11 he14) ?_
   have hq18 := itoa_len hx16 (wf_gt hw9.2 (by omega))
   replace hq18 := nzQ hq18
   refine bindC_intro omQ ?_
   refine spQA (And.intro ha11 he14) ?_
   refine lp_intro (n11 - 1) _ (by omega) sbQ sbQ ⟨((p11.1 + 1), (p11.2 ++ ([x15] : List (List UInt8)))), rfl, ⟨⟨omQ, omQ, omQ⟩, by (clear hM; rw [textLen_app]; omega)⟩, omQ, iter_again hM hag11⟩
  ·rw [if_neg (ne_true h12)] at hM
   refine spQA (And.intro ha11 h12) ?_
   have nh12 := nzQ h12
   try have hr19 := mpQ nh12
   have hM0 := hM; clear hM; obtain ⟨x20, hx21, hM⟩ := letk_opn hM0; clear hM0
   have hcx20 := cmH hx21 (strings_Join_ok  (p11.2) ([32]) (by (refine Nat.le_trans (join_le _ _) ?_; simp only [List.length_cons, List.length_nil]; omega)))
   refine callC_look hcx20 (clQA ha11) (clQA ha11) (fun hw22 => ?_)
   replace hw22 := nzQ hw22
   refine spQA ha11 ?_
   subst hM
   exact retC_view (lfQA (And.intro ha11 (And.intro h4 h12)))
instance (priority := 1002) : DRD 14 77 21 [9, 52, 53, 54, 55, 56, 57, 58, 59, 60, 61, 62, 63, 64, 65, 66, 67, 68, 69, 70, 71] [] ([[], [0], [0, 1], [], [3], [3, 4], [], [6], [6, 7], [0, 1, 2, 3, 4, 5, 6, 7, 8], [], [10], [10, 11], [], [13], [13, 14], [], [16], [16, 17], [0, 1, 2, 3, 4, 5, 6, 7, 8, 9, 10, 11, 12, 13, 14, 15, 16, 17, 18], []] ++ [List.range 21]) [] := ⟨trivial⟩
set_option maxHeartbeats 2000000 in
set_option maxRecDepth 100000 in
instance base_Parse_ok   (s : (List UInt8))  : CM En (base_Parse s) 16 [.str s] (fun y => .tup [(e_api_Bases y.1), .int .i64 y.2]) (fun _ => []) := by
 refine cmQ fun r hM => ?_
 rw [base_Parse.eq_1] at hM
 refine enterV En_ok En_mo noJ Tryd.func16 rfl Tryd.ntmps16 (by kernel_rfl) fun hw => ct_start ?_
 refine spQ ?_
 replace hw := nzQ hw
 refine condC_intro (fun h1 => ?_) (fun h1 => ?_)
 ·rw [if_pos h1] at hM
  refine spQA h1 ?_
  have nh1 := nzQ h1
  try have hr2 := mpQ nh1
  subst hM
  exact retC_view (lfQA h1)
 ·rw [if_neg (ne_true h1)] at hM
  refine spQA h1 ?_
  have nh1 := nzQ h1
  try have hr3 := mpQ nh1
  have hM0 := hM; clear hM; obtain ⟨x4, hx5, hM⟩ := letk_opn hM0; clear hM0
  have hcx4 := cmH hx5 (strings_Split_ok  s ([32]) (by (exact pfQ)) (by (exact pfQ)))
  refine callC_give hcx4 clQ clQ (fun hw6 => ?_)
  replace hw6 := nzQ hw6
  refine spQ ?_
  have hM0 := hM; clear hM; obtain ⟨f7, d7, hf7, hd7, hM⟩ := iter_opn hM0; clear hM0
  refine ct_loopW (fun n S => ∃ p : Int × S_api_Bases × List Int, S = (⟨[(2, .ptr 0 0), (4, .own 1), (15, .sl none 1 false (x4.map V.str)), (16, .int .i64 (x4.length : Int)), (17, .int .i64 p.1)], [(0, .var 6 true ((e_api_Bases p.2.1))), (1, .own 3 1 false none (p.2.2.map (V.int .i64)))], 2⟩ : St) ∧ ((0 ≤ p.1) ∧ (p.1 ≤ (x4.length : Int)) ∧ (((p.2.2).length : Int) ≤ p.1)) ∧ ((x4.length : Int) - p.1).toNat < n ∧ iter n f7 d7 p = r) (((x4.length : Int) - 0).toNat + 1) _ _ (weak_nil 4 3 rfl (by decide)) sbQ (by simp only [go_sem, rowV_eq, rowV_eq0, List.length_replicate, rep_len, Int.toNat_natCast, ↓reduceIte, Nat.reduceEqDiff, Nat.reduceAdd, Int.reduceAdd, Nat.reduceMul, Nat.reduceLeDiff, Nat.reduceLT, Int.reduceLE, Int.reduceLT, Int.reduceNeg, Int.reduceToNat, map_st, mtL_repE, mtL_repM, subF, subH, mtO, mtB, mt, mtL, mtL_self, mt_self, ltV, ltL, ltB, eq_self, or_true, true_or, or_self, and_self, gt_cons0, gt_conss, Int.reduceSub]) ⟨(0, z_api_Bases, ([] : List Int)), rfl, ⟨omQ, omQ, omQ⟩, (Nat.lt_succ_self _), hM⟩ ?_
  clear hM
  rintro n7 S ⟨p7, rfl, hfa7, hm7, hM⟩
  have hM0 := hM; clear hM; obtain ⟨ag7, hag7, hM⟩ := iter_step hM0 (by omega) hf7; clear hM0
  replace hfa7 := nzQ hfa7
  replace hm7 := nzQ hm7
  have ha7 : addI .i64 p7.1 1 = p7.1 + 1 := add_one omQ omQ
  refine spQA ha7 ?_
  have hF := (And.intro h1 ha7)
  exact auQ
set_option maxHeartbeats 2000000 in
set_option maxRecDepth 100000 in
instance specielaw11_awake_ok     : CM En (specielaw11_awake) 14 [] (fun y => .bool y) (fun _ => []) := by
 refine cmQ fun r hM => ?_
 rw [specielaw11_awake.eq_1] at hM
 refine enterV En_ok En_mo noJ Tryd.func14 rfl Tryd.ntmps14 (by kernel_rfl) fun hw => ct_start ?_
 refine spQ ?_
 replace hw := nzQ hw
 have hF := trueQ
 exact auQ
set_option maxHeartbeats 2000000 in
set_option maxRecDepth 100000 in
instance encode_Ints_ok   (l : (List Int))  : CM En (encode_Ints l) 39 [.sl none 1 false (l.map (V.int .i64))] (fun y => .agg [.int .i64 y.Kind, .int .i64 y.N, .sl none 1 false (y.B.map (V.int .u8)), .sl none 4 true (y.L.map e_api_Item)]) (fun _ => []) := by
 refine cmQ fun r hM => ?_
 rw [encode_Ints.eq_1] at hM
 refine enterV En_ok En_mo noJ Tryd.func39 rfl Tryd.ntmps39 (by kernel_rfl) fun hw => ct_start ?_
 refine spQ ?_
 replace hw := nzQ hw
 have hM0 := hM; clear hM; obtain ⟨f1, d1, hf1, hd1, hM⟩ := iter_opn hM0; clear hM0
 refine ct_loopW (fun n S => ∃ p : Int × List S_api_Item, S = (⟨[(2, .ptr 0 0), (3, .ptr 1 0), (7, .sl none 1 false (l.map (V.int .i64))), (8, .int .i64 (l.length : Int)), (9, .int .i64 p.1)], [(0, .var 4 true (.agg [.int .i64 0, .int .i64 0, .sl (some true) 1 false [], .sl (some true) 4 true []])), (1, .var 4 true (.agg [.int .i64 3, .int .i64 0, .sl (some true) 1 false [], .own 2])), (2, .own 47 4 true none (p.2.map e_api_Item))], 3⟩ : St) ∧ ((0 ≤ p.1) ∧ (p.1 ≤ (l.length : Int)) ∧ (((p.2).length : Int) ≤ p.1)) ∧ ((l.length : Int) - p.1).toNat < n ∧ iter n f1 d1 p = r) (((l.length : Int) - 0).toNat + 1) _ _ (weak_nilV 1 3 47 rfl rfl (by decide)) sbQ sbQ ⟨(0, ([] : List S_api_Item)), rfl, ⟨omQ, omQ, omQ⟩, (Nat.lt_succ_self _), hM⟩ ?_
 clear hM
 rintro n1 S ⟨p1, rfl, hfa1, hm1, hM⟩
 have hM0 := hM; clear hM; obtain ⟨ag1, hag1, hM⟩ := iter_step hM0 (by omega) hf1; clear hM0
 replace hfa1 := nzQ hfa1
 replace hm1 := nzQ hm1
 have ha1 : addI .i64 p1.1 1 = p1.1 + 1 := add_one omQ omQ
 refine spQA ha1 ?_
 have hF := ha1
 exact auQ
set_option maxHeartbeats 2000000 in
set_option maxRecDepth 100000 in
instance base_Item_ok   (b : S_api_Bases)  : CM En (base_Item b) 18 [(e_api_Bases b)] (fun y => .tup [.agg [.int .i64 y.1.Kind, .int .i64 y.1.N, .sl none 1 false (y.1.B.map (V.int .u8)), .sl none 4 true (y.1.L.map e_api_Item)], .int .i64 y.2]) (fun _ => []) := by
 refine cmQ fun r hM => ?_
 rw [base_Item.eq_1] at hM
 refine enterV En_ok En_mo noJ Tryd.func18 rfl Tryd.ntmps18 (by kernel_rfl) fun hw => ct_start ?_
 refine spQ ?_
 replace hw := nzQ hw
 have hF := trueQ
 exact auQ
set_option maxHeartbeats 2000000 in
set_option maxRecDepth 100000 in
theorem encode_within_1_ok (N : Nat) (ih : ∀  (i_ : S_api_Item) (depth : Int), hgt i_ < N → CallOk En 59 [.agg [.int .i64 i_.Kind, .int .i64 i_.N, .sl none 1 false (i_.B.map (V.int .u8)), .sl none 4 true (i_.L.map e_api_Item)], .int .i64 depth] (.bool (withinM i_ depth)) [])  (x_ : S_api_Item) (c0 : Int) (hp0 : hgt x_ < N) (hp1 : 0 < c0) : CallOk En 85 [.agg [.int .i64 x_.Kind, .int .i64 x_.N, .sl none 1 false (x_.B.map (V.int .u8)), .sl none 4 true (x_.L.map e_api_Item)], .pp 1 false (.int .i64 c0)] (.bool (encode_within_1 x_ c0)) [] := by
 generalize hM : encode_within_1 x_ c0 = r
 rw [encode_within_1.eq_1] at hM
 refine enterV En_ok En_mo noJ Tryd.func85 rfl Tryd.ntmps85 (by kernel_rfl) fun hw => ct_start ?_
 refine spQ ?_
 replace hw := nzQ hw
 have ha1 : subI .i64 c0 1 = (c0 - 1) := sub_ok omQ omQ
 try simp only [ha1]
 have hM0 := hM; clear hM; obtain ⟨x2, hx3, hM⟩ := letk_opn hM0; clear hM0
 have hcx2 := ih  x_ (c0 - 1)  (by omega)
 rw [← hx3] at hcx2
 refine callC_give hcx2 (clQA ha1) (clQA ha1) (fun hw4 => ?_)
 replace hw4 := nzQ hw4
 refine spQA ha1 ?_
 subst hM
 exact retC_view (lfQA ha1)
set_option maxHeartbeats 2000000 in
set_option maxRecDepth 100000 in
theorem slices_IndexFunc_api_Item_api_Item_at_encode_within_1_ok (N : Nat) (ih : ∀  (i_ : S_api_Item) (depth : Int), hgt i_ < N → CallOk En 59 [.agg [.int .i64 i_.Kind, .int .i64 i_.N, .sl none 1 false (i_.B.map (V.int .u8)), .sl none 4 true (i_.L.map e_api_Item)], .int .i64 depth] (.bool (withinM i_ depth)) []) (z0 : Option Bool) (s : (List S_api_Item)) (f__c0 : Int) (hp0 : ∀ x ∈ s, hgt x < N) (hp1 : 0 < f__c0) : CallOk En 112 [.sl z0 4 true (s.map e_api_Item), .fn 85 [.pp 1 false (.int .i64 f__c0)]] (.int .i64 (slices_IndexFunc_api_Item_api_Item_at_encode_within_1 s f__c0)) [] := by
 generalize hM : slices_IndexFunc_api_Item_api_Item_at_encode_within_1 s f__c0 = r
 rw [slices_IndexFunc_api_Item_api_Item_at_encode_within_1.eq_1] at hM
 refine enterV En_ok En_mo noJ Tryd.func112 rfl Tryd.ntmps112 (by kernel_rfl) fun hw => ct_start ?_
 refine spQ ?_
 replace hw := nzQ hw
 have hM0 := hM; clear hM; obtain ⟨f1, d1, hf1, hd1, hM⟩ := iter_opn hM0; clear hM0
 refine ct_loop (fun n S => ∃ p : Int, S = (⟨[(0, .sl z0 4 true (s.map e_api_Item)), (1, .fn 85 [.pp 1 false (.int .i64 f__c0)]), (7, .int .i64 (s.length : Int)), (8, .int .i64 p)], [], 0⟩ : St) ∧ ((0 ≤ p) ∧ (p ≤ (s.length : Int))) ∧ ((s.length : Int) - p).toNat < n ∧ iter n f1 d1 p = r) (((s.length : Int) - 0).toNat + 1) _ sbQ sbQ ⟨0, rfl, ⟨omQ, omQ⟩, (Nat.lt_succ_self _), hM⟩ ?_
 clear hM
 rintro n1 S ⟨p1, rfl, hfa1, hm1, hM⟩
 have hM0 := hM; clear hM; obtain ⟨ag1, hag1, hM⟩ := iter_step hM0 (by omega) hf1; clear hM0
 replace hfa1 := nzQ hfa1
 replace hm1 := nzQ hm1
 have ha1 : addI .i64 p1 1 = p1 + 1 := add_one omQ omQ
 refine spQA ha1 ?_
 refine condC_intro (fun h2 => ?_) (fun h2 => ?_)
 ·rw [if_pos h2] at hM
  refine spQA (And.intro ha1 h2) ?_
  have nh2 := nzQ h2
  try have hr3 := mpQ nh2
  refine bindC_intro omQ ?_
  have he4 := fun d => elt_mp (l := s) (f := e_api_Item) (i := p1) omQ d
  refine spQA (And.intro ha1 he4) ?_
  have hM0 := hM; clear hM; obtain ⟨x5, hx6, hM⟩ := letk_opn hM0; clear hM0
  have hcx5 := encode_within_1_ok N ih  (gt s p1) f__c0 (by (first | exact hp1 | exact hp0 _ (gt_mem (by omega)))) (by (first | exact hp1 | exact hp0 _ (gt_mem (by omega))))
  rw [← hx6] at hcx5
  refine callC_give hcx5 (clQA (And.intro ha1 he4)) (clQA (And.intro ha1 he4)) (fun hw7 => ?_)
  replace hw7 := nzQ hw7
  refine spQA (And.intro ha1 he4) ?_
  have hF := (And.intro ha1 (And.intro h2 he4))
  exact auQ
 ·rw [if_neg (ne_true h2)] at hM
  refine spQA (And.intro ha1 h2) ?_
  have nh2 := nzQ h2
  try have hr9 := mpQ nh2
  subst hM
  exact retC_view (lfQA (And.intro ha1 h2))
set_option maxHeartbeats 2000000 in
set_option maxRecDepth 100000 in
theorem slices_ContainsFunc_api_Item_api_Item_at_encode_within_1_ok (N : Nat) (ih : ∀  (i_ : S_api_Item) (depth : Int), hgt i_ < N → CallOk En 59 [.agg [.int .i64 i_.Kind, .int .i64 i_.N, .sl none 1 false (i_.B.map (V.int .u8)), .sl none 4 true (i_.L.map e_api_Item)], .int .i64 depth] (.bool (withinM i_ depth)) []) (z0 : Option Bool) (s : (List S_api_Item)) (f__c0 : Int) (hp0 : ∀ x ∈ s, hgt x < N) (hp1 : 0 < f__c0) : CallOk En 84 [.sl z0 4 true (s.map e_api_Item), .fn 85 [.pp 1 false (.int .i64 f__c0)]] (.bool (slices_ContainsFunc_api_Item_api_Item_at_encode_within_1 s f__c0)) [] := by
 generalize hM : slices_ContainsFunc_api_Item_api_Item_at_encode_within_1 s f__c0 = r
 rw [slices_ContainsFunc_api_Item_api_Item_at_encode_within_1.eq_1] at hM
 refine enterV En_ok En_mo noJ Tryd.func84 rfl Tryd.ntmps84 (by kernel_rfl) fun hw => ct_start ?_
 refine spQ ?_
 replace hw := nzQ hw
 have hM0 := hM; clear hM; obtain ⟨x1, hx2, hM⟩ := letk_opn hM0; clear hM0
 have hcx1 := slices_IndexFunc_api_Item_api_Item_at_encode_within_1_ok N ih z0 s f__c0 (by (first | exact hp1 | exact hp0)) (by (first | exact hp1 | exact hp0))
 rw [← hx2] at hcx1
 refine callC_give hcx1 clQ clQ (fun hw3 => ?_)
 replace hw3 := nzQ hw3
 refine spQ ?_
 subst hM
 exact retC_view lfQ
set_option maxHeartbeats 2000000 in
set_option maxRecDepth 100000 in
theorem encode_within_ok (N : Nat) (ih : ∀  (i_ : S_api_Item) (depth : Int), hgt i_ < N → CallOk En 59 [.agg [.int .i64 i_.Kind, .int .i64 i_.N, .sl none 1 false (i_.B.map (V.int .u8)), .sl none 4 true (i_.L.map e_api_Item)], .int .i64 depth] (.bool (withinM i_ depth)) [])  (i_ : S_api_Item) (depth : Int) (hp_ : hgt i_ < N + 1) : CallOk En 59 [.agg [.int .i64 i_.Kind, .int .i64 i_.N, .sl none 1 false (i_.B.map (V.int .u8)), .sl none 4 true (i_.L.map e_api_Item)], .int .i64 depth] (.bool (encode_within i_ depth)) [] := by
 generalize hM : encode_within i_ depth = r
 rw [encode_within.eq_1] at hM
 refine enterV En_ok En_mo noJ Tryd.func59 rfl Tryd.ntmps59 (by kernel_rfl) fun hw => ct_start ?_
 refine spQ ?_
 replace hw := nzQ hw
 refine condC_intro (fun h1 => ?_) (fun h1 => ?_)
 ·rw [if_pos h1] at hM
  refine spQA h1 ?_
  have nh1 := nzQ h1
  try have hr2 := mpQ nh1
  have hF := h1
  exact auQ
 ·rw [if_neg (ne_true h1)] at hM
  refine spQA h1 ?_
  have nh1 := nzQ h1
  try have hr6 := mpQ nh1
  refine condC_intro (fun h7 => ?_) (fun h7 => ?_)
  ·rw [if_pos h7] at hM
   refine spQA h7 ?_
   have nh7 := nzQ h7
   try have hr8 := mpQ nh7
   have hF := (And.intro h1 h7)
   exact auQ
  ·rw [if_neg (ne_true h7)] at hM
   refine spQA h7 ?_
   have nh7 := nzQ h7
   try have hr12 := mpQ nh7
   refine condC_intro (fun h13 => ?_) (fun h13 => ?_)
   ·rw [if_pos h13] at hM
    refine spQA h13 ?_
    have nh13 := nzQ h13
    try have hr14 := mpQ nh13
    refine guardC_t (fun h15 => ?_) (fun h15 => ?_)
    ·rw [if_pos h15] at hM
     refine spQA h15 ?_
     have nh15 := nzQ h15
     try have hr16 := mpQ nh15
     refine guardC_t (fun h17 => ?_) (fun h17 => ?_)
     ·rw [if_pos h17] at hM
      refine spQA h17 ?_
      have nh17 := nzQ h17
      try have hr18 := mpQ nh17
      refine guardC_t (fun h19 => ?_) (fun h19 => ?_)
      ·rw [if_pos h19] at hM
       refine spQA h19 ?_
       have nh19 := nzQ h19
       try have hr20 := mpQ nh19
       refine guardC_t (fun h21 => ?_) (fun h21 => ?_)
       ·rw [if_pos h21] at hM
        refine spQA h21 ?_
        have nh21 := nzQ h21
        try have hr22 := mpQ nh21
        have hM0 := hM; clear hM; obtain ⟨x23, hx24, hM⟩ := letk_opn hM0; clear hM0
        have hcx23 := slices_ContainsFunc_api_Item_api_Item_at_encode_within_1_ok N ih none (i_.L) depth (by (first | omega | exact fun x hx => Nat.lt_of_lt_of_le (hgt_L hx) (Nat.lt_succ_iff.1 hp_))) (by (first | omega | exact fun x hx => Nat.lt_of_lt_of_le (hgt_L hx) (Nat.lt_succ_iff.1 hp_)))
        rw [← hx24] at hcx23
        refine callC_look hcx23 clQ clQ (fun hw25 => ?_)
        replace hw25 := nzQ hw25
        refine spQ ?_
        subst hM
        exact retC_view (lfQA (And.intro h1 (And.intro h7 (And.intro h13 (And.intro h15 (And.intro h17 (And.intro h19 h21)))))))
       ·rw [if_neg (ne_true h21)] at hM
        refine spQA h21 ?_
        have nh21 := nzQ h21
        try have hr26 := mpQ nh21
        subst hM
        exact retC_view (lfQA (And.intro h1 (And.intro h7 (And.intro h13 (And.intro h15 (And.intro h17 (And.intro h19 h21)))))))
      ·rw [if_neg (ne_true h19)] at hM
       refine spQA h19 ?_
       have nh19 := nzQ h19
       try have hr27 := mpQ nh19
       subst hM
       exact retC_view (lfQA (And.intro h1 (And.intro h7 (And.intro h13 (And.intro h15 (And.intro h17 h19))))))
     ·rw [if_neg (ne_true h17)] at hM
      refine spQA h17 ?_
      have nh17 := nzQ h17
      try have hr28 := mpQ nh17
      subst hM
      exact retC_view (lfQA (And.intro h1 (And.intro h7 (And.intro h13 (And.intro h15 h17)))))
    ·rw [if_neg (ne_true h15)] at hM
     refine spQA h15 ?_
     have nh15 := nzQ h15
     try have hr29 := mpQ nh15
     subst hM
     exact retC_view (lfQA (And.intro h1 (And.intro h7 (And.intro h13 h15))))
   ·rw [if_neg (ne_true h13)] at hM
    refine spQA h13 ?_
    have nh13 := nzQ h13
    try have hr30 := mpQ nh13
    subst hM
    exact retC_view (lfQA (And.intro h1 (And.intro h7 h13)))
theorem withinM_okN : ∀ (N : Nat)  (i_ : S_api_Item) (depth : Int), hgt i_ < N → CallOk En 59 [.agg [.int .i64 i_.Kind, .int .i64 i_.N, .sl none 1 false (i_.B.map (V.int .u8)), .sl none 4 true (i_.L.map e_api_Item)], .int .i64 depth] (.bool (withinM i_ depth)) [] := by
 intro N
 induction N with
 | zero => intro i_ depth  h; exact absurd h (Nat.not_lt_zero _)
 | succ N ih =>
  intro i_ depth  h
  have h9 := encode_within_ok N ih i_ depth  h
  rw [encode_within_eqM] at h9
  exact h9
theorem withinM_ok  (i_ : S_api_Item) (depth : Int)  : CallOk En 59 [.agg [.int .i64 i_.Kind, .int .i64 i_.N, .sl none 1 false (i_.B.map (V.int .u8)), .sl none 4 true (i_.L.map e_api_Item)], .int .i64 depth] (.bool (withinM i_ depth)) [] :=
 withinM_okN (hgt i_ + 1) i_ depth  (Nat.lt_succ_self _)
set_option maxHeartbeats 2000000 in
set_option maxRecDepth 100000 in
instance encode_Valid_ok   (i_ : S_api_Item)  : CM En (encode_Valid i_) 40 [.agg [.int .i64 i_.Kind, .int .i64 i_.N, .sl none 1 false (i_.B.map (V.int .u8)), .sl none 4 true (i_.L.map e_api_Item)]] (fun y => .bool y) (fun _ => []) := by
 refine cmQ fun r hM => ?_
 rw [encode_Valid.eq_1] at hM
 refine enterV En_ok En_mo noJ Tryd.func40 rfl Tryd.ntmps40 (by kernel_rfl) fun hw => ct_start ?_
 refine spQ ?_
 replace hw := nzQ hw
 have hM0 := hM; clear hM; obtain ⟨x1, hx2, hM⟩ := letk_opn hM0; clear hM0
 have hcx1 := withinM_ok  i_ 8 
 rw [← hx2] at hcx1
 refine callC_give hcx1 clQ clQ (fun hw3 => ?_)
 replace hw3 := nzQ hw3
 refine spQ ?_
 subst hM
 exact retC_view lfQ
set_option maxHeartbeats 2000000 in
set_option maxRecDepth 100000 in
theorem encode_number_ok  (z0 : Option Bool) (out : (List Int)) (n_ : Int) (size : Int) (hp0 : size ≤ 8) (hp1 : out.length ≤ 1000000000) (hp2 : 0 ≤ size) : CallIn En 60 [.own 0, .int .u64 n_, .int .i64 size] [.own 5 1 false z0 (out.map (V.int .u8))] (.own 0) [.own 5 1 false none ((encode_number out n_ size).map (V.int .u8))] [] := by
 generalize hM : encode_number out n_ size = r
 rw [encode_number.eq_1] at hM
 refine enterI En_ok En_mo noJ Tryd.func60 rfl Tryd.ntmps60 (by kernel_rfl) rfl fun ks hw hwB => ct_start ?_
 refine spQ ?_
 replace hw := nzQ hw
 try simp only [wfBs, wfB, decide_eq_true_eq, decide_eq_false_iff_not, Bool.and_eq_true, Bool.or_eq_true, Bool.not_eq_true', Bool.not_eq_false', beq_iff_eq, bne_iff_ne, beq_eq_false_iff_ne, bne_eq_false_iff_eq, ne_eq, Int.not_lt, Int.not_le, gt_iff_lt, ge_iff_le, List.length_map, wfL, wfV, and_true, true_and, LEN_eq, rng_i64, rng_u64, rng_u32, rng_i32, sl_len, st_len, List.length_append, List.length_cons, List.length_nil, List.length_replicate, rep_len, rowV_len, spl_len, cutN_len, arrN_len, nat8_len, remI_nn] at hwB
 have ha1 : subI .i64 size 1 = (size - 1) := sub_ok omQ omQ
 try simp only [ha1]
 have hM0 := hM; clear hM; obtain ⟨f2, d2, hf2, hd2, hM⟩ := iter_opn hM0; clear hM0
 refine ct_loop (fun n S => ∃ p : Int × List Int, S = (⟨[(0, .own 0), (1, .int .u64 n_), (7, .int .i64 p.1)], [(0, .own 5 1 false none (p.2.map (V.int .u8)))], 1⟩ : St) ∧ ((-1 ≤ p.1) ∧ (p.1 < 8) ∧ (((p.2).length : Int) + p.1 ≤ 1000000020)) ∧ (p.1 + 1).toNat < n ∧ iter n f2 d2 p = r) (((size - 1) + 1).toNat + 1) _ sbQ sbQ ⟨((size - 1), out), rfl, ⟨omQ, omQ, omQ⟩, (Nat.lt_succ_self _), hM⟩ ?_
 clear hM
 rintro n2 S ⟨p2, rfl, hfa2, hm2, hM⟩
 have hM0 := hM; clear hM; obtain ⟨ag2, hag2, hM⟩ := iter_step hM0 (by omega) hf2; clear hM0
 replace hfa2 := nzQ hfa2
 replace hm2 := nzQ hm2
 refine spQA ha1 ?_
 refine condC_intro (fun h3 => ?_) (fun h3 => ?_)
 ·rw [if_pos h3] at hM
  refine spQA (And.intro ha1 h3) ?_
  have nh3 := nzQ h3
  try have hr4 := mpQ nh3
  obtain ⟨ha5, hbha5⟩ := mul_pos_ok (a := 8) (b := p2.1) 8 8 64 omQ omQ omQ omQ (by decide) (by decide)
  try simp only [ha5]
  refine bindC_intro omQ ?_
  refine spQA (And.intro ha1 ha5) ?_
  refine bindC_intro omQ ?_
  refine spQA (And.intro ha1 ha5) ?_
  have ha6 : subI .i64 p2.1 1 = (p2.1 - 1) := sub_ok omQ omQ
  try simp only [ha6]
  refine lp_intro (n2 - 1) _ (by omega) sbQ sbQ ⟨((p2.1 - 1), (p2.2 ++ ([(convI .u8 (shrI .u64 n_ (8 * p2.1)))] : List Int))), rfl, ⟨omQ, omQ, omQ⟩, omQ, iter_again hM hag2⟩
 ·rw [if_neg (ne_true h3)] at hM
  refine spQA (And.intro ha1 h3) ?_
  have nh3 := nzQ h3
  try have hr7 := mpQ nh3
  subst hM
  exact retCI_in [0] (by simp only [go_sem, rowV_eq, rowV_eq0, List.length_replicate, rep_len, Int.toNat_natCast, ↓reduceIte, Nat.reduceEqDiff, Nat.reduceAdd, Int.reduceAdd, Nat.reduceMul, Nat.reduceLeDiff, Nat.reduceLT, Int.reduceLE, Int.reduceLT, Int.reduceNeg, Int.reduceToNat, mt, mtL, mtL_self, mt_self, mtZ, and_self, eq_self, or_true, true_or, map_st, ha1, gt_cons0, gt_conss, Int.reduceSub, or_self, h3]) (by decide) (by simp only [go_sem, rowV_eq, rowV_eq0, List.length_replicate, rep_len, Int.toNat_natCast, ↓reduceIte, Nat.reduceEqDiff, Nat.reduceAdd, Int.reduceAdd, Nat.reduceMul, Nat.reduceLeDiff, Nat.reduceLT, Int.reduceLE, Int.reduceLT, Int.reduceNeg, Int.reduceToNat, mt, mtL, mtL_self, mt_self, mtZ, and_self, eq_self, or_true, true_or, map_st, ha1, gt_cons0, gt_conss, Int.reduceSub, or_self, h3])
set_option maxHeartbeats 2000000 in
set_option maxRecDepth 100000 in
theorem encode_write_ok (N : Nat) (ih : ∀ (z0 : Option Bool) (out : (List Int)) (i_ : S_api_Item), (hgt i_ ≤ 500000000) → hgt i_ < N → CallIn En 41 [.own 0, .agg [.int .i64 i_.Kind, .int .i64 i_.N, .sl none 1 false (i_.B.map (V.int .u8)), .sl none 4 true (i_.L.map e_api_Item)]] [.own 5 1 false z0 (out.map (V.int .u8))] (.own 0) [.own 5 1 false none ((writeM out i_).map (V.int .u8))] []) (z0 : Option Bool) (out : (List Int)) (i_ : S_api_Item) (hp0 : hgt i_ ≤ 500000000) (hp_ : hgt i_ < N + 1) : CallIn En 41 [.own 0, .agg [.int .i64 i_.Kind, .int .i64 i_.N, .sl none 1 false (i_.B.map (V.int .u8)), .sl none 4 true (i_.L.map e_api_Item)]] [.own 5 1 false z0 (out.map (V.int .u8))] (.own 0) [.own 5 1 false none ((encode_write out i_).map (V.int .u8))] [] := by
 generalize hM : encode_write out i_ = r
 rw [encode_write.eq_1] at hM
 refine enterI En_ok En_mo noJ Tryd.func41 rfl Tryd.ntmps41 (by kernel_rfl) rfl fun ks hw hwB => ct_start ?_
 refine spQ ?_
 replace hw := nzQ hw
 try simp only [wfBs, wfB, decide_eq_true_eq, decide_eq_false_iff_not, Bool.and_eq_true, Bool.or_eq_true, Bool.not_eq_true', Bool.not_eq_false', beq_iff_eq, bne_iff_ne, beq_eq_false_iff_ne, bne_eq_false_iff_eq, ne_eq, Int.not_lt, Int.not_le, gt_iff_lt, ge_iff_le, List.length_map, wfL, wfV, and_true, true_and, LEN_eq, rng_i64, rng_u64, rng_u32, rng_i32, sl_len, st_len, List.length_append, List.length_cons, List.length_nil, List.length_replicate, rep_len, rowV_len, spl_len, cutN_len, arrN_len, nat8_len, remI_nn] at hwB
 refine condC_intro (fun h1 => ?_) (fun h1 => ?_)
 ·rw [if_pos h1] at hM
  refine spQA h1 ?_
  have nh1 := nzQ h1
  try have hr2 := mpQ nh1
  subst hM
  exact retCI_in [0] (by simp only [go_sem, rowV_eq, rowV_eq0, List.length_replicate, rep_len, Int.toNat_natCast, ↓reduceIte, Nat.reduceEqDiff, Nat.reduceAdd, Int.reduceAdd, Nat.reduceMul, Nat.reduceLeDiff, Nat.reduceLT, Int.reduceLE, Int.reduceLT, Int.reduceNeg, Int.reduceToNat, mt, mtL, mtL_self, mt_self, mtZ, and_self, eq_self, or_true, true_or, map_st, gt_cons0, gt_conss, Int.reduceSub, or_self, h1]) (by decide) (by simp only [go_sem, rowV_eq, rowV_eq0, List.length_replicate, rep_len, Int.toNat_natCast, ↓reduceIte, Nat.reduceEqDiff, Nat.reduceAdd, Int.reduceAdd, Nat.reduceMul, Nat.reduceLeDiff, Nat.reduceLT, Int.reduceLE, Int.reduceLT, Int.reduceNeg, Int.reduceToNat, mt, mtL, mtL_self, mt_self, mtZ, and_self, eq_self, or_true, true_or, map_st, gt_cons0, gt_conss, Int.reduceSub, or_self, h1])
 ·rw [if_neg (ne_true h1)] at hM
  refine spQA h1 ?_
  have nh1 := nzQ h1
  try have hr3 := mpQ nh1
  refine bindC_intro (by (first | exact omQ | (clear hM; first | (have h9 := hgt_eq i_; exact omQ')))) ?_
  refine spQ ?_
  refine condC_intro (fun h4 => ?_) (fun h4 => ?_)
  ·rw [if_pos h4] at hM
   refine spQA h4 ?_
   have nh4 := nzQ h4
   try have hr5 := mpQ nh4
   have hM0 := hM; clear hM; obtain ⟨x6, hx7, hM⟩ := letk_opn hM0; clear hM0
   have hcx6 := encode_number_ok (some false) (out ++ ([(convI .u8 i_.Kind)] : List Int)) (convI .u64 i_.N) 8 (by (exact pfQ)) (by (exact pfQ)) (by (exact pfQ))
   rw [← hx7] at hcx6
   refine callC_in [0] hcx6 (by decide) (by simp only [go_sem, rowV_eq, rowV_eq0, List.length_replicate, rep_len, Int.toNat_natCast, ↓reduceIte, Nat.reduceEqDiff, Nat.reduceAdd, Int.reduceAdd, Nat.reduceMul, Nat.reduceLeDiff, Nat.reduceLT, Int.reduceLE, Int.reduceLT, Int.reduceNeg, Int.reduceToNat, mt, mtL, mtL_self, mt_self, mtZ, and_self, eq_self, or_true, true_or]) (by simp only [go_sem, rowV_eq, rowV_eq0, List.length_replicate, rep_len, Int.toNat_natCast, ↓reduceIte, Nat.reduceEqDiff, Nat.reduceAdd, Int.reduceAdd, Nat.reduceMul, Nat.reduceLeDiff, Nat.reduceLT, Int.reduceLE, Int.reduceLT, Int.reduceNeg, Int.reduceToNat, mt, mtL, mtL_self, mt_self, mtZ, and_self, eq_self, or_true, true_or]) (fun hw8 => ?_)
   replace hw8 := nzQ hw8
   refine spQ ?_
   have hq9 := num_le hx7
   replace hq9 := nzQ hq9
   subst hM
   exact retCI_in [0] (by simp only [go_sem, rowV_eq, rowV_eq0, List.length_replicate, rep_len, Int.toNat_natCast, ↓reduceIte, Nat.reduceEqDiff, Nat.reduceAdd, Int.reduceAdd, Nat.reduceMul, Nat.reduceLeDiff, Nat.reduceLT, Int.reduceLE, Int.reduceLT, Int.reduceNeg, Int.reduceToNat, mt, mtL, mtL_self, mt_self, mtZ, and_self, eq_self, or_true, true_or, map_st, gt_cons0, gt_conss, Int.reduceSub, or_self, h1, h4]) (by decide) (by simp only [go_sem, rowV_eq, rowV_eq0, List.length_replicate, rep_len, Int.toNat_natCast, ↓reduceIte, Nat.reduceEqDiff, Nat.reduceAdd, Int.reduceAdd, Nat.reduceMul, Nat.reduceLeDiff, Nat.reduceLT, Int.reduceLE, Int.reduceLT, Int.reduceNeg, Int.reduceToNat, mt, mtL, mtL_self, mt_self, mtZ, and_self, eq_self, or_true, true_or, map_st, gt_cons0, gt_conss, Int.reduceSub, or_self, h1, h4])
  ·rw [if_neg (ne_true h4)] at hM
   refine spQA h4 ?_
   have nh4 := nzQ h4
   try have hr10 := mpQ nh4
   refine condC_intro (fun h11 => ?_) (fun h11 => ?_)
   ·rw [if_pos h11] at hM
    refine spQA h11 ?_
    have nh11 := nzQ h11
    try have hr12 := mpQ nh11
    refine ct_draw 55 8 [28, 29, 30, 31, 32, 33, 34, 35] [] ([[], [], [1], [1, 2], [1, 2, 3], [0, 1, 2, 3, 4], [], [6]] ++ [List.range 8, List.range 9]) [(5, 0)] (by kernel_rfl) (by exact alQ) ?_
    refine spQ ?_
    have hM0 := hM; clear hM; obtain ⟨x13, hx14, hM⟩ := letk_opn hM0; clear hM0
    have hcx13 := encode_number_ok (some false) (out ++ ([(convI .u8 i_.Kind)] : List Int)) (convI .u64 (i_.B.length : Int)) 4 (by (exact pfQ)) (by (exact pfQ)) (by (exact pfQ))
    rw [← hx14] at hcx13
    refine hcallC_kill 0 hcx13 (by simp only [go_sem, rowV_eq, rowV_eq0, List.length_replicate, rep_len, Int.toNat_natCast, ↓reduceIte, Nat.reduceEqDiff, Nat.reduceAdd, Int.reduceAdd, Nat.reduceMul, Nat.reduceLeDiff, Nat.reduceLT, Int.reduceLE, Int.reduceLT, Int.reduceNeg, Int.reduceToNat, mt, mtL, mtL_self, mt_self, mtZ, and_self, eq_self, or_true, true_or]) (by simp only [go_sem, rowV_eq, rowV_eq0, List.length_replicate, rep_len, Int.toNat_natCast, ↓reduceIte, Nat.reduceEqDiff, Nat.reduceAdd, Int.reduceAdd, Nat.reduceMul, Nat.reduceLeDiff, Nat.reduceLT, Int.reduceLE, Int.reduceLT, Int.reduceNeg, Int.reduceToNat, mt, mtL, mtL_self, mt_self, mtZ, and_self, eq_self, or_true, true_or]) (by simp only [go_sem, rowV_eq, rowV_eq0, List.length_replicate, rep_len, Int.toNat_natCast, ↓reduceIte, Nat.reduceEqDiff, Nat.reduceAdd, Int.reduceAdd, Nat.reduceMul, Nat.reduceLeDiff, Nat.reduceLT, Int.reduceLE, Int.reduceLT, Int.reduceNeg, Int.reduceToNat, mt, mtL, mtL_self, mt_self, mtZ, and_self, eq_self, or_true, true_or]) (flatL_map fun _ => (by simp only [go_sem, rowV_eq, rowV_eq0, List.length_replicate, rep_len, Int.toNat_natCast, ↓reduceIte, Nat.reduceEqDiff, Nat.reduceAdd, Int.reduceAdd, Nat.reduceMul, Nat.reduceLeDiff, Nat.reduceLT, Int.reduceLE, Int.reduceLT, Int.reduceNeg, Int.reduceToNat, mt, mtL, mtL_self, mt_self, mtZ, and_self, eq_self, or_true, true_or])) ?_
    refine spQ ?_
    have hq15 := num_le hx14
    replace hq15 := nzQ hq15
    refine bindC_intro (by (first | exact omQ | (clear hM; first | (have h9 := hgt_eq i_; exact omQ')))) ?_
    refine spQ ?_
    subst hM
    exact retCI_in [8] (by simp only [go_sem, rowV_eq, rowV_eq0, List.length_replicate, rep_len, Int.toNat_natCast, ↓reduceIte, Nat.reduceEqDiff, Nat.reduceAdd, Int.reduceAdd, Nat.reduceMul, Nat.reduceLeDiff, Nat.reduceLT, Int.reduceLE, Int.reduceLT, Int.reduceNeg, Int.reduceToNat, mt, mtL, mtL_self, mt_self, mtZ, and_self, eq_self, or_true, true_or, map_st, gt_cons0, gt_conss, Int.reduceSub, or_self, h1, h4, h11]) (by decide) (by simp only [go_sem, rowV_eq, rowV_eq0, List.length_replicate, rep_len, Int.toNat_natCast, ↓reduceIte, Nat.reduceEqDiff, Nat.reduceAdd, Int.reduceAdd, Nat.reduceMul, Nat.reduceLeDiff, Nat.reduceLT, Int.reduceLE, Int.reduceLT, Int.reduceNeg, Int.reduceToNat, mt, mtL, mtL_self, mt_self, mtZ, and_self, eq_self, or_true, true_or, map_st, gt_cons0, gt_conss, Int.reduceSub, or_self, h1, h4, h11])
   ·rw [if_neg (ne_true h11)] at hM
    refine spQA h11 ?_
    have nh11 := nzQ h11
    try have hr16 := mpQ nh11
    have hM0 := hM; clear hM; obtain ⟨x17, hx18, hM⟩ := letk_opn hM0; clear hM0
    have hcx17 := encode_number_ok (some false) (out ++ ([(convI .u8 i_.Kind)] : List Int)) (convI .u64 (i_.L.length : Int)) 4 (by (exact pfQ)) (by (exact pfQ)) (by (exact pfQ))
    rw [← hx18] at hcx17
    refine callC_in [0] hcx17 (by decide) (by simp only [go_sem, rowV_eq, rowV_eq0, List.length_replicate, rep_len, Int.toNat_natCast, ↓reduceIte, Nat.reduceEqDiff, Nat.reduceAdd, Int.reduceAdd, Nat.reduceMul, Nat.reduceLeDiff, Nat.reduceLT, Int.reduceLE, Int.reduceLT, Int.reduceNeg, Int.reduceToNat, mt, mtL, mtL_self, mt_self, mtZ, and_self, eq_self, or_true, true_or]) (by simp only [go_sem, rowV_eq, rowV_eq0, List.length_replicate, rep_len, Int.toNat_natCast, ↓reduceIte, Nat.reduceEqDiff, Nat.reduceAdd, Int.reduceAdd, Nat.reduceMul, Nat.reduceLeDiff, Nat.reduceLT, Int.reduceLE, Int.reduceLT, Int.reduceNeg, Int.reduceToNat, mt, mtL, mtL_self, mt_self, mtZ, and_self, eq_self, or_true, true_or]) (fun hw19 => ?_)
    replace hw19 := nzQ hw19
    refine spQ ?_
    have hq20 := num_le hx18
    replace hq20 := nzQ hq20
    have hM0 := hM; clear hM; obtain ⟨f21, d21, hf21, hd21, hM⟩ := iter_opn hM0; clear hM0
    refine ct_loop (fun n S => ∃ p : Int × List Int, S = (⟨[(0, .own 0), (44, .sl none 4 true (i_.L.map e_api_Item)), (45, .int .i64 (i_.L.length : Int)), (46, .int .i64 p.1)], [(0, .own 5 1 false none (p.2.map (V.int .u8)))], 3⟩ : St) ∧ ((0 ≤ p.1) ∧ (p.1 ≤ (i_.L.length : Int))) ∧ ((i_.L.length : Int) - p.1).toNat < n ∧ iter n f21 d21 p = r) (((i_.L.length : Int) - 0).toNat + 1) _ sbQ sbQ ⟨(0, x17), rfl, ⟨by (first | exact omQ | (clear hM; first | (have h9 := hgt_eq i_; exact omQ'))), by (first | exact omQ | (clear hM; first | (have h9 := hgt_eq i_; exact omQ')))⟩, (Nat.lt_succ_self _), hM⟩ ?_
    clear hM
    rintro n21 S ⟨p21, rfl, hfa21, hm21, hM⟩
    have hM0 := hM; clear hM; obtain ⟨ag21, hag21, hM⟩ := iter_step hM0 (by omega) hf21; clear hM0
    replace hfa21 := nzQ hfa21
    replace hm21 := nzQ hm21
    have ha21 : addI .i64 p21.1 1 = p21.1 + 1 := add_one (by (first | exact omQ | (clear hM; first | (have h9 := hgt_eq i_; exact omQ')))) (by (first | exact omQ | (clear hM; first | (have h9 := hgt_eq i_; exact omQ'))))
    refine spQA ha21 ?_
    refine condC_intro (fun h22 => ?_) (fun h22 => ?_)
    ·rw [if_pos h22] at hM
     refine spQA (And.intro ha21 h22) ?_
     have nh22 := nzQ h22
     try have hr23 := mpQ nh22
     refine bindC_intro (by (first | exact omQ | (clear hM; first | (have h9 := hgt_eq i_; exact omQ')))) ?_
     have he24 := fun d => elt_mp (l := i_.L) (f := e_api_Item) (i := p21.1) (by (first | exact omQ | (clear hM; first | (have h9 := hgt_eq i_; exact omQ')))) d
     refine spQA (And.intro ha21 he24) ?_
     have hM0 := hM; clear hM; obtain ⟨x25, hx26, hM⟩ := letk_opn hM0; clear hM0
     have hcx25 := ih none (p21.2) (gt i_.L p21.1) (by (have h9 := hgt_L (i := i_) (gt_mem (l := i_.L) (i := p21.1) (by omega)); omega)) (by (have h9 := hgt_L (i := i_) (gt_mem (l := i_.L) (i := p21.1) (by omega)); omega))
     rw [← hx26] at hcx25
     refine callC_in [0] hcx25 (by decide) (by simp only [go_sem, rowV_eq, rowV_eq0, List.length_replicate, rep_len, Int.toNat_natCast, ↓reduceIte, Nat.reduceEqDiff, Nat.reduceAdd, Int.reduceAdd, Nat.reduceMul, Nat.reduceLeDiff, Nat.reduceLT, Int.reduceLE, Int.reduceLT, Int.reduceNeg, Int.reduceToNat, mt, mtL, mtL_self, mt_self, mtZ, and_self, eq_self, or_true, true_or, ha21, he24]) (by simp only [go_sem, rowV_eq, rowV_eq0, List.length_replicate, rep_len, Int.toNat_natCast, ↓reduceIte, Nat.reduceEqDiff, Nat.reduceAdd, Int.reduceAdd, Nat.reduceMul, Nat.reduceLeDiff, Nat.reduceLT, Int.reduceLE, Int.reduceLT, Int.reduceNeg, Int.reduceToNat, mt, mtL, mtL_self, mt_self, mtZ, and_self, eq_self, or_true, true_or, ha21, he24]) (fun hw27 => ?_)
     replace hw27 := nzQ hw27
     refine spQA (And.intro ha21 he24) ?_
     refine lp_intro (n21 - 1) _ (by omega) sbQ sbQ ⟨((p21.1 + 1), x25), rfl, ⟨by (first | exact omQ | (clear hM; first | (have h9 := hgt_eq i_; exact omQ'))), by (first | exact omQ | (clear hM; first | (have h9 := hgt_eq i_; exact omQ')))⟩, by (first | exact omQ | (clear hM; first | (have h9 := hgt_eq i_; exact omQ'))), iter_again hM hag21⟩
    ·rw [if_neg (ne_true h22)] at hM
     refine spQA (And.intro ha21 h22) ?_
     have nh22 := nzQ h22
     try have hr28 := mpQ nh22
     subst hM
     exact retCI_in [0] (by simp only [go_sem, rowV_eq, rowV_eq0, List.length_replicate, rep_len, Int.toNat_natCast, ↓reduceIte, Nat.reduceEqDiff, Nat.reduceAdd, Int.reduceAdd, Nat.reduceMul, Nat.reduceLeDiff, Nat.reduceLT, Int.reduceLE, Int.reduceLT, Int.reduceNeg, Int.reduceToNat, mt, mtL, mtL_self, mt_self, mtZ, and_self, eq_self, or_true, true_or, map_st, ha21, gt_cons0, gt_conss, Int.reduceSub, or_self, h1, h4, h11, h22]) (by decide) (by simp only [go_sem, rowV_eq, rowV_eq0, List.length_replicate, rep_len, Int.toNat_natCast, ↓reduceIte, Nat.reduceEqDiff, Nat.reduceAdd, Int.reduceAdd, Nat.reduceMul, Nat.reduceLeDiff, Nat.reduceLT, Int.reduceLE, Int.reduceLT, Int.reduceNeg, Int.reduceToNat, mt, mtL, mtL_self, mt_self, mtZ, and_self, eq_self, or_true, true_or, map_st, ha21, gt_cons0, gt_conss, Int.reduceSub, or_self, h1, h4, h11, h22])
theorem writeM_okN : ∀ (N : Nat) (z0 : Option Bool) (out : (List Int)) (i_ : S_api_Item), (hgt i_ ≤ 500000000) → hgt i_ < N → CallIn En 41 [.own 0, .agg [.int .i64 i_.Kind, .int .i64 i_.N, .sl none 1 false (i_.B.map (V.int .u8)), .sl none 4 true (i_.L.map e_api_Item)]] [.own 5 1 false z0 (out.map (V.int .u8))] (.own 0) [.own 5 1 false none ((writeM out i_).map (V.int .u8))] [] := by
 intro N
 induction N with
 | zero => intro z0 out i_ h0 h; exact absurd h (Nat.not_lt_zero _)
 | succ N ih =>
  intro z0 out i_ h0 h
  have h9 := encode_write_ok N ih z0 out i_ h0 h
  rw [encode_write_eqM] at h9
  exact h9
theorem writeM_ok (z0 : Option Bool) (out : (List Int)) (i_ : S_api_Item) (hp0 : hgt i_ ≤ 500000000) : CallIn En 41 [.own 0, .agg [.int .i64 i_.Kind, .int .i64 i_.N, .sl none 1 false (i_.B.map (V.int .u8)), .sl none 4 true (i_.L.map e_api_Item)]] [.own 5 1 false z0 (out.map (V.int .u8))] (.own 0) [.own 5 1 false none ((writeM out i_).map (V.int .u8))] [] :=
 writeM_okN (hgt i_ + 1) z0 out i_ hp0 (Nat.lt_succ_self _)
set_option maxHeartbeats 2000000 in
set_option maxRecDepth 100000 in
theorem encode_Encode_ok   (i_ : S_api_Item) (hp0 : hgt i_ ≤ 500000000) : CM En (encode_Encode i_) 20 [.agg [.int .i64 i_.Kind, .int .i64 i_.N, .sl none 1 false (i_.B.map (V.int .u8)), .sl none 4 true (i_.L.map e_api_Item)]] (fun y => .tup [.sl none 1 false (y.1.map (V.int .u8)), .int .i64 y.2]) (fun _ => []) := by
 refine cmQ fun r hM => ?_
 rw [encode_Encode.eq_1] at hM
 refine enterV En_ok En_mo noJ Tryd.func20 rfl Tryd.ntmps20 (by kernel_rfl) fun hw => ct_start ?_
 refine spQ ?_
 replace hw := nzQ hw
 have hM0 := hM; clear hM; obtain ⟨x1, hx2, hM⟩ := letk_opn hM0; clear hM0
 have hcx1 := cmU hx2
 refine callC_give hcx1 clQ clQ (fun hw3 => ?_)
 replace hw3 := nzQ hw3
 refine spQ ?_
 refine condC_intro (fun h4 => ?_) (fun h4 => ?_)
 ·rw [if_pos h4] at hM
  refine spQA h4 ?_
  have nh4 := nzQ h4
  try have hr5 := mpQ nh4
  subst hM
  exact retC_view (lfQA h4)
 ·rw [if_neg (ne_true h4)] at hM
  refine spQA h4 ?_
  have nh4 := nzQ h4
  try have hr6 := mpQ nh4
  have hM0 := hM; clear hM; obtain ⟨x7, hx8, hM⟩ := letk_opn hM0; clear hM0
  have hcx7 := callIn_nil (pre := []) (post := [_]) (writeM_ok (some true) ([] : List Int) i_ (by (exact pfQ))) (by decide)
  rw [← hx8] at hcx7
  simp only [List.nil_append, List.cons_append] at hcx7
  refine callC_giveG hcx7 clQ (fun hw9 => ?_)
  replace hw9 := nzQ hw9
  refine spQ ?_
  have hF := h4
  exact auQ
set_option maxRecDepth 100000 in
theorem bytes_Clone_ok (z0 : Option Bool) (s : List Int) : CallOk En 43 [.sl z0 1 false (s.map (V.int .u8))] (.own 0) [.own 5 1 false none ((bytes_Clone s).map (V.int .u8))] := by
 show CallOk En 43 [.sl z0 1 false (s.map (V.int .u8))] (.own 0) [.own 5 1 false none (s.map (V.int .u8))]
 refine callOk_nil (pre := []) (post := []) (fun hl => ?_) ?_ z0
 ·have hl : s = [] := by cases s with | nil => rfl | cons a s => cases hl
  subst hl
  refine enterV En_ok En_mo noJ Tryd.func43 rfl Tryd.ntmps43 (by kernel_rfl) fun hw => ct_start ?_
  simp only [go_sem, rowV_eq, rowV_eq0, List.length_replicate, rep_len, Int.toNat_natCast, ↓reduceIte, Nat.reduceEqDiff, Nat.reduceAdd, Int.reduceAdd, Nat.reduceMul, Nat.reduceLeDiff, Nat.reduceLT, Int.reduceLE, Int.reduceLT, Int.reduceNeg, Int.reduceToNat, List.nil_append]
  exact retC_nil (by decide)
 ·refine enterV En_ok En_mo noJ Tryd.func43 rfl Tryd.ntmps43 (by kernel_rfl) fun hw => ct_start ?_
  simp only [go_sem, rowV_eq, rowV_eq0, List.length_replicate, rep_len, Int.toNat_natCast, ↓reduceIte, Nat.reduceEqDiff, Nat.reduceAdd, Int.reduceAdd, Nat.reduceMul, Nat.reduceLeDiff, Nat.reduceLT, Int.reduceLE, Int.reduceLT, Int.reduceNeg, Int.reduceToNat, List.nil_append]
  have hn : s.length ≤ 1073741824 := by have h := hw; simp only [wfL, wfV, List.nil_append, LEN_eq, List.length_map] at h; exact h.1.1
  refine bindC_intro (by first | omega | (simp only [List.length_map, List.length_nil, List.nil_append]; omega)) ?_
  refine spQ ?_
  refine retC_ownZ 0 rfl clQ
set_option maxHeartbeats 2000000 in
set_option maxRecDepth 100000 in
instance digest_count_ok   (n_ : Int)  : CM En (digest_count n_) 61 [.int .u64 n_] (fun y => .sl none 1 false (y.map (V.int .u8))) (fun _ => []) := by
 refine cmQ fun r hM => ?_
 rw [digest_count.eq_1] at hM
 refine enterV En_ok En_mo noJ Tryd.func61 rfl Tryd.ntmps61 (by kernel_rfl) fun hw => ct_start ?_
 refine spQ ?_
 replace hw := nzQ hw
 have hM0 := hM; clear hM; obtain ⟨f1, d1, hf1, hd1, hM⟩ := iter_opn hM0; clear hM0
 refine ct_loop (fun n S => ∃ p : Int × List Int, S = (⟨[(0, .int .u64 n_), (3, .own 0), (7, .int .i64 (8 : Int)), (8, .int .i64 p.1)], [(0, .own 5 1 false none (p.2.map (V.int .u8)))], 1⟩ : St) ∧ ((0 ≤ p.1) ∧ (p.1 ≤ (8 : Int)) ∧ ((p.2).length = (([(0 : Int), (0 : Int), (0 : Int), (0 : Int), (0 : Int), (0 : Int), (0 : Int), (0 : Int)] : List Int)).length)) ∧ ((8 : Int) - p.1).toNat < n ∧ iter n f1 d1 p = r) (((8 : Int) - 0).toNat + 1) _ sbQ sbQ ⟨(0, ([(0 : Int), (0 : Int), (0 : Int), (0 : Int), (0 : Int), (0 : Int), (0 : Int), (0 : Int)] : List Int)), rfl, ⟨omQ, omQ, omQ⟩, (Nat.lt_succ_self _), hM⟩ ?_
 clear hM
 rintro n1 S ⟨p1, rfl, hfa1, hm1, hM⟩
 have hM0 := hM; clear hM; obtain ⟨ag1, hag1, hM⟩ := iter_step hM0 (by omega) hf1; clear hM0
 replace hfa1 := nzQ hfa1
 replace hm1 := nzQ hm1
 have ha1 : addI .i64 p1.1 1 = p1.1 + 1 := add_one omQ omQ
 refine spQA ha1 ?_
 refine condC_intro (fun h2 => ?_) (fun h2 => ?_)
 ·rw [if_pos h2] at hM
  refine spQA (And.intro ha1 h2) ?_
  have nh2 := nzQ h2
  try have hr3 := mpQ nh2
  obtain ⟨ha4, hbha4⟩ := mul_pos_ok (a := 8) (b := p1.1) 8 8 64 omQ omQ omQ omQ (by decide) (by decide)
  try simp only [ha4]
  have ha5 : subI .i64 56 (8 * p1.1) = (56 - (8 * p1.1)) := sub_ok omQ omQ
  try simp only [ha5]
  have hF := (And.intro ha1 (And.intro h2 ha5))
  exact auQ
 ·rw [if_neg (ne_true h2)] at hM
  refine spQA (And.intro ha1 h2) ?_
  have nh2 := nzQ h2
  try have hr7 := mpQ nh2
  subst hM
  exact retC_view (lfQA (And.intro ha1 h2))
set_option maxHeartbeats 2000000 in
set_option maxRecDepth 100000 in
instance math_bits_RotateLeft32_ok   (x_ : Int) (k_ : Int)  : CM En (math_bits_RotateLeft32 x_ k_) 113 [.int .u32 x_, .int .i64 k_] (fun y => .int .u32 y) (fun _ => []) := by
 refine cmQ fun r hM => ?_
 rw [math_bits_RotateLeft32.eq_1] at hM
 refine enterV En_ok En_mo noJ Tryd.func113 rfl Tryd.ntmps113 (by kernel_rfl) fun hw => ct_start ?_
 refine spQ ?_
 replace hw := nzQ hw
 refine bindC_intro (by (exact (rng_andI .u64 _ _).1)) ?_
 refine spQ ?_
 refine bindC_intro (by (exact (rng_subI .u64 _ _).1)) ?_
 refine spQ ?_
 subst hM
 exact retC_view lfQ
set_option maxHeartbeats 2000000 in
set_option maxRecDepth 100000 in
instance digest_right_ok   (x_ : Int) (n_ : Int)  : CM En (digest_right x_ n_) 87 [.int .u32 x_, .int .i64 n_] (fun y => .int .u32 y) (fun _ => []) := by
 refine cmQ fun r hM => ?_
 rw [digest_right.eq_1] at hM
 refine enterV En_ok En_mo noJ Tryd.func87 rfl Tryd.ntmps87 (by kernel_rfl) fun hw => ct_start ?_
 refine spQ ?_
 replace hw := nzQ hw
 have hF := trueQ
 exact auQ
set_option maxHeartbeats 2000000 in
set_option maxRecDepth 100000 in
theorem digest_schedule_ok   (block : (List Int)) (hp0 : block.length = 64) : CM En (digest_schedule block) 86 [.sl none 1 false (block.map (V.int .u8))] (fun y => (e_arr132 y)) (fun _ => []) := by
 refine cmQ fun r hM => ?_
 rw [digest_schedule.eq_1] at hM
 refine enterV En_ok En_mo noJ Tryd.func86 rfl Tryd.ntmps86 (by kernel_rfl) fun hw => ct_start ?_
 refine spQ ?_
 replace hw := nzQ hw
 have hM0 := hM; clear hM; obtain ⟨f1, d1, hf1, hd1, hM⟩ := iter_opn hM0; clear hM0
 refine ct_loop (fun n S => ∃ p : Int × (List Int), S = (⟨[(0, .sl none 1 false (block.map (V.int .u8))), (2, .ptr 0 0), (3, .ptr 1 0), (12, .int .i64 p.1)], [(0, .var 64 true (zv_132)), (1, .var 64 true ((e_arr132 p.2)))], 2⟩ : St) ∧ ((0 ≤ p.1) ∧ (p.1 ≤ 16)) ∧ ((16 : Int) - p.1).toNat < n ∧ iter n f1 d1 p = r) (((16 : Int) - 0).toNat + 1) _ sbQ (by simp only [go_sem, rowV_eq, rowV_eq0, List.length_replicate, rep_len, Int.toNat_natCast, ↓reduceIte, Nat.reduceEqDiff, Nat.reduceAdd, Int.reduceAdd, Nat.reduceMul, Nat.reduceLeDiff, Nat.reduceLT, Int.reduceLE, Int.reduceLT, Int.reduceNeg, Int.reduceToNat, map_st, mtL_repE, mtL_repM, subF, subH, mtO, mtB, mt, mtL, mtL_self, mt_self, ltV, ltL, ltB, eq_self, or_true, true_or, or_self, and_self, gt_cons0, gt_conss, Int.reduceSub]) ⟨(0, [0, 0, 0, 0, 0, 0, 0, 0, 0, 0, 0, 0, 0, 0, 0, 0, 0, 0, 0, 0, 0, 0, 0, 0, 0, 0, 0, 0, 0, 0, 0, 0, 0, 0, 0, 0, 0, 0, 0, 0, 0, 0, 0, 0, 0, 0, 0, 0, 0, 0, 0, 0, 0, 0, 0, 0, 0, 0, 0, 0, 0, 0, 0, 0]), rfl, ⟨omQ, omQ⟩, (Nat.lt_succ_self _), hM⟩ ?_
 clear hM
 rintro n1 S ⟨p1, rfl, hfa1, hm1, hM⟩
 have hM0 := hM; clear hM; obtain ⟨ag1, hag1, hM⟩ := iter_step hM0 (by omega) hf1; clear hM0
 replace hfa1 := nzQ hfa1
 replace hm1 := nzQ hm1
 have ha1 : addI .i64 p1.1 1 = p1.1 + 1 := add_one omQ omQ
 refine spQA ha1 ?_
 refine condC_intro (fun h2 => ?_) (fun h2 => ?_)
 ·rw [if_pos h2] at hM
  refine spQA (And.intro ha1 h2) ?_
  have nh2 := nzQ h2
  try have hr3 := mpQ nh2
  obtain ⟨ha4, hbha4⟩ := mul_pos_ok (a := 4) (b := p1.1) 4 16 64 omQ omQ omQ omQ (by decide) (by decide)
  try simp only [ha4]
  have ha6 : addI .i64 (4 * p1.1) 4 = ((4 * p1.1) + 4) := add_ok omQ omQ
  try simp only [ha6]
  refine bindC_intro omQ ?_
  refine spQA (And.intro ha1 (And.intro ha4 ha6)) ?_
  have hM0 := hM; clear hM; obtain ⟨f7, d7, hf7, hd7, hM⟩ := iter_opn hM0; clear hM0
  refine ct_loop (fun n S => ∃ p : Int × (List Int), S = (⟨[(0, .sl none 1 false (block.map (V.int .u8))), (2, .ptr 0 0), (3, .ptr 1 0), (4, .int .i64 p1.1), (12, .int .i64 p1.1), (21, .sl none 1 false ((sl block (4 * p1.1) ((4 * p1.1) + 4)).map (V.int .u8))), (22, .int .i64 ((sl block (4 * p1.1) ((4 * p1.1) + 4)).length : Int)), (23, .int .i64 p.1)], [(0, .var 64 true (zv_132)), (1, .var 64 true ((e_arr132 p.2)))], 2⟩ : St) ∧ ((0 ≤ p.1) ∧ (p.1 ≤ ((sl block (4 * p1.1) ((4 * p1.1) + 4)).length : Int))) ∧ (((sl block (4 * p1.1) ((4 * p1.1) + 4)).length : Int) - p.1).toNat < n ∧ iter n f7 d7 p = r) ((((sl block (4 * p1.1) ((4 * p1.1) + 4)).length : Int) - 0).toNat + 1) _ sbQ sbQ ⟨(0, p1.2), rfl, ⟨omQ, omQ⟩, (Nat.lt_succ_self _), hM⟩ ?_
  clear hM
  rintro n7 S ⟨p7, rfl, hfa7, hm7, hM⟩
  have hM0 := hM; clear hM; obtain ⟨ag7, hag7, hM⟩ := iter_step hM0 (by omega) hf7; clear hM0
  replace hfa7 := nzQ hfa7
  replace hm7 := nzQ hm7
  have ha7 : addI .i64 p7.1 1 = p7.1 + 1 := add_one omQ omQ
  refine spQA (And.intro ha1 (And.intro ha4 (And.intro ha6 ha7))) ?_
  refine condC_intro (fun h8 => ?_) (fun h8 => ?_)
  ·rw [if_pos h8] at hM
   refine spQA (And.intro ha1 (And.intro ha4 (And.intro ha6 (And.intro ha7 h8)))) ?_
   have nh8 := nzQ h8
   try have hr9 := mpQ nh8
   refine bindC_intro omQ ?_
   have he10 := fun d => elt_mp (l := (sl block (4 * p1.1) ((4 * p1.1) + 4))) (f := (V.int .u8)) (i := p7.1) omQ d
   refine spQA (And.intro ha1 (And.intro ha4 (And.intro ha6 (And.intro ha7 he10)))) ?_
   refine bindC_intro omQ ?_
   have he11 : ((p1.1).toNat * 1 + 1 ≤ 64) = True := eq_true omQ
   refine spQA (And.intro ha1 (And.intro ha4 (And.intro ha6 (And.intro ha7 (And.intro he10 he11))))) ?_
   have he12 := arr_get (f := (V.int .u32)) (l := p7.2) (n := 64) (i := p1.1) omQ
   replace he12 := spR he12
   try refine spQA (And.intro ha1 (And.intro ha4 (And.intro ha6 (And.intro ha7 (And.intro he10 (And.intro he11 he12)))))) ?_
   refine bindC_intro omQ ?_
   have he13 : ((p1.1).toNat * 1 + 1 ≤ 64) = True := eq_true omQ
   refine spQA (And.intro ha1 (And.intro ha4 (And.intro ha6 (And.intro ha7 (And.intro he10 (And.intro he11 (And.intro he12 he13))))))) ?_
   have he14 := arr_put (f := (V.int .u32)) (l := (arrN 64 p7.2)) (n := 64) (i := p1.1) (v := (orI .u32 (shlI .u32 (gt p7.2 p1.1) 8) (convI .u32 (gt (sl block (4 * p1.1) ((4 * p1.1) + 4)) p7.1)))) arrN_len omQ
   replace he14 := spR he14
   refine spQA (And.intro ha1 (And.intro ha4 (And.intro ha6 (And.intro ha7 (And.intro he10 (And.intro he11 (And.intro he12 (And.intro he13 he14)))))))) ?_
   refine lp_intro (n7 - 1) _ (by omega) sbQ (by simp only [go_sem, rowV_eq, rowV_eq0, List.length_replicate, rep_len, Int.toNat_natCast, ↓reduceIte, Nat.reduceEqDiff, Nat.reduceAdd, Int.reduceAdd, Nat.reduceMul, Nat.reduceLeDiff, Nat.reduceLT, Int.reduceLE, Int.reduceLT, Int.reduceNeg, Int.reduceToNat, map_st, mtL_repE, mtL_repM, subF, subH, mtO, mtB, mt, mtL, mtL_self, mt_self, ltV, ltL, ltB, eq_self, or_true, true_or, or_self, and_self, gt_cons0, gt_conss, Int.reduceSub]) ⟨((p7.1 + 1), (arrN 64 (st (arrN 64 p7.2) p1.1 (orI .u32 (shlI .u32 (gt p7.2 p1.1) 8) (convI .u32 (gt (sl block (4 * p1.1) ((4 * p1.1) + 4)) p7.1)))))), rfl, ⟨omQ, omQ⟩, omQ, iter_again hM hag7⟩
  ·rw [if_neg (ne_true h8)] at hM
   refine spQA (And.intro ha1 (And.intro ha4 (And.intro ha6 (And.intro ha7 h8)))) ?_
   have nh8 := nzQ h8
   try have hr15 := mpQ nh8
   refine lp_intro (n1 - 1) _ (by omega) sbQ sbQ ⟨((p1.1 + 1), p7.2), rfl, ⟨omQ, omQ⟩, omQ, iter_again hM hag1⟩
 ·rw [if_neg (ne_true h2)] at hM
  refine spQA (And.intro ha1 h2) ?_
  have nh2 := nzQ h2
  try have hr16 := mpQ nh2
  have hM0 := hM; clear hM; obtain ⟨f17, d17, hf17, hd17, hM⟩ := iter_opn hM0; clear hM0
  refine ct_loop (fun n S => ∃ p : Int × (List Int), S = (⟨[(2, .ptr 0 0), (3, .ptr 1 0), (7, .int .i64 p.1)], [(0, .var 64 true (zv_132)), (1, .var 64 true ((e_arr132 p.2)))], 2⟩ : St) ∧ ((16 ≤ p.1) ∧ (p.1 ≤ 64 ∨ p.1 ≤ 16)) ∧ ((64 : Int) - p.1).toNat < n ∧ iter n f17 d17 p = r) (((64 : Int) - 16).toNat + 1) _ sbQ sbQ ⟨(16, p1.2), rfl, ⟨omQ, omQ⟩, (Nat.lt_succ_self _), hM⟩ ?_
  clear hM
  rintro n17 S ⟨p17, rfl, hfa17, hm17, hM⟩
  have hM0 := hM; clear hM; obtain ⟨ag17, hag17, hM⟩ := iter_step hM0 (by omega) hf17; clear hM0
  replace hfa17 := nzQ hfa17
  replace hm17 := nzQ hm17
  have ha17 : addI .i64 p17.1 1 = p17.1 + 1 := add_one omQ omQ
  refine spQA (And.intro ha1 ha17) ?_
  refine condC_intro (fun h18 => ?_) (fun h18 => ?_)
  ·rw [if_pos h18] at hM
   refine spQA (And.intro ha1 (And.intro ha17 h18)) ?_
   have nh18 := nzQ h18
   try have hr19 := mpQ nh18
   refine ct_draw 82 9 [8, 42, 43, 44, 45, 46, 47, 48, 49] [] ([[], [0], [0, 1], [0, 1, 2], [], [4], [4, 5], [4, 5, 6], [0, 1, 2, 3]] ++ [List.range 9]) [] (by kernel_rfl) (by exact alQ) ?_
   refine spQA (And.intro ha1 ha17) ?_
   have ha20 : subI .i64 p17.1 15 = (p17.1 - 15) := sub_ok omQ omQ
   try simp only [ha20]
   refine hbindC_intro omQ ?_
   have he21 : (((p17.1 - 15)).toNat * 1 + 1 ≤ 64) = True := eq_true omQ
   refine spQA (And.intro ha1 (And.intro ha17 (And.intro ha20 he21))) ?_
   have he22 := arr_get (f := (V.int .u32)) (l := p17.2) (n := 64) (i := (p17.1 - 15)) omQ
   replace he22 := spR he22
   try refine spQA (And.intro ha1 (And.intro ha17 (And.intro ha20 (And.intro he21 he22)))) ?_
   have ha23 : subI .i64 p17.1 2 = (p17.1 - 2) := sub_ok omQ omQ
   try simp only [ha23]
   refine hbindC_intro omQ ?_
   have he24 : (((p17.1 - 2)).toNat * 1 + 1 ≤ 64) = True := eq_true omQ
   refine spQA (And.intro ha1 (And.intro ha17 (And.intro ha20 (And.intro he21 (And.intro he22 (And.intro ha23 he24)))))) ?_
   have he25 := arr_get (f := (V.int .u32)) (l := p17.2) (n := 64) (i := (p17.1 - 2)) omQ
   replace he25 := spR he25
   try refine spQA (And.intro ha1 (And.intro ha17 (And.intro ha20 (And.intro he21 (And.intro he22 (And.intro ha23 (And.intro he24 he25))))))) ?_
   have hM0 := hM; clear hM; obtain ⟨x26, hx27, hM⟩ := letk_opn hM0; clear hM0
   have hcx26 := cmU hx27
   refine callC_give hcx26 (clQA (And.intro ha1 (And.intro ha17 (And.intro ha20 (And.intro he21 (And.intro he22 (And.intro ha23 (And.intro he24 he25)))))))) (clQA (And.intro ha1 (And.intro ha17 (And.intro ha20 (And.intro he21 (And.intro he22 (And.intro ha23 (And.intro he24 he25)))))))) (fun hw28 => ?_)
   replace hw28 := nzQ hw28
   refine spQA (And.intro ha1 (And.intro ha17 (And.intro ha20 (And.intro he21 (And.intro he22 (And.intro ha23 (And.intro he24 he25))))))) ?_
   have hM0 := hM; clear hM; obtain ⟨x29, hx30, hM⟩ := letk_opn hM0; clear hM0
   have hcx29 := cmU hx30
   refine callC_give hcx29 (clQA (And.intro ha1 (And.intro ha17 (And.intro ha20 (And.intro he21 (And.intro he22 (And.intro ha23 (And.intro he24 he25)))))))) (clQA (And.intro ha1 (And.intro ha17 (And.intro ha20 (And.intro he21 (And.intro he22 (And.intro ha23 (And.intro he24 he25)))))))) (fun hw31 => ?_)
   replace hw31 := nzQ hw31
   refine spQA (And.intro ha1 (And.intro ha17 (And.intro ha20 (And.intro he21 (And.intro he22 (And.intro ha23 (And.intro he24 he25))))))) ?_
   have hM0 := hM; clear hM; obtain ⟨x32, hx33, hM⟩ := letk_opn hM0; clear hM0
   have hcx32 := cmU hx33
   refine callC_give hcx32 (clQA (And.intro ha1 (And.intro ha17 (And.intro ha20 (And.intro he21 (And.intro he22 (And.intro ha23 (And.intro he24 he25)))))))) (clQA (And.intro ha1 (And.intro ha17 (And.intro ha20 (And.intro he21 (And.intro he22 (And.intro ha23 (And.intro he24 he25)))))))) (fun hw34 => ?_)
   replace hw34 := nzQ hw34
   refine spQA (And.intro ha1 (And.intro ha17 (And.intro ha20 (And.intro he21 (And.intro he22 (And.intro ha23 (And.intro he24 he25))))))) ?_
   have hM0 := hM; clear hM; obtain ⟨x35, hx36, hM⟩ := letk_opn hM0; clear hM0
   have hcx35 := cmU hx36
   refine callC_give hcx35 (clQA (And.intro ha1 (And.intro ha17 (And.intro ha20 (And.intro he21 (And.intro he22 (And.intro ha23 (And.intro he24 he25)))))))) (clQA (And.intro ha1 (And.intro ha17 (And.intro ha20 (And.intro he21 (And.intro he22 (And.intro ha23 (And.intro he24 he25)))))))) (fun hw37 => ?_)
   replace hw37 := nzQ hw37
   refine spQA (And.intro ha1 (And.intro ha17 (And.intro ha20 (And.intro he21 (And.intro he22 (And.intro ha23 (And.intro he24 he25))))))) ?_
   refine ct_draw 82 14 [66, 67, 68, 69, 70, 71, 72, 73, 74, 75, 76, 77, 78, 79] [] ([[], [], [1], [1, 2], [1, 2, 3], [], [1, 2, 3, 4, 5], [], [7], [7, 8], [7, 8, 9], [1, 2, 3, 4, 5, 6, 7, 8, 9, 10], [], [1, 2, 3, 4, 5, 6, 7, 8, 9, 10, 11, 12]] ++ [List.range 14, List.range 15]) [] (by kernel_rfl) (by exact alQ) ?_
   refine spQA (And.intro ha1 (And.intro ha17 (And.intro ha20 (And.intro he21 (And.intro he22 (And.intro ha23 (And.intro he24 he25))))))) ?_
   have ha38 : subI .i64 p17.1 16 = (p17.1 - 16) := sub_ok omQ omQ
   try simp only [ha38]
   refine hbindC_intro omQ ?_
   have he39 : (((p17.1 - 16)).toNat * 1 + 1 ≤ 64) = True := eq_true omQ
   refine spQA (And.intro ha1 (And.intro ha17 (And.intro ha20 (And.intro he21 (And.intro he22 (And.intro ha23 (And.intro he24 (And.intro he25 (And.intro ha38 he39))))))))) ?_
   have he40 := arr_get (f := (V.int .u32)) (l := p17.2) (n := 64) (i := (p17.1 - 16)) omQ
   replace he40 := spR he40
   try refine spQA (And.intro ha1 (And.intro ha17 (And.intro ha20 (And.intro he21 (And.intro he22 (And.intro ha23 (And.intro he24 (And.intro he25 (And.intro ha38 (And.intro he39 he40)))))))))) ?_
   have ha41 : subI .i64 p17.1 7 = (p17.1 - 7) := sub_ok omQ omQ
   try simp only [ha41]
   refine hbindC_intro omQ ?_
   have he42 : (((p17.1 - 7)).toNat * 1 + 1 ≤ 64) = True := eq_true omQ
   refine spQA (And.intro ha1 (And.intro ha17 (And.intro ha20 (And.intro he21 (And.intro he22 (And.intro ha23 (And.intro he24 (And.intro he25 (And.intro ha38 (And.intro he39 (And.intro he40 (And.intro ha41 he42)))))))))))) ?_
   have he43 := arr_get (f := (V.int .u32)) (l := p17.2) (n := 64) (i := (p17.1 - 7)) omQ
   replace he43 := spR he43
   try refine spQA (And.intro ha1 (And.intro ha17 (And.intro ha20 (And.intro he21 (And.intro he22 (And.intro ha23 (And.intro he24 (And.intro he25 (And.intro ha38 (And.intro he39 (And.intro he40 (And.intro ha41 (And.intro he42 he43))))))))))))) ?_
   refine bindC_intro omQ ?_
   have he44 : ((p17.1).toNat * 1 + 1 ≤ 64) = True := eq_true omQ
   refine spQA (And.intro ha1 (And.intro ha17 (And.intro ha20 (And.intro he21 (And.intro he22 (And.intro ha23 (And.intro he24 (And.intro he25 (And.intro ha38 (And.intro he39 (And.intro he40 (And.intro ha41 (And.intro he42 (And.intro he43 he44)))))))))))))) ?_
   have he45 := arr_put (f := (V.int .u32)) (l := (arrN 64 p17.2)) (n := 64) (i := p17.1) (v := (addI .u32 (addI .u32 (addI .u32 (gt p17.2 (p17.1 - 16)) (xorI .u32 (xorI .u32 x26 x29) (shrI .u32 (gt p17.2 (p17.1 - 15)) 3))) (gt p17.2 (p17.1 - 7))) (xorI .u32 (xorI .u32 x32 x35) (shrI .u32 (gt p17.2 (p17.1 - 2)) 10)))) arrN_len omQ
   replace he45 := spR he45
   refine spQA (And.intro ha1 (And.intro ha17 (And.intro ha20 (And.intro he21 (And.intro he22 (And.intro ha23 (And.intro he24 (And.intro he25 (And.intro ha38 (And.intro he39 (And.intro he40 (And.intro ha41 (And.intro he42 (And.intro he43 (And.intro he44 he45))))))))))))))) ?_
   refine lp_intro (n17 - 1) _ (by omega) sbQ (by simp only [go_sem, rowV_eq, rowV_eq0, List.length_replicate, rep_len, Int.toNat_natCast, ↓reduceIte, Nat.reduceEqDiff, Nat.reduceAdd, Int.reduceAdd, Nat.reduceMul, Nat.reduceLeDiff, Nat.reduceLT, Int.reduceLE, Int.reduceLT, Int.reduceNeg, Int.reduceToNat, map_st, mtL_repE, mtL_repM, subF, subH, mtO, mtB, mt, mtL, mtL_self, mt_self, ltV, ltL, ltB, eq_self, or_true, true_or, or_self, and_self, gt_cons0, gt_conss, Int.reduceSub]) ⟨((p17.1 + 1), (arrN 64 (st (arrN 64 p17.2) p17.1 (addI .u32 (addI .u32 (addI .u32 (gt p17.2 (p17.1 - 16)) (xorI .u32 (xorI .u32 x26 x29) (shrI .u32 (gt p17.2 (p17.1 - 15)) 3))) (gt p17.2 (p17.1 - 7))) (xorI .u32 (xorI .u32 x32 x35) (shrI .u32 (gt p17.2 (p17.1 - 2)) 10)))))), rfl, ⟨omQ, omQ⟩, omQ, iter_again hM hag17⟩
  ·rw [if_neg (ne_true h18)] at hM
   refine spQA (And.intro ha1 (And.intro ha17 h18)) ?_
   have nh18 := nzQ h18
   try have hr46 := mpQ nh18
   subst hM
   exact retC_view (lfQA (And.intro ha1 (And.intro ha17 (And.intro h2 h18))))
end Go.Proofs.YtbfeamknaiaghaaDoor
namespace Go.Proofs.YtbfeamknaiaghaaDoor
open Go.RowKit
set_option linter.unusedSimpArgs false
set_option maxHeartbeats 2000000 in
set_option maxRecDepth 100000 in
theorem digest_mix_ok   (state : (List Int)) (block : (List Int)) (hp0 : block.length = 64) : CM En (digest_mix state block) 62 [(e_arr107 state), .sl none 1 false (block.map (V.int .u8))] (fun y => (e_arr107 y)) (fun _ => []) := by
 refine cmQ fun r hM => ?_
 rw [digest_mix.eq_1] at hM
 refine enterV En_ok En_mo noJ Tryd.func62 rfl Tryd.ntmps62 (by kernel_rfl) fun hw => ct_start ?_
 refine spQ ?_
 replace hw := nzQ hw
 have hM0 := hM; clear hM; obtain ⟨x1, hx2, hM⟩ := letk_opn hM0; clear hM0
 have hcx1 := cmH hx2 (digest_schedule_ok  block (by (exact pfQ)))
 refine callC_give hcx1 clQ clQ (fun hw3 => ?_)
 replace hw3 := nzQ hw3
 refine spQ ?_
 refine ct_draw 121 23 [6, 7, 8, 9, 10, 11, 12, 21, 22, 23, 24, 25, 26, 27, 28, 29, 30, 31, 32, 33, 34, 35, 36] [] ([[], [0], [], [2], [], [4], [], [6], [], [8], [], [10], [], [12], [], [14], [0, 1], [2, 3], [4, 5], [6, 7], [8, 9], [10, 11], [12, 13]] ++ [List.range 23]) [] (by kernel_rfl) (by exact alQ) ?_
 refine spQ ?_
 have hM0 := hM; clear hM; obtain ⟨f4, d4, hf4, hd4, hM⟩ := iter_opn hM0; clear hM0
 refine ct_loop (fun n S => ∃ p : Int × Int × Int × Int × Int × Int × Int × Int × Int, S = (⟨[(2, .ptr 0 0), (4, .ptr 1 0), (5, .ptr 2 0), (6, .int .u32 p.1), (7, .int .u32 p.2.1), (8, .int .u32 p.2.2.1), (9, .int .u32 p.2.2.2.1), (10, .int .u32 p.2.2.2.2.1), (11, .int .u32 p.2.2.2.2.2.1), (12, .int .u32 p.2.2.2.2.2.2.1), (13, .int .u32 p.2.2.2.2.2.2.2.1), (37, .int .i64 p.2.2.2.2.2.2.2.2)], [(0, .var 8 true ((e_arr107 state))), (1, .var 8 true (zv_107)), (2, .var 64 true ((e_arr132 x1)))], 26⟩ : St) ∧ ((0 ≤ p.2.2.2.2.2.2.2.2) ∧ (p.2.2.2.2.2.2.2.2 ≤ 64)) ∧ ((64 : Int) - p.2.2.2.2.2.2.2.2).toNat < n ∧ iter n f4 d4 p = r) (((64 : Int) - 0).toNat + 1) _ sbQ sbQ ⟨((gt state 0), (gt state 1), (gt state 2), (gt state 3), (gt state 4), (gt state 5), (gt state 6), (gt state 7), 0), rfl, ⟨omQ, omQ⟩, (Nat.lt_succ_self _), hM⟩ ?_
 clear hM
 rintro n4 S ⟨p4, rfl, hfa4, hm4, hM⟩
 have hM0 := hM; clear hM; obtain ⟨ag4, hag4, hM⟩ := iter_step hM0 (by omega) hf4; clear hM0
 replace hfa4 := nzQ hfa4
 replace hm4 := nzQ hm4
 have ha4 : addI .i64 p4.2.2.2.2.2.2.2.2 1 = p4.2.2.2.2.2.2.2.2 + 1 := add_one omQ omQ
 refine spQA ha4 ?_
 refine condC_intro (fun h5 => ?_) (fun h5 => ?_)
 ·rw [if_pos h5] at hM
  refine spQA (And.intro ha4 h5) ?_
  have nh5 := nzQ h5
  try have hr6 := mpQ nh5
  refine ct_draw 121 26 [40, 41, 42, 43, 44, 45, 46, 47, 48, 49, 50, 51, 52, 53, 54, 55, 56, 57, 58, 59, 60, 61, 62, 63, 64, 65] [] ([[], [], [1], [], [3], [1, 2, 3, 4], [], [6], [1, 2, 3, 4, 5, 6, 7], [0, 1, 2, 3, 4, 5, 6, 7, 8], [], [], [10, 11], [], [13], [], [13, 14, 15], [10, 11, 12, 13, 14, 15, 16], [0, 1, 2, 3, 4, 5, 6, 7, 8, 9, 10, 11, 12, 13, 14, 15, 16, 17], [], [19], [19, 20], [0, 1, 2, 3, 4, 5, 6, 7, 8, 9, 10, 11, 12, 13, 14, 15, 16, 17, 18, 19, 20, 21], [], [23], [23, 24]] ++ [List.range 26, List.range 27]) [] (by kernel_rfl) (by exact alQ) ?_
  refine spQA ha4 ?_
  have hM0 := hM; clear hM; obtain ⟨x7, hx8, hM⟩ := letk_opn hM0; clear hM0
  have hcx7 := cmU hx8
  refine hcallC_give hcx7 (clQA ha4) (clQA ha4) ?_
  refine spQA ha4 ?_
  have hM0 := hM; clear hM; obtain ⟨x9, hx10, hM⟩ := letk_opn hM0; clear hM0
  have hcx9 := cmU hx10
  refine hcallC_give hcx9 (clQA ha4) (clQA ha4) ?_
  refine spQA ha4 ?_
  have hM0 := hM; clear hM; obtain ⟨x11, hx12, hM⟩ := letk_opn hM0; clear hM0
  have hcx11 := cmU hx12
  refine hcallC_give hcx11 (clQA ha4) (clQA ha4) ?_
  refine spQA ha4 ?_
  refine hbindC_intro omQ ?_
  refine spQA ha4 ?_
  have he13 := pp_get (f := V.int .u32) (l := kg_2) (n := 64) (i := p4.2.2.2.2.2.2.2.2) rfl omQ
  replace he13 := spR he13
  refine spQA (And.intro ha4 he13) ?_
  refine hbindC_intro omQ ?_
  have he14 : ((p4.2.2.2.2.2.2.2.2).toNat * 1 + 1 ≤ 64) = True := eq_true omQ
  refine spQA (And.intro ha4 (And.intro he13 he14)) ?_
  have he15 := arr_get (f := (V.int .u32)) (l := x1) (n := 64) (i := p4.2.2.2.2.2.2.2.2) omQ
  replace he15 := spR he15
  try refine spQA (And.intro ha4 (And.intro he13 (And.intro he14 he15))) ?_
  have hF := (And.intro ha4 (And.intro h5 (And.intro he13 (And.intro he14 he15))))
  exact auQ
 ·rw [if_neg (ne_true h5)] at hM
  refine spQA (And.intro ha4 h5) ?_
  have nh5 := nzQ h5
  try have hr25 := mpQ nh5
  have hM0 := hM; clear hM; obtain ⟨f26, d26, hf26, hd26, hM⟩ := iter_opn hM0; clear hM0
  refine ct_loop (fun n S => ∃ p : Int × (List Int), S = (⟨[(2, .ptr 0 0), (4, .ptr 1 0), (108, .agg [.int .u32 p4.1, .int .u32 p4.2.1, .int .u32 p4.2.2.1, .int .u32 p4.2.2.2.1, .int .u32 p4.2.2.2.2.1, .int .u32 p4.2.2.2.2.2.1, .int .u32 p4.2.2.2.2.2.2.1, .int .u32 p4.2.2.2.2.2.2.2.1]), (109, .int .i64 p.1)], [(0, .var 8 true ((e_arr107 p.2))), (1, .var 8 true (zv_107))], 26⟩ : St) ∧ ((0 ≤ p.1) ∧ (p.1 ≤ 8)) ∧ ((8 : Int) - p.1).toNat < n ∧ iter n f26 d26 p = r) (((8 : Int) - 0).toNat + 1) _ sbQ sbQ ⟨(0, state), rfl, ⟨omQ, omQ⟩, (Nat.lt_succ_self _), hM⟩ ?_
  clear hM
  rintro n26 S ⟨p26, rfl, hfa26, hm26, hM⟩
  have hM0 := hM; clear hM; obtain ⟨ag26, hag26, hM⟩ := iter_step hM0 (by omega) hf26; clear hM0
  replace hfa26 := nzQ hfa26
  replace hm26 := nzQ hm26
  have ha26 : addI .i64 p26.1 1 = p26.1 + 1 := add_one omQ omQ
  refine spQA (And.intro ha4 ha26) ?_
  refine condC_intro (fun h27 => ?_) (fun h27 => ?_)
  ·rw [if_pos h27] at hM
   refine spQA (And.intro ha4 (And.intro ha26 h27)) ?_
   have nh27 := nzQ h27
   try have hr28 := mpQ nh27
   have he29 := pp_get (f := (V.int .u32)) (l := ([p4.1, p4.2.1, p4.2.2.1, p4.2.2.2.1, p4.2.2.2.2.1, p4.2.2.2.2.2.1, p4.2.2.2.2.2.2.1, p4.2.2.2.2.2.2.2.1] : List Int)) (n := 8) (i := p26.1) rfl omQ
   replace he29 := spR he29
   refine spQA (And.intro ha4 (And.intro ha26 he29)) ?_
   refine bindC_intro omQ ?_
   refine spQA (And.intro ha4 (And.intro ha26 he29)) ?_
   refine bindC_intro omQ ?_
   have he30 : ((p26.1).toNat * 1 + 1 ≤ 8) = True := eq_true omQ
   refine spQA (And.intro ha4 (And.intro ha26 (And.intro he29 he30))) ?_
   have he31 := arr_get (f := (V.int .u32)) (l := p26.2) (n := 8) (i := p26.1) omQ
   replace he31 := spR he31
   try refine spQA (And.intro ha4 (And.intro ha26 (And.intro he29 (And.intro he30 he31)))) ?_
   refine bindC_intro omQ ?_
   have he32 : ((p26.1).toNat * 1 + 1 ≤ 8) = True := eq_true omQ
   refine spQA (And.intro ha4 (And.intro ha26 (And.intro he29 (And.intro he30 (And.intro he31 he32))))) ?_
   have he33 := arr_put (f := (V.int .u32)) (l := (arrN 8 p26.2)) (n := 8) (i := p26.1) (v := (addI .u32 (gt p26.2 p26.1) (gt ([p4.1, p4.2.1, p4.2.2.1, p4.2.2.2.1, p4.2.2.2.2.1, p4.2.2.2.2.2.1, p4.2.2.2.2.2.2.1, p4.2.2.2.2.2.2.2.1] : List Int) p26.1))) arrN_len omQ
   replace he33 := spR he33
   refine spQA (And.intro ha4 (And.intro ha26 (And.intro he29 (And.intro he30 (And.intro he31 (And.intro he32 he33)))))) ?_
   refine lp_intro (n26 - 1) _ (by omega) sbQ (by simp only [go_sem, rowV_eq, rowV_eq0, List.length_replicate, rep_len, Int.toNat_natCast, ↓reduceIte, Nat.reduceEqDiff, Nat.reduceAdd, Int.reduceAdd, Nat.reduceMul, Nat.reduceLeDiff, Nat.reduceLT, Int.reduceLE, Int.reduceLT, Int.reduceNeg, Int.reduceToNat, map_st, mtL_repE, mtL_repM, subF, subH, mtO, mtB, mt, mtL, mtL_self, mt_self, ltV, ltL, ltB, eq_self, or_true, true_or, or_self, and_self, gt_cons0, gt_conss, Int.reduceSub]) ⟨((p26.1 + 1), (arrN 8 (st (arrN 8 p26.2) p26.1 (addI .u32 (gt p26.2 p26.1) (gt ([p4.1, p4.2.1, p4.2.2.1, p4.2.2.2.1, p4.2.2.2.2.1, p4.2.2.2.2.2.1, p4.2.2.2.2.2.2.1, p4.2.2.2.2.2.2.2.1] : List Int) p26.1))))), rfl, ⟨omQ, omQ⟩, omQ, iter_again hM hag26⟩
  ·rw [if_neg (ne_true h27)] at hM
   refine spQA (And.intro ha4 (And.intro ha26 h27)) ?_
   have nh27 := nzQ h27
   try have hr34 := mpQ nh27
   subst hM
   exact retC_view (lfQA (And.intro ha4 (And.intro ha26 (And.intro h5 h27))))
set_option maxHeartbeats 2000000 in
set_option maxRecDepth 100000 in
theorem digest_Sum_ok   (b : (List Int)) (hp0 : b.length ≤ 1000000000) : CM En (digest_Sum b) 42 [.sl none 1 false (b.map (V.int .u8))] (fun y => (e_arr51 y)) (fun _ => []) := by
 refine cmQ fun r hM => ?_
 rw [digest_Sum.eq_1] at hM
 refine enterV En_ok En_mo [6] Tryd.func42 rfl Tryd.ntmps42 (by kernel_rfl) fun hw => ct_start ?_
 refine spQ ?_
 replace hw := nzQ hw
 have hM0 := hM; clear hM; obtain ⟨x1, hx2, hM⟩ := letk_opn hM0; clear hM0
 have hcx1 := bytes_Clone_ok none b 
 rw [← hx2] at hcx1
 refine callC_give hcx1 clQ clQ (fun hw3 => ?_)
 replace hw3 := nzQ hw3
 refine spQ ?_
 have hq4 := nzQ (cfU hx2)
 refine bindC_intro omQ ?_
 refine spQ ?_
 have hM0 := hM; clear hM; obtain ⟨f5, d5, hf5, hd5, hM⟩ := iter_opn hM0; clear hM0
 refine ct_loop (fun n S => ∃ p : List Int, S = (⟨[(0, .sl none 1 false (b.map (V.int .u8))), (2, .ptr 0 0), (3, .own 1)], [(0, .var 32 true (zv_51)), (1, .own 5 1 false none (p.map (V.int .u8)))], 3⟩ : St) ∧ ((((p).length : Int) + (56 - ((p).length : Int)) % 64 ≤ (b.length : Int) + 65)) ∧ ((56 - ((p).length : Int)) % 64).toNat < n ∧ iter n f5 d5 p = r) (((56 - (((x1 ++ ([128] : List Int))).length : Int)) % 64).toNat + 1) _ sbQ sbQ ⟨(x1 ++ ([128] : List Int)), rfl, omQ, (Nat.lt_succ_self _), hM⟩ ?_
 clear hM
 rintro n5 S ⟨p5, rfl, hfa5, hm5, hM⟩
 have hM0 := hM; clear hM; obtain ⟨ag5, hag5, hM⟩ := iter_step hM0 (by omega) hf5; clear hM0
 replace hfa5 := nzQ hfa5
 replace hm5 := nzQ hm5
 refine spQ ?_
 refine bindC_intro omQ ?_
 refine spQ ?_
 refine condC_intro (fun h6 => ?_) (fun h6 => ?_)
 ·rw [if_pos h6] at hM
  refine spQA h6 ?_
  have nh6 := nzQ h6
  try have hr7 := mpQ nh6
  have hF := h6
  exact auQ
 ·rw [if_neg (ne_true h6)] at hM
  refine spQA h6 ?_
  have nh6 := nzQ h6
  try have hr8 := mpQ nh6
  have hM0 := hM; clear hM; obtain ⟨x9, hx10, hM⟩ := letk_opn hM0; clear hM0
  have hcx9 := cmU hx10
  refine callC_give hcx9 clQ clQ (fun hw11 => ?_)
  replace hw11 := nzQ hw11
  refine spQ ?_
  have hq12 := nzQ (cfU hx10)
  refine bindC_intro omQ ?_
  refine spQ ?_
  refine seqC_pass ?_
  try refine spQ ?_
  refine cut_weakW _ (⟨[(2, .ptr 0 0), (3, .sl (zApp (x9.map (V.int .u8))) 1 false ((p5 ++ x9).map (V.int .u8))), (4, .ptr 3 0)], [(0, .var 32 true (zv_51)), (1, .pown 1 false (zApp (x9.map (V.int .u8))) ((p5 ++ x9).map (V.int .u8))), (3, .var 8 true (.agg [.int .u32 1779033703, .int .u32 3144134277, .int .u32 1013904242, .int .u32 2773480762, .int .u32 1359893119, .int .u32 2600822924, .int .u32 528734635, .int .u32 1541459225]))], 4⟩ : St) ((weak_pub (S := ⟨_, _, _⟩) 1 (T := 5) (n := 1) (g := false) (z := (zApp (x9.map (V.int .u8)))) (l := (p5 ++ x9).map (V.int .u8)) clQ).trans (weak_slot (S := ⟨_, _, _⟩) 3 1 (n := 1) (g := false) (z := (zApp (x9.map (V.int .u8)))) (l := (p5 ++ x9).map (V.int .u8)) clQ clQ)) sbQ sbQ ?_
  try refine spQ ?_
  have hM0 := hM; clear hM; obtain ⟨f13, d13, hf13, hd13, hM⟩ := iter_opn hM0; clear hM0
  refine ct_loop (fun n S => ∃ p : List Int × (List Int), S = (⟨[(2, .ptr 0 0), (3, .sl none 1 false (p.1.map (V.int .u8))), (4, .ptr 3 0)], [(0, .var 32 true (zv_51)), (3, .var 8 true ((e_arr107 p.2)))], 4⟩ : St) ∧ ((((p.1).length : Int) % 64 = 0)) ∧ (p.1).length < n ∧ iter n f13 d13 p = r) (((p5 ++ x9)).length + 1) _ sbQ (by simp only [go_sem, rowV_eq, rowV_eq0, List.length_replicate, rep_len, Int.toNat_natCast, ↓reduceIte, Nat.reduceEqDiff, Nat.reduceAdd, Int.reduceAdd, Nat.reduceMul, Nat.reduceLeDiff, Nat.reduceLT, Int.reduceLE, Int.reduceLT, Int.reduceNeg, Int.reduceToNat, map_st, mtL_repE, mtL_repM, subF, subH, mtO, mtB, mt, mtL, mtL_self, mt_self, ltV, ltL, ltB, eq_self, or_true, true_or, or_self, and_self, gt_cons0, gt_conss, Int.reduceSub]) ⟨((p5 ++ x9), [1779033703, 3144134277, 1013904242, 2773480762, 1359893119, 2600822924, 528734635, 1541459225]), rfl, omQ, (Nat.lt_succ_self _), hM⟩ ?_
  clear hM
  rintro n13 S ⟨p13, rfl, hfa13, hm13, hM⟩
  have hM0 := hM; clear hM; obtain ⟨ag13, hag13, hM⟩ := iter_step hM0 (by omega) hf13; clear hM0
  replace hfa13 := nzQ hfa13
  replace hm13 := nzQ hm13
  refine spQ ?_
  refine condC_intro (fun h14 => ?_) (fun h14 => ?_)
  ·rw [if_pos h14] at hM
   refine spQA h14 ?_
   have nh14 := nzQ h14
   try have hr15 := mpQ nh14
   refine ct_draw 59 3 [33, 34, 35] [] ([[], [], [1]] ++ [List.range 3, List.range 4]) [] (by kernel_rfl) (by exact alQ) ?_
   refine spQ ?_
   refine hbindC_intro omQ ?_
   refine spQ ?_
   have hM0 := hM; clear hM; obtain ⟨x16, hx17, hM⟩ := letk_opn hM0; clear hM0
   have hcx16 := cmH hx17 (digest_mix_ok  (p13.2) (sl p13.1 0 64) (by (exact pfQ)))
   refine callC_give hcx16 clQ clQ (fun hw18 => ?_)
   replace hw18 := nzQ hw18
   refine spQ ?_
   have hF := (And.intro h6 h14)
   exact auQ
  ·rw [if_neg (ne_true h14)] at hM
   refine spQA h14 ?_
   have nh14 := nzQ h14
   try have hr19 := mpQ nh14
   have hM0 := hM; clear hM; obtain ⟨f20, d20, hf20, hd20, hM⟩ := iter_opn hM0; clear hM0
   refine ct_loop (fun n S => ∃ p : Int × (List Int), S = (⟨[(2, .ptr 0 0), (5, .ptr 4 0), (37, (e_arr107 p13.2)), (38, .int .i64 p.1)], [(0, .var 32 true (zv_51)), (4, .var 32 true ((e_arr51 p.2)))], 5⟩ : St) ∧ ((0 ≤ p.1) ∧ (p.1 ≤ 8)) ∧ ((8 : Int) - p.1).toNat < n ∧ iter n f20 d20 p = r) (((8 : Int) - 0).toNat + 1) _ sbQ (by simp only [go_sem, rowV_eq, rowV_eq0, List.length_replicate, rep_len, Int.toNat_natCast, ↓reduceIte, Nat.reduceEqDiff, Nat.reduceAdd, Int.reduceAdd, Nat.reduceMul, Nat.reduceLeDiff, Nat.reduceLT, Int.reduceLE, Int.reduceLT, Int.reduceNeg, Int.reduceToNat, map_st, mtL_repE, mtL_repM, subF, subH, mtO, mtB, mt, mtL, mtL_self, mt_self, ltV, ltL, ltB, eq_self, or_true, true_or, or_self, and_self, gt_cons0, gt_conss, Int.reduceSub]) ⟨(0, [0, 0, 0, 0, 0, 0, 0, 0, 0, 0, 0, 0, 0, 0, 0, 0, 0, 0, 0, 0, 0, 0, 0, 0, 0, 0, 0, 0, 0, 0, 0, 0]), rfl, ⟨omQ, omQ⟩, (Nat.lt_succ_self _), hM⟩ ?_
   clear hM
   rintro n20 S ⟨p20, rfl, hfa20, hm20, hM⟩
   have hM0 := hM; clear hM; obtain ⟨ag20, hag20, hM⟩ := iter_step hM0 (by omega) hf20; clear hM0
   replace hfa20 := nzQ hfa20
   replace hm20 := nzQ hm20
   have ha20 : addI .i64 p20.1 1 = p20.1 + 1 := add_one omQ omQ
   refine spQA ha20 ?_
   refine condC_intro (fun h21 => ?_) (fun h21 => ?_)
   ·rw [if_pos h21] at hM
    refine spQA (And.intro ha20 h21) ?_
    have nh21 := nzQ h21
    try have hr22 := mpQ nh21
    have he23 := arr_get1 (f := (V.int .u32)) (l := p13.2) (n := 8) (i := p20.1) omQ
    replace he23 := spR he23
    refine spQA (And.intro ha20 he23) ?_
    refine bindC_intro omQ ?_
    refine spQA (And.intro ha20 he23) ?_
    have hM0 := hM; clear hM; obtain ⟨f24, d24, hf24, hd24, hM⟩ := iter_opn hM0; clear hM0
    refine ct_loop (fun n S => ∃ p : Int × (List Int), S = (⟨[(2, .ptr 0 0), (5, .ptr 4 0), (6, .int .i64 p20.1), (7, .int .u32 (gt p13.2 p20.1)), (37, (e_arr107 p13.2)), (38, .int .i64 p20.1), (42, .int .i64 p.1)], [(0, .var 32 true (zv_51)), (4, .var 32 true ((e_arr51 p.2)))], 5⟩ : St) ∧ ((0 ≤ p.1) ∧ (p.1 ≤ 4)) ∧ ((4 : Int) - p.1).toNat < n ∧ iter n f24 d24 p = r) (((4 : Int) - 0).toNat + 1) _ sbQ sbQ ⟨(0, p20.2), rfl, ⟨omQ, omQ⟩, (Nat.lt_succ_self _), hM⟩ ?_
    clear hM
    rintro n24 S ⟨p24, rfl, hfa24, hm24, hM⟩
    have hM0 := hM; clear hM; obtain ⟨ag24, hag24, hM⟩ := iter_step hM0 (by omega) hf24; clear hM0
    replace hfa24 := nzQ hfa24
    replace hm24 := nzQ hm24
    have ha24 : addI .i64 p24.1 1 = p24.1 + 1 := add_one omQ omQ
    refine spQA (And.intro ha20 (And.intro he23 ha24)) ?_
    refine condC_intro (fun h25 => ?_) (fun h25 => ?_)
    ·rw [if_pos h25] at hM
     refine spQA (And.intro ha20 (And.intro he23 (And.intro ha24 h25))) ?_
     have nh25 := nzQ h25
     try have hr26 := mpQ nh25
     obtain ⟨ha27, hbha27⟩ := mul_pos_ok (a := 4) (b := p20.1) 8 64 512 omQ omQ omQ omQ (by decide) (by decide)
     try simp only [ha27]
     have ha28 : addI .i64 (4 * p20.1) p24.1 = ((4 * p20.1) + p24.1) := add_ok omQ omQ
     try simp only [ha28]
     obtain ⟨ha29, hbha29⟩ := mul_pos_ok (a := 8) (b := p24.1) 8 64 512 omQ omQ omQ omQ (by decide) (by decide)
     try simp only [ha29]
     have ha30 : subI .i64 24 (8 * p24.1) = (24 - (8 * p24.1)) := sub_ok omQ omQ
     try simp only [ha30]
     refine bindC_intro omQ ?_
     refine spQA (And.intro ha20 (And.intro he23 (And.intro ha24 (And.intro ha27 (And.intro ha28 (And.intro ha29 ha30)))))) ?_
     refine bindC_intro omQ ?_
     have he31 : ((((4 * p20.1) + p24.1)).toNat * 1 + 1 ≤ 32) = True := eq_true omQ
     refine spQA (And.intro ha20 (And.intro he23 (And.intro ha24 (And.intro ha27 (And.intro ha28 (And.intro ha29 (And.intro ha30 he31))))))) ?_
     have he32 := arr_put (f := (V.int .u8)) (l := (arrN 32 p24.2)) (n := 32) (i := ((4 * p20.1) + p24.1)) (v := (convI .u8 (shrI .u32 (gt p13.2 p20.1) (24 - (8 * p24.1))))) arrN_len omQ
     replace he32 := spR he32
     refine spQA (And.intro ha20 (And.intro he23 (And.intro ha24 (And.intro ha27 (And.intro ha28 (And.intro ha29 (And.intro ha30 (And.intro he31 he32)))))))) ?_
     refine lp_intro (n24 - 1) _ (by omega) sbQ (by simp only [go_sem, rowV_eq, rowV_eq0, List.length_replicate, rep_len, Int.toNat_natCast, ↓reduceIte, Nat.reduceEqDiff, Nat.reduceAdd, Int.reduceAdd, Nat.reduceMul, Nat.reduceLeDiff, Nat.reduceLT, Int.reduceLE, Int.reduceLT, Int.reduceNeg, Int.reduceToNat, map_st, mtL_repE, mtL_repM, subF, subH, mtO, mtB, mt, mtL, mtL_self, mt_self, ltV, ltL, ltB, eq_self, or_true, true_or, or_self, and_self, gt_cons0, gt_conss, Int.reduceSub]) ⟨((p24.1 + 1), (arrN 32 (st (arrN 32 p24.2) ((4 * p20.1) + p24.1) (convI .u8 (shrI .u32 (gt p13.2 p20.1) (24 - (8 * p24.1))))))), rfl, ⟨omQ, omQ⟩, omQ, iter_again hM hag24⟩
    ·rw [if_neg (ne_true h25)] at hM
     refine spQA (And.intro ha20 (And.intro he23 (And.intro ha24 h25))) ?_
     have nh25 := nzQ h25
     try have hr33 := mpQ nh25
     refine lp_intro (n20 - 1) _ (by omega) sbQ sbQ ⟨((p20.1 + 1), p24.2), rfl, ⟨omQ, omQ⟩, omQ, iter_again hM hag20⟩
   ·rw [if_neg (ne_true h21)] at hM
    refine spQA (And.intro ha20 h21) ?_
    have nh21 := nzQ h21
    try have hr34 := mpQ nh21
    subst hM
    exact retC_view (lfQA (And.intro ha20 (And.intro h6 (And.intro h14 h21))))
set_option maxHeartbeats 2000000 in
set_option maxRecDepth 100000 in
theorem digest_Tagged_ok   (tag : (List UInt8)) (b : (List Int)) (hp0 : b.length ≤ 900000000) : CM En (digest_Tagged tag b) 21 [.str tag, .sl none 1 false (b.map (V.int .u8))] (fun y => .tup [(e_arr51 y.1), .int .i64 y.2]) (fun _ => []) := by
 refine cmQ fun r hM => ?_
 rw [digest_Tagged.eq_1] at hM
 refine enterV En_ok En_mo [4] Tryd.func21 rfl Tryd.ntmps21 (by kernel_rfl) fun hw => ct_start ?_
 refine spQ ?_
 replace hw := nzQ hw
 refine guardC_f (fun h1 => ?_) (fun h1 => ?_)
 ·rw [if_neg (ne_true h1)] at hM
  refine spQA h1 ?_
  have nh1 := nzQ h1
  try have hr2 := mpQ nh1
  refine condC_intro (fun h3 => ?_) (fun h3 => ?_)
  ·rw [if_pos h3] at hM
   refine spQA h3 ?_
   have nh3 := nzQ h3
   try have hr4 := mpQ nh3
   subst hM
   exact retC_view (lfQA (And.intro h1 h3))
  ·rw [if_neg (ne_true h3)] at hM
   refine spQA h3 ?_
   have nh3 := nzQ h3
   try have hr5 := mpQ nh3
   refine seqC_pass ?_
   try refine spQ ?_
   have hM0 := hM; clear hM; obtain ⟨x6, hx7, hM⟩ := letk_opn hM0; clear hM0
   have hcx6 := cmH hx7 (digest_Sum_ok  (nat8 tag) (by (exact pfQ)))
   refine callC_look hcx6 clQ clQ (fun hw8 => ?_)
   replace hw8 := nzQ hw8
   refine spQ ?_
   refine cut_weakW _ (⟨[(1, .sl none 1 false (b.map (V.int .u8))), (4, .ptr 0 0), (6, .ptr 2 0)], [(0, .var 32 true (zv_51)), (2, .pvar 32 true ((e_arr51 x6)))], 3⟩ : St) (weak_pubv (S := ⟨_, _, _⟩) 2 (n := 32) (g := true) (d := (e_arr51 x6)) clQ clQ) sbQ sbQ ?_
   try refine spQ ?_
   refine ct_draw 26 5 [19, 20, 21, 22, 23] [] ([[], [0], [], [0, 1, 2], []] ++ [List.range 5, List.range 6, List.range 7, List.range 8]) [(3, 4)] (by kernel_rfl) (by exact alQ) ?_
   refine spQ ?_
   have hM0 := hM; clear hM; obtain ⟨x9, hx10, hM⟩ := letk_opn hM0; clear hM0
   have hcx9 := bytes_Clone_ok (some false) (arrN 32 x6) 
   rw [← hx10] at hcx9
   refine hcallC_own hcx9 clQ clQ ?_
   refine spQ ?_
   have hq11 := nzQ (cfU hx10)
   refine hbindC_introA omQ clQ ?_
   refine spQ ?_
   refine bindC_intro omQ ?_
   refine spQ ?_
   have hM0 := hM; clear hM; obtain ⟨x12, hx13, hM⟩ := letk_opn hM0; clear hM0
   have hcx12 := cmH hx13 (digest_Sum_ok  ((x9 ++ (arrN 32 x6)) ++ b) (by (exact pfQ)))
   refine callC_look hcx12 clQ clQ (fun hw14 => ?_)
   replace hw14 := nzQ hw14
   refine spQ ?_
   subst hM
   exact retC_view (lfQA (And.intro h1 h3))
 ·rw [if_pos h1] at hM
  refine spQA h1 ?_
  have nh1 := nzQ h1
  try have hr15 := mpQ nh1
  subst hM
  exact retC_view (lfQA h1)
set_option maxHeartbeats 2000000 in
set_option maxRecDepth 100000 in
instance base_Digest_ok   (b : S_api_Bases)  : CM En (base_Digest b) 19 [(e_api_Bases b)] (fun y => .tup [(e_arr51 y.1), .int .i64 y.2]) (fun _ => []) := by
 refine cmQ fun r hM => ?_
 rw [base_Digest.eq_1] at hM
 refine enterV En_ok En_mo noJ Tryd.func19 rfl Tryd.ntmps19 (by kernel_rfl) fun hw => ct_start ?_
 refine spQ ?_
 replace hw := nzQ hw
 have hM0 := hM; clear hM; obtain ⟨x1, hx2, hM⟩ := letk_opn hM0; clear hM0
 have hcx1 := cmU hx2
 refine callC_give hcx1 clQ clQ (fun hw3 => ?_)
 replace hw3 := nzQ hw3
 refine spQ ?_
 have hq4 := hgt_bitem hx2
 replace hq4 := nzQ hq4
 refine condC_intro (fun h5 => ?_) (fun h5 => ?_)
 ·rw [if_pos h5] at hM
  refine spQA h5 ?_
  have nh5 := nzQ h5
  try have hr6 := mpQ nh5
  subst hM
  exact retC_view (lfQA h5)
 ·rw [if_neg (ne_true h5)] at hM
  refine spQA h5 ?_
  have nh5 := nzQ h5
  try have hr7 := mpQ nh5
  have hM0 := hM; clear hM; obtain ⟨x8, hx9, hM⟩ := letk_opn hM0; clear hM0
  have hcx8 := cmH hx9 (encode_Encode_ok  (x1.1) (by (exact pfQ)))
  refine callC_give hcx8 clQ clQ (fun hw10 => ?_)
  replace hw10 := nzQ hw10
  refine spQ ?_
  have hq11 := encode_len hx9
  replace hq11 := nzQ hq11
  have hM0 := hM; clear hM; obtain ⟨x12, hx13, hM⟩ := letk_opn hM0; clear hM0
  have hcx12 := cmH hx13 (digest_Tagged_ok  ([115, 112, 101, 99, 105, 101, 47, 98, 97, 115, 101, 115]) (x8.1) (by (exact pfQ)))
  refine callC_give hcx12 clQ clQ (fun hw14 => ?_)
  replace hw14 := nzQ hw14
  refine spQ ?_
  subst hM
  exact retC_view (lfQA h5)
set_option maxHeartbeats 2000000 in
set_option maxRecDepth 100000 in
instance encode_Numbers_ok   (i_ : S_api_Item)  : CM En (encode_Numbers i_) 22 [.agg [.int .i64 i_.Kind, .int .i64 i_.N, .sl none 1 false (i_.B.map (V.int .u8)), .sl none 4 true (i_.L.map e_api_Item)]] (fun y => .tup [.sl none 1 false (y.1.map (V.int .i64)), .int .i64 y.2]) (fun _ => []) := by
 refine cmQ fun r hM => ?_
 rw [encode_Numbers.eq_1] at hM
 refine enterV En_ok En_mo noJ Tryd.func22 rfl Tryd.ntmps22 (by kernel_rfl) fun hw => ct_start ?_
 refine spQ ?_
 replace hw := nzQ hw
 have hM0 := hM; clear hM; obtain ⟨x1, hx2, hM⟩ := letk_opn hM0; clear hM0
 have hcx1 := cmU hx2
 refine callC_give hcx1 clQ clQ (fun hw3 => ?_)
 replace hw3 := nzQ hw3
 refine spQ ?_
 refine condC_intro (fun h4 => ?_) (fun h4 => ?_)
 ·rw [if_pos h4] at hM
  refine spQA h4 ?_
  have nh4 := nzQ h4
  try have hr5 := mpQ nh4
  subst hM
  exact retC_view (lfQA h4)
 ·rw [if_neg (ne_true h4)] at hM
  refine spQA h4 ?_
  have nh4 := nzQ h4
  try have hr6 := mpQ nh4
  refine condC_intro (fun h7 => ?_) (fun h7 => ?_)
  ·rw [if_pos h7] at hM
   refine spQA h7 ?_
   have nh7 := nzQ h7
   try have hr8 := mpQ nh7
   subst hM
   exact retC_view (lfQA (And.intro h4 h7))
  ·rw [if_neg (ne_true h7)] at hM
   refine spQA h7 ?_
   have nh7 := nzQ h7
   try have hr9 := mpQ nh7
   have hM0 := hM; clear hM; obtain ⟨f10, d10, hf10, hd10, hM⟩ := iter_opn hM0; clear hM0
   refine ct_loopW (fun n S => ∃ p : Int × List Int, S = (⟨[(4, .own 1), (14, .sl none 4 true (i_.L.map e_api_Item)), (15, .int .i64 (i_.L.length : Int)), (16, .int .i64 p.1)], [(1, .own 3 1 false none (p.2.map (V.int .i64)))], 2⟩ : St) ∧ ((0 ≤ p.1) ∧ (p.1 ≤ (i_.L.length : Int)) ∧ (((p.2).length : Int) ≤ p.1)) ∧ ((i_.L.length : Int) - p.1).toNat < n ∧ iter n f10 d10 p = r) (((i_.L.length : Int) - 0).toNat + 1) _ _ (weak_nil 4 3 rfl (by decide)) sbQ sbQ ⟨(0, ([] : List Int)), rfl, ⟨omQ, omQ, omQ⟩, (Nat.lt_succ_self _), hM⟩ ?_
   clear hM
   rintro n10 S ⟨p10, rfl, hfa10, hm10, hM⟩
   have hM0 := hM; clear hM; obtain ⟨ag10, hag10, hM⟩ := iter_step hM0 (by omega) hf10; clear hM0
   replace hfa10 := nzQ hfa10
   replace hm10 := nzQ hm10
   have ha10 : addI .i64 p10.1 1 = p10.1 + 1 := add_one omQ omQ
   refine spQA ha10 ?_
   have hF := (And.intro h4 (And.intro h7 ha10))
   exact auQ
set_option maxHeartbeats 2000000 in
set_option maxRecDepth 100000 in
instance bytes_Equal_ok   (a_ : (List Int)) (b : (List Int))  : CM En (bytes_Equal a_ b) 63 [.sl none 1 false (a_.map (V.int .u8)), .sl none 1 false (b.map (V.int .u8))] (fun y => .bool y) (fun _ => []) := by
 refine cmQ fun r hM => ?_
 rw [bytes_Equal.eq_1] at hM
 refine enterV En_ok En_mo noJ Tryd.func63 rfl Tryd.ntmps63 (by kernel_rfl) fun hw => ct_start ?_
 refine spQ ?_
 replace hw := nzQ hw
 refine bindC_intro (by (exact ⟨allU8_map, omQ⟩)) ?_
 refine spQ ?_
 refine bindC_intro (by (exact ⟨allU8_map, omQ⟩)) ?_
 refine spQ ?_
 subst hM
 exact retC_view lfQ
set_option maxHeartbeats 2000000 in
set_option maxRecDepth 100000 in
theorem slices_EqualFunc_api_Item_api_Item_api_Item_api_Item_at_encode_same_ok (N : Nat) (ih : ∀  (a_ : S_api_Item) (b : S_api_Item), hgt a_ < N → CallOk En 44 [.agg [.int .i64 a_.Kind, .int .i64 a_.N, .sl none 1 false (a_.B.map (V.int .u8)), .sl none 4 true (a_.L.map e_api_Item)], .agg [.int .i64 b.Kind, .int .i64 b.N, .sl none 1 false (b.B.map (V.int .u8)), .sl none 4 true (b.L.map e_api_Item)]] (.bool (eqM a_ b)) []) (z0 : Option Bool) (z1 : Option Bool) (s1 : (List S_api_Item)) (s2 : (List S_api_Item)) (hp0 : ∀ x ∈ s1, hgt x < N) : CallOk En 64 [.sl z0 4 true (s1.map e_api_Item), .sl z1 4 true (s2.map e_api_Item), .fn 44 []] (.bool (slices_EqualFunc_api_Item_api_Item_api_Item_api_Item_at_encode_same s1 s2)) [] := by
 generalize hM : slices_EqualFunc_api_Item_api_Item_api_Item_api_Item_at_encode_same s1 s2 = r
 rw [slices_EqualFunc_api_Item_api_Item_api_Item_api_Item_at_encode_same.eq_1] at hM
 refine enterV En_ok En_mo noJ Tryd.func64 rfl Tryd.ntmps64 (by kernel_rfl) fun hw => ct_start ?_
 refine spQ ?_
 replace hw := nzQ hw
 refine condC_intro (fun h1 => ?_) (fun h1 => ?_)
 ·rw [if_pos h1] at hM
  refine spQA h1 ?_
  have nh1 := nzQ h1
  try have hr2 := mpQ nh1
  subst hM
  exact retC_view (lfQA h1)
 ·rw [if_neg (ne_true h1)] at hM
  refine spQA h1 ?_
  have nh1 := nzQ h1
  try have hr3 := mpQ nh1
  have hM0 := hM; clear hM; obtain ⟨f4, d4, hf4, hd4, hM⟩ := iter_opn hM0; clear hM0
  refine ct_loop (fun n S => ∃ p : Int, S = (⟨[(1, .sl z1 4 true (s2.map e_api_Item)), (2, .fn 44 []), (15, .sl z0 4 true (s1.map e_api_Item)), (16, .int .i64 (s1.length : Int)), (17, .int .i64 p)], [], 0⟩ : St) ∧ ((0 ≤ p) ∧ (p ≤ (s1.length : Int))) ∧ ((s1.length : Int) - p).toNat < n ∧ iter n f4 d4 p = r) (((s1.length : Int) - 0).toNat + 1) _ sbQ sbQ ⟨0, rfl, ⟨omQ, omQ⟩, (Nat.lt_succ_self _), hM⟩ ?_
  clear hM
  rintro n4 S ⟨p4, rfl, hfa4, hm4, hM⟩
  have hM0 := hM; clear hM; obtain ⟨ag4, hag4, hM⟩ := iter_step hM0 (by omega) hf4; clear hM0
  replace hfa4 := nzQ hfa4
  replace hm4 := nzQ hm4
  have ha4 : addI .i64 p4 1 = p4 + 1 := add_one omQ omQ
  refine spQA ha4 ?_
  refine condC_intro (fun h5 => ?_) (fun h5 => ?_)
  ·rw [if_pos h5] at hM
   refine spQA (And.intro ha4 h5) ?_
   have nh5 := nzQ h5
   try have hr6 := mpQ nh5
   refine bindC_intro omQ ?_
   have he7 := fun d => elt_mp (l := s1) (f := e_api_Item) (i := p4) omQ d
   refine spQA (And.intro ha4 he7) ?_
   refine bindC_intro omQ ?_
   have he8 := fun d => elt_mp (l := s2) (f := e_api_Item) (i := p4) omQ d
   refine spQA (And.intro ha4 (And.intro he7 he8)) ?_
   have hM0 := hM; clear hM; obtain ⟨x9, hx10, hM⟩ := letk_opn hM0; clear hM0
   have hcx9 := ih  (gt s1 p4) (gt s2 p4)  (by (exact hp0 _ (gt_mem (by omega))))
   rw [← hx10] at hcx9
   refine callC_give hcx9 (clQA (And.intro ha4 (And.intro he7 he8))) (clQA (And.intro ha4 (And.intro he7 he8))) (fun hw11 => ?_)
   replace hw11 := nzQ hw11
   refine spQA (And.intro ha4 (And.intro he7 he8)) ?_
   have hF := (And.intro h1 (And.intro ha4 (And.intro h5 (And.intro he7 he8))))
   exact auQ
  ·rw [if_neg (ne_true h5)] at hM
   refine spQA (And.intro ha4 h5) ?_
   have nh5 := nzQ h5
   try have hr15 := mpQ nh5
   subst hM
   exact retC_view (lfQA (And.intro ha4 (And.intro h1 h5)))
set_option maxHeartbeats 2000000 in
set_option maxRecDepth 100000 in
theorem encode_same_ok (N : Nat) (ih : ∀  (a_ : S_api_Item) (b : S_api_Item), hgt a_ < N → CallOk En 44 [.agg [.int .i64 a_.Kind, .int .i64 a_.N, .sl none 1 false (a_.B.map (V.int .u8)), .sl none 4 true (a_.L.map e_api_Item)], .agg [.int .i64 b.Kind, .int .i64 b.N, .sl none 1 false (b.B.map (V.int .u8)), .sl none 4 true (b.L.map e_api_Item)]] (.bool (eqM a_ b)) [])  (a_ : S_api_Item) (b : S_api_Item) (hp_ : hgt a_ < N + 1) : CallOk En 44 [.agg [.int .i64 a_.Kind, .int .i64 a_.N, .sl none 1 false (a_.B.map (V.int .u8)), .sl none 4 true (a_.L.map e_api_Item)], .agg [.int .i64 b.Kind, .int .i64 b.N, .sl none 1 false (b.B.map (V.int .u8)), .sl none 4 true (b.L.map e_api_Item)]] (.bool (encode_same a_ b)) [] := by
 generalize hM : encode_same a_ b = r
 rw [encode_same.eq_1] at hM
 refine enterV En_ok En_mo noJ Tryd.func44 rfl Tryd.ntmps44 (by kernel_rfl) fun hw => ct_start ?_
 refine spQ ?_
 replace hw := nzQ hw
 refine guardC_t (fun h1 => ?_) (fun h1 => ?_)
 ·rw [if_pos h1] at hM
  refine spQA h1 ?_
  have nh1 := nzQ h1
  try have hr2 := mpQ nh1
  refine guardC_t (fun h3 => ?_) (fun h3 => ?_)
  ·rw [if_pos h3] at hM
   refine spQA h3 ?_
   have nh3 := nzQ h3
   try have hr4 := mpQ nh3
   have hM0 := hM; clear hM; obtain ⟨x5, hx6, hM⟩ := letk_opn hM0; clear hM0
   have hcx5 := cmU hx6
   refine callC_give hcx5 clQ clQ (fun hw7 => ?_)
   replace hw7 := nzQ hw7
   refine spQ ?_
   refine guardC_t (fun h8 => ?_) (fun h8 => ?_)
   ·subst h8
    rw [if_pos rfl] at hM
    refine spQ ?_
    have hM0 := hM; clear hM; obtain ⟨x9, hx10, hM⟩ := letk_opn hM0; clear hM0
    have hcx9 := slices_EqualFunc_api_Item_api_Item_api_Item_api_Item_at_encode_same_ok N ih none none (a_.L) (b.L) (by (exact fun x hx => Nat.lt_of_lt_of_le (hgt_L hx) (Nat.lt_succ_iff.1 hp_)))
    rw [← hx10] at hcx9
    refine callC_give hcx9 clQ clQ (fun hw11 => ?_)
    replace hw11 := nzQ hw11
    refine spQ ?_
    subst hM
    exact retC_view (lfQA (And.intro h1 h3))
   ·subst h8
    rw [if_neg (by decide)] at hM
    refine spQ ?_
    subst hM
    exact retC_view (lfQA (And.intro h1 h3))
  ·rw [if_neg (ne_true h3)] at hM
   refine spQA h3 ?_
   have nh3 := nzQ h3
   try have hr12 := mpQ nh3
   subst hM
   exact retC_view (lfQA (And.intro h1 h3))
 ·rw [if_neg (ne_true h1)] at hM
  refine spQA h1 ?_
  have nh1 := nzQ h1
  try have hr13 := mpQ nh1
  subst hM
  exact retC_view (lfQA h1)
theorem eqM_okN : ∀ (N : Nat)  (a_ : S_api_Item) (b : S_api_Item), hgt a_ < N → CallOk En 44 [.agg [.int .i64 a_.Kind, .int .i64 a_.N, .sl none 1 false (a_.B.map (V.int .u8)), .sl none 4 true (a_.L.map e_api_Item)], .agg [.int .i64 b.Kind, .int .i64 b.N, .sl none 1 false (b.B.map (V.int .u8)), .sl none 4 true (b.L.map e_api_Item)]] (.bool (eqM a_ b)) [] := by
 intro N
 induction N with
 | zero => intro a_ b  h; exact absurd h (Nat.not_lt_zero _)
 | succ N ih =>
  intro a_ b  h
  have h9 := encode_same_ok N ih a_ b  h
  rw [encode_same_eqM] at h9
  exact h9
theorem eqM_ok  (a_ : S_api_Item) (b : S_api_Item)  : CallOk En 44 [.agg [.int .i64 a_.Kind, .int .i64 a_.N, .sl none 1 false (a_.B.map (V.int .u8)), .sl none 4 true (a_.L.map e_api_Item)], .agg [.int .i64 b.Kind, .int .i64 b.N, .sl none 1 false (b.B.map (V.int .u8)), .sl none 4 true (b.L.map e_api_Item)]] (.bool (eqM a_ b)) [] :=
 eqM_okN (hgt a_ + 1) a_ b  (Nat.lt_succ_self _)
set_option maxHeartbeats 2000000 in
set_option maxRecDepth 100000 in
instance encode_Equal_ok   (a_ : S_api_Item) (b : S_api_Item)  : CM En (encode_Equal a_ b) 23 [.agg [.int .i64 a_.Kind, .int .i64 a_.N, .sl none 1 false (a_.B.map (V.int .u8)), .sl none 4 true (a_.L.map e_api_Item)], .agg [.int .i64 b.Kind, .int .i64 b.N, .sl none 1 false (b.B.map (V.int .u8)), .sl none 4 true (b.L.map e_api_Item)]] (fun y => .bool y) (fun _ => []) := by
 refine cmQ fun r hM => ?_
 rw [encode_Equal.eq_1] at hM
 refine enterV En_ok En_mo noJ Tryd.func23 rfl Tryd.ntmps23 (by kernel_rfl) fun hw => ct_start ?_
 refine spQ ?_
 replace hw := nzQ hw
 have hM0 := hM; clear hM; obtain ⟨x1, hx2, hM⟩ := letk_opn hM0; clear hM0
 have hcx1 := cmU hx2
 refine callC_give hcx1 clQ clQ (fun hw3 => ?_)
 replace hw3 := nzQ hw3
 refine spQ ?_
 refine guardC_t (fun h4 => ?_) (fun h4 => ?_)
 ·subst h4
  rw [if_pos rfl] at hM
  refine spQ ?_
  have hM0 := hM; clear hM; obtain ⟨x5, hx6, hM⟩ := letk_opn hM0; clear hM0
  have hcx5 := cmU hx6
  refine callC_give hcx5 clQ clQ (fun hw7 => ?_)
  replace hw7 := nzQ hw7
  refine spQ ?_
  refine guardC_t (fun h8 => ?_) (fun h8 => ?_)
  ·subst h8
   rw [if_pos rfl] at hM
   refine spQ ?_
   have hM0 := hM; clear hM; obtain ⟨x9, hx10, hM⟩ := letk_opn hM0; clear hM0
   have hcx9 := eqM_ok  a_ b 
   rw [← hx10] at hcx9
   refine callC_give hcx9 clQ clQ (fun hw11 => ?_)
   replace hw11 := nzQ hw11
   refine spQ ?_
   subst hM
   exact retC_view lfQ
  ·subst h8
   rw [if_neg (by decide)] at hM
   refine spQ ?_
   subst hM
   exact retC_view lfQ
 ·subst h4
  rw [if_neg (by decide)] at hM
  refine spQ ?_
  subst hM
  exact retC_view lfQ
instance (priority := 1003) : DRD 13 131 21 [17, 99, 100, 101, 102, 103, 104, 105, 106, 107, 108, 109, 110, 111, 112, 113, 114, 115, 116, 117, 118] [] ([[], [0], [0, 1], [], [3], [3, 4], [], [6], [6, 7], [0, 1, 2, 3, 4, 5, 6, 7, 8], [], [10], [10, 11], [], [13], [13, 14], [], [16], [16, 17], [0, 1, 2, 3, 4, 5, 6, 7, 8, 9, 10, 11, 12, 13, 14, 15, 16, 17, 18], []] ++ [List.range 21]) [] := ⟨trivial⟩
instance (priority := 1004) : DRD 14 131 10 [119, 120, 121, 122, 123, 124, 125, 126, 127, 128] [] ([[], [], [0, 1], [0, 1, 2], [0, 1, 2, 3], [0, 1, 2, 3], [0, 1, 2, 3, 4, 5], [0, 1, 2, 3], [0, 1, 2, 3], [0, 1, 2, 3, 7, 8]] ++ [List.range 10, List.range 11, List.range 12]) [] := ⟨trivial⟩
set_option maxHeartbeats 2000000 in
set_option maxRecDepth 100000 in
instance specielaw11_BaseDigests_ok   (b : S_api_Bases) (c : S_api_Bases)  : CM En (specielaw11_BaseDigests b c) 5 [.agg [.int .i64 b.Group.P, .int .i64 b.Group.Q, .int .i64 b.Group.G, .int .i64 b.G1, .int .i64 b.G2, .int .i64 b.H], (e_api_Bases c)] (fun y => .bool y) (fun _ => []) := by
 refine cmQ fun r hM => ?_
 rw [specielaw11_BaseDigests.eq_1] at hM
 refine enterV En_ok En_mo noJ Tryd.func5 rfl Tryd.ntmps5 (by kernel_rfl) fun hw => ct_start ?_
 refine spQ ?_
 replace hw := nzQ hw
 have hM0 := hM; clear hM; obtain ⟨x1, hx2, hM⟩ := letk_opn hM0; clear hM0
 have hcx1 := cmU hx2
 refine callC_give hcx1 clQ clQ (fun hw3 => ?_)
 replace hw3 := nzQ hw3
 refine spQ ?_
 refine condC_intro (fun h4 => ?_) (fun h4 => ?_)
 ·rw [if_pos h4] at hM
  refine spQA h4 ?_
  have nh4 := nzQ h4
  try have hr5 := mpQ nh4
  subst hM
  exact retC_view (lfQA h4)
 ·rw [if_neg (ne_true h4)] at hM
  refine spQA h4 ?_
  have nh4 := nzQ h4
  try have hr6 := mpQ nh4
  have hM0 := hM; clear hM; obtain ⟨x7, hx8, hM⟩ := letk_opn hM0; clear hM0
  have hcx7 := cmU hx8
  refine callC_give hcx7 clQ clQ (fun hw9 => ?_)
  replace hw9 := nzQ hw9
  refine spQ ?_
  have hq10 := hgt_bitem hx8
  replace hq10 := nzQ hq10
  have hM0 := hM; clear hM; obtain ⟨x11, hx12, hM⟩ := letk_opn hM0; clear hM0
  have hcx11 := cmU hx12
  refine callC_give hcx11 clQ clQ (fun hw13 => ?_)
  replace hw13 := nzQ hw13
  refine spQ ?_
  have hM0 := hM; clear hM; obtain ⟨x14, hx15, hM⟩ := letk_opn hM0; clear hM0
  have hcx14 := cmU hx15
  refine callC_give hcx14 clQ clQ (fun hw16 => ?_)
  replace hw16 := nzQ hw16
  refine spQ ?_
  have hq17 := hgt_bitem hx15
  replace hq17 := nzQ hq17
  refine guardC_f (fun h18 => ?_) (fun h18 => ?_)
  ·rw [if_neg (ne_true h18)] at hM
   refine spQA h18 ?_
   have nh18 := nzQ h18
   try have hr19 := mpQ nh18
   refine condC_intro (fun h20 => ?_) (fun h20 => ?_)
   ·rw [if_pos h20] at hM
    refine spQA h20 ?_
    have nh20 := nzQ h20
    try have hr21 := mpQ nh20
    have hF := (And.intro h4 (And.intro h18 h20))
    exact auQ
   ·rw [if_neg (ne_true h20)] at hM
    refine spQA h20 ?_
    have nh20 := nzQ h20
    try have hr40 := mpQ nh20
    have hM0 := hM; clear hM; obtain ⟨x41, hx42, hM⟩ := letk_opn hM0; clear hM0
    have hcx41 := cmH hx42 (encode_Encode_ok  (x7.1) (by (exact pfQ)))
    refine callC_give hcx41 clQ clQ (fun hw43 => ?_)
    replace hw43 := nzQ hw43
    refine spQ ?_
    have hq44 := encode_len hx42
    replace hq44 := nzQ hq44
    have hM0 := hM; clear hM; obtain ⟨x45, hx46, hM⟩ := letk_opn hM0; clear hM0
    have hcx45 := cmH hx46 (digest_Tagged_ok  ([115, 112, 101, 99, 105, 101, 47, 98, 97, 115, 101, 115]) (x41.1) (by (exact pfQ)))
    refine callC_give hcx45 clQ clQ (fun hw47 => ?_)
    replace hw47 := nzQ hw47
    refine spQ ?_
    have hF := (And.intro h4 (And.intro h18 h20))
    exact auQ
  ·rw [if_pos h18] at hM
   refine spQA h18 ?_
   have nh18 := nzQ h18
   try have hr80 := mpQ nh18
   have hF := (And.intro h4 h18)
   exact auQ
end Go.Proofs.YtbfeamknaiaghaaDoor
namespace Go.Proofs.YtbfeamknaiaghaaDoor
open Go.RowKit Go.Lib
theorem dig_ok {d : Nat} (h : d < 10) : (UInt8.ofNat (48 + d)).toNat = 48 + d := by
 rw [UInt8.toNat_ofNat']; omega
theorem pu_app : ∀ (l : List UInt8) (c : UInt8) (a u : Nat), parseUint10 a l = .ok u → u < 230584300921369396 → 48 ≤ c.toNat → c.toNat ≤ 57 → parseUint10 a (l ++ [c]) = .ok (u * 10 + (c.toNat - 48))
 | [], c, a, u, h, hu, h0, h1 => by
  simp only [parseUint10] at h
  injection h with h
  subst h
  rw [List.nil_append]
  simp only [parseUint10]
  rw [if_pos (by omega), if_neg (by omega), if_neg (by omega)]
 | x :: l, c, a, u, h, hu, h0, h1 => by
  rw [List.cons_append]
  simp only [parseUint10] at h ⊢
  split at h
  ·rename_i hx
   rw [if_pos hx]
   split at h
   ·cases h
   ·rename_i hy
    rw [if_neg hy]
    split at h
    ·cases h
    ·rename_i hz
     rw [if_neg hz]
     exact pu_app l c _ u h hu h0 h1
  ·cases h
theorem pu_dec : ∀ (u : Nat), u < 2305843009213693952 → parseUint10 0 (decDigits u) = .ok u := by
 intro u
 induction u using Nat.strongRecOn with
 | _ u ih =>
  intro hu
  by_cases h : u < 10
  ·rw [decDigits_one h]
   simp only [parseUint10, dig_ok h]
   rw [if_pos (by omega), if_neg (by omega), if_neg (by omega)]
   congr 1
   omega
  ·have hd : u % 10 < 10 := by omega
   rw [decDigits, dif_neg h]
   have := pu_app (decDigits (u / 10)) (UInt8.ofNat (48 + u % 10)) 0 (u / 10) (ih (u / 10) (by omega) (by omega)) (by omega) (by rw [dig_ok hd]; omega) (by rw [dig_ok hd]; omega)
   rw [this, dig_ok hd]
   congr 1
   omega
theorem dec_digits : ∀ (u : Nat), ∀ c ∈ decDigits u, 48 ≤ c.toNat ∧ c.toNat ≤ 57 := by
 intro u
 induction u using Nat.strongRecOn with
 | _ u ih =>
  intro c hc
  by_cases h : u < 10
  ·rw [decDigits_one h] at hc
   simp only [List.mem_cons, List.not_mem_nil, or_false] at hc
   rw [hc, dig_ok h]; omega
  ·rw [decDigits, dif_neg h] at hc
   rcases List.mem_append.1 hc with h1 | h1
   ·exact ih (u / 10) (by omega) c h1
   ·simp only [List.mem_cons, List.not_mem_nil, or_false] at h1
    rw [h1, dig_ok (by omega)]; omega
theorem dec_ne (u : Nat) : decDigits u ≠ [] := by
 intro h
 have h1 := decDigits_length u
 rw [h, List.length_nil] at h1
 by_cases hu : u < 10
 ·rw [nDigits_small hu] at h1; omega
 ·rw [nDigits_big hu] at h1; omega
theorem atoi_itoa {n : Int} (h0 : 0 ≤ n) (h1 : n < 2305843009213693952) : strconv_Atoi (strconv_Itoa n) = (n, true) := by
 obtain ⟨u, rfl⟩ := Int.eq_ofNat_of_zero_le h0
 unfold strconv_Atoi strconv_Itoa
 rw [itoa_nonneg]
 have hp := pu_dec u (by omega)
 have hd := dec_digits u
 have hn := dec_ne u
 have e : atoiAll (decDigits u) = .ok (u : Int) := by
  cases hl : decDigits u with
  | nil => exact absurd hl hn
  | cons c r =>
   rw [hl] at hp hd
   have hc := hd c (by simp)
   unfold atoiAll
   simp only
   rw [if_neg (show ¬ (c.toNat = 43 ∨ c.toNat = 45) by omega)]
   unfold parseMag
   rw [if_neg (by simp), hp]
   simp only
   rw [if_neg (by omega), if_neg (by omega), if_neg (by omega)]
 rw [e]
theorem itoa_no32 {n : Int} (h0 : 0 ≤ n) : (32 : UInt8) ∉ strconv_Itoa n := by
 obtain ⟨u, rfl⟩ := Int.eq_ofNat_of_zero_le h0
 unfold strconv_Itoa
 rw [itoa_nonneg]
 intro h
 have := dec_digits u _ h
 have e : (32 : UInt8).toNat = 32 := rfl
 omega
def cutAll (c : UInt8) : List UInt8 → List (List UInt8)
 | [] => [[]]
 | b :: s => if b = c then [] :: cutAll c s else match cutAll c s with
  | [] => [[b]]
  | p :: ps => (b :: p) :: ps
theorem cutAll_app (c : UInt8) : ∀ (p s : List UInt8), c ∉ p → cutAll c (p ++ c :: s) = p :: cutAll c s
 | [], s, _ => by rw [List.nil_append, cutAll, if_pos rfl]
 | b :: p, s, h => by
  have hb : b ≠ c := fun e => h (by rw [e]; simp)
  rw [List.cons_append, cutAll, if_neg hb, cutAll_app c p s (fun e => h (List.mem_cons_of_mem _ e))]
theorem cutAll_one (c : UInt8) : ∀ (p : List UInt8), c ∉ p → cutAll c p = [p]
 | [], _ => rfl
 | b :: p, h => by
  have hb : b ≠ c := fun e => h (by rw [e]; simp)
  rw [cutAll, if_neg hb, cutAll_one c p (fun e => h (List.mem_cons_of_mem _ e))]
theorem cutAll_join (c : UInt8) : ∀ (p : List UInt8) (ps : List (List UInt8)), (∀ x ∈ p :: ps, c ∉ x) → cutAll c (Lib.join (p :: ps) [c]) = p :: ps
 | p, [], h => by rw [join_one, cutAll_one c p (h p (by simp))]
 | p, q :: ps, h => by
  have ih := cutAll_join c q ps (fun x hx => h x (List.mem_cons_of_mem _ hx))
  have e : Lib.join (p :: q :: ps) [c] = p ++ c :: Lib.join (q :: ps) [c] := by
   rw [join_cons, join_cons]
   simp [joinTail]
  rw [e, cutAll_app c p _ (h p (by simp)), ih]
theorem index_one (c : UInt8) : ∀ s : List UInt8, index s [c] = -1 ∧ c ∉ s ∨ ∃ p r, s = p ++ c :: r ∧ c ∉ p ∧ index s [c] = (p.length : Nat)
 | [] => .inl ⟨by simp [index], by simp⟩
 | b :: s => by
  by_cases h : b = c
  ·subst h
   exact .inr ⟨[], s, rfl, by simp, by rw [index]; simp [List.isPrefixOf]⟩
  ·have hp : ([c] : List UInt8).isPrefixOf (b :: s) = false := by simp [List.isPrefixOf, Ne.symm h]
   have hix : index (b :: s) [c] = if index s [c] == -1 then -1 else index s [c] + 1 := by rw [index, hp]; simp
   rcases index_one c s with ⟨h1, h2⟩ | ⟨p, r, h1, h2, h3⟩
   ·exact .inl ⟨by rw [hix, h1]; rfl, by simp [Ne.symm h, h2]⟩
   ·exact .inr ⟨b :: p, r, by rw [h1]; rfl, by simp [Ne.symm h, h2], by rw [hix, h3, if_neg (by simp), List.length_cons]; push_cast; rfl⟩
theorem splitK_one (c : UInt8) : ∀ (k : Nat) (s : List UInt8), s.count c ≤ k → splitK [c] 0 k s = cutAll c s
 | 0, s, h => by
  have : c ∉ s := by
   intro hm
   have := List.count_pos_iff.2 hm
   omega
  rw [cutAll_one c s this]; rfl
 | k + 1, s, h => by
  unfold splitK
  rcases index_one c s with ⟨h1, h2⟩ | ⟨p, r, h1, h2, h3⟩
  ·rw [if_pos (by rw [h1]; rfl), cutAll_one c s h2]
  ·rw [if_neg (by rw [h3]; simp), h3]
   have e1 : ((p.length : Nat) : Int).toNat = p.length := Int.toNat_natCast _
   rw [e1, h1, cutAll_app c p r h2, List.length_singleton, Nat.add_zero, List.take_left]
   have e2 : (p ++ c :: r).drop (p.length + 1) = r := by
    rw [List.drop_append]
    simp
   rw [e2, splitK_one c k r]
   rw [h1, List.count_append, List.count_cons_self] at h
   omega
theorem split_one (c : UInt8) (s : List UInt8) : strings_Split s [c] = cutAll c s := by
 unfold strings_Split
 refine splitK_one c _ s ?_
 have h := count_one c s
 have e : countB ⟨s.toArray⟩ ⟨[c].toArray⟩ = count s [c] := rfl
 rw [e, h]
 exact Nat.le_refl _
end Go.Proofs.YtbfeamknaiaghaaDoor
namespace Go.Proofs.YtbfeamknaiaghaaDoor
open Go.RowKit Go.Lib
theorem rem_nn {a b : Int} (h : 0 ≤ a) : remI .i64 a b = a % b := Int.tmod_eq_emod_of_nonneg h
theorem q_le {p q : Int} (hp : 2 ≤ p) (hp1 : p < 2305843009213693952) (hq : 3 ≤ q) (h : remI .i64 (subI .i64 p 1) q = 0) : q < p := by
 have e : subI .i64 p 1 = p - 1 := by unfold subI; rw [IntKind.wrap_i64]; omega
 rw [e, rem_nn (by omega)] at h
 have h1 : q ≤ p - 1 := Int.le_of_dvd (by omega) (Int.dvd_of_emod_eq_zero h)
 omega
theorem iteF {c : Prop} [Decidable c] {a : Bool} : ((if c then false else a) = true) ↔ (¬ c ∧ a = true) := by
 by_cases h : c <;> simp [h]
theorem iteA {c : Prop} [Decidable c] {a : Bool} : ((if c then a else false) = true) ↔ (c ∧ a = true) := by
 by_cases h : c <;> simp [h]
theorem lk {α β : Type} {a : α} {f : α → β} : letk a f = f a := rfl
theorem is_ge {n : Int} (h : prime_Is n = true) : 2 ≤ n := by
 unfold prime_Is at h
 rw [iteF] at h
 have := h.1
 simp only [decide_eq_true_eq] at this
 omega
theorem group_ok {g : S_api_Group} (h : group_Valid g = true) : 2 ≤ g.P ∧ g.P < 2305843009213693952 ∧ 3 ≤ g.Q ∧ g.Q < g.P ∧ 2 ≤ g.G ∧ g.G < g.P := by
 unfold group_Valid at h
 simp only [lk, iteF, iteA, decide_eq_true_eq, beq_iff_eq, bne_iff_ne, ne_eq, Bool.not_eq_true', Bool.not_eq_false, Decidable.not_not] at h
 obtain ⟨h1, h2, h3, h4, h5, h6, h7, h8, h9, h10⟩ := h
 have hp := is_ge h4
 have hq := q_le hp (by omega) (show 3 ≤ g.Q by omega) h6
 omega
theorem contains_ok {g : S_api_Group} {x : Int} (h : group_Contains g x = true) : 1 ≤ x ∧ x < g.P := by
 unfold group_Contains group_element at h
 simp only [lk, iteF, iteA, decide_eq_true_eq] at h
 obtain ⟨_, h1, h2, _⟩ := h
 omega
def okB (b : S_api_Bases) : Prop := ∀ x ∈ base_numbers b, 0 ≤ x ∧ x < 2305843009213693952
theorem base_ok {b : S_api_Bases} (h : base_Valid b = true) : okB b := by
 unfold base_Valid at h
 rw [show ((3 : Int) - 0).toNat + 1 = 4 from rfl] at h
 simp only [lk, iter, iteF, iteA, decide_eq_true_eq, beq_iff_eq, bne_iff_ne, ne_eq, Bool.not_eq_true', Bool.not_eq_false, Int.reduceLT, Int.reduceAdd, gt, Int.reduceToNat, List.getD_cons_zero, List.getD_cons_succ, if_true, Bool.not_true, Bool.false_eq_true, not_false_eq_true, true_and, and_true, if_false, Decidable.not_not] at h
 obtain ⟨h0, _, h1, _, h2, _, h3⟩ := h
 have g0 := group_ok h0
 have g1 := contains_ok h1
 have g2 := contains_ok h2
 have g3 := contains_ok h3
 intro x hx
 simp only [base_numbers, List.mem_cons, List.not_mem_nil, or_false] at hx
 rcases hx with rfl | rfl | rfl | rfl | rfl | rfl <;> omega
theorem take_gt {α : Type} [Inhabited α] {l : List α} {k : Nat} (h : k < l.length) : l.take (k + 1) = l.take k ++ [gt l (k : Int)] := by
 rw [List.take_add_one, gt_nat, List.getD_eq_getElem?_getD, List.getElem?_eq_getElem h]; rfl
def txt (b : S_api_Bases) : List UInt8 := Lib.join ((base_numbers b).map strconv_Itoa) [32]
theorem text_eq {b : S_api_Bases} (h : base_Valid b = true) : base_Text b = (txt b, 0) := by
 unfold base_Text
 refine letk_go fun x1 h1 => ?_
 rw [if_neg (by rw [h1, h]; decide)]
 refine letk_go fun x7 h7 => ?_
 refine iter_rule (P := fun p : Int × List (List UInt8) => ∃ k : Nat, p.1 = k ∧ k ≤ x7.length ∧ p.2 = (x7.take k).map strconv_Itoa) (Q := fun r => r = (txt b, 0)) (meas := fun p => ((x7.length : Int) - p.1).toNat) ?_ _ _ ⟨0, rfl, Nat.zero_le _, rfl⟩ (by show ((x7.length : Int) - 0).toNat < _; omega)
 rintro ag ⟨i, l⟩ ⟨k, e1, e2, e3⟩ ih
 simp only at e1 e3 ih
 subst e1
 by_cases hi : (k : Int) < (x7.length : Int)
 ·rw [if_pos (show decide ((k : Int) < (x7.length : Int)) = true by simpa using hi)]
  refine letk_go fun x15 h15 => ?_
  refine ih _ ⟨k + 1, by push_cast; rfl, by omega, ?_⟩ (by show ((x7.length : Int) - (k + 1)).toNat < ((x7.length : Int) - k).toNat; omega)
  show l ++ [x15] = _
  rw [take_gt (by omega), List.map_append, e3, h15]; rfl
 ·rw [if_neg (show ¬ decide ((k : Int) < (x7.length : Int)) = true by simpa using hi)]
  have e4 : k = x7.length := by omega
  rw [e4, List.take_length] at e3
  refine letk_go fun x19 h19 => ?_
  rw [h19, e3, h7]; rfl
def okp (p : List UInt8) : Bool := (strconv_Atoi p).2 && decide (0 ≤ (strconv_Atoi p).1) && decide ((strconv_Atoi p).1 < 2305843009213693952) && (strconv_Itoa (strconv_Atoi p).1 == p)
def mkB (l : List Int) : S_api_Bases := ⟨⟨gt l 0, gt l 1, gt l 2⟩, gt l 3, gt l 4, gt l 5⟩
def fin (l : List Int) : S_api_Bases × Int := if ((l.length : Int) != 6) = true then (z_api_Bases, 3) else if (!(base_Valid (mkB l))) = true then (z_api_Bases, 1) else (mkB l, 0)
def readAll (ps : List (List UInt8)) : S_api_Bases × Int := if ps.all okp = true then fin (ps.map fun p => (strconv_Atoi p).1) else (z_api_Bases, 3)
theorem parse_eq (s : List UInt8) : base_Parse s = if s.length > 200 then (z_api_Bases, 5) else readAll (cutAll 32 s) := by
 unfold base_Parse
 by_cases hs : s.length > 200
 ·rw [if_pos (show decide ((s.length : Int) > 200) = true by simp only [decide_eq_true_eq]; omega), if_pos hs]
 rw [if_neg (show ¬ decide ((s.length : Int) > 200) = true by simp only [decide_eq_true_eq]; omega), if_neg hs]
 refine letk_go fun x4 h4 => ?_
 rw [split_one] at h4
 rw [← h4]
 generalize hT : readAll x4 = T
 refine iter_rule (P := fun p : Int × S_api_Bases × List Int => ∃ k : Nat, p.1 = k ∧ k ≤ x4.length ∧ (x4.take k).all okp = true ∧ p.2.2 = (x4.take k).map fun p => (strconv_Atoi p).1) (Q := fun r => r = T) (meas := fun p => ((x4.length : Int) - p.1).toNat) ?_ _ _ ⟨0, rfl, Nat.zero_le _, rfl, rfl⟩ (by show ((x4.length : Int) - 0).toNat < _; omega)
 rintro ag ⟨i, c, l⟩ ⟨k, e1, e2, e3, e5⟩ ih
 simp only at e1 e5 ih
 subst e1
 by_cases hi : (k : Int) < (x4.length : Int)
 ·rw [if_pos (show decide ((k : Int) < (x4.length : Int)) = true by simpa using hi)]
  have hm := gt_mem (l := x4) (i := (k : Int)) (by omega)
  have bad : okp (gt x4 (k : Int)) = false → (z_api_Bases, (3 : Int)) = T := fun hb => by
   rw [← hT]
   unfold readAll
   rw [if_neg]
   intro ha
   rw [List.all_eq_true] at ha
   rw [ha _ hm] at hb; cases hb
  refine letk_go fun x11 h11 => ?_
  by_cases c1 : x11.2 = true
  ·rw [if_neg (show ¬ (!x11.2) = true by rw [c1]; decide)]
   by_cases c2 : x11.1 < 0
   ·rw [if_pos (show decide (x11.1 < 0) = true by simpa using c2)]
    exact bad (by unfold okp; rw [← h11]; simp [show ¬ 0 ≤ x11.1 by omega])
   rw [if_neg (show ¬ decide (x11.1 < 0) = true by simpa using c2)]
   by_cases c3 : x11.1 ≥ 2305843009213693952
   ·rw [if_pos (show decide (x11.1 ≥ 2305843009213693952) = true by simpa using c3)]
    exact bad (by unfold okp; rw [← h11]; simp [show ¬ x11.1 < 2305843009213693952 by omega])
   rw [if_neg (show ¬ decide (x11.1 ≥ 2305843009213693952) = true by simpa using c3)]
   refine letk_go fun x20 h20 => ?_
   by_cases c4 : (x20 == gt x4 (k : Int)) = true
   ·rw [if_neg (show ¬ (!(x20 == gt x4 (k : Int))) = true by rw [c4]; decide)]
    have hok : okp (gt x4 (k : Int)) = true := by
     unfold okp
     rw [← h11, ← h20, c1, c4]
     simp [show 0 ≤ x11.1 by omega, show x11.1 < 2305843009213693952 by omega]
    refine ih _ ⟨k + 1, by push_cast; rfl, by omega, ?_, ?_⟩ (by show ((x4.length : Int) - (k + 1)).toNat < ((x4.length : Int) - k).toNat; omega)
    ·rw [take_gt (by omega), List.all_append, e3]
     simp [hok]
    ·show l ++ [x11.1] = _
     rw [take_gt (by omega), List.map_append, e5, h11]; rfl
   ·rw [if_pos (show (!(x20 == gt x4 (k : Int))) = true by simpa using c4)]
    exact bad (by unfold okp; rw [← h11, ← h20]; simp [show (x20 == gt x4 (k : Int)) = false by simpa using c4])
  ·rw [if_pos (show (!x11.2) = true by simpa using c1)]
   exact bad (by unfold okp; rw [← h11]; simp [show x11.2 = false by simpa using c1])
 ·rw [if_neg (show ¬ decide ((k : Int) < (x4.length : Int)) = true by simpa using hi)]
  have e4 : k = x4.length := by omega
  rw [e4, List.take_length] at e3 e5
  have hT2 : T = fin l := by rw [← hT, e5]; unfold readAll; rw [if_pos e3]
  rw [hT2]
  unfold fin
  split
  ·rfl
  ·refine letk_go fun x39 h39 => ?_
   rw [h39]
   rfl
theorem q_refl (b : S_api_Bases) : q_api_Bases b b = true := by
 unfold q_api_Bases
 simp
theorem back {b : S_api_Bases} (h : base_Valid b = true) : base_Parse (txt b) = (b, 0) := by
 have ho := base_ok h
 have hl : (txt b).length ≤ 200 := by
  unfold txt
  refine Nat.le_trans (join_le _ _) ?_
  have h1 : textLen ((base_numbers b).map strconv_Itoa) ≤ 6 * 21 := by
   have hx : ∀ x ∈ base_numbers b, (strconv_Itoa x).length ≤ 21 := fun x hx => Lib.itoa_length_le x (by have := ho x hx; omega) (by have := ho x hx; omega)
   simp only [textLen, base_numbers, List.map_cons, List.map_nil, List.sum_cons, List.sum_nil, List.mem_cons, List.not_mem_nil, or_false, forall_eq_or_imp, forall_eq] at hx ⊢
   omega
  have h2 : ((base_numbers b).map strconv_Itoa).length = 6 := by rw [List.length_map]; rfl
  rw [h2]
  simp only [List.length_cons, List.length_nil]
  omega
 rw [parse_eq, if_neg (by omega)]
 have hc : cutAll 32 (txt b) = (base_numbers b).map strconv_Itoa := by
  unfold txt
  refine cutAll_join 32 (strconv_Itoa b.Group.P) _ (fun x hx => ?_)
  have hx' : x ∈ (base_numbers b).map strconv_Itoa := hx
  obtain ⟨n, hn, rfl⟩ := List.mem_map.1 hx'
  exact itoa_no32 (ho n hn).1
 rw [hc]
 unfold readAll
 have hat : ∀ n ∈ base_numbers b, strconv_Atoi (strconv_Itoa n) = (n, true) := fun n hn => atoi_itoa (ho n hn).1 (ho n hn).2
 rw [if_pos]
 ·have hm : ((base_numbers b).map strconv_Itoa).map (fun p => (strconv_Atoi p).1) = base_numbers b := by
   rw [List.map_map]
   conv => rhs; rw [← List.map_id (base_numbers b)]
   exact List.map_congr_left fun n hn => by show (strconv_Atoi (strconv_Itoa n)).1 = n; rw [hat n hn]
  rw [hm]
  unfold fin
  have hk : mkB (base_numbers b) = b := rfl
  rw [if_neg (by show ¬ (((6 : Nat) : Int) != 6) = true; decide), hk, if_neg (by rw [h]; decide)]
 ·rw [List.all_eq_true]
  intro x hx
  obtain ⟨n, hn, rfl⟩ := List.mem_map.1 hx
  unfold okp
  rw [hat n hn]
  simp [(ho n hn).1, (ho n hn).2]
def exB : S_api_Bases := { Group := ({ P := 23, Q := 11, G := 4 } : S_api_Group), G1 := 2, G2 := 3, H := 9 }
def exS : List UInt8 := [50, 51, 32, 49, 49, 32, 52, 32, 50, 32, 51, 32, 57]
theorem ex_valid : base_Valid exB = true := by decide +kernel
theorem ex_txt : txt exB = exS := by
 have d2 : ∀ i : Nat, ¬ i < 10 → i < 100 → strconv_Itoa (i : Int) = [UInt8.ofNat (48 + i / 10), UInt8.ofNat (48 + i % 10)] := fun i h1 h2 => by
  unfold strconv_Itoa; rw [itoa_nonneg, decDigits_two h1 h2]
 have d1 : ∀ i : Nat, i < 10 → strconv_Itoa (i : Int) = [UInt8.ofNat (48 + i)] := fun i h => by
  unfold strconv_Itoa; rw [itoa_nonneg, decDigits_one h]
 unfold txt
 have e : (base_numbers exB).map strconv_Itoa = [[50, 51], [49, 49], [52], [50], [51], [57]] := by
  show [strconv_Itoa ((23 : Nat) : Int), strconv_Itoa ((11 : Nat) : Int), strconv_Itoa ((4 : Nat) : Int), strconv_Itoa ((2 : Nat) : Int), strconv_Itoa ((3 : Nat) : Int), strconv_Itoa ((9 : Nat) : Int)] = _
  rw [d2 23 (by decide) (by decide), d2 11 (by decide) (by decide), d1 4 (by decide), d1 2 (by decide), d1 3 (by decide), d1 9 (by decide)]
  rfl
 rw [e]
 rfl
theorem base_awake : specielaw11_awake = true := by
 unfold specielaw11_awake
 refine letk_go fun x1 h1 => ?_
 refine letk_go fun x4 h4 => ?_
 have e1 : x1 = (exS, 0) := by rw [h1, ← ex_txt]; exact text_eq ex_valid
 have e4 : x4 = (exB, 0) := by rw [h4, ← back ex_valid, ex_txt]; rfl
 rw [e1, e4]
 rw [if_pos (by show (exS == exS) = true; decide), if_pos (by show ((0 : Int) == 0) = true; decide), if_pos (by show q_api_Bases exB exB = true; exact q_refl _), if_pos (by show ((0 : Int) == 0) = true; decide)]
 refine letk_go fun x15 h15 => ?_
 rw [h15]
 decide +kernel
end Go.Proofs.YtbfeamknaiaghaaDoor
namespace Go.Proofs.YtbfeamknaiaghaaDoor
open Go.RowKit Go.Lib
theorem item_eq {b : S_api_Bases} (h : base_Valid b = true) : base_Item b = (intsI (base_numbers b), 0) := by
 unfold base_Item
 refine letk_go fun x1 h1 => ?_
 rw [if_neg (by rw [h1, h]; decide)]
 refine letk_go fun x7 h7 => ?_
 refine letk_go fun x11 h11 => ?_
 rw [h11, Ints_eq, h7]
theorem item_bad {b : S_api_Bases} (h : base_Valid b = false) : base_Item b = (z_api_Item, 1) := by
 unfold base_Item
 refine letk_go fun x1 h1 => ?_
 rw [if_pos (by rw [h1, h]; decide)]
theorem within_b (b : S_api_Bases) : withinM (intsI (base_numbers b)) 8 = true := by
 simp [intsI, intI, base_numbers, withinM, withinL]
theorem enc_b (b : S_api_Bases) : encode_Encode (intsI (base_numbers b)) = (encI (intsI (base_numbers b)), 0) := by
 have hl := encI_len (intsI (base_numbers b))
 have hh : hgt (intsI (base_numbers b)) = 7 := by rw [hgt_ints]; rfl
 rw [encode_Encode_eq, if_neg (by rw [within_b]; decide), if_neg (by omega)]
theorem tag_ok {tag : List UInt8} {x : List Int} (h1 : 1 ≤ tag.length) (h2 : tag.length ≤ 100) : digest_Tagged tag x = ((digest_Tagged tag x).1, 0) := by
 unfold digest_Tagged
 rw [if_neg (show ¬ decide ((tag.length : Int) < 1) = true by simp only [decide_eq_true_eq]; omega), if_neg (show ¬ decide ((tag.length : Int) > 100) = true by simp only [decide_eq_true_eq]; omega)]
 rfl
def baseTag : List UInt8 := [115, 112, 101, 99, 105, 101, 47, 98, 97, 115, 101, 115]
theorem digest_eq {b : S_api_Bases} (h : base_Valid b = true) : base_Digest b = ((digest_Tagged baseTag (encI (intsI (base_numbers b)))).1, 0) := by
 unfold base_Digest
 refine letk_go fun x1 h1 => ?_
 rw [item_eq h] at h1
 rw [if_neg (by rw [h1]; show ¬ ((0 : Int) != 0) = true; decide)]
 refine letk_go fun x7 h7 => ?_
 refine letk_go fun x10 h10 => ?_
 have e7 : x7 = (encI (intsI (base_numbers b)), 0) := by rw [h7, h1]; exact enc_b b
 rw [h10, e7]
 rfl
theorem digest_bad {b : S_api_Bases} (h : base_Valid b = false) : base_Digest b = ([0, 0, 0, 0, 0, 0, 0, 0, 0, 0, 0, 0, 0, 0, 0, 0, 0, 0, 0, 0, 0, 0, 0, 0, 0, 0, 0, 0, 0, 0, 0, 0], 1) := by
 unfold base_Digest
 refine letk_go fun x1 h1 => ?_
 rw [item_bad h] at h1
 rw [if_pos (by rw [h1]; show ((1 : Int) != 0) = true; decide), h1]
theorem eqL_ints : ∀ {l m : List Int}, (eqL (l.map intI) (m.map intI) = true) ↔ l = m
 | [], [] => by simp [eqL]
 | a :: l, b :: m => by
  rw [List.map_cons, List.map_cons, eqL]
  have e : eqM (intI a) (intI b) = (a == b) := by
   unfold intI
   rw [eqM]
   by_cases h : a = b
   ·subst h; simp [eqL]
   ·simp [h]
  rw [e]
  by_cases h : a = b
  ·subst h
   rw [if_pos (by simp), eqL_ints]; simp
  ·rw [if_neg (by simpa using h)]; simp [h]
 | [], b :: m => by simp [eqL]
 | a :: l, [] => by simp [eqL]
theorem eqM_ints (l m : List Int) : (eqM (intsI l) (intsI m) = true) ↔ l = m := by
 unfold intsI
 rw [eqM, if_pos (by decide), if_pos (by decide), if_pos (by decide)]
 exact eqL_ints
theorem equal_b (b c : S_api_Bases) : (encode_Equal (intsI (base_numbers b)) (intsI (base_numbers c)) = true) ↔ base_numbers b = base_numbers c := by
 have e : encode_Equal (intsI (base_numbers b)) (intsI (base_numbers c)) = eqM (intsI (base_numbers b)) (intsI (base_numbers c)) := by
  unfold encode_Equal
  refine letk_go fun x1 h1 => ?_
  rw [valid_eq, within_b] at h1
  rw [if_pos h1]
  refine letk_go fun x5 h5 => ?_
  rw [valid_eq, within_b] at h5
  rw [if_pos h5]
  rfl
 rw [e]; exact eqM_ints _ _
theorem q_iff (b c : S_api_Bases) : (q_api_Bases b c = true) ↔ base_numbers b = base_numbers c := by
 unfold q_api_Bases base_numbers
 simp [Bool.and_eq_true, beq_iff_eq]
theorem q_arr_self (a : List Int) : q_arr51 a a = true := by
 unfold q_arr51
 simp
theorem specielaw11_BaseDigests_true (b c : S_api_Bases) : specielaw11_BaseDigests b c = true := by
 unfold specielaw11_BaseDigests
 refine letk_go fun x1 h1 => ?_
 rw [base_awake] at h1
 rw [if_neg (by rw [h1]; decide)]
 refine letk_go fun x7 h7 => ?_
 refine letk_go fun x10 h10 => ?_
 refine letk_go fun x13 h13 => ?_
 cases hb : base_Valid b with
 | false =>
  rw [item_bad hb] at h7
  rw [digest_bad hb] at h10
  rw [if_pos (by rw [h7]; show ((1 : Int) != 0) = true; decide), if_neg (by rw [h7]; show ¬ ((1 : Int) == 0) = true; decide), if_pos (by rw [h7]; show ((1 : Int) == 1) = true; decide), if_pos (by rw [h10]; show ((1 : Int) == 1) = true; decide), h10]
  exact q_arr_self _
 | true =>
 rw [item_eq hb] at h7
 rw [digest_eq hb] at h10
 rw [if_neg (by rw [h7]; show ¬ ((0 : Int) != 0) = true; decide)]
 cases hc : base_Valid c with
 | false =>
  rw [item_bad hc] at h13
  rw [if_pos (by rw [h13]; show ((1 : Int) != 0) = true; decide), if_pos (by rw [h7]; show ((0 : Int) == 0) = true; decide), if_pos (by rw [h10]; show ((0 : Int) == 0) = true; decide)]
 | true =>
 rw [item_eq hc] at h13
 rw [if_neg (by rw [h13]; show ¬ ((0 : Int) != 0) = true; decide)]
 refine letk_go fun x39 h39 => ?_
 refine letk_go fun x42 h42 => ?_
 refine letk_go fun x45 h45 => ?_
 have e39 : x39 = (encI (intsI (base_numbers b)), 0) := by rw [h39, h7]; exact enc_b b
 have e42 : x42 = ((digest_Tagged baseTag (encI (intsI (base_numbers b)))).1, 0) := by
  rw [h42, e39]
  exact tag_ok (by decide) (by decide)
 have e45 : x45 = (base_numbers b, 0) := by rw [h45, h7]; exact Numbers_ints (within_b b)
 rw [if_neg (by rw [h10]; show ¬ ((0 : Int) != 0) = true; decide), if_neg (by rw [e39]; show ¬ ((0 : Int) != 0) = true; decide), if_neg (by rw [e42]; show ¬ ((0 : Int) != 0) = true; decide), if_neg (by rw [e45]; show ¬ ((0 : Int) != 0) = true; decide)]
 rw [if_neg (by rw [h10, e42, q_arr_self]; decide), if_neg (by rw [e45]; show ¬ (((6 : Nat) : Int) != 6) = true; decide)]
 rw [if_pos (by rw [e45]; exact q_refl b)]
 refine letk_go fun x69 h69 => ?_
 rw [h69, h7, h13, beq_iff_eq, Bool.eq_iff_iff]
 exact (equal_b b c).trans (q_iff b c).symm
end Go.Proofs.YtbfeamknaiaghaaDoor
