/- Each function computes its model (printed by program). -/
import Derived.Test.YtbjbogfjiifcpaaDoorM
import Derived.Test.YtbjbogfjiifcpaaDoorH1
namespace Go.Proofs.YtbjbogfjiifcpaaDoor
open Go.RowKit
set_option linter.unusedSimpArgs false
set_option maxHeartbeats 2000000 in
set_option maxRecDepth 100000 in
theorem policy_names_ok    : CallOk En 59 [] (.sl none 1 false ((policy_names).map V.str)) [] := by
  generalize hM : policy_names = r
  rw [policy_names.eq_1] at hM
  refine enterV En_ok En_mo noJ Tryd.func59 rfl Tryd.ntmps59 (by kernel_rfl) fun hw => ct_start ?_
  refine spQ ?_
  replace hw := nzQ hw
  subst hM
  exact retC_view lfQ
set_option maxHeartbeats 2000000 in
set_option maxRecDepth 100000 in
theorem slices_Index_string_string_ok (z0 : Option Bool) (s : (List (List UInt8))) (v : (List UInt8))  : CallOk En 78 [.sl z0 1 false (s.map V.str), .str v] (.int .i64 (slices_Index_string_string s v)) [] := by
  generalize hM : slices_Index_string_string s v = r
  rw [slices_Index_string_string.eq_1] at hM
  refine enterV En_ok En_mo noJ Tryd.func78 rfl Tryd.ntmps78 (by kernel_rfl) fun hw => ct_start ?_
  refine spQ ?_
  replace hw := nzQ hw
  have hM0 := hM; clear hM; obtain ⟨f1, d1, hf1, hd1, hM⟩ := iter_opn hM0; clear hM0
  refine ct_loop (fun n S => ∃ p : Int, S = (⟨[(0, .sl z0 1 false (s.map V.str)), (1, .str v), (7, .int .i64 (s.length : Int)), (8, .int .i64 p)], [], 0⟩ : St) ∧ ((0 ≤ p) ∧ (p ≤ (s.length : Int))) ∧ ((s.length : Int) - p).toNat < n ∧ iter n f1 d1 p = r) (((s.length : Int) - 0).toNat + 1) (⟨[(0, .sl z0 1 false (s.map V.str)), (1, .str v), (7, .int .i64 (s.length : Int)), (8, .int .i64 0)], [], 0⟩ : St) sbQ sbQ ⟨0, rfl, ⟨omQ, omQ⟩, (Nat.lt_succ_self _), hM⟩ ?_
  clear hM
  rintro n1 S ⟨p1, rfl, hfa1, hm1, hM⟩
  have hM0 := hM; clear hM; obtain ⟨ag1, hag1, hM⟩ := iter_step hM0 (by omega) hf1; clear hM0
  replace hfa1 := nzQ hfa1
  replace hm1 := nzQ hm1
  have ha1 : addI .i64 p1 1 = p1 + 1 := add_one omQ omQ
  refine spQA ha1 ?_
  refine condC_intro (fun h2 => ?_) (fun h2 => ?_)
  · rw [if_pos h2] at hM
    refine spQA (And.intro ha1 h2) ?_
    have nh2 := nzQ h2
    refine bindC_intro omQ ?_
    have he3 := fun d => elt_mp (l := s) (f := V.str) (i := p1) omQ d
    refine spQA (And.intro ha1 he3) ?_
    refine condC_intro (fun h4 => ?_) (fun h4 => ?_)
    · rw [if_pos h4] at hM
      refine spQA (And.intro ha1 (And.intro he3 h4)) ?_
      have nh4 := nzQ h4
      subst hM
      exact retC_view (lfQA (And.intro ha1 (And.intro he3 (And.intro h2 h4))))
    · rw [if_neg (ne_true h4)] at hM
      refine spQA (And.intro ha1 (And.intro he3 h4)) ?_
      have nh4 := nzQ h4
      refine lp_intro (n1 - 1) (⟨[(0, .sl z0 1 false (s.map V.str)), (1, .str v), (7, .int .i64 (s.length : Int)), (8, .int .i64 (p1 + 1))], [], 0⟩ : St) (by omega) sbQ sbQ ⟨(p1 + 1), rfl, ⟨omQ, omQ⟩, omQ, iter_again hM hag1⟩
  · rw [if_neg (ne_true h2)] at hM
    refine spQA (And.intro ha1 h2) ?_
    have nh2 := nzQ h2
    subst hM
    exact retC_view (lfQA (And.intro ha1 h2))
set_option maxHeartbeats 2000000 in
set_option maxRecDepth 100000 in
theorem policy_rule_ok  (line : (List UInt8))  : CallOk En 65 [.str line] (.tup [.agg [.int .i64 (policy_rule line).1.Kind, .int .i64 (policy_rule line).1.A, .int .i64 (policy_rule line).1.B], .bool (policy_rule line).2]) [] := by
  generalize hM : policy_rule line = r
  rw [policy_rule.eq_1] at hM
  refine enterV En_ok En_mo noJ Tryd.func65 rfl Tryd.ntmps65 (by kernel_rfl) fun hw => ct_start ?_
  refine spQ ?_
  replace hw := nzQ hw
  have hM0 := hM; clear hM; obtain ⟨x1, hx2, hM⟩ := letk_opn hM0; clear hM0
  have hcx1 := strings_Cut_ok  line ([32]) 
  rw [← hx2] at hcx1
  refine callC_give hcx1 clQ clQ (fun hw3 => ?_)
  replace hw3 := nzQ hw3
  refine spQ ?_
  have hM0 := hM; clear hM; obtain ⟨x4, hx5, hM⟩ := letk_opn hM0; clear hM0
  have hcx4 := policy_names_ok   
  rw [← hx5] at hcx4
  refine callC_give hcx4 clQ clQ (fun hw6 => ?_)
  replace hw6 := nzQ hw6
  refine spQ ?_
  have hM0 := hM; clear hM; obtain ⟨x7, hx8, hM⟩ := letk_opn hM0; clear hM0
  have hcx7 := slices_Index_string_string_ok none x4 (x1.1) 
  rw [← hx8] at hcx7
  refine callC_give hcx7 clQ clQ (fun hw9 => ?_)
  replace hw9 := nzQ hw9
  refine spQ ?_
  refine guardC_f (fun h10 => ?_) (fun h10 => ?_)
  · rw [if_neg (ne_true h10)] at hM
    refine spQA h10 ?_
    have nh10 := nzQ h10
    refine condC_intro (fun h11 => ?_) (fun h11 => ?_)
    · rw [if_pos h11] at hM
      refine spQA h11 ?_
      have nh11 := nzQ h11
      subst hM
      exact retC_view (lfQA (And.intro h10 h11))
    · rw [if_neg (ne_true h11)] at hM
      refine spQA h11 ?_
      have nh11 := nzQ h11
      refine condC_intro (fun h12 => ?_) (fun h12 => ?_)
      · rw [if_pos h12] at hM
        refine spQA h12 ?_
        have nh12 := nzQ h12
        have hM0 := hM; clear hM; obtain ⟨x13, hx14, hM⟩ := letk_opn hM0; clear hM0
        have hcx13 := strings_Cut_ok  (x1.2.1) ([32]) 
        rw [← hx14] at hcx13
        refine callC_give hcx13 clQ clQ (fun hw15 => ?_)
        replace hw15 := nzQ hw15
        refine spQ ?_
        refine condC_intro (fun h16 => ?_) (fun h16 => ?_)
        · rw [if_pos h16] at hM
          refine spQA h16 ?_
          have nh16 := nzQ h16
          subst hM
          exact retC_view (lfQA (And.intro h10 (And.intro h11 (And.intro h12 h16))))
        · rw [if_neg (ne_true h16)] at hM
          refine spQA h16 ?_
          have nh16 := nzQ h16
          have hM0 := hM; clear hM; obtain ⟨x17, hx18, hM⟩ := letk_opn hM0; clear hM0
          have hcx17 := policy_number_ok  (x13.2.1) 
          rw [← hx18] at hcx17
          refine callC_give hcx17 clQ clQ (fun hw19 => ?_)
          replace hw19 := nzQ hw19
          refine spQ ?_
          refine condC_intro (fun h20 => ?_) (fun h20 => ?_)
          · rw [if_pos h20] at hM
            refine spQA h20 ?_
            have nh20 := nzQ h20
            subst hM
            exact retC_view (lfQA (And.intro h10 (And.intro h11 (And.intro h12 (And.intro h16 h20)))))
          · rw [if_neg (ne_true h20)] at hM
            refine spQA h20 ?_
            have nh20 := nzQ h20
            have hM0 := hM; clear hM; obtain ⟨x21, hx22, hM⟩ := letk_opn hM0; clear hM0
            have hcx21 := policy_number_ok  (x13.1) 
            rw [← hx22] at hcx21
            refine callC_give hcx21 clQ clQ (fun hw23 => ?_)
            replace hw23 := nzQ hw23
            refine spQ ?_
            subst hM
            exact retC_view (lfQA (And.intro h10 (And.intro h11 (And.intro h12 (And.intro h16 h20)))))
      · rw [if_neg (ne_true h12)] at hM
        refine spQA h12 ?_
        have nh12 := nzQ h12
        have hM0 := hM; clear hM; obtain ⟨x24, hx25, hM⟩ := letk_opn hM0; clear hM0
        have hcx24 := policy_number_ok  (x1.2.1) 
        rw [← hx25] at hcx24
        refine callC_give hcx24 clQ clQ (fun hw26 => ?_)
        replace hw26 := nzQ hw26
        refine spQ ?_
        subst hM
        exact retC_view (lfQA (And.intro h10 (And.intro h11 h12)))
  · rw [if_pos h10] at hM
    refine spQA h10 ?_
    have nh10 := nzQ h10
    subst hM
    exact retC_view (lfQA h10)
set_option maxHeartbeats 2000000 in
set_option maxRecDepth 100000 in
theorem policy_within_ok  (x_ : Int) (low : Int) (high : Int)  : CallOk En 48 [.int .i64 x_, .int .i64 low, .int .i64 high] (.bool (policy_within x_ low high)) [] := by
  generalize hM : policy_within x_ low high = r
  rw [policy_within.eq_1] at hM
  refine enterV En_ok En_mo noJ Tryd.func48 rfl Tryd.ntmps48 (by kernel_rfl) fun hw => ct_start ?_
  refine spQ ?_
  replace hw := nzQ hw
  refine guardC_t (fun h1 => ?_) (fun h1 => ?_)
  · rw [if_pos h1] at hM
    refine spQA h1 ?_
    have nh1 := nzQ h1
    subst hM
    exact retC_view (lfQA h1)
  · rw [if_neg (ne_true h1)] at hM
    refine spQA h1 ?_
    have nh1 := nzQ h1
    subst hM
    exact retC_view (lfQA h1)
set_option maxHeartbeats 2000000 in
set_option maxRecDepth 100000 in
theorem policy_valid_ok  (r_ : S_api_Rule)  : CallOk En 64 [.agg [.int .i64 r_.Kind, .int .i64 r_.A, .int .i64 r_.B]] (.bool (policy_valid r_)) [] := by
  generalize hM : policy_valid r_ = r
  rw [policy_valid.eq_1] at hM
  refine enterV En_ok En_mo [4] Tryd.func64 rfl Tryd.ntmps64 (by kernel_rfl) fun hw => ct_start ?_
  refine spQ ?_
  replace hw := nzQ hw
  have hM0 := hM; clear hM; obtain ⟨j1, hj1, hM⟩ := letj_opn hM0; clear hM0
  refine seqC_intro (fun S => ∃ p : Bool, S = (⟨[(1, .ptr 0 0), (4, .int .i64 r_.Kind), (5, .bool p)], [(0, .var 3 true (.agg [.int .i64 r_.Kind, .int .i64 r_.A, .int .i64 r_.B]))], 1⟩ : St) ∧ (True) ∧ j1 p = r) ?_ (fun hcut1 => ?_)
  · clear hM
    rintro S ⟨p1, rfl, hfa1, hM⟩
    have hM0 := hM; clear hM; have hM := letj_use hM0 hj1; clear hM0
    refine spQ ?_
    refine condC_intro (fun h2 => ?_) (fun h2 => ?_)
    · subst h2
      rw [if_pos rfl] at hM
      refine spQ ?_
      have hM0 := hM; clear hM; obtain ⟨x3, hx4, hM⟩ := letk_opn hM0; clear hM0
      have hcx3 := policy_within_ok  (r_.A) 0 1099511627776 
      rw [← hx4] at hcx3
      refine callC_give hcx3 clQ clQ (fun hw5 => ?_)
      replace hw5 := nzQ hw5
      refine spQ ?_
      refine guardC_t (fun h6 => ?_) (fun h6 => ?_)
      · subst h6
        rw [if_pos rfl] at hM
        refine spQ ?_
        subst hM
        exact retC_view lfQ
      · subst h6
        rw [if_neg (by decide)] at hM
        refine spQ ?_
        subst hM
        exact retC_view lfQ
    · subst h2
      rw [if_neg (by decide)] at hM
      refine spQ ?_
      refine condC_intro (fun h7 => ?_) (fun h7 => ?_)
      · rw [if_pos h7] at hM
        refine spQA h7 ?_
        have nh7 := nzQ h7
        have hM0 := hM; clear hM; obtain ⟨x8, hx9, hM⟩ := letk_opn hM0; clear hM0
        have hcx8 := policy_within_ok  (r_.A) 0 1000 
        rw [← hx9] at hcx8
        refine callC_give hcx8 clQ clQ (fun hw10 => ?_)
        replace hw10 := nzQ hw10
        refine spQ ?_
        refine guardC_t (fun h11 => ?_) (fun h11 => ?_)
        · subst h11
          rw [if_pos rfl] at hM
          refine spQ ?_
          subst hM
          exact retC_view (lfQA h7)
        · subst h11
          rw [if_neg (by decide)] at hM
          refine spQ ?_
          subst hM
          exact retC_view (lfQA h7)
      · rw [if_neg (ne_true h7)] at hM
        refine spQA h7 ?_
        have nh7 := nzQ h7
        refine condC_intro (fun h12 => ?_) (fun h12 => ?_)
        · rw [if_pos h12] at hM
          refine spQA h12 ?_
          have nh12 := nzQ h12
          have hM0 := hM; clear hM; obtain ⟨x13, hx14, hM⟩ := letk_opn hM0; clear hM0
          have hcx13 := policy_within_ok  (r_.A) 0 8 
          rw [← hx14] at hcx13
          refine callC_give hcx13 clQ clQ (fun hw15 => ?_)
          replace hw15 := nzQ hw15
          refine spQ ?_
          refine guardC_t (fun h16 => ?_) (fun h16 => ?_)
          · subst h16
            rw [if_pos rfl] at hM
            refine spQ ?_
            subst hM
            exact retC_view (lfQA (And.intro h7 h12))
          · subst h16
            rw [if_neg (by decide)] at hM
            refine spQ ?_
            subst hM
            exact retC_view (lfQA (And.intro h7 h12))
        · rw [if_neg (ne_true h12)] at hM
          refine spQA h12 ?_
          have nh12 := nzQ h12
          refine condC_intro (fun h17 => ?_) (fun h17 => ?_)
          · rw [if_pos h17] at hM
            refine spQA h17 ?_
            have nh17 := nzQ h17
            have hM0 := hM; clear hM; obtain ⟨x18, hx19, hM⟩ := letk_opn hM0; clear hM0
            have hcx18 := policy_within_ok  (r_.A) 0 23 
            rw [← hx19] at hcx18
            refine callC_give hcx18 clQ clQ (fun hw20 => ?_)
            replace hw20 := nzQ hw20
            refine spQ ?_
            refine guardC_t (fun h21 => ?_) (fun h21 => ?_)
            · subst h21
              rw [if_pos rfl] at hM
              refine spQ ?_
              have hM0 := hM; clear hM; obtain ⟨x22, hx23, hM⟩ := letk_opn hM0; clear hM0
              have hcx22 := policy_within_ok  (r_.B) 0 23 
              rw [← hx23] at hcx22
              refine callC_give hcx22 clQ clQ (fun hw24 => ?_)
              replace hw24 := nzQ hw24
              refine spQ ?_
              refine guardC_t (fun h25 => ?_) (fun h25 => ?_)
              · subst h25
                rw [if_pos rfl] at hM
                refine spQ ?_
                subst hM
                exact retC_view (lfQA (And.intro h7 (And.intro h12 h17)))
              · subst h25
                rw [if_neg (by decide)] at hM
                refine spQ ?_
                subst hM
                exact retC_view (lfQA (And.intro h7 (And.intro h12 h17)))
            · subst h21
              rw [if_neg (by decide)] at hM
              refine spQ ?_
              subst hM
              exact retC_view (lfQA (And.intro h7 (And.intro h12 h17)))
          · rw [if_neg (ne_true h17)] at hM
            refine spQA h17 ?_
            have nh17 := nzQ h17
            subst hM
            exact retC_view (lfQA (And.intro h7 (And.intro h12 h17)))
  · refine spQ ?_
    refine condC_intro (fun h26 => ?_) (fun h26 => ?_)
    · rw [if_pos h26] at hM
      refine spQA h26 ?_
      have nh26 := nzQ h26
      exact cut_intro (⟨[(1, .ptr 0 0), (4, .int .i64 r_.Kind), (5, .bool true)], [(0, .var 3 true (.agg [.int .i64 r_.Kind, .int .i64 r_.A, .int .i64 r_.B]))], 1⟩ : St) sbQ sbQ (hcut1 _ ⟨true, rfl, trivial, hM⟩)
    · rw [if_neg (ne_true h26)] at hM
      refine spQA h26 ?_
      have nh26 := nzQ h26
      exact cut_intro (⟨[(1, .ptr 0 0), (4, .int .i64 r_.Kind), (5, .bool (r_.Kind == 4))], [(0, .var 3 true (.agg [.int .i64 r_.Kind, .int .i64 r_.A, .int .i64 r_.B]))], 1⟩ : St) sbQ sbQ (hcut1 _ ⟨(r_.Kind == 4), rfl, trivial, hM⟩)
set_option maxHeartbeats 2000000 in
set_option maxRecDepth 100000 in
theorem policy_Valid_1_ok  (r_ : S_api_Rule)  : CallOk En 63 [.agg [.int .i64 r_.Kind, .int .i64 r_.A, .int .i64 r_.B]] (.bool (policy_Valid_1 r_)) [] := by
  generalize hM : policy_Valid_1 r_ = r
  rw [policy_Valid_1.eq_1] at hM
  refine enterV En_ok En_mo noJ Tryd.func63 rfl Tryd.ntmps63 (by kernel_rfl) fun hw => ct_start ?_
  refine spQ ?_
  replace hw := nzQ hw
  have hM0 := hM; clear hM; obtain ⟨x1, hx2, hM⟩ := letk_opn hM0; clear hM0
  have hcx1 := policy_valid_ok  r_ 
  rw [← hx2] at hcx1
  refine callC_give hcx1 clQ clQ (fun hw3 => ?_)
  replace hw3 := nzQ hw3
  refine spQ ?_
  subst hM
  exact retC_view lfQ
set_option maxHeartbeats 2000000 in
set_option maxRecDepth 100000 in
theorem slices_IndexFunc_api_Rule_api_Rule_at_policy_Valid_1_ok (z0 : Option Bool) (s : (List S_api_Rule))  : CallOk En 49 [.sl z0 3 true (s.map e_api_Rule), .fn 63 []] (.int .i64 (slices_IndexFunc_api_Rule_api_Rule_at_policy_Valid_1 s)) [] := by
  generalize hM : slices_IndexFunc_api_Rule_api_Rule_at_policy_Valid_1 s = r
  rw [slices_IndexFunc_api_Rule_api_Rule_at_policy_Valid_1.eq_1] at hM
  refine enterV En_ok En_mo noJ Tryd.func49 rfl Tryd.ntmps49 (by kernel_rfl) fun hw => ct_start ?_
  refine spQ ?_
  replace hw := nzQ hw
  have hM0 := hM; clear hM; obtain ⟨f1, d1, hf1, hd1, hM⟩ := iter_opn hM0; clear hM0
  refine ct_loop (fun n S => ∃ p : Int, S = (⟨[(0, .sl z0 3 true (s.map e_api_Rule)), (1, .fn 63 []), (7, .int .i64 (s.length : Int)), (8, .int .i64 p)], [], 0⟩ : St) ∧ ((0 ≤ p) ∧ (p ≤ (s.length : Int))) ∧ ((s.length : Int) - p).toNat < n ∧ iter n f1 d1 p = r) (((s.length : Int) - 0).toNat + 1) (⟨[(0, .sl z0 3 true (s.map e_api_Rule)), (1, .fn 63 []), (7, .int .i64 (s.length : Int)), (8, .int .i64 0)], [], 0⟩ : St) sbQ sbQ ⟨0, rfl, ⟨omQ, omQ⟩, (Nat.lt_succ_self _), hM⟩ ?_
  clear hM
  rintro n1 S ⟨p1, rfl, hfa1, hm1, hM⟩
  have hM0 := hM; clear hM; obtain ⟨ag1, hag1, hM⟩ := iter_step hM0 (by omega) hf1; clear hM0
  replace hfa1 := nzQ hfa1
  replace hm1 := nzQ hm1
  have ha1 : addI .i64 p1 1 = p1 + 1 := add_one omQ omQ
  refine spQA ha1 ?_
  refine condC_intro (fun h2 => ?_) (fun h2 => ?_)
  · rw [if_pos h2] at hM
    refine spQA (And.intro ha1 h2) ?_
    have nh2 := nzQ h2
    refine bindC_intro omQ ?_
    have he3 := fun d => elt_mp (l := s) (f := e_api_Rule) (i := p1) omQ d
    refine spQA (And.intro ha1 he3) ?_
    have hM0 := hM; clear hM; obtain ⟨x4, hx5, hM⟩ := letk_opn hM0; clear hM0
    have hcx4 := policy_Valid_1_ok  (gt s p1) 
    rw [← hx5] at hcx4
    refine callC_give hcx4 (clQA (And.intro ha1 he3)) (clQA (And.intro ha1 he3)) (fun hw6 => ?_)
    replace hw6 := nzQ hw6
    refine spQA (And.intro ha1 he3) ?_
    refine condC_intro (fun h7 => ?_) (fun h7 => ?_)
    · subst h7
      rw [if_pos rfl] at hM
      refine spQA (And.intro ha1 he3) ?_
      subst hM
      exact retC_view (lfQA (And.intro ha1 (And.intro he3 h2)))
    · subst h7
      rw [if_neg (by decide)] at hM
      refine spQA (And.intro ha1 he3) ?_
      refine lp_intro (n1 - 1) (⟨[(0, .sl z0 3 true (s.map e_api_Rule)), (1, .fn 63 []), (7, .int .i64 (s.length : Int)), (8, .int .i64 (p1 + 1))], [], 0⟩ : St) (by omega) sbQ sbQ ⟨(p1 + 1), rfl, ⟨omQ, omQ⟩, omQ, iter_again hM hag1⟩
  · rw [if_neg (ne_true h2)] at hM
    refine spQA (And.intro ha1 h2) ?_
    have nh2 := nzQ h2
    subst hM
    exact retC_view (lfQA (And.intro ha1 h2))
set_option maxHeartbeats 2000000 in
set_option maxRecDepth 100000 in
theorem slices_ContainsFunc_api_Rule_api_Rule_at_policy_Valid_1_ok (z0 : Option Bool) (s : (List S_api_Rule))  : CallOk En 62 [.sl z0 3 true (s.map e_api_Rule), .fn 63 []] (.bool (slices_ContainsFunc_api_Rule_api_Rule_at_policy_Valid_1 s)) [] := by
  generalize hM : slices_ContainsFunc_api_Rule_api_Rule_at_policy_Valid_1 s = r
  rw [slices_ContainsFunc_api_Rule_api_Rule_at_policy_Valid_1.eq_1] at hM
  refine enterV En_ok En_mo noJ Tryd.func62 rfl Tryd.ntmps62 (by kernel_rfl) fun hw => ct_start ?_
  refine spQ ?_
  replace hw := nzQ hw
  have hM0 := hM; clear hM; obtain ⟨x1, hx2, hM⟩ := letk_opn hM0; clear hM0
  have hcx1 := slices_IndexFunc_api_Rule_api_Rule_at_policy_Valid_1_ok z0 s 
  rw [← hx2] at hcx1
  refine callC_give hcx1 clQ clQ (fun hw3 => ?_)
  replace hw3 := nzQ hw3
  refine spQ ?_
  subst hM
  exact retC_view lfQ
set_option maxHeartbeats 2000000 in
set_option maxRecDepth 100000 in
theorem policy_Valid_ok  (p_ : S_api_Policy)  : CallOk En 31 [.agg [.sl none 3 true (p_.Rules.map e_api_Rule)]] (.bool (policy_Valid p_)) [] := by
  generalize hM : policy_Valid p_ = r
  rw [policy_Valid.eq_1] at hM
  refine enterV En_ok En_mo noJ Tryd.func31 rfl Tryd.ntmps31 (by kernel_rfl) fun hw => ct_start ?_
  refine spQ ?_
  replace hw := nzQ hw
  refine guardC_t (fun h1 => ?_) (fun h1 => ?_)
  · rw [if_pos h1] at hM
    refine spQA h1 ?_
    have nh1 := nzQ h1
    have hM0 := hM; clear hM; obtain ⟨x2, hx3, hM⟩ := letk_opn hM0; clear hM0
    have hcx2 := slices_ContainsFunc_api_Rule_api_Rule_at_policy_Valid_1_ok none (p_.Rules) 
    rw [← hx3] at hcx2
    refine callC_give hcx2 clQ clQ (fun hw4 => ?_)
    replace hw4 := nzQ hw4
    refine spQ ?_
    subst hM
    exact retC_view (lfQA h1)
  · rw [if_neg (ne_true h1)] at hM
    refine spQA h1 ?_
    have nh1 := nzQ h1
    subst hM
    exact retC_view (lfQA h1)
set_option maxHeartbeats 2000000 in
set_option maxRecDepth 100000 in
theorem policy_Parse_ok  (s : (List UInt8))  : CallOk En 32 [.str s] (.tup [.agg [.sl none 3 true ((policy_Parse s).1.Rules.map e_api_Rule)], .int .i64 (policy_Parse s).2]) [] := by
  generalize hM : policy_Parse s = r
  rw [policy_Parse.eq_1] at hM
  refine enterV En_ok En_mo noJ Tryd.func32 rfl Tryd.ntmps32 (by kernel_rfl) fun hw => ct_start ?_
  refine spQ ?_
  replace hw := nzQ hw
  refine condC_intro (fun h1 => ?_) (fun h1 => ?_)
  · rw [if_pos h1] at hM
    refine spQA h1 ?_
    have nh1 := nzQ h1
    subst hM
    exact retC_view (lfQA h1)
  · rw [if_neg (ne_true h1)] at hM
    refine spQA h1 ?_
    have nh1 := nzQ h1
    have hM0 := hM; clear hM; obtain ⟨f2, d2, hf2, hd2, hM⟩ := iter_opn hM0; clear hM0
    refine ct_loopW (fun n S => ∃ p : List UInt8 × S_api_Policy × List S_api_Rule, S = (⟨[(0, .str p.1), (2, .ptr 0 0), (4, .ptr 1 0)], [(0, .var 1 true (.agg [.sl none 3 true (p.2.1.Rules.map e_api_Rule)])), (1, .var 1 true (.agg [.own 2])), (2, .own 53 3 true none (p.2.2.map e_api_Rule))], 3⟩ : St) ∧ ((p.2.2.length + p.1.length ≤ s.length)) ∧ p.1.length < n ∧ iter n f2 d2 p = r) (s.length + 1) _ (⟨[(0, .str s), (2, .ptr 0 0), (4, .ptr 1 0)], [(0, .var 1 true (.agg [.sl none 3 true []])), (1, .var 1 true (.agg [.own 2])), (2, .own 53 3 true none (([] : List S_api_Rule).map e_api_Rule))], 3⟩ : St) (weak_nilV 1 0 53 rfl rfl (by decide)) sbQ sbQ ⟨(s, z_api_Policy, ([] : List S_api_Rule)), rfl, by (first | exact omQ | (clear hM; first | (have hc := cut_lt (s := p2.1) (b := 10) (hx5 ▸ nh10) nh3; rw [← hx5] at hc; exact omQ'))), (Nat.lt_succ_self _), hM⟩ ?_
    clear hM
    rintro n2 S ⟨p2, rfl, hfa2, hm2, hM⟩
    have hM0 := hM; clear hM; obtain ⟨ag2, hag2, hM⟩ := iter_step hM0 (by omega) hf2; clear hM0
    replace hfa2 := nzQ hfa2
    replace hm2 := nzQ hm2
    refine spQ ?_
    refine condC_intro (fun h3 => ?_) (fun h3 => ?_)
    · rw [if_pos h3] at hM
      refine spQA h3 ?_
      have nh3 := nzQ h3
      have hM0 := hM; clear hM; obtain ⟨x4, hx5, hM⟩ := letk_opn hM0; clear hM0
      have hcx4 := strings_Cut_ok  (p2.1) ([10]) 
      rw [← hx5] at hcx4
      refine callC_give hcx4 clQ clQ (fun hw6 => ?_)
      replace hw6 := nzQ hw6
      refine spQ ?_
      have hM0 := hM; clear hM; obtain ⟨x7, hx8, hM⟩ := letk_opn hM0; clear hM0
      have hcx7 := policy_rule_ok  (x4.1) 
      rw [← hx8] at hcx7
      refine callC_give hcx7 clQ clQ (fun hw9 => ?_)
      replace hw9 := nzQ hw9
      refine spQ ?_
      refine guardC_f (fun h10 => ?_) (fun h10 => ?_)
      · rw [if_neg (ne_true h10)] at hM
        refine spQA h10 ?_
        have nh10 := nzQ h10
        refine condC_intro (fun h11 => ?_) (fun h11 => ?_)
        · rw [if_pos h11] at hM
          refine spQA h11 ?_
          have nh11 := nzQ h11
          subst hM
          exact retC_view (lfQA (And.intro h1 (And.intro h3 (And.intro h10 h11))))
        · rw [if_neg (ne_true h11)] at hM
          refine spQA h11 ?_
          have nh11 := nzQ h11
          refine bindC_intro (by (first | exact omQ | (clear hM; first | (have hc := cut_lt (s := p2.1) (b := 10) (hx5 ▸ nh10) nh3; rw [← hx5] at hc; exact omQ')))) ?_
          refine spQ ?_
          refine lp_intro (n2 - 1) (⟨[(0, .str x4.2.1), (2, .ptr 0 0), (4, .ptr 1 0)], [(0, .var 1 true (.agg [.sl none 3 true (p2.2.1.Rules.map e_api_Rule)])), (1, .var 1 true (.agg [.own 2])), (2, .own 53 3 true none ((p2.2.2 ++ ([x7.1] : List S_api_Rule)).map e_api_Rule))], 3⟩ : St) (by omega) sbQ sbQ ⟨(x4.2.1, p2.2.1, (p2.2.2 ++ ([x7.1] : List S_api_Rule))), rfl, by (first | exact omQ | (clear hM; first | (have hc := cut_lt (s := p2.1) (b := 10) (hx5 ▸ nh10) nh3; rw [← hx5] at hc; exact omQ'))), by (first | exact omQ | (clear hM; first | (have hc := cut_lt (s := p2.1) (b := 10) (hx5 ▸ nh10) nh3; rw [← hx5] at hc; exact omQ'))), iter_again hM hag2⟩
      · rw [if_pos h10] at hM
        refine spQA h10 ?_
        have nh10 := nzQ h10
        subst hM
        exact retC_view (lfQA (And.intro h1 (And.intro h3 h10)))
    · rw [if_neg (ne_true h3)] at hM
      refine spQA h3 ?_
      have nh3 := nzQ h3
      refine condC_intro (fun h12 => ?_) (fun h12 => ?_)
      · rw [if_pos h12] at hM
        refine spQA h12 ?_
        have nh12 := nzQ h12
        subst hM
        exact retC_view (lfQA (And.intro h1 (And.intro h3 h12)))
      · rw [if_neg (ne_true h12)] at hM
        refine spQA h12 ?_
        have nh12 := nzQ h12
        have hM0 := hM; clear hM; obtain ⟨x13, hx14, hM⟩ := letk_opn hM0; clear hM0
        have hcx13 := policy_Valid_ok  ({ Rules := p2.2.2 } : S_api_Policy) 
        rw [← hx14] at hcx13
        refine callC_look hcx13 clQ clQ (fun hw15 => ?_)
        replace hw15 := nzQ hw15
        refine spQ ?_
        refine condC_intro (fun h16 => ?_) (fun h16 => ?_)
        · rw [if_pos h16] at hM
          refine spQA h16 ?_
          have nh16 := nzQ h16
          subst hM
          exact retC_view (lfQA (And.intro h1 (And.intro h3 (And.intro h12 h16))))
        · rw [if_neg (ne_true h16)] at hM
          refine spQA h16 ?_
          have nh16 := nzQ h16
          subst hM
          exact retC_view (lfQA (And.intro h1 (And.intro h3 (And.intro h12 h16))))
set_option maxHeartbeats 2000000 in
set_option maxRecDepth 100000 in
theorem policy_accepts_ok  (r_ : S_api_Rule) (amount : Int) (number : Int) (transfers : Int) (hour : Int) (sum : Int)  : CallOk En 51 [.agg [.int .i64 r_.Kind, .int .i64 r_.A, .int .i64 r_.B], .int .i64 amount, .int .i64 number, .int .i64 transfers, .int .i64 hour, .int .i64 sum] (.bool (policy_accepts r_ amount number transfers hour sum)) [] := by
  generalize hM : policy_accepts r_ amount number transfers hour sum = r
  rw [policy_accepts.eq_1] at hM
  refine enterV En_ok En_mo noJ Tryd.func51 rfl Tryd.ntmps51 (by kernel_rfl) fun hw => ct_start ?_
  refine spQ ?_
  replace hw := nzQ hw
  refine condC_intro (fun h1 => ?_) (fun h1 => ?_)
  · rw [if_pos h1] at hM
    refine spQA h1 ?_
    have nh1 := nzQ h1
    subst hM
    exact retC_view (lfQA h1)
  · rw [if_neg (ne_true h1)] at hM
    refine spQA h1 ?_
    have nh1 := nzQ h1
    refine condC_intro (fun h2 => ?_) (fun h2 => ?_)
    · rw [if_pos h2] at hM
      refine spQA h2 ?_
      have nh2 := nzQ h2
      subst hM
      exact retC_view (lfQA (And.intro h1 h2))
    · rw [if_neg (ne_true h2)] at hM
      refine spQA h2 ?_
      have nh2 := nzQ h2
      refine condC_intro (fun h3 => ?_) (fun h3 => ?_)
      · rw [if_pos h3] at hM
        refine spQA h3 ?_
        have nh3 := nzQ h3
        subst hM
        exact retC_view (lfQA (And.intro h1 (And.intro h2 h3)))
      · rw [if_neg (ne_true h3)] at hM
        refine spQA h3 ?_
        have nh3 := nzQ h3
        refine condC_intro (fun h4 => ?_) (fun h4 => ?_)
        · rw [if_pos h4] at hM
          refine spQA h4 ?_
          have nh4 := nzQ h4
          subst hM
          exact retC_view (lfQA (And.intro h1 (And.intro h2 (And.intro h3 h4))))
        · rw [if_neg (ne_true h4)] at hM
          refine spQA h4 ?_
          have nh4 := nzQ h4
          refine condC_intro (fun h5 => ?_) (fun h5 => ?_)
          · rw [if_pos h5] at hM
            refine spQA h5 ?_
            have nh5 := nzQ h5
            refine guardC_t (fun h6 => ?_) (fun h6 => ?_)
            · rw [if_pos h6] at hM
              refine spQA h6 ?_
              have nh6 := nzQ h6
              subst hM
              exact retC_view (lfQA (And.intro h1 (And.intro h2 (And.intro h3 (And.intro h4 (And.intro h5 h6))))))
            · rw [if_neg (ne_true h6)] at hM
              refine spQA h6 ?_
              have nh6 := nzQ h6
              subst hM
              exact retC_view (lfQA (And.intro h1 (And.intro h2 (And.intro h3 (And.intro h4 (And.intro h5 h6))))))
          · rw [if_neg (ne_true h5)] at hM
            refine spQA h5 ?_
            have nh5 := nzQ h5
            refine guardC_f (fun h7 => ?_) (fun h7 => ?_)
            · rw [if_neg (ne_true h7)] at hM
              refine spQA h7 ?_
              have nh7 := nzQ h7
              subst hM
              exact retC_view (lfQA (And.intro h1 (And.intro h2 (And.intro h3 (And.intro h4 (And.intro h5 h7))))))
            · rw [if_pos h7] at hM
              refine spQA h7 ?_
              have nh7 := nzQ h7
              subst hM
              exact retC_view (lfQA (And.intro h1 (And.intro h2 (And.intro h3 (And.intro h4 (And.intro h5 h7))))))
set_option maxHeartbeats 2000000 in
set_option maxRecDepth 100000 in
theorem policy_Accepts_1_ok  (r_ : S_api_Rule) (c0 : Int) (c1 : Int) (c2 : Int) (c3 : Int) (c4 : Int)  : CallOk En 50 [.agg [.int .i64 r_.Kind, .int .i64 r_.A, .int .i64 r_.B], .pp 1 false (.int .i64 c0), .pp 1 false (.int .i64 c1), .pp 1 false (.int .i64 c2), .pp 1 false (.int .i64 c3), .pp 1 false (.int .i64 c4)] (.bool (policy_Accepts_1 r_ c0 c1 c2 c3 c4)) [] := by
  generalize hM : policy_Accepts_1 r_ c0 c1 c2 c3 c4 = r
  rw [policy_Accepts_1.eq_1] at hM
  refine enterV En_ok En_mo noJ Tryd.func50 rfl Tryd.ntmps50 (by kernel_rfl) fun hw => ct_start ?_
  refine spQ ?_
  replace hw := nzQ hw
  have hM0 := hM; clear hM; obtain ⟨x1, hx2, hM⟩ := letk_opn hM0; clear hM0
  have hcx1 := policy_accepts_ok  r_ c0 c1 c2 c3 c4 
  rw [← hx2] at hcx1
  refine callC_give hcx1 clQ clQ (fun hw3 => ?_)
  replace hw3 := nzQ hw3
  refine spQ ?_
  subst hM
  exact retC_view lfQ
set_option maxHeartbeats 2000000 in
set_option maxRecDepth 100000 in
theorem slices_IndexFunc_api_Rule_api_Rule_at_policy_Accepts_1_ok (z0 : Option Bool) (s : (List S_api_Rule)) (f__c0 : Int) (f__c1 : Int) (f__c2 : Int) (f__c3 : Int) (f__c4 : Int)  : CallOk En 49 [.sl z0 3 true (s.map e_api_Rule), .fn 50 [.pp 1 false (.int .i64 f__c0), .pp 1 false (.int .i64 f__c1), .pp 1 false (.int .i64 f__c2), .pp 1 false (.int .i64 f__c3), .pp 1 false (.int .i64 f__c4)]] (.int .i64 (slices_IndexFunc_api_Rule_api_Rule_at_policy_Accepts_1 s f__c0 f__c1 f__c2 f__c3 f__c4)) [] := by
  generalize hM : slices_IndexFunc_api_Rule_api_Rule_at_policy_Accepts_1 s f__c0 f__c1 f__c2 f__c3 f__c4 = r
  rw [slices_IndexFunc_api_Rule_api_Rule_at_policy_Accepts_1.eq_1] at hM
  refine enterV En_ok En_mo noJ Tryd.func49 rfl Tryd.ntmps49 (by kernel_rfl) fun hw => ct_start ?_
  refine spQ ?_
  replace hw := nzQ hw
  have hM0 := hM; clear hM; obtain ⟨f1, d1, hf1, hd1, hM⟩ := iter_opn hM0; clear hM0
  refine ct_loop (fun n S => ∃ p : Int, S = (⟨[(0, .sl z0 3 true (s.map e_api_Rule)), (1, .fn 50 [.pp 1 false (.int .i64 f__c0), .pp 1 false (.int .i64 f__c1), .pp 1 false (.int .i64 f__c2), .pp 1 false (.int .i64 f__c3), .pp 1 false (.int .i64 f__c4)]), (7, .int .i64 (s.length : Int)), (8, .int .i64 p)], [], 0⟩ : St) ∧ ((0 ≤ p) ∧ (p ≤ (s.length : Int))) ∧ ((s.length : Int) - p).toNat < n ∧ iter n f1 d1 p = r) (((s.length : Int) - 0).toNat + 1) (⟨[(0, .sl z0 3 true (s.map e_api_Rule)), (1, .fn 50 [.pp 1 false (.int .i64 f__c0), .pp 1 false (.int .i64 f__c1), .pp 1 false (.int .i64 f__c2), .pp 1 false (.int .i64 f__c3), .pp 1 false (.int .i64 f__c4)]), (7, .int .i64 (s.length : Int)), (8, .int .i64 0)], [], 0⟩ : St) sbQ sbQ ⟨0, rfl, ⟨omQ, omQ⟩, (Nat.lt_succ_self _), hM⟩ ?_
  clear hM
  rintro n1 S ⟨p1, rfl, hfa1, hm1, hM⟩
  have hM0 := hM; clear hM; obtain ⟨ag1, hag1, hM⟩ := iter_step hM0 (by omega) hf1; clear hM0
  replace hfa1 := nzQ hfa1
  replace hm1 := nzQ hm1
  have ha1 : addI .i64 p1 1 = p1 + 1 := add_one omQ omQ
  refine spQA ha1 ?_
  refine condC_intro (fun h2 => ?_) (fun h2 => ?_)
  · rw [if_pos h2] at hM
    refine spQA (And.intro ha1 h2) ?_
    have nh2 := nzQ h2
    refine bindC_intro omQ ?_
    have he3 := fun d => elt_mp (l := s) (f := e_api_Rule) (i := p1) omQ d
    refine spQA (And.intro ha1 he3) ?_
    have hM0 := hM; clear hM; obtain ⟨x4, hx5, hM⟩ := letk_opn hM0; clear hM0
    have hcx4 := policy_Accepts_1_ok  (gt s p1) f__c0 f__c1 f__c2 f__c3 f__c4 
    rw [← hx5] at hcx4
    refine callC_give hcx4 (clQA (And.intro ha1 he3)) (clQA (And.intro ha1 he3)) (fun hw6 => ?_)
    replace hw6 := nzQ hw6
    refine spQA (And.intro ha1 he3) ?_
    refine condC_intro (fun h7 => ?_) (fun h7 => ?_)
    · subst h7
      rw [if_pos rfl] at hM
      refine spQA (And.intro ha1 he3) ?_
      subst hM
      exact retC_view (lfQA (And.intro ha1 (And.intro he3 h2)))
    · subst h7
      rw [if_neg (by decide)] at hM
      refine spQA (And.intro ha1 he3) ?_
      refine lp_intro (n1 - 1) (⟨[(0, .sl z0 3 true (s.map e_api_Rule)), (1, .fn 50 [.pp 1 false (.int .i64 f__c0), .pp 1 false (.int .i64 f__c1), .pp 1 false (.int .i64 f__c2), .pp 1 false (.int .i64 f__c3), .pp 1 false (.int .i64 f__c4)]), (7, .int .i64 (s.length : Int)), (8, .int .i64 (p1 + 1))], [], 0⟩ : St) (by omega) sbQ sbQ ⟨(p1 + 1), rfl, ⟨omQ, omQ⟩, omQ, iter_again hM hag1⟩
  · rw [if_neg (ne_true h2)] at hM
    refine spQA (And.intro ha1 h2) ?_
    have nh2 := nzQ h2
    subst hM
    exact retC_view (lfQA (And.intro ha1 h2))
set_option maxHeartbeats 2000000 in
set_option maxRecDepth 100000 in
theorem policy_Accepts_ok  (p_ : S_api_Policy) (amount : Int) (number : Int) (transfers : Int) (hour : Int) (sum : Int)  : CallOk En 21 [.agg [.sl none 3 true (p_.Rules.map e_api_Rule)], .int .i64 amount, .int .i64 number, .int .i64 transfers, .int .i64 hour, .int .i64 sum] (.tup [.bool (policy_Accepts p_ amount number transfers hour sum).1, .int .i64 (policy_Accepts p_ amount number transfers hour sum).2]) [] := by
  generalize hM : policy_Accepts p_ amount number transfers hour sum = r
  rw [policy_Accepts.eq_1] at hM
  refine enterV En_ok En_mo noJ Tryd.func21 rfl Tryd.ntmps21 (by kernel_rfl) fun hw => ct_start ?_
  refine spQ ?_
  replace hw := nzQ hw
  have hM0 := hM; clear hM; obtain ⟨x1, hx2, hM⟩ := letk_opn hM0; clear hM0
  have hcx1 := policy_Valid_ok  p_ 
  rw [← hx2] at hcx1
  refine callC_give hcx1 clQ clQ (fun hw3 => ?_)
  replace hw3 := nzQ hw3
  refine spQ ?_
  refine guardC_f (fun h4 => ?_) (fun h4 => ?_)
  · rw [if_neg (ne_true h4)] at hM
    refine spQA h4 ?_
    have nh4 := nzQ h4
    have hM0 := hM; clear hM; obtain ⟨x5, hx6, hM⟩ := letk_opn hM0; clear hM0
    have hcx5 := policy_within_ok  amount 0 1099511627776 
    rw [← hx6] at hcx5
    refine callC_give hcx5 clQ clQ (fun hw7 => ?_)
    replace hw7 := nzQ hw7
    refine spQ ?_
    refine guardC_f (fun h8 => ?_) (fun h8 => ?_)
    · rw [if_neg (ne_true h8)] at hM
      refine spQA h8 ?_
      have nh8 := nzQ h8
      have hM0 := hM; clear hM; obtain ⟨x9, hx10, hM⟩ := letk_opn hM0; clear hM0
      have hcx9 := policy_within_ok  sum 0 1099511627776 
      rw [← hx10] at hcx9
      refine callC_give hcx9 clQ clQ (fun hw11 => ?_)
      replace hw11 := nzQ hw11
      refine spQ ?_
      refine guardC_f (fun h12 => ?_) (fun h12 => ?_)
      · rw [if_neg (ne_true h12)] at hM
        refine spQA h12 ?_
        have nh12 := nzQ h12
        have hM0 := hM; clear hM; obtain ⟨x13, hx14, hM⟩ := letk_opn hM0; clear hM0
        have hcx13 := policy_within_ok  number 0 1000 
        rw [← hx14] at hcx13
        refine callC_give hcx13 clQ clQ (fun hw15 => ?_)
        replace hw15 := nzQ hw15
        refine spQ ?_
        refine guardC_f (fun h16 => ?_) (fun h16 => ?_)
        · rw [if_neg (ne_true h16)] at hM
          refine spQA h16 ?_
          have nh16 := nzQ h16
          have hM0 := hM; clear hM; obtain ⟨x17, hx18, hM⟩ := letk_opn hM0; clear hM0
          have hcx17 := policy_within_ok  transfers 0 8 
          rw [← hx18] at hcx17
          refine callC_give hcx17 clQ clQ (fun hw19 => ?_)
          replace hw19 := nzQ hw19
          refine spQ ?_
          refine guardC_f (fun h20 => ?_) (fun h20 => ?_)
          · rw [if_neg (ne_true h20)] at hM
            refine spQA h20 ?_
            have nh20 := nzQ h20
            have hM0 := hM; clear hM; obtain ⟨x21, hx22, hM⟩ := letk_opn hM0; clear hM0
            have hcx21 := policy_within_ok  hour 0 23 
            rw [← hx22] at hcx21
            refine callC_give hcx21 clQ clQ (fun hw23 => ?_)
            replace hw23 := nzQ hw23
            refine spQ ?_
            refine condC_intro (fun h24 => ?_) (fun h24 => ?_)
            · rw [if_pos h24] at hM
              refine spQA h24 ?_
              have nh24 := nzQ h24
              subst hM
              exact retC_view (lfQA (And.intro h4 (And.intro h8 (And.intro h12 (And.intro h16 (And.intro h20 h24))))))
            · rw [if_neg (ne_true h24)] at hM
              refine spQA h24 ?_
              have nh24 := nzQ h24
              have hM0 := hM; clear hM; obtain ⟨x25, hx26, hM⟩ := letk_opn hM0; clear hM0
              have hcx25 := slices_IndexFunc_api_Rule_api_Rule_at_policy_Accepts_1_ok none (p_.Rules) amount number transfers hour sum 
              rw [← hx26] at hcx25
              refine callC_look hcx25 clQ clQ (fun hw27 => ?_)
              replace hw27 := nzQ hw27
              refine spQ ?_
              subst hM
              exact retC_view (lfQA (And.intro h4 (And.intro h8 (And.intro h12 (And.intro h16 (And.intro h20 h24))))))
          · rw [if_pos h20] at hM
            refine spQA h20 ?_
            have nh20 := nzQ h20
            subst hM
            exact retC_view (lfQA (And.intro h4 (And.intro h8 (And.intro h12 (And.intro h16 h20)))))
        · rw [if_pos h16] at hM
          refine spQA h16 ?_
          have nh16 := nzQ h16
          subst hM
          exact retC_view (lfQA (And.intro h4 (And.intro h8 (And.intro h12 h16))))
      · rw [if_pos h12] at hM
        refine spQA h12 ?_
        have nh12 := nzQ h12
        subst hM
        exact retC_view (lfQA (And.intro h4 (And.intro h8 h12)))
    · rw [if_pos h8] at hM
      refine spQA h8 ?_
      have nh8 := nzQ h8
      subst hM
      exact retC_view (lfQA (And.intro h4 h8))
  · rw [if_pos h4] at hM
    refine spQA h4 ?_
    have nh4 := nzQ h4
    subst hM
    exact retC_view (lfQA h4)
set_option maxHeartbeats 2000000 in
set_option maxRecDepth 100000 in
theorem policy_Limit_ok  (p_ : S_api_Policy) (hour : Int) (sum : Int)  : CallOk En 22 [.agg [.sl none 3 true (p_.Rules.map e_api_Rule)], .int .i64 hour, .int .i64 sum] (.tup [.int .i64 (policy_Limit p_ hour sum).1, .int .i64 (policy_Limit p_ hour sum).2]) [] := by
  generalize hM : policy_Limit p_ hour sum = r
  rw [policy_Limit.eq_1] at hM
  refine enterV En_ok En_mo noJ Tryd.func22 rfl Tryd.ntmps22 (by kernel_rfl) fun hw => ct_start ?_
  refine spQ ?_
  replace hw := nzQ hw
  have hM0 := hM; clear hM; obtain ⟨x1, hx2, hM⟩ := letk_opn hM0; clear hM0
  have hcx1 := policy_Valid_ok  p_ 
  rw [← hx2] at hcx1
  refine callC_give hcx1 clQ clQ (fun hw3 => ?_)
  replace hw3 := nzQ hw3
  refine spQ ?_
  refine condC_intro (fun h4 => ?_) (fun h4 => ?_)
  · rw [if_pos h4] at hM
    refine spQA h4 ?_
    have nh4 := nzQ h4
    subst hM
    exact retC_view (lfQA h4)
  · rw [if_neg (ne_true h4)] at hM
    refine spQA h4 ?_
    have nh4 := nzQ h4
    have hM0 := hM; clear hM; obtain ⟨x5, hx6, hM⟩ := letk_opn hM0; clear hM0
    have hcx5 := policy_within_ok  hour 0 23 
    rw [← hx6] at hcx5
    refine callC_give hcx5 clQ clQ (fun hw7 => ?_)
    replace hw7 := nzQ hw7
    refine spQ ?_
    refine guardC_f (fun h8 => ?_) (fun h8 => ?_)
    · rw [if_neg (ne_true h8)] at hM
      refine spQA h8 ?_
      have nh8 := nzQ h8
      have hM0 := hM; clear hM; obtain ⟨x9, hx10, hM⟩ := letk_opn hM0; clear hM0
      have hcx9 := policy_within_ok  sum 0 1099511627776 
      rw [← hx10] at hcx9
      refine callC_give hcx9 clQ clQ (fun hw11 => ?_)
      replace hw11 := nzQ hw11
      refine spQ ?_
      refine condC_intro (fun h12 => ?_) (fun h12 => ?_)
      · rw [if_pos h12] at hM
        refine spQA h12 ?_
        have nh12 := nzQ h12
        subst hM
        exact retC_view (lfQA (And.intro h4 (And.intro h8 h12)))
      · rw [if_neg (ne_true h12)] at hM
        refine spQA h12 ?_
        have nh12 := nzQ h12
        have hM0 := hM; clear hM; obtain ⟨x13, hx14, hM⟩ := letk_opn hM0; clear hM0
        have hcx13 := policy_Accepts_ok  p_ 0 0 0 hour sum 
        rw [← hx14] at hcx13
        refine callC_give hcx13 clQ clQ (fun hw15 => ?_)
        replace hw15 := nzQ hw15
        refine spQ ?_
        refine condC_intro (fun h16 => ?_) (fun h16 => ?_)
        · rw [if_pos h16] at hM
          refine spQA h16 ?_
          have nh16 := nzQ h16
          subst hM
          exact retC_view (lfQA (And.intro h4 (And.intro h8 (And.intro h12 h16))))
        · rw [if_neg (ne_true h16)] at hM
          refine spQA h16 ?_
          have nh16 := nzQ h16
          have hM0 := hM; clear hM; obtain ⟨f17, d17, hf17, hd17, hM⟩ := iter_opn hM0; clear hM0
          refine ct_loop (fun n S => ∃ p : Int × Int, S = (⟨[(2, .int .i64 sum), (10, .int .i64 p.1), (36, .sl none 3 true (p_.Rules.map e_api_Rule)), (37, .int .i64 (p_.Rules.length : Int)), (38, .int .i64 p.2)], [], 1⟩ : St) ∧ ((0 ≤ p.2) ∧ (p.2 ≤ (p_.Rules.length : Int))) ∧ ((p_.Rules.length : Int) - p.2).toNat < n ∧ iter n f17 d17 p = r) (((p_.Rules.length : Int) - 0).toNat + 1) (⟨[(2, .int .i64 sum), (10, .int .i64 1099511627776), (36, .sl none 3 true (p_.Rules.map e_api_Rule)), (37, .int .i64 (p_.Rules.length : Int)), (38, .int .i64 0)], [], 1⟩ : St) sbQ sbQ ⟨(1099511627776, 0), rfl, ⟨omQ, omQ⟩, (Nat.lt_succ_self _), hM⟩ ?_
          clear hM
          rintro n17 S ⟨p17, rfl, hfa17, hm17, hM⟩
          have hM0 := hM; clear hM; obtain ⟨ag17, hag17, hM⟩ := iter_step hM0 (by omega) hf17; clear hM0
          replace hfa17 := nzQ hfa17
          replace hm17 := nzQ hm17
          have ha17 : addI .i64 p17.2 1 = p17.2 + 1 := add_one omQ omQ
          refine spQA ha17 ?_
          refine condC_intro (fun h18 => ?_) (fun h18 => ?_)
          · rw [if_pos h18] at hM
            refine spQA (And.intro ha17 h18) ?_
            have nh18 := nzQ h18
            refine bindC_intro omQ ?_
            have he19 := fun d => elt_mp (l := p_.Rules) (f := e_api_Rule) (i := p17.2) omQ d
            refine spQA (And.intro ha17 he19) ?_
            refine condC_intro (fun h20 => ?_) (fun h20 => ?_)
            · rw [if_pos h20] at hM
              refine spQA (And.intro ha17 (And.intro he19 h20)) ?_
              have nh20 := nzQ h20
              refine lp_intro (n17 - 1) (⟨[(2, .int .i64 sum), (10, .int .i64 (minI p17.1 (gt p_.Rules p17.2).A)), (36, .sl none 3 true (p_.Rules.map e_api_Rule)), (37, .int .i64 (p_.Rules.length : Int)), (38, .int .i64 (p17.2 + 1))], [], 1⟩ : St) (by omega) sbQ sbQ ⟨((minI p17.1 (gt p_.Rules p17.2).A), (p17.2 + 1)), rfl, ⟨omQ, omQ⟩, omQ, iter_again hM hag17⟩
            · rw [if_neg (ne_true h20)] at hM
              refine spQA (And.intro ha17 (And.intro he19 h20)) ?_
              have nh20 := nzQ h20
              refine condC_intro (fun h21 => ?_) (fun h21 => ?_)
              · rw [if_pos h21] at hM
                refine spQA (And.intro ha17 (And.intro he19 h21)) ?_
                have nh21 := nzQ h21
                refine lp_intro (n17 - 1) (⟨[(2, .int .i64 sum), (10, .int .i64 (minI p17.1 (subI .i64 (gt p_.Rules p17.2).A sum))), (36, .sl none 3 true (p_.Rules.map e_api_Rule)), (37, .int .i64 (p_.Rules.length : Int)), (38, .int .i64 (p17.2 + 1))], [], 1⟩ : St) (by omega) sbQ sbQ ⟨((minI p17.1 (subI .i64 (gt p_.Rules p17.2).A sum)), (p17.2 + 1)), rfl, ⟨omQ, omQ⟩, omQ, iter_again hM hag17⟩
              · rw [if_neg (ne_true h21)] at hM
                refine spQA (And.intro ha17 (And.intro he19 h21)) ?_
                have nh21 := nzQ h21
                refine lp_intro (n17 - 1) (⟨[(2, .int .i64 sum), (10, .int .i64 p17.1), (36, .sl none 3 true (p_.Rules.map e_api_Rule)), (37, .int .i64 (p_.Rules.length : Int)), (38, .int .i64 (p17.2 + 1))], [], 1⟩ : St) (by omega) sbQ sbQ ⟨(p17.1, (p17.2 + 1)), rfl, ⟨omQ, omQ⟩, omQ, iter_again hM hag17⟩
          · rw [if_neg (ne_true h18)] at hM
            refine spQA (And.intro ha17 h18) ?_
            have nh18 := nzQ h18
            subst hM
            exact retC_view (lfQA (And.intro ha17 (And.intro h4 (And.intro h8 (And.intro h12 (And.intro h16 h18))))))
    · rw [if_pos h8] at hM
      refine spQA h8 ?_
      have nh8 := nzQ h8
      subst hM
      exact retC_view (lfQA (And.intro h4 h8))
set_option maxHeartbeats 2000000 in
set_option maxRecDepth 100000 in
theorem specielaw46_awake_ok    : CallOk En 19 [] (.bool (specielaw46_awake)) [] := by
  generalize hM : specielaw46_awake = r
  rw [specielaw46_awake.eq_1] at hM
  refine enterV En_ok En_mo noJ Tryd.func19 rfl Tryd.ntmps19 (by kernel_rfl) fun hw => ct_start ?_
  refine spQ ?_
  replace hw := nzQ hw
  have hM0 := hM; clear hM; obtain ⟨x1, hx2, hM⟩ := letk_opn hM0; clear hM0
  have hcx1 := policy_Parse_ok  ([97, 109, 111, 117, 110, 116, 32, 53, 48, 10, 111, 112, 101, 110, 32, 53, 48, 48, 10, 104, 111, 117, 114, 115, 32, 50, 48, 32, 54, 10]) 
  rw [← hx2] at hcx1
  refine callC_give hcx1 clQ clQ (fun hw3 => ?_)
  replace hw3 := nzQ hw3
  refine spQ ?_
  have hM0 := hM; clear hM; obtain ⟨x4, hx5, hM⟩ := letk_opn hM0; clear hM0
  have hcx4 := policy_Accepts_ok  (x1.1) 50 1 0 5 450 
  rw [← hx5] at hcx4
  refine callC_give hcx4 clQ clQ (fun hw6 => ?_)
  replace hw6 := nzQ hw6
  refine spQ ?_
  have hM0 := hM; clear hM; obtain ⟨x7, hx8, hM⟩ := letk_opn hM0; clear hM0
  have hcx7 := policy_Accepts_ok  (x1.1) 50 1 0 6 450 
  rw [← hx8] at hcx7
  refine callC_give hcx7 clQ clQ (fun hw9 => ?_)
  replace hw9 := nzQ hw9
  refine spQ ?_
  have hM0 := hM; clear hM; obtain ⟨x10, hx11, hM⟩ := letk_opn hM0; clear hM0
  have hcx10 := policy_Accepts_ok  (x1.1) 50 1 0 5 451 
  rw [← hx11] at hcx10
  refine callC_give hcx10 clQ clQ (fun hw12 => ?_)
  replace hw12 := nzQ hw12
  refine spQ ?_
  have hM0 := hM; clear hM; obtain ⟨x13, hx14, hM⟩ := letk_opn hM0; clear hM0
  have hcx13 := policy_Limit_ok  (x1.1) 21 480 
  rw [← hx14] at hcx13
  refine callC_give hcx13 clQ clQ (fun hw15 => ?_)
  replace hw15 := nzQ hw15
  refine spQ ?_
  refine guardC_t (fun h16 => ?_) (fun h16 => ?_)
  · rw [if_pos h16] at hM
    refine spQA h16 ?_
    have nh16 := nzQ h16
    refine guardC_t (fun h17 => ?_) (fun h17 => ?_)
    · rw [if_pos h17] at hM
      refine spQA h17 ?_
      have nh17 := nzQ h17
      refine guardC_t (fun h18 => ?_) (fun h18 => ?_)
      · rw [if_pos h18] at hM
        refine spQA h18 ?_
        have nh18 := nzQ h18
        refine guardC_t (fun h19 => ?_) (fun h19 => ?_)
        · rw [if_pos h19] at hM
          refine spQA h19 ?_
          have nh19 := nzQ h19
          refine guardC_t (fun h20 => ?_) (fun h20 => ?_)
          · rw [if_pos h20] at hM
            refine spQA h20 ?_
            have nh20 := nzQ h20
            refine guardC_t (fun h21 => ?_) (fun h21 => ?_)
            · rw [if_pos h21] at hM
              refine spQA h21 ?_
              have nh21 := nzQ h21
              refine guardC_t (fun h22 => ?_) (fun h22 => ?_)
              · rw [if_pos h22] at hM
                refine spQA h22 ?_
                have nh22 := nzQ h22
                refine guardC_t (fun h23 => ?_) (fun h23 => ?_)
                · rw [if_pos h23] at hM
                  refine spQA h23 ?_
                  have nh23 := nzQ h23
                  subst hM
                  exact retC_view (lfQA (And.intro h16 (And.intro h17 (And.intro h18 (And.intro h19 (And.intro h20 (And.intro h21 (And.intro h22 h23))))))))
                · rw [if_neg (ne_true h23)] at hM
                  refine spQA h23 ?_
                  have nh23 := nzQ h23
                  subst hM
                  exact retC_view (lfQA (And.intro h16 (And.intro h17 (And.intro h18 (And.intro h19 (And.intro h20 (And.intro h21 (And.intro h22 h23))))))))
              · rw [if_neg (ne_true h22)] at hM
                refine spQA h22 ?_
                have nh22 := nzQ h22
                subst hM
                exact retC_view (lfQA (And.intro h16 (And.intro h17 (And.intro h18 (And.intro h19 (And.intro h20 (And.intro h21 h22)))))))
            · rw [if_neg (ne_true h21)] at hM
              refine spQA h21 ?_
              have nh21 := nzQ h21
              subst hM
              exact retC_view (lfQA (And.intro h16 (And.intro h17 (And.intro h18 (And.intro h19 (And.intro h20 h21))))))
          · rw [if_neg (ne_true h20)] at hM
            refine spQA h20 ?_
            have nh20 := nzQ h20
            subst hM
            exact retC_view (lfQA (And.intro h16 (And.intro h17 (And.intro h18 (And.intro h19 h20)))))
        · rw [if_neg (ne_true h19)] at hM
          refine spQA h19 ?_
          have nh19 := nzQ h19
          subst hM
          exact retC_view (lfQA (And.intro h16 (And.intro h17 (And.intro h18 h19))))
      · rw [if_neg (ne_true h18)] at hM
        refine spQA h18 ?_
        have nh18 := nzQ h18
        subst hM
        exact retC_view (lfQA (And.intro h16 (And.intro h17 h18)))
    · rw [if_neg (ne_true h17)] at hM
      refine spQA h17 ?_
      have nh17 := nzQ h17
      subst hM
      exact retC_view (lfQA (And.intro h16 h17))
  · rw [if_neg (ne_true h16)] at hM
    refine spQA h16 ?_
    have nh16 := nzQ h16
    subst hM
    exact retC_view (lfQA h16)
set_option maxHeartbeats 2000000 in
set_option maxRecDepth 100000 in
theorem specielaw46_great_1_ok  (p_ : S_api_Policy)  : CallOk En 47 [.agg [.sl none 3 true (p_.Rules.map e_api_Rule)]] (.bool (specielaw46_great_1 p_)) [] := by
  generalize hM : specielaw46_great_1 p_ = r
  rw [specielaw46_great_1.eq_1] at hM
  refine enterV En_ok En_mo noJ Tryd.func47 rfl Tryd.ntmps47 (by kernel_rfl) fun hw => ct_start ?_
  refine spQ ?_
  replace hw := nzQ hw
  subst hM
  exact retC_view lfQ
set_option maxHeartbeats 2000000 in
set_option maxRecDepth 100000 in
theorem slices_IndexFunc_api_Policy_api_Policy_at_specielaw46_great_1_ok (z0 : Option Bool) (s : (List S_api_Policy))  : CallOk En 75 [.sl z0 1 true (s.map e_api_Policy), .fn 47 []] (.int .i64 (slices_IndexFunc_api_Policy_api_Policy_at_specielaw46_great_1 s)) [] := by
  generalize hM : slices_IndexFunc_api_Policy_api_Policy_at_specielaw46_great_1 s = r
  rw [slices_IndexFunc_api_Policy_api_Policy_at_specielaw46_great_1.eq_1] at hM
  refine enterV En_ok En_mo noJ Tryd.func75 rfl Tryd.ntmps75 (by kernel_rfl) fun hw => ct_start ?_
  refine spQ ?_
  replace hw := nzQ hw
  have hM0 := hM; clear hM; obtain ⟨f1, d1, hf1, hd1, hM⟩ := iter_opn hM0; clear hM0
  refine ct_loop (fun n S => ∃ p : Int, S = (⟨[(0, .sl z0 1 true (s.map e_api_Policy)), (1, .fn 47 []), (7, .int .i64 (s.length : Int)), (8, .int .i64 p)], [], 0⟩ : St) ∧ ((0 ≤ p) ∧ (p ≤ (s.length : Int))) ∧ ((s.length : Int) - p).toNat < n ∧ iter n f1 d1 p = r) (((s.length : Int) - 0).toNat + 1) (⟨[(0, .sl z0 1 true (s.map e_api_Policy)), (1, .fn 47 []), (7, .int .i64 (s.length : Int)), (8, .int .i64 0)], [], 0⟩ : St) sbQ sbQ ⟨0, rfl, ⟨omQ, omQ⟩, (Nat.lt_succ_self _), hM⟩ ?_
  clear hM
  rintro n1 S ⟨p1, rfl, hfa1, hm1, hM⟩
  have hM0 := hM; clear hM; obtain ⟨ag1, hag1, hM⟩ := iter_step hM0 (by omega) hf1; clear hM0
  replace hfa1 := nzQ hfa1
  replace hm1 := nzQ hm1
  have ha1 : addI .i64 p1 1 = p1 + 1 := add_one omQ omQ
  refine spQA ha1 ?_
  refine condC_intro (fun h2 => ?_) (fun h2 => ?_)
  · rw [if_pos h2] at hM
    refine spQA (And.intro ha1 h2) ?_
    have nh2 := nzQ h2
    refine bindC_intro omQ ?_
    have he3 := fun d => elt_mp (l := s) (f := e_api_Policy) (i := p1) omQ d
    refine spQA (And.intro ha1 he3) ?_
    have hM0 := hM; clear hM; obtain ⟨x4, hx5, hM⟩ := letk_opn hM0; clear hM0
    have hcx4 := specielaw46_great_1_ok  (gt s p1) 
    rw [← hx5] at hcx4
    refine callC_give hcx4 (clQA (And.intro ha1 he3)) (clQA (And.intro ha1 he3)) (fun hw6 => ?_)
    replace hw6 := nzQ hw6
    refine spQA (And.intro ha1 he3) ?_
    refine condC_intro (fun h7 => ?_) (fun h7 => ?_)
    · subst h7
      rw [if_pos rfl] at hM
      refine spQA (And.intro ha1 he3) ?_
      subst hM
      exact retC_view (lfQA (And.intro ha1 (And.intro he3 h2)))
    · subst h7
      rw [if_neg (by decide)] at hM
      refine spQA (And.intro ha1 he3) ?_
      refine lp_intro (n1 - 1) (⟨[(0, .sl z0 1 true (s.map e_api_Policy)), (1, .fn 47 []), (7, .int .i64 (s.length : Int)), (8, .int .i64 (p1 + 1))], [], 0⟩ : St) (by omega) sbQ sbQ ⟨(p1 + 1), rfl, ⟨omQ, omQ⟩, omQ, iter_again hM hag1⟩
  · rw [if_neg (ne_true h2)] at hM
    refine spQA (And.intro ha1 h2) ?_
    have nh2 := nzQ h2
    subst hM
    exact retC_view (lfQA (And.intro ha1 h2))
set_option maxHeartbeats 2000000 in
set_option maxRecDepth 100000 in
theorem slices_ContainsFunc_api_Policy_api_Policy_at_specielaw46_great_1_ok (z0 : Option Bool) (s : (List S_api_Policy))  : CallOk En 46 [.sl z0 1 true (s.map e_api_Policy), .fn 47 []] (.bool (slices_ContainsFunc_api_Policy_api_Policy_at_specielaw46_great_1 s)) [] := by
  generalize hM : slices_ContainsFunc_api_Policy_api_Policy_at_specielaw46_great_1 s = r
  rw [slices_ContainsFunc_api_Policy_api_Policy_at_specielaw46_great_1.eq_1] at hM
  refine enterV En_ok En_mo noJ Tryd.func46 rfl Tryd.ntmps46 (by kernel_rfl) fun hw => ct_start ?_
  refine spQ ?_
  replace hw := nzQ hw
  have hM0 := hM; clear hM; obtain ⟨x1, hx2, hM⟩ := letk_opn hM0; clear hM0
  have hcx1 := slices_IndexFunc_api_Policy_api_Policy_at_specielaw46_great_1_ok z0 s 
  rw [← hx2] at hcx1
  refine callC_give hcx1 clQ clQ (fun hw3 => ?_)
  replace hw3 := nzQ hw3
  refine spQ ?_
  subst hM
  exact retC_view lfQ
set_option maxHeartbeats 2000000 in
set_option maxRecDepth 100000 in
theorem specielaw46_great_ok (z0 : Option Bool) (l : (List S_api_Policy))  : CallOk En 20 [.sl z0 1 true (l.map e_api_Policy)] (.bool (specielaw46_great l)) [] := by
  generalize hM : specielaw46_great l = r
  rw [specielaw46_great.eq_1] at hM
  refine enterV En_ok En_mo noJ Tryd.func20 rfl Tryd.ntmps20 (by kernel_rfl) fun hw => ct_start ?_
  refine spQ ?_
  replace hw := nzQ hw
  have hM0 := hM; clear hM; obtain ⟨x1, hx2, hM⟩ := letk_opn hM0; clear hM0
  have hcx1 := slices_ContainsFunc_api_Policy_api_Policy_at_specielaw46_great_1_ok z0 l 
  rw [← hx2] at hcx1
  refine callC_give hcx1 clQ clQ (fun hw3 => ?_)
  replace hw3 := nzQ hw3
  refine spQ ?_
  subst hM
  exact retC_view lfQ
set_option maxHeartbeats 2000000 in
set_option maxRecDepth 100000 in
theorem specieref46_in_ok  (x_ : Int) (low : Int) (high : Int)  : CallOk En 53 [.int .i64 x_, .int .i64 low, .int .i64 high] (.bool (specieref46_in x_ low high)) [] := by
  generalize hM : specieref46_in x_ low high = r
  rw [specieref46_in.eq_1] at hM
  refine enterV En_ok En_mo noJ Tryd.func53 rfl Tryd.ntmps53 (by kernel_rfl) fun hw => ct_start ?_
  refine spQ ?_
  replace hw := nzQ hw
  refine guardC_t (fun h1 => ?_) (fun h1 => ?_)
  · rw [if_pos h1] at hM
    refine spQA h1 ?_
    have nh1 := nzQ h1
    subst hM
    exact retC_view (lfQA h1)
  · rw [if_neg (ne_true h1)] at hM
    refine spQA h1 ?_
    have nh1 := nzQ h1
    subst hM
    exact retC_view (lfQA h1)
set_option maxHeartbeats 2000000 in
set_option maxRecDepth 100000 in
theorem specieref46_Rule_ok  (r_ : S_api_Rule)  : CallOk En 52 [.agg [.int .i64 r_.Kind, .int .i64 r_.A, .int .i64 r_.B]] (.bool (specieref46_Rule r_)) [] := by
  generalize hM : specieref46_Rule r_ = r
  rw [specieref46_Rule.eq_1] at hM
  refine enterV En_ok En_mo noJ Tryd.func52 rfl Tryd.ntmps52 (by kernel_rfl) fun hw => ct_start ?_
  refine spQ ?_
  replace hw := nzQ hw
  refine guardC_f (fun h1 => ?_) (fun h1 => ?_)
  · rw [if_neg (ne_true h1)] at hM
    refine spQA h1 ?_
    have nh1 := nzQ h1
    refine condC_intro (fun h2 => ?_) (fun h2 => ?_)
    · rw [if_pos h2] at hM
      refine spQA h2 ?_
      have nh2 := nzQ h2
      have hM0 := hM; clear hM; obtain ⟨x3, hx4, hM⟩ := letk_opn hM0; clear hM0
      have hcx3 := specieref46_in_ok  (r_.A) 0 1099511627776 
      rw [← hx4] at hcx3
      refine callC_give hcx3 clQ clQ (fun hw5 => ?_)
      replace hw5 := nzQ hw5
      refine spQ ?_
      refine guardC_t (fun h6 => ?_) (fun h6 => ?_)
      · subst h6
        rw [if_pos rfl] at hM
        refine spQ ?_
        subst hM
        exact retC_view (lfQA (And.intro h1 h2))
      · subst h6
        rw [if_neg (by decide)] at hM
        refine spQ ?_
        subst hM
        exact retC_view (lfQA (And.intro h1 h2))
    · rw [if_neg (ne_true h2)] at hM
      refine spQA h2 ?_
      have nh2 := nzQ h2
      refine condC_intro (fun h7 => ?_) (fun h7 => ?_)
      · rw [if_pos h7] at hM
        refine spQA h7 ?_
        have nh7 := nzQ h7
        have hM0 := hM; clear hM; obtain ⟨x8, hx9, hM⟩ := letk_opn hM0; clear hM0
        have hcx8 := specieref46_in_ok  (r_.A) 0 1000 
        rw [← hx9] at hcx8
        refine callC_give hcx8 clQ clQ (fun hw10 => ?_)
        replace hw10 := nzQ hw10
        refine spQ ?_
        refine guardC_t (fun h11 => ?_) (fun h11 => ?_)
        · subst h11
          rw [if_pos rfl] at hM
          refine spQ ?_
          subst hM
          exact retC_view (lfQA (And.intro h1 (And.intro h2 h7)))
        · subst h11
          rw [if_neg (by decide)] at hM
          refine spQ ?_
          subst hM
          exact retC_view (lfQA (And.intro h1 (And.intro h2 h7)))
      · rw [if_neg (ne_true h7)] at hM
        refine spQA h7 ?_
        have nh7 := nzQ h7
        refine condC_intro (fun h12 => ?_) (fun h12 => ?_)
        · rw [if_pos h12] at hM
          refine spQA h12 ?_
          have nh12 := nzQ h12
          have hM0 := hM; clear hM; obtain ⟨x13, hx14, hM⟩ := letk_opn hM0; clear hM0
          have hcx13 := specieref46_in_ok  (r_.A) 0 8 
          rw [← hx14] at hcx13
          refine callC_give hcx13 clQ clQ (fun hw15 => ?_)
          replace hw15 := nzQ hw15
          refine spQ ?_
          refine guardC_t (fun h16 => ?_) (fun h16 => ?_)
          · subst h16
            rw [if_pos rfl] at hM
            refine spQ ?_
            subst hM
            exact retC_view (lfQA (And.intro h1 (And.intro h2 (And.intro h7 h12))))
          · subst h16
            rw [if_neg (by decide)] at hM
            refine spQ ?_
            subst hM
            exact retC_view (lfQA (And.intro h1 (And.intro h2 (And.intro h7 h12))))
        · rw [if_neg (ne_true h12)] at hM
          refine spQA h12 ?_
          have nh12 := nzQ h12
          refine guardC_t (fun h17 => ?_) (fun h17 => ?_)
          · rw [if_pos h17] at hM
            refine spQA h17 ?_
            have nh17 := nzQ h17
            have hM0 := hM; clear hM; obtain ⟨x18, hx19, hM⟩ := letk_opn hM0; clear hM0
            have hcx18 := specieref46_in_ok  (r_.A) 0 23 
            rw [← hx19] at hcx18
            refine callC_give hcx18 clQ clQ (fun hw20 => ?_)
            replace hw20 := nzQ hw20
            refine spQ ?_
            refine guardC_t (fun h21 => ?_) (fun h21 => ?_)
            · subst h21
              rw [if_pos rfl] at hM
              refine spQ ?_
              have hM0 := hM; clear hM; obtain ⟨x22, hx23, hM⟩ := letk_opn hM0; clear hM0
              have hcx22 := specieref46_in_ok  (r_.B) 0 23 
              rw [← hx23] at hcx22
              refine callC_give hcx22 clQ clQ (fun hw24 => ?_)
              replace hw24 := nzQ hw24
              refine spQ ?_
              refine guardC_t (fun h25 => ?_) (fun h25 => ?_)
              · subst h25
                rw [if_pos rfl] at hM
                refine spQ ?_
                subst hM
                exact retC_view (lfQA (And.intro h1 (And.intro h2 (And.intro h7 (And.intro h12 h17)))))
              · subst h25
                rw [if_neg (by decide)] at hM
                refine spQ ?_
                subst hM
                exact retC_view (lfQA (And.intro h1 (And.intro h2 (And.intro h7 (And.intro h12 h17)))))
            · subst h21
              rw [if_neg (by decide)] at hM
              refine spQ ?_
              subst hM
              exact retC_view (lfQA (And.intro h1 (And.intro h2 (And.intro h7 (And.intro h12 h17)))))
          · rw [if_neg (ne_true h17)] at hM
            refine spQA h17 ?_
            have nh17 := nzQ h17
            subst hM
            exact retC_view (lfQA (And.intro h1 (And.intro h2 (And.intro h7 (And.intro h12 h17)))))
  · rw [if_pos h1] at hM
    refine spQA h1 ?_
    have nh1 := nzQ h1
    have hM0 := hM; clear hM; obtain ⟨x26, hx27, hM⟩ := letk_opn hM0; clear hM0
    have hcx26 := specieref46_in_ok  (r_.A) 0 1099511627776 
    rw [← hx27] at hcx26
    refine callC_give hcx26 clQ clQ (fun hw28 => ?_)
    replace hw28 := nzQ hw28
    refine spQ ?_
    refine guardC_t (fun h29 => ?_) (fun h29 => ?_)
    · subst h29
      rw [if_pos rfl] at hM
      refine spQ ?_
      subst hM
      exact retC_view (lfQA h1)
    · subst h29
      rw [if_neg (by decide)] at hM
      refine spQ ?_
      subst hM
      exact retC_view (lfQA h1)
set_option maxHeartbeats 2000000 in
set_option maxRecDepth 100000 in
theorem specieref46_Valid_ok  (p_ : S_api_Policy)  : CallOk En 23 [.agg [.sl none 3 true (p_.Rules.map e_api_Rule)]] (.bool (specieref46_Valid p_)) [] := by
  generalize hM : specieref46_Valid p_ = r
  rw [specieref46_Valid.eq_1] at hM
  refine enterV En_ok En_mo noJ Tryd.func23 rfl Tryd.ntmps23 (by kernel_rfl) fun hw => ct_start ?_
  refine spQ ?_
  replace hw := nzQ hw
  refine condC_intro (fun h1 => ?_) (fun h1 => ?_)
  · rw [if_pos h1] at hM
    refine spQA h1 ?_
    have nh1 := nzQ h1
    subst hM
    exact retC_view (lfQA h1)
  · rw [if_neg (ne_true h1)] at hM
    refine spQA h1 ?_
    have nh1 := nzQ h1
    have hM0 := hM; clear hM; obtain ⟨f2, d2, hf2, hd2, hM⟩ := iter_opn hM0; clear hM0
    refine ct_loop (fun n S => ∃ p : Int, S = (⟨[(1, .ptr 0 0), (3, .int .i64 p)], [(0, .var 1 true (.agg [.sl none 3 true (p_.Rules.map e_api_Rule)]))], 1⟩ : St) ∧ ((0 ≤ p) ∧ (p ≤ (p_.Rules.length : Int))) ∧ ((p_.Rules.length : Int) - p).toNat < n ∧ iter n f2 d2 p = r) (((p_.Rules.length : Int) - 0).toNat + 1) (⟨[(1, .ptr 0 0), (3, .int .i64 0)], [(0, .var 1 true (.agg [.sl none 3 true (p_.Rules.map e_api_Rule)]))], 1⟩ : St) sbQ sbQ ⟨0, rfl, ⟨omQ, omQ⟩, (Nat.lt_succ_self _), hM⟩ ?_
    clear hM
    rintro n2 S ⟨p2, rfl, hfa2, hm2, hM⟩
    have hM0 := hM; clear hM; obtain ⟨ag2, hag2, hM⟩ := iter_step hM0 (by omega) hf2; clear hM0
    replace hfa2 := nzQ hfa2
    replace hm2 := nzQ hm2
    have ha2 : addI .i64 p2 1 = p2 + 1 := add_one omQ omQ
    refine spQA ha2 ?_
    refine condC_intro (fun h3 => ?_) (fun h3 => ?_)
    · rw [if_pos h3] at hM
      refine spQA (And.intro ha2 h3) ?_
      have nh3 := nzQ h3
      refine bindC_intro omQ ?_
      have he4 := fun d => elt_mp (l := p_.Rules) (f := e_api_Rule) (i := p2) omQ d
      refine spQA (And.intro ha2 he4) ?_
      have hM0 := hM; clear hM; obtain ⟨x5, hx6, hM⟩ := letk_opn hM0; clear hM0
      have hcx5 := specieref46_Rule_ok  (gt p_.Rules p2) 
      rw [← hx6] at hcx5
      refine callC_give hcx5 (clQA (And.intro ha2 he4)) (clQA (And.intro ha2 he4)) (fun hw7 => ?_)
      replace hw7 := nzQ hw7
      refine spQA (And.intro ha2 he4) ?_
      refine condC_intro (fun h8 => ?_) (fun h8 => ?_)
      · rw [if_pos h8] at hM
        refine spQA (And.intro ha2 (And.intro he4 h8)) ?_
        have nh8 := nzQ h8
        subst hM
        exact retC_view (lfQA (And.intro ha2 (And.intro he4 (And.intro h1 (And.intro h3 h8)))))
      · rw [if_neg (ne_true h8)] at hM
        refine spQA (And.intro ha2 (And.intro he4 h8)) ?_
        have nh8 := nzQ h8
        refine lp_intro (n2 - 1) (⟨[(1, .ptr 0 0), (3, .int .i64 (p2 + 1))], [(0, .var 1 true (.agg [.sl none 3 true (p_.Rules.map e_api_Rule)]))], 1⟩ : St) (by omega) sbQ sbQ ⟨(p2 + 1), rfl, ⟨omQ, omQ⟩, omQ, iter_again hM hag2⟩
    · rw [if_neg (ne_true h3)] at hM
      refine spQA (And.intro ha2 h3) ?_
      have nh3 := nzQ h3
      subst hM
      exact retC_view (lfQA (And.intro ha2 (And.intro h1 h3)))
set_option maxHeartbeats 2000000 in
set_option maxRecDepth 100000 in
theorem specieref46_Payment_ok  (amount : Int) (coins : Int) (hops : Int) (hour : Int) (open_ : Int)  : CallOk En 24 [.int .i64 amount, .int .i64 coins, .int .i64 hops, .int .i64 hour, .int .i64 open_] (.bool (specieref46_Payment amount coins hops hour open_)) [] := by
  generalize hM : specieref46_Payment amount coins hops hour open_ = r
  rw [specieref46_Payment.eq_1] at hM
  refine enterV En_ok En_mo noJ Tryd.func24 rfl Tryd.ntmps24 (by kernel_rfl) fun hw => ct_start ?_
  refine spQ ?_
  replace hw := nzQ hw
  have hM0 := hM; clear hM; obtain ⟨x1, hx2, hM⟩ := letk_opn hM0; clear hM0
  have hcx1 := specieref46_in_ok  amount 0 1099511627776 
  rw [← hx2] at hcx1
  refine callC_give hcx1 clQ clQ (fun hw3 => ?_)
  replace hw3 := nzQ hw3
  refine spQ ?_
  refine guardC_t (fun h4 => ?_) (fun h4 => ?_)
  · subst h4
    rw [if_pos rfl] at hM
    refine spQ ?_
    have hM0 := hM; clear hM; obtain ⟨x5, hx6, hM⟩ := letk_opn hM0; clear hM0
    have hcx5 := specieref46_in_ok  coins 0 1000 
    rw [← hx6] at hcx5
    refine callC_give hcx5 clQ clQ (fun hw7 => ?_)
    replace hw7 := nzQ hw7
    refine spQ ?_
    refine guardC_t (fun h8 => ?_) (fun h8 => ?_)
    · subst h8
      rw [if_pos rfl] at hM
      refine spQ ?_
      have hM0 := hM; clear hM; obtain ⟨x9, hx10, hM⟩ := letk_opn hM0; clear hM0
      have hcx9 := specieref46_in_ok  hops 0 8 
      rw [← hx10] at hcx9
      refine callC_give hcx9 clQ clQ (fun hw11 => ?_)
      replace hw11 := nzQ hw11
      refine spQ ?_
      refine guardC_t (fun h12 => ?_) (fun h12 => ?_)
      · subst h12
        rw [if_pos rfl] at hM
        refine spQ ?_
        have hM0 := hM; clear hM; obtain ⟨x13, hx14, hM⟩ := letk_opn hM0; clear hM0
        have hcx13 := specieref46_in_ok  hour 0 23 
        rw [← hx14] at hcx13
        refine callC_give hcx13 clQ clQ (fun hw15 => ?_)
        replace hw15 := nzQ hw15
        refine spQ ?_
        refine guardC_t (fun h16 => ?_) (fun h16 => ?_)
        · subst h16
          rw [if_pos rfl] at hM
          refine spQ ?_
          have hM0 := hM; clear hM; obtain ⟨x17, hx18, hM⟩ := letk_opn hM0; clear hM0
          have hcx17 := specieref46_in_ok  open_ 0 1099511627776 
          rw [← hx18] at hcx17
          refine callC_give hcx17 clQ clQ (fun hw19 => ?_)
          replace hw19 := nzQ hw19
          refine spQ ?_
          subst hM
          exact retC_view lfQ
        · subst h16
          rw [if_neg (by decide)] at hM
          refine spQ ?_
          subst hM
          exact retC_view lfQ
      · subst h12
        rw [if_neg (by decide)] at hM
        refine spQ ?_
        subst hM
        exact retC_view lfQ
    · subst h8
      rw [if_neg (by decide)] at hM
      refine spQ ?_
      subst hM
      exact retC_view lfQ
  · subst h4
    rw [if_neg (by decide)] at hM
    refine spQ ?_
    subst hM
    exact retC_view lfQ
set_option maxHeartbeats 2000000 in
set_option maxRecDepth 100000 in
theorem specieref46_Accepts_ok  (r_ : S_api_Rule) (amount : Int) (coins : Int) (hops : Int) (hour : Int) (open_ : Int)  : CallOk En 54 [.agg [.int .i64 r_.Kind, .int .i64 r_.A, .int .i64 r_.B], .int .i64 amount, .int .i64 coins, .int .i64 hops, .int .i64 hour, .int .i64 open_] (.bool (specieref46_Accepts r_ amount coins hops hour open_)) [] := by
  generalize hM : specieref46_Accepts r_ amount coins hops hour open_ = r
  rw [specieref46_Accepts.eq_1] at hM
  refine enterV En_ok En_mo noJ Tryd.func54 rfl Tryd.ntmps54 (by kernel_rfl) fun hw => ct_start ?_
  refine spQ ?_
  replace hw := nzQ hw
  refine condC_intro (fun h1 => ?_) (fun h1 => ?_)
  · rw [if_pos h1] at hM
    refine spQA h1 ?_
    have nh1 := nzQ h1
    subst hM
    exact retC_view (lfQA h1)
  · rw [if_neg (ne_true h1)] at hM
    refine spQA h1 ?_
    have nh1 := nzQ h1
    refine condC_intro (fun h2 => ?_) (fun h2 => ?_)
    · rw [if_pos h2] at hM
      refine spQA h2 ?_
      have nh2 := nzQ h2
      subst hM
      exact retC_view (lfQA (And.intro h1 h2))
    · rw [if_neg (ne_true h2)] at hM
      refine spQA h2 ?_
      have nh2 := nzQ h2
      refine condC_intro (fun h3 => ?_) (fun h3 => ?_)
      · rw [if_pos h3] at hM
        refine spQA h3 ?_
        have nh3 := nzQ h3
        subst hM
        exact retC_view (lfQA (And.intro h1 (And.intro h2 h3)))
      · rw [if_neg (ne_true h3)] at hM
        refine spQA h3 ?_
        have nh3 := nzQ h3
        refine condC_intro (fun h4 => ?_) (fun h4 => ?_)
        · rw [if_pos h4] at hM
          refine spQA h4 ?_
          have nh4 := nzQ h4
          subst hM
          exact retC_view (lfQA (And.intro h1 (And.intro h2 (And.intro h3 h4))))
        · rw [if_neg (ne_true h4)] at hM
          refine spQA h4 ?_
          have nh4 := nzQ h4
          refine condC_intro (fun h5 => ?_) (fun h5 => ?_)
          · rw [if_pos h5] at hM
            refine spQA h5 ?_
            have nh5 := nzQ h5
            refine guardC_t (fun h6 => ?_) (fun h6 => ?_)
            · rw [if_pos h6] at hM
              refine spQA h6 ?_
              have nh6 := nzQ h6
              subst hM
              exact retC_view (lfQA (And.intro h1 (And.intro h2 (And.intro h3 (And.intro h4 (And.intro h5 h6))))))
            · rw [if_neg (ne_true h6)] at hM
              refine spQA h6 ?_
              have nh6 := nzQ h6
              subst hM
              exact retC_view (lfQA (And.intro h1 (And.intro h2 (And.intro h3 (And.intro h4 (And.intro h5 h6))))))
          · rw [if_neg (ne_true h5)] at hM
            refine spQA h5 ?_
            have nh5 := nzQ h5
            refine guardC_f (fun h7 => ?_) (fun h7 => ?_)
            · rw [if_neg (ne_true h7)] at hM
              refine spQA h7 ?_
              have nh7 := nzQ h7
              subst hM
              exact retC_view (lfQA (And.intro h1 (And.intro h2 (And.intro h3 (And.intro h4 (And.intro h5 h7))))))
            · rw [if_pos h7] at hM
              refine spQA h7 ?_
              have nh7 := nzQ h7
              subst hM
              exact retC_view (lfQA (And.intro h1 (And.intro h2 (And.intro h3 (And.intro h4 (And.intro h5 h7))))))
set_option maxHeartbeats 2000000 in
set_option maxRecDepth 100000 in
theorem specieref46_First_ok  (p_ : S_api_Policy) (amount : Int) (coins : Int) (hops : Int) (hour : Int) (open_ : Int)  : CallOk En 25 [.agg [.sl none 3 true (p_.Rules.map e_api_Rule)], .int .i64 amount, .int .i64 coins, .int .i64 hops, .int .i64 hour, .int .i64 open_] (.int .i64 (specieref46_First p_ amount coins hops hour open_)) [] := by
  generalize hM : specieref46_First p_ amount coins hops hour open_ = r
  rw [specieref46_First.eq_1] at hM
  refine enterV En_ok En_mo noJ Tryd.func25 rfl Tryd.ntmps25 (by kernel_rfl) fun hw => ct_start ?_
  refine spQ ?_
  replace hw := nzQ hw
  have hM0 := hM; clear hM; obtain ⟨f1, d1, hf1, hd1, hM⟩ := iter_opn hM0; clear hM0
  refine ct_loop (fun n S => ∃ p : Int, S = (⟨[(1, .int .i64 amount), (2, .int .i64 coins), (3, .int .i64 hops), (4, .int .i64 hour), (5, .int .i64 open_), (6, .ptr 0 0), (13, .int .i64 p)], [(0, .var 1 true (.agg [.sl none 3 true (p_.Rules.map e_api_Rule)]))], 1⟩ : St) ∧ ((0 ≤ p) ∧ (p ≤ (p_.Rules.length : Int))) ∧ ((p_.Rules.length : Int) - p).toNat < n ∧ iter n f1 d1 p = r) (((p_.Rules.length : Int) - 0).toNat + 1) (⟨[(1, .int .i64 amount), (2, .int .i64 coins), (3, .int .i64 hops), (4, .int .i64 hour), (5, .int .i64 open_), (6, .ptr 0 0), (13, .int .i64 0)], [(0, .var 1 true (.agg [.sl none 3 true (p_.Rules.map e_api_Rule)]))], 1⟩ : St) sbQ sbQ ⟨0, rfl, ⟨omQ, omQ⟩, (Nat.lt_succ_self _), hM⟩ ?_
  clear hM
  rintro n1 S ⟨p1, rfl, hfa1, hm1, hM⟩
  have hM0 := hM; clear hM; obtain ⟨ag1, hag1, hM⟩ := iter_step hM0 (by omega) hf1; clear hM0
  replace hfa1 := nzQ hfa1
  replace hm1 := nzQ hm1
  have ha1 : addI .i64 p1 1 = p1 + 1 := add_one omQ omQ
  refine spQA ha1 ?_
  refine condC_intro (fun h2 => ?_) (fun h2 => ?_)
  · rw [if_pos h2] at hM
    refine spQA (And.intro ha1 h2) ?_
    have nh2 := nzQ h2
    refine bindC_intro omQ ?_
    have he3 := fun d => elt_mp (l := p_.Rules) (f := e_api_Rule) (i := p1) omQ d
    refine spQA (And.intro ha1 he3) ?_
    have hM0 := hM; clear hM; obtain ⟨x4, hx5, hM⟩ := letk_opn hM0; clear hM0
    have hcx4 := specieref46_Accepts_ok  (gt p_.Rules p1) amount coins hops hour open_ 
    rw [← hx5] at hcx4
    refine callC_give hcx4 (clQA (And.intro ha1 he3)) (clQA (And.intro ha1 he3)) (fun hw6 => ?_)
    replace hw6 := nzQ hw6
    refine spQA (And.intro ha1 he3) ?_
    refine condC_intro (fun h7 => ?_) (fun h7 => ?_)
    · rw [if_pos h7] at hM
      refine spQA (And.intro ha1 (And.intro he3 h7)) ?_
      have nh7 := nzQ h7
      subst hM
      exact retC_view (lfQA (And.intro ha1 (And.intro he3 (And.intro h2 h7))))
    · rw [if_neg (ne_true h7)] at hM
      refine spQA (And.intro ha1 (And.intro he3 h7)) ?_
      have nh7 := nzQ h7
      refine lp_intro (n1 - 1) (⟨[(1, .int .i64 amount), (2, .int .i64 coins), (3, .int .i64 hops), (4, .int .i64 hour), (5, .int .i64 open_), (6, .ptr 0 0), (13, .int .i64 (p1 + 1))], [(0, .var 1 true (.agg [.sl none 3 true (p_.Rules.map e_api_Rule)]))], 1⟩ : St) (by omega) sbQ sbQ ⟨(p1 + 1), rfl, ⟨omQ, omQ⟩, omQ, iter_again hM hag1⟩
  · rw [if_neg (ne_true h2)] at hM
    refine spQA (And.intro ha1 h2) ?_
    have nh2 := nzQ h2
    subst hM
    exact retC_view (lfQA (And.intro ha1 h2))
set_option maxHeartbeats 2000000 in
set_option maxRecDepth 100000 in
theorem specieref46_Limit_ok  (p_ : S_api_Policy) (hour : Int) (open_ : Int)  : CallOk En 26 [.agg [.sl none 3 true (p_.Rules.map e_api_Rule)], .int .i64 hour, .int .i64 open_] (.tup [.int .i64 (specieref46_Limit p_ hour open_).1, .bool (specieref46_Limit p_ hour open_).2]) [] := by
  generalize hM : specieref46_Limit p_ hour open_ = r
  rw [specieref46_Limit.eq_1] at hM
  refine enterV En_ok En_mo [10] Tryd.func26 rfl Tryd.ntmps26 (by kernel_rfl) fun hw => ct_start ?_
  refine spQ ?_
  replace hw := nzQ hw
  have hM0 := hM; clear hM; obtain ⟨x1, hx2, hM⟩ := letk_opn hM0; clear hM0
  have hcx1 := specieref46_First_ok  p_ 0 0 0 hour open_ 
  rw [← hx2] at hcx1
  refine callC_give hcx1 clQ clQ (fun hw3 => ?_)
  replace hw3 := nzQ hw3
  refine spQ ?_
  refine condC_intro (fun h4 => ?_) (fun h4 => ?_)
  · rw [if_pos h4] at hM
    refine spQA h4 ?_
    have nh4 := nzQ h4
    subst hM
    exact retC_view (lfQA h4)
  · rw [if_neg (ne_true h4)] at hM
    refine spQA h4 ?_
    have nh4 := nzQ h4
    have hM0 := hM; clear hM; obtain ⟨f5, d5, hf5, hd5, hM⟩ := iter_opn hM0; clear hM0
    refine ct_loop (fun n S => ∃ p : Int × Int, S = (⟨[(2, .int .i64 open_), (3, .ptr 0 0), (8, .int .i64 p.1), (9, .int .i64 p.2)], [(0, .var 1 true (.agg [.sl none 3 true (p_.Rules.map e_api_Rule)]))], 1⟩ : St) ∧ ((0 ≤ p.2) ∧ (p.2 ≤ (p_.Rules.length : Int))) ∧ ((p_.Rules.length : Int) - p.2).toNat < n ∧ iter n f5 d5 p = r) (((p_.Rules.length : Int) - 0).toNat + 1) (⟨[(2, .int .i64 open_), (3, .ptr 0 0), (8, .int .i64 1099511627776), (9, .int .i64 0)], [(0, .var 1 true (.agg [.sl none 3 true (p_.Rules.map e_api_Rule)]))], 1⟩ : St) sbQ sbQ ⟨(1099511627776, 0), rfl, ⟨omQ, omQ⟩, (Nat.lt_succ_self _), hM⟩ ?_
    clear hM
    rintro n5 S ⟨p5, rfl, hfa5, hm5, hM⟩
    have hM0 := hM; clear hM; obtain ⟨ag5, hag5, hM⟩ := iter_step hM0 (by omega) hf5; clear hM0
    replace hfa5 := nzQ hfa5
    replace hm5 := nzQ hm5
    have ha5 : addI .i64 p5.2 1 = p5.2 + 1 := add_one omQ omQ
    refine spQA ha5 ?_
    refine condC_intro (fun h6 => ?_) (fun h6 => ?_)
    · rw [if_pos h6] at hM
      refine spQA (And.intro ha5 h6) ?_
      have nh6 := nzQ h6
      refine bindC_intro omQ ?_
      have he7 := fun d => elt_mp (l := p_.Rules) (f := e_api_Rule) (i := p5.2) omQ d
      refine spQA (And.intro ha5 he7) ?_
      have hM0 := hM; clear hM; obtain ⟨j8, hj8, hM⟩ := letj_opn hM0; clear hM0
      refine seqC_intro (fun S => ∃ p : Int, S = (⟨[(2, .int .i64 open_), (3, .ptr 0 0), (8, .int .i64 p), (9, .int .i64 p5.2), (10, .ptr 1 0)], [(0, .var 1 true (.agg [.sl none 3 true (p_.Rules.map e_api_Rule)])), (1, .var 3 true (.agg [.int .i64 (gt p_.Rules p5.2).Kind, .int .i64 (gt p_.Rules p5.2).A, .int .i64 (gt p_.Rules p5.2).B]))], 2⟩ : St) ∧ (True) ∧ j8 p = r) ?_ (fun hcut8 => ?_)
      · clear hM
        rintro S ⟨p8, rfl, hfa8, hM⟩
        have hM0 := hM; clear hM; have hM := letj_use hM0 hj8; clear hM0
        refine spQA (And.intro ha5 he7) ?_
        refine guardC_t (fun h9 => ?_) (fun h9 => ?_)
        · rw [if_pos h9] at hM
          refine spQA (And.intro ha5 (And.intro he7 h9)) ?_
          have nh9 := nzQ h9
          refine condC_intro (fun h10 => ?_) (fun h10 => ?_)
          · rw [if_pos h10] at hM
            refine spQA (And.intro ha5 (And.intro he7 h10)) ?_
            have nh10 := nzQ h10
            refine lp_intro (n5 - 1) (⟨[(2, .int .i64 open_), (3, .ptr 0 0), (8, .int .i64 (subI .i64 (gt p_.Rules p5.2).A open_)), (9, .int .i64 (p5.2 + 1))], [(0, .var 1 true (.agg [.sl none 3 true (p_.Rules.map e_api_Rule)]))], 1⟩ : St) (by omega) sbQ sbQ ⟨((subI .i64 (gt p_.Rules p5.2).A open_), (p5.2 + 1)), rfl, ⟨omQ, omQ⟩, omQ, iter_again hM hag5⟩
          · rw [if_neg (ne_true h10)] at hM
            refine spQA (And.intro ha5 (And.intro he7 h10)) ?_
            have nh10 := nzQ h10
            refine lp_intro (n5 - 1) (⟨[(2, .int .i64 open_), (3, .ptr 0 0), (8, .int .i64 p8), (9, .int .i64 (p5.2 + 1))], [(0, .var 1 true (.agg [.sl none 3 true (p_.Rules.map e_api_Rule)]))], 1⟩ : St) (by omega) sbQ sbQ ⟨(p8, (p5.2 + 1)), rfl, ⟨omQ, omQ⟩, omQ, iter_again hM hag5⟩
        · rw [if_neg (ne_true h9)] at hM
          refine spQA (And.intro ha5 (And.intro he7 h9)) ?_
          have nh9 := nzQ h9
          refine lp_intro (n5 - 1) (⟨[(2, .int .i64 open_), (3, .ptr 0 0), (8, .int .i64 p8), (9, .int .i64 (p5.2 + 1))], [(0, .var 1 true (.agg [.sl none 3 true (p_.Rules.map e_api_Rule)]))], 1⟩ : St) (by omega) sbQ sbQ ⟨(p8, (p5.2 + 1)), rfl, ⟨omQ, omQ⟩, omQ, iter_again hM hag5⟩
      · refine spQA (And.intro ha5 he7) ?_
        refine guardC_t (fun h11 => ?_) (fun h11 => ?_)
        · rw [if_pos h11] at hM
          refine spQA (And.intro ha5 (And.intro he7 h11)) ?_
          have nh11 := nzQ h11
          refine condC_intro (fun h12 => ?_) (fun h12 => ?_)
          · rw [if_pos h12] at hM
            refine spQA (And.intro ha5 (And.intro he7 h12)) ?_
            have nh12 := nzQ h12
            exact cut_intro (⟨[(2, .int .i64 open_), (3, .ptr 0 0), (8, .int .i64 (gt p_.Rules p5.2).A), (9, .int .i64 p5.2), (10, .ptr 1 0)], [(0, .var 1 true (.agg [.sl none 3 true (p_.Rules.map e_api_Rule)])), (1, .var 3 true (.agg [.int .i64 (gt p_.Rules p5.2).Kind, .int .i64 (gt p_.Rules p5.2).A, .int .i64 (gt p_.Rules p5.2).B]))], 2⟩ : St) sbQ sbQ (hcut8 _ ⟨(gt p_.Rules p5.2).A, rfl, trivial, hM⟩)
          · rw [if_neg (ne_true h12)] at hM
            refine spQA (And.intro ha5 (And.intro he7 h12)) ?_
            have nh12 := nzQ h12
            exact cut_intro (⟨[(2, .int .i64 open_), (3, .ptr 0 0), (8, .int .i64 p5.1), (9, .int .i64 p5.2), (10, .ptr 1 0)], [(0, .var 1 true (.agg [.sl none 3 true (p_.Rules.map e_api_Rule)])), (1, .var 3 true (.agg [.int .i64 (gt p_.Rules p5.2).Kind, .int .i64 (gt p_.Rules p5.2).A, .int .i64 (gt p_.Rules p5.2).B]))], 2⟩ : St) sbQ sbQ (hcut8 _ ⟨p5.1, rfl, trivial, hM⟩)
        · rw [if_neg (ne_true h11)] at hM
          refine spQA (And.intro ha5 (And.intro he7 h11)) ?_
          have nh11 := nzQ h11
          exact cut_intro (⟨[(2, .int .i64 open_), (3, .ptr 0 0), (8, .int .i64 p5.1), (9, .int .i64 p5.2), (10, .ptr 1 0)], [(0, .var 1 true (.agg [.sl none 3 true (p_.Rules.map e_api_Rule)])), (1, .var 3 true (.agg [.int .i64 (gt p_.Rules p5.2).Kind, .int .i64 (gt p_.Rules p5.2).A, .int .i64 (gt p_.Rules p5.2).B]))], 2⟩ : St) sbQ sbQ (hcut8 _ ⟨p5.1, rfl, trivial, hM⟩)
    · rw [if_neg (ne_true h6)] at hM
      refine spQA (And.intro ha5 h6) ?_
      have nh6 := nzQ h6
      subst hM
      exact retC_view (lfQA (And.intro ha5 (And.intro h4 h6)))
set_option maxHeartbeats 2000000 in
set_option maxRecDepth 100000 in
theorem specielaw46_PolicyAccepts_ok  (p_ : S_api_Policy) (amount : Int) (coins : Int) (hops : Int) (hour : Int) (open_ : Int)  : CallOk En 4 [.agg [.sl none 3 true (p_.Rules.map e_api_Rule)], .int .i64 amount, .int .i64 coins, .int .i64 hops, .int .i64 hour, .int .i64 open_] (.bool (specielaw46_PolicyAccepts p_ amount coins hops hour open_)) [] := by
  generalize hM : specielaw46_PolicyAccepts p_ amount coins hops hour open_ = r
  rw [specielaw46_PolicyAccepts.eq_1] at hM
  refine enterV En_ok En_mo [15] Tryd.func4 rfl Tryd.ntmps4 (by kernel_rfl) fun hw => ct_start ?_
  refine spQ ?_
  replace hw := nzQ hw
  have hM0 := hM; clear hM; obtain ⟨x1, hx2, hM⟩ := letk_opn hM0; clear hM0
  have hcx1 := specielaw46_awake_ok   
  rw [← hx2] at hcx1
  refine callC_give hcx1 clQ clQ (fun hw3 => ?_)
  replace hw3 := nzQ hw3
  refine spQ ?_
  refine condC_intro (fun h4 => ?_) (fun h4 => ?_)
  · rw [if_pos h4] at hM
    refine spQA h4 ?_
    have nh4 := nzQ h4
    subst hM
    exact retC_view (lfQA h4)
  · rw [if_neg (ne_true h4)] at hM
    refine spQA h4 ?_
    have nh4 := nzQ h4
    have hM0 := hM; clear hM; obtain ⟨x5, hx6, hM⟩ := letk_opn hM0; clear hM0
    have hcx5 := specielaw46_great_ok (some false) ([p_] : List S_api_Policy) 
    rw [← hx6] at hcx5
    refine callC_look hcx5 clQ clQ (fun hw7 => ?_)
    replace hw7 := nzQ hw7
    refine spQ ?_
    refine condC_intro (fun h8 => ?_) (fun h8 => ?_)
    · subst h8
      rw [if_pos rfl] at hM
      refine spQ ?_
      subst hM
      exact retC_view (lfQA h4)
    · subst h8
      rw [if_neg (by decide)] at hM
      refine spQ ?_
      have hM0 := hM; clear hM; obtain ⟨x9, hx10, hM⟩ := letk_opn hM0; clear hM0
      have hcx9 := policy_Accepts_ok  p_ amount coins hops hour open_ 
      rw [← hx10] at hcx9
      refine callC_give hcx9 clQ clQ (fun hw11 => ?_)
      replace hw11 := nzQ hw11
      refine spQ ?_
      have hM0 := hM; clear hM; obtain ⟨x12, hx13, hM⟩ := letk_opn hM0; clear hM0
      have hcx12 := policy_Limit_ok  p_ hour open_ 
      rw [← hx13] at hcx12
      refine callC_give hcx12 clQ clQ (fun hw14 => ?_)
      replace hw14 := nzQ hw14
      refine spQ ?_
      have hM0 := hM; clear hM; obtain ⟨x15, hx16, hM⟩ := letk_opn hM0; clear hM0
      have hcx15 := specieref46_Valid_ok  p_ 
      rw [← hx16] at hcx15
      refine callC_give hcx15 clQ clQ (fun hw17 => ?_)
      replace hw17 := nzQ hw17
      refine spQ ?_
      refine condC_intro (fun h18 => ?_) (fun h18 => ?_)
      · rw [if_pos h18] at hM
        refine spQA h18 ?_
        have nh18 := nzQ h18
        refine guardC_t (fun h19 => ?_) (fun h19 => ?_)
        · rw [if_pos h19] at hM
          refine spQA h19 ?_
          have nh19 := nzQ h19
          refine guardC_t (fun h20 => ?_) (fun h20 => ?_)
          · rw [if_pos h20] at hM
            refine spQA h20 ?_
            have nh20 := nzQ h20
            refine guardC_t (fun h21 => ?_) (fun h21 => ?_)
            · rw [if_pos h21] at hM
              refine spQA h21 ?_
              have nh21 := nzQ h21
              subst hM
              exact retC_view (lfQA (And.intro h4 (And.intro h18 (And.intro h19 (And.intro h20 h21)))))
            · rw [if_neg (ne_true h21)] at hM
              refine spQA h21 ?_
              have nh21 := nzQ h21
              subst hM
              exact retC_view (lfQA (And.intro h4 (And.intro h18 (And.intro h19 (And.intro h20 h21)))))
          · rw [if_neg (ne_true h20)] at hM
            refine spQA h20 ?_
            have nh20 := nzQ h20
            subst hM
            exact retC_view (lfQA (And.intro h4 (And.intro h18 (And.intro h19 h20))))
        · rw [if_neg (ne_true h19)] at hM
          refine spQA h19 ?_
          have nh19 := nzQ h19
          subst hM
          exact retC_view (lfQA (And.intro h4 (And.intro h18 h19)))
      · rw [if_neg (ne_true h18)] at hM
        refine spQA h18 ?_
        have nh18 := nzQ h18
        have hM0 := hM; clear hM; obtain ⟨j22, hj22, hM⟩ := letj_opn hM0; clear hM0
        refine seqC_intro (fun S => ∃ p : Unit, S = (⟨[(4, .int .i64 hour), (5, .int .i64 open_), (6, .ptr 0 0), (15, .int .i64 x12.1), (16, .int .i64 x12.2)], [(0, .var 1 true (.agg [.sl none 3 true (p_.Rules.map e_api_Rule)]))], 2⟩ : St) ∧ (True) ∧ j22 p = r) ?_ (fun hcut22 => ?_)
        · clear hM
          rintro S ⟨p22, rfl, hfa22, hM⟩
          have hM0 := hM; clear hM; have hM := letj_use hM0 hj22; clear hM0
          refine spQ ?_
          have hM0 := hM; clear hM; obtain ⟨x23, hx24, hM⟩ := letk_opn hM0; clear hM0
          have hcx23 := specieref46_Payment_ok  0 0 0 hour open_ 
          rw [← hx24] at hcx23
          refine callC_give hcx23 clQ clQ (fun hw25 => ?_)
          replace hw25 := nzQ hw25
          refine spQ ?_
          refine condC_intro (fun h26 => ?_) (fun h26 => ?_)
          · rw [if_pos h26] at hM
            refine spQA h26 ?_
            have nh26 := nzQ h26
            refine guardC_t (fun h27 => ?_) (fun h27 => ?_)
            · rw [if_pos h27] at hM
              refine spQA h27 ?_
              have nh27 := nzQ h27
              subst hM
              exact retC_view (lfQA (And.intro h4 (And.intro h18 (And.intro h26 h27))))
            · rw [if_neg (ne_true h27)] at hM
              refine spQA h27 ?_
              have nh27 := nzQ h27
              subst hM
              exact retC_view (lfQA (And.intro h4 (And.intro h18 (And.intro h26 h27))))
          · rw [if_neg (ne_true h26)] at hM
            refine spQA h26 ?_
            have nh26 := nzQ h26
            have hM0 := hM; clear hM; obtain ⟨x28, hx29, hM⟩ := letk_opn hM0; clear hM0
            have hcx28 := specieref46_Limit_ok  p_ hour open_ 
            rw [← hx29] at hcx28
            refine callC_give hcx28 clQ clQ (fun hw30 => ?_)
            replace hw30 := nzQ hw30
            refine spQ ?_
            refine condC_intro (fun h31 => ?_) (fun h31 => ?_)
            · rw [if_pos h31] at hM
              refine spQA h31 ?_
              have nh31 := nzQ h31
              refine guardC_t (fun h32 => ?_) (fun h32 => ?_)
              · rw [if_pos h32] at hM
                refine spQA h32 ?_
                have nh32 := nzQ h32
                subst hM
                exact retC_view (lfQA (And.intro h4 (And.intro h18 (And.intro h26 (And.intro h31 h32)))))
              · rw [if_neg (ne_true h32)] at hM
                refine spQA h32 ?_
                have nh32 := nzQ h32
                subst hM
                exact retC_view (lfQA (And.intro h4 (And.intro h18 (And.intro h26 (And.intro h31 h32)))))
            · rw [if_neg (ne_true h31)] at hM
              refine spQA h31 ?_
              have nh31 := nzQ h31
              refine guardC_t (fun h33 => ?_) (fun h33 => ?_)
              · rw [if_pos h33] at hM
                refine spQA h33 ?_
                have nh33 := nzQ h33
                subst hM
                exact retC_view (lfQA (And.intro h4 (And.intro h18 (And.intro h26 (And.intro h31 h33)))))
              · rw [if_neg (ne_true h33)] at hM
                refine spQA h33 ?_
                have nh33 := nzQ h33
                subst hM
                exact retC_view (lfQA (And.intro h4 (And.intro h18 (And.intro h26 (And.intro h31 h33)))))
        · refine spQ ?_
          have hM0 := hM; clear hM; obtain ⟨x34, hx35, hM⟩ := letk_opn hM0; clear hM0
          have hcx34 := specieref46_Payment_ok  amount coins hops hour open_ 
          rw [← hx35] at hcx34
          refine callC_give hcx34 clQ clQ (fun hw36 => ?_)
          replace hw36 := nzQ hw36
          refine spQ ?_
          refine condC_intro (fun h37 => ?_) (fun h37 => ?_)
          · rw [if_pos h37] at hM
            refine spQA h37 ?_
            have nh37 := nzQ h37
            refine guardC_f (fun h38 => ?_) (fun h38 => ?_)
            · rw [if_neg (ne_true h38)] at hM
              refine spQA h38 ?_
              have nh38 := nzQ h38
              refine condC_intro (fun h39 => ?_) (fun h39 => ?_)
              · rw [if_pos h39] at hM
                refine spQA h39 ?_
                have nh39 := nzQ h39
                subst hM
                exact retC_view (lfQA (And.intro h4 (And.intro h18 (And.intro h37 (And.intro h38 h39)))))
              · rw [if_neg (ne_true h39)] at hM
                refine spQA h39 ?_
                have nh39 := nzQ h39
                exact cut_intro (⟨[(4, .int .i64 hour), (5, .int .i64 open_), (6, .ptr 0 0), (15, .int .i64 x12.1), (16, .int .i64 x12.2)], [(0, .var 1 true (.agg [.sl none 3 true (p_.Rules.map e_api_Rule)]))], 2⟩ : St) sbQ sbQ (hcut22 _ ⟨(), rfl, trivial, hM⟩)
            · rw [if_pos h38] at hM
              refine spQA h38 ?_
              have nh38 := nzQ h38
              subst hM
              exact retC_view (lfQA (And.intro h4 (And.intro h18 (And.intro h37 h38))))
          · rw [if_neg (ne_true h37)] at hM
            refine spQA h37 ?_
            have nh37 := nzQ h37
            have hM0 := hM; clear hM; obtain ⟨x40, hx41, hM⟩ := letk_opn hM0; clear hM0
            have hcx40 := specieref46_First_ok  p_ amount coins hops hour open_ 
            rw [← hx41] at hcx40
            refine callC_give hcx40 clQ clQ (fun hw42 => ?_)
            replace hw42 := nzQ hw42
            refine spQ ?_
            refine guardC_f (fun h43 => ?_) (fun h43 => ?_)
            · rw [if_neg (ne_true h43)] at hM
              refine spQA h43 ?_
              have nh43 := nzQ h43
              refine condC_intro (fun h44 => ?_) (fun h44 => ?_)
              · rw [if_pos h44] at hM
                refine spQA h44 ?_
                have nh44 := nzQ h44
                subst hM
                exact retC_view (lfQA (And.intro h4 (And.intro h18 (And.intro h37 (And.intro h43 h44)))))
              · rw [if_neg (ne_true h44)] at hM
                refine spQA h44 ?_
                have nh44 := nzQ h44
                exact cut_intro (⟨[(4, .int .i64 hour), (5, .int .i64 open_), (6, .ptr 0 0), (15, .int .i64 x12.1), (16, .int .i64 x12.2)], [(0, .var 1 true (.agg [.sl none 3 true (p_.Rules.map e_api_Rule)]))], 2⟩ : St) sbQ sbQ (hcut22 _ ⟨(), rfl, trivial, hM⟩)
            · rw [if_pos h43] at hM
              refine spQA h43 ?_
              have nh43 := nzQ h43
              subst hM
              exact retC_view (lfQA (And.intro h4 (And.intro h18 (And.intro h37 h43))))
set_option maxHeartbeats 2000000 in
set_option maxRecDepth 100000 in
theorem specielaw46_PolicyLimited_ok  (p_ : S_api_Policy) (hour : Int) (open_ : Int) (amount : Int)  : CallOk En 6 [.agg [.sl none 3 true (p_.Rules.map e_api_Rule)], .int .i64 hour, .int .i64 open_, .int .i64 amount] (.bool (specielaw46_PolicyLimited p_ hour open_ amount)) [] := by
  generalize hM : specielaw46_PolicyLimited p_ hour open_ amount = r
  rw [specielaw46_PolicyLimited.eq_1] at hM
  refine enterV En_ok En_mo noJ Tryd.func6 rfl Tryd.ntmps6 (by kernel_rfl) fun hw => ct_start ?_
  refine spQ ?_
  replace hw := nzQ hw
  have hM0 := hM; clear hM; obtain ⟨x1, hx2, hM⟩ := letk_opn hM0; clear hM0
  have hcx1 := specielaw46_awake_ok   
  rw [← hx2] at hcx1
  refine callC_give hcx1 clQ clQ (fun hw3 => ?_)
  replace hw3 := nzQ hw3
  refine spQ ?_
  refine condC_intro (fun h4 => ?_) (fun h4 => ?_)
  · rw [if_pos h4] at hM
    refine spQA h4 ?_
    have nh4 := nzQ h4
    subst hM
    exact retC_view (lfQA h4)
  · rw [if_neg (ne_true h4)] at hM
    refine spQA h4 ?_
    have nh4 := nzQ h4
    have hM0 := hM; clear hM; obtain ⟨x5, hx6, hM⟩ := letk_opn hM0; clear hM0
    have hcx5 := specielaw46_great_ok (some false) ([p_] : List S_api_Policy) 
    rw [← hx6] at hcx5
    refine callC_look hcx5 clQ clQ (fun hw7 => ?_)
    replace hw7 := nzQ hw7
    refine spQ ?_
    refine condC_intro (fun h8 => ?_) (fun h8 => ?_)
    · subst h8
      rw [if_pos rfl] at hM
      refine spQ ?_
      subst hM
      exact retC_view (lfQA h4)
    · subst h8
      rw [if_neg (by decide)] at hM
      refine spQ ?_
      have hM0 := hM; clear hM; obtain ⟨x9, hx10, hM⟩ := letk_opn hM0; clear hM0
      have hcx9 := policy_Limit_ok  p_ hour open_ 
      rw [← hx10] at hcx9
      refine callC_give hcx9 clQ clQ (fun hw11 => ?_)
      replace hw11 := nzQ hw11
      refine spQ ?_
      have hM0 := hM; clear hM; obtain ⟨x12, hx13, hM⟩ := letk_opn hM0; clear hM0
      have hcx12 := policy_Accepts_ok  p_ amount 0 0 hour open_ 
      rw [← hx13] at hcx12
      refine callC_give hcx12 clQ clQ (fun hw14 => ?_)
      replace hw14 := nzQ hw14
      refine spQ ?_
      refine condC_intro (fun h15 => ?_) (fun h15 => ?_)
      · rw [if_pos h15] at hM
        refine spQA h15 ?_
        have nh15 := nzQ h15
        have hM0 := hM; clear hM; obtain ⟨x16, hx17, hM⟩ := letk_opn hM0; clear hM0
        have hcx16 := policy_Accepts_ok  p_ 0 0 0 hour open_ 
        rw [← hx17] at hcx16
        refine callC_give hcx16 clQ clQ (fun hw18 => ?_)
        replace hw18 := nzQ hw18
        refine spQ ?_
        refine guardC_t (fun h19 => ?_) (fun h19 => ?_)
        · rw [if_pos h19] at hM
          refine spQA h19 ?_
          have nh19 := nzQ h19
          refine guardC_t (fun h20 => ?_) (fun h20 => ?_)
          · rw [if_pos h20] at hM
            refine spQA h20 ?_
            have nh20 := nzQ h20
            subst hM
            exact retC_view (lfQA (And.intro h4 (And.intro h15 (And.intro h19 h20))))
          · rw [if_neg (ne_true h20)] at hM
            refine spQA h20 ?_
            have nh20 := nzQ h20
            subst hM
            exact retC_view (lfQA (And.intro h4 (And.intro h15 (And.intro h19 h20))))
        · rw [if_neg (ne_true h19)] at hM
          refine spQA h19 ?_
          have nh19 := nzQ h19
          subst hM
          exact retC_view (lfQA (And.intro h4 (And.intro h15 h19)))
      · rw [if_neg (ne_true h15)] at hM
        refine spQA h15 ?_
        have nh15 := nzQ h15
        have hM0 := hM; clear hM; obtain ⟨x21, hx22, hM⟩ := letk_opn hM0; clear hM0
        have hcx21 := policy_Accepts_ok  p_ (x9.1) 0 0 hour open_ 
        rw [← hx22] at hcx21
        refine callC_give hcx21 clQ clQ (fun hw23 => ?_)
        replace hw23 := nzQ hw23
        refine spQ ?_
        refine guardC_f (fun h24 => ?_) (fun h24 => ?_)
        · rw [if_neg (ne_true h24)] at hM
          refine spQA h24 ?_
          have nh24 := nzQ h24
          refine guardC_f (fun h25 => ?_) (fun h25 => ?_)
          · rw [if_neg (ne_true h25)] at hM
            refine spQA h25 ?_
            have nh25 := nzQ h25
            refine guardC_f (fun h26 => ?_) (fun h26 => ?_)
            · rw [if_neg (ne_true h26)] at hM
              refine spQA h26 ?_
              have nh26 := nzQ h26
              refine condC_intro (fun h27 => ?_) (fun h27 => ?_)
              · rw [if_pos h27] at hM
                refine spQA h27 ?_
                have nh27 := nzQ h27
                subst hM
                exact retC_view (lfQA (And.intro h4 (And.intro h15 (And.intro h24 (And.intro h25 (And.intro h26 h27))))))
              · rw [if_neg (ne_true h27)] at hM
                refine spQA h27 ?_
                have nh27 := nzQ h27
                have hM0 := hM; clear hM; obtain ⟨x28, hx29, hM⟩ := letk_opn hM0; clear hM0
                have hcx28 := policy_Accepts_ok  p_ (addI .i64 x9.1 1) 0 0 hour open_ 
                rw [← hx29] at hcx28
                refine callC_give hcx28 clQ clQ (fun hw30 => ?_)
                replace hw30 := nzQ hw30
                refine spQ ?_
                refine guardC_t (fun h31 => ?_) (fun h31 => ?_)
                · rw [if_pos h31] at hM
                  refine spQA h31 ?_
                  have nh31 := nzQ h31
                  refine guardC_t (fun h32 => ?_) (fun h32 => ?_)
                  · rw [if_pos h32] at hM
                    refine spQA h32 ?_
                    have nh32 := nzQ h32
                    subst hM
                    exact retC_view (lfQA (And.intro h4 (And.intro h15 (And.intro h24 (And.intro h25 (And.intro h26 (And.intro h27 (And.intro h31 h32))))))))
                  · rw [if_neg (ne_true h32)] at hM
                    refine spQA h32 ?_
                    have nh32 := nzQ h32
                    subst hM
                    exact retC_view (lfQA (And.intro h4 (And.intro h15 (And.intro h24 (And.intro h25 (And.intro h26 (And.intro h27 (And.intro h31 h32))))))))
                · rw [if_neg (ne_true h31)] at hM
                  refine spQA h31 ?_
                  have nh31 := nzQ h31
                  subst hM
                  exact retC_view (lfQA (And.intro h4 (And.intro h15 (And.intro h24 (And.intro h25 (And.intro h26 (And.intro h27 h31)))))))
            · rw [if_pos h26] at hM
              refine spQA h26 ?_
              have nh26 := nzQ h26
              subst hM
              exact retC_view (lfQA (And.intro h4 (And.intro h15 (And.intro h24 (And.intro h25 h26)))))
          · rw [if_pos h25] at hM
            refine spQA h25 ?_
            have nh25 := nzQ h25
            subst hM
            exact retC_view (lfQA (And.intro h4 (And.intro h15 (And.intro h24 h25))))
        · rw [if_pos h24] at hM
          refine spQA h24 ?_
          have nh24 := nzQ h24
          subst hM
          exact retC_view (lfQA (And.intro h4 (And.intro h15 h24)))
set_option maxHeartbeats 2000000 in
set_option maxRecDepth 100000 in
theorem specielaw46_PolicyHours_ok  (a_ : Int) (b : Int)  : CallOk En 7 [.int .u8 a_, .int .u8 b] (.bool (specielaw46_PolicyHours a_ b)) [] := by
  generalize hM : specielaw46_PolicyHours a_ b = r
  rw [specielaw46_PolicyHours.eq_1] at hM
  refine enterV En_ok En_mo noJ Tryd.func7 rfl Tryd.ntmps7 (by kernel_rfl) fun hw => ct_start ?_
  refine spQ ?_
  replace hw := nzQ hw
  have hM0 := hM; clear hM; obtain ⟨x1, hx2, hM⟩ := letk_opn hM0; clear hM0
  have hcx1 := specielaw46_awake_ok   
  rw [← hx2] at hcx1
  refine callC_give hcx1 clQ clQ (fun hw3 => ?_)
  replace hw3 := nzQ hw3
  refine spQ ?_
  refine condC_intro (fun h4 => ?_) (fun h4 => ?_)
  · rw [if_pos h4] at hM
    refine spQA h4 ?_
    have nh4 := nzQ h4
    subst hM
    exact retC_view (lfQA h4)
  · rw [if_neg (ne_true h4)] at hM
    refine spQA h4 ?_
    have nh4 := nzQ h4
    refine bindC_intro omQ ?_
    refine spQ ?_
    refine bindC_intro omQ ?_
    refine spQ ?_
    refine condC_intro (fun h5 => ?_) (fun h5 => ?_)
    · rw [if_pos h5] at hM
      refine spQA h5 ?_
      have nh5 := nzQ h5
      subst hM
      exact retC_view (lfQA (And.intro h4 h5))
    · rw [if_neg (ne_true h5)] at hM
      refine spQA h5 ?_
      have nh5 := nzQ h5
      have hM0 := hM; clear hM; obtain ⟨f6, d6, hf6, hd6, hM⟩ := iter_opn hM0; clear hM0
      refine ct_loop (fun n S => ∃ p : Int × Int, S = (⟨[(5, .int .i64 (remI .i64 (convI .i64 a_) 24)), (6, .int .i64 (remI .i64 (convI .i64 b) 24)), (7, .int .i64 p.1), (24, .int .i64 p.2)], [], 0⟩ : St) ∧ ((0 ≤ p.2) ∧ (p.2 ≤ 24)) ∧ ((24 : Int) - p.2).toNat < n ∧ iter n f6 d6 p = r) (((24 : Int) - 0).toNat + 1) (⟨[(5, .int .i64 (remI .i64 (convI .i64 a_) 24)), (6, .int .i64 (remI .i64 (convI .i64 b) 24)), (7, .int .i64 0), (24, .int .i64 0)], [], 0⟩ : St) sbQ sbQ ⟨(0, 0), rfl, ⟨omQ, omQ⟩, (Nat.lt_succ_self _), hM⟩ ?_
      clear hM
      rintro n6 S ⟨p6, rfl, hfa6, hm6, hM⟩
      have hM0 := hM; clear hM; obtain ⟨ag6, hag6, hM⟩ := iter_step hM0 (by omega) hf6; clear hM0
      replace hfa6 := nzQ hfa6
      replace hm6 := nzQ hm6
      have ha6 : addI .i64 p6.2 1 = p6.2 + 1 := add_one omQ omQ
      refine spQA ha6 ?_
      refine condC_intro (fun h7 => ?_) (fun h7 => ?_)
      · rw [if_pos h7] at hM
        refine spQA (And.intro ha6 h7) ?_
        have nh7 := nzQ h7
        have hM0 := hM; clear hM; obtain ⟨x8, hx9, hM⟩ := letk_opn hM0; clear hM0
        have hcx8 := policy_Accepts_ok  ({ Rules := ([({ Kind := 5, A := (remI .i64 (convI .i64 a_) 24), B := (remI .i64 (convI .i64 b) 24) } : S_api_Rule)] : List S_api_Rule) } : S_api_Policy) 0 0 0 (p6.2) 0 
        rw [← hx9] at hcx8
        refine callC_look hcx8 (clQA ha6) (clQA ha6) (fun hw10 => ?_)
        replace hw10 := nzQ hw10
        refine spQA ha6 ?_
        have hM0 := hM; clear hM; obtain ⟨x11, hx12, hM⟩ := letk_opn hM0; clear hM0
        have hcx11 := policy_Accepts_ok  ({ Rules := ([({ Kind := 5, A := (remI .i64 (convI .i64 b) 24), B := (remI .i64 (convI .i64 a_) 24) } : S_api_Rule)] : List S_api_Rule) } : S_api_Policy) 0 0 0 (p6.2) 0 
        rw [← hx12] at hcx11
        refine callC_look hcx11 (clQA ha6) (clQA ha6) (fun hw13 => ?_)
        replace hw13 := nzQ hw13
        refine spQA ha6 ?_
        refine condC_intro (fun h14 => ?_) (fun h14 => ?_)
        · rw [if_pos h14] at hM
          refine spQA (And.intro ha6 h14) ?_
          have nh14 := nzQ h14
          subst hM
          exact retC_view (lfQA (And.intro ha6 (And.intro h4 (And.intro h5 (And.intro h7 h14)))))
        · rw [if_neg (ne_true h14)] at hM
          refine spQA (And.intro ha6 h14) ?_
          have nh14 := nzQ h14
          refine condC_intro (fun h15 => ?_) (fun h15 => ?_)
          · rw [if_pos h15] at hM
            refine spQA (And.intro ha6 h15) ?_
            have nh15 := nzQ h15
            refine lp_intro (n6 - 1) (⟨[(5, .int .i64 (remI .i64 (convI .i64 a_) 24)), (6, .int .i64 (remI .i64 (convI .i64 b) 24)), (7, .int .i64 (addI .i64 p6.1 1)), (24, .int .i64 (p6.2 + 1))], [], 0⟩ : St) (by omega) sbQ sbQ ⟨((addI .i64 p6.1 1), (p6.2 + 1)), rfl, ⟨omQ, omQ⟩, omQ, iter_again hM hag6⟩
          · rw [if_neg (ne_true h15)] at hM
            refine spQA (And.intro ha6 h15) ?_
            have nh15 := nzQ h15
            refine lp_intro (n6 - 1) (⟨[(5, .int .i64 (remI .i64 (convI .i64 a_) 24)), (6, .int .i64 (remI .i64 (convI .i64 b) 24)), (7, .int .i64 p6.1), (24, .int .i64 (p6.2 + 1))], [], 0⟩ : St) (by omega) sbQ sbQ ⟨(p6.1, (p6.2 + 1)), rfl, ⟨omQ, omQ⟩, omQ, iter_again hM hag6⟩
      · rw [if_neg (ne_true h7)] at hM
        refine spQA (And.intro ha6 h7) ?_
        have nh7 := nzQ h7
        refine bindC_intro omQ ?_
        refine spQA ha6 ?_
        subst hM
        exact retC_view (lfQA (And.intro ha6 (And.intro h4 (And.intro h5 h7))))
set_option maxHeartbeats 2000000 in
set_option maxRecDepth 100000 in
theorem specielaw46_PolicyMonotone_ok  (p_ : S_api_Policy) (amounts : (List Int)) (coins : (List Int)) (hops : (List Int)) (opens : (List Int)) (hour : Int)  : CallOk En 5 [.agg [.sl none 3 true (p_.Rules.map e_api_Rule)], .agg [.int .i64 (gt amounts 0), .int .i64 (gt amounts 1)], .agg [.int .i64 (gt coins 0), .int .i64 (gt coins 1)], .agg [.int .i64 (gt hops 0), .int .i64 (gt hops 1)], .agg [.int .i64 (gt opens 0), .int .i64 (gt opens 1)], .int .i64 hour] (.bool (specielaw46_PolicyMonotone p_ amounts coins hops opens hour)) [] := by
  generalize hM : specielaw46_PolicyMonotone p_ amounts coins hops opens hour = r
  rw [specielaw46_PolicyMonotone.eq_1] at hM
  refine enterV En_ok En_mo noJ Tryd.func5 rfl Tryd.ntmps5 (by kernel_rfl) fun hw => ct_start ?_
  refine spQ ?_
  replace hw := nzQ hw
  have hM0 := hM; clear hM; obtain ⟨x1, hx2, hM⟩ := letk_opn hM0; clear hM0
  have hcx1 := specielaw46_awake_ok   
  rw [← hx2] at hcx1
  refine callC_give hcx1 clQ clQ (fun hw3 => ?_)
  replace hw3 := nzQ hw3
  refine spQ ?_
  refine condC_intro (fun h4 => ?_) (fun h4 => ?_)
  · rw [if_pos h4] at hM
    refine spQA h4 ?_
    have nh4 := nzQ h4
    subst hM
    exact retC_view (lfQA h4)
  · rw [if_neg (ne_true h4)] at hM
    refine spQA h4 ?_
    have nh4 := nzQ h4
    have hM0 := hM; clear hM; obtain ⟨x5, hx6, hM⟩ := letk_opn hM0; clear hM0
    have hcx5 := specielaw46_great_ok (some false) ([p_] : List S_api_Policy) 
    rw [← hx6] at hcx5
    refine callC_look hcx5 clQ clQ (fun hw7 => ?_)
    replace hw7 := nzQ hw7
    refine spQ ?_
    refine guardC_f (fun h8 => ?_) (fun h8 => ?_)
    · subst h8
      rw [if_neg (by decide)] at hM
      refine spQ ?_
      refine condC_intro (fun h9 => ?_) (fun h9 => ?_)
      · rw [if_pos h9] at hM
        refine spQA h9 ?_
        have nh9 := nzQ h9
        subst hM
        exact retC_view (lfQA (And.intro h4 h9))
      · rw [if_neg (ne_true h9)] at hM
        refine spQA h9 ?_
        have nh9 := nzQ h9
        have hM0 := hM; clear hM; obtain ⟨x10, hx11, hM⟩ := letk_opn hM0; clear hM0
        have hcx10 := policy_Accepts_ok  p_ (minI (gt amounts 0) (gt amounts 1)) (minI (gt coins 0) (gt coins 1)) (minI (gt hops 0) (gt hops 1)) hour (minI (gt opens 0) (gt opens 1)) 
        rw [← hx11] at hcx10
        refine callC_give hcx10 clQ clQ (fun hw12 => ?_)
        replace hw12 := nzQ hw12
        refine spQ ?_
        have hM0 := hM; clear hM; obtain ⟨x13, hx14, hM⟩ := letk_opn hM0; clear hM0
        have hcx13 := policy_Accepts_ok  p_ (maxI (gt amounts 0) (gt amounts 1)) (maxI (gt coins 0) (gt coins 1)) (maxI (gt hops 0) (gt hops 1)) hour (maxI (gt opens 0) (gt opens 1)) 
        rw [← hx14] at hcx13
        refine callC_give hcx13 clQ clQ (fun hw15 => ?_)
        replace hw15 := nzQ hw15
        refine spQ ?_
        refine guardC_f (fun h16 => ?_) (fun h16 => ?_)
        · rw [if_neg (ne_true h16)] at hM
          refine spQA h16 ?_
          have nh16 := nzQ h16
          refine guardC_t (fun h17 => ?_) (fun h17 => ?_)
          · rw [if_pos h17] at hM
            refine spQA h17 ?_
            have nh17 := nzQ h17
            refine guardC_t (fun h18 => ?_) (fun h18 => ?_)
            · rw [if_pos h18] at hM
              refine spQA h18 ?_
              have nh18 := nzQ h18
              refine guardC_f (fun h19 => ?_) (fun h19 => ?_)
              · rw [if_neg (ne_true h19)] at hM
                refine spQA h19 ?_
                have nh19 := nzQ h19
                refine guardC_t (fun h20 => ?_) (fun h20 => ?_)
                · rw [if_pos h20] at hM
                  refine spQA h20 ?_
                  have nh20 := nzQ h20
                  refine guardC_t (fun h21 => ?_) (fun h21 => ?_)
                  · rw [if_pos h21] at hM
                    refine spQA h21 ?_
                    have nh21 := nzQ h21
                    subst hM
                    exact retC_view (lfQA (And.intro h4 (And.intro h9 (And.intro h16 (And.intro h17 (And.intro h18 (And.intro h19 (And.intro h20 h21))))))))
                  · rw [if_neg (ne_true h21)] at hM
                    refine spQA h21 ?_
                    have nh21 := nzQ h21
                    subst hM
                    exact retC_view (lfQA (And.intro h4 (And.intro h9 (And.intro h16 (And.intro h17 (And.intro h18 (And.intro h19 (And.intro h20 h21))))))))
                · rw [if_neg (ne_true h20)] at hM
                  refine spQA h20 ?_
                  have nh20 := nzQ h20
                  subst hM
                  exact retC_view (lfQA (And.intro h4 (And.intro h9 (And.intro h16 (And.intro h17 (And.intro h18 (And.intro h19 h20)))))))
              · rw [if_pos h19] at hM
                refine spQA h19 ?_
                have nh19 := nzQ h19
                refine guardC_t (fun h22 => ?_) (fun h22 => ?_)
                · rw [if_pos h22] at hM
                  refine spQA h22 ?_
                  have nh22 := nzQ h22
                  subst hM
                  exact retC_view (lfQA (And.intro h4 (And.intro h9 (And.intro h16 (And.intro h17 (And.intro h18 (And.intro h19 h22)))))))
                · rw [if_neg (ne_true h22)] at hM
                  refine spQA h22 ?_
                  have nh22 := nzQ h22
                  subst hM
                  exact retC_view (lfQA (And.intro h4 (And.intro h9 (And.intro h16 (And.intro h17 (And.intro h18 (And.intro h19 h22)))))))
            · rw [if_neg (ne_true h18)] at hM
              refine spQA h18 ?_
              have nh18 := nzQ h18
              subst hM
              exact retC_view (lfQA (And.intro h4 (And.intro h9 (And.intro h16 (And.intro h17 h18)))))
          · rw [if_neg (ne_true h17)] at hM
            refine spQA h17 ?_
            have nh17 := nzQ h17
            subst hM
            exact retC_view (lfQA (And.intro h4 (And.intro h9 (And.intro h16 h17))))
        · rw [if_pos h16] at hM
          refine spQA h16 ?_
          have nh16 := nzQ h16
          refine guardC_f (fun h23 => ?_) (fun h23 => ?_)
          · rw [if_neg (ne_true h23)] at hM
            refine spQA h23 ?_
            have nh23 := nzQ h23
            refine guardC_t (fun h24 => ?_) (fun h24 => ?_)
            · rw [if_pos h24] at hM
              refine spQA h24 ?_
              have nh24 := nzQ h24
              refine guardC_f (fun h25 => ?_) (fun h25 => ?_)
              · rw [if_neg (ne_true h25)] at hM
                refine spQA h25 ?_
                have nh25 := nzQ h25
                refine guardC_t (fun h26 => ?_) (fun h26 => ?_)
                · rw [if_pos h26] at hM
                  refine spQA h26 ?_
                  have nh26 := nzQ h26
                  refine guardC_t (fun h27 => ?_) (fun h27 => ?_)
                  · rw [if_pos h27] at hM
                    refine spQA h27 ?_
                    have nh27 := nzQ h27
                    subst hM
                    exact retC_view (lfQA (And.intro h4 (And.intro h9 (And.intro h16 (And.intro h23 (And.intro h24 (And.intro h25 (And.intro h26 h27))))))))
                  · rw [if_neg (ne_true h27)] at hM
                    refine spQA h27 ?_
                    have nh27 := nzQ h27
                    subst hM
                    exact retC_view (lfQA (And.intro h4 (And.intro h9 (And.intro h16 (And.intro h23 (And.intro h24 (And.intro h25 (And.intro h26 h27))))))))
                · rw [if_neg (ne_true h26)] at hM
                  refine spQA h26 ?_
                  have nh26 := nzQ h26
                  subst hM
                  exact retC_view (lfQA (And.intro h4 (And.intro h9 (And.intro h16 (And.intro h23 (And.intro h24 (And.intro h25 h26)))))))
              · rw [if_pos h25] at hM
                refine spQA h25 ?_
                have nh25 := nzQ h25
                refine guardC_t (fun h28 => ?_) (fun h28 => ?_)
                · rw [if_pos h28] at hM
                  refine spQA h28 ?_
                  have nh28 := nzQ h28
                  subst hM
                  exact retC_view (lfQA (And.intro h4 (And.intro h9 (And.intro h16 (And.intro h23 (And.intro h24 (And.intro h25 h28)))))))
                · rw [if_neg (ne_true h28)] at hM
                  refine spQA h28 ?_
                  have nh28 := nzQ h28
                  subst hM
                  exact retC_view (lfQA (And.intro h4 (And.intro h9 (And.intro h16 (And.intro h23 (And.intro h24 (And.intro h25 h28)))))))
            · rw [if_neg (ne_true h24)] at hM
              refine spQA h24 ?_
              have nh24 := nzQ h24
              subst hM
              exact retC_view (lfQA (And.intro h4 (And.intro h9 (And.intro h16 (And.intro h23 h24)))))
          · rw [if_pos h23] at hM
            refine spQA h23 ?_
            have nh23 := nzQ h23
            refine guardC_f (fun h29 => ?_) (fun h29 => ?_)
            · rw [if_neg (ne_true h29)] at hM
              refine spQA h29 ?_
              have nh29 := nzQ h29
              refine guardC_t (fun h30 => ?_) (fun h30 => ?_)
              · rw [if_pos h30] at hM
                refine spQA h30 ?_
                have nh30 := nzQ h30
                refine guardC_t (fun h31 => ?_) (fun h31 => ?_)
                · rw [if_pos h31] at hM
                  refine spQA h31 ?_
                  have nh31 := nzQ h31
                  subst hM
                  exact retC_view (lfQA (And.intro h4 (And.intro h9 (And.intro h16 (And.intro h23 (And.intro h29 (And.intro h30 h31)))))))
                · rw [if_neg (ne_true h31)] at hM
                  refine spQA h31 ?_
                  have nh31 := nzQ h31
                  subst hM
                  exact retC_view (lfQA (And.intro h4 (And.intro h9 (And.intro h16 (And.intro h23 (And.intro h29 (And.intro h30 h31)))))))
              · rw [if_neg (ne_true h30)] at hM
                refine spQA h30 ?_
                have nh30 := nzQ h30
                subst hM
                exact retC_view (lfQA (And.intro h4 (And.intro h9 (And.intro h16 (And.intro h23 (And.intro h29 h30))))))
            · rw [if_pos h29] at hM
              refine spQA h29 ?_
              have nh29 := nzQ h29
              refine guardC_t (fun h32 => ?_) (fun h32 => ?_)
              · rw [if_pos h32] at hM
                refine spQA h32 ?_
                have nh32 := nzQ h32
                subst hM
                exact retC_view (lfQA (And.intro h4 (And.intro h9 (And.intro h16 (And.intro h23 (And.intro h29 h32))))))
              · rw [if_neg (ne_true h32)] at hM
                refine spQA h32 ?_
                have nh32 := nzQ h32
                subst hM
                exact retC_view (lfQA (And.intro h4 (And.intro h9 (And.intro h16 (And.intro h23 (And.intro h29 h32))))))
    · subst h8
      rw [if_pos rfl] at hM
      refine spQ ?_
      subst hM
      exact retC_view (lfQA h4)
set_option maxRecDepth 100000 in
theorem slices_Clone_api_Rule_api_Rule_ok (z0 : Option Bool) (s : List S_api_Rule) : CallOk En 55 [.sl z0 3 true (s.map e_api_Rule)] (.own 0) [.own 53 3 true none ((slices_Clone_api_Rule_api_Rule s).map e_api_Rule)] := by
  show CallOk En 55 [.sl z0 3 true (s.map e_api_Rule)] (.own 0) [.own 53 3 true none (s.map e_api_Rule)]
  refine callOk_nil (pre := []) (post := []) (fun hl => ?_) ?_ z0
  · have hl : s = [] := by cases s with | nil => rfl | cons a s => cases hl
    subst hl
    refine enterV En_ok En_mo noJ Tryd.func55 rfl Tryd.ntmps55 (by kernel_rfl) fun hw => ct_start ?_
    simp only [go_sem, rowV_eq, rowV_eq0, List.length_replicate, rep_len, Int.toNat_natCast, ↓reduceIte, Nat.reduceEqDiff, Nat.reduceAdd, Nat.reduceMul, Nat.reduceLeDiff, Nat.reduceLT, Int.reduceLE, Int.reduceLT, Int.reduceNeg, Int.reduceToNat, List.nil_append]
    exact retC_nil (by decide)
  · refine enterV En_ok En_mo noJ Tryd.func55 rfl Tryd.ntmps55 (by kernel_rfl) fun hw => ct_start ?_
    simp only [go_sem, rowV_eq, rowV_eq0, List.length_replicate, rep_len, Int.toNat_natCast, ↓reduceIte, Nat.reduceEqDiff, Nat.reduceAdd, Nat.reduceMul, Nat.reduceLeDiff, Nat.reduceLT, Int.reduceLE, Int.reduceLT, Int.reduceNeg, Int.reduceToNat, List.nil_append]
    have hn : s.length ≤ 1073741824 := by have h := hw; simp only [wfL, wfV, List.nil_append, LEN_eq, List.length_map] at h; exact h.1.1
    refine bindC_intro (by first | omega | (simp only [List.length_map, List.length_nil, List.nil_append]; omega)) ?_
    refine spQ ?_
    refine retC_ownZ 0 rfl clQ
set_option maxHeartbeats 2000000 in
set_option maxRecDepth 100000 in
theorem slices_Index_api_Rule_api_Rule_ok (z0 : Option Bool) (s : (List S_api_Rule)) (v : S_api_Rule)  : CallOk En 76 [.sl z0 3 true (s.map e_api_Rule), .agg [.int .i64 v.Kind, .int .i64 v.A, .int .i64 v.B]] (.int .i64 (slices_Index_api_Rule_api_Rule s v)) [] := by
  generalize hM : slices_Index_api_Rule_api_Rule s v = r
  rw [slices_Index_api_Rule_api_Rule.eq_1] at hM
  refine enterV En_ok En_mo noJ Tryd.func76 rfl Tryd.ntmps76 (by kernel_rfl) fun hw => ct_start ?_
  refine spQ ?_
  replace hw := nzQ hw
  have hM0 := hM; clear hM; obtain ⟨f1, d1, hf1, hd1, hM⟩ := iter_opn hM0; clear hM0
  refine ct_loop (fun n S => ∃ p : Int, S = (⟨[(0, .sl z0 3 true (s.map e_api_Rule)), (3, .ptr 0 0), (7, .int .i64 (s.length : Int)), (8, .int .i64 p)], [(0, .var 3 true (.agg [.int .i64 v.Kind, .int .i64 v.A, .int .i64 v.B]))], 1⟩ : St) ∧ ((0 ≤ p) ∧ (p ≤ (s.length : Int))) ∧ ((s.length : Int) - p).toNat < n ∧ iter n f1 d1 p = r) (((s.length : Int) - 0).toNat + 1) (⟨[(0, .sl z0 3 true (s.map e_api_Rule)), (3, .ptr 0 0), (7, .int .i64 (s.length : Int)), (8, .int .i64 0)], [(0, .var 3 true (.agg [.int .i64 v.Kind, .int .i64 v.A, .int .i64 v.B]))], 1⟩ : St) sbQ sbQ ⟨0, rfl, ⟨omQ, omQ⟩, (Nat.lt_succ_self _), hM⟩ ?_
  clear hM
  rintro n1 S ⟨p1, rfl, hfa1, hm1, hM⟩
  have hM0 := hM; clear hM; obtain ⟨ag1, hag1, hM⟩ := iter_step hM0 (by omega) hf1; clear hM0
  replace hfa1 := nzQ hfa1
  replace hm1 := nzQ hm1
  have ha1 : addI .i64 p1 1 = p1 + 1 := add_one omQ omQ
  refine spQA ha1 ?_
  refine condC_intro (fun h2 => ?_) (fun h2 => ?_)
  · rw [if_pos h2] at hM
    refine spQA (And.intro ha1 h2) ?_
    have nh2 := nzQ h2
    refine ct_draw 19 5 [11, 12, 13, 14, 15] [] ([[], [], [], [1, 2], [1, 2, 3]] ++ [List.range 5]) [] (by kernel_rfl) (by exact alQ) ?_
    refine spQA ha1 ?_
    refine hbindC_intro omQ ?_
    have he3 := fun d => elt_mp (l := s) (f := e_api_Rule) (i := p1) omQ d
    refine spQA (And.intro ha1 he3) ?_
    refine condC_intro (fun h4 => ?_) (fun h4 => ?_)
    · have kh4 : (q_api_Rule v (gt s p1)) = true := h4
      rw [if_pos kh4] at hM
      refine spQA (And.intro ha1 (And.intro he3 h4)) ?_
      have nh4 := nzQ kh4
      subst hM
      exact retC_view (lfQA (And.intro ha1 (And.intro he3 (And.intro h2 h4))))
    · have kh4 : (q_api_Rule v (gt s p1)) = false := h4
      rw [if_neg (ne_true kh4)] at hM
      refine spQA (And.intro ha1 (And.intro he3 h4)) ?_
      have nh4 := nzQ kh4
      refine lp_intro (n1 - 1) (⟨[(0, .sl z0 3 true (s.map e_api_Rule)), (3, .ptr 0 0), (7, .int .i64 (s.length : Int)), (8, .int .i64 (p1 + 1))], [(0, .var 3 true (.agg [.int .i64 v.Kind, .int .i64 v.A, .int .i64 v.B]))], 1⟩ : St) (by omega) sbQ sbQ ⟨(p1 + 1), rfl, ⟨omQ, omQ⟩, omQ, iter_again hM hag1⟩
  · rw [if_neg (ne_true h2)] at hM
    refine spQA (And.intro ha1 h2) ?_
    have nh2 := nzQ h2
    subst hM
    exact retC_view (lfQA (And.intro ha1 h2))
set_option maxHeartbeats 2000000 in
set_option maxRecDepth 100000 in
theorem slices_Contains_api_Rule_api_Rule_ok (z0 : Option Bool) (s : (List S_api_Rule)) (v : S_api_Rule)  : CallOk En 56 [.sl z0 3 true (s.map e_api_Rule), .agg [.int .i64 v.Kind, .int .i64 v.A, .int .i64 v.B]] (.bool (slices_Contains_api_Rule_api_Rule s v)) [] := by
  generalize hM : slices_Contains_api_Rule_api_Rule s v = r
  rw [slices_Contains_api_Rule_api_Rule.eq_1] at hM
  refine enterV En_ok En_mo noJ Tryd.func56 rfl Tryd.ntmps56 (by kernel_rfl) fun hw => ct_start ?_
  refine spQ ?_
  replace hw := nzQ hw
  have hM0 := hM; clear hM; obtain ⟨x1, hx2, hM⟩ := letk_opn hM0; clear hM0
  have hcx1 := slices_Index_api_Rule_api_Rule_ok z0 s v 
  rw [← hx2] at hcx1
  refine callC_give hcx1 clQ clQ (fun hw3 => ?_)
  replace hw3 := nzQ hw3
  refine spQ ?_
  subst hM
  exact retC_view lfQ
set_option maxHeartbeats 2000000 in
set_option maxRecDepth 100000 in
theorem policy_Merge_ok  (p_ : S_api_Policy) (q : S_api_Policy)  : CallOk En 27 [.agg [.sl none 3 true (p_.Rules.map e_api_Rule)], .agg [.sl none 3 true (q.Rules.map e_api_Rule)]] (.tup [.agg [.sl none 3 true ((policy_Merge p_ q).1.Rules.map e_api_Rule)], .int .i64 (policy_Merge p_ q).2]) [] := by
  generalize hM : policy_Merge p_ q = r
  rw [policy_Merge.eq_1] at hM
  refine enterV En_ok En_mo noJ Tryd.func27 rfl Tryd.ntmps27 (by kernel_rfl) fun hw => ct_start ?_
  refine spQ ?_
  replace hw := nzQ hw
  have hM0 := hM; clear hM; obtain ⟨x1, hx2, hM⟩ := letk_opn hM0; clear hM0
  have hcx1 := policy_Valid_ok  p_ 
  rw [← hx2] at hcx1
  refine callC_give hcx1 clQ clQ (fun hw3 => ?_)
  replace hw3 := nzQ hw3
  refine spQ ?_
  refine guardC_f (fun h4 => ?_) (fun h4 => ?_)
  · rw [if_neg (ne_true h4)] at hM
    refine spQA h4 ?_
    have nh4 := nzQ h4
    have hM0 := hM; clear hM; obtain ⟨x5, hx6, hM⟩ := letk_opn hM0; clear hM0
    have hcx5 := policy_Valid_ok  q 
    rw [← hx6] at hcx5
    refine callC_give hcx5 clQ clQ (fun hw7 => ?_)
    replace hw7 := nzQ hw7
    refine spQ ?_
    refine condC_intro (fun h8 => ?_) (fun h8 => ?_)
    · rw [if_pos h8] at hM
      refine spQA h8 ?_
      have nh8 := nzQ h8
      subst hM
      exact retC_view (lfQA (And.intro h4 h8))
    · rw [if_neg (ne_true h8)] at hM
      refine spQA h8 ?_
      have nh8 := nzQ h8
      have hM0 := hM; clear hM; obtain ⟨x9, hx10, hM⟩ := letk_opn hM0; clear hM0
      have hcx9 := slices_Clone_api_Rule_api_Rule_ok none (p_.Rules) 
      rw [← hx10] at hcx9
      refine callC_give hcx9 clQ clQ (fun hw11 => ?_)
      replace hw11 := nzQ hw11
      refine spQ ?_
      have hq12 : x9.length = p_.Rules.length := by rw [hx10]; rfl
      have hM0 := hM; clear hM; obtain ⟨f13, d13, hf13, hd13, hM⟩ := iter_opn hM0; clear hM0
      refine ct_loop (fun n S => ∃ p : Int × List S_api_Rule, S = (⟨[(4, .ptr 2 0), (6, .ptr 4 0), (23, .sl none 3 true (q.Rules.map e_api_Rule)), (24, .int .i64 (q.Rules.length : Int)), (25, .int .i64 p.1)], [(2, .var 1 true (.agg [.sl (some true) 3 true []])), (3, .own 53 3 true none (p.2.map e_api_Rule)), (4, .var 1 true (.agg [.own 3]))], 5⟩ : St) ∧ ((0 ≤ p.1) ∧ (p.1 ≤ (q.Rules.length : Int)) ∧ (((p.2).length : Int) ≤ p.1 + (x9).length)) ∧ ((q.Rules.length : Int) - p.1).toNat < n ∧ iter n f13 d13 p = r) (((q.Rules.length : Int) - 0).toNat + 1) (⟨[(4, .ptr 2 0), (6, .ptr 4 0), (23, .sl none 3 true (q.Rules.map e_api_Rule)), (24, .int .i64 (q.Rules.length : Int)), (25, .int .i64 0)], [(2, .var 1 true (.agg [.sl (some true) 3 true []])), (3, .own 53 3 true none (x9.map e_api_Rule)), (4, .var 1 true (.agg [.own 3]))], 5⟩ : St) sbQ sbQ ⟨(0, x9), rfl, ⟨by (first | exact omQ | (clear hM; first | (have hv := polValid_len (hx2.symm.trans nh4); have hv2 := polValid_len (hx6.symm.trans nh8); exact omQ'))), by (first | exact omQ | (clear hM; first | (have hv := polValid_len (hx2.symm.trans nh4); have hv2 := polValid_len (hx6.symm.trans nh8); exact omQ'))), by (first | exact omQ | (clear hM; first | (have hv := polValid_len (hx2.symm.trans nh4); have hv2 := polValid_len (hx6.symm.trans nh8); exact omQ')))⟩, (Nat.lt_succ_self _), hM⟩ ?_
      clear hM
      rintro n13 S ⟨p13, rfl, hfa13, hm13, hM⟩
      have hM0 := hM; clear hM; obtain ⟨ag13, hag13, hM⟩ := iter_step hM0 (by omega) hf13; clear hM0
      replace hfa13 := nzQ hfa13
      replace hm13 := nzQ hm13
      have ha13 : addI .i64 p13.1 1 = p13.1 + 1 := add_one (by (first | exact omQ | (clear hM; first | (have hv := polValid_len (hx2.symm.trans nh4); have hv2 := polValid_len (hx6.symm.trans nh8); exact omQ')))) (by (first | exact omQ | (clear hM; first | (have hv := polValid_len (hx2.symm.trans nh4); have hv2 := polValid_len (hx6.symm.trans nh8); exact omQ'))))
      refine spQA ha13 ?_
      refine condC_intro (fun h14 => ?_) (fun h14 => ?_)
      · rw [if_pos h14] at hM
        refine spQA (And.intro ha13 h14) ?_
        have nh14 := nzQ h14
        refine bindC_intro (by (first | exact omQ | (clear hM; first | (have hv := polValid_len (hx2.symm.trans nh4); have hv2 := polValid_len (hx6.symm.trans nh8); exact omQ')))) ?_
        have he15 := fun d => elt_mp (l := q.Rules) (f := e_api_Rule) (i := p13.1) (by (first | exact omQ | (clear hM; first | (have hv := polValid_len (hx2.symm.trans nh4); have hv2 := polValid_len (hx6.symm.trans nh8); exact omQ')))) d
        refine spQA (And.intro ha13 he15) ?_
        have hM0 := hM; clear hM; obtain ⟨x16, hx17, hM⟩ := letk_opn hM0; clear hM0
        have hcx16 := slices_Contains_api_Rule_api_Rule_ok none (p13.2) (gt q.Rules p13.1) 
        rw [← hx17] at hcx16
        refine callC_look hcx16 (clQA (And.intro ha13 he15)) (clQA (And.intro ha13 he15)) (fun hw18 => ?_)
        replace hw18 := nzQ hw18
        refine spQA (And.intro ha13 he15) ?_
        refine condC_intro (fun h19 => ?_) (fun h19 => ?_)
        · rw [if_pos h19] at hM
          refine spQA (And.intro ha13 (And.intro he15 h19)) ?_
          have nh19 := nzQ h19
          refine bindC_intro (by (first | exact omQ | (clear hM; first | (have hv := polValid_len (hx2.symm.trans nh4); have hv2 := polValid_len (hx6.symm.trans nh8); exact omQ')))) ?_
          refine spQA (And.intro ha13 he15) ?_
          refine lp_intro (n13 - 1) (⟨[(4, .ptr 2 0), (6, .ptr 4 0), (23, .sl none 3 true (q.Rules.map e_api_Rule)), (24, .int .i64 (q.Rules.length : Int)), (25, .int .i64 (p13.1 + 1))], [(2, .var 1 true (.agg [.sl (some true) 3 true []])), (3, .own 53 3 true none ((p13.2 ++ ([(gt q.Rules p13.1)] : List S_api_Rule)).map e_api_Rule)), (4, .var 1 true (.agg [.own 3]))], 5⟩ : St) (by omega) sbQ sbQ ⟨((p13.1 + 1), (p13.2 ++ ([(gt q.Rules p13.1)] : List S_api_Rule))), rfl, ⟨by (first | exact omQ | (clear hM; first | (have hv := polValid_len (hx2.symm.trans nh4); have hv2 := polValid_len (hx6.symm.trans nh8); exact omQ'))), by (first | exact omQ | (clear hM; first | (have hv := polValid_len (hx2.symm.trans nh4); have hv2 := polValid_len (hx6.symm.trans nh8); exact omQ'))), by (first | exact omQ | (clear hM; first | (have hv := polValid_len (hx2.symm.trans nh4); have hv2 := polValid_len (hx6.symm.trans nh8); exact omQ')))⟩, by (first | exact omQ | (clear hM; first | (have hv := polValid_len (hx2.symm.trans nh4); have hv2 := polValid_len (hx6.symm.trans nh8); exact omQ'))), iter_again hM hag13⟩
        · rw [if_neg (ne_true h19)] at hM
          refine spQA (And.intro ha13 (And.intro he15 h19)) ?_
          have nh19 := nzQ h19
          refine lp_intro (n13 - 1) (⟨[(4, .ptr 2 0), (6, .ptr 4 0), (23, .sl none 3 true (q.Rules.map e_api_Rule)), (24, .int .i64 (q.Rules.length : Int)), (25, .int .i64 (p13.1 + 1))], [(2, .var 1 true (.agg [.sl (some true) 3 true []])), (3, .own 53 3 true none (p13.2.map e_api_Rule)), (4, .var 1 true (.agg [.own 3]))], 5⟩ : St) (by omega) sbQ sbQ ⟨((p13.1 + 1), p13.2), rfl, ⟨by (first | exact omQ | (clear hM; first | (have hv := polValid_len (hx2.symm.trans nh4); have hv2 := polValid_len (hx6.symm.trans nh8); exact omQ'))), by (first | exact omQ | (clear hM; first | (have hv := polValid_len (hx2.symm.trans nh4); have hv2 := polValid_len (hx6.symm.trans nh8); exact omQ'))), by (first | exact omQ | (clear hM; first | (have hv := polValid_len (hx2.symm.trans nh4); have hv2 := polValid_len (hx6.symm.trans nh8); exact omQ')))⟩, by (first | exact omQ | (clear hM; first | (have hv := polValid_len (hx2.symm.trans nh4); have hv2 := polValid_len (hx6.symm.trans nh8); exact omQ'))), iter_again hM hag13⟩
      · rw [if_neg (ne_true h14)] at hM
        refine spQA (And.intro ha13 h14) ?_
        have nh14 := nzQ h14
        refine condC_intro (fun h20 => ?_) (fun h20 => ?_)
        · rw [if_pos h20] at hM
          refine spQA (And.intro ha13 h20) ?_
          have nh20 := nzQ h20
          subst hM
          exact retC_view (lfQA (And.intro ha13 (And.intro h4 (And.intro h8 (And.intro h14 h20)))))
        · rw [if_neg (ne_true h20)] at hM
          refine spQA (And.intro ha13 h20) ?_
          have nh20 := nzQ h20
          subst hM
          exact retC_view (lfQA (And.intro ha13 (And.intro h4 (And.intro h8 (And.intro h14 h20)))))
  · rw [if_pos h4] at hM
    refine spQA h4 ?_
    have nh4 := nzQ h4
    subst hM
    exact retC_view (lfQA h4)
set_option maxHeartbeats 2000000 in
set_option maxRecDepth 100000 in
theorem specielaw46_PolicyBoth_ok  (p_ : S_api_Policy) (q : S_api_Policy) (amount : Int) (coins : Int) (hops : Int) (hour : Int) (open_ : Int)  : CallOk En 8 [.agg [.sl none 3 true (p_.Rules.map e_api_Rule)], .agg [.sl none 3 true (q.Rules.map e_api_Rule)], .int .i64 amount, .int .i64 coins, .int .i64 hops, .int .i64 hour, .int .i64 open_] (.bool (specielaw46_PolicyBoth p_ q amount coins hops hour open_)) [] := by
  generalize hM : specielaw46_PolicyBoth p_ q amount coins hops hour open_ = r
  rw [specielaw46_PolicyBoth.eq_1] at hM
  refine enterV En_ok En_mo noJ Tryd.func8 rfl Tryd.ntmps8 (by kernel_rfl) fun hw => ct_start ?_
  refine spQ ?_
  replace hw := nzQ hw
  have hM0 := hM; clear hM; obtain ⟨x1, hx2, hM⟩ := letk_opn hM0; clear hM0
  have hcx1 := specielaw46_awake_ok   
  rw [← hx2] at hcx1
  refine callC_give hcx1 clQ clQ (fun hw3 => ?_)
  replace hw3 := nzQ hw3
  refine spQ ?_
  refine condC_intro (fun h4 => ?_) (fun h4 => ?_)
  · rw [if_pos h4] at hM
    refine spQA h4 ?_
    have nh4 := nzQ h4
    subst hM
    exact retC_view (lfQA h4)
  · rw [if_neg (ne_true h4)] at hM
    refine spQA h4 ?_
    have nh4 := nzQ h4
    have hM0 := hM; clear hM; obtain ⟨x5, hx6, hM⟩ := letk_opn hM0; clear hM0
    have hcx5 := specielaw46_great_ok (some false) ([p_, q] : List S_api_Policy) 
    rw [← hx6] at hcx5
    refine callC_look hcx5 clQ clQ (fun hw7 => ?_)
    replace hw7 := nzQ hw7
    refine spQ ?_
    refine condC_intro (fun h8 => ?_) (fun h8 => ?_)
    · subst h8
      rw [if_pos rfl] at hM
      refine spQ ?_
      subst hM
      exact retC_view (lfQA h4)
    · subst h8
      rw [if_neg (by decide)] at hM
      refine spQ ?_
      have hM0 := hM; clear hM; obtain ⟨x9, hx10, hM⟩ := letk_opn hM0; clear hM0
      have hcx9 := policy_Merge_ok  p_ q 
      rw [← hx10] at hcx9
      refine callC_give hcx9 clQ clQ (fun hw11 => ?_)
      replace hw11 := nzQ hw11
      refine spQ ?_
      have hM0 := hM; clear hM; obtain ⟨x12, hx13, hM⟩ := letk_opn hM0; clear hM0
      have hcx12 := policy_Merge_ok  q p_ 
      rw [← hx13] at hcx12
      refine callC_give hcx12 clQ clQ (fun hw14 => ?_)
      replace hw14 := nzQ hw14
      refine spQ ?_
      refine guardC_f (fun h15 => ?_) (fun h15 => ?_)
      · rw [if_neg (ne_true h15)] at hM
        refine spQA h15 ?_
        have nh15 := nzQ h15
        refine condC_intro (fun h16 => ?_) (fun h16 => ?_)
        · rw [if_pos h16] at hM
          refine spQA h16 ?_
          have nh16 := nzQ h16
          subst hM
          exact retC_view (lfQA (And.intro h4 (And.intro h15 h16)))
        · rw [if_neg (ne_true h16)] at hM
          refine spQA h16 ?_
          have nh16 := nzQ h16
          have hM0 := hM; clear hM; obtain ⟨x17, hx18, hM⟩ := letk_opn hM0; clear hM0
          have hcx17 := policy_Accepts_ok  p_ amount coins hops hour open_ 
          rw [← hx18] at hcx17
          refine callC_give hcx17 clQ clQ (fun hw19 => ?_)
          replace hw19 := nzQ hw19
          refine spQ ?_
          have hM0 := hM; clear hM; obtain ⟨x20, hx21, hM⟩ := letk_opn hM0; clear hM0
          have hcx20 := policy_Accepts_ok  q amount coins hops hour open_ 
          rw [← hx21] at hcx20
          refine callC_give hcx20 clQ clQ (fun hw22 => ?_)
          replace hw22 := nzQ hw22
          refine spQ ?_
          have hM0 := hM; clear hM; obtain ⟨x23, hx24, hM⟩ := letk_opn hM0; clear hM0
          have hcx23 := policy_Accepts_ok  (x9.1) amount coins hops hour open_ 
          rw [← hx24] at hcx23
          refine callC_give hcx23 clQ clQ (fun hw25 => ?_)
          replace hw25 := nzQ hw25
          refine spQ ?_
          have hM0 := hM; clear hM; obtain ⟨x26, hx27, hM⟩ := letk_opn hM0; clear hM0
          have hcx26 := policy_Accepts_ok  (x12.1) amount coins hops hour open_ 
          rw [← hx27] at hcx26
          refine callC_give hcx26 clQ clQ (fun hw28 => ?_)
          replace hw28 := nzQ hw28
          refine spQ ?_
          refine guardC_t (fun h29 => ?_) (fun h29 => ?_)
          · rw [if_pos h29] at hM
            refine spQA h29 ?_
            have nh29 := nzQ h29
            refine guardC_f (fun h30 => ?_) (fun h30 => ?_)
            · rw [if_neg (ne_true h30)] at hM
              refine spQA h30 ?_
              have nh30 := nzQ h30
              refine condC_intro (fun h31 => ?_) (fun h31 => ?_)
              · rw [if_pos h31] at hM
                refine spQA h31 ?_
                have nh31 := nzQ h31
                subst hM
                exact retC_view (lfQA (And.intro h4 (And.intro h15 (And.intro h16 (And.intro h29 (And.intro h30 h31))))))
              · rw [if_neg (ne_true h31)] at hM
                refine spQA h31 ?_
                have nh31 := nzQ h31
                have hM0 := hM; clear hM; obtain ⟨x32, hx33, hM⟩ := letk_opn hM0; clear hM0
                have hcx32 := policy_Limit_ok  p_ hour open_ 
                rw [← hx33] at hcx32
                refine callC_give hcx32 clQ clQ (fun hw34 => ?_)
                replace hw34 := nzQ hw34
                refine spQ ?_
                have hM0 := hM; clear hM; obtain ⟨x35, hx36, hM⟩ := letk_opn hM0; clear hM0
                have hcx35 := policy_Limit_ok  q hour open_ 
                rw [← hx36] at hcx35
                refine callC_give hcx35 clQ clQ (fun hw37 => ?_)
                replace hw37 := nzQ hw37
                refine spQ ?_
                have hM0 := hM; clear hM; obtain ⟨x38, hx39, hM⟩ := letk_opn hM0; clear hM0
                have hcx38 := policy_Limit_ok  (x9.1) hour open_ 
                rw [← hx39] at hcx38
                refine callC_give hcx38 clQ clQ (fun hw40 => ?_)
                replace hw40 := nzQ hw40
                refine spQ ?_
                refine guardC_f (fun h41 => ?_) (fun h41 => ?_)
                · rw [if_neg (ne_true h41)] at hM
                  refine spQA h41 ?_
                  have nh41 := nzQ h41
                  refine condC_intro (fun h42 => ?_) (fun h42 => ?_)
                  · rw [if_pos h42] at hM
                    refine spQA h42 ?_
                    have nh42 := nzQ h42
                    refine guardC_t (fun h43 => ?_) (fun h43 => ?_)
                    · rw [if_pos h43] at hM
                      refine spQA h43 ?_
                      have nh43 := nzQ h43
                      subst hM
                      exact retC_view (lfQA (And.intro h4 (And.intro h15 (And.intro h16 (And.intro h29 (And.intro h30 (And.intro h31 (And.intro h41 (And.intro h42 h43)))))))))
                    · rw [if_neg (ne_true h43)] at hM
                      refine spQA h43 ?_
                      have nh43 := nzQ h43
                      subst hM
                      exact retC_view (lfQA (And.intro h4 (And.intro h15 (And.intro h16 (And.intro h29 (And.intro h30 (And.intro h31 (And.intro h41 (And.intro h42 h43)))))))))
                  · rw [if_neg (ne_true h42)] at hM
                    refine spQA h42 ?_
                    have nh42 := nzQ h42
                    refine guardC_t (fun h44 => ?_) (fun h44 => ?_)
                    · rw [if_pos h44] at hM
                      refine spQA h44 ?_
                      have nh44 := nzQ h44
                      subst hM
                      exact retC_view (lfQA (And.intro h4 (And.intro h15 (And.intro h16 (And.intro h29 (And.intro h30 (And.intro h31 (And.intro h41 (And.intro h42 h44)))))))))
                    · rw [if_neg (ne_true h44)] at hM
                      refine spQA h44 ?_
                      have nh44 := nzQ h44
                      subst hM
                      exact retC_view (lfQA (And.intro h4 (And.intro h15 (And.intro h16 (And.intro h29 (And.intro h30 (And.intro h31 (And.intro h41 (And.intro h42 h44)))))))))
                · rw [if_pos h41] at hM
                  refine spQA h41 ?_
                  have nh41 := nzQ h41
                  refine guardC_t (fun h45 => ?_) (fun h45 => ?_)
                  · rw [if_pos h45] at hM
                    refine spQA h45 ?_
                    have nh45 := nzQ h45
                    subst hM
                    exact retC_view (lfQA (And.intro h4 (And.intro h15 (And.intro h16 (And.intro h29 (And.intro h30 (And.intro h31 (And.intro h41 h45))))))))
                  · rw [if_neg (ne_true h45)] at hM
                    refine spQA h45 ?_
                    have nh45 := nzQ h45
                    subst hM
                    exact retC_view (lfQA (And.intro h4 (And.intro h15 (And.intro h16 (And.intro h29 (And.intro h30 (And.intro h31 (And.intro h41 h45))))))))
            · rw [if_pos h30] at hM
              refine spQA h30 ?_
              have nh30 := nzQ h30
              subst hM
              exact retC_view (lfQA (And.intro h4 (And.intro h15 (And.intro h16 (And.intro h29 h30)))))
          · rw [if_neg (ne_true h29)] at hM
            refine spQA h29 ?_
            have nh29 := nzQ h29
            refine guardC_f (fun h46 => ?_) (fun h46 => ?_)
            · rw [if_neg (ne_true h46)] at hM
              refine spQA h46 ?_
              have nh46 := nzQ h46
              refine condC_intro (fun h47 => ?_) (fun h47 => ?_)
              · rw [if_pos h47] at hM
                refine spQA h47 ?_
                have nh47 := nzQ h47
                subst hM
                exact retC_view (lfQA (And.intro h4 (And.intro h15 (And.intro h16 (And.intro h29 (And.intro h46 h47))))))
              · rw [if_neg (ne_true h47)] at hM
                refine spQA h47 ?_
                have nh47 := nzQ h47
                have hM0 := hM; clear hM; obtain ⟨x48, hx49, hM⟩ := letk_opn hM0; clear hM0
                have hcx48 := policy_Limit_ok  p_ hour open_ 
                rw [← hx49] at hcx48
                refine callC_give hcx48 clQ clQ (fun hw50 => ?_)
                replace hw50 := nzQ hw50
                refine spQ ?_
                have hM0 := hM; clear hM; obtain ⟨x51, hx52, hM⟩ := letk_opn hM0; clear hM0
                have hcx51 := policy_Limit_ok  q hour open_ 
                rw [← hx52] at hcx51
                refine callC_give hcx51 clQ clQ (fun hw53 => ?_)
                replace hw53 := nzQ hw53
                refine spQ ?_
                have hM0 := hM; clear hM; obtain ⟨x54, hx55, hM⟩ := letk_opn hM0; clear hM0
                have hcx54 := policy_Limit_ok  (x9.1) hour open_ 
                rw [← hx55] at hcx54
                refine callC_give hcx54 clQ clQ (fun hw56 => ?_)
                replace hw56 := nzQ hw56
                refine spQ ?_
                refine guardC_f (fun h57 => ?_) (fun h57 => ?_)
                · rw [if_neg (ne_true h57)] at hM
                  refine spQA h57 ?_
                  have nh57 := nzQ h57
                  refine condC_intro (fun h58 => ?_) (fun h58 => ?_)
                  · rw [if_pos h58] at hM
                    refine spQA h58 ?_
                    have nh58 := nzQ h58
                    refine guardC_t (fun h59 => ?_) (fun h59 => ?_)
                    · rw [if_pos h59] at hM
                      refine spQA h59 ?_
                      have nh59 := nzQ h59
                      subst hM
                      exact retC_view (lfQA (And.intro h4 (And.intro h15 (And.intro h16 (And.intro h29 (And.intro h46 (And.intro h47 (And.intro h57 (And.intro h58 h59)))))))))
                    · rw [if_neg (ne_true h59)] at hM
                      refine spQA h59 ?_
                      have nh59 := nzQ h59
                      subst hM
                      exact retC_view (lfQA (And.intro h4 (And.intro h15 (And.intro h16 (And.intro h29 (And.intro h46 (And.intro h47 (And.intro h57 (And.intro h58 h59)))))))))
                  · rw [if_neg (ne_true h58)] at hM
                    refine spQA h58 ?_
                    have nh58 := nzQ h58
                    refine guardC_t (fun h60 => ?_) (fun h60 => ?_)
                    · rw [if_pos h60] at hM
                      refine spQA h60 ?_
                      have nh60 := nzQ h60
                      subst hM
                      exact retC_view (lfQA (And.intro h4 (And.intro h15 (And.intro h16 (And.intro h29 (And.intro h46 (And.intro h47 (And.intro h57 (And.intro h58 h60)))))))))
                    · rw [if_neg (ne_true h60)] at hM
                      refine spQA h60 ?_
                      have nh60 := nzQ h60
                      subst hM
                      exact retC_view (lfQA (And.intro h4 (And.intro h15 (And.intro h16 (And.intro h29 (And.intro h46 (And.intro h47 (And.intro h57 (And.intro h58 h60)))))))))
                · rw [if_pos h57] at hM
                  refine spQA h57 ?_
                  have nh57 := nzQ h57
                  refine guardC_t (fun h61 => ?_) (fun h61 => ?_)
                  · rw [if_pos h61] at hM
                    refine spQA h61 ?_
                    have nh61 := nzQ h61
                    subst hM
                    exact retC_view (lfQA (And.intro h4 (And.intro h15 (And.intro h16 (And.intro h29 (And.intro h46 (And.intro h47 (And.intro h57 h61))))))))
                  · rw [if_neg (ne_true h61)] at hM
                    refine spQA h61 ?_
                    have nh61 := nzQ h61
                    subst hM
                    exact retC_view (lfQA (And.intro h4 (And.intro h15 (And.intro h16 (And.intro h29 (And.intro h46 (And.intro h47 (And.intro h57 h61))))))))
            · rw [if_pos h46] at hM
              refine spQA h46 ?_
              have nh46 := nzQ h46
              subst hM
              exact retC_view (lfQA (And.intro h4 (And.intro h15 (And.intro h16 (And.intro h29 h46)))))
      · rw [if_pos h15] at hM
        refine spQA h15 ?_
        have nh15 := nzQ h15
        subst hM
        exact retC_view (lfQA (And.intro h4 h15))
set_option maxHeartbeats 2000000 in
set_option maxRecDepth 100000 in
theorem specieref46_Merge_ok  (p_ : S_api_Policy) (q : S_api_Policy) (hp0 : p_.Rules.length ≤ 1000) (hp1 : q.Rules.length ≤ 1000) : CallOk En 28 [.agg [.sl none 3 true (p_.Rules.map e_api_Rule)], .agg [.sl none 3 true (q.Rules.map e_api_Rule)]] (.agg [.sl none 3 true ((specieref46_Merge p_ q).Rules.map e_api_Rule)]) [] := by
  generalize hM : specieref46_Merge p_ q = r
  rw [specieref46_Merge.eq_1] at hM
  refine enterV En_ok En_mo noJ Tryd.func28 rfl Tryd.ntmps28 (by kernel_rfl) fun hw => ct_start ?_
  refine spQ ?_
  replace hw := nzQ hw
  refine bindC_intro omQ ?_
  refine spQ ?_
  have hM0 := hM; clear hM; obtain ⟨f1, d1, hf1, hd1, hM⟩ := iter_opn hM0; clear hM0
  refine ct_loop (fun n S => ∃ p : Int × List S_api_Rule, S = (⟨[(3, .ptr 1 0), (4, .ptr 2 0), (5, .own 3), (6, .int .i64 p.1)], [(1, .var 1 true (.agg [.sl none 3 true (q.Rules.map e_api_Rule)])), (2, .var 1 true (.agg [.sl (some true) 3 true []])), (3, .own 53 3 true none (p.2.map e_api_Rule))], 4⟩ : St) ∧ ((0 ≤ p.1) ∧ (p.1 ≤ (q.Rules.length : Int)) ∧ (((p.2).length : Int) ≤ p.1 + ((([] : List S_api_Rule) ++ p_.Rules)).length)) ∧ ((q.Rules.length : Int) - p.1).toNat < n ∧ iter n f1 d1 p = r) (((q.Rules.length : Int) - 0).toNat + 1) (⟨[(3, .ptr 1 0), (4, .ptr 2 0), (5, .own 3), (6, .int .i64 0)], [(1, .var 1 true (.agg [.sl none 3 true (q.Rules.map e_api_Rule)])), (2, .var 1 true (.agg [.sl (some true) 3 true []])), (3, .own 53 3 true none ((([] : List S_api_Rule) ++ p_.Rules).map e_api_Rule))], 4⟩ : St) sbQ sbQ ⟨(0, (([] : List S_api_Rule) ++ p_.Rules)), rfl, ⟨omQ, omQ, omQ⟩, (Nat.lt_succ_self _), hM⟩ ?_
  clear hM
  rintro n1 S ⟨p1, rfl, hfa1, hm1, hM⟩
  have hM0 := hM; clear hM; obtain ⟨ag1, hag1, hM⟩ := iter_step hM0 (by omega) hf1; clear hM0
  replace hfa1 := nzQ hfa1
  replace hm1 := nzQ hm1
  have ha1 : addI .i64 p1.1 1 = p1.1 + 1 := add_one omQ omQ
  refine spQA ha1 ?_
  refine condC_intro (fun h2 => ?_) (fun h2 => ?_)
  · rw [if_pos h2] at hM
    refine spQA (And.intro ha1 h2) ?_
    have nh2 := nzQ h2
    have hM0 := hM; clear hM; obtain ⟨f3, d3, hf3, hd3, hM⟩ := iter_opn hM0; clear hM0
    refine ct_loop (fun n S => ∃ p : Bool × Int, S = (⟨[(3, .ptr 1 0), (4, .ptr 2 0), (5, .own 3), (6, .int .i64 p1.1), (7, .bool p.1), (8, .int .i64 p.2)], [(1, .var 1 true (.agg [.sl none 3 true (q.Rules.map e_api_Rule)])), (2, .var 1 true (.agg [.sl (some true) 3 true []])), (3, .own 53 3 true none (p1.2.map e_api_Rule))], 4⟩ : St) ∧ ((0 ≤ p.2) ∧ (p.2 ≤ (p1.2.length : Int))) ∧ ((p1.2.length : Int) - p.2).toNat < n ∧ iter n f3 d3 p = r) (((p1.2.length : Int) - 0).toNat + 1) (⟨[(3, .ptr 1 0), (4, .ptr 2 0), (5, .own 3), (6, .int .i64 p1.1), (7, .bool false), (8, .int .i64 0)], [(1, .var 1 true (.agg [.sl none 3 true (q.Rules.map e_api_Rule)])), (2, .var 1 true (.agg [.sl (some true) 3 true []])), (3, .own 53 3 true none (p1.2.map e_api_Rule))], 4⟩ : St) sbQ sbQ ⟨(false, 0), rfl, ⟨omQ, omQ⟩, (Nat.lt_succ_self _), hM⟩ ?_
    clear hM
    rintro n3 S ⟨p3, rfl, hfa3, hm3, hM⟩
    have hM0 := hM; clear hM; obtain ⟨ag3, hag3, hM⟩ := iter_step hM0 (by omega) hf3; clear hM0
    replace hfa3 := nzQ hfa3
    replace hm3 := nzQ hm3
    have ha3 : addI .i64 p3.2 1 = p3.2 + 1 := add_one omQ omQ
    refine spQA (And.intro ha1 ha3) ?_
    refine condC_intro (fun h4 => ?_) (fun h4 => ?_)
    · rw [if_pos h4] at hM
      refine spQA (And.intro ha1 (And.intro ha3 h4)) ?_
      have nh4 := nzQ h4
      refine ct_draw 51 11 [26, 27, 28, 29, 30, 31, 32, 33, 34, 35, 36] [] ([[], [0], [0, 1], [0, 1], [0, 1, 2, 3], [0, 1, 2, 3, 4], [0, 1], [0, 1, 6], [0, 1], [0, 1, 6, 7, 8], [0, 1, 6, 7, 8, 9]] ++ [List.range 11, List.range 12, List.range 13]) [] (by kernel_rfl) (by exact alQ) ?_
      refine spQA (And.intro ha1 ha3) ?_
      refine hguardC_f (fun h5 => ?_) (fun h5 => ?_)
      · rw [if_neg (ne_true h5)] at hM
        refine spQA (And.intro ha1 (And.intro ha3 h5)) ?_
        have nh5 := nzQ h5
        refine hbindC_intro omQ ?_
        have he6 := fun d => elt_mp (l := p1.2) (f := e_api_Rule) (i := p3.2) omQ d
        refine spQA (And.intro ha1 (And.intro ha3 he6)) ?_
        refine hbindC_intro omQ ?_
        refine spQA (And.intro ha1 (And.intro ha3 he6)) ?_
        refine hbindC_intro omQ ?_
        have he7 := fun d => elt_mp (l := q.Rules) (f := e_api_Rule) (i := p1.1) omQ d
        refine spQA (And.intro ha1 (And.intro ha3 (And.intro he6 he7))) ?_
        refine lp_intro (n3 - 1) (⟨[(3, .ptr 1 0), (4, .ptr 2 0), (5, .own 3), (6, .int .i64 p1.1), (7, .bool (q_api_Rule (gt p1.2 p3.2) (gt q.Rules p1.1))), (8, .int .i64 (p3.2 + 1))], [(1, .var 1 true (.agg [.sl none 3 true (q.Rules.map e_api_Rule)])), (2, .var 1 true (.agg [.sl (some true) 3 true []])), (3, .own 53 3 true none (p1.2.map e_api_Rule))], 4⟩ : St) (by omega) sbQ sbQ ⟨((q_api_Rule (gt p1.2 p3.2) (gt q.Rules p1.1)), (p3.2 + 1)), rfl, ⟨omQ, omQ⟩, omQ, iter_again hM hag3⟩
      · rw [if_pos h5] at hM
        refine spQA (And.intro ha1 (And.intro ha3 h5)) ?_
        have nh5 := nzQ h5
        refine lp_intro (n3 - 1) (⟨[(3, .ptr 1 0), (4, .ptr 2 0), (5, .own 3), (6, .int .i64 p1.1), (7, .bool true), (8, .int .i64 (p3.2 + 1))], [(1, .var 1 true (.agg [.sl none 3 true (q.Rules.map e_api_Rule)])), (2, .var 1 true (.agg [.sl (some true) 3 true []])), (3, .own 53 3 true none (p1.2.map e_api_Rule))], 4⟩ : St) (by omega) sbQ sbQ ⟨(true, (p3.2 + 1)), rfl, ⟨omQ, omQ⟩, omQ, iter_again hM hag3⟩
    · rw [if_neg (ne_true h4)] at hM
      refine spQA (And.intro ha1 (And.intro ha3 h4)) ?_
      have nh4 := nzQ h4
      refine condC_intro (fun h8 => ?_) (fun h8 => ?_)
      · rw [if_pos h8] at hM
        refine spQA (And.intro ha1 (And.intro ha3 h8)) ?_
        have nh8 := nzQ h8
        refine bindC_intro omQ ?_
        have he9 := fun d => elt_mp (l := q.Rules) (f := e_api_Rule) (i := p1.1) omQ d
        refine spQA (And.intro ha1 (And.intro ha3 he9)) ?_
        refine bindC_intro omQ ?_
        refine spQA (And.intro ha1 (And.intro ha3 he9)) ?_
        refine lp_intro (n1 - 1) (⟨[(3, .ptr 1 0), (4, .ptr 2 0), (5, .own 3), (6, .int .i64 (p1.1 + 1))], [(1, .var 1 true (.agg [.sl none 3 true (q.Rules.map e_api_Rule)])), (2, .var 1 true (.agg [.sl (some true) 3 true []])), (3, .own 53 3 true none ((p1.2 ++ ([(gt q.Rules p1.1)] : List S_api_Rule)).map e_api_Rule))], 4⟩ : St) (by omega) sbQ sbQ ⟨((p1.1 + 1), (p1.2 ++ ([(gt q.Rules p1.1)] : List S_api_Rule))), rfl, ⟨omQ, omQ, omQ⟩, omQ, iter_again hM hag1⟩
      · rw [if_neg (ne_true h8)] at hM
        refine spQA (And.intro ha1 (And.intro ha3 h8)) ?_
        have nh8 := nzQ h8
        refine lp_intro (n1 - 1) (⟨[(3, .ptr 1 0), (4, .ptr 2 0), (5, .own 3), (6, .int .i64 (p1.1 + 1))], [(1, .var 1 true (.agg [.sl none 3 true (q.Rules.map e_api_Rule)])), (2, .var 1 true (.agg [.sl (some true) 3 true []])), (3, .own 53 3 true none (p1.2.map e_api_Rule))], 4⟩ : St) (by omega) sbQ sbQ ⟨((p1.1 + 1), p1.2), rfl, ⟨omQ, omQ, omQ⟩, omQ, iter_again hM hag1⟩
  · rw [if_neg (ne_true h2)] at hM
    refine spQA (And.intro ha1 h2) ?_
    have nh2 := nzQ h2
    subst hM
    exact retC_view (lfQA (And.intro ha1 h2))
set_option maxHeartbeats 2000000 in
set_option maxRecDepth 100000 in
theorem slices_Equal_api_Rule_api_Rule_ok (z0 : Option Bool) (z1 : Option Bool) (s1 : (List S_api_Rule)) (s2 : (List S_api_Rule))  : CallOk En 57 [.sl z0 3 true (s1.map e_api_Rule), .sl z1 3 true (s2.map e_api_Rule)] (.bool (slices_Equal_api_Rule_api_Rule s1 s2)) [] := by
  generalize hM : slices_Equal_api_Rule_api_Rule s1 s2 = r
  rw [slices_Equal_api_Rule_api_Rule.eq_1] at hM
  refine enterV En_ok En_mo noJ Tryd.func57 rfl Tryd.ntmps57 (by kernel_rfl) fun hw => ct_start ?_
  refine spQ ?_
  replace hw := nzQ hw
  refine condC_intro (fun h1 => ?_) (fun h1 => ?_)
  · rw [if_pos h1] at hM
    refine spQA h1 ?_
    have nh1 := nzQ h1
    subst hM
    exact retC_view (lfQA h1)
  · rw [if_neg (ne_true h1)] at hM
    refine spQA h1 ?_
    have nh1 := nzQ h1
    have hM0 := hM; clear hM; obtain ⟨f2, d2, hf2, hd2, hM⟩ := iter_opn hM0; clear hM0
    refine ct_loop (fun n S => ∃ p : Int, S = (⟨[(0, .sl z0 3 true (s1.map e_api_Rule)), (1, .sl z1 3 true (s2.map e_api_Rule)), (12, .int .i64 (s1.length : Int)), (13, .int .i64 p)], [], 0⟩ : St) ∧ ((0 ≤ p) ∧ (p ≤ (s1.length : Int))) ∧ ((s1.length : Int) - p).toNat < n ∧ iter n f2 d2 p = r) (((s1.length : Int) - 0).toNat + 1) (⟨[(0, .sl z0 3 true (s1.map e_api_Rule)), (1, .sl z1 3 true (s2.map e_api_Rule)), (12, .int .i64 (s1.length : Int)), (13, .int .i64 0)], [], 0⟩ : St) sbQ sbQ ⟨0, rfl, ⟨omQ, omQ⟩, (Nat.lt_succ_self _), hM⟩ ?_
    clear hM
    rintro n2 S ⟨p2, rfl, hfa2, hm2, hM⟩
    have hM0 := hM; clear hM; obtain ⟨ag2, hag2, hM⟩ := iter_step hM0 (by omega) hf2; clear hM0
    replace hfa2 := nzQ hfa2
    replace hm2 := nzQ hm2
    have ha2 : addI .i64 p2 1 = p2 + 1 := add_one omQ omQ
    refine spQA ha2 ?_
    refine condC_intro (fun h3 => ?_) (fun h3 => ?_)
    · rw [if_pos h3] at hM
      refine spQA (And.intro ha2 h3) ?_
      have nh3 := nzQ h3
      refine ct_draw 26 8 [16, 17, 18, 19, 20, 21, 22, 23] [] ([[], [], [0, 1], [0, 1, 2], [], [], [4, 5], [4, 5, 6]] ++ [List.range 8]) [] (by kernel_rfl) (by exact alQ) ?_
      refine spQA ha2 ?_
      refine hbindC_intro omQ ?_
      have he4 := fun d => elt_mp (l := s1) (f := e_api_Rule) (i := p2) omQ d
      refine spQA (And.intro ha2 he4) ?_
      refine hbindC_intro omQ ?_
      have he5 := fun d => elt_mp (l := s2) (f := e_api_Rule) (i := p2) omQ d
      refine spQA (And.intro ha2 (And.intro he4 he5)) ?_
      refine condC_intro (fun h6 => ?_) (fun h6 => ?_)
      · have kh6 : (!(q_api_Rule (gt s1 p2) (gt s2 p2))) = true := h6
        rw [if_pos kh6] at hM
        refine spQA (And.intro ha2 (And.intro he4 (And.intro he5 h6))) ?_
        have nh6 := nzQ kh6
        subst hM
        exact retC_view (lfQA (And.intro ha2 (And.intro he4 (And.intro he5 (And.intro h1 (And.intro h3 h6))))))
      · have kh6 : (!(q_api_Rule (gt s1 p2) (gt s2 p2))) = false := h6
        rw [if_neg (ne_true kh6)] at hM
        refine spQA (And.intro ha2 (And.intro he4 (And.intro he5 h6))) ?_
        have nh6 := nzQ kh6
        refine lp_intro (n2 - 1) (⟨[(0, .sl z0 3 true (s1.map e_api_Rule)), (1, .sl z1 3 true (s2.map e_api_Rule)), (12, .int .i64 (s1.length : Int)), (13, .int .i64 (p2 + 1))], [], 0⟩ : St) (by omega) sbQ sbQ ⟨(p2 + 1), rfl, ⟨omQ, omQ⟩, omQ, iter_again hM hag2⟩
    · rw [if_neg (ne_true h3)] at hM
      refine spQA (And.intro ha2 h3) ?_
      have nh3 := nzQ h3
      subst hM
      exact retC_view (lfQA (And.intro ha2 (And.intro h1 h3)))
set_option maxHeartbeats 2000000 in
set_option maxRecDepth 100000 in
theorem specielaw46_same_ok  (p_ : S_api_Policy) (q : S_api_Policy)  : CallOk En 29 [.agg [.sl none 3 true (p_.Rules.map e_api_Rule)], .agg [.sl none 3 true (q.Rules.map e_api_Rule)]] (.bool (specielaw46_same p_ q)) [] := by
  generalize hM : specielaw46_same p_ q = r
  rw [specielaw46_same.eq_1] at hM
  refine enterV En_ok En_mo noJ Tryd.func29 rfl Tryd.ntmps29 (by kernel_rfl) fun hw => ct_start ?_
  refine spQ ?_
  replace hw := nzQ hw
  have hM0 := hM; clear hM; obtain ⟨x1, hx2, hM⟩ := letk_opn hM0; clear hM0
  have hcx1 := slices_Equal_api_Rule_api_Rule_ok none none (p_.Rules) (q.Rules) 
  rw [← hx2] at hcx1
  refine callC_give hcx1 clQ clQ (fun hw3 => ?_)
  replace hw3 := nzQ hw3
  refine spQ ?_
  subst hM
  exact retC_view lfQ
set_option maxHeartbeats 2000000 in
set_option maxRecDepth 100000 in
theorem specielaw46_PolicyMerges_ok  (p_ : S_api_Policy) (q : S_api_Policy)  : CallOk En 9 [.agg [.sl none 3 true (p_.Rules.map e_api_Rule)], .agg [.sl none 3 true (q.Rules.map e_api_Rule)]] (.bool (specielaw46_PolicyMerges p_ q)) [] := by
  generalize hM : specielaw46_PolicyMerges p_ q = r
  rw [specielaw46_PolicyMerges.eq_1] at hM
  refine enterV En_ok En_mo noJ Tryd.func9 rfl Tryd.ntmps9 (by kernel_rfl) fun hw => ct_start ?_
  refine spQ ?_
  replace hw := nzQ hw
  have hM0 := hM; clear hM; obtain ⟨x1, hx2, hM⟩ := letk_opn hM0; clear hM0
  have hcx1 := specielaw46_awake_ok   
  rw [← hx2] at hcx1
  refine callC_give hcx1 clQ clQ (fun hw3 => ?_)
  replace hw3 := nzQ hw3
  refine spQ ?_
  refine condC_intro (fun h4 => ?_) (fun h4 => ?_)
  · rw [if_pos h4] at hM
    refine spQA h4 ?_
    have nh4 := nzQ h4
    subst hM
    exact retC_view (lfQA h4)
  · rw [if_neg (ne_true h4)] at hM
    refine spQA h4 ?_
    have nh4 := nzQ h4
    have hM0 := hM; clear hM; obtain ⟨x5, hx6, hM⟩ := letk_opn hM0; clear hM0
    have hcx5 := specielaw46_great_ok (some false) ([p_, q] : List S_api_Policy) 
    rw [← hx6] at hcx5
    refine callC_look hcx5 clQ clQ (fun hw7 => ?_)
    replace hw7 := nzQ hw7
    refine spQ ?_
    refine condC_intro (fun h8 => ?_) (fun h8 => ?_)
    · subst h8
      rw [if_pos rfl] at hM
      refine spQ ?_
      subst hM
      exact retC_view (lfQA h4)
    · subst h8
      rw [if_neg (by decide)] at hM
      refine spQ ?_
      have hM0 := hM; clear hM; obtain ⟨x9, hx10, hM⟩ := letk_opn hM0; clear hM0
      have hcx9 := policy_Merge_ok  p_ q 
      rw [← hx10] at hcx9
      refine callC_give hcx9 clQ clQ (fun hw11 => ?_)
      replace hw11 := nzQ hw11
      refine spQ ?_
      have hM0 := hM; clear hM; obtain ⟨x12, hx13, hM⟩ := letk_opn hM0; clear hM0
      have hcx12 := specieref46_Valid_ok  p_ 
      rw [← hx13] at hcx12
      refine callC_give hcx12 clQ clQ (fun hw14 => ?_)
      replace hw14 := nzQ hw14
      refine spQ ?_
      refine guardC_f (fun h15 => ?_) (fun h15 => ?_)
      · rw [if_neg (ne_true h15)] at hM
        refine spQA h15 ?_
        have nh15 := nzQ h15
        have hM0 := hM; clear hM; obtain ⟨x16, hx17, hM⟩ := letk_opn hM0; clear hM0
        have hcx16 := specieref46_Valid_ok  q 
        rw [← hx17] at hcx16
        refine callC_give hcx16 clQ clQ (fun hw18 => ?_)
        replace hw18 := nzQ hw18
        refine spQ ?_
        refine condC_intro (fun h19 => ?_) (fun h19 => ?_)
        · rw [if_pos h19] at hM
          refine spQA h19 ?_
          have nh19 := nzQ h19
          refine guardC_t (fun h20 => ?_) (fun h20 => ?_)
          · rw [if_pos h20] at hM
            refine spQA h20 ?_
            have nh20 := nzQ h20
            subst hM
            exact retC_view (lfQA (And.intro h4 (And.intro h15 (And.intro h19 h20))))
          · rw [if_neg (ne_true h20)] at hM
            refine spQA h20 ?_
            have nh20 := nzQ h20
            subst hM
            exact retC_view (lfQA (And.intro h4 (And.intro h15 (And.intro h19 h20))))
        · rw [if_neg (ne_true h19)] at hM
          refine spQA h19 ?_
          have nh19 := nzQ h19
          have hM0 := hM; clear hM; obtain ⟨x21, hx22, hM⟩ := letk_opn hM0; clear hM0
          have hcx21 := specieref46_Merge_ok  p_ q (by (first | (have hv := refValid_len (hx13.symm.trans nh15); omega) | (have hv := refValid_len (hx17.symm.trans nh19); omega))) (by (first | (have hv := refValid_len (hx13.symm.trans nh15); omega) | (have hv := refValid_len (hx17.symm.trans nh19); omega)))
          rw [← hx22] at hcx21
          refine callC_give hcx21 clQ clQ (fun hw23 => ?_)
          replace hw23 := nzQ hw23
          refine spQ ?_
          refine condC_intro (fun h24 => ?_) (fun h24 => ?_)
          · rw [if_pos h24] at hM
            refine spQA h24 ?_
            have nh24 := nzQ h24
            refine guardC_t (fun h25 => ?_) (fun h25 => ?_)
            · rw [if_pos h25] at hM
              refine spQA h25 ?_
              have nh25 := nzQ h25
              subst hM
              exact retC_view (lfQA (And.intro h4 (And.intro h15 (And.intro h19 (And.intro h24 h25)))))
            · rw [if_neg (ne_true h25)] at hM
              refine spQA h25 ?_
              have nh25 := nzQ h25
              subst hM
              exact retC_view (lfQA (And.intro h4 (And.intro h15 (And.intro h19 (And.intro h24 h25)))))
          · rw [if_neg (ne_true h24)] at hM
            refine spQA h24 ?_
            have nh24 := nzQ h24
            refine guardC_t (fun h26 => ?_) (fun h26 => ?_)
            · rw [if_pos h26] at hM
              refine spQA h26 ?_
              have nh26 := nzQ h26
              have hM0 := hM; clear hM; obtain ⟨x27, hx28, hM⟩ := letk_opn hM0; clear hM0
              have hcx27 := specielaw46_same_ok  (x9.1) x21 
              rw [← hx28] at hcx27
              refine callC_give hcx27 clQ clQ (fun hw29 => ?_)
              replace hw29 := nzQ hw29
              refine spQ ?_
              subst hM
              exact retC_view (lfQA (And.intro h4 (And.intro h15 (And.intro h19 (And.intro h24 h26)))))
            · rw [if_neg (ne_true h26)] at hM
              refine spQA h26 ?_
              have nh26 := nzQ h26
              subst hM
              exact retC_view (lfQA (And.intro h4 (And.intro h15 (And.intro h19 (And.intro h24 h26)))))
      · rw [if_pos h15] at hM
        refine spQA h15 ?_
        have nh15 := nzQ h15
        refine guardC_t (fun h30 => ?_) (fun h30 => ?_)
        · rw [if_pos h30] at hM
          refine spQA h30 ?_
          have nh30 := nzQ h30
          subst hM
          exact retC_view (lfQA (And.intro h4 (And.intro h15 h30)))
        · rw [if_neg (ne_true h30)] at hM
          refine spQA h30 ?_
          have nh30 := nzQ h30
          subst hM
          exact retC_view (lfQA (And.intro h4 (And.intro h15 h30)))
end Go.Proofs.YtbjbogfjiifcpaaDoor
