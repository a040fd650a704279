/- Each function computes its model (printed by program). -/
import Derived.Test.YtdidhdgdklkgeaaM
import Derived.Test.YtdidhdgdklkgeaaH2
namespace Go.Proofs.Ytdidhdgdklkgeaa
open Go.RowKit
set_option linter.unusedSimpArgs false
set_option maxHeartbeats 2000000 in
set_option maxRecDepth 100000 in
theorem policy_within_ok   (x_ : Int) (low : Int) (high : Int)  : CallOk En 42 [.int .i64 x_, .int .i64 low, .int .i64 high] (.bool (policy_within x_ low high)) [] := by
  generalize hM : policy_within x_ low high = r
  rw [policy_within.eq_1] at hM
  refine enterV En_ok En_mo noJ Try.func42 rfl Try.ntmps42 (by kernel_rfl) fun hw => ct_start ?_
  refine spQ ?_
  replace hw := nzQ hw
  refine guardC_t (fun h1 => ?_) (fun h1 => ?_)
  · rw [if_pos h1] at hM
    refine spQA h1 ?_
    have nh1 := nzQ h1
    subst hM
    exact retC_view (lfQA h1)
  · rw [if_neg (ne_true h1)] at hM
    refine spQA h1 ?_
    have nh1 := nzQ h1
    subst hM
    exact retC_view (lfQA h1)
set_option maxHeartbeats 2000000 in
set_option maxRecDepth 100000 in
theorem policy_valid_ok   (r_ : S_api_Rule)  : CallOk En 41 [.agg [.int .i64 r_.Kind, .int .i64 r_.A, .int .i64 r_.B]] (.bool (policy_valid r_)) [] := by
  generalize hM : policy_valid r_ = r
  rw [policy_valid.eq_1] at hM
  refine enterV En_ok En_mo [4] Try.func41 rfl Try.ntmps41 (by kernel_rfl) fun hw => ct_start ?_
  refine spQ ?_
  replace hw := nzQ hw
  have hM0 := hM; clear hM; obtain ⟨j1, hj1, hM⟩ := letj_opn hM0; clear hM0
  refine seqC_intro (fun S => ∃ p : Bool, S = (⟨[(1, .ptr 0 0), (4, .int .i64 r_.Kind), (5, .bool p)], [(0, .var 3 true (.agg [.int .i64 r_.Kind, .int .i64 r_.A, .int .i64 r_.B]))], 1⟩ : St) ∧ (True) ∧ j1 p = r) ?_ (fun hcut1 => ?_)
  · clear hM
    rintro S ⟨p1, rfl, hfa1, hM⟩
    have hM0 := hM; clear hM; have hM := letj_use hM0 hj1; clear hM0
    refine spQ ?_
    refine condC_intro (fun h2 => ?_) (fun h2 => ?_)
    · subst h2
      rw [if_pos rfl] at hM
      refine spQ ?_
      have hM0 := hM; clear hM; obtain ⟨x3, hx4, hM⟩ := letk_opn hM0; clear hM0
      have hcx3 := policy_within_ok  (r_.A) 0 1099511627776 
      rw [← hx4] at hcx3
      refine callC_give hcx3 clQ clQ (fun hw5 => ?_)
      replace hw5 := nzQ hw5
      refine spQ ?_
      refine guardC_t (fun h6 => ?_) (fun h6 => ?_)
      · subst h6
        rw [if_pos rfl] at hM
        refine spQ ?_
        subst hM
        exact retC_view lfQ
      · subst h6
        rw [if_neg (by decide)] at hM
        refine spQ ?_
        subst hM
        exact retC_view lfQ
    · subst h2
      rw [if_neg (by decide)] at hM
      refine spQ ?_
      refine condC_intro (fun h7 => ?_) (fun h7 => ?_)
      · rw [if_pos h7] at hM
        refine spQA h7 ?_
        have nh7 := nzQ h7
        have hM0 := hM; clear hM; obtain ⟨x8, hx9, hM⟩ := letk_opn hM0; clear hM0
        have hcx8 := policy_within_ok  (r_.A) 0 1000 
        rw [← hx9] at hcx8
        refine callC_give hcx8 clQ clQ (fun hw10 => ?_)
        replace hw10 := nzQ hw10
        refine spQ ?_
        refine guardC_t (fun h11 => ?_) (fun h11 => ?_)
        · subst h11
          rw [if_pos rfl] at hM
          refine spQ ?_
          subst hM
          exact retC_view (lfQA h7)
        · subst h11
          rw [if_neg (by decide)] at hM
          refine spQ ?_
          subst hM
          exact retC_view (lfQA h7)
      · rw [if_neg (ne_true h7)] at hM
        refine spQA h7 ?_
        have nh7 := nzQ h7
        refine condC_intro (fun h12 => ?_) (fun h12 => ?_)
        · rw [if_pos h12] at hM
          refine spQA h12 ?_
          have nh12 := nzQ h12
          have hM0 := hM; clear hM; obtain ⟨x13, hx14, hM⟩ := letk_opn hM0; clear hM0
          have hcx13 := policy_within_ok  (r_.A) 0 8 
          rw [← hx14] at hcx13
          refine callC_give hcx13 clQ clQ (fun hw15 => ?_)
          replace hw15 := nzQ hw15
          refine spQ ?_
          refine guardC_t (fun h16 => ?_) (fun h16 => ?_)
          · subst h16
            rw [if_pos rfl] at hM
            refine spQ ?_
            subst hM
            exact retC_view (lfQA (And.intro h7 h12))
          · subst h16
            rw [if_neg (by decide)] at hM
            refine spQ ?_
            subst hM
            exact retC_view (lfQA (And.intro h7 h12))
        · rw [if_neg (ne_true h12)] at hM
          refine spQA h12 ?_
          have nh12 := nzQ h12
          refine condC_intro (fun h17 => ?_) (fun h17 => ?_)
          · rw [if_pos h17] at hM
            refine spQA h17 ?_
            have nh17 := nzQ h17
            have hM0 := hM; clear hM; obtain ⟨x18, hx19, hM⟩ := letk_opn hM0; clear hM0
            have hcx18 := policy_within_ok  (r_.A) 0 23 
            rw [← hx19] at hcx18
            refine callC_give hcx18 clQ clQ (fun hw20 => ?_)
            replace hw20 := nzQ hw20
            refine spQ ?_
            refine guardC_t (fun h21 => ?_) (fun h21 => ?_)
            · subst h21
              rw [if_pos rfl] at hM
              refine spQ ?_
              have hM0 := hM; clear hM; obtain ⟨x22, hx23, hM⟩ := letk_opn hM0; clear hM0
              have hcx22 := policy_within_ok  (r_.B) 0 23 
              rw [← hx23] at hcx22
              refine callC_give hcx22 clQ clQ (fun hw24 => ?_)
              replace hw24 := nzQ hw24
              refine spQ ?_
              refine guardC_t (fun h25 => ?_) (fun h25 => ?_)
              · subst h25
                rw [if_pos rfl] at hM
                refine spQ ?_
                subst hM
                exact retC_view (lfQA (And.intro h7 (And.intro h12 h17)))
              · subst h25
                rw [if_neg (by decide)] at hM
                refine spQ ?_
                subst hM
                exact retC_view (lfQA (And.intro h7 (And.intro h12 h17)))
            · subst h21
              rw [if_neg (by decide)] at hM
              refine spQ ?_
              subst hM
              exact retC_view (lfQA (And.intro h7 (And.intro h12 h17)))
          · rw [if_neg (ne_true h17)] at hM
            refine spQA h17 ?_
            have nh17 := nzQ h17
            subst hM
            exact retC_view (lfQA (And.intro h7 (And.intro h12 h17)))
  · refine spQ ?_
    refine condC_intro (fun h26 => ?_) (fun h26 => ?_)
    · rw [if_pos h26] at hM
      refine spQA h26 ?_
      have nh26 := nzQ h26
      exact cut_intro (⟨[(1, .ptr 0 0), (4, .int .i64 r_.Kind), (5, .bool true)], [(0, .var 3 true (.agg [.int .i64 r_.Kind, .int .i64 r_.A, .int .i64 r_.B]))], 1⟩ : St) sbQ sbQ (hcut1 _ ⟨true, rfl, trivial, hM⟩)
    · rw [if_neg (ne_true h26)] at hM
      refine spQA h26 ?_
      have nh26 := nzQ h26
      exact cut_intro (⟨[(1, .ptr 0 0), (4, .int .i64 r_.Kind), (5, .bool (r_.Kind == 4))], [(0, .var 3 true (.agg [.int .i64 r_.Kind, .int .i64 r_.A, .int .i64 r_.B]))], 1⟩ : St) sbQ sbQ (hcut1 _ ⟨(r_.Kind == 4), rfl, trivial, hM⟩)
set_option maxHeartbeats 2000000 in
set_option maxRecDepth 100000 in
theorem policy_Valid_1_ok   (r_ : S_api_Rule)  : CallOk En 40 [.agg [.int .i64 r_.Kind, .int .i64 r_.A, .int .i64 r_.B]] (.bool (policy_Valid_1 r_)) [] := by
  generalize hM : policy_Valid_1 r_ = r
  rw [policy_Valid_1.eq_1] at hM
  refine enterV En_ok En_mo noJ Try.func40 rfl Try.ntmps40 (by kernel_rfl) fun hw => ct_start ?_
  refine spQ ?_
  replace hw := nzQ hw
  have hM0 := hM; clear hM; obtain ⟨x1, hx2, hM⟩ := letk_opn hM0; clear hM0
  have hcx1 := policy_valid_ok  r_ 
  rw [← hx2] at hcx1
  refine callC_give hcx1 clQ clQ (fun hw3 => ?_)
  replace hw3 := nzQ hw3
  refine spQ ?_
  subst hM
  exact retC_view lfQ
set_option maxHeartbeats 2000000 in
set_option maxRecDepth 100000 in
theorem slices_IndexFunc_api_Rule_api_Rule_at_policy_Valid_1_ok  (z0 : Option Bool) (s : (List S_api_Rule))  : CallOk En 68 [.sl z0 3 true (s.map e_api_Rule), .fn 40 []] (.int .i64 (slices_IndexFunc_api_Rule_api_Rule_at_policy_Valid_1 s)) [] := by
  generalize hM : slices_IndexFunc_api_Rule_api_Rule_at_policy_Valid_1 s = r
  rw [slices_IndexFunc_api_Rule_api_Rule_at_policy_Valid_1.eq_1] at hM
  refine enterV En_ok En_mo noJ Try.func68 rfl Try.ntmps68 (by kernel_rfl) fun hw => ct_start ?_
  refine spQ ?_
  replace hw := nzQ hw
  have hM0 := hM; clear hM; obtain ⟨f1, d1, hf1, hd1, hM⟩ := iter_opn hM0; clear hM0
  refine ct_loop (fun n S => ∃ p : Int, S = (⟨[(0, .sl z0 3 true (s.map e_api_Rule)), (1, .fn 40 []), (7, .int .i64 (s.length : Int)), (8, .int .i64 p)], [], 0⟩ : St) ∧ ((0 ≤ p) ∧ (p ≤ (s.length : Int))) ∧ ((s.length : Int) - p).toNat < n ∧ iter n f1 d1 p = r) (((s.length : Int) - 0).toNat + 1) (⟨[(0, .sl z0 3 true (s.map e_api_Rule)), (1, .fn 40 []), (7, .int .i64 (s.length : Int)), (8, .int .i64 0)], [], 0⟩ : St) sbQ sbQ ⟨0, rfl, ⟨omQ, omQ⟩, (Nat.lt_succ_self _), hM⟩ ?_
  clear hM
  rintro n1 S ⟨p1, rfl, hfa1, hm1, hM⟩
  have hM0 := hM; clear hM; obtain ⟨ag1, hag1, hM⟩ := iter_step hM0 (by omega) hf1; clear hM0
  replace hfa1 := nzQ hfa1
  replace hm1 := nzQ hm1
  have ha1 : addI .i64 p1 1 = p1 + 1 := add_one omQ omQ
  refine spQA ha1 ?_
  refine condC_intro (fun h2 => ?_) (fun h2 => ?_)
  · rw [if_pos h2] at hM
    refine spQA (And.intro ha1 h2) ?_
    have nh2 := nzQ h2
    refine bindC_intro omQ ?_
    have he3 := fun d => elt_mp (l := s) (f := e_api_Rule) (i := p1) omQ d
    refine spQA (And.intro ha1 he3) ?_
    have hM0 := hM; clear hM; obtain ⟨x4, hx5, hM⟩ := letk_opn hM0; clear hM0
    have hcx4 := policy_Valid_1_ok  (gt s p1) 
    rw [← hx5] at hcx4
    refine callC_give hcx4 (clQA (And.intro ha1 he3)) (clQA (And.intro ha1 he3)) (fun hw6 => ?_)
    replace hw6 := nzQ hw6
    refine spQA (And.intro ha1 he3) ?_
    refine condC_intro (fun h7 => ?_) (fun h7 => ?_)
    · subst h7
      rw [if_pos rfl] at hM
      refine spQA (And.intro ha1 he3) ?_
      subst hM
      exact retC_view (lfQA (And.intro ha1 (And.intro he3 h2)))
    · subst h7
      rw [if_neg (by decide)] at hM
      refine spQA (And.intro ha1 he3) ?_
      refine lp_intro (n1 - 1) (⟨[(0, .sl z0 3 true (s.map e_api_Rule)), (1, .fn 40 []), (7, .int .i64 (s.length : Int)), (8, .int .i64 (p1 + 1))], [], 0⟩ : St) (by omega) sbQ sbQ ⟨(p1 + 1), rfl, ⟨omQ, omQ⟩, omQ, iter_again hM hag1⟩
  · rw [if_neg (ne_true h2)] at hM
    refine spQA (And.intro ha1 h2) ?_
    have nh2 := nzQ h2
    subst hM
    exact retC_view (lfQA (And.intro ha1 h2))
set_option maxHeartbeats 2000000 in
set_option maxRecDepth 100000 in
theorem slices_ContainsFunc_api_Rule_api_Rule_at_policy_Valid_1_ok  (z0 : Option Bool) (s : (List S_api_Rule))  : CallOk En 39 [.sl z0 3 true (s.map e_api_Rule), .fn 40 []] (.bool (slices_ContainsFunc_api_Rule_api_Rule_at_policy_Valid_1 s)) [] := by
  generalize hM : slices_ContainsFunc_api_Rule_api_Rule_at_policy_Valid_1 s = r
  rw [slices_ContainsFunc_api_Rule_api_Rule_at_policy_Valid_1.eq_1] at hM
  refine enterV En_ok En_mo noJ Try.func39 rfl Try.ntmps39 (by kernel_rfl) fun hw => ct_start ?_
  refine spQ ?_
  replace hw := nzQ hw
  have hM0 := hM; clear hM; obtain ⟨x1, hx2, hM⟩ := letk_opn hM0; clear hM0
  have hcx1 := slices_IndexFunc_api_Rule_api_Rule_at_policy_Valid_1_ok z0 s 
  rw [← hx2] at hcx1
  refine callC_give hcx1 clQ clQ (fun hw3 => ?_)
  replace hw3 := nzQ hw3
  refine spQ ?_
  subst hM
  exact retC_view lfQ
set_option maxHeartbeats 2000000 in
set_option maxRecDepth 100000 in
theorem policy_Valid_ok   (p_ : S_api_Policy)  : CallOk En 17 [.agg [.sl none 3 true (p_.Rules.map e_api_Rule)]] (.bool (policy_Valid p_)) [] := by
  generalize hM : policy_Valid p_ = r
  rw [policy_Valid.eq_1] at hM
  refine enterV En_ok En_mo noJ Try.func17 rfl Try.ntmps17 (by kernel_rfl) fun hw => ct_start ?_
  refine spQ ?_
  replace hw := nzQ hw
  refine guardC_t (fun h1 => ?_) (fun h1 => ?_)
  · rw [if_pos h1] at hM
    refine spQA h1 ?_
    have nh1 := nzQ h1
    have hM0 := hM; clear hM; obtain ⟨x2, hx3, hM⟩ := letk_opn hM0; clear hM0
    have hcx2 := slices_ContainsFunc_api_Rule_api_Rule_at_policy_Valid_1_ok none (p_.Rules) 
    rw [← hx3] at hcx2
    refine callC_give hcx2 clQ clQ (fun hw4 => ?_)
    replace hw4 := nzQ hw4
    refine spQ ?_
    subst hM
    exact retC_view (lfQA h1)
  · rw [if_neg (ne_true h1)] at hM
    refine spQA h1 ?_
    have nh1 := nzQ h1
    subst hM
    exact retC_view (lfQA h1)
set_option maxRecDepth 100000 in
theorem slices_Clone_api_Rule_api_Rule_ok (z0 : Option Bool) (s : List S_api_Rule) : CallOk En 38 [.sl z0 3 true (s.map e_api_Rule)] (.own 0) [.own 64 3 true none ((slices_Clone_api_Rule_api_Rule s).map e_api_Rule)] := by
  show CallOk En 38 [.sl z0 3 true (s.map e_api_Rule)] (.own 0) [.own 64 3 true none (s.map e_api_Rule)]
  refine callOk_nil (pre := []) (post := []) (fun hl => ?_) ?_ z0
  · have hl : s = [] := by cases s with | nil => rfl | cons a s => cases hl
    subst hl
    refine enterV En_ok En_mo noJ Try.func38 rfl Try.ntmps38 (by kernel_rfl) fun hw => ct_start ?_
    simp only [go_sem, rowV_eq, rowV_eq0, List.length_replicate, rep_len, Int.toNat_natCast, ↓reduceIte, Nat.reduceEqDiff, Nat.reduceAdd, Nat.reduceMul, Nat.reduceLeDiff, Nat.reduceLT, Int.reduceLE, Int.reduceLT, Int.reduceNeg, Int.reduceToNat, List.nil_append]
    exact retC_nil (by decide)
  · refine enterV En_ok En_mo noJ Try.func38 rfl Try.ntmps38 (by kernel_rfl) fun hw => ct_start ?_
    simp only [go_sem, rowV_eq, rowV_eq0, List.length_replicate, rep_len, Int.toNat_natCast, ↓reduceIte, Nat.reduceEqDiff, Nat.reduceAdd, Nat.reduceMul, Nat.reduceLeDiff, Nat.reduceLT, Int.reduceLE, Int.reduceLT, Int.reduceNeg, Int.reduceToNat, List.nil_append]
    have hn : s.length ≤ 1073741824 := by have h := hw; simp only [wfL, wfV, List.nil_append, LEN_eq, List.length_map] at h; exact h.1.1
    refine bindC_intro (by first | omega | (simp only [List.length_map, List.length_nil, List.nil_append]; omega)) ?_
    refine spQ ?_
    refine retC_ownZ 0 rfl clQ
set_option maxHeartbeats 2000000 in
set_option maxRecDepth 100000 in
theorem merchant_New_ok   (name : (List Int)) (p_ : S_api_Policy)  : CallOk En 16 [.agg (.int .u8 (gt name 0) :: .int .u8 (gt name 1) :: .int .u8 (gt name 2) :: .int .u8 (gt name 3) :: .int .u8 (gt name 4) :: .int .u8 (gt name 5) :: .int .u8 (gt name 6) :: .int .u8 (gt name 7) :: .int .u8 (gt name 8) :: .int .u8 (gt name 9) :: .int .u8 (gt name 10) :: .int .u8 (gt name 11) :: .int .u8 (gt name 12) :: .int .u8 (gt name 13) :: .int .u8 (gt name 14) :: .int .u8 (gt name 15) :: .int .u8 (gt name 16) :: .int .u8 (gt name 17) :: .int .u8 (gt name 18) :: .int .u8 (gt name 19) :: .int .u8 (gt name 20) :: .int .u8 (gt name 21) :: .int .u8 (gt name 22) :: .int .u8 (gt name 23) :: .int .u8 (gt name 24) :: .int .u8 (gt name 25) :: .int .u8 (gt name 26) :: .int .u8 (gt name 27) :: .int .u8 (gt name 28) :: .int .u8 (gt name 29) :: .int .u8 (gt name 30) :: .int .u8 (gt name 31) :: []), .agg [.sl none 3 true (p_.Rules.map e_api_Rule)]] (.tup [.agg (.int .u8 (gt (merchant_New name p_).1.Name 0) :: .int .u8 (gt (merchant_New name p_).1.Name 1) :: .int .u8 (gt (merchant_New name p_).1.Name 2) :: .int .u8 (gt (merchant_New name p_).1.Name 3) :: .int .u8 (gt (merchant_New name p_).1.Name 4) :: .int .u8 (gt (merchant_New name p_).1.Name 5) :: .int .u8 (gt (merchant_New name p_).1.Name 6) :: .int .u8 (gt (merchant_New name p_).1.Name 7) :: .int .u8 (gt (merchant_New name p_).1.Name 8) :: .int .u8 (gt (merchant_New name p_).1.Name 9) :: .int .u8 (gt (merchant_New name p_).1.Name 10) :: .int .u8 (gt (merchant_New name p_).1.Name 11) :: .int .u8 (gt (merchant_New name p_).1.Name 12) :: .int .u8 (gt (merchant_New name p_).1.Name 13) :: .int .u8 (gt (merchant_New name p_).1.Name 14) :: .int .u8 (gt (merchant_New name p_).1.Name 15) :: .int .u8 (gt (merchant_New name p_).1.Name 16) :: .int .u8 (gt (merchant_New name p_).1.Name 17) :: .int .u8 (gt (merchant_New name p_).1.Name 18) :: .int .u8 (gt (merchant_New name p_).1.Name 19) :: .int .u8 (gt (merchant_New name p_).1.Name 20) :: .int .u8 (gt (merchant_New name p_).1.Name 21) :: .int .u8 (gt (merchant_New name p_).1.Name 22) :: .int .u8 (gt (merchant_New name p_).1.Name 23) :: .int .u8 (gt (merchant_New name p_).1.Name 24) :: .int .u8 (gt (merchant_New name p_).1.Name 25) :: .int .u8 (gt (merchant_New name p_).1.Name 26) :: .int .u8 (gt (merchant_New name p_).1.Name 27) :: .int .u8 (gt (merchant_New name p_).1.Name 28) :: .int .u8 (gt (merchant_New name p_).1.Name 29) :: .int .u8 (gt (merchant_New name p_).1.Name 30) :: .int .u8 (gt (merchant_New name p_).1.Name 31) :: .sl none 3 true ((merchant_New name p_).1.Policy.Rules.map e_api_Rule) :: .sl none 35 true ((merchant_New name p_).1.Open.map e_api_Invoice) :: .int .i64 (merchant_New name p_).1.Next :: .sl none 4 true ((merchant_New name p_).1.Queue.map e_api_Payment) :: .sl none 35 true ((merchant_New name p_).1.Paid.map e_api_Invoice) :: .int .i64 (merchant_New name p_).1.Total :: .sl none 1 false ((merchant_New name p_).1.Blocked.map (V.int .i64)) :: .int .i64 (merchant_New name p_).1.Now :: []), .int .i64 (merchant_New name p_).2]) [] := by
  generalize hM : merchant_New name p_ = r
  rw [merchant_New.eq_1] at hM
  refine enterV En_ok En_mo noJ Try.func16 rfl Try.ntmps16 (by kernel_rfl) fun hw => ct_start ?_
  refine spQ ?_
  replace hw := nzQ hw
  have hM0 := hM; clear hM; obtain ⟨x1, hx2, hM⟩ := letk_opn hM0; clear hM0
  have hcx1 := policy_Valid_ok  p_ 
  rw [← hx2] at hcx1
  refine callC_give hcx1 clQ clQ (fun hw3 => ?_)
  replace hw3 := nzQ hw3
  refine spQ ?_
  refine condC_intro (fun h4 => ?_) (fun h4 => ?_)
  · rw [if_pos h4] at hM
    refine spQA h4 ?_
    have nh4 := nzQ h4
    subst hM
    exact retC_view (lfQA h4)
  · rw [if_neg (ne_true h4)] at hM
    refine spQA h4 ?_
    have nh4 := nzQ h4
    refine ct_draw 16 5 [10, 11, 12, 13, 14] [] ([[], [], [1], [1, 2], [1, 2, 3]] ++ [List.range 5, List.range 6, List.range 7]) [] (by kernel_rfl) (by exact alQ) ?_
    refine spQ ?_
    have hM0 := hM; clear hM; obtain ⟨x5, hx6, hM⟩ := letk_opn hM0; clear hM0
    have hcx5 := CallOk.pub (slices_Clone_api_Rule_api_Rule_ok none (p_.Rules) )
    rw [← hx6] at hcx5
    refine hcallC_give hcx5 clQ clQ ?_
    refine spQ ?_
    subst hM
    exact retC_view (lfQA h4)
set_option maxHeartbeats 2000000 in
set_option maxRecDepth 100000 in
theorem merchant_ascends_ok  (z0 : Option Bool) (l : (List Int))  : CallOk En 44 [.sl z0 1 false (l.map (V.int .i64))] (.bool (merchant_ascends l)) [] := by
  generalize hM : merchant_ascends l = r
  rw [merchant_ascends.eq_1] at hM
  refine enterV En_ok En_mo noJ Try.func44 rfl Try.ntmps44 (by kernel_rfl) fun hw => ct_start ?_
  refine spQ ?_
  replace hw := nzQ hw
  have hM0 := hM; clear hM; obtain ⟨f1, d1, hf1, hd1, hM⟩ := iter_opn hM0; clear hM0
  refine ct_loop (fun n S => ∃ p : Int, S = (⟨[(0, .sl z0 1 false (l.map (V.int .i64))), (3, .int .i64 p)], [], 0⟩ : St) ∧ ((1 ≤ p) ∧ (p ≤ (l.length : Int) ∨ p ≤ 1)) ∧ ((l.length : Int) - p).toNat < n ∧ iter n f1 d1 p = r) (((l.length : Int) - 1).toNat + 1) (⟨[(0, .sl z0 1 false (l.map (V.int .i64))), (3, .int .i64 1)], [], 0⟩ : St) sbQ sbQ ⟨1, rfl, ⟨omQ, omQ⟩, (Nat.lt_succ_self _), hM⟩ ?_
  clear hM
  rintro n1 S ⟨p1, rfl, hfa1, hm1, hM⟩
  have hM0 := hM; clear hM; obtain ⟨ag1, hag1, hM⟩ := iter_step hM0 (by omega) hf1; clear hM0
  replace hfa1 := nzQ hfa1
  replace hm1 := nzQ hm1
  have ha1 : addI .i64 p1 1 = p1 + 1 := add_one omQ omQ
  refine spQA ha1 ?_
  refine condC_intro (fun h2 => ?_) (fun h2 => ?_)
  · rw [if_pos h2] at hM
    refine spQA (And.intro ha1 h2) ?_
    have nh2 := nzQ h2
    refine ct_draw 20 9 [10, 11, 12, 13, 14, 15, 16, 17, 18] [] ([[], [], [0, 1], [0, 1, 2], [], [], [5], [4, 5, 6], [4, 5, 6, 7]] ++ [List.range 9]) [] (by kernel_rfl) (by exact alQ) ?_
    refine spQA ha1 ?_
    refine hbindC_intro omQ ?_
    have he3 := fun d => elt_mp (l := l) (f := (V.int .i64)) (i := p1) omQ d
    refine spQA (And.intro ha1 he3) ?_
    have ha4 : subI .i64 p1 1 = (p1 - 1) := sub_ok omQ omQ
    try simp only [ha4]
    refine hbindC_intro omQ ?_
    have he5 := fun d => elt_mp (l := l) (f := (V.int .i64)) (i := (p1 - 1)) omQ d
    refine spQA (And.intro ha1 (And.intro he3 (And.intro ha4 he5))) ?_
    refine condC_intro (fun h6 => ?_) (fun h6 => ?_)
    · rw [if_pos h6] at hM
      refine spQA (And.intro ha1 (And.intro he3 (And.intro ha4 (And.intro he5 h6)))) ?_
      have nh6 := nzQ h6
      subst hM
      exact retC_view (lfQA (And.intro ha1 (And.intro he3 (And.intro ha4 (And.intro he5 (And.intro h2 h6))))))
    · rw [if_neg (ne_true h6)] at hM
      refine spQA (And.intro ha1 (And.intro he3 (And.intro ha4 (And.intro he5 h6)))) ?_
      have nh6 := nzQ h6
      refine lp_intro (n1 - 1) (⟨[(0, .sl z0 1 false (l.map (V.int .i64))), (3, .int .i64 (p1 + 1))], [], 0⟩ : St) (by omega) sbQ sbQ ⟨(p1 + 1), rfl, ⟨omQ, omQ⟩, omQ, iter_again hM hag1⟩
  · rw [if_neg (ne_true h2)] at hM
    refine spQA (And.intro ha1 h2) ?_
    have nh2 := nzQ h2
    subst hM
    exact retC_view (lfQA (And.intro ha1 h2))
set_option maxHeartbeats 2000000 in
set_option maxRecDepth 100000 in
theorem payment_valid_ok   (v : S_api_Invoice)  : CallOk En 84 [.agg (.int .u8 (gt v.Payee 0) :: .int .u8 (gt v.Payee 1) :: .int .u8 (gt v.Payee 2) :: .int .u8 (gt v.Payee 3) :: .int .u8 (gt v.Payee 4) :: .int .u8 (gt v.Payee 5) :: .int .u8 (gt v.Payee 6) :: .int .u8 (gt v.Payee 7) :: .int .u8 (gt v.Payee 8) :: .int .u8 (gt v.Payee 9) :: .int .u8 (gt v.Payee 10) :: .int .u8 (gt v.Payee 11) :: .int .u8 (gt v.Payee 12) :: .int .u8 (gt v.Payee 13) :: .int .u8 (gt v.Payee 14) :: .int .u8 (gt v.Payee 15) :: .int .u8 (gt v.Payee 16) :: .int .u8 (gt v.Payee 17) :: .int .u8 (gt v.Payee 18) :: .int .u8 (gt v.Payee 19) :: .int .u8 (gt v.Payee 20) :: .int .u8 (gt v.Payee 21) :: .int .u8 (gt v.Payee 22) :: .int .u8 (gt v.Payee 23) :: .int .u8 (gt v.Payee 24) :: .int .u8 (gt v.Payee 25) :: .int .u8 (gt v.Payee 26) :: .int .u8 (gt v.Payee 27) :: .int .u8 (gt v.Payee 28) :: .int .u8 (gt v.Payee 29) :: .int .u8 (gt v.Payee 30) :: .int .u8 (gt v.Payee 31) :: .int .i64 v.Amount :: .int .i64 v.Time :: .int .i64 v.Number :: [])] (.bool (payment_valid v)) [] := by
  generalize hM : payment_valid v = r
  rw [payment_valid.eq_1] at hM
  refine enterV En_ok En_mo noJ Try.func84 rfl Try.ntmps84 (by kernel_rfl) fun hw => ct_start ?_
  refine spQ ?_
  replace hw := nzQ hw
  refine guardC_t (fun h1 => ?_) (fun h1 => ?_)
  · rw [if_pos h1] at hM
    refine spQA h1 ?_
    have nh1 := nzQ h1
    refine guardC_t (fun h2 => ?_) (fun h2 => ?_)
    · rw [if_pos h2] at hM
      refine spQA h2 ?_
      have nh2 := nzQ h2
      refine guardC_t (fun h3 => ?_) (fun h3 => ?_)
      · rw [if_pos h3] at hM
        refine spQA h3 ?_
        have nh3 := nzQ h3
        refine guardC_t (fun h4 => ?_) (fun h4 => ?_)
        · rw [if_pos h4] at hM
          refine spQA h4 ?_
          have nh4 := nzQ h4
          refine guardC_t (fun h5 => ?_) (fun h5 => ?_)
          · rw [if_pos h5] at hM
            refine spQA h5 ?_
            have nh5 := nzQ h5
            subst hM
            exact retC_view (lfQA (And.intro h1 (And.intro h2 (And.intro h3 (And.intro h4 h5)))))
          · rw [if_neg (ne_true h5)] at hM
            refine spQA h5 ?_
            have nh5 := nzQ h5
            subst hM
            exact retC_view (lfQA (And.intro h1 (And.intro h2 (And.intro h3 (And.intro h4 h5)))))
        · rw [if_neg (ne_true h4)] at hM
          refine spQA h4 ?_
          have nh4 := nzQ h4
          subst hM
          exact retC_view (lfQA (And.intro h1 (And.intro h2 (And.intro h3 h4))))
      · rw [if_neg (ne_true h3)] at hM
        refine spQA h3 ?_
        have nh3 := nzQ h3
        subst hM
        exact retC_view (lfQA (And.intro h1 (And.intro h2 h3)))
    · rw [if_neg (ne_true h2)] at hM
      refine spQA h2 ?_
      have nh2 := nzQ h2
      subst hM
      exact retC_view (lfQA (And.intro h1 h2))
  · rw [if_neg (ne_true h1)] at hM
    refine spQA h1 ?_
    have nh1 := nzQ h1
    subst hM
    exact retC_view (lfQA h1)
set_option maxHeartbeats 2000000 in
set_option maxRecDepth 100000 in
theorem payment_Context_ok   (v : S_api_Invoice)  : CallOk En 71 [.agg (.int .u8 (gt v.Payee 0) :: .int .u8 (gt v.Payee 1) :: .int .u8 (gt v.Payee 2) :: .int .u8 (gt v.Payee 3) :: .int .u8 (gt v.Payee 4) :: .int .u8 (gt v.Payee 5) :: .int .u8 (gt v.Payee 6) :: .int .u8 (gt v.Payee 7) :: .int .u8 (gt v.Payee 8) :: .int .u8 (gt v.Payee 9) :: .int .u8 (gt v.Payee 10) :: .int .u8 (gt v.Payee 11) :: .int .u8 (gt v.Payee 12) :: .int .u8 (gt v.Payee 13) :: .int .u8 (gt v.Payee 14) :: .int .u8 (gt v.Payee 15) :: .int .u8 (gt v.Payee 16) :: .int .u8 (gt v.Payee 17) :: .int .u8 (gt v.Payee 18) :: .int .u8 (gt v.Payee 19) :: .int .u8 (gt v.Payee 20) :: .int .u8 (gt v.Payee 21) :: .int .u8 (gt v.Payee 22) :: .int .u8 (gt v.Payee 23) :: .int .u8 (gt v.Payee 24) :: .int .u8 (gt v.Payee 25) :: .int .u8 (gt v.Payee 26) :: .int .u8 (gt v.Payee 27) :: .int .u8 (gt v.Payee 28) :: .int .u8 (gt v.Payee 29) :: .int .u8 (gt v.Payee 30) :: .int .u8 (gt v.Payee 31) :: .int .i64 v.Amount :: .int .i64 v.Time :: .int .i64 v.Number :: [])] (.tup [.agg (.int .u8 (gt (payment_Context v).1.Payee 0) :: .int .u8 (gt (payment_Context v).1.Payee 1) :: .int .u8 (gt (payment_Context v).1.Payee 2) :: .int .u8 (gt (payment_Context v).1.Payee 3) :: .int .u8 (gt (payment_Context v).1.Payee 4) :: .int .u8 (gt (payment_Context v).1.Payee 5) :: .int .u8 (gt (payment_Context v).1.Payee 6) :: .int .u8 (gt (payment_Context v).1.Payee 7) :: .int .u8 (gt (payment_Context v).1.Payee 8) :: .int .u8 (gt (payment_Context v).1.Payee 9) :: .int .u8 (gt (payment_Context v).1.Payee 10) :: .int .u8 (gt (payment_Context v).1.Payee 11) :: .int .u8 (gt (payment_Context v).1.Payee 12) :: .int .u8 (gt (payment_Context v).1.Payee 13) :: .int .u8 (gt (payment_Context v).1.Payee 14) :: .int .u8 (gt (payment_Context v).1.Payee 15) :: .int .u8 (gt (payment_Context v).1.Payee 16) :: .int .u8 (gt (payment_Context v).1.Payee 17) :: .int .u8 (gt (payment_Context v).1.Payee 18) :: .int .u8 (gt (payment_Context v).1.Payee 19) :: .int .u8 (gt (payment_Context v).1.Payee 20) :: .int .u8 (gt (payment_Context v).1.Payee 21) :: .int .u8 (gt (payment_Context v).1.Payee 22) :: .int .u8 (gt (payment_Context v).1.Payee 23) :: .int .u8 (gt (payment_Context v).1.Payee 24) :: .int .u8 (gt (payment_Context v).1.Payee 25) :: .int .u8 (gt (payment_Context v).1.Payee 26) :: .int .u8 (gt (payment_Context v).1.Payee 27) :: .int .u8 (gt (payment_Context v).1.Payee 28) :: .int .u8 (gt (payment_Context v).1.Payee 29) :: .int .u8 (gt (payment_Context v).1.Payee 30) :: .int .u8 (gt (payment_Context v).1.Payee 31) :: .int .i64 (payment_Context v).1.Time :: .int .i64 (payment_Context v).1.Number :: []), .int .i64 (payment_Context v).2]) [] := by
  generalize hM : payment_Context v = r
  rw [payment_Context.eq_1] at hM
  refine enterV En_ok En_mo noJ Try.func71 rfl Try.ntmps71 (by kernel_rfl) fun hw => ct_start ?_
  refine spQ ?_
  replace hw := nzQ hw
  have hM0 := hM; clear hM; obtain ⟨x1, hx2, hM⟩ := letk_opn hM0; clear hM0
  have hcx1 := payment_valid_ok  v 
  rw [← hx2] at hcx1
  refine callC_give hcx1 clQ clQ (fun hw3 => ?_)
  replace hw3 := nzQ hw3
  refine spQ ?_
  refine condC_intro (fun h4 => ?_) (fun h4 => ?_)
  · rw [if_pos h4] at hM
    refine spQA h4 ?_
    have nh4 := nzQ h4
    subst hM
    exact retC_view (lfQA h4)
  · rw [if_neg (ne_true h4)] at hM
    refine spQA h4 ?_
    have nh4 := nzQ h4
    subst hM
    exact retC_view (lfQA h4)
set_option maxHeartbeats 2000000 in
set_option maxRecDepth 100000 in
theorem merchant_invoice_ok   (m : S_api_Merchant) (v : S_api_Invoice)  : CallOk En 45 [.agg (.int .u8 (gt m.Name 0) :: .int .u8 (gt m.Name 1) :: .int .u8 (gt m.Name 2) :: .int .u8 (gt m.Name 3) :: .int .u8 (gt m.Name 4) :: .int .u8 (gt m.Name 5) :: .int .u8 (gt m.Name 6) :: .int .u8 (gt m.Name 7) :: .int .u8 (gt m.Name 8) :: .int .u8 (gt m.Name 9) :: .int .u8 (gt m.Name 10) :: .int .u8 (gt m.Name 11) :: .int .u8 (gt m.Name 12) :: .int .u8 (gt m.Name 13) :: .int .u8 (gt m.Name 14) :: .int .u8 (gt m.Name 15) :: .int .u8 (gt m.Name 16) :: .int .u8 (gt m.Name 17) :: .int .u8 (gt m.Name 18) :: .int .u8 (gt m.Name 19) :: .int .u8 (gt m.Name 20) :: .int .u8 (gt m.Name 21) :: .int .u8 (gt m.Name 22) :: .int .u8 (gt m.Name 23) :: .int .u8 (gt m.Name 24) :: .int .u8 (gt m.Name 25) :: .int .u8 (gt m.Name 26) :: .int .u8 (gt m.Name 27) :: .int .u8 (gt m.Name 28) :: .int .u8 (gt m.Name 29) :: .int .u8 (gt m.Name 30) :: .int .u8 (gt m.Name 31) :: .sl none 3 true (m.Policy.Rules.map e_api_Rule) :: .sl none 35 true (m.Open.map e_api_Invoice) :: .int .i64 m.Next :: .sl none 4 true (m.Queue.map e_api_Payment) :: .sl none 35 true (m.Paid.map e_api_Invoice) :: .int .i64 m.Total :: .sl none 1 false (m.Blocked.map (V.int .i64)) :: .int .i64 m.Now :: []), .agg (.int .u8 (gt v.Payee 0) :: .int .u8 (gt v.Payee 1) :: .int .u8 (gt v.Payee 2) :: .int .u8 (gt v.Payee 3) :: .int .u8 (gt v.Payee 4) :: .int .u8 (gt v.Payee 5) :: .int .u8 (gt v.Payee 6) :: .int .u8 (gt v.Payee 7) :: .int .u8 (gt v.Payee 8) :: .int .u8 (gt v.Payee 9) :: .int .u8 (gt v.Payee 10) :: .int .u8 (gt v.Payee 11) :: .int .u8 (gt v.Payee 12) :: .int .u8 (gt v.Payee 13) :: .int .u8 (gt v.Payee 14) :: .int .u8 (gt v.Payee 15) :: .int .u8 (gt v.Payee 16) :: .int .u8 (gt v.Payee 17) :: .int .u8 (gt v.Payee 18) :: .int .u8 (gt v.Payee 19) :: .int .u8 (gt v.Payee 20) :: .int .u8 (gt v.Payee 21) :: .int .u8 (gt v.Payee 22) :: .int .u8 (gt v.Payee 23) :: .int .u8 (gt v.Payee 24) :: .int .u8 (gt v.Payee 25) :: .int .u8 (gt v.Payee 26) :: .int .u8 (gt v.Payee 27) :: .int .u8 (gt v.Payee 28) :: .int .u8 (gt v.Payee 29) :: .int .u8 (gt v.Payee 30) :: .int .u8 (gt v.Payee 31) :: .int .i64 v.Amount :: .int .i64 v.Time :: .int .i64 v.Number :: [])] (.bool (merchant_invoice m v)) [] := by
  generalize hM : merchant_invoice m v = r
  rw [merchant_invoice.eq_1] at hM
  refine enterV En_ok En_mo noJ Try.func45 rfl Try.ntmps45 (by kernel_rfl) fun hw => ct_start ?_
  refine spQ ?_
  replace hw := nzQ hw
  have hM0 := hM; clear hM; obtain ⟨x1, hx2, hM⟩ := letk_opn hM0; clear hM0
  have hcx1 := payment_Context_ok  v 
  rw [← hx2] at hcx1
  refine callC_give hcx1 clQ clQ (fun hw3 => ?_)
  replace hw3 := nzQ hw3
  refine spQ ?_
  refine guardC_t (fun h4 => ?_) (fun h4 => ?_)
  · rw [if_pos h4] at hM
    refine spQA h4 ?_
    have nh4 := nzQ h4
    refine guardC_t (fun h5 => ?_) (fun h5 => ?_)
    · have kh5 : (q_arr23 (v.Payee) (m.Name)) = true := h5
      rw [if_pos kh5] at hM
      refine spQA h5 ?_
      have nh5 := nzQ kh5
      refine guardC_t (fun h6 => ?_) (fun h6 => ?_)
      · rw [if_pos h6] at hM
        refine spQA h6 ?_
        have nh6 := nzQ h6
        subst hM
        exact retC_view (lfQA (And.intro h4 (And.intro h5 h6)))
      · rw [if_neg (ne_true h6)] at hM
        refine spQA h6 ?_
        have nh6 := nzQ h6
        subst hM
        exact retC_view (lfQA (And.intro h4 (And.intro h5 h6)))
    · have kh5 : (q_arr23 (v.Payee) (m.Name)) = false := h5
      rw [if_neg (ne_true kh5)] at hM
      refine spQA h5 ?_
      have nh5 := nzQ kh5
      subst hM
      exact retC_view (lfQA (And.intro h4 h5))
  · rw [if_neg (ne_true h4)] at hM
    refine spQA h4 ?_
    have nh4 := nzQ h4
    subst hM
    exact retC_view (lfQA h4)
set_option maxHeartbeats 2000000 in
set_option maxRecDepth 100000 in
theorem slices_Index_int_int_ok  (z0 : Option Bool) (s : (List Int)) (v : Int)  : CallOk En 72 [.sl z0 1 false (s.map (V.int .i64)), .int .i64 v] (.int .i64 (slices_Index_int_int s v)) [] := by
  generalize hM : slices_Index_int_int s v = r
  rw [slices_Index_int_int.eq_1] at hM
  refine enterV En_ok En_mo noJ Try.func72 rfl Try.ntmps72 (by kernel_rfl) fun hw => ct_start ?_
  refine spQ ?_
  replace hw := nzQ hw
  have hM0 := hM; clear hM; obtain ⟨f1, d1, hf1, hd1, hM⟩ := iter_opn hM0; clear hM0
  refine ct_loop (fun n S => ∃ p : Int, S = (⟨[(0, .sl z0 1 false (s.map (V.int .i64))), (1, .int .i64 v), (7, .int .i64 (s.length : Int)), (8, .int .i64 p)], [], 0⟩ : St) ∧ ((0 ≤ p) ∧ (p ≤ (s.length : Int))) ∧ ((s.length : Int) - p).toNat < n ∧ iter n f1 d1 p = r) (((s.length : Int) - 0).toNat + 1) (⟨[(0, .sl z0 1 false (s.map (V.int .i64))), (1, .int .i64 v), (7, .int .i64 (s.length : Int)), (8, .int .i64 0)], [], 0⟩ : St) sbQ sbQ ⟨0, rfl, ⟨omQ, omQ⟩, (Nat.lt_succ_self _), hM⟩ ?_
  clear hM
  rintro n1 S ⟨p1, rfl, hfa1, hm1, hM⟩
  have hM0 := hM; clear hM; obtain ⟨ag1, hag1, hM⟩ := iter_step hM0 (by omega) hf1; clear hM0
  replace hfa1 := nzQ hfa1
  replace hm1 := nzQ hm1
  have ha1 : addI .i64 p1 1 = p1 + 1 := add_one omQ omQ
  refine spQA ha1 ?_
  refine condC_intro (fun h2 => ?_) (fun h2 => ?_)
  · rw [if_pos h2] at hM
    refine spQA (And.intro ha1 h2) ?_
    have nh2 := nzQ h2
    refine bindC_intro omQ ?_
    have he3 := fun d => elt_mp (l := s) (f := (V.int .i64)) (i := p1) omQ d
    refine spQA (And.intro ha1 he3) ?_
    refine condC_intro (fun h4 => ?_) (fun h4 => ?_)
    · rw [if_pos h4] at hM
      refine spQA (And.intro ha1 (And.intro he3 h4)) ?_
      have nh4 := nzQ h4
      subst hM
      exact retC_view (lfQA (And.intro ha1 (And.intro he3 (And.intro h2 h4))))
    · rw [if_neg (ne_true h4)] at hM
      refine spQA (And.intro ha1 (And.intro he3 h4)) ?_
      have nh4 := nzQ h4
      refine lp_intro (n1 - 1) (⟨[(0, .sl z0 1 false (s.map (V.int .i64))), (1, .int .i64 v), (7, .int .i64 (s.length : Int)), (8, .int .i64 (p1 + 1))], [], 0⟩ : St) (by omega) sbQ sbQ ⟨(p1 + 1), rfl, ⟨omQ, omQ⟩, omQ, iter_again hM hag1⟩
  · rw [if_neg (ne_true h2)] at hM
    refine spQA (And.intro ha1 h2) ?_
    have nh2 := nzQ h2
    subst hM
    exact retC_view (lfQA (And.intro ha1 h2))
set_option maxHeartbeats 2000000 in
set_option maxRecDepth 100000 in
theorem slices_Contains_int_int_ok  (z0 : Option Bool) (s : (List Int)) (v : Int)  : CallOk En 46 [.sl z0 1 false (s.map (V.int .i64)), .int .i64 v] (.bool (slices_Contains_int_int s v)) [] := by
  generalize hM : slices_Contains_int_int s v = r
  rw [slices_Contains_int_int.eq_1] at hM
  refine enterV En_ok En_mo noJ Try.func46 rfl Try.ntmps46 (by kernel_rfl) fun hw => ct_start ?_
  refine spQ ?_
  replace hw := nzQ hw
  have hM0 := hM; clear hM; obtain ⟨x1, hx2, hM⟩ := letk_opn hM0; clear hM0
  have hcx1 := slices_Index_int_int_ok z0 s v 
  rw [← hx2] at hcx1
  refine callC_give hcx1 clQ clQ (fun hw3 => ?_)
  replace hw3 := nzQ hw3
  refine spQ ?_
  subst hM
  exact retC_view lfQ
set_option maxHeartbeats 2000000 in
set_option maxRecDepth 100000 in
theorem merchant_Valid_ok   (m : S_api_Merchant)  : CallOk En 20 [.agg (.int .u8 (gt m.Name 0) :: .int .u8 (gt m.Name 1) :: .int .u8 (gt m.Name 2) :: .int .u8 (gt m.Name 3) :: .int .u8 (gt m.Name 4) :: .int .u8 (gt m.Name 5) :: .int .u8 (gt m.Name 6) :: .int .u8 (gt m.Name 7) :: .int .u8 (gt m.Name 8) :: .int .u8 (gt m.Name 9) :: .int .u8 (gt m.Name 10) :: .int .u8 (gt m.Name 11) :: .int .u8 (gt m.Name 12) :: .int .u8 (gt m.Name 13) :: .int .u8 (gt m.Name 14) :: .int .u8 (gt m.Name 15) :: .int .u8 (gt m.Name 16) :: .int .u8 (gt m.Name 17) :: .int .u8 (gt m.Name 18) :: .int .u8 (gt m.Name 19) :: .int .u8 (gt m.Name 20) :: .int .u8 (gt m.Name 21) :: .int .u8 (gt m.Name 22) :: .int .u8 (gt m.Name 23) :: .int .u8 (gt m.Name 24) :: .int .u8 (gt m.Name 25) :: .int .u8 (gt m.Name 26) :: .int .u8 (gt m.Name 27) :: .int .u8 (gt m.Name 28) :: .int .u8 (gt m.Name 29) :: .int .u8 (gt m.Name 30) :: .int .u8 (gt m.Name 31) :: .sl none 3 true (m.Policy.Rules.map e_api_Rule) :: .sl none 35 true (m.Open.map e_api_Invoice) :: .int .i64 m.Next :: .sl none 4 true (m.Queue.map e_api_Payment) :: .sl none 35 true (m.Paid.map e_api_Invoice) :: .int .i64 m.Total :: .sl none 1 false (m.Blocked.map (V.int .i64)) :: .int .i64 m.Now :: [])] (.bool (merchant_Valid m)) [] := by
  generalize hM : merchant_Valid m = r
  rw [merchant_Valid.eq_1] at hM
  refine enterV En_ok En_mo noJ Try.func20 rfl Try.ntmps20 (by kernel_rfl) fun hw => ct_start ?_
  refine spQ ?_
  replace hw := nzQ hw
  have hM0 := hM; clear hM; obtain ⟨x1, hx2, hM⟩ := letk_opn hM0; clear hM0
  have hcx1 := policy_Valid_ok  (m.Policy) 
  rw [← hx2] at hcx1
  refine callC_give hcx1 clQ clQ (fun hw3 => ?_)
  replace hw3 := nzQ hw3
  refine spQ ?_
  refine guardC_f (fun h4 => ?_) (fun h4 => ?_)
  · rw [if_neg (ne_true h4)] at hM
    refine spQA h4 ?_
    have nh4 := nzQ h4
    refine guardC_f (fun h5 => ?_) (fun h5 => ?_)
    · rw [if_neg (ne_true h5)] at hM
      refine spQA h5 ?_
      have nh5 := nzQ h5
      refine guardC_f (fun h6 => ?_) (fun h6 => ?_)
      · rw [if_neg (ne_true h6)] at hM
        refine spQA h6 ?_
        have nh6 := nzQ h6
        refine guardC_f (fun h7 => ?_) (fun h7 => ?_)
        · rw [if_neg (ne_true h7)] at hM
          refine spQA h7 ?_
          have nh7 := nzQ h7
          refine condC_intro (fun h8 => ?_) (fun h8 => ?_)
          · rw [if_pos h8] at hM
            refine spQA h8 ?_
            have nh8 := nzQ h8
            subst hM
            exact retC_view (lfQA (And.intro h4 (And.intro h5 (And.intro h6 (And.intro h7 h8)))))
          · rw [if_neg (ne_true h8)] at hM
            refine spQA h8 ?_
            have nh8 := nzQ h8
            refine guardC_f (fun h9 => ?_) (fun h9 => ?_)
            · rw [if_neg (ne_true h9)] at hM
              refine spQA h9 ?_
              have nh9 := nzQ h9
              refine guardC_f (fun h10 => ?_) (fun h10 => ?_)
              · rw [if_neg (ne_true h10)] at hM
                refine spQA h10 ?_
                have nh10 := nzQ h10
                refine guardC_f (fun h11 => ?_) (fun h11 => ?_)
                · rw [if_neg (ne_true h11)] at hM
                  refine spQA h11 ?_
                  have nh11 := nzQ h11
                  refine guardC_f (fun h12 => ?_) (fun h12 => ?_)
                  · rw [if_neg (ne_true h12)] at hM
                    refine spQA h12 ?_
                    have nh12 := nzQ h12
                    have hM0 := hM; clear hM; obtain ⟨x13, hx14, hM⟩ := letk_opn hM0; clear hM0
                    have hcx13 := merchant_ascends_ok none (m.Blocked) 
                    rw [← hx14] at hcx13
                    refine callC_give hcx13 clQ clQ (fun hw15 => ?_)
                    replace hw15 := nzQ hw15
                    refine spQ ?_
                    refine guardC_f (fun h16 => ?_) (fun h16 => ?_)
                    · rw [if_neg (ne_true h16)] at hM
                      refine spQA h16 ?_
                      have nh16 := nzQ h16
                      refine guardC_t (fun h17 => ?_) (fun h17 => ?_)
                      · rw [if_pos h17] at hM
                        refine spQA h17 ?_
                        have nh17 := nzQ h17
                        refine bindC_intro omQ ?_
                        have he18 : ∀ d, elt (m.Blocked.map (V.int .i64)) 0 d = (V.int .i64) (gt m.Blocked 0) := fun d => elt_mp (l := m.Blocked) (f := (V.int .i64)) (i := 0) omQ d
                        refine spQA he18 ?_
                        refine condC_intro (fun h19 => ?_) (fun h19 => ?_)
                        · rw [if_pos h19] at hM
                          refine spQA (And.intro he18 h19) ?_
                          have nh19 := nzQ h19
                          subst hM
                          exact retC_view (lfQA (And.intro he18 (And.intro h4 (And.intro h5 (And.intro h6 (And.intro h7 (And.intro h8 (And.intro h9 (And.intro h10 (And.intro h11 (And.intro h12 (And.intro h16 (And.intro h17 h19)))))))))))))
                        · rw [if_neg (ne_true h19)] at hM
                          refine spQA (And.intro he18 h19) ?_
                          have nh19 := nzQ h19
                          have hM0 := hM; clear hM; obtain ⟨f20, d20, hf20, hd20, hM⟩ := iter_opn hM0; clear hM0
                          refine ct_loopW (fun n S => ∃ p : Int × List Int, S = (⟨[(1, .ptr 0 0), (3, .own 1), (78, .sl none 35 true (m.Open.map e_api_Invoice)), (79, .int .i64 (m.Open.length : Int)), (80, .int .i64 p.1)], [(0, .var 40 true (.agg (.int .u8 (gt m.Name 0) :: .int .u8 (gt m.Name 1) :: .int .u8 (gt m.Name 2) :: .int .u8 (gt m.Name 3) :: .int .u8 (gt m.Name 4) :: .int .u8 (gt m.Name 5) :: .int .u8 (gt m.Name 6) :: .int .u8 (gt m.Name 7) :: .int .u8 (gt m.Name 8) :: .int .u8 (gt m.Name 9) :: .int .u8 (gt m.Name 10) :: .int .u8 (gt m.Name 11) :: .int .u8 (gt m.Name 12) :: .int .u8 (gt m.Name 13) :: .int .u8 (gt m.Name 14) :: .int .u8 (gt m.Name 15) :: .int .u8 (gt m.Name 16) :: .int .u8 (gt m.Name 17) :: .int .u8 (gt m.Name 18) :: .int .u8 (gt m.Name 19) :: .int .u8 (gt m.Name 20) :: .int .u8 (gt m.Name 21) :: .int .u8 (gt m.Name 22) :: .int .u8 (gt m.Name 23) :: .int .u8 (gt m.Name 24) :: .int .u8 (gt m.Name 25) :: .int .u8 (gt m.Name 26) :: .int .u8 (gt m.Name 27) :: .int .u8 (gt m.Name 28) :: .int .u8 (gt m.Name 29) :: .int .u8 (gt m.Name 30) :: .int .u8 (gt m.Name 31) :: .sl none 3 true (m.Policy.Rules.map e_api_Rule) :: .sl none 35 true (m.Open.map e_api_Invoice) :: .int .i64 m.Next :: .sl none 4 true (m.Queue.map e_api_Payment) :: .sl none 35 true (m.Paid.map e_api_Invoice) :: .int .i64 m.Total :: .sl none 1 false (m.Blocked.map (V.int .i64)) :: .int .i64 m.Now :: []))), (1, .own 3 1 false none (p.2.map (V.int .i64)))], 2⟩ : St) ∧ ((0 ≤ p.1) ∧ (p.1 ≤ (m.Open.length : Int)) ∧ (((p.2).length : Int) ≤ p.1)) ∧ ((m.Open.length : Int) - p.1).toNat < n ∧ iter n f20 d20 p = r) (((m.Open.length : Int) - 0).toNat + 1) _ (⟨[(1, .ptr 0 0), (3, .own 1), (78, .sl none 35 true (m.Open.map e_api_Invoice)), (79, .int .i64 (m.Open.length : Int)), (80, .int .i64 0)], [(0, .var 40 true (.agg (.int .u8 (gt m.Name 0) :: .int .u8 (gt m.Name 1) :: .int .u8 (gt m.Name 2) :: .int .u8 (gt m.Name 3) :: .int .u8 (gt m.Name 4) :: .int .u8 (gt m.Name 5) :: .int .u8 (gt m.Name 6) :: .int .u8 (gt m.Name 7) :: .int .u8 (gt m.Name 8) :: .int .u8 (gt m.Name 9) :: .int .u8 (gt m.Name 10) :: .int .u8 (gt m.Name 11) :: .int .u8 (gt m.Name 12) :: .int .u8 (gt m.Name 13) :: .int .u8 (gt m.Name 14) :: .int .u8 (gt m.Name 15) :: .int .u8 (gt m.Name 16) :: .int .u8 (gt m.Name 17) :: .int .u8 (gt m.Name 18) :: .int .u8 (gt m.Name 19) :: .int .u8 (gt m.Name 20) :: .int .u8 (gt m.Name 21) :: .int .u8 (gt m.Name 22) :: .int .u8 (gt m.Name 23) :: .int .u8 (gt m.Name 24) :: .int .u8 (gt m.Name 25) :: .int .u8 (gt m.Name 26) :: .int .u8 (gt m.Name 27) :: .int .u8 (gt m.Name 28) :: .int .u8 (gt m.Name 29) :: .int .u8 (gt m.Name 30) :: .int .u8 (gt m.Name 31) :: .sl none 3 true (m.Policy.Rules.map e_api_Rule) :: .sl none 35 true (m.Open.map e_api_Invoice) :: .int .i64 m.Next :: .sl none 4 true (m.Queue.map e_api_Payment) :: .sl none 35 true (m.Paid.map e_api_Invoice) :: .int .i64 m.Total :: .sl none 1 false (m.Blocked.map (V.int .i64)) :: .int .i64 m.Now :: []))), (1, .own 3 1 false none (([] : List Int).map (V.int .i64)))], 2⟩ : St) (weak_nil 3 3 rfl (by decide)) sbQ sbQ ⟨(0, ([] : List Int)), rfl, ⟨omQ, omQ, omQ⟩, (Nat.lt_succ_self _), hM⟩ ?_
                          clear hM
                          rintro n20 S ⟨p20, rfl, hfa20, hm20, hM⟩
                          have hM0 := hM; clear hM; obtain ⟨ag20, hag20, hM⟩ := iter_step hM0 (by omega) hf20; clear hM0
                          replace hfa20 := nzQ hfa20
                          replace hm20 := nzQ hm20
                          have ha20 : addI .i64 p20.1 1 = p20.1 + 1 := add_one omQ omQ
                          refine spQA (And.intro he18 ha20) ?_
                          refine condC_intro (fun h21 => ?_) (fun h21 => ?_)
                          · rw [if_pos h21] at hM
                            refine spQA (And.intro he18 (And.intro ha20 h21)) ?_
                            have nh21 := nzQ h21
                            refine bindC_intro omQ ?_
                            have he22 := fun d => elt_mp (l := m.Open) (f := e_api_Invoice) (i := p20.1) omQ d
                            refine spQA (And.intro he18 (And.intro ha20 he22)) ?_
                            have hM0 := hM; clear hM; obtain ⟨x23, hx24, hM⟩ := letk_opn hM0; clear hM0
                            have hcx23 := merchant_invoice_ok  m (gt m.Open p20.1) 
                            rw [← hx24] at hcx23
                            refine callC_give hcx23 (clQA (And.intro he18 (And.intro ha20 he22))) (clQA (And.intro he18 (And.intro ha20 he22))) (fun hw25 => ?_)
                            replace hw25 := nzQ hw25
                            refine spQA (And.intro he18 (And.intro ha20 he22)) ?_
                            refine condC_intro (fun h26 => ?_) (fun h26 => ?_)
                            · rw [if_pos h26] at hM
                              refine spQA (And.intro he18 (And.intro ha20 (And.intro he22 h26))) ?_
                              have nh26 := nzQ h26
                              subst hM
                              exact retC_view (lfQA (And.intro he18 (And.intro ha20 (And.intro he22 (And.intro h4 (And.intro h5 (And.intro h6 (And.intro h7 (And.intro h8 (And.intro h9 (And.intro h10 (And.intro h11 (And.intro h12 (And.intro h16 (And.intro h17 (And.intro h19 (And.intro h21 h26)))))))))))))))))
                            · rw [if_neg (ne_true h26)] at hM
                              refine spQA (And.intro he18 (And.intro ha20 (And.intro he22 h26))) ?_
                              have nh26 := nzQ h26
                              refine bindC_intro omQ ?_
                              refine spQA (And.intro he18 (And.intro ha20 he22)) ?_
                              refine lp_intro (n20 - 1) (⟨[(1, .ptr 0 0), (3, .own 1), (78, .sl none 35 true (m.Open.map e_api_Invoice)), (79, .int .i64 (m.Open.length : Int)), (80, .int .i64 (p20.1 + 1))], [(0, .var 40 true (.agg (.int .u8 (gt m.Name 0) :: .int .u8 (gt m.Name 1) :: .int .u8 (gt m.Name 2) :: .int .u8 (gt m.Name 3) :: .int .u8 (gt m.Name 4) :: .int .u8 (gt m.Name 5) :: .int .u8 (gt m.Name 6) :: .int .u8 (gt m.Name 7) :: .int .u8 (gt m.Name 8) :: .int .u8 (gt m.Name 9) :: .int .u8 (gt m.Name 10) :: .int .u8 (gt m.Name 11) :: .int .u8 (gt m.Name 12) :: .int .u8 (gt m.Name 13) :: .int .u8 (gt m.Name 14) :: .int .u8 (gt m.Name 15) :: .int .u8 (gt m.Name 16) :: .int .u8 (gt m.Name 17) :: .int .u8 (gt m.Name 18) :: .int .u8 (gt m.Name 19) :: .int .u8 (gt m.Name 20) :: .int .u8 (gt m.Name 21) :: .int .u8 (gt m.Name 22) :: .int .u8 (gt m.Name 23) :: .int .u8 (gt m.Name 24) :: .int .u8 (gt m.Name 25) :: .int .u8 (gt m.Name 26) :: .int .u8 (gt m.Name 27) :: .int .u8 (gt m.Name 28) :: .int .u8 (gt m.Name 29) :: .int .u8 (gt m.Name 30) :: .int .u8 (gt m.Name 31) :: .sl none 3 true (m.Policy.Rules.map e_api_Rule) :: .sl none 35 true (m.Open.map e_api_Invoice) :: .int .i64 m.Next :: .sl none 4 true (m.Queue.map e_api_Payment) :: .sl none 35 true (m.Paid.map e_api_Invoice) :: .int .i64 m.Total :: .sl none 1 false (m.Blocked.map (V.int .i64)) :: .int .i64 m.Now :: []))), (1, .own 3 1 false none ((p20.2 ++ ([(gt m.Open p20.1).Number] : List Int)).map (V.int .i64)))], 2⟩ : St) (by omega) sbQ sbQ ⟨((p20.1 + 1), (p20.2 ++ ([(gt m.Open p20.1).Number] : List Int))), rfl, ⟨omQ, omQ, omQ⟩, omQ, iter_again hM hag20⟩
                          · rw [if_neg (ne_true h21)] at hM
                            refine spQA (And.intro he18 (And.intro ha20 h21)) ?_
                            have nh21 := nzQ h21
                            have hM0 := hM; clear hM; obtain ⟨x27, hx28, hM⟩ := letk_opn hM0; clear hM0
                            have hcx27 := merchant_ascends_ok none (p20.2) 
                            rw [← hx28] at hcx27
                            refine callC_look hcx27 (clQA (And.intro he18 ha20)) (clQA (And.intro he18 ha20)) (fun hw29 => ?_)
                            replace hw29 := nzQ hw29
                            refine spQA (And.intro he18 ha20) ?_
                            refine condC_intro (fun h30 => ?_) (fun h30 => ?_)
                            · rw [if_pos h30] at hM
                              refine spQA (And.intro he18 (And.intro ha20 h30)) ?_
                              have nh30 := nzQ h30
                              subst hM
                              exact retC_view (lfQA (And.intro he18 (And.intro ha20 (And.intro h4 (And.intro h5 (And.intro h6 (And.intro h7 (And.intro h8 (And.intro h9 (And.intro h10 (And.intro h11 (And.intro h12 (And.intro h16 (And.intro h17 (And.intro h19 (And.intro h21 h30))))))))))))))))
                            · rw [if_neg (ne_true h30)] at hM
                              refine spQA (And.intro he18 (And.intro ha20 h30)) ?_
                              have nh30 := nzQ h30
                              have hM0 := hM; clear hM; obtain ⟨f31, d31, hf31, hd31, hM⟩ := iter_opn hM0; clear hM0
                              refine ct_loop (fun n S => ∃ p : Int × Int × List Int, S = (⟨[(1, .ptr 0 0), (3, .own 1), (6, .int .i64 p.1), (98, .sl none 35 true (m.Paid.map e_api_Invoice)), (99, .int .i64 (m.Paid.length : Int)), (100, .int .i64 p.2.1)], [(0, .var 40 true (.agg (.int .u8 (gt m.Name 0) :: .int .u8 (gt m.Name 1) :: .int .u8 (gt m.Name 2) :: .int .u8 (gt m.Name 3) :: .int .u8 (gt m.Name 4) :: .int .u8 (gt m.Name 5) :: .int .u8 (gt m.Name 6) :: .int .u8 (gt m.Name 7) :: .int .u8 (gt m.Name 8) :: .int .u8 (gt m.Name 9) :: .int .u8 (gt m.Name 10) :: .int .u8 (gt m.Name 11) :: .int .u8 (gt m.Name 12) :: .int .u8 (gt m.Name 13) :: .int .u8 (gt m.Name 14) :: .int .u8 (gt m.Name 15) :: .int .u8 (gt m.Name 16) :: .int .u8 (gt m.Name 17) :: .int .u8 (gt m.Name 18) :: .int .u8 (gt m.Name 19) :: .int .u8 (gt m.Name 20) :: .int .u8 (gt m.Name 21) :: .int .u8 (gt m.Name 22) :: .int .u8 (gt m.Name 23) :: .int .u8 (gt m.Name 24) :: .int .u8 (gt m.Name 25) :: .int .u8 (gt m.Name 26) :: .int .u8 (gt m.Name 27) :: .int .u8 (gt m.Name 28) :: .int .u8 (gt m.Name 29) :: .int .u8 (gt m.Name 30) :: .int .u8 (gt m.Name 31) :: .sl none 3 true (m.Policy.Rules.map e_api_Rule) :: .sl none 35 true (m.Open.map e_api_Invoice) :: .int .i64 m.Next :: .sl none 4 true (m.Queue.map e_api_Payment) :: .sl none 35 true (m.Paid.map e_api_Invoice) :: .int .i64 m.Total :: .sl none 1 false (m.Blocked.map (V.int .i64)) :: .int .i64 m.Now :: []))), (1, .own 3 1 false none (p.2.2.map (V.int .i64)))], 2⟩ : St) ∧ ((0 ≤ p.2.1) ∧ (p.2.1 ≤ (m.Paid.length : Int)) ∧ (((p.2.2).length : Int) ≤ p.2.1 + (p20.2).length)) ∧ ((m.Paid.length : Int) - p.2.1).toNat < n ∧ iter n f31 d31 p = r) (((m.Paid.length : Int) - 0).toNat + 1) (⟨[(1, .ptr 0 0), (3, .own 1), (6, .int .i64 0), (98, .sl none 35 true (m.Paid.map e_api_Invoice)), (99, .int .i64 (m.Paid.length : Int)), (100, .int .i64 0)], [(0, .var 40 true (.agg (.int .u8 (gt m.Name 0) :: .int .u8 (gt m.Name 1) :: .int .u8 (gt m.Name 2) :: .int .u8 (gt m.Name 3) :: .int .u8 (gt m.Name 4) :: .int .u8 (gt m.Name 5) :: .int .u8 (gt m.Name 6) :: .int .u8 (gt m.Name 7) :: .int .u8 (gt m.Name 8) :: .int .u8 (gt m.Name 9) :: .int .u8 (gt m.Name 10) :: .int .u8 (gt m.Name 11) :: .int .u8 (gt m.Name 12) :: .int .u8 (gt m.Name 13) :: .int .u8 (gt m.Name 14) :: .int .u8 (gt m.Name 15) :: .int .u8 (gt m.Name 16) :: .int .u8 (gt m.Name 17) :: .int .u8 (gt m.Name 18) :: .int .u8 (gt m.Name 19) :: .int .u8 (gt m.Name 20) :: .int .u8 (gt m.Name 21) :: .int .u8 (gt m.Name 22) :: .int .u8 (gt m.Name 23) :: .int .u8 (gt m.Name 24) :: .int .u8 (gt m.Name 25) :: .int .u8 (gt m.Name 26) :: .int .u8 (gt m.Name 27) :: .int .u8 (gt m.Name 28) :: .int .u8 (gt m.Name 29) :: .int .u8 (gt m.Name 30) :: .int .u8 (gt m.Name 31) :: .sl none 3 true (m.Policy.Rules.map e_api_Rule) :: .sl none 35 true (m.Open.map e_api_Invoice) :: .int .i64 m.Next :: .sl none 4 true (m.Queue.map e_api_Payment) :: .sl none 35 true (m.Paid.map e_api_Invoice) :: .int .i64 m.Total :: .sl none 1 false (m.Blocked.map (V.int .i64)) :: .int .i64 m.Now :: []))), (1, .own 3 1 false none (p20.2.map (V.int .i64)))], 2⟩ : St) sbQ sbQ ⟨(0, 0, p20.2), rfl, ⟨omQ, omQ, omQ⟩, (Nat.lt_succ_self _), hM⟩ ?_
                              clear hM
                              rintro n31 S ⟨p31, rfl, hfa31, hm31, hM⟩
                              have hM0 := hM; clear hM; obtain ⟨ag31, hag31, hM⟩ := iter_step hM0 (by omega) hf31; clear hM0
                              replace hfa31 := nzQ hfa31
                              replace hm31 := nzQ hm31
                              have ha31 : addI .i64 p31.2.1 1 = p31.2.1 + 1 := add_one omQ omQ
                              refine spQA (And.intro he18 (And.intro ha20 ha31)) ?_
                              refine condC_intro (fun h32 => ?_) (fun h32 => ?_)
                              · rw [if_pos h32] at hM
                                refine spQA (And.intro he18 (And.intro ha20 (And.intro ha31 h32))) ?_
                                have nh32 := nzQ h32
                                refine bindC_intro omQ ?_
                                have he33 := fun d => elt_mp (l := m.Paid) (f := e_api_Invoice) (i := p31.2.1) omQ d
                                refine spQA (And.intro he18 (And.intro ha20 (And.intro ha31 he33))) ?_
                                refine ct_draw 144 19 [105, 106, 107, 108, 109, 110, 111, 112, 113, 114, 115, 116, 117, 118, 119, 120, 121, 122, 123] [] ([[], [], [0, 1], [0, 1, 2], [0, 1, 2, 3], [0, 1, 2, 3, 4], [0, 1, 2, 3, 4, 5], [0, 1, 2, 3, 4], [0, 1, 2, 3, 4, 5, 6, 7], [0, 1, 2, 3, 4, 5, 6, 7, 8], [0, 1, 2, 3, 4, 5, 6, 7, 8, 9], [0, 1, 2, 3, 4], [0, 1, 2, 3, 4, 11], [0, 1, 2, 3, 4, 5, 6, 7, 8, 9, 10, 11, 12], [0, 1, 2, 3, 4, 5, 6, 7, 8, 9, 10, 11, 12, 13], [0, 1, 2, 3, 4, 5, 6, 7, 8, 9, 10, 11, 12, 13, 14], [0, 1, 2, 3, 4, 5, 6, 7, 8, 9, 10, 11, 12, 13, 14, 15], [0, 1, 2, 3, 4, 5, 6, 7, 8, 9, 10, 11, 12, 13, 14, 15], [0, 1, 2, 3, 4, 5, 6, 7, 8, 9, 10, 11, 12, 13, 14, 15, 17]] ++ [List.range 19, List.range 20]) [] (by kernel_rfl) (by exact alQ) ?_
                                refine spQA (And.intro he18 (And.intro ha20 (And.intro ha31 he33))) ?_
                                have hM0 := hM; clear hM; obtain ⟨x34, hx35, hM⟩ := letk_opn hM0; clear hM0
                                have hcx34 := merchant_invoice_ok  m (gt m.Paid p31.2.1) 
                                rw [← hx35] at hcx34
                                refine hcallC_give hcx34 (clQA (And.intro he18 (And.intro ha20 (And.intro ha31 he33)))) (clQA (And.intro he18 (And.intro ha20 (And.intro ha31 he33)))) ?_
                                refine spQA (And.intro he18 (And.intro ha20 (And.intro ha31 he33))) ?_
                                refine hguardC_f (fun h36 => ?_) (fun h36 => ?_)
                                · rw [if_neg (ne_true h36)] at hM
                                  refine spQA (And.intro he18 (And.intro ha20 (And.intro ha31 (And.intro he33 h36)))) ?_
                                  have nh36 := nzQ h36
                                  refine hbindC_intro omQ ?_
                                  have he37 := fun d => elt_mp (l := m.Queue) (f := e_api_Payment) (i := p31.2.1) omQ d
                                  refine spQA (And.intro he18 (And.intro ha20 (And.intro ha31 (And.intro he33 he37)))) ?_
                                  refine hguardC_f (fun h38 => ?_) (fun h38 => ?_)
                                  · rw [if_neg (ne_true h38)] at hM
                                    refine spQA (And.intro he18 (And.intro ha20 (And.intro ha31 (And.intro he33 (And.intro he37 h38))))) ?_
                                    have nh38 := nzQ h38
                                    have hM0 := hM; clear hM; obtain ⟨x39, hx40, hM⟩ := letk_opn hM0; clear hM0
                                    have hcx39 := slices_Contains_int_int_ok none (p31.2.2) ((gt m.Paid p31.2.1).Number) 
                                    rw [← hx40] at hcx39
                                    refine callC_look hcx39 (clQA (And.intro he18 (And.intro ha20 (And.intro ha31 (And.intro he33 he37))))) (clQA (And.intro he18 (And.intro ha20 (And.intro ha31 (And.intro he33 he37))))) (fun hw41 => ?_)
                                    replace hw41 := nzQ hw41
                                    refine spQA (And.intro he18 (And.intro ha20 (And.intro ha31 (And.intro he33 he37)))) ?_
                                    refine condC_intro (fun h42 => ?_) (fun h42 => ?_)
                                    · subst h42
                                      rw [if_pos rfl] at hM
                                      refine spQA (And.intro he18 (And.intro ha20 (And.intro ha31 (And.intro he33 he37)))) ?_
                                      subst hM
                                      exact retC_view (lfQA (And.intro he18 (And.intro ha20 (And.intro ha31 (And.intro he33 (And.intro he37 (And.intro h4 (And.intro h5 (And.intro h6 (And.intro h7 (And.intro h8 (And.intro h9 (And.intro h10 (And.intro h11 (And.intro h12 (And.intro h16 (And.intro h17 (And.intro h19 (And.intro h21 (And.intro h30 (And.intro h32 (And.intro h36 h38))))))))))))))))))))))
                                    · subst h42
                                      rw [if_neg (by decide)] at hM
                                      refine spQA (And.intro he18 (And.intro ha20 (And.intro ha31 (And.intro he33 he37)))) ?_
                                      refine bindC_intro omQ ?_
                                      refine spQA (And.intro he18 (And.intro ha20 (And.intro ha31 (And.intro he33 he37)))) ?_
                                      refine lp_intro (n31 - 1) (⟨[(1, .ptr 0 0), (3, .own 1), (6, .int .i64 (addI .i64 p31.1 (gt m.Paid p31.2.1).Amount)), (98, .sl none 35 true (m.Paid.map e_api_Invoice)), (99, .int .i64 (m.Paid.length : Int)), (100, .int .i64 (p31.2.1 + 1))], [(0, .var 40 true (.agg (.int .u8 (gt m.Name 0) :: .int .u8 (gt m.Name 1) :: .int .u8 (gt m.Name 2) :: .int .u8 (gt m.Name 3) :: .int .u8 (gt m.Name 4) :: .int .u8 (gt m.Name 5) :: .int .u8 (gt m.Name 6) :: .int .u8 (gt m.Name 7) :: .int .u8 (gt m.Name 8) :: .int .u8 (gt m.Name 9) :: .int .u8 (gt m.Name 10) :: .int .u8 (gt m.Name 11) :: .int .u8 (gt m.Name 12) :: .int .u8 (gt m.Name 13) :: .int .u8 (gt m.Name 14) :: .int .u8 (gt m.Name 15) :: .int .u8 (gt m.Name 16) :: .int .u8 (gt m.Name 17) :: .int .u8 (gt m.Name 18) :: .int .u8 (gt m.Name 19) :: .int .u8 (gt m.Name 20) :: .int .u8 (gt m.Name 21) :: .int .u8 (gt m.Name 22) :: .int .u8 (gt m.Name 23) :: .int .u8 (gt m.Name 24) :: .int .u8 (gt m.Name 25) :: .int .u8 (gt m.Name 26) :: .int .u8 (gt m.Name 27) :: .int .u8 (gt m.Name 28) :: .int .u8 (gt m.Name 29) :: .int .u8 (gt m.Name 30) :: .int .u8 (gt m.Name 31) :: .sl none 3 true (m.Policy.Rules.map e_api_Rule) :: .sl none 35 true (m.Open.map e_api_Invoice) :: .int .i64 m.Next :: .sl none 4 true (m.Queue.map e_api_Payment) :: .sl none 35 true (m.Paid.map e_api_Invoice) :: .int .i64 m.Total :: .sl none 1 false (m.Blocked.map (V.int .i64)) :: .int .i64 m.Now :: []))), (1, .own 3 1 false none ((p31.2.2 ++ ([(gt m.Paid p31.2.1).Number] : List Int)).map (V.int .i64)))], 2⟩ : St) (by omega) sbQ sbQ ⟨((addI .i64 p31.1 (gt m.Paid p31.2.1).Amount), (p31.2.1 + 1), (p31.2.2 ++ ([(gt m.Paid p31.2.1).Number] : List Int))), rfl, ⟨omQ, omQ, omQ⟩, omQ, iter_again hM hag31⟩
                                  · rw [if_pos h38] at hM
                                    refine spQA (And.intro he18 (And.intro ha20 (And.intro ha31 (And.intro he33 (And.intro he37 h38))))) ?_
                                    have nh38 := nzQ h38
                                    subst hM
                                    exact retC_view (lfQA (And.intro he18 (And.intro ha20 (And.intro ha31 (And.intro he33 (And.intro he37 (And.intro h4 (And.intro h5 (And.intro h6 (And.intro h7 (And.intro h8 (And.intro h9 (And.intro h10 (And.intro h11 (And.intro h12 (And.intro h16 (And.intro h17 (And.intro h19 (And.intro h21 (And.intro h30 (And.intro h32 (And.intro h36 h38))))))))))))))))))))))
                                · rw [if_pos h36] at hM
                                  refine spQA (And.intro he18 (And.intro ha20 (And.intro ha31 (And.intro he33 h36)))) ?_
                                  have nh36 := nzQ h36
                                  subst hM
                                  exact retC_view (lfQA (And.intro he18 (And.intro ha20 (And.intro ha31 (And.intro he33 (And.intro h4 (And.intro h5 (And.intro h6 (And.intro h7 (And.intro h8 (And.intro h9 (And.intro h10 (And.intro h11 (And.intro h12 (And.intro h16 (And.intro h17 (And.intro h19 (And.intro h21 (And.intro h30 (And.intro h32 h36))))))))))))))))))))
                              · rw [if_neg (ne_true h32)] at hM
                                refine spQA (And.intro he18 (And.intro ha20 (And.intro ha31 h32))) ?_
                                have nh32 := nzQ h32
                                refine guardC_t (fun h43 => ?_) (fun h43 => ?_)
                                · rw [if_pos h43] at hM
                                  refine spQA (And.intro he18 (And.intro ha20 (And.intro ha31 h43))) ?_
                                  have nh43 := nzQ h43
                                  subst hM
                                  exact retC_view (lfQA (And.intro he18 (And.intro ha20 (And.intro ha31 (And.intro h4 (And.intro h5 (And.intro h6 (And.intro h7 (And.intro h8 (And.intro h9 (And.intro h10 (And.intro h11 (And.intro h12 (And.intro h16 (And.intro h17 (And.intro h19 (And.intro h21 (And.intro h30 (And.intro h32 h43)))))))))))))))))))
                                · rw [if_neg (ne_true h43)] at hM
                                  refine spQA (And.intro he18 (And.intro ha20 (And.intro ha31 h43))) ?_
                                  have nh43 := nzQ h43
                                  subst hM
                                  exact retC_view (lfQA (And.intro he18 (And.intro ha20 (And.intro ha31 (And.intro h4 (And.intro h5 (And.intro h6 (And.intro h7 (And.intro h8 (And.intro h9 (And.intro h10 (And.intro h11 (And.intro h12 (And.intro h16 (And.intro h17 (And.intro h19 (And.intro h21 (And.intro h30 (And.intro h32 h43)))))))))))))))))))
                      · rw [if_neg (ne_true h17)] at hM
                        refine spQA h17 ?_
                        have nh17 := nzQ h17
                        have hM0 := hM; clear hM; obtain ⟨f44, d44, hf44, hd44, hM⟩ := iter_opn hM0; clear hM0
                        refine ct_loopW (fun n S => ∃ p : Int × List Int, S = (⟨[(1, .ptr 0 0), (3, .own 1), (78, .sl none 35 true (m.Open.map e_api_Invoice)), (79, .int .i64 (m.Open.length : Int)), (80, .int .i64 p.1)], [(0, .var 40 true (.agg (.int .u8 (gt m.Name 0) :: .int .u8 (gt m.Name 1) :: .int .u8 (gt m.Name 2) :: .int .u8 (gt m.Name 3) :: .int .u8 (gt m.Name 4) :: .int .u8 (gt m.Name 5) :: .int .u8 (gt m.Name 6) :: .int .u8 (gt m.Name 7) :: .int .u8 (gt m.Name 8) :: .int .u8 (gt m.Name 9) :: .int .u8 (gt m.Name 10) :: .int .u8 (gt m.Name 11) :: .int .u8 (gt m.Name 12) :: .int .u8 (gt m.Name 13) :: .int .u8 (gt m.Name 14) :: .int .u8 (gt m.Name 15) :: .int .u8 (gt m.Name 16) :: .int .u8 (gt m.Name 17) :: .int .u8 (gt m.Name 18) :: .int .u8 (gt m.Name 19) :: .int .u8 (gt m.Name 20) :: .int .u8 (gt m.Name 21) :: .int .u8 (gt m.Name 22) :: .int .u8 (gt m.Name 23) :: .int .u8 (gt m.Name 24) :: .int .u8 (gt m.Name 25) :: .int .u8 (gt m.Name 26) :: .int .u8 (gt m.Name 27) :: .int .u8 (gt m.Name 28) :: .int .u8 (gt m.Name 29) :: .int .u8 (gt m.Name 30) :: .int .u8 (gt m.Name 31) :: .sl none 3 true (m.Policy.Rules.map e_api_Rule) :: .sl none 35 true (m.Open.map e_api_Invoice) :: .int .i64 m.Next :: .sl none 4 true (m.Queue.map e_api_Payment) :: .sl none 35 true (m.Paid.map e_api_Invoice) :: .int .i64 m.Total :: .sl none 1 false (m.Blocked.map (V.int .i64)) :: .int .i64 m.Now :: []))), (1, .own 3 1 false none (p.2.map (V.int .i64)))], 2⟩ : St) ∧ ((0 ≤ p.1) ∧ (p.1 ≤ (m.Open.length : Int)) ∧ (((p.2).length : Int) ≤ p.1)) ∧ ((m.Open.length : Int) - p.1).toNat < n ∧ iter n f44 d44 p = r) (((m.Open.length : Int) - 0).toNat + 1) _ (⟨[(1, .ptr 0 0), (3, .own 1), (78, .sl none 35 true (m.Open.map e_api_Invoice)), (79, .int .i64 (m.Open.length : Int)), (80, .int .i64 0)], [(0, .var 40 true (.agg (.int .u8 (gt m.Name 0) :: .int .u8 (gt m.Name 1) :: .int .u8 (gt m.Name 2) :: .int .u8 (gt m.Name 3) :: .int .u8 (gt m.Name 4) :: .int .u8 (gt m.Name 5) :: .int .u8 (gt m.Name 6) :: .int .u8 (gt m.Name 7) :: .int .u8 (gt m.Name 8) :: .int .u8 (gt m.Name 9) :: .int .u8 (gt m.Name 10) :: .int .u8 (gt m.Name 11) :: .int .u8 (gt m.Name 12) :: .int .u8 (gt m.Name 13) :: .int .u8 (gt m.Name 14) :: .int .u8 (gt m.Name 15) :: .int .u8 (gt m.Name 16) :: .int .u8 (gt m.Name 17) :: .int .u8 (gt m.Name 18) :: .int .u8 (gt m.Name 19) :: .int .u8 (gt m.Name 20) :: .int .u8 (gt m.Name 21) :: .int .u8 (gt m.Name 22) :: .int .u8 (gt m.Name 23) :: .int .u8 (gt m.Name 24) :: .int .u8 (gt m.Name 25) :: .int .u8 (gt m.Name 26) :: .int .u8 (gt m.Name 27) :: .int .u8 (gt m.Name 28) :: .int .u8 (gt m.Name 29) :: .int .u8 (gt m.Name 30) :: .int .u8 (gt m.Name 31) :: .sl none 3 true (m.Policy.Rules.map e_api_Rule) :: .sl none 35 true (m.Open.map e_api_Invoice) :: .int .i64 m.Next :: .sl none 4 true (m.Queue.map e_api_Payment) :: .sl none 35 true (m.Paid.map e_api_Invoice) :: .int .i64 m.Total :: .sl none 1 false (m.Blocked.map (V.int .i64)) :: .int .i64 m.Now :: []))), (1, .own 3 1 false none (([] : List Int).map (V.int .i64)))], 2⟩ : St) (weak_nil 3 3 rfl (by decide)) sbQ sbQ ⟨(0, ([] : List Int)), rfl, ⟨omQ, omQ, omQ⟩, (Nat.lt_succ_self _), hM⟩ ?_
                        clear hM
                        rintro n44 S ⟨p44, rfl, hfa44, hm44, hM⟩
                        have hM0 := hM; clear hM; obtain ⟨ag44, hag44, hM⟩ := iter_step hM0 (by omega) hf44; clear hM0
                        replace hfa44 := nzQ hfa44
                        replace hm44 := nzQ hm44
                        have ha44 : addI .i64 p44.1 1 = p44.1 + 1 := add_one omQ omQ
                        refine spQA ha44 ?_
                        refine condC_intro (fun h45 => ?_) (fun h45 => ?_)
                        · rw [if_pos h45] at hM
                          refine spQA (And.intro ha44 h45) ?_
                          have nh45 := nzQ h45
                          refine bindC_intro omQ ?_
                          have he46 := fun d => elt_mp (l := m.Open) (f := e_api_Invoice) (i := p44.1) omQ d
                          refine spQA (And.intro ha44 he46) ?_
                          have hM0 := hM; clear hM; obtain ⟨x47, hx48, hM⟩ := letk_opn hM0; clear hM0
                          have hcx47 := merchant_invoice_ok  m (gt m.Open p44.1) 
                          rw [← hx48] at hcx47
                          refine callC_give hcx47 (clQA (And.intro ha44 he46)) (clQA (And.intro ha44 he46)) (fun hw49 => ?_)
                          replace hw49 := nzQ hw49
                          refine spQA (And.intro ha44 he46) ?_
                          refine condC_intro (fun h50 => ?_) (fun h50 => ?_)
                          · rw [if_pos h50] at hM
                            refine spQA (And.intro ha44 (And.intro he46 h50)) ?_
                            have nh50 := nzQ h50
                            subst hM
                            exact retC_view (lfQA (And.intro ha44 (And.intro he46 (And.intro h4 (And.intro h5 (And.intro h6 (And.intro h7 (And.intro h8 (And.intro h9 (And.intro h10 (And.intro h11 (And.intro h12 (And.intro h16 (And.intro h17 (And.intro h45 h50)))))))))))))))
                          · rw [if_neg (ne_true h50)] at hM
                            refine spQA (And.intro ha44 (And.intro he46 h50)) ?_
                            have nh50 := nzQ h50
                            refine bindC_intro omQ ?_
                            refine spQA (And.intro ha44 he46) ?_
                            refine lp_intro (n44 - 1) (⟨[(1, .ptr 0 0), (3, .own 1), (78, .sl none 35 true (m.Open.map e_api_Invoice)), (79, .int .i64 (m.Open.length : Int)), (80, .int .i64 (p44.1 + 1))], [(0, .var 40 true (.agg (.int .u8 (gt m.Name 0) :: .int .u8 (gt m.Name 1) :: .int .u8 (gt m.Name 2) :: .int .u8 (gt m.Name 3) :: .int .u8 (gt m.Name 4) :: .int .u8 (gt m.Name 5) :: .int .u8 (gt m.Name 6) :: .int .u8 (gt m.Name 7) :: .int .u8 (gt m.Name 8) :: .int .u8 (gt m.Name 9) :: .int .u8 (gt m.Name 10) :: .int .u8 (gt m.Name 11) :: .int .u8 (gt m.Name 12) :: .int .u8 (gt m.Name 13) :: .int .u8 (gt m.Name 14) :: .int .u8 (gt m.Name 15) :: .int .u8 (gt m.Name 16) :: .int .u8 (gt m.Name 17) :: .int .u8 (gt m.Name 18) :: .int .u8 (gt m.Name 19) :: .int .u8 (gt m.Name 20) :: .int .u8 (gt m.Name 21) :: .int .u8 (gt m.Name 22) :: .int .u8 (gt m.Name 23) :: .int .u8 (gt m.Name 24) :: .int .u8 (gt m.Name 25) :: .int .u8 (gt m.Name 26) :: .int .u8 (gt m.Name 27) :: .int .u8 (gt m.Name 28) :: .int .u8 (gt m.Name 29) :: .int .u8 (gt m.Name 30) :: .int .u8 (gt m.Name 31) :: .sl none 3 true (m.Policy.Rules.map e_api_Rule) :: .sl none 35 true (m.Open.map e_api_Invoice) :: .int .i64 m.Next :: .sl none 4 true (m.Queue.map e_api_Payment) :: .sl none 35 true (m.Paid.map e_api_Invoice) :: .int .i64 m.Total :: .sl none 1 false (m.Blocked.map (V.int .i64)) :: .int .i64 m.Now :: []))), (1, .own 3 1 false none ((p44.2 ++ ([(gt m.Open p44.1).Number] : List Int)).map (V.int .i64)))], 2⟩ : St) (by omega) sbQ sbQ ⟨((p44.1 + 1), (p44.2 ++ ([(gt m.Open p44.1).Number] : List Int))), rfl, ⟨omQ, omQ, omQ⟩, omQ, iter_again hM hag44⟩
                        · rw [if_neg (ne_true h45)] at hM
                          refine spQA (And.intro ha44 h45) ?_
                          have nh45 := nzQ h45
                          have hM0 := hM; clear hM; obtain ⟨x51, hx52, hM⟩ := letk_opn hM0; clear hM0
                          have hcx51 := merchant_ascends_ok none (p44.2) 
                          rw [← hx52] at hcx51
                          refine callC_look hcx51 (clQA ha44) (clQA ha44) (fun hw53 => ?_)
                          replace hw53 := nzQ hw53
                          refine spQA ha44 ?_
                          refine condC_intro (fun h54 => ?_) (fun h54 => ?_)
                          · rw [if_pos h54] at hM
                            refine spQA (And.intro ha44 h54) ?_
                            have nh54 := nzQ h54
                            subst hM
                            exact retC_view (lfQA (And.intro ha44 (And.intro h4 (And.intro h5 (And.intro h6 (And.intro h7 (And.intro h8 (And.intro h9 (And.intro h10 (And.intro h11 (And.intro h12 (And.intro h16 (And.intro h17 (And.intro h45 h54))))))))))))))
                          · rw [if_neg (ne_true h54)] at hM
                            refine spQA (And.intro ha44 h54) ?_
                            have nh54 := nzQ h54
                            have hM0 := hM; clear hM; obtain ⟨f55, d55, hf55, hd55, hM⟩ := iter_opn hM0; clear hM0
                            refine ct_loop (fun n S => ∃ p : Int × Int × List Int, S = (⟨[(1, .ptr 0 0), (3, .own 1), (6, .int .i64 p.1), (98, .sl none 35 true (m.Paid.map e_api_Invoice)), (99, .int .i64 (m.Paid.length : Int)), (100, .int .i64 p.2.1)], [(0, .var 40 true (.agg (.int .u8 (gt m.Name 0) :: .int .u8 (gt m.Name 1) :: .int .u8 (gt m.Name 2) :: .int .u8 (gt m.Name 3) :: .int .u8 (gt m.Name 4) :: .int .u8 (gt m.Name 5) :: .int .u8 (gt m.Name 6) :: .int .u8 (gt m.Name 7) :: .int .u8 (gt m.Name 8) :: .int .u8 (gt m.Name 9) :: .int .u8 (gt m.Name 10) :: .int .u8 (gt m.Name 11) :: .int .u8 (gt m.Name 12) :: .int .u8 (gt m.Name 13) :: .int .u8 (gt m.Name 14) :: .int .u8 (gt m.Name 15) :: .int .u8 (gt m.Name 16) :: .int .u8 (gt m.Name 17) :: .int .u8 (gt m.Name 18) :: .int .u8 (gt m.Name 19) :: .int .u8 (gt m.Name 20) :: .int .u8 (gt m.Name 21) :: .int .u8 (gt m.Name 22) :: .int .u8 (gt m.Name 23) :: .int .u8 (gt m.Name 24) :: .int .u8 (gt m.Name 25) :: .int .u8 (gt m.Name 26) :: .int .u8 (gt m.Name 27) :: .int .u8 (gt m.Name 28) :: .int .u8 (gt m.Name 29) :: .int .u8 (gt m.Name 30) :: .int .u8 (gt m.Name 31) :: .sl none 3 true (m.Policy.Rules.map e_api_Rule) :: .sl none 35 true (m.Open.map e_api_Invoice) :: .int .i64 m.Next :: .sl none 4 true (m.Queue.map e_api_Payment) :: .sl none 35 true (m.Paid.map e_api_Invoice) :: .int .i64 m.Total :: .sl none 1 false (m.Blocked.map (V.int .i64)) :: .int .i64 m.Now :: []))), (1, .own 3 1 false none (p.2.2.map (V.int .i64)))], 2⟩ : St) ∧ ((0 ≤ p.2.1) ∧ (p.2.1 ≤ (m.Paid.length : Int)) ∧ (((p.2.2).length : Int) ≤ p.2.1 + (p44.2).length)) ∧ ((m.Paid.length : Int) - p.2.1).toNat < n ∧ iter n f55 d55 p = r) (((m.Paid.length : Int) - 0).toNat + 1) (⟨[(1, .ptr 0 0), (3, .own 1), (6, .int .i64 0), (98, .sl none 35 true (m.Paid.map e_api_Invoice)), (99, .int .i64 (m.Paid.length : Int)), (100, .int .i64 0)], [(0, .var 40 true (.agg (.int .u8 (gt m.Name 0) :: .int .u8 (gt m.Name 1) :: .int .u8 (gt m.Name 2) :: .int .u8 (gt m.Name 3) :: .int .u8 (gt m.Name 4) :: .int .u8 (gt m.Name 5) :: .int .u8 (gt m.Name 6) :: .int .u8 (gt m.Name 7) :: .int .u8 (gt m.Name 8) :: .int .u8 (gt m.Name 9) :: .int .u8 (gt m.Name 10) :: .int .u8 (gt m.Name 11) :: .int .u8 (gt m.Name 12) :: .int .u8 (gt m.Name 13) :: .int .u8 (gt m.Name 14) :: .int .u8 (gt m.Name 15) :: .int .u8 (gt m.Name 16) :: .int .u8 (gt m.Name 17) :: .int .u8 (gt m.Name 18) :: .int .u8 (gt m.Name 19) :: .int .u8 (gt m.Name 20) :: .int .u8 (gt m.Name 21) :: .int .u8 (gt m.Name 22) :: .int .u8 (gt m.Name 23) :: .int .u8 (gt m.Name 24) :: .int .u8 (gt m.Name 25) :: .int .u8 (gt m.Name 26) :: .int .u8 (gt m.Name 27) :: .int .u8 (gt m.Name 28) :: .int .u8 (gt m.Name 29) :: .int .u8 (gt m.Name 30) :: .int .u8 (gt m.Name 31) :: .sl none 3 true (m.Policy.Rules.map e_api_Rule) :: .sl none 35 true (m.Open.map e_api_Invoice) :: .int .i64 m.Next :: .sl none 4 true (m.Queue.map e_api_Payment) :: .sl none 35 true (m.Paid.map e_api_Invoice) :: .int .i64 m.Total :: .sl none 1 false (m.Blocked.map (V.int .i64)) :: .int .i64 m.Now :: []))), (1, .own 3 1 false none (p44.2.map (V.int .i64)))], 2⟩ : St) sbQ sbQ ⟨(0, 0, p44.2), rfl, ⟨omQ, omQ, omQ⟩, (Nat.lt_succ_self _), hM⟩ ?_
                            clear hM
                            rintro n55 S ⟨p55, rfl, hfa55, hm55, hM⟩
                            have hM0 := hM; clear hM; obtain ⟨ag55, hag55, hM⟩ := iter_step hM0 (by omega) hf55; clear hM0
                            replace hfa55 := nzQ hfa55
                            replace hm55 := nzQ hm55
                            have ha55 : addI .i64 p55.2.1 1 = p55.2.1 + 1 := add_one omQ omQ
                            refine spQA (And.intro ha44 ha55) ?_
                            refine condC_intro (fun h56 => ?_) (fun h56 => ?_)
                            · rw [if_pos h56] at hM
                              refine spQA (And.intro ha44 (And.intro ha55 h56)) ?_
                              have nh56 := nzQ h56
                              refine bindC_intro omQ ?_
                              have he57 := fun d => elt_mp (l := m.Paid) (f := e_api_Invoice) (i := p55.2.1) omQ d
                              refine spQA (And.intro ha44 (And.intro ha55 he57)) ?_
                              refine ct_draw 144 19 [105, 106, 107, 108, 109, 110, 111, 112, 113, 114, 115, 116, 117, 118, 119, 120, 121, 122, 123] [] ([[], [], [0, 1], [0, 1, 2], [0, 1, 2, 3], [0, 1, 2, 3, 4], [0, 1, 2, 3, 4, 5], [0, 1, 2, 3, 4], [0, 1, 2, 3, 4, 5, 6, 7], [0, 1, 2, 3, 4, 5, 6, 7, 8], [0, 1, 2, 3, 4, 5, 6, 7, 8, 9], [0, 1, 2, 3, 4], [0, 1, 2, 3, 4, 11], [0, 1, 2, 3, 4, 5, 6, 7, 8, 9, 10, 11, 12], [0, 1, 2, 3, 4, 5, 6, 7, 8, 9, 10, 11, 12, 13], [0, 1, 2, 3, 4, 5, 6, 7, 8, 9, 10, 11, 12, 13, 14], [0, 1, 2, 3, 4, 5, 6, 7, 8, 9, 10, 11, 12, 13, 14, 15], [0, 1, 2, 3, 4, 5, 6, 7, 8, 9, 10, 11, 12, 13, 14, 15], [0, 1, 2, 3, 4, 5, 6, 7, 8, 9, 10, 11, 12, 13, 14, 15, 17]] ++ [List.range 19, List.range 20]) [] (by kernel_rfl) (by exact alQ) ?_
                              refine spQA (And.intro ha44 (And.intro ha55 he57)) ?_
                              have hM0 := hM; clear hM; obtain ⟨x58, hx59, hM⟩ := letk_opn hM0; clear hM0
                              have hcx58 := merchant_invoice_ok  m (gt m.Paid p55.2.1) 
                              rw [← hx59] at hcx58
                              refine hcallC_give hcx58 (clQA (And.intro ha44 (And.intro ha55 he57))) (clQA (And.intro ha44 (And.intro ha55 he57))) ?_
                              refine spQA (And.intro ha44 (And.intro ha55 he57)) ?_
                              refine hguardC_f (fun h60 => ?_) (fun h60 => ?_)
                              · rw [if_neg (ne_true h60)] at hM
                                refine spQA (And.intro ha44 (And.intro ha55 (And.intro he57 h60))) ?_
                                have nh60 := nzQ h60
                                refine hbindC_intro omQ ?_
                                have he61 := fun d => elt_mp (l := m.Queue) (f := e_api_Payment) (i := p55.2.1) omQ d
                                refine spQA (And.intro ha44 (And.intro ha55 (And.intro he57 he61))) ?_
                                refine hguardC_f (fun h62 => ?_) (fun h62 => ?_)
                                · rw [if_neg (ne_true h62)] at hM
                                  refine spQA (And.intro ha44 (And.intro ha55 (And.intro he57 (And.intro he61 h62)))) ?_
                                  have nh62 := nzQ h62
                                  have hM0 := hM; clear hM; obtain ⟨x63, hx64, hM⟩ := letk_opn hM0; clear hM0
                                  have hcx63 := slices_Contains_int_int_ok none (p55.2.2) ((gt m.Paid p55.2.1).Number) 
                                  rw [← hx64] at hcx63
                                  refine callC_look hcx63 (clQA (And.intro ha44 (And.intro ha55 (And.intro he57 he61)))) (clQA (And.intro ha44 (And.intro ha55 (And.intro he57 he61)))) (fun hw65 => ?_)
                                  replace hw65 := nzQ hw65
                                  refine spQA (And.intro ha44 (And.intro ha55 (And.intro he57 he61))) ?_
                                  refine condC_intro (fun h66 => ?_) (fun h66 => ?_)
                                  · subst h66
                                    rw [if_pos rfl] at hM
                                    refine spQA (And.intro ha44 (And.intro ha55 (And.intro he57 he61))) ?_
                                    subst hM
                                    exact retC_view (lfQA (And.intro ha44 (And.intro ha55 (And.intro he57 (And.intro he61 (And.intro h4 (And.intro h5 (And.intro h6 (And.intro h7 (And.intro h8 (And.intro h9 (And.intro h10 (And.intro h11 (And.intro h12 (And.intro h16 (And.intro h17 (And.intro h45 (And.intro h54 (And.intro h56 (And.intro h60 h62))))))))))))))))))))
                                  · subst h66
                                    rw [if_neg (by decide)] at hM
                                    refine spQA (And.intro ha44 (And.intro ha55 (And.intro he57 he61))) ?_
                                    refine bindC_intro omQ ?_
                                    refine spQA (And.intro ha44 (And.intro ha55 (And.intro he57 he61))) ?_
                                    refine lp_intro (n55 - 1) (⟨[(1, .ptr 0 0), (3, .own 1), (6, .int .i64 (addI .i64 p55.1 (gt m.Paid p55.2.1).Amount)), (98, .sl none 35 true (m.Paid.map e_api_Invoice)), (99, .int .i64 (m.Paid.length : Int)), (100, .int .i64 (p55.2.1 + 1))], [(0, .var 40 true (.agg (.int .u8 (gt m.Name 0) :: .int .u8 (gt m.Name 1) :: .int .u8 (gt m.Name 2) :: .int .u8 (gt m.Name 3) :: .int .u8 (gt m.Name 4) :: .int .u8 (gt m.Name 5) :: .int .u8 (gt m.Name 6) :: .int .u8 (gt m.Name 7) :: .int .u8 (gt m.Name 8) :: .int .u8 (gt m.Name 9) :: .int .u8 (gt m.Name 10) :: .int .u8 (gt m.Name 11) :: .int .u8 (gt m.Name 12) :: .int .u8 (gt m.Name 13) :: .int .u8 (gt m.Name 14) :: .int .u8 (gt m.Name 15) :: .int .u8 (gt m.Name 16) :: .int .u8 (gt m.Name 17) :: .int .u8 (gt m.Name 18) :: .int .u8 (gt m.Name 19) :: .int .u8 (gt m.Name 20) :: .int .u8 (gt m.Name 21) :: .int .u8 (gt m.Name 22) :: .int .u8 (gt m.Name 23) :: .int .u8 (gt m.Name 24) :: .int .u8 (gt m.Name 25) :: .int .u8 (gt m.Name 26) :: .int .u8 (gt m.Name 27) :: .int .u8 (gt m.Name 28) :: .int .u8 (gt m.Name 29) :: .int .u8 (gt m.Name 30) :: .int .u8 (gt m.Name 31) :: .sl none 3 true (m.Policy.Rules.map e_api_Rule) :: .sl none 35 true (m.Open.map e_api_Invoice) :: .int .i64 m.Next :: .sl none 4 true (m.Queue.map e_api_Payment) :: .sl none 35 true (m.Paid.map e_api_Invoice) :: .int .i64 m.Total :: .sl none 1 false (m.Blocked.map (V.int .i64)) :: .int .i64 m.Now :: []))), (1, .own 3 1 false none ((p55.2.2 ++ ([(gt m.Paid p55.2.1).Number] : List Int)).map (V.int .i64)))], 2⟩ : St) (by omega) sbQ sbQ ⟨((addI .i64 p55.1 (gt m.Paid p55.2.1).Amount), (p55.2.1 + 1), (p55.2.2 ++ ([(gt m.Paid p55.2.1).Number] : List Int))), rfl, ⟨omQ, omQ, omQ⟩, omQ, iter_again hM hag55⟩
                                · rw [if_pos h62] at hM
                                  refine spQA (And.intro ha44 (And.intro ha55 (And.intro he57 (And.intro he61 h62)))) ?_
                                  have nh62 := nzQ h62
                                  subst hM
                                  exact retC_view (lfQA (And.intro ha44 (And.intro ha55 (And.intro he57 (And.intro he61 (And.intro h4 (And.intro h5 (And.intro h6 (And.intro h7 (And.intro h8 (And.intro h9 (And.intro h10 (And.intro h11 (And.intro h12 (And.intro h16 (And.intro h17 (And.intro h45 (And.intro h54 (And.intro h56 (And.intro h60 h62))))))))))))))))))))
                              · rw [if_pos h60] at hM
                                refine spQA (And.intro ha44 (And.intro ha55 (And.intro he57 h60))) ?_
                                have nh60 := nzQ h60
                                subst hM
                                exact retC_view (lfQA (And.intro ha44 (And.intro ha55 (And.intro he57 (And.intro h4 (And.intro h5 (And.intro h6 (And.intro h7 (And.intro h8 (And.intro h9 (And.intro h10 (And.intro h11 (And.intro h12 (And.intro h16 (And.intro h17 (And.intro h45 (And.intro h54 (And.intro h56 h60))))))))))))))))))
                            · rw [if_neg (ne_true h56)] at hM
                              refine spQA (And.intro ha44 (And.intro ha55 h56)) ?_
                              have nh56 := nzQ h56
                              refine guardC_t (fun h67 => ?_) (fun h67 => ?_)
                              · rw [if_pos h67] at hM
                                refine spQA (And.intro ha44 (And.intro ha55 h67)) ?_
                                have nh67 := nzQ h67
                                subst hM
                                exact retC_view (lfQA (And.intro ha44 (And.intro ha55 (And.intro h4 (And.intro h5 (And.intro h6 (And.intro h7 (And.intro h8 (And.intro h9 (And.intro h10 (And.intro h11 (And.intro h12 (And.intro h16 (And.intro h17 (And.intro h45 (And.intro h54 (And.intro h56 h67)))))))))))))))))
                              · rw [if_neg (ne_true h67)] at hM
                                refine spQA (And.intro ha44 (And.intro ha55 h67)) ?_
                                have nh67 := nzQ h67
                                subst hM
                                exact retC_view (lfQA (And.intro ha44 (And.intro ha55 (And.intro h4 (And.intro h5 (And.intro h6 (And.intro h7 (And.intro h8 (And.intro h9 (And.intro h10 (And.intro h11 (And.intro h12 (And.intro h16 (And.intro h17 (And.intro h45 (And.intro h54 (And.intro h56 h67)))))))))))))))))
                    · rw [if_pos h16] at hM
                      refine spQA h16 ?_
                      have nh16 := nzQ h16
                      subst hM
                      exact retC_view (lfQA (And.intro h4 (And.intro h5 (And.intro h6 (And.intro h7 (And.intro h8 (And.intro h9 (And.intro h10 (And.intro h11 (And.intro h12 h16))))))))))
                  · rw [if_pos h12] at hM
                    refine spQA h12 ?_
                    have nh12 := nzQ h12
                    subst hM
                    exact retC_view (lfQA (And.intro h4 (And.intro h5 (And.intro h6 (And.intro h7 (And.intro h8 (And.intro h9 (And.intro h10 (And.intro h11 h12)))))))))
                · rw [if_pos h11] at hM
                  refine spQA h11 ?_
                  have nh11 := nzQ h11
                  subst hM
                  exact retC_view (lfQA (And.intro h4 (And.intro h5 (And.intro h6 (And.intro h7 (And.intro h8 (And.intro h9 (And.intro h10 h11))))))))
              · rw [if_pos h10] at hM
                refine spQA h10 ?_
                have nh10 := nzQ h10
                subst hM
                exact retC_view (lfQA (And.intro h4 (And.intro h5 (And.intro h6 (And.intro h7 (And.intro h8 (And.intro h9 h10)))))))
            · rw [if_pos h9] at hM
              refine spQA h9 ?_
              have nh9 := nzQ h9
              subst hM
              exact retC_view (lfQA (And.intro h4 (And.intro h5 (And.intro h6 (And.intro h7 (And.intro h8 h9))))))
        · rw [if_pos h7] at hM
          refine spQA h7 ?_
          have nh7 := nzQ h7
          subst hM
          exact retC_view (lfQA (And.intro h4 (And.intro h5 (And.intro h6 h7))))
      · rw [if_pos h6] at hM
        refine spQA h6 ?_
        have nh6 := nzQ h6
        subst hM
        exact retC_view (lfQA (And.intro h4 (And.intro h5 h6)))
    · rw [if_pos h5] at hM
      refine spQA h5 ?_
      have nh5 := nzQ h5
      subst hM
      exact retC_view (lfQA (And.intro h4 h5))
  · rw [if_pos h4] at hM
    refine spQA h4 ?_
    have nh4 := nzQ h4
    subst hM
    exact retC_view (lfQA h4)
set_option maxHeartbeats 2000000 in
set_option maxRecDepth 100000 in
theorem merchant_hour_ok   (now : Int)  : CallOk En 28 [.int .i64 now] (.int .i64 (merchant_hour now)) [] := by
  generalize hM : merchant_hour now = r
  rw [merchant_hour.eq_1] at hM
  refine enterV En_ok En_mo noJ Try.func28 rfl Try.ntmps28 (by kernel_rfl) fun hw => ct_start ?_
  refine spQ ?_
  replace hw := nzQ hw
  refine bindC_intro omQ ?_
  refine spQ ?_
  refine bindC_intro omQ ?_
  refine spQ ?_
  subst hM
  exact retC_view lfQ
set_option maxHeartbeats 2000000 in
set_option maxRecDepth 100000 in
theorem policy_accepts_ok   (r_ : S_api_Rule) (amount : Int) (number : Int) (transfers : Int) (hour : Int) (sum : Int)  : CallOk En 70 [.agg [.int .i64 r_.Kind, .int .i64 r_.A, .int .i64 r_.B], .int .i64 amount, .int .i64 number, .int .i64 transfers, .int .i64 hour, .int .i64 sum] (.bool (policy_accepts r_ amount number transfers hour sum)) [] := by
  generalize hM : policy_accepts r_ amount number transfers hour sum = r
  rw [policy_accepts.eq_1] at hM
  refine enterV En_ok En_mo noJ Try.func70 rfl Try.ntmps70 (by kernel_rfl) fun hw => ct_start ?_
  refine spQ ?_
  replace hw := nzQ hw
  refine condC_intro (fun h1 => ?_) (fun h1 => ?_)
  · rw [if_pos h1] at hM
    refine spQA h1 ?_
    have nh1 := nzQ h1
    subst hM
    exact retC_view (lfQA h1)
  · rw [if_neg (ne_true h1)] at hM
    refine spQA h1 ?_
    have nh1 := nzQ h1
    refine condC_intro (fun h2 => ?_) (fun h2 => ?_)
    · rw [if_pos h2] at hM
      refine spQA h2 ?_
      have nh2 := nzQ h2
      subst hM
      exact retC_view (lfQA (And.intro h1 h2))
    · rw [if_neg (ne_true h2)] at hM
      refine spQA h2 ?_
      have nh2 := nzQ h2
      refine condC_intro (fun h3 => ?_) (fun h3 => ?_)
      · rw [if_pos h3] at hM
        refine spQA h3 ?_
        have nh3 := nzQ h3
        subst hM
        exact retC_view (lfQA (And.intro h1 (And.intro h2 h3)))
      · rw [if_neg (ne_true h3)] at hM
        refine spQA h3 ?_
        have nh3 := nzQ h3
        refine condC_intro (fun h4 => ?_) (fun h4 => ?_)
        · rw [if_pos h4] at hM
          refine spQA h4 ?_
          have nh4 := nzQ h4
          subst hM
          exact retC_view (lfQA (And.intro h1 (And.intro h2 (And.intro h3 h4))))
        · rw [if_neg (ne_true h4)] at hM
          refine spQA h4 ?_
          have nh4 := nzQ h4
          refine condC_intro (fun h5 => ?_) (fun h5 => ?_)
          · rw [if_pos h5] at hM
            refine spQA h5 ?_
            have nh5 := nzQ h5
            refine guardC_t (fun h6 => ?_) (fun h6 => ?_)
            · rw [if_pos h6] at hM
              refine spQA h6 ?_
              have nh6 := nzQ h6
              subst hM
              exact retC_view (lfQA (And.intro h1 (And.intro h2 (And.intro h3 (And.intro h4 (And.intro h5 h6))))))
            · rw [if_neg (ne_true h6)] at hM
              refine spQA h6 ?_
              have nh6 := nzQ h6
              subst hM
              exact retC_view (lfQA (And.intro h1 (And.intro h2 (And.intro h3 (And.intro h4 (And.intro h5 h6))))))
          · rw [if_neg (ne_true h5)] at hM
            refine spQA h5 ?_
            have nh5 := nzQ h5
            refine guardC_f (fun h7 => ?_) (fun h7 => ?_)
            · rw [if_neg (ne_true h7)] at hM
              refine spQA h7 ?_
              have nh7 := nzQ h7
              subst hM
              exact retC_view (lfQA (And.intro h1 (And.intro h2 (And.intro h3 (And.intro h4 (And.intro h5 h7))))))
            · rw [if_pos h7] at hM
              refine spQA h7 ?_
              have nh7 := nzQ h7
              subst hM
              exact retC_view (lfQA (And.intro h1 (And.intro h2 (And.intro h3 (And.intro h4 (And.intro h5 h7))))))
set_option maxHeartbeats 2000000 in
set_option maxRecDepth 100000 in
theorem policy_Accepts_1_ok   (r_ : S_api_Rule) (c0 : Int) (c1 : Int) (c2 : Int) (c3 : Int) (c4 : Int)  : CallOk En 69 [.agg [.int .i64 r_.Kind, .int .i64 r_.A, .int .i64 r_.B], .pp 1 false (.int .i64 c0), .pp 1 false (.int .i64 c1), .pp 1 false (.int .i64 c2), .pp 1 false (.int .i64 c3), .pp 1 false (.int .i64 c4)] (.bool (policy_Accepts_1 r_ c0 c1 c2 c3 c4)) [] := by
  generalize hM : policy_Accepts_1 r_ c0 c1 c2 c3 c4 = r
  rw [policy_Accepts_1.eq_1] at hM
  refine enterV En_ok En_mo noJ Try.func69 rfl Try.ntmps69 (by kernel_rfl) fun hw => ct_start ?_
  refine spQ ?_
  replace hw := nzQ hw
  have hM0 := hM; clear hM; obtain ⟨x1, hx2, hM⟩ := letk_opn hM0; clear hM0
  have hcx1 := policy_accepts_ok  r_ c0 c1 c2 c3 c4 
  rw [← hx2] at hcx1
  refine callC_give hcx1 clQ clQ (fun hw3 => ?_)
  replace hw3 := nzQ hw3
  refine spQ ?_
  subst hM
  exact retC_view lfQ
set_option maxHeartbeats 2000000 in
set_option maxRecDepth 100000 in
theorem slices_IndexFunc_api_Rule_api_Rule_at_policy_Accepts_1_ok  (z0 : Option Bool) (s : (List S_api_Rule)) (f__c0 : Int) (f__c1 : Int) (f__c2 : Int) (f__c3 : Int) (f__c4 : Int)  : CallOk En 68 [.sl z0 3 true (s.map e_api_Rule), .fn 69 [.pp 1 false (.int .i64 f__c0), .pp 1 false (.int .i64 f__c1), .pp 1 false (.int .i64 f__c2), .pp 1 false (.int .i64 f__c3), .pp 1 false (.int .i64 f__c4)]] (.int .i64 (slices_IndexFunc_api_Rule_api_Rule_at_policy_Accepts_1 s f__c0 f__c1 f__c2 f__c3 f__c4)) [] := by
  generalize hM : slices_IndexFunc_api_Rule_api_Rule_at_policy_Accepts_1 s f__c0 f__c1 f__c2 f__c3 f__c4 = r
  rw [slices_IndexFunc_api_Rule_api_Rule_at_policy_Accepts_1.eq_1] at hM
  refine enterV En_ok En_mo noJ Try.func68 rfl Try.ntmps68 (by kernel_rfl) fun hw => ct_start ?_
  refine spQ ?_
  replace hw := nzQ hw
  have hM0 := hM; clear hM; obtain ⟨f1, d1, hf1, hd1, hM⟩ := iter_opn hM0; clear hM0
  refine ct_loop (fun n S => ∃ p : Int, S = (⟨[(0, .sl z0 3 true (s.map e_api_Rule)), (1, .fn 69 [.pp 1 false (.int .i64 f__c0), .pp 1 false (.int .i64 f__c1), .pp 1 false (.int .i64 f__c2), .pp 1 false (.int .i64 f__c3), .pp 1 false (.int .i64 f__c4)]), (7, .int .i64 (s.length : Int)), (8, .int .i64 p)], [], 0⟩ : St) ∧ ((0 ≤ p) ∧ (p ≤ (s.length : Int))) ∧ ((s.length : Int) - p).toNat < n ∧ iter n f1 d1 p = r) (((s.length : Int) - 0).toNat + 1) (⟨[(0, .sl z0 3 true (s.map e_api_Rule)), (1, .fn 69 [.pp 1 false (.int .i64 f__c0), .pp 1 false (.int .i64 f__c1), .pp 1 false (.int .i64 f__c2), .pp 1 false (.int .i64 f__c3), .pp 1 false (.int .i64 f__c4)]), (7, .int .i64 (s.length : Int)), (8, .int .i64 0)], [], 0⟩ : St) sbQ sbQ ⟨0, rfl, ⟨omQ, omQ⟩, (Nat.lt_succ_self _), hM⟩ ?_
  clear hM
  rintro n1 S ⟨p1, rfl, hfa1, hm1, hM⟩
  have hM0 := hM; clear hM; obtain ⟨ag1, hag1, hM⟩ := iter_step hM0 (by omega) hf1; clear hM0
  replace hfa1 := nzQ hfa1
  replace hm1 := nzQ hm1
  have ha1 : addI .i64 p1 1 = p1 + 1 := add_one omQ omQ
  refine spQA ha1 ?_
  refine condC_intro (fun h2 => ?_) (fun h2 => ?_)
  · rw [if_pos h2] at hM
    refine spQA (And.intro ha1 h2) ?_
    have nh2 := nzQ h2
    refine bindC_intro omQ ?_
    have he3 := fun d => elt_mp (l := s) (f := e_api_Rule) (i := p1) omQ d
    refine spQA (And.intro ha1 he3) ?_
    have hM0 := hM; clear hM; obtain ⟨x4, hx5, hM⟩ := letk_opn hM0; clear hM0
    have hcx4 := policy_Accepts_1_ok  (gt s p1) f__c0 f__c1 f__c2 f__c3 f__c4 
    rw [← hx5] at hcx4
    refine callC_give hcx4 (clQA (And.intro ha1 he3)) (clQA (And.intro ha1 he3)) (fun hw6 => ?_)
    replace hw6 := nzQ hw6
    refine spQA (And.intro ha1 he3) ?_
    refine condC_intro (fun h7 => ?_) (fun h7 => ?_)
    · subst h7
      rw [if_pos rfl] at hM
      refine spQA (And.intro ha1 he3) ?_
      subst hM
      exact retC_view (lfQA (And.intro ha1 (And.intro he3 h2)))
    · subst h7
      rw [if_neg (by decide)] at hM
      refine spQA (And.intro ha1 he3) ?_
      refine lp_intro (n1 - 1) (⟨[(0, .sl z0 3 true (s.map e_api_Rule)), (1, .fn 69 [.pp 1 false (.int .i64 f__c0), .pp 1 false (.int .i64 f__c1), .pp 1 false (.int .i64 f__c2), .pp 1 false (.int .i64 f__c3), .pp 1 false (.int .i64 f__c4)]), (7, .int .i64 (s.length : Int)), (8, .int .i64 (p1 + 1))], [], 0⟩ : St) (by omega) sbQ sbQ ⟨(p1 + 1), rfl, ⟨omQ, omQ⟩, omQ, iter_again hM hag1⟩
  · rw [if_neg (ne_true h2)] at hM
    refine spQA (And.intro ha1 h2) ?_
    have nh2 := nzQ h2
    subst hM
    exact retC_view (lfQA (And.intro ha1 h2))
set_option maxHeartbeats 2000000 in
set_option maxRecDepth 100000 in
theorem policy_Accepts_ok   (p_ : S_api_Policy) (amount : Int) (number : Int) (transfers : Int) (hour : Int) (sum : Int)  : CallOk En 43 [.agg [.sl none 3 true (p_.Rules.map e_api_Rule)], .int .i64 amount, .int .i64 number, .int .i64 transfers, .int .i64 hour, .int .i64 sum] (.tup [.bool (policy_Accepts p_ amount number transfers hour sum).1, .int .i64 (policy_Accepts p_ amount number transfers hour sum).2]) [] := by
  generalize hM : policy_Accepts p_ amount number transfers hour sum = r
  rw [policy_Accepts.eq_1] at hM
  refine enterV En_ok En_mo noJ Try.func43 rfl Try.ntmps43 (by kernel_rfl) fun hw => ct_start ?_
  refine spQ ?_
  replace hw := nzQ hw
  have hM0 := hM; clear hM; obtain ⟨x1, hx2, hM⟩ := letk_opn hM0; clear hM0
  have hcx1 := policy_Valid_ok  p_ 
  rw [← hx2] at hcx1
  refine callC_give hcx1 clQ clQ (fun hw3 => ?_)
  replace hw3 := nzQ hw3
  refine spQ ?_
  refine guardC_f (fun h4 => ?_) (fun h4 => ?_)
  · rw [if_neg (ne_true h4)] at hM
    refine spQA h4 ?_
    have nh4 := nzQ h4
    have hM0 := hM; clear hM; obtain ⟨x5, hx6, hM⟩ := letk_opn hM0; clear hM0
    have hcx5 := policy_within_ok  amount 0 1099511627776 
    rw [← hx6] at hcx5
    refine callC_give hcx5 clQ clQ (fun hw7 => ?_)
    replace hw7 := nzQ hw7
    refine spQ ?_
    refine guardC_f (fun h8 => ?_) (fun h8 => ?_)
    · rw [if_neg (ne_true h8)] at hM
      refine spQA h8 ?_
      have nh8 := nzQ h8
      have hM0 := hM; clear hM; obtain ⟨x9, hx10, hM⟩ := letk_opn hM0; clear hM0
      have hcx9 := policy_within_ok  sum 0 1099511627776 
      rw [← hx10] at hcx9
      refine callC_give hcx9 clQ clQ (fun hw11 => ?_)
      replace hw11 := nzQ hw11
      refine spQ ?_
      refine guardC_f (fun h12 => ?_) (fun h12 => ?_)
      · rw [if_neg (ne_true h12)] at hM
        refine spQA h12 ?_
        have nh12 := nzQ h12
        have hM0 := hM; clear hM; obtain ⟨x13, hx14, hM⟩ := letk_opn hM0; clear hM0
        have hcx13 := policy_within_ok  number 0 1000 
        rw [← hx14] at hcx13
        refine callC_give hcx13 clQ clQ (fun hw15 => ?_)
        replace hw15 := nzQ hw15
        refine spQ ?_
        refine guardC_f (fun h16 => ?_) (fun h16 => ?_)
        · rw [if_neg (ne_true h16)] at hM
          refine spQA h16 ?_
          have nh16 := nzQ h16
          have hM0 := hM; clear hM; obtain ⟨x17, hx18, hM⟩ := letk_opn hM0; clear hM0
          have hcx17 := policy_within_ok  transfers 0 8 
          rw [← hx18] at hcx17
          refine callC_give hcx17 clQ clQ (fun hw19 => ?_)
          replace hw19 := nzQ hw19
          refine spQ ?_
          refine guardC_f (fun h20 => ?_) (fun h20 => ?_)
          · rw [if_neg (ne_true h20)] at hM
            refine spQA h20 ?_
            have nh20 := nzQ h20
            have hM0 := hM; clear hM; obtain ⟨x21, hx22, hM⟩ := letk_opn hM0; clear hM0
            have hcx21 := policy_within_ok  hour 0 23 
            rw [← hx22] at hcx21
            refine callC_give hcx21 clQ clQ (fun hw23 => ?_)
            replace hw23 := nzQ hw23
            refine spQ ?_
            refine condC_intro (fun h24 => ?_) (fun h24 => ?_)
            · rw [if_pos h24] at hM
              refine spQA h24 ?_
              have nh24 := nzQ h24
              subst hM
              exact retC_view (lfQA (And.intro h4 (And.intro h8 (And.intro h12 (And.intro h16 (And.intro h20 h24))))))
            · rw [if_neg (ne_true h24)] at hM
              refine spQA h24 ?_
              have nh24 := nzQ h24
              have hM0 := hM; clear hM; obtain ⟨x25, hx26, hM⟩ := letk_opn hM0; clear hM0
              have hcx25 := slices_IndexFunc_api_Rule_api_Rule_at_policy_Accepts_1_ok none (p_.Rules) amount number transfers hour sum 
              rw [← hx26] at hcx25
              refine callC_look hcx25 clQ clQ (fun hw27 => ?_)
              replace hw27 := nzQ hw27
              refine spQ ?_
              subst hM
              exact retC_view (lfQA (And.intro h4 (And.intro h8 (And.intro h12 (And.intro h16 (And.intro h20 h24))))))
          · rw [if_pos h20] at hM
            refine spQA h20 ?_
            have nh20 := nzQ h20
            subst hM
            exact retC_view (lfQA (And.intro h4 (And.intro h8 (And.intro h12 (And.intro h16 h20)))))
        · rw [if_pos h16] at hM
          refine spQA h16 ?_
          have nh16 := nzQ h16
          subst hM
          exact retC_view (lfQA (And.intro h4 (And.intro h8 (And.intro h12 h16))))
      · rw [if_pos h12] at hM
        refine spQA h12 ?_
        have nh12 := nzQ h12
        subst hM
        exact retC_view (lfQA (And.intro h4 (And.intro h8 h12)))
    · rw [if_pos h8] at hM
      refine spQA h8 ?_
      have nh8 := nzQ h8
      subst hM
      exact retC_view (lfQA (And.intro h4 h8))
  · rw [if_pos h4] at hM
    refine spQA h4 ?_
    have nh4 := nzQ h4
    subst hM
    exact retC_view (lfQA h4)
set_option maxHeartbeats 2000000 in
set_option maxRecDepth 100000 in
theorem policy_Limit_ok   (p_ : S_api_Policy) (hour : Int) (sum : Int)  : CallOk En 19 [.agg [.sl none 3 true (p_.Rules.map e_api_Rule)], .int .i64 hour, .int .i64 sum] (.tup [.int .i64 (policy_Limit p_ hour sum).1, .int .i64 (policy_Limit p_ hour sum).2]) [] := by
  generalize hM : policy_Limit p_ hour sum = r
  rw [policy_Limit.eq_1] at hM
  refine enterV En_ok En_mo noJ Try.func19 rfl Try.ntmps19 (by kernel_rfl) fun hw => ct_start ?_
  refine spQ ?_
  replace hw := nzQ hw
  have hM0 := hM; clear hM; obtain ⟨x1, hx2, hM⟩ := letk_opn hM0; clear hM0
  have hcx1 := policy_Valid_ok  p_ 
  rw [← hx2] at hcx1
  refine callC_give hcx1 clQ clQ (fun hw3 => ?_)
  replace hw3 := nzQ hw3
  refine spQ ?_
  refine condC_intro (fun h4 => ?_) (fun h4 => ?_)
  · rw [if_pos h4] at hM
    refine spQA h4 ?_
    have nh4 := nzQ h4
    subst hM
    exact retC_view (lfQA h4)
  · rw [if_neg (ne_true h4)] at hM
    refine spQA h4 ?_
    have nh4 := nzQ h4
    have hM0 := hM; clear hM; obtain ⟨x5, hx6, hM⟩ := letk_opn hM0; clear hM0
    have hcx5 := policy_within_ok  hour 0 23 
    rw [← hx6] at hcx5
    refine callC_give hcx5 clQ clQ (fun hw7 => ?_)
    replace hw7 := nzQ hw7
    refine spQ ?_
    refine guardC_f (fun h8 => ?_) (fun h8 => ?_)
    · rw [if_neg (ne_true h8)] at hM
      refine spQA h8 ?_
      have nh8 := nzQ h8
      have hM0 := hM; clear hM; obtain ⟨x9, hx10, hM⟩ := letk_opn hM0; clear hM0
      have hcx9 := policy_within_ok  sum 0 1099511627776 
      rw [← hx10] at hcx9
      refine callC_give hcx9 clQ clQ (fun hw11 => ?_)
      replace hw11 := nzQ hw11
      refine spQ ?_
      refine condC_intro (fun h12 => ?_) (fun h12 => ?_)
      · rw [if_pos h12] at hM
        refine spQA h12 ?_
        have nh12 := nzQ h12
        subst hM
        exact retC_view (lfQA (And.intro h4 (And.intro h8 h12)))
      · rw [if_neg (ne_true h12)] at hM
        refine spQA h12 ?_
        have nh12 := nzQ h12
        have hM0 := hM; clear hM; obtain ⟨x13, hx14, hM⟩ := letk_opn hM0; clear hM0
        have hcx13 := policy_Accepts_ok  p_ 0 0 0 hour sum 
        rw [← hx14] at hcx13
        refine callC_give hcx13 clQ clQ (fun hw15 => ?_)
        replace hw15 := nzQ hw15
        refine spQ ?_
        refine condC_intro (fun h16 => ?_) (fun h16 => ?_)
        · rw [if_pos h16] at hM
          refine spQA h16 ?_
          have nh16 := nzQ h16
          subst hM
          exact retC_view (lfQA (And.intro h4 (And.intro h8 (And.intro h12 h16))))
        · rw [if_neg (ne_true h16)] at hM
          refine spQA h16 ?_
          have nh16 := nzQ h16
          have hM0 := hM; clear hM; obtain ⟨f17, d17, hf17, hd17, hM⟩ := iter_opn hM0; clear hM0
          refine ct_loop (fun n S => ∃ p : Int × Int, S = (⟨[(2, .int .i64 sum), (10, .int .i64 p.1), (36, .sl none 3 true (p_.Rules.map e_api_Rule)), (37, .int .i64 (p_.Rules.length : Int)), (38, .int .i64 p.2)], [], 1⟩ : St) ∧ ((0 ≤ p.2) ∧ (p.2 ≤ (p_.Rules.length : Int))) ∧ ((p_.Rules.length : Int) - p.2).toNat < n ∧ iter n f17 d17 p = r) (((p_.Rules.length : Int) - 0).toNat + 1) (⟨[(2, .int .i64 sum), (10, .int .i64 1099511627776), (36, .sl none 3 true (p_.Rules.map e_api_Rule)), (37, .int .i64 (p_.Rules.length : Int)), (38, .int .i64 0)], [], 1⟩ : St) sbQ sbQ ⟨(1099511627776, 0), rfl, ⟨omQ, omQ⟩, (Nat.lt_succ_self _), hM⟩ ?_
          clear hM
          rintro n17 S ⟨p17, rfl, hfa17, hm17, hM⟩
          have hM0 := hM; clear hM; obtain ⟨ag17, hag17, hM⟩ := iter_step hM0 (by omega) hf17; clear hM0
          replace hfa17 := nzQ hfa17
          replace hm17 := nzQ hm17
          have ha17 : addI .i64 p17.2 1 = p17.2 + 1 := add_one omQ omQ
          refine spQA ha17 ?_
          refine condC_intro (fun h18 => ?_) (fun h18 => ?_)
          · rw [if_pos h18] at hM
            refine spQA (And.intro ha17 h18) ?_
            have nh18 := nzQ h18
            refine bindC_intro omQ ?_
            have he19 := fun d => elt_mp (l := p_.Rules) (f := e_api_Rule) (i := p17.2) omQ d
            refine spQA (And.intro ha17 he19) ?_
            refine condC_intro (fun h20 => ?_) (fun h20 => ?_)
            · rw [if_pos h20] at hM
              refine spQA (And.intro ha17 (And.intro he19 h20)) ?_
              have nh20 := nzQ h20
              refine lp_intro (n17 - 1) (⟨[(2, .int .i64 sum), (10, .int .i64 (minI p17.1 (gt p_.Rules p17.2).A)), (36, .sl none 3 true (p_.Rules.map e_api_Rule)), (37, .int .i64 (p_.Rules.length : Int)), (38, .int .i64 (p17.2 + 1))], [], 1⟩ : St) (by omega) sbQ sbQ ⟨((minI p17.1 (gt p_.Rules p17.2).A), (p17.2 + 1)), rfl, ⟨omQ, omQ⟩, omQ, iter_again hM hag17⟩
            · rw [if_neg (ne_true h20)] at hM
              refine spQA (And.intro ha17 (And.intro he19 h20)) ?_
              have nh20 := nzQ h20
              refine condC_intro (fun h21 => ?_) (fun h21 => ?_)
              · rw [if_pos h21] at hM
                refine spQA (And.intro ha17 (And.intro he19 h21)) ?_
                have nh21 := nzQ h21
                refine lp_intro (n17 - 1) (⟨[(2, .int .i64 sum), (10, .int .i64 (minI p17.1 (subI .i64 (gt p_.Rules p17.2).A sum))), (36, .sl none 3 true (p_.Rules.map e_api_Rule)), (37, .int .i64 (p_.Rules.length : Int)), (38, .int .i64 (p17.2 + 1))], [], 1⟩ : St) (by omega) sbQ sbQ ⟨((minI p17.1 (subI .i64 (gt p_.Rules p17.2).A sum)), (p17.2 + 1)), rfl, ⟨omQ, omQ⟩, omQ, iter_again hM hag17⟩
              · rw [if_neg (ne_true h21)] at hM
                refine spQA (And.intro ha17 (And.intro he19 h21)) ?_
                have nh21 := nzQ h21
                refine lp_intro (n17 - 1) (⟨[(2, .int .i64 sum), (10, .int .i64 p17.1), (36, .sl none 3 true (p_.Rules.map e_api_Rule)), (37, .int .i64 (p_.Rules.length : Int)), (38, .int .i64 (p17.2 + 1))], [], 1⟩ : St) (by omega) sbQ sbQ ⟨(p17.1, (p17.2 + 1)), rfl, ⟨omQ, omQ⟩, omQ, iter_again hM hag17⟩
          · rw [if_neg (ne_true h18)] at hM
            refine spQA (And.intro ha17 h18) ?_
            have nh18 := nzQ h18
            subst hM
            exact retC_view (lfQA (And.intro ha17 (And.intro h4 (And.intro h8 (And.intro h12 (And.intro h16 h18))))))
    · rw [if_pos h8] at hM
      refine spQA h8 ?_
      have nh8 := nzQ h8
      subst hM
      exact retC_view (lfQA (And.intro h4 h8))
set_option maxRecDepth 100000 in
theorem slices_Clone_api_Invoice_api_Invoice_ok (z0 : Option Bool) (s : List S_api_Invoice) : CallOk En 60 [.sl z0 35 true (s.map e_api_Invoice)] (.own 0) [.own 35 35 true none ((slices_Clone_api_Invoice_api_Invoice s).map e_api_Invoice)] := by
  show CallOk En 60 [.sl z0 35 true (s.map e_api_Invoice)] (.own 0) [.own 35 35 true none (s.map e_api_Invoice)]
  refine callOk_nil (pre := []) (post := []) (fun hl => ?_) ?_ z0
  · have hl : s = [] := by cases s with | nil => rfl | cons a s => cases hl
    subst hl
    refine enterV En_ok En_mo noJ Try.func60 rfl Try.ntmps60 (by kernel_rfl) fun hw => ct_start ?_
    simp only [go_sem, rowV_eq, rowV_eq0, List.length_replicate, rep_len, Int.toNat_natCast, ↓reduceIte, Nat.reduceEqDiff, Nat.reduceAdd, Nat.reduceMul, Nat.reduceLeDiff, Nat.reduceLT, Int.reduceLE, Int.reduceLT, Int.reduceNeg, Int.reduceToNat, List.nil_append]
    exact retC_nil (by decide)
  · refine enterV En_ok En_mo noJ Try.func60 rfl Try.ntmps60 (by kernel_rfl) fun hw => ct_start ?_
    simp only [go_sem, rowV_eq, rowV_eq0, List.length_replicate, rep_len, Int.toNat_natCast, ↓reduceIte, Nat.reduceEqDiff, Nat.reduceAdd, Nat.reduceMul, Nat.reduceLeDiff, Nat.reduceLT, Int.reduceLE, Int.reduceLT, Int.reduceNeg, Int.reduceToNat, List.nil_append]
    have hn : s.length ≤ 1073741824 := by have h := hw; simp only [wfL, wfV, List.nil_append, LEN_eq, List.length_map] at h; exact h.1.1
    refine bindC_intro (by first | omega | (simp only [List.length_map, List.length_nil, List.nil_append]; omega)) ?_
    refine spQ ?_
    refine retC_ownZ 0 rfl clQ
set_option maxRecDepth 100000 in
theorem slices_Clone_int_int_ok (z0 : Option Bool) (s : List Int) : CallOk En 61 [.sl z0 1 false (s.map (V.int .i64))] (.own 0) [.own 3 1 false none ((slices_Clone_int_int s).map (V.int .i64))] := by
  show CallOk En 61 [.sl z0 1 false (s.map (V.int .i64))] (.own 0) [.own 3 1 false none (s.map (V.int .i64))]
  refine callOk_nil (pre := []) (post := []) (fun hl => ?_) ?_ z0
  · have hl : s = [] := by cases s with | nil => rfl | cons a s => cases hl
    subst hl
    refine enterV En_ok En_mo noJ Try.func61 rfl Try.ntmps61 (by kernel_rfl) fun hw => ct_start ?_
    simp only [go_sem, rowV_eq, rowV_eq0, List.length_replicate, rep_len, Int.toNat_natCast, ↓reduceIte, Nat.reduceEqDiff, Nat.reduceAdd, Nat.reduceMul, Nat.reduceLeDiff, Nat.reduceLT, Int.reduceLE, Int.reduceLT, Int.reduceNeg, Int.reduceToNat, List.nil_append]
    exact retC_nil (by decide)
  · refine enterV En_ok En_mo noJ Try.func61 rfl Try.ntmps61 (by kernel_rfl) fun hw => ct_start ?_
    simp only [go_sem, rowV_eq, rowV_eq0, List.length_replicate, rep_len, Int.toNat_natCast, ↓reduceIte, Nat.reduceEqDiff, Nat.reduceAdd, Nat.reduceMul, Nat.reduceLeDiff, Nat.reduceLT, Int.reduceLE, Int.reduceLT, Int.reduceNeg, Int.reduceToNat, List.nil_append]
    have hn : s.length ≤ 1073741824 := by have h := hw; simp only [wfL, wfV, List.nil_append, LEN_eq, List.length_map] at h; exact h.1.1
    refine bindC_intro (by first | omega | (simp only [List.length_map, List.length_nil, List.nil_append]; omega)) ?_
    refine spQ ?_
    refine retC_ownZ 0 rfl clQ
set_option maxRecDepth 100000 in
theorem slices_Clone_api_Leaf_api_Leaf_ok (z0 : Option Bool) (s : List S_api_Leaf) : CallOk En 86 [.sl z0 3 true (s.map e_api_Leaf)] (.own 0) [.own 122 3 true none ((slices_Clone_api_Leaf_api_Leaf s).map e_api_Leaf)] := by
  show CallOk En 86 [.sl z0 3 true (s.map e_api_Leaf)] (.own 0) [.own 122 3 true none (s.map e_api_Leaf)]
  refine callOk_nil (pre := []) (post := []) (fun hl => ?_) ?_ z0
  · have hl : s = [] := by cases s with | nil => rfl | cons a s => cases hl
    subst hl
    refine enterV En_ok En_mo noJ Try.func86 rfl Try.ntmps86 (by kernel_rfl) fun hw => ct_start ?_
    simp only [go_sem, rowV_eq, rowV_eq0, List.length_replicate, rep_len, Int.toNat_natCast, ↓reduceIte, Nat.reduceEqDiff, Nat.reduceAdd, Nat.reduceMul, Nat.reduceLeDiff, Nat.reduceLT, Int.reduceLE, Int.reduceLT, Int.reduceNeg, Int.reduceToNat, List.nil_append]
    exact retC_nil (by decide)
  · refine enterV En_ok En_mo noJ Try.func86 rfl Try.ntmps86 (by kernel_rfl) fun hw => ct_start ?_
    simp only [go_sem, rowV_eq, rowV_eq0, List.length_replicate, rep_len, Int.toNat_natCast, ↓reduceIte, Nat.reduceEqDiff, Nat.reduceAdd, Nat.reduceMul, Nat.reduceLeDiff, Nat.reduceLT, Int.reduceLE, Int.reduceLT, Int.reduceNeg, Int.reduceToNat, List.nil_append]
    have hn : s.length ≤ 1073741824 := by have h := hw; simp only [wfL, wfV, List.nil_append, LEN_eq, List.length_map] at h; exact h.1.1
    refine bindC_intro (by first | omega | (simp only [List.length_map, List.length_nil, List.nil_append]; omega)) ?_
    refine spQ ?_
    refine retC_ownZ 0 rfl clQ
set_option maxRecDepth 100000 in
theorem slices_Clone_api_Hash_api_Hash_ok (z0 : Option Bool) (s : List (List Int)) : CallOk En 87 [.sl z0 32 true (s.map (fun l => .agg (.int .u8 (gt l 0) :: .int .u8 (gt l 1) :: .int .u8 (gt l 2) :: .int .u8 (gt l 3) :: .int .u8 (gt l 4) :: .int .u8 (gt l 5) :: .int .u8 (gt l 6) :: .int .u8 (gt l 7) :: .int .u8 (gt l 8) :: .int .u8 (gt l 9) :: .int .u8 (gt l 10) :: .int .u8 (gt l 11) :: .int .u8 (gt l 12) :: .int .u8 (gt l 13) :: .int .u8 (gt l 14) :: .int .u8 (gt l 15) :: .int .u8 (gt l 16) :: .int .u8 (gt l 17) :: .int .u8 (gt l 18) :: .int .u8 (gt l 19) :: .int .u8 (gt l 20) :: .int .u8 (gt l 21) :: .int .u8 (gt l 22) :: .int .u8 (gt l 23) :: .int .u8 (gt l 24) :: .int .u8 (gt l 25) :: .int .u8 (gt l 26) :: .int .u8 (gt l 27) :: .int .u8 (gt l 28) :: .int .u8 (gt l 29) :: .int .u8 (gt l 30) :: .int .u8 (gt l 31) :: [])))] (.own 0) [.own 23 32 true none ((slices_Clone_api_Hash_api_Hash s).map (fun l => .agg (.int .u8 (gt l 0) :: .int .u8 (gt l 1) :: .int .u8 (gt l 2) :: .int .u8 (gt l 3) :: .int .u8 (gt l 4) :: .int .u8 (gt l 5) :: .int .u8 (gt l 6) :: .int .u8 (gt l 7) :: .int .u8 (gt l 8) :: .int .u8 (gt l 9) :: .int .u8 (gt l 10) :: .int .u8 (gt l 11) :: .int .u8 (gt l 12) :: .int .u8 (gt l 13) :: .int .u8 (gt l 14) :: .int .u8 (gt l 15) :: .int .u8 (gt l 16) :: .int .u8 (gt l 17) :: .int .u8 (gt l 18) :: .int .u8 (gt l 19) :: .int .u8 (gt l 20) :: .int .u8 (gt l 21) :: .int .u8 (gt l 22) :: .int .u8 (gt l 23) :: .int .u8 (gt l 24) :: .int .u8 (gt l 25) :: .int .u8 (gt l 26) :: .int .u8 (gt l 27) :: .int .u8 (gt l 28) :: .int .u8 (gt l 29) :: .int .u8 (gt l 30) :: .int .u8 (gt l 31) :: [])))] := by
  show CallOk En 87 [.sl z0 32 true (s.map (fun l => .agg (.int .u8 (gt l 0) :: .int .u8 (gt l 1) :: .int .u8 (gt l 2) :: .int .u8 (gt l 3) :: .int .u8 (gt l 4) :: .int .u8 (gt l 5) :: .int .u8 (gt l 6) :: .int .u8 (gt l 7) :: .int .u8 (gt l 8) :: .int .u8 (gt l 9) :: .int .u8 (gt l 10) :: .int .u8 (gt l 11) :: .int .u8 (gt l 12) :: .int .u8 (gt l 13) :: .int .u8 (gt l 14) :: .int .u8 (gt l 15) :: .int .u8 (gt l 16) :: .int .u8 (gt l 17) :: .int .u8 (gt l 18) :: .int .u8 (gt l 19) :: .int .u8 (gt l 20) :: .int .u8 (gt l 21) :: .int .u8 (gt l 22) :: .int .u8 (gt l 23) :: .int .u8 (gt l 24) :: .int .u8 (gt l 25) :: .int .u8 (gt l 26) :: .int .u8 (gt l 27) :: .int .u8 (gt l 28) :: .int .u8 (gt l 29) :: .int .u8 (gt l 30) :: .int .u8 (gt l 31) :: [])))] (.own 0) [.own 23 32 true none (s.map (fun l => .agg (.int .u8 (gt l 0) :: .int .u8 (gt l 1) :: .int .u8 (gt l 2) :: .int .u8 (gt l 3) :: .int .u8 (gt l 4) :: .int .u8 (gt l 5) :: .int .u8 (gt l 6) :: .int .u8 (gt l 7) :: .int .u8 (gt l 8) :: .int .u8 (gt l 9) :: .int .u8 (gt l 10) :: .int .u8 (gt l 11) :: .int .u8 (gt l 12) :: .int .u8 (gt l 13) :: .int .u8 (gt l 14) :: .int .u8 (gt l 15) :: .int .u8 (gt l 16) :: .int .u8 (gt l 17) :: .int .u8 (gt l 18) :: .int .u8 (gt l 19) :: .int .u8 (gt l 20) :: .int .u8 (gt l 21) :: .int .u8 (gt l 22) :: .int .u8 (gt l 23) :: .int .u8 (gt l 24) :: .int .u8 (gt l 25) :: .int .u8 (gt l 26) :: .int .u8 (gt l 27) :: .int .u8 (gt l 28) :: .int .u8 (gt l 29) :: .int .u8 (gt l 30) :: .int .u8 (gt l 31) :: [])))]
  refine callOk_nil (pre := []) (post := []) (fun hl => ?_) ?_ z0
  · have hl : s = [] := by cases s with | nil => rfl | cons a s => cases hl
    subst hl
    refine enterV En_ok En_mo noJ Try.func87 rfl Try.ntmps87 (by kernel_rfl) fun hw => ct_start ?_
    simp only [go_sem, rowV_eq, rowV_eq0, List.length_replicate, rep_len, Int.toNat_natCast, ↓reduceIte, Nat.reduceEqDiff, Nat.reduceAdd, Nat.reduceMul, Nat.reduceLeDiff, Nat.reduceLT, Int.reduceLE, Int.reduceLT, Int.reduceNeg, Int.reduceToNat, List.nil_append]
    exact retC_nil (by decide)
  · refine enterV En_ok En_mo noJ Try.func87 rfl Try.ntmps87 (by kernel_rfl) fun hw => ct_start ?_
    simp only [go_sem, rowV_eq, rowV_eq0, List.length_replicate, rep_len, Int.toNat_natCast, ↓reduceIte, Nat.reduceEqDiff, Nat.reduceAdd, Nat.reduceMul, Nat.reduceLeDiff, Nat.reduceLT, Int.reduceLE, Int.reduceLT, Int.reduceNeg, Int.reduceToNat, List.nil_append]
    have hn : s.length ≤ 1073741824 := by have h := hw; simp only [wfL, wfV, List.nil_append, LEN_eq, List.length_map] at h; exact h.1.1
    refine bindC_intro (by first | omega | (simp only [List.length_map, List.length_nil, List.nil_append]; omega)) ?_
    refine spQ ?_
    refine retC_ownZ 0 rfl clQ
set_option maxHeartbeats 2000000 in
set_option maxRecDepth 100000 in
theorem merchant_spend_ok   (s : S_api_Spend)  : CallOk En 80 [.agg (.int .i64 s.Coin.Bank :: .int .i64 s.Coin.Epoch :: .int .i64 s.Coin.Denom :: .int .i64 s.Coin.Depth :: .int .i64 s.Coin.A :: .int .u8 (gt s.Coin.Root 0) :: .int .u8 (gt s.Coin.Root 1) :: .int .u8 (gt s.Coin.Root 2) :: .int .u8 (gt s.Coin.Root 3) :: .int .u8 (gt s.Coin.Root 4) :: .int .u8 (gt s.Coin.Root 5) :: .int .u8 (gt s.Coin.Root 6) :: .int .u8 (gt s.Coin.Root 7) :: .int .u8 (gt s.Coin.Root 8) :: .int .u8 (gt s.Coin.Root 9) :: .int .u8 (gt s.Coin.Root 10) :: .int .u8 (gt s.Coin.Root 11) :: .int .u8 (gt s.Coin.Root 12) :: .int .u8 (gt s.Coin.Root 13) :: .int .u8 (gt s.Coin.Root 14) :: .int .u8 (gt s.Coin.Root 15) :: .int .u8 (gt s.Coin.Root 16) :: .int .u8 (gt s.Coin.Root 17) :: .int .u8 (gt s.Coin.Root 18) :: .int .u8 (gt s.Coin.Root 19) :: .int .u8 (gt s.Coin.Root 20) :: .int .u8 (gt s.Coin.Root 21) :: .int .u8 (gt s.Coin.Root 22) :: .int .u8 (gt s.Coin.Root 23) :: .int .u8 (gt s.Coin.Root 24) :: .int .u8 (gt s.Coin.Root 25) :: .int .u8 (gt s.Coin.Root 26) :: .int .u8 (gt s.Coin.Root 27) :: .int .u8 (gt s.Coin.Root 28) :: .int .u8 (gt s.Coin.Root 29) :: .int .u8 (gt s.Coin.Root 30) :: .int .u8 (gt s.Coin.Root 31) :: .int .i64 s.Coin.Sign.Z :: .int .i64 s.Coin.Sign.A :: .int .i64 s.Coin.Sign.B :: .int .i64 s.Coin.Sign.R :: .int .i64 s.Node.Level :: .int .i64 s.Node.Index :: .int .u8 (gt s.Context.Payee 0) :: .int .u8 (gt s.Context.Payee 1) :: .int .u8 (gt s.Context.Payee 2) :: .int .u8 (gt s.Context.Payee 3) :: .int .u8 (gt s.Context.Payee 4) :: .int .u8 (gt s.Context.Payee 5) :: .int .u8 (gt s.Context.Payee 6) :: .int .u8 (gt s.Context.Payee 7) :: .int .u8 (gt s.Context.Payee 8) :: .int .u8 (gt s.Context.Payee 9) :: .int .u8 (gt s.Context.Payee 10) :: .int .u8 (gt s.Context.Payee 11) :: .int .u8 (gt s.Context.Payee 12) :: .int .u8 (gt s.Context.Payee 13) :: .int .u8 (gt s.Context.Payee 14) :: .int .u8 (gt s.Context.Payee 15) :: .int .u8 (gt s.Context.Payee 16) :: .int .u8 (gt s.Context.Payee 17) :: .int .u8 (gt s.Context.Payee 18) :: .int .u8 (gt s.Context.Payee 19) :: .int .u8 (gt s.Context.Payee 20) :: .int .u8 (gt s.Context.Payee 21) :: .int .u8 (gt s.Context.Payee 22) :: .int .u8 (gt s.Context.Payee 23) :: .int .u8 (gt s.Context.Payee 24) :: .int .u8 (gt s.Context.Payee 25) :: .int .u8 (gt s.Context.Payee 26) :: .int .u8 (gt s.Context.Payee 27) :: .int .u8 (gt s.Context.Payee 28) :: .int .u8 (gt s.Context.Payee 29) :: .int .u8 (gt s.Context.Payee 30) :: .int .u8 (gt s.Context.Payee 31) :: .int .i64 s.Context.Time :: .int .i64 s.Context.Number :: .sl none 3 true (s.Leaves.map e_api_Leaf) :: .int .i64 s.Path.Index :: .sl none 32 true (s.Path.L.map (fun l => .agg (.int .u8 (gt l 0) :: .int .u8 (gt l 1) :: .int .u8 (gt l 2) :: .int .u8 (gt l 3) :: .int .u8 (gt l 4) :: .int .u8 (gt l 5) :: .int .u8 (gt l 6) :: .int .u8 (gt l 7) :: .int .u8 (gt l 8) :: .int .u8 (gt l 9) :: .int .u8 (gt l 10) :: .int .u8 (gt l 11) :: .int .u8 (gt l 12) :: .int .u8 (gt l 13) :: .int .u8 (gt l 14) :: .int .u8 (gt l 15) :: .int .u8 (gt l 16) :: .int .u8 (gt l 17) :: .int .u8 (gt l 18) :: .int .u8 (gt l 19) :: .int .u8 (gt l 20) :: .int .u8 (gt l 21) :: .int .u8 (gt l 22) :: .int .u8 (gt l 23) :: .int .u8 (gt l 24) :: .int .u8 (gt l 25) :: .int .u8 (gt l 26) :: .int .u8 (gt l 27) :: .int .u8 (gt l 28) :: .int .u8 (gt l 29) :: .int .u8 (gt l 30) :: .int .u8 (gt l 31) :: []))) :: [])] (.agg (.int .i64 (merchant_spend s).Coin.Bank :: .int .i64 (merchant_spend s).Coin.Epoch :: .int .i64 (merchant_spend s).Coin.Denom :: .int .i64 (merchant_spend s).Coin.Depth :: .int .i64 (merchant_spend s).Coin.A :: .int .u8 (gt (merchant_spend s).Coin.Root 0) :: .int .u8 (gt (merchant_spend s).Coin.Root 1) :: .int .u8 (gt (merchant_spend s).Coin.Root 2) :: .int .u8 (gt (merchant_spend s).Coin.Root 3) :: .int .u8 (gt (merchant_spend s).Coin.Root 4) :: .int .u8 (gt (merchant_spend s).Coin.Root 5) :: .int .u8 (gt (merchant_spend s).Coin.Root 6) :: .int .u8 (gt (merchant_spend s).Coin.Root 7) :: .int .u8 (gt (merchant_spend s).Coin.Root 8) :: .int .u8 (gt (merchant_spend s).Coin.Root 9) :: .int .u8 (gt (merchant_spend s).Coin.Root 10) :: .int .u8 (gt (merchant_spend s).Coin.Root 11) :: .int .u8 (gt (merchant_spend s).Coin.Root 12) :: .int .u8 (gt (merchant_spend s).Coin.Root 13) :: .int .u8 (gt (merchant_spend s).Coin.Root 14) :: .int .u8 (gt (merchant_spend s).Coin.Root 15) :: .int .u8 (gt (merchant_spend s).Coin.Root 16) :: .int .u8 (gt (merchant_spend s).Coin.Root 17) :: .int .u8 (gt (merchant_spend s).Coin.Root 18) :: .int .u8 (gt (merchant_spend s).Coin.Root 19) :: .int .u8 (gt (merchant_spend s).Coin.Root 20) :: .int .u8 (gt (merchant_spend s).Coin.Root 21) :: .int .u8 (gt (merchant_spend s).Coin.Root 22) :: .int .u8 (gt (merchant_spend s).Coin.Root 23) :: .int .u8 (gt (merchant_spend s).Coin.Root 24) :: .int .u8 (gt (merchant_spend s).Coin.Root 25) :: .int .u8 (gt (merchant_spend s).Coin.Root 26) :: .int .u8 (gt (merchant_spend s).Coin.Root 27) :: .int .u8 (gt (merchant_spend s).Coin.Root 28) :: .int .u8 (gt (merchant_spend s).Coin.Root 29) :: .int .u8 (gt (merchant_spend s).Coin.Root 30) :: .int .u8 (gt (merchant_spend s).Coin.Root 31) :: .int .i64 (merchant_spend s).Coin.Sign.Z :: .int .i64 (merchant_spend s).Coin.Sign.A :: .int .i64 (merchant_spend s).Coin.Sign.B :: .int .i64 (merchant_spend s).Coin.Sign.R :: .int .i64 (merchant_spend s).Node.Level :: .int .i64 (merchant_spend s).Node.Index :: .int .u8 (gt (merchant_spend s).Context.Payee 0) :: .int .u8 (gt (merchant_spend s).Context.Payee 1) :: .int .u8 (gt (merchant_spend s).Context.Payee 2) :: .int .u8 (gt (merchant_spend s).Context.Payee 3) :: .int .u8 (gt (merchant_spend s).Context.Payee 4) :: .int .u8 (gt (merchant_spend s).Context.Payee 5) :: .int .u8 (gt (merchant_spend s).Context.Payee 6) :: .int .u8 (gt (merchant_spend s).Context.Payee 7) :: .int .u8 (gt (merchant_spend s).Context.Payee 8) :: .int .u8 (gt (merchant_spend s).Context.Payee 9) :: .int .u8 (gt (merchant_spend s).Context.Payee 10) :: .int .u8 (gt (merchant_spend s).Context.Payee 11) :: .int .u8 (gt (merchant_spend s).Context.Payee 12) :: .int .u8 (gt (merchant_spend s).Context.Payee 13) :: .int .u8 (gt (merchant_spend s).Context.Payee 14) :: .int .u8 (gt (merchant_spend s).Context.Payee 15) :: .int .u8 (gt (merchant_spend s).Context.Payee 16) :: .int .u8 (gt (merchant_spend s).Context.Payee 17) :: .int .u8 (gt (merchant_spend s).Context.Payee 18) :: .int .u8 (gt (merchant_spend s).Context.Payee 19) :: .int .u8 (gt (merchant_spend s).Context.Payee 20) :: .int .u8 (gt (merchant_spend s).Context.Payee 21) :: .int .u8 (gt (merchant_spend s).Context.Payee 22) :: .int .u8 (gt (merchant_spend s).Context.Payee 23) :: .int .u8 (gt (merchant_spend s).Context.Payee 24) :: .int .u8 (gt (merchant_spend s).Context.Payee 25) :: .int .u8 (gt (merchant_spend s).Context.Payee 26) :: .int .u8 (gt (merchant_spend s).Context.Payee 27) :: .int .u8 (gt (merchant_spend s).Context.Payee 28) :: .int .u8 (gt (merchant_spend s).Context.Payee 29) :: .int .u8 (gt (merchant_spend s).Context.Payee 30) :: .int .u8 (gt (merchant_spend s).Context.Payee 31) :: .int .i64 (merchant_spend s).Context.Time :: .int .i64 (merchant_spend s).Context.Number :: .sl none 3 true ((merchant_spend s).Leaves.map e_api_Leaf) :: .int .i64 (merchant_spend s).Path.Index :: .sl none 32 true ((merchant_spend s).Path.L.map (fun l => .agg (.int .u8 (gt l 0) :: .int .u8 (gt l 1) :: .int .u8 (gt l 2) :: .int .u8 (gt l 3) :: .int .u8 (gt l 4) :: .int .u8 (gt l 5) :: .int .u8 (gt l 6) :: .int .u8 (gt l 7) :: .int .u8 (gt l 8) :: .int .u8 (gt l 9) :: .int .u8 (gt l 10) :: .int .u8 (gt l 11) :: .int .u8 (gt l 12) :: .int .u8 (gt l 13) :: .int .u8 (gt l 14) :: .int .u8 (gt l 15) :: .int .u8 (gt l 16) :: .int .u8 (gt l 17) :: .int .u8 (gt l 18) :: .int .u8 (gt l 19) :: .int .u8 (gt l 20) :: .int .u8 (gt l 21) :: .int .u8 (gt l 22) :: .int .u8 (gt l 23) :: .int .u8 (gt l 24) :: .int .u8 (gt l 25) :: .int .u8 (gt l 26) :: .int .u8 (gt l 27) :: .int .u8 (gt l 28) :: .int .u8 (gt l 29) :: .int .u8 (gt l 30) :: .int .u8 (gt l 31) :: []))) :: [])) [] := by
  generalize hM : merchant_spend s = r
  rw [merchant_spend.eq_1] at hM
  refine enterV En_ok En_mo noJ Try.func80 rfl Try.ntmps80 (by kernel_rfl) fun hw => ct_start ?_
  refine spQ ?_
  replace hw := nzQ hw
  refine ct_draw 14 8 [3, 4, 5, 6, 7, 8, 9, 10] [] ([[], [0], [0, 1], [], [3], [3, 4], [3, 4, 5], []] ++ [List.range 8, List.range 9, List.range 10, List.range 11]) [] (by kernel_rfl) (by exact alQ) ?_
  refine spQ ?_
  have hM0 := hM; clear hM; obtain ⟨x1, hx2, hM⟩ := letk_opn hM0; clear hM0
  have hcx1 := CallOk.pub (slices_Clone_api_Leaf_api_Leaf_ok none (s.Leaves) )
  rw [← hx2] at hcx1
  refine hcallC_give hcx1 clQ clQ ?_
  refine spQ ?_
  have hM0 := hM; clear hM; obtain ⟨x3, hx4, hM⟩ := letk_opn hM0; clear hM0
  have hcx3 := CallOk.pub (slices_Clone_api_Hash_api_Hash_ok none (s.Path.L) )
  rw [← hx4] at hcx3
  refine hcallC_give hcx3 clQ clQ ?_
  refine spQ ?_
  subst hM
  exact retC_view lfQ
set_option maxHeartbeats 2000000 in
set_option maxRecDepth 100000 in
theorem merchant_spends_ok  (z0 : Option Bool) (l : (List S_api_Spend))  : CallOk En 79 [.sl z0 80 true (l.map e_api_Spend)] (.sl none 80 true ((merchant_spends l).map e_api_Spend)) [] := by
  generalize hM : merchant_spends l = r
  rw [merchant_spends.eq_1] at hM
  refine enterV En_ok En_mo noJ Try.func79 rfl Try.ntmps79 (by kernel_rfl) fun hw => ct_start ?_
  refine spQ ?_
  replace hw := nzQ hw
  have hM0 := hM; clear hM; obtain ⟨f1, d1, hf1, hd1, hM⟩ := iter_opn hM0; clear hM0
  refine ct_loopW (fun n S => ∃ p : Int × List S_api_Spend, S = (⟨[(3, .own 0), (6, .sl z0 80 true (l.map e_api_Spend)), (7, .int .i64 (l.length : Int)), (8, .int .i64 p.1)], [(0, .own 84 80 true none (p.2.map e_api_Spend))], 1⟩ : St) ∧ ((0 ≤ p.1) ∧ (p.1 ≤ (l.length : Int)) ∧ (((p.2).length : Int) ≤ p.1)) ∧ ((l.length : Int) - p.1).toNat < n ∧ iter n f1 d1 p = r) (((l.length : Int) - 0).toNat + 1) _ (⟨[(3, .own 0), (6, .sl z0 80 true (l.map e_api_Spend)), (7, .int .i64 (l.length : Int)), (8, .int .i64 0)], [(0, .own 84 80 true none (([] : List S_api_Spend).map e_api_Spend))], 1⟩ : St) (weak_nil 3 84 rfl (by decide)) sbQ sbQ ⟨(0, ([] : List S_api_Spend)), rfl, ⟨omQ, omQ, omQ⟩, (Nat.lt_succ_self _), hM⟩ ?_
  clear hM
  rintro n1 S ⟨p1, rfl, hfa1, hm1, hM⟩
  have hM0 := hM; clear hM; obtain ⟨ag1, hag1, hM⟩ := iter_step hM0 (by omega) hf1; clear hM0
  replace hfa1 := nzQ hfa1
  replace hm1 := nzQ hm1
  have ha1 : addI .i64 p1.1 1 = p1.1 + 1 := add_one omQ omQ
  refine spQA ha1 ?_
  refine condC_intro (fun h2 => ?_) (fun h2 => ?_)
  · rw [if_pos h2] at hM
    refine spQA (And.intro ha1 h2) ?_
    have nh2 := nzQ h2
    refine bindC_intro omQ ?_
    have he3 := fun d => elt_mp (l := l) (f := e_api_Spend) (i := p1.1) omQ d
    refine spQA (And.intro ha1 he3) ?_
    have hM0 := hM; clear hM; obtain ⟨x4, hx5, hM⟩ := letk_opn hM0; clear hM0
    have hcx4 := merchant_spend_ok  (gt l p1.1) 
    rw [← hx5] at hcx4
    refine callC_give hcx4 (clQA (And.intro ha1 he3)) (clQA (And.intro ha1 he3)) (fun hw6 => ?_)
    replace hw6 := nzQ hw6
    refine spQA (And.intro ha1 he3) ?_
    refine bindC_intro omQ ?_
    refine spQA (And.intro ha1 he3) ?_
    refine lp_intro (n1 - 1) (⟨[(3, .own 0), (6, .sl z0 80 true (l.map e_api_Spend)), (7, .int .i64 (l.length : Int)), (8, .int .i64 (p1.1 + 1))], [(0, .own 84 80 true none ((p1.2 ++ ([x4] : List S_api_Spend)).map e_api_Spend))], 1⟩ : St) (by omega) sbQ sbQ ⟨((p1.1 + 1), (p1.2 ++ ([x4] : List S_api_Spend))), rfl, ⟨omQ, omQ, omQ⟩, omQ, iter_again hM hag1⟩
  · rw [if_neg (ne_true h2)] at hM
    refine spQA (And.intro ha1 h2) ?_
    have nh2 := nzQ h2
    subst hM
    exact retC_view (lfQA (And.intro ha1 h2))
set_option maxHeartbeats 2000000 in
set_option maxRecDepth 100000 in
theorem merchant_paid_ok   (p_ : S_api_Payment)  : CallOk En 62 [.agg [.int .i64 p_.Number, .sl none 80 true (p_.Spends.map e_api_Spend), .sl none 81 true (p_.Chains.map e_api_Chain), .sl none 5 true (p_.Escrow.map e_api_Escrow)]] (.agg [.int .i64 (merchant_paid p_).Number, .sl none 80 true ((merchant_paid p_).Spends.map e_api_Spend), .sl none 81 true ((merchant_paid p_).Chains.map e_api_Chain), .sl none 5 true ((merchant_paid p_).Escrow.map e_api_Escrow)]) [] := by
  generalize hM : merchant_paid p_ = r
  rw [merchant_paid.eq_1] at hM
  refine enterV En_ok En_mo noJ Try.func62 rfl Try.ntmps62 (by kernel_rfl) fun hw => ct_start ?_
  refine spQ ?_
  replace hw := nzQ hw
  refine ct_draw 61 7 [3, 8, 9, 10, 11, 12, 13] [] ([[], [0], [], [2], [2, 3], [0, 1, 2, 3, 4], []] ++ [List.range 7]) [] (by kernel_rfl) (by exact alQ) ?_
  refine spQ ?_
  have hM0 := hM; clear hM; obtain ⟨x1, hx2, hM⟩ := letk_opn hM0; clear hM0
  have hcx1 := merchant_spends_ok none (p_.Spends) 
  rw [← hx2] at hcx1
  refine hcallC_give hcx1 clQ clQ ?_
  refine spQ ?_
  have hM0 := hM; clear hM; obtain ⟨f3, d3, hf3, hd3, hM⟩ := iter_opn hM0; clear hM0
  refine ct_loopW (fun n S => ∃ p : Int × List S_api_Chain, S = (⟨[(1, .ptr 0 0), (2, .ptr 1 0), (3, .ptr 8 0), (15, .sl none 81 true (p_.Chains.map e_api_Chain)), (16, .int .i64 (p_.Chains.length : Int)), (17, .int .i64 p.1)], [(0, .var 4 true (.agg [.int .i64 p_.Number, .sl none 80 true (p_.Spends.map e_api_Spend), .sl none 81 true (p_.Chains.map e_api_Chain), .sl none 5 true (p_.Escrow.map e_api_Escrow)])), (1, .var 4 true (.agg [.int .i64 0, .sl (some true) 80 true [], .sl (some true) 81 true [], .sl (some true) 5 true []])), (8, .var 4 true (.agg [.int .i64 p_.Number, .sl none 80 true (x1.map e_api_Spend), .own 9, .sl (some true) 5 true []])), (9, .own 87 81 true none (p.2.map e_api_Chain))], 10⟩ : St) ∧ ((0 ≤ p.1) ∧ (p.1 ≤ (p_.Chains.length : Int)) ∧ (((p.2).length : Int) ≤ p.1)) ∧ ((p_.Chains.length : Int) - p.1).toNat < n ∧ iter n f3 d3 p = r) (((p_.Chains.length : Int) - 0).toNat + 1) _ (⟨[(1, .ptr 0 0), (2, .ptr 1 0), (3, .ptr 8 0), (15, .sl none 81 true (p_.Chains.map e_api_Chain)), (16, .int .i64 (p_.Chains.length : Int)), (17, .int .i64 0)], [(0, .var 4 true (.agg [.int .i64 p_.Number, .sl none 80 true (p_.Spends.map e_api_Spend), .sl none 81 true (p_.Chains.map e_api_Chain), .sl none 5 true (p_.Escrow.map e_api_Escrow)])), (1, .var 4 true (.agg [.int .i64 0, .sl (some true) 80 true [], .sl (some true) 81 true [], .sl (some true) 5 true []])), (8, .var 4 true (.agg [.int .i64 p_.Number, .sl none 80 true (x1.map e_api_Spend), .own 9, .sl (some true) 5 true []])), (9, .own 87 81 true none (([] : List S_api_Chain).map e_api_Chain))], 10⟩ : St) (weak_nilV 8 2 87 rfl rfl (by decide)) sbQ sbQ ⟨(0, ([] : List S_api_Chain)), rfl, ⟨omQ, omQ, omQ⟩, (Nat.lt_succ_self _), hM⟩ ?_
  clear hM
  rintro n3 S ⟨p3, rfl, hfa3, hm3, hM⟩
  have hM0 := hM; clear hM; obtain ⟨ag3, hag3, hM⟩ := iter_step hM0 (by omega) hf3; clear hM0
  replace hfa3 := nzQ hfa3
  replace hm3 := nzQ hm3
  have ha3 : addI .i64 p3.1 1 = p3.1 + 1 := add_one omQ omQ
  refine spQA ha3 ?_
  refine condC_intro (fun h4 => ?_) (fun h4 => ?_)
  · rw [if_pos h4] at hM
    refine spQA (And.intro ha3 h4) ?_
    have nh4 := nzQ h4
    refine bindC_intro omQ ?_
    have he5 := fun d => elt_mp (l := p_.Chains) (f := e_api_Chain) (i := p3.1) omQ d
    refine spQA (And.intro ha3 he5) ?_
    refine ct_draw 61 10 [21, 22, 23, 24, 25, 26, 27, 28, 29, 30] [] ([[], [0], [], [2], [2, 3], [], [5], [5, 6], [2, 3, 4, 5, 6, 7], [2, 3, 4, 5, 6, 7, 8]] ++ [List.range 10, List.range 11, List.range 12]) [] (by kernel_rfl) (by exact alQ) ?_
    refine spQA (And.intro ha3 he5) ?_
    have hM0 := hM; clear hM; obtain ⟨x6, hx7, hM⟩ := letk_opn hM0; clear hM0
    have hcx6 := merchant_spend_ok  ((gt p_.Chains p3.1).First) 
    rw [← hx7] at hcx6
    refine hcallC_give hcx6 (clQA (And.intro ha3 he5)) (clQA (And.intro ha3 he5)) ?_
    refine spQA (And.intro ha3 he5) ?_
    have hM0 := hM; clear hM; obtain ⟨x8, hx9, hM⟩ := letk_opn hM0; clear hM0
    have hcx8 := merchant_spends_ok none ((gt p_.Chains p3.1).L) 
    rw [← hx9] at hcx8
    refine hcallC_give hcx8 (clQA (And.intro ha3 he5)) (clQA (And.intro ha3 he5)) ?_
    refine spQA (And.intro ha3 he5) ?_
    refine bindC_intro omQ ?_
    refine spQA (And.intro ha3 he5) ?_
    refine lp_intro (n3 - 1) (⟨[(1, .ptr 0 0), (2, .ptr 1 0), (3, .ptr 8 0), (15, .sl none 81 true (p_.Chains.map e_api_Chain)), (16, .int .i64 (p_.Chains.length : Int)), (17, .int .i64 (p3.1 + 1))], [(0, .var 4 true (.agg [.int .i64 p_.Number, .sl none 80 true (p_.Spends.map e_api_Spend), .sl none 81 true (p_.Chains.map e_api_Chain), .sl none 5 true (p_.Escrow.map e_api_Escrow)])), (1, .var 4 true (.agg [.int .i64 0, .sl (some true) 80 true [], .sl (some true) 81 true [], .sl (some true) 5 true []])), (8, .var 4 true (.agg [.int .i64 p_.Number, .sl none 80 true (x1.map e_api_Spend), .own 9, .sl (some true) 5 true []])), (9, .own 87 81 true none ((p3.2 ++ ([({ First := x6, L := x8 } : S_api_Chain)] : List S_api_Chain)).map e_api_Chain))], 10⟩ : St) (by omega) sbQ sbQ ⟨((p3.1 + 1), (p3.2 ++ ([({ First := x6, L := x8 } : S_api_Chain)] : List S_api_Chain))), rfl, ⟨omQ, omQ, omQ⟩, omQ, iter_again hM hag3⟩
  · rw [if_neg (ne_true h4)] at hM
    refine spQA (And.intro ha3 h4) ?_
    have nh4 := nzQ h4
    have hM0 := hM; clear hM; obtain ⟨f10, d10, hf10, hd10, hM⟩ := iter_opn hM0; clear hM0
    refine ct_loopW (fun n S => ∃ p : Int × List S_api_Escrow, S = (⟨[(2, .ptr 1 0), (3, .ptr 8 0), (35, .sl none 5 true (p_.Escrow.map e_api_Escrow)), (36, .int .i64 (p_.Escrow.length : Int)), (37, .int .i64 p.1)], [(1, .var 4 true (.agg [.int .i64 0, .sl (some true) 80 true [], .sl (some true) 81 true [], .sl (some true) 5 true []])), (8, .var 4 true (.agg [.int .i64 p_.Number, .sl none 80 true (x1.map e_api_Spend), .own 9, .own 10])), (9, .own 87 81 true none (p3.2.map e_api_Chain)), (10, .own 92 5 true none (p.2.map e_api_Escrow))], 11⟩ : St) ∧ ((0 ≤ p.1) ∧ (p.1 ≤ (p_.Escrow.length : Int)) ∧ (((p.2).length : Int) ≤ p.1)) ∧ ((p_.Escrow.length : Int) - p.1).toNat < n ∧ iter n f10 d10 p = r) (((p_.Escrow.length : Int) - 0).toNat + 1) _ (⟨[(2, .ptr 1 0), (3, .ptr 8 0), (35, .sl none 5 true (p_.Escrow.map e_api_Escrow)), (36, .int .i64 (p_.Escrow.length : Int)), (37, .int .i64 0)], [(1, .var 4 true (.agg [.int .i64 0, .sl (some true) 80 true [], .sl (some true) 81 true [], .sl (some true) 5 true []])), (8, .var 4 true (.agg [.int .i64 p_.Number, .sl none 80 true (x1.map e_api_Spend), .own 9, .own 10])), (9, .own 87 81 true none (p3.2.map e_api_Chain)), (10, .own 92 5 true none (([] : List S_api_Escrow).map e_api_Escrow))], 11⟩ : St) (weak_nilV 8 3 92 rfl rfl (by decide)) sbQ sbQ ⟨(0, ([] : List S_api_Escrow)), rfl, ⟨omQ, omQ, omQ⟩, (Nat.lt_succ_self _), hM⟩ ?_
    clear hM
    rintro n10 S ⟨p10, rfl, hfa10, hm10, hM⟩
    have hM0 := hM; clear hM; obtain ⟨ag10, hag10, hM⟩ := iter_step hM0 (by omega) hf10; clear hM0
    replace hfa10 := nzQ hfa10
    replace hm10 := nzQ hm10
    have ha10 : addI .i64 p10.1 1 = p10.1 + 1 := add_one omQ omQ
    refine spQA (And.intro ha3 ha10) ?_
    refine condC_intro (fun h11 => ?_) (fun h11 => ?_)
    · rw [if_pos h11] at hM
      refine spQA (And.intro ha3 (And.intro ha10 h11)) ?_
      have nh11 := nzQ h11
      refine bindC_intro omQ ?_
      have he12 := fun d => elt_mp (l := p_.Escrow) (f := e_api_Escrow) (i := p10.1) omQ d
      refine spQA (And.intro ha3 (And.intro ha10 he12)) ?_
      refine ct_draw 61 10 [41, 42, 43, 44, 45, 46, 47, 48, 49, 50] [] ([[], [0], [0, 1], [0, 1, 2], [], [4], [4, 5], [4, 5, 6], [], [8]] ++ [List.range 10, List.range 11, List.range 12, List.range 13]) [] (by kernel_rfl) (by exact alQ) ?_
      refine spQA (And.intro ha3 (And.intro ha10 he12)) ?_
      have hM0 := hM; clear hM; obtain ⟨x13, hx14, hM⟩ := letk_opn hM0; clear hM0
      have hcx13 := CallOk.pub (slices_Clone_int_int_ok none ((gt p_.Escrow p10.1).Proof.A) )
      rw [← hx14] at hcx13
      refine hcallC_give hcx13 (clQA (And.intro ha3 (And.intro ha10 he12))) (clQA (And.intro ha3 (And.intro ha10 he12))) ?_
      refine spQA (And.intro ha3 (And.intro ha10 he12)) ?_
      have hM0 := hM; clear hM; obtain ⟨x15, hx16, hM⟩ := letk_opn hM0; clear hM0
      have hcx15 := CallOk.pub (slices_Clone_int_int_ok none ((gt p_.Escrow p10.1).Proof.Z) )
      rw [← hx16] at hcx15
      refine hcallC_give hcx15 (clQA (And.intro ha3 (And.intro ha10 he12))) (clQA (And.intro ha3 (And.intro ha10 he12))) ?_
      refine spQA (And.intro ha3 (And.intro ha10 he12)) ?_
      refine bindC_intro omQ ?_
      refine spQA (And.intro ha3 (And.intro ha10 he12)) ?_
      refine lp_intro (n10 - 1) (⟨[(2, .ptr 1 0), (3, .ptr 8 0), (35, .sl none 5 true (p_.Escrow.map e_api_Escrow)), (36, .int .i64 (p_.Escrow.length : Int)), (37, .int .i64 (p10.1 + 1))], [(1, .var 4 true (.agg [.int .i64 0, .sl (some true) 80 true [], .sl (some true) 81 true [], .sl (some true) 5 true []])), (8, .var 4 true (.agg [.int .i64 p_.Number, .sl none 80 true (x1.map e_api_Spend), .own 9, .own 10])), (9, .own 87 81 true none (p3.2.map e_api_Chain)), (10, .own 92 5 true none ((p10.2 ++ ([({ E1 := (gt p_.Escrow p10.1).E1, E2 := (gt p_.Escrow p10.1).E2, Proof := ({ A := x13, C := (gt p_.Escrow p10.1).Proof.C, Z := x15 } : S_api_Proof) } : S_api_Escrow)] : List S_api_Escrow)).map e_api_Escrow))], 11⟩ : St) (by omega) sbQ sbQ ⟨((p10.1 + 1), (p10.2 ++ ([({ E1 := (gt p_.Escrow p10.1).E1, E2 := (gt p_.Escrow p10.1).E2, Proof := ({ A := x13, C := (gt p_.Escrow p10.1).Proof.C, Z := x15 } : S_api_Proof) } : S_api_Escrow)] : List S_api_Escrow))), rfl, ⟨omQ, omQ, omQ⟩, omQ, iter_again hM hag10⟩
    · rw [if_neg (ne_true h11)] at hM
      refine spQA (And.intro ha3 (And.intro ha10 h11)) ?_
      have nh11 := nzQ h11
      subst hM
      exact retC_view (lfQA (And.intro ha3 (And.intro ha10 (And.intro h4 h11))))
set_option maxHeartbeats 2000000 in
set_option maxRecDepth 100000 in
theorem merchant_cloned_ok   (m : S_api_Merchant)  : CallOk En 29 [.agg (.int .u8 (gt m.Name 0) :: .int .u8 (gt m.Name 1) :: .int .u8 (gt m.Name 2) :: .int .u8 (gt m.Name 3) :: .int .u8 (gt m.Name 4) :: .int .u8 (gt m.Name 5) :: .int .u8 (gt m.Name 6) :: .int .u8 (gt m.Name 7) :: .int .u8 (gt m.Name 8) :: .int .u8 (gt m.Name 9) :: .int .u8 (gt m.Name 10) :: .int .u8 (gt m.Name 11) :: .int .u8 (gt m.Name 12) :: .int .u8 (gt m.Name 13) :: .int .u8 (gt m.Name 14) :: .int .u8 (gt m.Name 15) :: .int .u8 (gt m.Name 16) :: .int .u8 (gt m.Name 17) :: .int .u8 (gt m.Name 18) :: .int .u8 (gt m.Name 19) :: .int .u8 (gt m.Name 20) :: .int .u8 (gt m.Name 21) :: .int .u8 (gt m.Name 22) :: .int .u8 (gt m.Name 23) :: .int .u8 (gt m.Name 24) :: .int .u8 (gt m.Name 25) :: .int .u8 (gt m.Name 26) :: .int .u8 (gt m.Name 27) :: .int .u8 (gt m.Name 28) :: .int .u8 (gt m.Name 29) :: .int .u8 (gt m.Name 30) :: .int .u8 (gt m.Name 31) :: .sl none 3 true (m.Policy.Rules.map e_api_Rule) :: .sl none 35 true (m.Open.map e_api_Invoice) :: .int .i64 m.Next :: .sl none 4 true (m.Queue.map e_api_Payment) :: .sl none 35 true (m.Paid.map e_api_Invoice) :: .int .i64 m.Total :: .sl none 1 false (m.Blocked.map (V.int .i64)) :: .int .i64 m.Now :: [])] (.agg (.int .u8 (gt (merchant_cloned m).Name 0) :: .int .u8 (gt (merchant_cloned m).Name 1) :: .int .u8 (gt (merchant_cloned m).Name 2) :: .int .u8 (gt (merchant_cloned m).Name 3) :: .int .u8 (gt (merchant_cloned m).Name 4) :: .int .u8 (gt (merchant_cloned m).Name 5) :: .int .u8 (gt (merchant_cloned m).Name 6) :: .int .u8 (gt (merchant_cloned m).Name 7) :: .int .u8 (gt (merchant_cloned m).Name 8) :: .int .u8 (gt (merchant_cloned m).Name 9) :: .int .u8 (gt (merchant_cloned m).Name 10) :: .int .u8 (gt (merchant_cloned m).Name 11) :: .int .u8 (gt (merchant_cloned m).Name 12) :: .int .u8 (gt (merchant_cloned m).Name 13) :: .int .u8 (gt (merchant_cloned m).Name 14) :: .int .u8 (gt (merchant_cloned m).Name 15) :: .int .u8 (gt (merchant_cloned m).Name 16) :: .int .u8 (gt (merchant_cloned m).Name 17) :: .int .u8 (gt (merchant_cloned m).Name 18) :: .int .u8 (gt (merchant_cloned m).Name 19) :: .int .u8 (gt (merchant_cloned m).Name 20) :: .int .u8 (gt (merchant_cloned m).Name 21) :: .int .u8 (gt (merchant_cloned m).Name 22) :: .int .u8 (gt (merchant_cloned m).Name 23) :: .int .u8 (gt (merchant_cloned m).Name 24) :: .int .u8 (gt (merchant_cloned m).Name 25) :: .int .u8 (gt (merchant_cloned m).Name 26) :: .int .u8 (gt (merchant_cloned m).Name 27) :: .int .u8 (gt (merchant_cloned m).Name 28) :: .int .u8 (gt (merchant_cloned m).Name 29) :: .int .u8 (gt (merchant_cloned m).Name 30) :: .int .u8 (gt (merchant_cloned m).Name 31) :: .sl none 3 true ((merchant_cloned m).Policy.Rules.map e_api_Rule) :: .own 0 :: .int .i64 (merchant_cloned m).Next :: .sl none 4 true ((merchant_cloned m).Queue.map e_api_Payment) :: .sl none 35 true ((merchant_cloned m).Paid.map e_api_Invoice) :: .int .i64 (merchant_cloned m).Total :: .own 1 :: .int .i64 (merchant_cloned m).Now :: [])) [.own 35 35 true none ((merchant_cloned m).Open.map e_api_Invoice), .own 3 1 false none ((merchant_cloned m).Blocked.map (V.int .i64))] := by
  generalize hM : merchant_cloned m = r
  rw [merchant_cloned.eq_1] at hM
  refine enterV En_ok En_mo noJ Try.func29 rfl Try.ntmps29 (by kernel_rfl) fun hw => ct_start ?_
  refine spQ ?_
  replace hw := nzQ hw
  have hM0 := hM; clear hM; obtain ⟨x1, hx2, hM⟩ := letk_opn hM0; clear hM0
  have hcx1 := slices_Clone_api_Rule_api_Rule_ok none (m.Policy.Rules) 
  rw [← hx2] at hcx1
  refine callC_give hcx1 clQ clQ (fun hw3 => ?_)
  replace hw3 := nzQ hw3
  refine spQ ?_
  refine ct_draw 42 10 [14, 15, 16, 17, 18, 19, 20, 21, 22, 23] [] ([[], [0], [0, 1], [], [3], [3, 4], [], [6], [5, 6, 7], []] ++ [List.range 10, List.range 11, List.range 12, List.range 13, List.range 14]) [] (by kernel_rfl) (by exact alQ) ?_
  refine spQ ?_
  have hM0 := hM; clear hM; obtain ⟨x4, hx5, hM⟩ := letk_opn hM0; clear hM0
  have hcx4 := slices_Clone_api_Invoice_api_Invoice_ok none (m.Open) 
  rw [← hx5] at hcx4
  refine hcallC_own hcx4 clQ clQ ?_
  refine spQ ?_
  have hM0 := hM; clear hM; obtain ⟨x6, hx7, hM⟩ := letk_opn hM0; clear hM0
  have hcx6 := slices_Clone_api_Invoice_api_Invoice_ok none (m.Paid) 
  rw [← hx7] at hcx6
  refine hcallC_own hcx6 clQ clQ ?_
  refine spQ ?_
  have hM0 := hM; clear hM; obtain ⟨x8, hx9, hM⟩ := letk_opn hM0; clear hM0
  have hcx8 := slices_Clone_int_int_ok none (m.Blocked) 
  rw [← hx9] at hcx8
  refine hcallC_own hcx8 clQ clQ ?_
  refine spQ ?_
  have hM0 := hM; clear hM; obtain ⟨f10, d10, hf10, hd10, hM⟩ := iter_opn hM0; clear hM0
  refine ct_loopW (fun n S => ∃ p : Int × List S_api_Payment, S = (⟨[(1, .ptr 0 0), (2, .ptr 1 0), (27, .sl none 4 true (m.Queue.map e_api_Payment)), (28, .int .i64 (m.Queue.length : Int)), (29, .int .i64 p.1)], [(0, .var 40 true (.agg (.int .u8 (gt m.Name 0) :: .int .u8 (gt m.Name 1) :: .int .u8 (gt m.Name 2) :: .int .u8 (gt m.Name 3) :: .int .u8 (gt m.Name 4) :: .int .u8 (gt m.Name 5) :: .int .u8 (gt m.Name 6) :: .int .u8 (gt m.Name 7) :: .int .u8 (gt m.Name 8) :: .int .u8 (gt m.Name 9) :: .int .u8 (gt m.Name 10) :: .int .u8 (gt m.Name 11) :: .int .u8 (gt m.Name 12) :: .int .u8 (gt m.Name 13) :: .int .u8 (gt m.Name 14) :: .int .u8 (gt m.Name 15) :: .int .u8 (gt m.Name 16) :: .int .u8 (gt m.Name 17) :: .int .u8 (gt m.Name 18) :: .int .u8 (gt m.Name 19) :: .int .u8 (gt m.Name 20) :: .int .u8 (gt m.Name 21) :: .int .u8 (gt m.Name 22) :: .int .u8 (gt m.Name 23) :: .int .u8 (gt m.Name 24) :: .int .u8 (gt m.Name 25) :: .int .u8 (gt m.Name 26) :: .int .u8 (gt m.Name 27) :: .int .u8 (gt m.Name 28) :: .int .u8 (gt m.Name 29) :: .int .u8 (gt m.Name 30) :: .int .u8 (gt m.Name 31) :: .own 2 :: .own 5 :: .int .i64 m.Next :: .own 13 :: .own 8 :: .int .i64 m.Total :: .own 11 :: .int .i64 m.Now :: []))), (1, .var 40 true (.agg (.int .u8 0 :: .int .u8 0 :: .int .u8 0 :: .int .u8 0 :: .int .u8 0 :: .int .u8 0 :: .int .u8 0 :: .int .u8 0 :: .int .u8 0 :: .int .u8 0 :: .int .u8 0 :: .int .u8 0 :: .int .u8 0 :: .int .u8 0 :: .int .u8 0 :: .int .u8 0 :: .int .u8 0 :: .int .u8 0 :: .int .u8 0 :: .int .u8 0 :: .int .u8 0 :: .int .u8 0 :: .int .u8 0 :: .int .u8 0 :: .int .u8 0 :: .int .u8 0 :: .int .u8 0 :: .int .u8 0 :: .int .u8 0 :: .int .u8 0 :: .int .u8 0 :: .int .u8 0 :: .sl (some true) 3 true [] :: .sl (some true) 35 true [] :: .int .i64 0 :: .sl (some true) 4 true [] :: .sl (some true) 35 true [] :: .int .i64 0 :: .sl (some true) 1 false [] :: .int .i64 0 :: []))), (2, .own 64 3 true none (x1.map e_api_Rule)), (5, .own 35 35 true none (x4.map e_api_Invoice)), (8, .own 35 35 true none (x6.map e_api_Invoice)), (11, .own 3 1 false none (x8.map (V.int .i64))), (13, .own 43 4 true none (p.2.map e_api_Payment))], 14⟩ : St) ∧ ((0 ≤ p.1) ∧ (p.1 ≤ (m.Queue.length : Int)) ∧ (((p.2).length : Int) ≤ p.1)) ∧ ((m.Queue.length : Int) - p.1).toNat < n ∧ iter n f10 d10 p = r) (((m.Queue.length : Int) - 0).toNat + 1) _ (⟨[(1, .ptr 0 0), (2, .ptr 1 0), (27, .sl none 4 true (m.Queue.map e_api_Payment)), (28, .int .i64 (m.Queue.length : Int)), (29, .int .i64 0)], [(0, .var 40 true (.agg (.int .u8 (gt m.Name 0) :: .int .u8 (gt m.Name 1) :: .int .u8 (gt m.Name 2) :: .int .u8 (gt m.Name 3) :: .int .u8 (gt m.Name 4) :: .int .u8 (gt m.Name 5) :: .int .u8 (gt m.Name 6) :: .int .u8 (gt m.Name 7) :: .int .u8 (gt m.Name 8) :: .int .u8 (gt m.Name 9) :: .int .u8 (gt m.Name 10) :: .int .u8 (gt m.Name 11) :: .int .u8 (gt m.Name 12) :: .int .u8 (gt m.Name 13) :: .int .u8 (gt m.Name 14) :: .int .u8 (gt m.Name 15) :: .int .u8 (gt m.Name 16) :: .int .u8 (gt m.Name 17) :: .int .u8 (gt m.Name 18) :: .int .u8 (gt m.Name 19) :: .int .u8 (gt m.Name 20) :: .int .u8 (gt m.Name 21) :: .int .u8 (gt m.Name 22) :: .int .u8 (gt m.Name 23) :: .int .u8 (gt m.Name 24) :: .int .u8 (gt m.Name 25) :: .int .u8 (gt m.Name 26) :: .int .u8 (gt m.Name 27) :: .int .u8 (gt m.Name 28) :: .int .u8 (gt m.Name 29) :: .int .u8 (gt m.Name 30) :: .int .u8 (gt m.Name 31) :: .own 2 :: .own 5 :: .int .i64 m.Next :: .own 13 :: .own 8 :: .int .i64 m.Total :: .own 11 :: .int .i64 m.Now :: []))), (1, .var 40 true (.agg (.int .u8 0 :: .int .u8 0 :: .int .u8 0 :: .int .u8 0 :: .int .u8 0 :: .int .u8 0 :: .int .u8 0 :: .int .u8 0 :: .int .u8 0 :: .int .u8 0 :: .int .u8 0 :: .int .u8 0 :: .int .u8 0 :: .int .u8 0 :: .int .u8 0 :: .int .u8 0 :: .int .u8 0 :: .int .u8 0 :: .int .u8 0 :: .int .u8 0 :: .int .u8 0 :: .int .u8 0 :: .int .u8 0 :: .int .u8 0 :: .int .u8 0 :: .int .u8 0 :: .int .u8 0 :: .int .u8 0 :: .int .u8 0 :: .int .u8 0 :: .int .u8 0 :: .int .u8 0 :: .sl (some true) 3 true [] :: .sl (some true) 35 true [] :: .int .i64 0 :: .sl (some true) 4 true [] :: .sl (some true) 35 true [] :: .int .i64 0 :: .sl (some true) 1 false [] :: .int .i64 0 :: []))), (2, .own 64 3 true none (x1.map e_api_Rule)), (5, .own 35 35 true none (x4.map e_api_Invoice)), (8, .own 35 35 true none (x6.map e_api_Invoice)), (11, .own 3 1 false none (x8.map (V.int .i64))), (13, .own 43 4 true none (([] : List S_api_Payment).map e_api_Payment))], 14⟩ : St) (weak_nilV 0 35 43 rfl rfl (by decide)) sbQ sbQ ⟨(0, ([] : List S_api_Payment)), rfl, ⟨omQ, omQ, omQ⟩, (Nat.lt_succ_self _), hM⟩ ?_
  clear hM
  rintro n10 S ⟨p10, rfl, hfa10, hm10, hM⟩
  have hM0 := hM; clear hM; obtain ⟨ag10, hag10, hM⟩ := iter_step hM0 (by omega) hf10; clear hM0
  replace hfa10 := nzQ hfa10
  replace hm10 := nzQ hm10
  have ha10 : addI .i64 p10.1 1 = p10.1 + 1 := add_one omQ omQ
  refine spQA ha10 ?_
  refine condC_intro (fun h11 => ?_) (fun h11 => ?_)
  · rw [if_pos h11] at hM
    refine spQA (And.intro ha10 h11) ?_
    have nh11 := nzQ h11
    refine bindC_intro omQ ?_
    have he12 := fun d => elt_mp (l := m.Queue) (f := e_api_Payment) (i := p10.1) omQ d
    refine spQA (And.intro ha10 he12) ?_
    refine ct_draw 42 5 [33, 34, 35, 36, 37] [] ([[], [0], [], [2], [2, 3]] ++ [List.range 5, List.range 6, List.range 7]) [] (by kernel_rfl) (by exact alQ) ?_
    refine spQA (And.intro ha10 he12) ?_
    have hM0 := hM; clear hM; obtain ⟨x13, hx14, hM⟩ := letk_opn hM0; clear hM0
    have hcx13 := merchant_paid_ok  (gt m.Queue p10.1) 
    rw [← hx14] at hcx13
    refine hcallC_give hcx13 (clQA (And.intro ha10 he12)) (clQA (And.intro ha10 he12)) ?_
    refine spQA (And.intro ha10 he12) ?_
    refine bindC_intro omQ ?_
    refine spQA (And.intro ha10 he12) ?_
    refine lp_intro (n10 - 1) (⟨[(1, .ptr 0 0), (2, .ptr 1 0), (27, .sl none 4 true (m.Queue.map e_api_Payment)), (28, .int .i64 (m.Queue.length : Int)), (29, .int .i64 (p10.1 + 1))], [(0, .var 40 true (.agg (.int .u8 (gt m.Name 0) :: .int .u8 (gt m.Name 1) :: .int .u8 (gt m.Name 2) :: .int .u8 (gt m.Name 3) :: .int .u8 (gt m.Name 4) :: .int .u8 (gt m.Name 5) :: .int .u8 (gt m.Name 6) :: .int .u8 (gt m.Name 7) :: .int .u8 (gt m.Name 8) :: .int .u8 (gt m.Name 9) :: .int .u8 (gt m.Name 10) :: .int .u8 (gt m.Name 11) :: .int .u8 (gt m.Name 12) :: .int .u8 (gt m.Name 13) :: .int .u8 (gt m.Name 14) :: .int .u8 (gt m.Name 15) :: .int .u8 (gt m.Name 16) :: .int .u8 (gt m.Name 17) :: .int .u8 (gt m.Name 18) :: .int .u8 (gt m.Name 19) :: .int .u8 (gt m.Name 20) :: .int .u8 (gt m.Name 21) :: .int .u8 (gt m.Name 22) :: .int .u8 (gt m.Name 23) :: .int .u8 (gt m.Name 24) :: .int .u8 (gt m.Name 25) :: .int .u8 (gt m.Name 26) :: .int .u8 (gt m.Name 27) :: .int .u8 (gt m.Name 28) :: .int .u8 (gt m.Name 29) :: .int .u8 (gt m.Name 30) :: .int .u8 (gt m.Name 31) :: .own 2 :: .own 5 :: .int .i64 m.Next :: .own 13 :: .own 8 :: .int .i64 m.Total :: .own 11 :: .int .i64 m.Now :: []))), (1, .var 40 true (.agg (.int .u8 0 :: .int .u8 0 :: .int .u8 0 :: .int .u8 0 :: .int .u8 0 :: .int .u8 0 :: .int .u8 0 :: .int .u8 0 :: .int .u8 0 :: .int .u8 0 :: .int .u8 0 :: .int .u8 0 :: .int .u8 0 :: .int .u8 0 :: .int .u8 0 :: .int .u8 0 :: .int .u8 0 :: .int .u8 0 :: .int .u8 0 :: .int .u8 0 :: .int .u8 0 :: .int .u8 0 :: .int .u8 0 :: .int .u8 0 :: .int .u8 0 :: .int .u8 0 :: .int .u8 0 :: .int .u8 0 :: .int .u8 0 :: .int .u8 0 :: .int .u8 0 :: .int .u8 0 :: .sl (some true) 3 true [] :: .sl (some true) 35 true [] :: .int .i64 0 :: .sl (some true) 4 true [] :: .sl (some true) 35 true [] :: .int .i64 0 :: .sl (some true) 1 false [] :: .int .i64 0 :: []))), (2, .own 64 3 true none (x1.map e_api_Rule)), (5, .own 35 35 true none (x4.map e_api_Invoice)), (8, .own 35 35 true none (x6.map e_api_Invoice)), (11, .own 3 1 false none (x8.map (V.int .i64))), (13, .own 43 4 true none ((p10.2 ++ ([x13] : List S_api_Payment)).map e_api_Payment))], 14⟩ : St) (by omega) sbQ sbQ ⟨((p10.1 + 1), (p10.2 ++ ([x13] : List S_api_Payment))), rfl, ⟨omQ, omQ, omQ⟩, omQ, iter_again hM hag10⟩
  · rw [if_neg (ne_true h11)] at hM
    refine spQA (And.intro ha10 h11) ?_
    have nh11 := nzQ h11
    subst hM
    exact retC_owns [5, 11] (bs := [.own 35 35 true none (x4.map e_api_Invoice), .own 3 1 false none (x8.map (V.int .i64))]) (clQA ha10) (by decide) (lfQA (And.intro ha10 h11))
set_option maxHeartbeats 2000000 in
set_option maxRecDepth 100000 in
theorem merchant_Ask_ok   (m : S_api_Merchant) (amount : Int)  : CallOk En 8 [.agg (.int .u8 (gt m.Name 0) :: .int .u8 (gt m.Name 1) :: .int .u8 (gt m.Name 2) :: .int .u8 (gt m.Name 3) :: .int .u8 (gt m.Name 4) :: .int .u8 (gt m.Name 5) :: .int .u8 (gt m.Name 6) :: .int .u8 (gt m.Name 7) :: .int .u8 (gt m.Name 8) :: .int .u8 (gt m.Name 9) :: .int .u8 (gt m.Name 10) :: .int .u8 (gt m.Name 11) :: .int .u8 (gt m.Name 12) :: .int .u8 (gt m.Name 13) :: .int .u8 (gt m.Name 14) :: .int .u8 (gt m.Name 15) :: .int .u8 (gt m.Name 16) :: .int .u8 (gt m.Name 17) :: .int .u8 (gt m.Name 18) :: .int .u8 (gt m.Name 19) :: .int .u8 (gt m.Name 20) :: .int .u8 (gt m.Name 21) :: .int .u8 (gt m.Name 22) :: .int .u8 (gt m.Name 23) :: .int .u8 (gt m.Name 24) :: .int .u8 (gt m.Name 25) :: .int .u8 (gt m.Name 26) :: .int .u8 (gt m.Name 27) :: .int .u8 (gt m.Name 28) :: .int .u8 (gt m.Name 29) :: .int .u8 (gt m.Name 30) :: .int .u8 (gt m.Name 31) :: .sl none 3 true (m.Policy.Rules.map e_api_Rule) :: .sl none 35 true (m.Open.map e_api_Invoice) :: .int .i64 m.Next :: .sl none 4 true (m.Queue.map e_api_Payment) :: .sl none 35 true (m.Paid.map e_api_Invoice) :: .int .i64 m.Total :: .sl none 1 false (m.Blocked.map (V.int .i64)) :: .int .i64 m.Now :: []), .int .i64 amount] (.tup [.agg (.int .u8 (gt (merchant_Ask m amount).1.Name 0) :: .int .u8 (gt (merchant_Ask m amount).1.Name 1) :: .int .u8 (gt (merchant_Ask m amount).1.Name 2) :: .int .u8 (gt (merchant_Ask m amount).1.Name 3) :: .int .u8 (gt (merchant_Ask m amount).1.Name 4) :: .int .u8 (gt (merchant_Ask m amount).1.Name 5) :: .int .u8 (gt (merchant_Ask m amount).1.Name 6) :: .int .u8 (gt (merchant_Ask m amount).1.Name 7) :: .int .u8 (gt (merchant_Ask m amount).1.Name 8) :: .int .u8 (gt (merchant_Ask m amount).1.Name 9) :: .int .u8 (gt (merchant_Ask m amount).1.Name 10) :: .int .u8 (gt (merchant_Ask m amount).1.Name 11) :: .int .u8 (gt (merchant_Ask m amount).1.Name 12) :: .int .u8 (gt (merchant_Ask m amount).1.Name 13) :: .int .u8 (gt (merchant_Ask m amount).1.Name 14) :: .int .u8 (gt (merchant_Ask m amount).1.Name 15) :: .int .u8 (gt (merchant_Ask m amount).1.Name 16) :: .int .u8 (gt (merchant_Ask m amount).1.Name 17) :: .int .u8 (gt (merchant_Ask m amount).1.Name 18) :: .int .u8 (gt (merchant_Ask m amount).1.Name 19) :: .int .u8 (gt (merchant_Ask m amount).1.Name 20) :: .int .u8 (gt (merchant_Ask m amount).1.Name 21) :: .int .u8 (gt (merchant_Ask m amount).1.Name 22) :: .int .u8 (gt (merchant_Ask m amount).1.Name 23) :: .int .u8 (gt (merchant_Ask m amount).1.Name 24) :: .int .u8 (gt (merchant_Ask m amount).1.Name 25) :: .int .u8 (gt (merchant_Ask m amount).1.Name 26) :: .int .u8 (gt (merchant_Ask m amount).1.Name 27) :: .int .u8 (gt (merchant_Ask m amount).1.Name 28) :: .int .u8 (gt (merchant_Ask m amount).1.Name 29) :: .int .u8 (gt (merchant_Ask m amount).1.Name 30) :: .int .u8 (gt (merchant_Ask m amount).1.Name 31) :: .sl none 3 true ((merchant_Ask m amount).1.Policy.Rules.map e_api_Rule) :: .sl none 35 true ((merchant_Ask m amount).1.Open.map e_api_Invoice) :: .int .i64 (merchant_Ask m amount).1.Next :: .sl none 4 true ((merchant_Ask m amount).1.Queue.map e_api_Payment) :: .sl none 35 true ((merchant_Ask m amount).1.Paid.map e_api_Invoice) :: .int .i64 (merchant_Ask m amount).1.Total :: .sl none 1 false ((merchant_Ask m amount).1.Blocked.map (V.int .i64)) :: .int .i64 (merchant_Ask m amount).1.Now :: []), .agg (.int .u8 (gt (merchant_Ask m amount).2.1.Payee 0) :: .int .u8 (gt (merchant_Ask m amount).2.1.Payee 1) :: .int .u8 (gt (merchant_Ask m amount).2.1.Payee 2) :: .int .u8 (gt (merchant_Ask m amount).2.1.Payee 3) :: .int .u8 (gt (merchant_Ask m amount).2.1.Payee 4) :: .int .u8 (gt (merchant_Ask m amount).2.1.Payee 5) :: .int .u8 (gt (merchant_Ask m amount).2.1.Payee 6) :: .int .u8 (gt (merchant_Ask m amount).2.1.Payee 7) :: .int .u8 (gt (merchant_Ask m amount).2.1.Payee 8) :: .int .u8 (gt (merchant_Ask m amount).2.1.Payee 9) :: .int .u8 (gt (merchant_Ask m amount).2.1.Payee 10) :: .int .u8 (gt (merchant_Ask m amount).2.1.Payee 11) :: .int .u8 (gt (merchant_Ask m amount).2.1.Payee 12) :: .int .u8 (gt (merchant_Ask m amount).2.1.Payee 13) :: .int .u8 (gt (merchant_Ask m amount).2.1.Payee 14) :: .int .u8 (gt (merchant_Ask m amount).2.1.Payee 15) :: .int .u8 (gt (merchant_Ask m amount).2.1.Payee 16) :: .int .u8 (gt (merchant_Ask m amount).2.1.Payee 17) :: .int .u8 (gt (merchant_Ask m amount).2.1.Payee 18) :: .int .u8 (gt (merchant_Ask m amount).2.1.Payee 19) :: .int .u8 (gt (merchant_Ask m amount).2.1.Payee 20) :: .int .u8 (gt (merchant_Ask m amount).2.1.Payee 21) :: .int .u8 (gt (merchant_Ask m amount).2.1.Payee 22) :: .int .u8 (gt (merchant_Ask m amount).2.1.Payee 23) :: .int .u8 (gt (merchant_Ask m amount).2.1.Payee 24) :: .int .u8 (gt (merchant_Ask m amount).2.1.Payee 25) :: .int .u8 (gt (merchant_Ask m amount).2.1.Payee 26) :: .int .u8 (gt (merchant_Ask m amount).2.1.Payee 27) :: .int .u8 (gt (merchant_Ask m amount).2.1.Payee 28) :: .int .u8 (gt (merchant_Ask m amount).2.1.Payee 29) :: .int .u8 (gt (merchant_Ask m amount).2.1.Payee 30) :: .int .u8 (gt (merchant_Ask m amount).2.1.Payee 31) :: .int .i64 (merchant_Ask m amount).2.1.Amount :: .int .i64 (merchant_Ask m amount).2.1.Time :: .int .i64 (merchant_Ask m amount).2.1.Number :: []), .int .i64 (merchant_Ask m amount).2.2]) [] := by
  generalize hM : merchant_Ask m amount = r
  rw [merchant_Ask.eq_1] at hM
  refine enterV En_ok En_mo noJ Try.func8 rfl Try.ntmps8 (by kernel_rfl) fun hw => ct_start ?_
  refine spQ ?_
  replace hw := nzQ hw
  have hM0 := hM; clear hM; obtain ⟨x1, hx2, hM⟩ := letk_opn hM0; clear hM0
  have hcx1 := merchant_Valid_ok  m 
  rw [← hx2] at hcx1
  refine callC_give hcx1 clQ clQ (fun hw3 => ?_)
  replace hw3 := nzQ hw3
  refine spQ ?_
  refine condC_intro (fun h4 => ?_) (fun h4 => ?_)
  · rw [if_pos h4] at hM
    refine spQA h4 ?_
    have nh4 := nzQ h4
    subst hM
    exact retC_view (lfQA h4)
  · rw [if_neg (ne_true h4)] at hM
    refine spQA h4 ?_
    have nh4 := nzQ h4
    refine guardC_f (fun h5 => ?_) (fun h5 => ?_)
    · rw [if_neg (ne_true h5)] at hM
      refine spQA h5 ?_
      have nh5 := nzQ h5
      refine condC_intro (fun h6 => ?_) (fun h6 => ?_)
      · rw [if_pos h6] at hM
        refine spQA h6 ?_
        have nh6 := nzQ h6
        subst hM
        exact retC_view (lfQA (And.intro h4 (And.intro h5 h6)))
      · rw [if_neg (ne_true h6)] at hM
        refine spQA h6 ?_
        have nh6 := nzQ h6
        refine ct_draw 79 12 [7, 26, 27, 28, 29, 30, 31, 32, 33, 34, 35, 36] [] ([[], [0], [], [2], [2, 3], [], [5], [0, 1, 2, 3, 4, 5, 6], [0, 1, 2, 3, 4, 5, 6, 7], [0, 1, 2, 3, 4, 5, 6, 7, 8], [0, 1, 2, 3, 4, 5, 6, 7, 8], [0, 1, 2, 3, 4, 5, 6, 7, 8, 9]] ++ [List.range 12]) [] (by kernel_rfl) (by exact alQ) ?_
        refine spQ ?_
        have hM0 := hM; clear hM; obtain ⟨x7, hx8, hM⟩ := letk_opn hM0; clear hM0
        have hcx7 := merchant_hour_ok  (m.Now) 
        rw [← hx8] at hcx7
        refine hcallC_give hcx7 clQ clQ ?_
        refine spQ ?_
        have hM0 := hM; clear hM; obtain ⟨x9, hx10, hM⟩ := letk_opn hM0; clear hM0
        have hcx9 := policy_Limit_ok  (m.Policy) x7 (m.Total) 
        rw [← hx10] at hcx9
        refine hcallC_give hcx9 clQ clQ ?_
        refine spQ ?_
        refine guardC_f (fun h11 => ?_) (fun h11 => ?_)
        · rw [if_neg (ne_true h11)] at hM
          refine spQA h11 ?_
          have nh11 := nzQ h11
          refine condC_intro (fun h12 => ?_) (fun h12 => ?_)
          · rw [if_pos h12] at hM
            refine spQA h12 ?_
            have nh12 := nzQ h12
            subst hM
            exact retC_view (lfQA (And.intro h4 (And.intro h5 (And.intro h6 (And.intro h11 h12)))))
          · rw [if_neg (ne_true h12)] at hM
            refine spQA h12 ?_
            have nh12 := nzQ h12
            refine guardC_f (fun h13 => ?_) (fun h13 => ?_)
            · rw [if_neg (ne_true h13)] at hM
              refine spQA h13 ?_
              have nh13 := nzQ h13
              refine condC_intro (fun h14 => ?_) (fun h14 => ?_)
              · rw [if_pos h14] at hM
                refine spQA h14 ?_
                have nh14 := nzQ h14
                subst hM
                exact retC_view (lfQA (And.intro h4 (And.intro h5 (And.intro h6 (And.intro h11 (And.intro h12 (And.intro h13 h14)))))))
              · rw [if_neg (ne_true h14)] at hM
                refine spQA h14 ?_
                have nh14 := nzQ h14
                have hM0 := hM; clear hM; obtain ⟨x15, hx16, hM⟩ := letk_opn hM0; clear hM0
                have hcx15 := merchant_cloned_ok  m 
                rw [← hx16] at hcx15
                refine callC_give hcx15 clQ clQ (fun hw17 => ?_)
                replace hw17 := nzQ hw17
                refine spQ ?_
                have hq18 : x15.Open.length = m.Open.length ∧ x15.Paid.length = m.Paid.length ∧ x15.Queue.length = m.Queue.length ∧ x15.Blocked.length = m.Blocked.length := by rw [hx16, cloned_eq]; exact ⟨rfl, rfl, rfl, rfl⟩
                refine bindC_intro (by (first | exact omQ | (clear hM; first | (have hv := mValid_len (hx2.symm.trans nh4); exact omQ')))) ?_
                refine spQ ?_
                refine ct_draw 79 3 [77, 78] [] ([[], [], [0]] ++ [List.range 3, List.range 4]) [(2, 1)] (by kernel_rfl) (by exact alQ) ?_
                refine spQ ?_
                subst hM
                exact retC_view (lfQA (And.intro h4 (And.intro h5 (And.intro h6 (And.intro h11 (And.intro h12 (And.intro h13 h14)))))))
            · rw [if_pos h13] at hM
              refine spQA h13 ?_
              have nh13 := nzQ h13
              subst hM
              exact retC_view (lfQA (And.intro h4 (And.intro h5 (And.intro h6 (And.intro h11 (And.intro h12 h13))))))
        · rw [if_pos h11] at hM
          refine spQA h11 ?_
          have nh11 := nzQ h11
          subst hM
          exact retC_view (lfQA (And.intro h4 (And.intro h5 (And.intro h6 h11))))
    · rw [if_pos h5] at hM
      refine spQA h5 ?_
      have nh5 := nzQ h5
      subst hM
      exact retC_view (lfQA (And.intro h4 h5))
set_option maxHeartbeats 2000000 in
set_option maxRecDepth 100000 in
theorem specielaw47_awake_ok     : CallOk En 6 [] (.bool (specielaw47_awake)) [] := by
  generalize hM : specielaw47_awake = r
  rw [specielaw47_awake.eq_1] at hM
  refine enterV En_ok En_mo noJ Try.func6 rfl Try.ntmps6 (by kernel_rfl) fun hw => ct_start ?_
  refine spQ ?_
  replace hw := nzQ hw
  have hM0 := hM; clear hM; obtain ⟨x1, hx2, hM⟩ := letk_opn hM0; clear hM0
  have hcx1 := merchant_New_ok  ([1, 0, 0, 0, 0, 0, 0, 0, 0, 0, 0, 0, 0, 0, 0, 0, 0, 0, 0, 0, 0, 0, 0, 0, 0, 0, 0, 0, 0, 0, 0, 0]) ({ Rules := ([({ Kind := 1, A := 50, B := 0 } : S_api_Rule)] : List S_api_Rule) } : S_api_Policy) 
  rw [← hx2] at hcx1
  refine callC_giveP hcx1 (weakP_pub 0 (T := 64) (n := 3) (g := true) (z := (some false)) (l := ([({ Kind := 1, A := 50, B := 0 } : S_api_Rule)] : List S_api_Rule).map e_api_Rule) clQ) clQ (fun hw3 => ?_)
  replace hw3 := nzQ hw3
  refine spQ ?_
  have hM0 := hM; clear hM; obtain ⟨x4, hx5, hM⟩ := letk_opn hM0; clear hM0
  have hcx4 := merchant_Ask_ok  (x1.1) 50 
  rw [← hx5] at hcx4
  refine callC_give hcx4 clQ clQ (fun hw6 => ?_)
  replace hw6 := nzQ hw6
  refine spQ ?_
  have hM0 := hM; clear hM; obtain ⟨x7, hx8, hM⟩ := letk_opn hM0; clear hM0
  have hcx7 := merchant_Ask_ok  (x4.1) 20 
  rw [← hx8] at hcx7
  refine callC_give hcx7 clQ clQ (fun hw9 => ?_)
  replace hw9 := nzQ hw9
  refine spQ ?_
  have hM0 := hM; clear hM; obtain ⟨x10, hx11, hM⟩ := letk_opn hM0; clear hM0
  have hcx10 := merchant_Ask_ok  (x7.1) 51 
  rw [← hx11] at hcx10
  refine callC_give hcx10 clQ clQ (fun hw12 => ?_)
  replace hw12 := nzQ hw12
  refine spQ ?_
  refine guardC_t (fun h13 => ?_) (fun h13 => ?_)
  · rw [if_pos h13] at hM
    refine spQA h13 ?_
    have nh13 := nzQ h13
    refine guardC_t (fun h14 => ?_) (fun h14 => ?_)
    · rw [if_pos h14] at hM
      refine spQA h14 ?_
      have nh14 := nzQ h14
      refine guardC_t (fun h15 => ?_) (fun h15 => ?_)
      · have kh15 : (q_api_Invoice (x4.2.1) ({ Payee := [1, 0, 0, 0, 0, 0, 0, 0, 0, 0, 0, 0, 0, 0, 0, 0, 0, 0, 0, 0, 0, 0, 0, 0, 0, 0, 0, 0, 0, 0, 0, 0], Amount := 50, Time := 0, Number := 0 } : S_api_Invoice)) = true := h15
        rw [if_pos kh15] at hM
        refine spQA h15 ?_
        have nh15 := nzQ kh15
        refine guardC_t (fun h16 => ?_) (fun h16 => ?_)
        · rw [if_pos h16] at hM
          refine spQA h16 ?_
          have nh16 := nzQ h16
          refine guardC_t (fun h17 => ?_) (fun h17 => ?_)
          · rw [if_pos h17] at hM
            refine spQA h17 ?_
            have nh17 := nzQ h17
            subst hM
            exact retC_view (lfQA (And.intro h13 (And.intro h14 (And.intro h15 (And.intro h16 h17)))))
          · rw [if_neg (ne_true h17)] at hM
            refine spQA h17 ?_
            have nh17 := nzQ h17
            subst hM
            exact retC_view (lfQA (And.intro h13 (And.intro h14 (And.intro h15 (And.intro h16 h17)))))
        · rw [if_neg (ne_true h16)] at hM
          refine spQA h16 ?_
          have nh16 := nzQ h16
          subst hM
          exact retC_view (lfQA (And.intro h13 (And.intro h14 (And.intro h15 h16))))
      · have kh15 : (q_api_Invoice (x4.2.1) ({ Payee := [1, 0, 0, 0, 0, 0, 0, 0, 0, 0, 0, 0, 0, 0, 0, 0, 0, 0, 0, 0, 0, 0, 0, 0, 0, 0, 0, 0, 0, 0, 0, 0], Amount := 50, Time := 0, Number := 0 } : S_api_Invoice)) = false := h15
        rw [if_neg (ne_true kh15)] at hM
        refine spQA h15 ?_
        have nh15 := nzQ kh15
        subst hM
        exact retC_view (lfQA (And.intro h13 (And.intro h14 h15)))
    · rw [if_neg (ne_true h14)] at hM
      refine spQA h14 ?_
      have nh14 := nzQ h14
      subst hM
      exact retC_view (lfQA (And.intro h13 h14))
  · rw [if_neg (ne_true h13)] at hM
    refine spQA h13 ?_
    have nh13 := nzQ h13
    subst hM
    exact retC_view (lfQA h13)
set_option maxHeartbeats 2000000 in
set_option maxRecDepth 100000 in
theorem specielaw47_light_1_ok   (h_ : S_api_Chain)  : CallOk En 54 [.agg (.int .i64 h_.First.Coin.Bank :: .int .i64 h_.First.Coin.Epoch :: .int .i64 h_.First.Coin.Denom :: .int .i64 h_.First.Coin.Depth :: .int .i64 h_.First.Coin.A :: .int .u8 (gt h_.First.Coin.Root 0) :: .int .u8 (gt h_.First.Coin.Root 1) :: .int .u8 (gt h_.First.Coin.Root 2) :: .int .u8 (gt h_.First.Coin.Root 3) :: .int .u8 (gt h_.First.Coin.Root 4) :: .int .u8 (gt h_.First.Coin.Root 5) :: .int .u8 (gt h_.First.Coin.Root 6) :: .int .u8 (gt h_.First.Coin.Root 7) :: .int .u8 (gt h_.First.Coin.Root 8) :: .int .u8 (gt h_.First.Coin.Root 9) :: .int .u8 (gt h_.First.Coin.Root 10) :: .int .u8 (gt h_.First.Coin.Root 11) :: .int .u8 (gt h_.First.Coin.Root 12) :: .int .u8 (gt h_.First.Coin.Root 13) :: .int .u8 (gt h_.First.Coin.Root 14) :: .int .u8 (gt h_.First.Coin.Root 15) :: .int .u8 (gt h_.First.Coin.Root 16) :: .int .u8 (gt h_.First.Coin.Root 17) :: .int .u8 (gt h_.First.Coin.Root 18) :: .int .u8 (gt h_.First.Coin.Root 19) :: .int .u8 (gt h_.First.Coin.Root 20) :: .int .u8 (gt h_.First.Coin.Root 21) :: .int .u8 (gt h_.First.Coin.Root 22) :: .int .u8 (gt h_.First.Coin.Root 23) :: .int .u8 (gt h_.First.Coin.Root 24) :: .int .u8 (gt h_.First.Coin.Root 25) :: .int .u8 (gt h_.First.Coin.Root 26) :: .int .u8 (gt h_.First.Coin.Root 27) :: .int .u8 (gt h_.First.Coin.Root 28) :: .int .u8 (gt h_.First.Coin.Root 29) :: .int .u8 (gt h_.First.Coin.Root 30) :: .int .u8 (gt h_.First.Coin.Root 31) :: .int .i64 h_.First.Coin.Sign.Z :: .int .i64 h_.First.Coin.Sign.A :: .int .i64 h_.First.Coin.Sign.B :: .int .i64 h_.First.Coin.Sign.R :: .int .i64 h_.First.Node.Level :: .int .i64 h_.First.Node.Index :: .int .u8 (gt h_.First.Context.Payee 0) :: .int .u8 (gt h_.First.Context.Payee 1) :: .int .u8 (gt h_.First.Context.Payee 2) :: .int .u8 (gt h_.First.Context.Payee 3) :: .int .u8 (gt h_.First.Context.Payee 4) :: .int .u8 (gt h_.First.Context.Payee 5) :: .int .u8 (gt h_.First.Context.Payee 6) :: .int .u8 (gt h_.First.Context.Payee 7) :: .int .u8 (gt h_.First.Context.Payee 8) :: .int .u8 (gt h_.First.Context.Payee 9) :: .int .u8 (gt h_.First.Context.Payee 10) :: .int .u8 (gt h_.First.Context.Payee 11) :: .int .u8 (gt h_.First.Context.Payee 12) :: .int .u8 (gt h_.First.Context.Payee 13) :: .int .u8 (gt h_.First.Context.Payee 14) :: .int .u8 (gt h_.First.Context.Payee 15) :: .int .u8 (gt h_.First.Context.Payee 16) :: .int .u8 (gt h_.First.Context.Payee 17) :: .int .u8 (gt h_.First.Context.Payee 18) :: .int .u8 (gt h_.First.Context.Payee 19) :: .int .u8 (gt h_.First.Context.Payee 20) :: .int .u8 (gt h_.First.Context.Payee 21) :: .int .u8 (gt h_.First.Context.Payee 22) :: .int .u8 (gt h_.First.Context.Payee 23) :: .int .u8 (gt h_.First.Context.Payee 24) :: .int .u8 (gt h_.First.Context.Payee 25) :: .int .u8 (gt h_.First.Context.Payee 26) :: .int .u8 (gt h_.First.Context.Payee 27) :: .int .u8 (gt h_.First.Context.Payee 28) :: .int .u8 (gt h_.First.Context.Payee 29) :: .int .u8 (gt h_.First.Context.Payee 30) :: .int .u8 (gt h_.First.Context.Payee 31) :: .int .i64 h_.First.Context.Time :: .int .i64 h_.First.Context.Number :: .sl none 3 true (h_.First.Leaves.map e_api_Leaf) :: .int .i64 h_.First.Path.Index :: .sl none 32 true (h_.First.Path.L.map (fun l => .agg (.int .u8 (gt l 0) :: .int .u8 (gt l 1) :: .int .u8 (gt l 2) :: .int .u8 (gt l 3) :: .int .u8 (gt l 4) :: .int .u8 (gt l 5) :: .int .u8 (gt l 6) :: .int .u8 (gt l 7) :: .int .u8 (gt l 8) :: .int .u8 (gt l 9) :: .int .u8 (gt l 10) :: .int .u8 (gt l 11) :: .int .u8 (gt l 12) :: .int .u8 (gt l 13) :: .int .u8 (gt l 14) :: .int .u8 (gt l 15) :: .int .u8 (gt l 16) :: .int .u8 (gt l 17) :: .int .u8 (gt l 18) :: .int .u8 (gt l 19) :: .int .u8 (gt l 20) :: .int .u8 (gt l 21) :: .int .u8 (gt l 22) :: .int .u8 (gt l 23) :: .int .u8 (gt l 24) :: .int .u8 (gt l 25) :: .int .u8 (gt l 26) :: .int .u8 (gt l 27) :: .int .u8 (gt l 28) :: .int .u8 (gt l 29) :: .int .u8 (gt l 30) :: .int .u8 (gt l 31) :: []))) :: .sl none 80 true (h_.L.map e_api_Spend) :: [])] (.bool (specielaw47_light_1 h_)) [] := by
  generalize hM : specielaw47_light_1 h_ = r
  rw [specielaw47_light_1.eq_1] at hM
  refine enterV En_ok En_mo noJ Try.func54 rfl Try.ntmps54 (by kernel_rfl) fun hw => ct_start ?_
  refine spQ ?_
  replace hw := nzQ hw
  subst hM
  exact retC_view lfQ
set_option maxHeartbeats 2000000 in
set_option maxRecDepth 100000 in
theorem specielaw47_light_2_ok   (x_ : S_api_Escrow)  : CallOk En 56 [.agg [.int .i64 x_.E1, .int .i64 x_.E2, .sl none 1 false (x_.Proof.A.map (V.int .i64)), .int .i64 x_.Proof.C, .sl none 1 false (x_.Proof.Z.map (V.int .i64))]] (.bool (specielaw47_light_2 x_)) [] := by
  generalize hM : specielaw47_light_2 x_ = r
  rw [specielaw47_light_2.eq_1] at hM
  refine enterV En_ok En_mo noJ Try.func56 rfl Try.ntmps56 (by kernel_rfl) fun hw => ct_start ?_
  refine spQ ?_
  replace hw := nzQ hw
  refine guardC_f (fun h1 => ?_) (fun h1 => ?_)
  · rw [if_neg (ne_true h1)] at hM
    refine spQA h1 ?_
    have nh1 := nzQ h1
    subst hM
    exact retC_view (lfQA h1)
  · rw [if_pos h1] at hM
    refine spQA h1 ?_
    have nh1 := nzQ h1
    subst hM
    exact retC_view (lfQA h1)
set_option maxHeartbeats 2000000 in
set_option maxRecDepth 100000 in
theorem specieref35_Spends_ok   (h_ : S_api_Chain) (hp0 : h_.L.length ≤ 1000) : CallOk En 65 [.agg (.int .i64 h_.First.Coin.Bank :: .int .i64 h_.First.Coin.Epoch :: .int .i64 h_.First.Coin.Denom :: .int .i64 h_.First.Coin.Depth :: .int .i64 h_.First.Coin.A :: .int .u8 (gt h_.First.Coin.Root 0) :: .int .u8 (gt h_.First.Coin.Root 1) :: .int .u8 (gt h_.First.Coin.Root 2) :: .int .u8 (gt h_.First.Coin.Root 3) :: .int .u8 (gt h_.First.Coin.Root 4) :: .int .u8 (gt h_.First.Coin.Root 5) :: .int .u8 (gt h_.First.Coin.Root 6) :: .int .u8 (gt h_.First.Coin.Root 7) :: .int .u8 (gt h_.First.Coin.Root 8) :: .int .u8 (gt h_.First.Coin.Root 9) :: .int .u8 (gt h_.First.Coin.Root 10) :: .int .u8 (gt h_.First.Coin.Root 11) :: .int .u8 (gt h_.First.Coin.Root 12) :: .int .u8 (gt h_.First.Coin.Root 13) :: .int .u8 (gt h_.First.Coin.Root 14) :: .int .u8 (gt h_.First.Coin.Root 15) :: .int .u8 (gt h_.First.Coin.Root 16) :: .int .u8 (gt h_.First.Coin.Root 17) :: .int .u8 (gt h_.First.Coin.Root 18) :: .int .u8 (gt h_.First.Coin.Root 19) :: .int .u8 (gt h_.First.Coin.Root 20) :: .int .u8 (gt h_.First.Coin.Root 21) :: .int .u8 (gt h_.First.Coin.Root 22) :: .int .u8 (gt h_.First.Coin.Root 23) :: .int .u8 (gt h_.First.Coin.Root 24) :: .int .u8 (gt h_.First.Coin.Root 25) :: .int .u8 (gt h_.First.Coin.Root 26) :: .int .u8 (gt h_.First.Coin.Root 27) :: .int .u8 (gt h_.First.Coin.Root 28) :: .int .u8 (gt h_.First.Coin.Root 29) :: .int .u8 (gt h_.First.Coin.Root 30) :: .int .u8 (gt h_.First.Coin.Root 31) :: .int .i64 h_.First.Coin.Sign.Z :: .int .i64 h_.First.Coin.Sign.A :: .int .i64 h_.First.Coin.Sign.B :: .int .i64 h_.First.Coin.Sign.R :: .int .i64 h_.First.Node.Level :: .int .i64 h_.First.Node.Index :: .int .u8 (gt h_.First.Context.Payee 0) :: .int .u8 (gt h_.First.Context.Payee 1) :: .int .u8 (gt h_.First.Context.Payee 2) :: .int .u8 (gt h_.First.Context.Payee 3) :: .int .u8 (gt h_.First.Context.Payee 4) :: .int .u8 (gt h_.First.Context.Payee 5) :: .int .u8 (gt h_.First.Context.Payee 6) :: .int .u8 (gt h_.First.Context.Payee 7) :: .int .u8 (gt h_.First.Context.Payee 8) :: .int .u8 (gt h_.First.Context.Payee 9) :: .int .u8 (gt h_.First.Context.Payee 10) :: .int .u8 (gt h_.First.Context.Payee 11) :: .int .u8 (gt h_.First.Context.Payee 12) :: .int .u8 (gt h_.First.Context.Payee 13) :: .int .u8 (gt h_.First.Context.Payee 14) :: .int .u8 (gt h_.First.Context.Payee 15) :: .int .u8 (gt h_.First.Context.Payee 16) :: .int .u8 (gt h_.First.Context.Payee 17) :: .int .u8 (gt h_.First.Context.Payee 18) :: .int .u8 (gt h_.First.Context.Payee 19) :: .int .u8 (gt h_.First.Context.Payee 20) :: .int .u8 (gt h_.First.Context.Payee 21) :: .int .u8 (gt h_.First.Context.Payee 22) :: .int .u8 (gt h_.First.Context.Payee 23) :: .int .u8 (gt h_.First.Context.Payee 24) :: .int .u8 (gt h_.First.Context.Payee 25) :: .int .u8 (gt h_.First.Context.Payee 26) :: .int .u8 (gt h_.First.Context.Payee 27) :: .int .u8 (gt h_.First.Context.Payee 28) :: .int .u8 (gt h_.First.Context.Payee 29) :: .int .u8 (gt h_.First.Context.Payee 30) :: .int .u8 (gt h_.First.Context.Payee 31) :: .int .i64 h_.First.Context.Time :: .int .i64 h_.First.Context.Number :: .sl none 3 true (h_.First.Leaves.map e_api_Leaf) :: .int .i64 h_.First.Path.Index :: .sl none 32 true (h_.First.Path.L.map (fun l => .agg (.int .u8 (gt l 0) :: .int .u8 (gt l 1) :: .int .u8 (gt l 2) :: .int .u8 (gt l 3) :: .int .u8 (gt l 4) :: .int .u8 (gt l 5) :: .int .u8 (gt l 6) :: .int .u8 (gt l 7) :: .int .u8 (gt l 8) :: .int .u8 (gt l 9) :: .int .u8 (gt l 10) :: .int .u8 (gt l 11) :: .int .u8 (gt l 12) :: .int .u8 (gt l 13) :: .int .u8 (gt l 14) :: .int .u8 (gt l 15) :: .int .u8 (gt l 16) :: .int .u8 (gt l 17) :: .int .u8 (gt l 18) :: .int .u8 (gt l 19) :: .int .u8 (gt l 20) :: .int .u8 (gt l 21) :: .int .u8 (gt l 22) :: .int .u8 (gt l 23) :: .int .u8 (gt l 24) :: .int .u8 (gt l 25) :: .int .u8 (gt l 26) :: .int .u8 (gt l 27) :: .int .u8 (gt l 28) :: .int .u8 (gt l 29) :: .int .u8 (gt l 30) :: .int .u8 (gt l 31) :: []))) :: .sl none 80 true (h_.L.map e_api_Spend) :: [])] (.sl none 80 true ((specieref35_Spends h_).map e_api_Spend)) [] := by
  generalize hM : specieref35_Spends h_ = r
  rw [specieref35_Spends.eq_1] at hM
  refine enterV En_ok En_mo noJ Try.func65 rfl Try.ntmps65 (by kernel_rfl) fun hw => ct_start ?_
  refine spQ ?_
  replace hw := nzQ hw
  refine bindC_intro omQ ?_
  refine spQ ?_
  subst hM
  exact retC_view lfQ
set_option maxHeartbeats 2000000 in
set_option maxRecDepth 100000 in
theorem specieref38_Spends_ok   (p_ : S_api_Payment) (hp0 : p_.Spends.length ≤ 1000) (hp1 : p_.Chains.length ≤ 1000) (hpc : ∀ j : Int, 0 ≤ j → j.toNat < p_.Chains.length → (gt p_.Chains j).L.length ≤ 1000) : CallOk En 58 [.agg [.int .i64 p_.Number, .sl none 80 true (p_.Spends.map e_api_Spend), .sl none 81 true (p_.Chains.map e_api_Chain), .sl none 5 true (p_.Escrow.map e_api_Escrow)]] (.sl none 80 true ((specieref38_Spends p_).map e_api_Spend)) [] := by
  generalize hM : specieref38_Spends p_ = r
  rw [specieref38_Spends.eq_1] at hM
  refine enterV En_ok En_mo noJ Try.func58 rfl Try.ntmps58 (by kernel_rfl) fun hw => ct_start ?_
  refine spQ ?_
  replace hw := nzQ hw
  have hM0 := hM; clear hM; obtain ⟨f1, d1, hf1, hd1, hM⟩ := iter_opn hM0; clear hM0
  refine ct_loopW (fun n S => ∃ p : Int × List S_api_Spend, S = (⟨[(1, .ptr 0 0), (3, .own 1), (4, .int .i64 p.1)], [(0, .var 4 true (.agg [.int .i64 p_.Number, .sl none 80 true (p_.Spends.map e_api_Spend), .sl none 81 true (p_.Chains.map e_api_Chain), .sl none 5 true (p_.Escrow.map e_api_Escrow)])), (1, .own 84 80 true none (p.2.map e_api_Spend))], 2⟩ : St) ∧ ((0 ≤ p.1) ∧ (p.1 ≤ (p_.Spends.length : Int)) ∧ (((p.2).length : Int) ≤ p.1)) ∧ ((p_.Spends.length : Int) - p.1).toNat < n ∧ iter n f1 d1 p = r) (((p_.Spends.length : Int) - 0).toNat + 1) _ (⟨[(1, .ptr 0 0), (3, .own 1), (4, .int .i64 0)], [(0, .var 4 true (.agg [.int .i64 p_.Number, .sl none 80 true (p_.Spends.map e_api_Spend), .sl none 81 true (p_.Chains.map e_api_Chain), .sl none 5 true (p_.Escrow.map e_api_Escrow)])), (1, .own 84 80 true none (([] : List S_api_Spend).map e_api_Spend))], 2⟩ : St) (weak_nil 3 84 rfl (by decide)) sbQ sbQ ⟨(0, ([] : List S_api_Spend)), rfl, ⟨omQ, omQ, omQ⟩, (Nat.lt_succ_self _), hM⟩ ?_
  clear hM
  rintro n1 S ⟨p1, rfl, hfa1, hm1, hM⟩
  have hM0 := hM; clear hM; obtain ⟨ag1, hag1, hM⟩ := iter_step hM0 (by omega) hf1; clear hM0
  replace hfa1 := nzQ hfa1
  replace hm1 := nzQ hm1
  have ha1 : addI .i64 p1.1 1 = p1.1 + 1 := add_one omQ omQ
  refine spQA ha1 ?_
  refine condC_intro (fun h2 => ?_) (fun h2 => ?_)
  · rw [if_pos h2] at hM
    refine spQA (And.intro ha1 h2) ?_
    have nh2 := nzQ h2
    refine bindC_intro omQ ?_
    have he3 := fun d => elt_mp (l := p_.Spends) (f := e_api_Spend) (i := p1.1) omQ d
    refine spQA (And.intro ha1 he3) ?_
    refine bindC_intro omQ ?_
    refine spQA (And.intro ha1 he3) ?_
    refine lp_intro (n1 - 1) (⟨[(1, .ptr 0 0), (3, .own 1), (4, .int .i64 (p1.1 + 1))], [(0, .var 4 true (.agg [.int .i64 p_.Number, .sl none 80 true (p_.Spends.map e_api_Spend), .sl none 81 true (p_.Chains.map e_api_Chain), .sl none 5 true (p_.Escrow.map e_api_Escrow)])), (1, .own 84 80 true none ((p1.2 ++ ([(gt p_.Spends p1.1)] : List S_api_Spend)).map e_api_Spend))], 2⟩ : St) (by omega) sbQ sbQ ⟨((p1.1 + 1), (p1.2 ++ ([(gt p_.Spends p1.1)] : List S_api_Spend))), rfl, ⟨omQ, omQ, omQ⟩, omQ, iter_again hM hag1⟩
  · rw [if_neg (ne_true h2)] at hM
    refine spQA (And.intro ha1 h2) ?_
    have nh2 := nzQ h2
    have hM0 := hM; clear hM; obtain ⟨f4, d4, hf4, hd4, hM⟩ := iter_opn hM0; clear hM0
    refine ct_loop (fun n S => ∃ p : Int × List S_api_Spend, S = (⟨[(1, .ptr 0 0), (3, .own 1), (5, .int .i64 p.1)], [(0, .var 4 true (.agg [.int .i64 p_.Number, .sl none 80 true (p_.Spends.map e_api_Spend), .sl none 81 true (p_.Chains.map e_api_Chain), .sl none 5 true (p_.Escrow.map e_api_Escrow)])), (1, .own 84 80 true none (p.2.map e_api_Spend))], 2⟩ : St) ∧ ((0 ≤ p.1) ∧ (p.1 ≤ (p_.Chains.length : Int)) ∧ ((p.2.length : Int) ≤ (p_.Spends.length : Int) + 1001 * p.1)) ∧ ((p_.Chains.length : Int) - p.1).toNat < n ∧ iter n f4 d4 p = r) (((p_.Chains.length : Int) - 0).toNat + 1) (⟨[(1, .ptr 0 0), (3, .own 1), (5, .int .i64 0)], [(0, .var 4 true (.agg [.int .i64 p_.Number, .sl none 80 true (p_.Spends.map e_api_Spend), .sl none 81 true (p_.Chains.map e_api_Chain), .sl none 5 true (p_.Escrow.map e_api_Escrow)])), (1, .own 84 80 true none (p1.2.map e_api_Spend))], 2⟩ : St) sbQ sbQ ⟨(0, p1.2), rfl, ⟨omQ, omQ, omQ⟩, (Nat.lt_succ_self _), hM⟩ ?_
    clear hM
    rintro n4 S ⟨p4, rfl, hfa4, hm4, hM⟩
    have hM0 := hM; clear hM; obtain ⟨ag4, hag4, hM⟩ := iter_step hM0 (by omega) hf4; clear hM0
    replace hfa4 := nzQ hfa4
    replace hm4 := nzQ hm4
    have ha4 : addI .i64 p4.1 1 = p4.1 + 1 := add_one omQ omQ
    refine spQA (And.intro ha1 ha4) ?_
    refine condC_intro (fun h5 => ?_) (fun h5 => ?_)
    · rw [if_pos h5] at hM
      refine spQA (And.intro ha1 (And.intro ha4 h5)) ?_
      have nh5 := nzQ h5
      refine bindC_intro omQ ?_
      have he6 := fun d => elt_mp (l := p_.Chains) (f := e_api_Chain) (i := p4.1) omQ d
      refine spQA (And.intro ha1 (And.intro ha4 he6)) ?_
      have hM0 := hM; clear hM; obtain ⟨x7, hx8, hM⟩ := letk_opn hM0; clear hM0
      have hcx7 := specieref35_Spends_ok  (gt p_.Chains p4.1) (by (exact hpc _ (by omega) (by omega)))
      rw [← hx8] at hcx7
      refine callC_give hcx7 (clQA (And.intro ha1 (And.intro ha4 he6))) (clQA (And.intro ha1 (And.intro ha4 he6))) (fun hw9 => ?_)
      replace hw9 := nzQ hw9
      refine spQA (And.intro ha1 (And.intro ha4 he6)) ?_
      have hq10 : x7.length ≤ 1001 := by
          have := hpc p4.1 (by omega) (by omega); rw [hx8]; simp only [specieref35_Spends, List.length_append, List.length_cons, List.length_nil]; omega
      have hM0 := hM; clear hM; obtain ⟨f11, d11, hf11, hd11, hM⟩ := iter_opn hM0; clear hM0
      refine ct_loop (fun n S => ∃ p : Int × List S_api_Spend, S = (⟨[(1, .ptr 0 0), (3, .own 1), (5, .int .i64 p4.1), (6, .sl none 80 true (x7.map e_api_Spend)), (7, .int .i64 p.1)], [(0, .var 4 true (.agg [.int .i64 p_.Number, .sl none 80 true (p_.Spends.map e_api_Spend), .sl none 81 true (p_.Chains.map e_api_Chain), .sl none 5 true (p_.Escrow.map e_api_Escrow)])), (1, .own 84 80 true none (p.2.map e_api_Spend))], 2⟩ : St) ∧ ((0 ≤ p.1) ∧ (p.1 ≤ (x7.length : Int)) ∧ ((p.2.length : Int) ≤ (p_.Spends.length : Int) + 1001 * p4.1 + p.1) ∧ (((p.2).length : Int) ≤ p.1 + (p4.2).length)) ∧ ((x7.length : Int) - p.1).toNat < n ∧ iter n f11 d11 p = r) (((x7.length : Int) - 0).toNat + 1) (⟨[(1, .ptr 0 0), (3, .own 1), (5, .int .i64 p4.1), (6, .sl none 80 true (x7.map e_api_Spend)), (7, .int .i64 0)], [(0, .var 4 true (.agg [.int .i64 p_.Number, .sl none 80 true (p_.Spends.map e_api_Spend), .sl none 81 true (p_.Chains.map e_api_Chain), .sl none 5 true (p_.Escrow.map e_api_Escrow)])), (1, .own 84 80 true none (p4.2.map e_api_Spend))], 2⟩ : St) sbQ sbQ ⟨(0, p4.2), rfl, ⟨omQ, omQ, omQ, omQ⟩, (Nat.lt_succ_self _), hM⟩ ?_
      clear hM
      rintro n11 S ⟨p11, rfl, hfa11, hm11, hM⟩
      have hM0 := hM; clear hM; obtain ⟨ag11, hag11, hM⟩ := iter_step hM0 (by omega) hf11; clear hM0
      replace hfa11 := nzQ hfa11
      replace hm11 := nzQ hm11
      have ha11 : addI .i64 p11.1 1 = p11.1 + 1 := add_one omQ omQ
      refine spQA (And.intro ha1 (And.intro ha4 (And.intro he6 ha11))) ?_
      refine condC_intro (fun h12 => ?_) (fun h12 => ?_)
      · rw [if_pos h12] at hM
        refine spQA (And.intro ha1 (And.intro ha4 (And.intro he6 (And.intro ha11 h12)))) ?_
        have nh12 := nzQ h12
        refine bindC_intro omQ ?_
        have he13 := fun d => elt_mp (l := x7) (f := e_api_Spend) (i := p11.1) omQ d
        refine spQA (And.intro ha1 (And.intro ha4 (And.intro he6 (And.intro ha11 he13)))) ?_
        refine bindC_intro omQ ?_
        refine spQA (And.intro ha1 (And.intro ha4 (And.intro he6 (And.intro ha11 he13)))) ?_
        refine lp_intro (n11 - 1) (⟨[(1, .ptr 0 0), (3, .own 1), (5, .int .i64 p4.1), (6, .sl none 80 true (x7.map e_api_Spend)), (7, .int .i64 (p11.1 + 1))], [(0, .var 4 true (.agg [.int .i64 p_.Number, .sl none 80 true (p_.Spends.map e_api_Spend), .sl none 81 true (p_.Chains.map e_api_Chain), .sl none 5 true (p_.Escrow.map e_api_Escrow)])), (1, .own 84 80 true none ((p11.2 ++ ([(gt x7 p11.1)] : List S_api_Spend)).map e_api_Spend))], 2⟩ : St) (by omega) sbQ sbQ ⟨((p11.1 + 1), (p11.2 ++ ([(gt x7 p11.1)] : List S_api_Spend))), rfl, ⟨omQ, omQ, omQ, omQ⟩, omQ, iter_again hM hag11⟩
      · rw [if_neg (ne_true h12)] at hM
        refine spQA (And.intro ha1 (And.intro ha4 (And.intro he6 (And.intro ha11 h12)))) ?_
        have nh12 := nzQ h12
        refine lp_intro (n4 - 1) (⟨[(1, .ptr 0 0), (3, .own 1), (5, .int .i64 (p4.1 + 1))], [(0, .var 4 true (.agg [.int .i64 p_.Number, .sl none 80 true (p_.Spends.map e_api_Spend), .sl none 81 true (p_.Chains.map e_api_Chain), .sl none 5 true (p_.Escrow.map e_api_Escrow)])), (1, .own 84 80 true none (p11.2.map e_api_Spend))], 2⟩ : St) (by omega) sbQ sbQ ⟨((p4.1 + 1), p11.2), rfl, ⟨omQ, omQ, omQ⟩, omQ, iter_again hM hag4⟩
    · rw [if_neg (ne_true h5)] at hM
      refine spQA (And.intro ha1 (And.intro ha4 h5)) ?_
      have nh5 := nzQ h5
      subst hM
      exact retC_view (lfQA (And.intro ha1 (And.intro ha4 (And.intro h2 h5))))
set_option maxHeartbeats 2000000 in
set_option maxRecDepth 100000 in
theorem specielaw47_light_3_ok   (s : S_api_Spend)  : CallOk En 59 [.agg (.int .i64 s.Coin.Bank :: .int .i64 s.Coin.Epoch :: .int .i64 s.Coin.Denom :: .int .i64 s.Coin.Depth :: .int .i64 s.Coin.A :: .int .u8 (gt s.Coin.Root 0) :: .int .u8 (gt s.Coin.Root 1) :: .int .u8 (gt s.Coin.Root 2) :: .int .u8 (gt s.Coin.Root 3) :: .int .u8 (gt s.Coin.Root 4) :: .int .u8 (gt s.Coin.Root 5) :: .int .u8 (gt s.Coin.Root 6) :: .int .u8 (gt s.Coin.Root 7) :: .int .u8 (gt s.Coin.Root 8) :: .int .u8 (gt s.Coin.Root 9) :: .int .u8 (gt s.Coin.Root 10) :: .int .u8 (gt s.Coin.Root 11) :: .int .u8 (gt s.Coin.Root 12) :: .int .u8 (gt s.Coin.Root 13) :: .int .u8 (gt s.Coin.Root 14) :: .int .u8 (gt s.Coin.Root 15) :: .int .u8 (gt s.Coin.Root 16) :: .int .u8 (gt s.Coin.Root 17) :: .int .u8 (gt s.Coin.Root 18) :: .int .u8 (gt s.Coin.Root 19) :: .int .u8 (gt s.Coin.Root 20) :: .int .u8 (gt s.Coin.Root 21) :: .int .u8 (gt s.Coin.Root 22) :: .int .u8 (gt s.Coin.Root 23) :: .int .u8 (gt s.Coin.Root 24) :: .int .u8 (gt s.Coin.Root 25) :: .int .u8 (gt s.Coin.Root 26) :: .int .u8 (gt s.Coin.Root 27) :: .int .u8 (gt s.Coin.Root 28) :: .int .u8 (gt s.Coin.Root 29) :: .int .u8 (gt s.Coin.Root 30) :: .int .u8 (gt s.Coin.Root 31) :: .int .i64 s.Coin.Sign.Z :: .int .i64 s.Coin.Sign.A :: .int .i64 s.Coin.Sign.B :: .int .i64 s.Coin.Sign.R :: .int .i64 s.Node.Level :: .int .i64 s.Node.Index :: .int .u8 (gt s.Context.Payee 0) :: .int .u8 (gt s.Context.Payee 1) :: .int .u8 (gt s.Context.Payee 2) :: .int .u8 (gt s.Context.Payee 3) :: .int .u8 (gt s.Context.Payee 4) :: .int .u8 (gt s.Context.Payee 5) :: .int .u8 (gt s.Context.Payee 6) :: .int .u8 (gt s.Context.Payee 7) :: .int .u8 (gt s.Context.Payee 8) :: .int .u8 (gt s.Context.Payee 9) :: .int .u8 (gt s.Context.Payee 10) :: .int .u8 (gt s.Context.Payee 11) :: .int .u8 (gt s.Context.Payee 12) :: .int .u8 (gt s.Context.Payee 13) :: .int .u8 (gt s.Context.Payee 14) :: .int .u8 (gt s.Context.Payee 15) :: .int .u8 (gt s.Context.Payee 16) :: .int .u8 (gt s.Context.Payee 17) :: .int .u8 (gt s.Context.Payee 18) :: .int .u8 (gt s.Context.Payee 19) :: .int .u8 (gt s.Context.Payee 20) :: .int .u8 (gt s.Context.Payee 21) :: .int .u8 (gt s.Context.Payee 22) :: .int .u8 (gt s.Context.Payee 23) :: .int .u8 (gt s.Context.Payee 24) :: .int .u8 (gt s.Context.Payee 25) :: .int .u8 (gt s.Context.Payee 26) :: .int .u8 (gt s.Context.Payee 27) :: .int .u8 (gt s.Context.Payee 28) :: .int .u8 (gt s.Context.Payee 29) :: .int .u8 (gt s.Context.Payee 30) :: .int .u8 (gt s.Context.Payee 31) :: .int .i64 s.Context.Time :: .int .i64 s.Context.Number :: .sl none 3 true (s.Leaves.map e_api_Leaf) :: .int .i64 s.Path.Index :: .sl none 32 true (s.Path.L.map (fun l => .agg (.int .u8 (gt l 0) :: .int .u8 (gt l 1) :: .int .u8 (gt l 2) :: .int .u8 (gt l 3) :: .int .u8 (gt l 4) :: .int .u8 (gt l 5) :: .int .u8 (gt l 6) :: .int .u8 (gt l 7) :: .int .u8 (gt l 8) :: .int .u8 (gt l 9) :: .int .u8 (gt l 10) :: .int .u8 (gt l 11) :: .int .u8 (gt l 12) :: .int .u8 (gt l 13) :: .int .u8 (gt l 14) :: .int .u8 (gt l 15) :: .int .u8 (gt l 16) :: .int .u8 (gt l 17) :: .int .u8 (gt l 18) :: .int .u8 (gt l 19) :: .int .u8 (gt l 20) :: .int .u8 (gt l 21) :: .int .u8 (gt l 22) :: .int .u8 (gt l 23) :: .int .u8 (gt l 24) :: .int .u8 (gt l 25) :: .int .u8 (gt l 26) :: .int .u8 (gt l 27) :: .int .u8 (gt l 28) :: .int .u8 (gt l 29) :: .int .u8 (gt l 30) :: .int .u8 (gt l 31) :: []))) :: [])] (.bool (specielaw47_light_3 s)) [] := by
  generalize hM : specielaw47_light_3 s = r
  rw [specielaw47_light_3.eq_1] at hM
  refine enterV En_ok En_mo noJ Try.func59 rfl Try.ntmps59 (by kernel_rfl) fun hw => ct_start ?_
  refine spQ ?_
  replace hw := nzQ hw
  refine guardC_f (fun h1 => ?_) (fun h1 => ?_)
  · rw [if_neg (ne_true h1)] at hM
    refine spQA h1 ?_
    have nh1 := nzQ h1
    subst hM
    exact retC_view (lfQA h1)
  · rw [if_pos h1] at hM
    refine spQA h1 ?_
    have nh1 := nzQ h1
    subst hM
    exact retC_view (lfQA h1)
set_option maxHeartbeats 2000000 in
set_option maxRecDepth 100000 in
theorem slices_IndexFunc_api_Chain_api_Chain_at_specielaw47_light_1_ok  (z0 : Option Bool) (s : (List S_api_Chain))  : CallOk En 76 [.sl z0 81 true (s.map e_api_Chain), .fn 54 []] (.int .i64 (slices_IndexFunc_api_Chain_api_Chain_at_specielaw47_light_1 s)) [] := by
  generalize hM : slices_IndexFunc_api_Chain_api_Chain_at_specielaw47_light_1 s = r
  rw [slices_IndexFunc_api_Chain_api_Chain_at_specielaw47_light_1.eq_1] at hM
  refine enterV En_ok En_mo noJ Try.func76 rfl Try.ntmps76 (by kernel_rfl) fun hw => ct_start ?_
  refine spQ ?_
  replace hw := nzQ hw
  have hM0 := hM; clear hM; obtain ⟨f1, d1, hf1, hd1, hM⟩ := iter_opn hM0; clear hM0
  refine ct_loop (fun n S => ∃ p : Int, S = (⟨[(0, .sl z0 81 true (s.map e_api_Chain)), (1, .fn 54 []), (7, .int .i64 (s.length : Int)), (8, .int .i64 p)], [], 0⟩ : St) ∧ ((0 ≤ p) ∧ (p ≤ (s.length : Int))) ∧ ((s.length : Int) - p).toNat < n ∧ iter n f1 d1 p = r) (((s.length : Int) - 0).toNat + 1) (⟨[(0, .sl z0 81 true (s.map e_api_Chain)), (1, .fn 54 []), (7, .int .i64 (s.length : Int)), (8, .int .i64 0)], [], 0⟩ : St) sbQ sbQ ⟨0, rfl, ⟨omQ, omQ⟩, (Nat.lt_succ_self _), hM⟩ ?_
  clear hM
  rintro n1 S ⟨p1, rfl, hfa1, hm1, hM⟩
  have hM0 := hM; clear hM; obtain ⟨ag1, hag1, hM⟩ := iter_step hM0 (by omega) hf1; clear hM0
  replace hfa1 := nzQ hfa1
  replace hm1 := nzQ hm1
  have ha1 : addI .i64 p1 1 = p1 + 1 := add_one omQ omQ
  refine spQA ha1 ?_
  refine condC_intro (fun h2 => ?_) (fun h2 => ?_)
  · rw [if_pos h2] at hM
    refine spQA (And.intro ha1 h2) ?_
    have nh2 := nzQ h2
    refine bindC_intro omQ ?_
    have he3 := fun d => elt_mp (l := s) (f := e_api_Chain) (i := p1) omQ d
    refine spQA (And.intro ha1 he3) ?_
    have hM0 := hM; clear hM; obtain ⟨x4, hx5, hM⟩ := letk_opn hM0; clear hM0
    have hcx4 := specielaw47_light_1_ok  (gt s p1) 
    rw [← hx5] at hcx4
    refine callC_give hcx4 (clQA (And.intro ha1 he3)) (clQA (And.intro ha1 he3)) (fun hw6 => ?_)
    replace hw6 := nzQ hw6
    refine spQA (And.intro ha1 he3) ?_
    refine condC_intro (fun h7 => ?_) (fun h7 => ?_)
    · subst h7
      rw [if_pos rfl] at hM
      refine spQA (And.intro ha1 he3) ?_
      subst hM
      exact retC_view (lfQA (And.intro ha1 (And.intro he3 h2)))
    · subst h7
      rw [if_neg (by decide)] at hM
      refine spQA (And.intro ha1 he3) ?_
      refine lp_intro (n1 - 1) (⟨[(0, .sl z0 81 true (s.map e_api_Chain)), (1, .fn 54 []), (7, .int .i64 (s.length : Int)), (8, .int .i64 (p1 + 1))], [], 0⟩ : St) (by omega) sbQ sbQ ⟨(p1 + 1), rfl, ⟨omQ, omQ⟩, omQ, iter_again hM hag1⟩
  · rw [if_neg (ne_true h2)] at hM
    refine spQA (And.intro ha1 h2) ?_
    have nh2 := nzQ h2
    subst hM
    exact retC_view (lfQA (And.intro ha1 h2))
set_option maxHeartbeats 2000000 in
set_option maxRecDepth 100000 in
theorem slices_ContainsFunc_api_Chain_api_Chain_at_specielaw47_light_1_ok  (z0 : Option Bool) (s : (List S_api_Chain))  : CallOk En 53 [.sl z0 81 true (s.map e_api_Chain), .fn 54 []] (.bool (slices_ContainsFunc_api_Chain_api_Chain_at_specielaw47_light_1 s)) [] := by
  generalize hM : slices_ContainsFunc_api_Chain_api_Chain_at_specielaw47_light_1 s = r
  rw [slices_ContainsFunc_api_Chain_api_Chain_at_specielaw47_light_1.eq_1] at hM
  refine enterV En_ok En_mo noJ Try.func53 rfl Try.ntmps53 (by kernel_rfl) fun hw => ct_start ?_
  refine spQ ?_
  replace hw := nzQ hw
  have hM0 := hM; clear hM; obtain ⟨x1, hx2, hM⟩ := letk_opn hM0; clear hM0
  have hcx1 := slices_IndexFunc_api_Chain_api_Chain_at_specielaw47_light_1_ok z0 s 
  rw [← hx2] at hcx1
  refine callC_give hcx1 clQ clQ (fun hw3 => ?_)
  replace hw3 := nzQ hw3
  refine spQ ?_
  subst hM
  exact retC_view lfQ
set_option maxHeartbeats 2000000 in
set_option maxRecDepth 100000 in
theorem slices_IndexFunc_api_Escrow_api_Escrow_at_specielaw47_light_2_ok  (z0 : Option Bool) (s : (List S_api_Escrow))  : CallOk En 77 [.sl z0 5 true (s.map e_api_Escrow), .fn 56 []] (.int .i64 (slices_IndexFunc_api_Escrow_api_Escrow_at_specielaw47_light_2 s)) [] := by
  generalize hM : slices_IndexFunc_api_Escrow_api_Escrow_at_specielaw47_light_2 s = r
  rw [slices_IndexFunc_api_Escrow_api_Escrow_at_specielaw47_light_2.eq_1] at hM
  refine enterV En_ok En_mo noJ Try.func77 rfl Try.ntmps77 (by kernel_rfl) fun hw => ct_start ?_
  refine spQ ?_
  replace hw := nzQ hw
  have hM0 := hM; clear hM; obtain ⟨f1, d1, hf1, hd1, hM⟩ := iter_opn hM0; clear hM0
  refine ct_loop (fun n S => ∃ p : Int, S = (⟨[(0, .sl z0 5 true (s.map e_api_Escrow)), (1, .fn 56 []), (7, .int .i64 (s.length : Int)), (8, .int .i64 p)], [], 0⟩ : St) ∧ ((0 ≤ p) ∧ (p ≤ (s.length : Int))) ∧ ((s.length : Int) - p).toNat < n ∧ iter n f1 d1 p = r) (((s.length : Int) - 0).toNat + 1) (⟨[(0, .sl z0 5 true (s.map e_api_Escrow)), (1, .fn 56 []), (7, .int .i64 (s.length : Int)), (8, .int .i64 0)], [], 0⟩ : St) sbQ sbQ ⟨0, rfl, ⟨omQ, omQ⟩, (Nat.lt_succ_self _), hM⟩ ?_
  clear hM
  rintro n1 S ⟨p1, rfl, hfa1, hm1, hM⟩
  have hM0 := hM; clear hM; obtain ⟨ag1, hag1, hM⟩ := iter_step hM0 (by omega) hf1; clear hM0
  replace hfa1 := nzQ hfa1
  replace hm1 := nzQ hm1
  have ha1 : addI .i64 p1 1 = p1 + 1 := add_one omQ omQ
  refine spQA ha1 ?_
  refine condC_intro (fun h2 => ?_) (fun h2 => ?_)
  · rw [if_pos h2] at hM
    refine spQA (And.intro ha1 h2) ?_
    have nh2 := nzQ h2
    refine bindC_intro omQ ?_
    have he3 := fun d => elt_mp (l := s) (f := e_api_Escrow) (i := p1) omQ d
    refine spQA (And.intro ha1 he3) ?_
    have hM0 := hM; clear hM; obtain ⟨x4, hx5, hM⟩ := letk_opn hM0; clear hM0
    have hcx4 := specielaw47_light_2_ok  (gt s p1) 
    rw [← hx5] at hcx4
    refine callC_give hcx4 (clQA (And.intro ha1 he3)) (clQA (And.intro ha1 he3)) (fun hw6 => ?_)
    replace hw6 := nzQ hw6
    refine spQA (And.intro ha1 he3) ?_
    refine condC_intro (fun h7 => ?_) (fun h7 => ?_)
    · subst h7
      rw [if_pos rfl] at hM
      refine spQA (And.intro ha1 he3) ?_
      subst hM
      exact retC_view (lfQA (And.intro ha1 (And.intro he3 h2)))
    · subst h7
      rw [if_neg (by decide)] at hM
      refine spQA (And.intro ha1 he3) ?_
      refine lp_intro (n1 - 1) (⟨[(0, .sl z0 5 true (s.map e_api_Escrow)), (1, .fn 56 []), (7, .int .i64 (s.length : Int)), (8, .int .i64 (p1 + 1))], [], 0⟩ : St) (by omega) sbQ sbQ ⟨(p1 + 1), rfl, ⟨omQ, omQ⟩, omQ, iter_again hM hag1⟩
  · rw [if_neg (ne_true h2)] at hM
    refine spQA (And.intro ha1 h2) ?_
    have nh2 := nzQ h2
    subst hM
    exact retC_view (lfQA (And.intro ha1 h2))
set_option maxHeartbeats 2000000 in
set_option maxRecDepth 100000 in
theorem slices_ContainsFunc_api_Escrow_api_Escrow_at_specielaw47_light_2_ok  (z0 : Option Bool) (s : (List S_api_Escrow))  : CallOk En 55 [.sl z0 5 true (s.map e_api_Escrow), .fn 56 []] (.bool (slices_ContainsFunc_api_Escrow_api_Escrow_at_specielaw47_light_2 s)) [] := by
  generalize hM : slices_ContainsFunc_api_Escrow_api_Escrow_at_specielaw47_light_2 s = r
  rw [slices_ContainsFunc_api_Escrow_api_Escrow_at_specielaw47_light_2.eq_1] at hM
  refine enterV En_ok En_mo noJ Try.func55 rfl Try.ntmps55 (by kernel_rfl) fun hw => ct_start ?_
  refine spQ ?_
  replace hw := nzQ hw
  have hM0 := hM; clear hM; obtain ⟨x1, hx2, hM⟩ := letk_opn hM0; clear hM0
  have hcx1 := slices_IndexFunc_api_Escrow_api_Escrow_at_specielaw47_light_2_ok z0 s 
  rw [← hx2] at hcx1
  refine callC_give hcx1 clQ clQ (fun hw3 => ?_)
  replace hw3 := nzQ hw3
  refine spQ ?_
  subst hM
  exact retC_view lfQ
set_option maxHeartbeats 2000000 in
set_option maxRecDepth 100000 in
theorem slices_IndexFunc_api_Spend_api_Spend_at_specielaw47_light_3_ok  (z0 : Option Bool) (s : (List S_api_Spend))  : CallOk En 78 [.sl z0 80 true (s.map e_api_Spend), .fn 59 []] (.int .i64 (slices_IndexFunc_api_Spend_api_Spend_at_specielaw47_light_3 s)) [] := by
  generalize hM : slices_IndexFunc_api_Spend_api_Spend_at_specielaw47_light_3 s = r
  rw [slices_IndexFunc_api_Spend_api_Spend_at_specielaw47_light_3.eq_1] at hM
  refine enterV En_ok En_mo noJ Try.func78 rfl Try.ntmps78 (by kernel_rfl) fun hw => ct_start ?_
  refine spQ ?_
  replace hw := nzQ hw
  have hM0 := hM; clear hM; obtain ⟨f1, d1, hf1, hd1, hM⟩ := iter_opn hM0; clear hM0
  refine ct_loop (fun n S => ∃ p : Int, S = (⟨[(0, .sl z0 80 true (s.map e_api_Spend)), (1, .fn 59 []), (7, .int .i64 (s.length : Int)), (8, .int .i64 p)], [], 0⟩ : St) ∧ ((0 ≤ p) ∧ (p ≤ (s.length : Int))) ∧ ((s.length : Int) - p).toNat < n ∧ iter n f1 d1 p = r) (((s.length : Int) - 0).toNat + 1) (⟨[(0, .sl z0 80 true (s.map e_api_Spend)), (1, .fn 59 []), (7, .int .i64 (s.length : Int)), (8, .int .i64 0)], [], 0⟩ : St) sbQ sbQ ⟨0, rfl, ⟨omQ, omQ⟩, (Nat.lt_succ_self _), hM⟩ ?_
  clear hM
  rintro n1 S ⟨p1, rfl, hfa1, hm1, hM⟩
  have hM0 := hM; clear hM; obtain ⟨ag1, hag1, hM⟩ := iter_step hM0 (by omega) hf1; clear hM0
  replace hfa1 := nzQ hfa1
  replace hm1 := nzQ hm1
  have ha1 : addI .i64 p1 1 = p1 + 1 := add_one omQ omQ
  refine spQA ha1 ?_
  refine condC_intro (fun h2 => ?_) (fun h2 => ?_)
  · rw [if_pos h2] at hM
    refine spQA (And.intro ha1 h2) ?_
    have nh2 := nzQ h2
    refine bindC_intro omQ ?_
    have he3 := fun d => elt_mp (l := s) (f := e_api_Spend) (i := p1) omQ d
    refine spQA (And.intro ha1 he3) ?_
    have hM0 := hM; clear hM; obtain ⟨x4, hx5, hM⟩ := letk_opn hM0; clear hM0
    have hcx4 := specielaw47_light_3_ok  (gt s p1) 
    rw [← hx5] at hcx4
    refine callC_give hcx4 (clQA (And.intro ha1 he3)) (clQA (And.intro ha1 he3)) (fun hw6 => ?_)
    replace hw6 := nzQ hw6
    refine spQA (And.intro ha1 he3) ?_
    refine condC_intro (fun h7 => ?_) (fun h7 => ?_)
    · subst h7
      rw [if_pos rfl] at hM
      refine spQA (And.intro ha1 he3) ?_
      subst hM
      exact retC_view (lfQA (And.intro ha1 (And.intro he3 h2)))
    · subst h7
      rw [if_neg (by decide)] at hM
      refine spQA (And.intro ha1 he3) ?_
      refine lp_intro (n1 - 1) (⟨[(0, .sl z0 80 true (s.map e_api_Spend)), (1, .fn 59 []), (7, .int .i64 (s.length : Int)), (8, .int .i64 (p1 + 1))], [], 0⟩ : St) (by omega) sbQ sbQ ⟨(p1 + 1), rfl, ⟨omQ, omQ⟩, omQ, iter_again hM hag1⟩
  · rw [if_neg (ne_true h2)] at hM
    refine spQA (And.intro ha1 h2) ?_
    have nh2 := nzQ h2
    subst hM
    exact retC_view (lfQA (And.intro ha1 h2))
set_option maxHeartbeats 2000000 in
set_option maxRecDepth 100000 in
theorem slices_ContainsFunc_api_Spend_api_Spend_at_specielaw47_light_3_ok  (z0 : Option Bool) (s : (List S_api_Spend))  : CallOk En 57 [.sl z0 80 true (s.map e_api_Spend), .fn 59 []] (.bool (slices_ContainsFunc_api_Spend_api_Spend_at_specielaw47_light_3 s)) [] := by
  generalize hM : slices_ContainsFunc_api_Spend_api_Spend_at_specielaw47_light_3 s = r
  rw [slices_ContainsFunc_api_Spend_api_Spend_at_specielaw47_light_3.eq_1] at hM
  refine enterV En_ok En_mo noJ Try.func57 rfl Try.ntmps57 (by kernel_rfl) fun hw => ct_start ?_
  refine spQ ?_
  replace hw := nzQ hw
  have hM0 := hM; clear hM; obtain ⟨x1, hx2, hM⟩ := letk_opn hM0; clear hM0
  have hcx1 := slices_IndexFunc_api_Spend_api_Spend_at_specielaw47_light_3_ok z0 s 
  rw [← hx2] at hcx1
  refine callC_give hcx1 clQ clQ (fun hw3 => ?_)
  replace hw3 := nzQ hw3
  refine spQ ?_
  subst hM
  exact retC_view lfQ
set_option maxHeartbeats 2000000 in
set_option maxRecDepth 100000 in
theorem specielaw47_light_ok   (p_ : S_api_Payment)  : CallOk En 27 [.agg [.int .i64 p_.Number, .sl none 80 true (p_.Spends.map e_api_Spend), .sl none 81 true (p_.Chains.map e_api_Chain), .sl none 5 true (p_.Escrow.map e_api_Escrow)]] (.bool (specielaw47_light p_)) [] := by
  generalize hM : specielaw47_light p_ = r
  rw [specielaw47_light.eq_1] at hM
  refine enterV En_ok En_mo noJ Try.func27 rfl Try.ntmps27 (by kernel_rfl) fun hw => ct_start ?_
  refine spQ ?_
  replace hw := nzQ hw
  refine guardC_f (fun h1 => ?_) (fun h1 => ?_)
  · rw [if_neg (ne_true h1)] at hM
    refine spQA h1 ?_
    have nh1 := nzQ h1
    refine guardC_f (fun h2 => ?_) (fun h2 => ?_)
    · rw [if_neg (ne_true h2)] at hM
      refine spQA h2 ?_
      have nh2 := nzQ h2
      refine guardC_f (fun h3 => ?_) (fun h3 => ?_)
      · rw [if_neg (ne_true h3)] at hM
        refine spQA h3 ?_
        have nh3 := nzQ h3
        have hM0 := hM; clear hM; obtain ⟨x4, hx5, hM⟩ := letk_opn hM0; clear hM0
        have hcx4 := slices_ContainsFunc_api_Chain_api_Chain_at_specielaw47_light_1_ok none (p_.Chains) 
        rw [← hx5] at hcx4
        refine callC_give hcx4 clQ clQ (fun hw6 => ?_)
        replace hw6 := nzQ hw6
        refine spQ ?_
        refine condC_intro (fun h7 => ?_) (fun h7 => ?_)
        · subst h7
          rw [if_pos rfl] at hM
          refine spQ ?_
          subst hM
          exact retC_view (lfQA (And.intro h1 (And.intro h2 h3)))
        · subst h7
          rw [if_neg (by decide)] at hM
          refine spQ ?_
          have hM0 := hM; clear hM; obtain ⟨x8, hx9, hM⟩ := letk_opn hM0; clear hM0
          have hcx8 := slices_ContainsFunc_api_Escrow_api_Escrow_at_specielaw47_light_2_ok none (p_.Escrow) 
          rw [← hx9] at hcx8
          refine callC_give hcx8 clQ clQ (fun hw10 => ?_)
          replace hw10 := nzQ hw10
          refine spQ ?_
          refine condC_intro (fun h11 => ?_) (fun h11 => ?_)
          · subst h11
            rw [if_pos rfl] at hM
            refine spQ ?_
            subst hM
            exact retC_view (lfQA (And.intro h1 (And.intro h2 h3)))
          · subst h11
            rw [if_neg (by decide)] at hM
            refine spQ ?_
            have hM0 := hM; clear hM; obtain ⟨x12, hx13, hM⟩ := letk_opn hM0; clear hM0
            have hcx12 := specieref38_Spends_ok  p_ (by (first | omega | exact chains_len hx5.symm)) (by (first | omega | exact chains_len hx5.symm)) (by (first | omega | exact chains_len hx5.symm))
            rw [← hx13] at hcx12
            refine callC_give hcx12 clQ clQ (fun hw14 => ?_)
            replace hw14 := nzQ hw14
            refine spQ ?_
            have hM0 := hM; clear hM; obtain ⟨x15, hx16, hM⟩ := letk_opn hM0; clear hM0
            have hcx15 := slices_ContainsFunc_api_Spend_api_Spend_at_specielaw47_light_3_ok none x12 
            rw [← hx16] at hcx15
            refine callC_give hcx15 clQ clQ (fun hw17 => ?_)
            replace hw17 := nzQ hw17
            refine spQ ?_
            subst hM
            exact retC_view (lfQA (And.intro h1 (And.intro h2 h3)))
      · rw [if_pos h3] at hM
        refine spQA h3 ?_
        have nh3 := nzQ h3
        subst hM
        exact retC_view (lfQA (And.intro h1 (And.intro h2 h3)))
    · rw [if_pos h2] at hM
      refine spQA h2 ?_
      have nh2 := nzQ h2
      subst hM
      exact retC_view (lfQA (And.intro h1 h2))
  · rw [if_pos h1] at hM
    refine spQA h1 ?_
    have nh1 := nzQ h1
    subst hM
    exact retC_view (lfQA h1)
set_option maxHeartbeats 2000000 in
set_option maxRecDepth 100000 in
theorem specielaw47_few_1_ok   (p_ : S_api_Payment)  : CallOk En 26 [.agg [.int .i64 p_.Number, .sl none 80 true (p_.Spends.map e_api_Spend), .sl none 81 true (p_.Chains.map e_api_Chain), .sl none 5 true (p_.Escrow.map e_api_Escrow)]] (.bool (specielaw47_few_1 p_)) [] := by
  generalize hM : specielaw47_few_1 p_ = r
  rw [specielaw47_few_1.eq_1] at hM
  refine enterV En_ok En_mo noJ Try.func26 rfl Try.ntmps26 (by kernel_rfl) fun hw => ct_start ?_
  refine spQ ?_
  replace hw := nzQ hw
  have hM0 := hM; clear hM; obtain ⟨x1, hx2, hM⟩ := letk_opn hM0; clear hM0
  have hcx1 := specielaw47_light_ok  p_ 
  rw [← hx2] at hcx1
  refine callC_give hcx1 clQ clQ (fun hw3 => ?_)
  replace hw3 := nzQ hw3
  refine spQ ?_
  subst hM
  exact retC_view lfQ
set_option maxHeartbeats 2000000 in
set_option maxRecDepth 100000 in
theorem slices_IndexFunc_api_Payment_api_Payment_at_specielaw47_few_1_ok  (z0 : Option Bool) (s : (List S_api_Payment))  : CallOk En 52 [.sl z0 4 true (s.map e_api_Payment), .fn 26 []] (.int .i64 (slices_IndexFunc_api_Payment_api_Payment_at_specielaw47_few_1 s)) [] := by
  generalize hM : slices_IndexFunc_api_Payment_api_Payment_at_specielaw47_few_1 s = r
  rw [slices_IndexFunc_api_Payment_api_Payment_at_specielaw47_few_1.eq_1] at hM
  refine enterV En_ok En_mo noJ Try.func52 rfl Try.ntmps52 (by kernel_rfl) fun hw => ct_start ?_
  refine spQ ?_
  replace hw := nzQ hw
  have hM0 := hM; clear hM; obtain ⟨f1, d1, hf1, hd1, hM⟩ := iter_opn hM0; clear hM0
  refine ct_loop (fun n S => ∃ p : Int, S = (⟨[(0, .sl z0 4 true (s.map e_api_Payment)), (1, .fn 26 []), (7, .int .i64 (s.length : Int)), (8, .int .i64 p)], [], 0⟩ : St) ∧ ((0 ≤ p) ∧ (p ≤ (s.length : Int))) ∧ ((s.length : Int) - p).toNat < n ∧ iter n f1 d1 p = r) (((s.length : Int) - 0).toNat + 1) (⟨[(0, .sl z0 4 true (s.map e_api_Payment)), (1, .fn 26 []), (7, .int .i64 (s.length : Int)), (8, .int .i64 0)], [], 0⟩ : St) sbQ sbQ ⟨0, rfl, ⟨omQ, omQ⟩, (Nat.lt_succ_self _), hM⟩ ?_
  clear hM
  rintro n1 S ⟨p1, rfl, hfa1, hm1, hM⟩
  have hM0 := hM; clear hM; obtain ⟨ag1, hag1, hM⟩ := iter_step hM0 (by omega) hf1; clear hM0
  replace hfa1 := nzQ hfa1
  replace hm1 := nzQ hm1
  have ha1 : addI .i64 p1 1 = p1 + 1 := add_one omQ omQ
  refine spQA ha1 ?_
  refine condC_intro (fun h2 => ?_) (fun h2 => ?_)
  · rw [if_pos h2] at hM
    refine spQA (And.intro ha1 h2) ?_
    have nh2 := nzQ h2
    refine bindC_intro omQ ?_
    have he3 := fun d => elt_mp (l := s) (f := e_api_Payment) (i := p1) omQ d
    refine spQA (And.intro ha1 he3) ?_
    have hM0 := hM; clear hM; obtain ⟨x4, hx5, hM⟩ := letk_opn hM0; clear hM0
    have hcx4 := specielaw47_few_1_ok  (gt s p1) 
    rw [← hx5] at hcx4
    refine callC_give hcx4 (clQA (And.intro ha1 he3)) (clQA (And.intro ha1 he3)) (fun hw6 => ?_)
    replace hw6 := nzQ hw6
    refine spQA (And.intro ha1 he3) ?_
    refine condC_intro (fun h7 => ?_) (fun h7 => ?_)
    · subst h7
      rw [if_pos rfl] at hM
      refine spQA (And.intro ha1 he3) ?_
      subst hM
      exact retC_view (lfQA (And.intro ha1 (And.intro he3 h2)))
    · subst h7
      rw [if_neg (by decide)] at hM
      refine spQA (And.intro ha1 he3) ?_
      refine lp_intro (n1 - 1) (⟨[(0, .sl z0 4 true (s.map e_api_Payment)), (1, .fn 26 []), (7, .int .i64 (s.length : Int)), (8, .int .i64 (p1 + 1))], [], 0⟩ : St) (by omega) sbQ sbQ ⟨(p1 + 1), rfl, ⟨omQ, omQ⟩, omQ, iter_again hM hag1⟩
  · rw [if_neg (ne_true h2)] at hM
    refine spQA (And.intro ha1 h2) ?_
    have nh2 := nzQ h2
    subst hM
    exact retC_view (lfQA (And.intro ha1 h2))
set_option maxHeartbeats 2000000 in
set_option maxRecDepth 100000 in
theorem slices_ContainsFunc_api_Payment_api_Payment_at_specielaw47_few_1_ok  (z0 : Option Bool) (s : (List S_api_Payment))  : CallOk En 25 [.sl z0 4 true (s.map e_api_Payment), .fn 26 []] (.bool (slices_ContainsFunc_api_Payment_api_Payment_at_specielaw47_few_1 s)) [] := by
  generalize hM : slices_ContainsFunc_api_Payment_api_Payment_at_specielaw47_few_1 s = r
  rw [slices_ContainsFunc_api_Payment_api_Payment_at_specielaw47_few_1.eq_1] at hM
  refine enterV En_ok En_mo noJ Try.func25 rfl Try.ntmps25 (by kernel_rfl) fun hw => ct_start ?_
  refine spQ ?_
  replace hw := nzQ hw
  have hM0 := hM; clear hM; obtain ⟨x1, hx2, hM⟩ := letk_opn hM0; clear hM0
  have hcx1 := slices_IndexFunc_api_Payment_api_Payment_at_specielaw47_few_1_ok z0 s 
  rw [← hx2] at hcx1
  refine callC_give hcx1 clQ clQ (fun hw3 => ?_)
  replace hw3 := nzQ hw3
  refine spQ ?_
  subst hM
  exact retC_view lfQ
set_option maxHeartbeats 2000000 in
set_option maxRecDepth 100000 in
theorem specielaw47_few_ok   (m : S_api_Merchant)  : CallOk En 7 [.agg (.int .u8 (gt m.Name 0) :: .int .u8 (gt m.Name 1) :: .int .u8 (gt m.Name 2) :: .int .u8 (gt m.Name 3) :: .int .u8 (gt m.Name 4) :: .int .u8 (gt m.Name 5) :: .int .u8 (gt m.Name 6) :: .int .u8 (gt m.Name 7) :: .int .u8 (gt m.Name 8) :: .int .u8 (gt m.Name 9) :: .int .u8 (gt m.Name 10) :: .int .u8 (gt m.Name 11) :: .int .u8 (gt m.Name 12) :: .int .u8 (gt m.Name 13) :: .int .u8 (gt m.Name 14) :: .int .u8 (gt m.Name 15) :: .int .u8 (gt m.Name 16) :: .int .u8 (gt m.Name 17) :: .int .u8 (gt m.Name 18) :: .int .u8 (gt m.Name 19) :: .int .u8 (gt m.Name 20) :: .int .u8 (gt m.Name 21) :: .int .u8 (gt m.Name 22) :: .int .u8 (gt m.Name 23) :: .int .u8 (gt m.Name 24) :: .int .u8 (gt m.Name 25) :: .int .u8 (gt m.Name 26) :: .int .u8 (gt m.Name 27) :: .int .u8 (gt m.Name 28) :: .int .u8 (gt m.Name 29) :: .int .u8 (gt m.Name 30) :: .int .u8 (gt m.Name 31) :: .sl none 3 true (m.Policy.Rules.map e_api_Rule) :: .sl none 35 true (m.Open.map e_api_Invoice) :: .int .i64 m.Next :: .sl none 4 true (m.Queue.map e_api_Payment) :: .sl none 35 true (m.Paid.map e_api_Invoice) :: .int .i64 m.Total :: .sl none 1 false (m.Blocked.map (V.int .i64)) :: .int .i64 m.Now :: [])] (.bool (specielaw47_few m)) [] := by
  generalize hM : specielaw47_few m = r
  rw [specielaw47_few.eq_1] at hM
  refine enterV En_ok En_mo noJ Try.func7 rfl Try.ntmps7 (by kernel_rfl) fun hw => ct_start ?_
  refine spQ ?_
  replace hw := nzQ hw
  refine guardC_t (fun h1 => ?_) (fun h1 => ?_)
  · rw [if_pos h1] at hM
    refine spQA h1 ?_
    have nh1 := nzQ h1
    refine guardC_t (fun h2 => ?_) (fun h2 => ?_)
    · rw [if_pos h2] at hM
      refine spQA h2 ?_
      have nh2 := nzQ h2
      refine guardC_t (fun h3 => ?_) (fun h3 => ?_)
      · rw [if_pos h3] at hM
        refine spQA h3 ?_
        have nh3 := nzQ h3
        refine guardC_t (fun h4 => ?_) (fun h4 => ?_)
        · rw [if_pos h4] at hM
          refine spQA h4 ?_
          have nh4 := nzQ h4
          refine guardC_t (fun h5 => ?_) (fun h5 => ?_)
          · rw [if_pos h5] at hM
            refine spQA h5 ?_
            have nh5 := nzQ h5
            have hM0 := hM; clear hM; obtain ⟨x6, hx7, hM⟩ := letk_opn hM0; clear hM0
            have hcx6 := slices_ContainsFunc_api_Payment_api_Payment_at_specielaw47_few_1_ok none (m.Queue) 
            rw [← hx7] at hcx6
            refine callC_give hcx6 clQ clQ (fun hw8 => ?_)
            replace hw8 := nzQ hw8
            refine spQ ?_
            subst hM
            exact retC_view (lfQA (And.intro h1 (And.intro h2 (And.intro h3 (And.intro h4 h5)))))
          · rw [if_neg (ne_true h5)] at hM
            refine spQA h5 ?_
            have nh5 := nzQ h5
            subst hM
            exact retC_view (lfQA (And.intro h1 (And.intro h2 (And.intro h3 (And.intro h4 h5)))))
        · rw [if_neg (ne_true h4)] at hM
          refine spQA h4 ?_
          have nh4 := nzQ h4
          subst hM
          exact retC_view (lfQA (And.intro h1 (And.intro h2 (And.intro h3 h4))))
      · rw [if_neg (ne_true h3)] at hM
        refine spQA h3 ?_
        have nh3 := nzQ h3
        subst hM
        exact retC_view (lfQA (And.intro h1 (And.intro h2 h3)))
    · rw [if_neg (ne_true h2)] at hM
      refine spQA h2 ?_
      have nh2 := nzQ h2
      subst hM
      exact retC_view (lfQA (And.intro h1 h2))
  · rw [if_neg (ne_true h1)] at hM
    refine spQA h1 ?_
    have nh1 := nzQ h1
    subst hM
    exact retC_view (lfQA h1)
set_option maxHeartbeats 2000000 in
set_option maxRecDepth 100000 in
theorem specieref46_in_ok   (x_ : Int) (low : Int) (high : Int)  : CallOk En 73 [.int .i64 x_, .int .i64 low, .int .i64 high] (.bool (specieref46_in x_ low high)) [] := by
  generalize hM : specieref46_in x_ low high = r
  rw [specieref46_in.eq_1] at hM
  refine enterV En_ok En_mo noJ Try.func73 rfl Try.ntmps73 (by kernel_rfl) fun hw => ct_start ?_
  refine spQ ?_
  replace hw := nzQ hw
  refine guardC_t (fun h1 => ?_) (fun h1 => ?_)
  · rw [if_pos h1] at hM
    refine spQA h1 ?_
    have nh1 := nzQ h1
    subst hM
    exact retC_view (lfQA h1)
  · rw [if_neg (ne_true h1)] at hM
    refine spQA h1 ?_
    have nh1 := nzQ h1
    subst hM
    exact retC_view (lfQA h1)
set_option maxHeartbeats 2000000 in
set_option maxRecDepth 100000 in
theorem specieref46_Rule_ok   (r_ : S_api_Rule)  : CallOk En 47 [.agg [.int .i64 r_.Kind, .int .i64 r_.A, .int .i64 r_.B]] (.bool (specieref46_Rule r_)) [] := by
  generalize hM : specieref46_Rule r_ = r
  rw [specieref46_Rule.eq_1] at hM
  refine enterV En_ok En_mo noJ Try.func47 rfl Try.ntmps47 (by kernel_rfl) fun hw => ct_start ?_
  refine spQ ?_
  replace hw := nzQ hw
  refine guardC_f (fun h1 => ?_) (fun h1 => ?_)
  · rw [if_neg (ne_true h1)] at hM
    refine spQA h1 ?_
    have nh1 := nzQ h1
    refine condC_intro (fun h2 => ?_) (fun h2 => ?_)
    · rw [if_pos h2] at hM
      refine spQA h2 ?_
      have nh2 := nzQ h2
      have hM0 := hM; clear hM; obtain ⟨x3, hx4, hM⟩ := letk_opn hM0; clear hM0
      have hcx3 := specieref46_in_ok  (r_.A) 0 1099511627776 
      rw [← hx4] at hcx3
      refine callC_give hcx3 clQ clQ (fun hw5 => ?_)
      replace hw5 := nzQ hw5
      refine spQ ?_
      refine guardC_t (fun h6 => ?_) (fun h6 => ?_)
      · subst h6
        rw [if_pos rfl] at hM
        refine spQ ?_
        subst hM
        exact retC_view (lfQA (And.intro h1 h2))
      · subst h6
        rw [if_neg (by decide)] at hM
        refine spQ ?_
        subst hM
        exact retC_view (lfQA (And.intro h1 h2))
    · rw [if_neg (ne_true h2)] at hM
      refine spQA h2 ?_
      have nh2 := nzQ h2
      refine condC_intro (fun h7 => ?_) (fun h7 => ?_)
      · rw [if_pos h7] at hM
        refine spQA h7 ?_
        have nh7 := nzQ h7
        have hM0 := hM; clear hM; obtain ⟨x8, hx9, hM⟩ := letk_opn hM0; clear hM0
        have hcx8 := specieref46_in_ok  (r_.A) 0 1000 
        rw [← hx9] at hcx8
        refine callC_give hcx8 clQ clQ (fun hw10 => ?_)
        replace hw10 := nzQ hw10
        refine spQ ?_
        refine guardC_t (fun h11 => ?_) (fun h11 => ?_)
        · subst h11
          rw [if_pos rfl] at hM
          refine spQ ?_
          subst hM
          exact retC_view (lfQA (And.intro h1 (And.intro h2 h7)))
        · subst h11
          rw [if_neg (by decide)] at hM
          refine spQ ?_
          subst hM
          exact retC_view (lfQA (And.intro h1 (And.intro h2 h7)))
      · rw [if_neg (ne_true h7)] at hM
        refine spQA h7 ?_
        have nh7 := nzQ h7
        refine condC_intro (fun h12 => ?_) (fun h12 => ?_)
        · rw [if_pos h12] at hM
          refine spQA h12 ?_
          have nh12 := nzQ h12
          have hM0 := hM; clear hM; obtain ⟨x13, hx14, hM⟩ := letk_opn hM0; clear hM0
          have hcx13 := specieref46_in_ok  (r_.A) 0 8 
          rw [← hx14] at hcx13
          refine callC_give hcx13 clQ clQ (fun hw15 => ?_)
          replace hw15 := nzQ hw15
          refine spQ ?_
          refine guardC_t (fun h16 => ?_) (fun h16 => ?_)
          · subst h16
            rw [if_pos rfl] at hM
            refine spQ ?_
            subst hM
            exact retC_view (lfQA (And.intro h1 (And.intro h2 (And.intro h7 h12))))
          · subst h16
            rw [if_neg (by decide)] at hM
            refine spQ ?_
            subst hM
            exact retC_view (lfQA (And.intro h1 (And.intro h2 (And.intro h7 h12))))
        · rw [if_neg (ne_true h12)] at hM
          refine spQA h12 ?_
          have nh12 := nzQ h12
          refine guardC_t (fun h17 => ?_) (fun h17 => ?_)
          · rw [if_pos h17] at hM
            refine spQA h17 ?_
            have nh17 := nzQ h17
            have hM0 := hM; clear hM; obtain ⟨x18, hx19, hM⟩ := letk_opn hM0; clear hM0
            have hcx18 := specieref46_in_ok  (r_.A) 0 23 
            rw [← hx19] at hcx18
            refine callC_give hcx18 clQ clQ (fun hw20 => ?_)
            replace hw20 := nzQ hw20
            refine spQ ?_
            refine guardC_t (fun h21 => ?_) (fun h21 => ?_)
            · subst h21
              rw [if_pos rfl] at hM
              refine spQ ?_
              have hM0 := hM; clear hM; obtain ⟨x22, hx23, hM⟩ := letk_opn hM0; clear hM0
              have hcx22 := specieref46_in_ok  (r_.B) 0 23 
              rw [← hx23] at hcx22
              refine callC_give hcx22 clQ clQ (fun hw24 => ?_)
              replace hw24 := nzQ hw24
              refine spQ ?_
              refine guardC_t (fun h25 => ?_) (fun h25 => ?_)
              · subst h25
                rw [if_pos rfl] at hM
                refine spQ ?_
                subst hM
                exact retC_view (lfQA (And.intro h1 (And.intro h2 (And.intro h7 (And.intro h12 h17)))))
              · subst h25
                rw [if_neg (by decide)] at hM
                refine spQ ?_
                subst hM
                exact retC_view (lfQA (And.intro h1 (And.intro h2 (And.intro h7 (And.intro h12 h17)))))
            · subst h21
              rw [if_neg (by decide)] at hM
              refine spQ ?_
              subst hM
              exact retC_view (lfQA (And.intro h1 (And.intro h2 (And.intro h7 (And.intro h12 h17)))))
          · rw [if_neg (ne_true h17)] at hM
            refine spQA h17 ?_
            have nh17 := nzQ h17
            subst hM
            exact retC_view (lfQA (And.intro h1 (And.intro h2 (And.intro h7 (And.intro h12 h17)))))
  · rw [if_pos h1] at hM
    refine spQA h1 ?_
    have nh1 := nzQ h1
    have hM0 := hM; clear hM; obtain ⟨x26, hx27, hM⟩ := letk_opn hM0; clear hM0
    have hcx26 := specieref46_in_ok  (r_.A) 0 1099511627776 
    rw [← hx27] at hcx26
    refine callC_give hcx26 clQ clQ (fun hw28 => ?_)
    replace hw28 := nzQ hw28
    refine spQ ?_
    refine guardC_t (fun h29 => ?_) (fun h29 => ?_)
    · subst h29
      rw [if_pos rfl] at hM
      refine spQ ?_
      subst hM
      exact retC_view (lfQA h1)
    · subst h29
      rw [if_neg (by decide)] at hM
      refine spQ ?_
      subst hM
      exact retC_view (lfQA h1)
set_option maxHeartbeats 2000000 in
set_option maxRecDepth 100000 in
theorem specieref46_Valid_ok   (p_ : S_api_Policy)  : CallOk En 22 [.agg [.sl none 3 true (p_.Rules.map e_api_Rule)]] (.bool (specieref46_Valid p_)) [] := by
  generalize hM : specieref46_Valid p_ = r
  rw [specieref46_Valid.eq_1] at hM
  refine enterV En_ok En_mo noJ Try.func22 rfl Try.ntmps22 (by kernel_rfl) fun hw => ct_start ?_
  refine spQ ?_
  replace hw := nzQ hw
  refine condC_intro (fun h1 => ?_) (fun h1 => ?_)
  · rw [if_pos h1] at hM
    refine spQA h1 ?_
    have nh1 := nzQ h1
    subst hM
    exact retC_view (lfQA h1)
  · rw [if_neg (ne_true h1)] at hM
    refine spQA h1 ?_
    have nh1 := nzQ h1
    have hM0 := hM; clear hM; obtain ⟨f2, d2, hf2, hd2, hM⟩ := iter_opn hM0; clear hM0
    refine ct_loop (fun n S => ∃ p : Int, S = (⟨[(1, .ptr 0 0), (3, .int .i64 p)], [(0, .var 1 true (.agg [.sl none 3 true (p_.Rules.map e_api_Rule)]))], 1⟩ : St) ∧ ((0 ≤ p) ∧ (p ≤ (p_.Rules.length : Int))) ∧ ((p_.Rules.length : Int) - p).toNat < n ∧ iter n f2 d2 p = r) (((p_.Rules.length : Int) - 0).toNat + 1) (⟨[(1, .ptr 0 0), (3, .int .i64 0)], [(0, .var 1 true (.agg [.sl none 3 true (p_.Rules.map e_api_Rule)]))], 1⟩ : St) sbQ sbQ ⟨0, rfl, ⟨omQ, omQ⟩, (Nat.lt_succ_self _), hM⟩ ?_
    clear hM
    rintro n2 S ⟨p2, rfl, hfa2, hm2, hM⟩
    have hM0 := hM; clear hM; obtain ⟨ag2, hag2, hM⟩ := iter_step hM0 (by omega) hf2; clear hM0
    replace hfa2 := nzQ hfa2
    replace hm2 := nzQ hm2
    have ha2 : addI .i64 p2 1 = p2 + 1 := add_one omQ omQ
    refine spQA ha2 ?_
    refine condC_intro (fun h3 => ?_) (fun h3 => ?_)
    · rw [if_pos h3] at hM
      refine spQA (And.intro ha2 h3) ?_
      have nh3 := nzQ h3
      refine bindC_intro omQ ?_
      have he4 := fun d => elt_mp (l := p_.Rules) (f := e_api_Rule) (i := p2) omQ d
      refine spQA (And.intro ha2 he4) ?_
      have hM0 := hM; clear hM; obtain ⟨x5, hx6, hM⟩ := letk_opn hM0; clear hM0
      have hcx5 := specieref46_Rule_ok  (gt p_.Rules p2) 
      rw [← hx6] at hcx5
      refine callC_give hcx5 (clQA (And.intro ha2 he4)) (clQA (And.intro ha2 he4)) (fun hw7 => ?_)
      replace hw7 := nzQ hw7
      refine spQA (And.intro ha2 he4) ?_
      refine condC_intro (fun h8 => ?_) (fun h8 => ?_)
      · rw [if_pos h8] at hM
        refine spQA (And.intro ha2 (And.intro he4 h8)) ?_
        have nh8 := nzQ h8
        subst hM
        exact retC_view (lfQA (And.intro ha2 (And.intro he4 (And.intro h1 (And.intro h3 h8)))))
      · rw [if_neg (ne_true h8)] at hM
        refine spQA (And.intro ha2 (And.intro he4 h8)) ?_
        have nh8 := nzQ h8
        refine lp_intro (n2 - 1) (⟨[(1, .ptr 0 0), (3, .int .i64 (p2 + 1))], [(0, .var 1 true (.agg [.sl none 3 true (p_.Rules.map e_api_Rule)]))], 1⟩ : St) (by omega) sbQ sbQ ⟨(p2 + 1), rfl, ⟨omQ, omQ⟩, omQ, iter_again hM hag2⟩
    · rw [if_neg (ne_true h3)] at hM
      refine spQA (And.intro ha2 h3) ?_
      have nh3 := nzQ h3
      subst hM
      exact retC_view (lfQA (And.intro ha2 (And.intro h1 h3)))
set_option maxHeartbeats 2000000 in
set_option maxRecDepth 100000 in
theorem specieref38_in_ok   (x_ : Int) (low : Int) (high : Int)  : CallOk En 81 [.int .i64 x_, .int .i64 low, .int .i64 high] (.bool (specieref38_in x_ low high)) [] := by
  generalize hM : specieref38_in x_ low high = r
  rw [specieref38_in.eq_1] at hM
  refine enterV En_ok En_mo noJ Try.func81 rfl Try.ntmps81 (by kernel_rfl) fun hw => ct_start ?_
  refine spQ ?_
  replace hw := nzQ hw
  refine guardC_t (fun h1 => ?_) (fun h1 => ?_)
  · rw [if_pos h1] at hM
    refine spQA h1 ?_
    have nh1 := nzQ h1
    subst hM
    exact retC_view (lfQA h1)
  · rw [if_neg (ne_true h1)] at hM
    refine spQA h1 ?_
    have nh1 := nzQ h1
    subst hM
    exact retC_view (lfQA h1)
set_option maxHeartbeats 2000000 in
set_option maxRecDepth 100000 in
theorem specieref38_Valid_ok   (v : S_api_Invoice)  : CallOk En 63 [.agg (.int .u8 (gt v.Payee 0) :: .int .u8 (gt v.Payee 1) :: .int .u8 (gt v.Payee 2) :: .int .u8 (gt v.Payee 3) :: .int .u8 (gt v.Payee 4) :: .int .u8 (gt v.Payee 5) :: .int .u8 (gt v.Payee 6) :: .int .u8 (gt v.Payee 7) :: .int .u8 (gt v.Payee 8) :: .int .u8 (gt v.Payee 9) :: .int .u8 (gt v.Payee 10) :: .int .u8 (gt v.Payee 11) :: .int .u8 (gt v.Payee 12) :: .int .u8 (gt v.Payee 13) :: .int .u8 (gt v.Payee 14) :: .int .u8 (gt v.Payee 15) :: .int .u8 (gt v.Payee 16) :: .int .u8 (gt v.Payee 17) :: .int .u8 (gt v.Payee 18) :: .int .u8 (gt v.Payee 19) :: .int .u8 (gt v.Payee 20) :: .int .u8 (gt v.Payee 21) :: .int .u8 (gt v.Payee 22) :: .int .u8 (gt v.Payee 23) :: .int .u8 (gt v.Payee 24) :: .int .u8 (gt v.Payee 25) :: .int .u8 (gt v.Payee 26) :: .int .u8 (gt v.Payee 27) :: .int .u8 (gt v.Payee 28) :: .int .u8 (gt v.Payee 29) :: .int .u8 (gt v.Payee 30) :: .int .u8 (gt v.Payee 31) :: .int .i64 v.Amount :: .int .i64 v.Time :: .int .i64 v.Number :: [])] (.bool (specieref38_Valid v)) [] := by
  generalize hM : specieref38_Valid v = r
  rw [specieref38_Valid.eq_1] at hM
  refine enterV En_ok En_mo noJ Try.func63 rfl Try.ntmps63 (by kernel_rfl) fun hw => ct_start ?_
  refine spQ ?_
  replace hw := nzQ hw
  have hM0 := hM; clear hM; obtain ⟨x1, hx2, hM⟩ := letk_opn hM0; clear hM0
  have hcx1 := specieref38_in_ok  (v.Amount) 1 1099511627776 
  rw [← hx2] at hcx1
  refine callC_give hcx1 clQ clQ (fun hw3 => ?_)
  replace hw3 := nzQ hw3
  refine spQ ?_
  refine guardC_t (fun h4 => ?_) (fun h4 => ?_)
  · subst h4
    rw [if_pos rfl] at hM
    refine spQ ?_
    have hM0 := hM; clear hM; obtain ⟨x5, hx6, hM⟩ := letk_opn hM0; clear hM0
    have hcx5 := specieref38_in_ok  (v.Time) 0 1099511627776 
    rw [← hx6] at hcx5
    refine callC_give hcx5 clQ clQ (fun hw7 => ?_)
    replace hw7 := nzQ hw7
    refine spQ ?_
    refine guardC_t (fun h8 => ?_) (fun h8 => ?_)
    · subst h8
      rw [if_pos rfl] at hM
      refine spQ ?_
      have hM0 := hM; clear hM; obtain ⟨x9, hx10, hM⟩ := letk_opn hM0; clear hM0
      have hcx9 := specieref38_in_ok  (v.Number) 0 1073741824 
      rw [← hx10] at hcx9
      refine callC_give hcx9 clQ clQ (fun hw11 => ?_)
      replace hw11 := nzQ hw11
      refine spQ ?_
      subst hM
      exact retC_view lfQ
    · subst h8
      rw [if_neg (by decide)] at hM
      refine spQ ?_
      subst hM
      exact retC_view lfQ
  · subst h4
    rw [if_neg (by decide)] at hM
    refine spQ ?_
    subst hM
    exact retC_view lfQ
set_option maxHeartbeats 2000000 in
set_option maxRecDepth 100000 in
theorem specieref47_invoice_ok   (m : S_api_Merchant) (v : S_api_Invoice)  : CallOk En 30 [.agg (.int .u8 (gt m.Name 0) :: .int .u8 (gt m.Name 1) :: .int .u8 (gt m.Name 2) :: .int .u8 (gt m.Name 3) :: .int .u8 (gt m.Name 4) :: .int .u8 (gt m.Name 5) :: .int .u8 (gt m.Name 6) :: .int .u8 (gt m.Name 7) :: .int .u8 (gt m.Name 8) :: .int .u8 (gt m.Name 9) :: .int .u8 (gt m.Name 10) :: .int .u8 (gt m.Name 11) :: .int .u8 (gt m.Name 12) :: .int .u8 (gt m.Name 13) :: .int .u8 (gt m.Name 14) :: .int .u8 (gt m.Name 15) :: .int .u8 (gt m.Name 16) :: .int .u8 (gt m.Name 17) :: .int .u8 (gt m.Name 18) :: .int .u8 (gt m.Name 19) :: .int .u8 (gt m.Name 20) :: .int .u8 (gt m.Name 21) :: .int .u8 (gt m.Name 22) :: .int .u8 (gt m.Name 23) :: .int .u8 (gt m.Name 24) :: .int .u8 (gt m.Name 25) :: .int .u8 (gt m.Name 26) :: .int .u8 (gt m.Name 27) :: .int .u8 (gt m.Name 28) :: .int .u8 (gt m.Name 29) :: .int .u8 (gt m.Name 30) :: .int .u8 (gt m.Name 31) :: .sl none 3 true (m.Policy.Rules.map e_api_Rule) :: .sl none 35 true (m.Open.map e_api_Invoice) :: .int .i64 m.Next :: .sl none 4 true (m.Queue.map e_api_Payment) :: .sl none 35 true (m.Paid.map e_api_Invoice) :: .int .i64 m.Total :: .sl none 1 false (m.Blocked.map (V.int .i64)) :: .int .i64 m.Now :: []), .agg (.int .u8 (gt v.Payee 0) :: .int .u8 (gt v.Payee 1) :: .int .u8 (gt v.Payee 2) :: .int .u8 (gt v.Payee 3) :: .int .u8 (gt v.Payee 4) :: .int .u8 (gt v.Payee 5) :: .int .u8 (gt v.Payee 6) :: .int .u8 (gt v.Payee 7) :: .int .u8 (gt v.Payee 8) :: .int .u8 (gt v.Payee 9) :: .int .u8 (gt v.Payee 10) :: .int .u8 (gt v.Payee 11) :: .int .u8 (gt v.Payee 12) :: .int .u8 (gt v.Payee 13) :: .int .u8 (gt v.Payee 14) :: .int .u8 (gt v.Payee 15) :: .int .u8 (gt v.Payee 16) :: .int .u8 (gt v.Payee 17) :: .int .u8 (gt v.Payee 18) :: .int .u8 (gt v.Payee 19) :: .int .u8 (gt v.Payee 20) :: .int .u8 (gt v.Payee 21) :: .int .u8 (gt v.Payee 22) :: .int .u8 (gt v.Payee 23) :: .int .u8 (gt v.Payee 24) :: .int .u8 (gt v.Payee 25) :: .int .u8 (gt v.Payee 26) :: .int .u8 (gt v.Payee 27) :: .int .u8 (gt v.Payee 28) :: .int .u8 (gt v.Payee 29) :: .int .u8 (gt v.Payee 30) :: .int .u8 (gt v.Payee 31) :: .int .i64 v.Amount :: .int .i64 v.Time :: .int .i64 v.Number :: [])] (.bool (specieref47_invoice m v)) [] := by
  generalize hM : specieref47_invoice m v = r
  rw [specieref47_invoice.eq_1] at hM
  refine enterV En_ok En_mo noJ Try.func30 rfl Try.ntmps30 (by kernel_rfl) fun hw => ct_start ?_
  refine spQ ?_
  replace hw := nzQ hw
  have hM0 := hM; clear hM; obtain ⟨x1, hx2, hM⟩ := letk_opn hM0; clear hM0
  have hcx1 := specieref38_Valid_ok  v 
  rw [← hx2] at hcx1
  refine callC_give hcx1 clQ clQ (fun hw3 => ?_)
  replace hw3 := nzQ hw3
  refine spQ ?_
  refine guardC_t (fun h4 => ?_) (fun h4 => ?_)
  · subst h4
    rw [if_pos rfl] at hM
    refine spQ ?_
    refine guardC_t (fun h5 => ?_) (fun h5 => ?_)
    · have kh5 : (q_arr23 (v.Payee) (m.Name)) = true := h5
      rw [if_pos kh5] at hM
      refine spQA h5 ?_
      have nh5 := nzQ kh5
      refine guardC_t (fun h6 => ?_) (fun h6 => ?_)
      · rw [if_pos h6] at hM
        refine spQA h6 ?_
        have nh6 := nzQ h6
        subst hM
        exact retC_view (lfQA (And.intro h5 h6))
      · rw [if_neg (ne_true h6)] at hM
        refine spQA h6 ?_
        have nh6 := nzQ h6
        subst hM
        exact retC_view (lfQA (And.intro h5 h6))
    · have kh5 : (q_arr23 (v.Payee) (m.Name)) = false := h5
      rw [if_neg (ne_true kh5)] at hM
      refine spQA h5 ?_
      have nh5 := nzQ kh5
      subst hM
      exact retC_view (lfQA h5)
  · subst h4
    rw [if_neg (by decide)] at hM
    refine spQ ?_
    subst hM
    exact retC_view lfQ
set_option maxHeartbeats 2000000 in
set_option maxRecDepth 100000 in
theorem specieref47_Find_ok  (z0 : Option Bool) (l : (List S_api_Invoice)) (number : Int)  : CallOk En 31 [.sl z0 35 true (l.map e_api_Invoice), .int .i64 number] (.int .i64 (specieref47_Find l number)) [] := by
  generalize hM : specieref47_Find l number = r
  rw [specieref47_Find.eq_1] at hM
  refine enterV En_ok En_mo noJ Try.func31 rfl Try.ntmps31 (by kernel_rfl) fun hw => ct_start ?_
  refine spQ ?_
  replace hw := nzQ hw
  have hM0 := hM; clear hM; obtain ⟨f1, d1, hf1, hd1, hM⟩ := iter_opn hM0; clear hM0
  refine ct_loop (fun n S => ∃ p : Int, S = (⟨[(0, .sl z0 35 true (l.map e_api_Invoice)), (1, .int .i64 number), (5, .int .i64 p)], [], 0⟩ : St) ∧ ((0 ≤ p) ∧ (p ≤ (l.length : Int))) ∧ ((l.length : Int) - p).toNat < n ∧ iter n f1 d1 p = r) (((l.length : Int) - 0).toNat + 1) (⟨[(0, .sl z0 35 true (l.map e_api_Invoice)), (1, .int .i64 number), (5, .int .i64 0)], [], 0⟩ : St) sbQ sbQ ⟨0, rfl, ⟨omQ, omQ⟩, (Nat.lt_succ_self _), hM⟩ ?_
  clear hM
  rintro n1 S ⟨p1, rfl, hfa1, hm1, hM⟩
  have hM0 := hM; clear hM; obtain ⟨ag1, hag1, hM⟩ := iter_step hM0 (by omega) hf1; clear hM0
  replace hfa1 := nzQ hfa1
  replace hm1 := nzQ hm1
  have ha1 : addI .i64 p1 1 = p1 + 1 := add_one omQ omQ
  refine spQA ha1 ?_
  refine condC_intro (fun h2 => ?_) (fun h2 => ?_)
  · rw [if_pos h2] at hM
    refine spQA (And.intro ha1 h2) ?_
    have nh2 := nzQ h2
    refine bindC_intro omQ ?_
    have he3 := fun d => elt_mp (l := l) (f := e_api_Invoice) (i := p1) omQ d
    refine spQA (And.intro ha1 he3) ?_
    refine condC_intro (fun h4 => ?_) (fun h4 => ?_)
    · rw [if_pos h4] at hM
      refine spQA (And.intro ha1 (And.intro he3 h4)) ?_
      have nh4 := nzQ h4
      subst hM
      exact retC_view (lfQA (And.intro ha1 (And.intro he3 (And.intro h2 h4))))
    · rw [if_neg (ne_true h4)] at hM
      refine spQA (And.intro ha1 (And.intro he3 h4)) ?_
      have nh4 := nzQ h4
      refine lp_intro (n1 - 1) (⟨[(0, .sl z0 35 true (l.map e_api_Invoice)), (1, .int .i64 number), (5, .int .i64 (p1 + 1))], [], 0⟩ : St) (by omega) sbQ sbQ ⟨(p1 + 1), rfl, ⟨omQ, omQ⟩, omQ, iter_again hM hag1⟩
  · rw [if_neg (ne_true h2)] at hM
    refine spQA (And.intro ha1 h2) ?_
    have nh2 := nzQ h2
    subst hM
    exact retC_view (lfQA (And.intro ha1 h2))
set_option maxHeartbeats 2000000 in
set_option maxRecDepth 100000 in
theorem specieref47_Valid_ok   (m : S_api_Merchant)  : CallOk En 10 [.agg (.int .u8 (gt m.Name 0) :: .int .u8 (gt m.Name 1) :: .int .u8 (gt m.Name 2) :: .int .u8 (gt m.Name 3) :: .int .u8 (gt m.Name 4) :: .int .u8 (gt m.Name 5) :: .int .u8 (gt m.Name 6) :: .int .u8 (gt m.Name 7) :: .int .u8 (gt m.Name 8) :: .int .u8 (gt m.Name 9) :: .int .u8 (gt m.Name 10) :: .int .u8 (gt m.Name 11) :: .int .u8 (gt m.Name 12) :: .int .u8 (gt m.Name 13) :: .int .u8 (gt m.Name 14) :: .int .u8 (gt m.Name 15) :: .int .u8 (gt m.Name 16) :: .int .u8 (gt m.Name 17) :: .int .u8 (gt m.Name 18) :: .int .u8 (gt m.Name 19) :: .int .u8 (gt m.Name 20) :: .int .u8 (gt m.Name 21) :: .int .u8 (gt m.Name 22) :: .int .u8 (gt m.Name 23) :: .int .u8 (gt m.Name 24) :: .int .u8 (gt m.Name 25) :: .int .u8 (gt m.Name 26) :: .int .u8 (gt m.Name 27) :: .int .u8 (gt m.Name 28) :: .int .u8 (gt m.Name 29) :: .int .u8 (gt m.Name 30) :: .int .u8 (gt m.Name 31) :: .sl none 3 true (m.Policy.Rules.map e_api_Rule) :: .sl none 35 true (m.Open.map e_api_Invoice) :: .int .i64 m.Next :: .sl none 4 true (m.Queue.map e_api_Payment) :: .sl none 35 true (m.Paid.map e_api_Invoice) :: .int .i64 m.Total :: .sl none 1 false (m.Blocked.map (V.int .i64)) :: .int .i64 m.Now :: [])] (.bool (specieref47_Valid m)) [] := by
  generalize hM : specieref47_Valid m = r
  rw [specieref47_Valid.eq_1] at hM
  refine enterV En_ok En_mo noJ Try.func10 rfl Try.ntmps10 (by kernel_rfl) fun hw => ct_start ?_
  refine spQ ?_
  replace hw := nzQ hw
  have hM0 := hM; clear hM; obtain ⟨x1, hx2, hM⟩ := letk_opn hM0; clear hM0
  have hcx1 := specieref46_Valid_ok  (m.Policy) 
  rw [← hx2] at hcx1
  refine callC_give hcx1 clQ clQ (fun hw3 => ?_)
  replace hw3 := nzQ hw3
  refine spQ ?_
  refine guardC_f (fun h4 => ?_) (fun h4 => ?_)
  · rw [if_neg (ne_true h4)] at hM
    refine spQA h4 ?_
    have nh4 := nzQ h4
    refine guardC_f (fun h5 => ?_) (fun h5 => ?_)
    · rw [if_neg (ne_true h5)] at hM
      refine spQA h5 ?_
      have nh5 := nzQ h5
      refine guardC_f (fun h6 => ?_) (fun h6 => ?_)
      · rw [if_neg (ne_true h6)] at hM
        refine spQA h6 ?_
        have nh6 := nzQ h6
        refine guardC_f (fun h7 => ?_) (fun h7 => ?_)
        · rw [if_neg (ne_true h7)] at hM
          refine spQA h7 ?_
          have nh7 := nzQ h7
          refine guardC_f (fun h8 => ?_) (fun h8 => ?_)
          · rw [if_neg (ne_true h8)] at hM
            refine spQA h8 ?_
            have nh8 := nzQ h8
            refine guardC_f (fun h9 => ?_) (fun h9 => ?_)
            · rw [if_neg (ne_true h9)] at hM
              refine spQA h9 ?_
              have nh9 := nzQ h9
              refine guardC_f (fun h10 => ?_) (fun h10 => ?_)
              · rw [if_neg (ne_true h10)] at hM
                refine spQA h10 ?_
                have nh10 := nzQ h10
                refine guardC_f (fun h11 => ?_) (fun h11 => ?_)
                · rw [if_neg (ne_true h11)] at hM
                  refine spQA h11 ?_
                  have nh11 := nzQ h11
                  refine condC_intro (fun h12 => ?_) (fun h12 => ?_)
                  · rw [if_pos h12] at hM
                    refine spQA h12 ?_
                    have nh12 := nzQ h12
                    subst hM
                    exact retC_view (lfQA (And.intro h4 (And.intro h5 (And.intro h6 (And.intro h7 (And.intro h8 (And.intro h9 (And.intro h10 (And.intro h11 h12)))))))))
                  · rw [if_neg (ne_true h12)] at hM
                    refine spQA h12 ?_
                    have nh12 := nzQ h12
                    have hM0 := hM; clear hM; obtain ⟨f13, d13, hf13, hd13, hM⟩ := iter_opn hM0; clear hM0
                    refine ct_loop (fun n S => ∃ p : Int, S = (⟨[(1, .ptr 0 0), (3, .int .i64 p)], [(0, .var 40 true (.agg (.int .u8 (gt m.Name 0) :: .int .u8 (gt m.Name 1) :: .int .u8 (gt m.Name 2) :: .int .u8 (gt m.Name 3) :: .int .u8 (gt m.Name 4) :: .int .u8 (gt m.Name 5) :: .int .u8 (gt m.Name 6) :: .int .u8 (gt m.Name 7) :: .int .u8 (gt m.Name 8) :: .int .u8 (gt m.Name 9) :: .int .u8 (gt m.Name 10) :: .int .u8 (gt m.Name 11) :: .int .u8 (gt m.Name 12) :: .int .u8 (gt m.Name 13) :: .int .u8 (gt m.Name 14) :: .int .u8 (gt m.Name 15) :: .int .u8 (gt m.Name 16) :: .int .u8 (gt m.Name 17) :: .int .u8 (gt m.Name 18) :: .int .u8 (gt m.Name 19) :: .int .u8 (gt m.Name 20) :: .int .u8 (gt m.Name 21) :: .int .u8 (gt m.Name 22) :: .int .u8 (gt m.Name 23) :: .int .u8 (gt m.Name 24) :: .int .u8 (gt m.Name 25) :: .int .u8 (gt m.Name 26) :: .int .u8 (gt m.Name 27) :: .int .u8 (gt m.Name 28) :: .int .u8 (gt m.Name 29) :: .int .u8 (gt m.Name 30) :: .int .u8 (gt m.Name 31) :: .sl none 3 true (m.Policy.Rules.map e_api_Rule) :: .sl none 35 true (m.Open.map e_api_Invoice) :: .int .i64 m.Next :: .sl none 4 true (m.Queue.map e_api_Payment) :: .sl none 35 true (m.Paid.map e_api_Invoice) :: .int .i64 m.Total :: .sl none 1 false (m.Blocked.map (V.int .i64)) :: .int .i64 m.Now :: [])))], 1⟩ : St) ∧ ((0 ≤ p) ∧ (p ≤ (m.Open.length : Int))) ∧ ((m.Open.length : Int) - p).toNat < n ∧ iter n f13 d13 p = r) (((m.Open.length : Int) - 0).toNat + 1) (⟨[(1, .ptr 0 0), (3, .int .i64 0)], [(0, .var 40 true (.agg (.int .u8 (gt m.Name 0) :: .int .u8 (gt m.Name 1) :: .int .u8 (gt m.Name 2) :: .int .u8 (gt m.Name 3) :: .int .u8 (gt m.Name 4) :: .int .u8 (gt m.Name 5) :: .int .u8 (gt m.Name 6) :: .int .u8 (gt m.Name 7) :: .int .u8 (gt m.Name 8) :: .int .u8 (gt m.Name 9) :: .int .u8 (gt m.Name 10) :: .int .u8 (gt m.Name 11) :: .int .u8 (gt m.Name 12) :: .int .u8 (gt m.Name 13) :: .int .u8 (gt m.Name 14) :: .int .u8 (gt m.Name 15) :: .int .u8 (gt m.Name 16) :: .int .u8 (gt m.Name 17) :: .int .u8 (gt m.Name 18) :: .int .u8 (gt m.Name 19) :: .int .u8 (gt m.Name 20) :: .int .u8 (gt m.Name 21) :: .int .u8 (gt m.Name 22) :: .int .u8 (gt m.Name 23) :: .int .u8 (gt m.Name 24) :: .int .u8 (gt m.Name 25) :: .int .u8 (gt m.Name 26) :: .int .u8 (gt m.Name 27) :: .int .u8 (gt m.Name 28) :: .int .u8 (gt m.Name 29) :: .int .u8 (gt m.Name 30) :: .int .u8 (gt m.Name 31) :: .sl none 3 true (m.Policy.Rules.map e_api_Rule) :: .sl none 35 true (m.Open.map e_api_Invoice) :: .int .i64 m.Next :: .sl none 4 true (m.Queue.map e_api_Payment) :: .sl none 35 true (m.Paid.map e_api_Invoice) :: .int .i64 m.Total :: .sl none 1 false (m.Blocked.map (V.int .i64)) :: .int .i64 m.Now :: [])))], 1⟩ : St) sbQ sbQ ⟨0, rfl, ⟨omQ, omQ⟩, (Nat.lt_succ_self _), hM⟩ ?_
                    clear hM
                    rintro n13 S ⟨p13, rfl, hfa13, hm13, hM⟩
                    have hM0 := hM; clear hM; obtain ⟨ag13, hag13, hM⟩ := iter_step hM0 (by omega) hf13; clear hM0
                    replace hfa13 := nzQ hfa13
                    replace hm13 := nzQ hm13
                    have ha13 : addI .i64 p13 1 = p13 + 1 := add_one omQ omQ
                    refine spQA ha13 ?_
                    refine condC_intro (fun h14 => ?_) (fun h14 => ?_)
                    · rw [if_pos h14] at hM
                      refine spQA (And.intro ha13 h14) ?_
                      have nh14 := nzQ h14
                      refine ct_draw 182 25 [66, 67, 68, 69, 70, 71, 72, 73, 74, 75, 76, 77, 78, 79, 80, 81, 82, 83, 84, 85, 86, 87, 88, 89, 90] [] ([[], [], [1], [], [1, 2, 3], [1, 2, 3, 4], [0, 1, 2, 3, 4, 5], [0, 1, 2, 3, 4, 5, 6], [0, 1, 2, 3, 4, 5, 6, 7], [0, 1, 2, 3, 4, 5, 6, 7, 8], [0, 1, 2, 3, 4, 5, 6, 7, 8, 9], [0, 1, 2, 3, 4, 5, 6, 7, 8, 9, 10], [0, 1, 2, 3, 4, 5, 6, 7, 8, 9, 10, 11], [0, 1, 2, 3, 4, 5, 6, 7, 8, 9, 10, 11, 12], [0, 1, 2, 3, 4, 5, 6, 7, 8, 9, 10, 11], [0, 1, 2, 3, 4, 5, 6, 7, 8, 9, 10, 11, 12, 13, 14], [0, 1, 2, 3, 4, 5, 6, 7, 8, 9, 10, 11, 12, 13, 14, 15], [0, 1, 2, 3, 4, 5, 6, 7, 8, 9, 10, 11, 12, 13, 14, 15, 16], [0, 1, 2, 3, 4, 5, 6, 7, 8, 9, 10, 11], [0, 1, 2, 3, 4, 5, 6, 7, 8, 9, 10, 11, 18], [0, 1, 2, 3, 4, 5, 6, 7, 8, 9, 10, 11], [0, 1, 2, 3, 4, 5, 6, 7, 8, 9, 10, 11, 20], [0, 1, 2, 3, 4, 5, 6, 7, 8, 9, 10, 11, 18, 19, 20, 21], [0, 1, 2, 3, 4, 5, 6, 7, 8, 9, 10, 11, 18, 19, 20, 21, 22], [0, 1, 2, 3, 4, 5, 6, 7, 8, 9, 10, 11, 18, 19, 20, 21, 22, 23]] ++ [List.range 25, List.range 26, List.range 27]) [] (by kernel_rfl) (by exact alQ) ?_
                      refine spQA ha13 ?_
                      refine hbindC_intro omQ ?_
                      have he15 := fun d => elt_mp (l := m.Open) (f := e_api_Invoice) (i := p13) omQ d
                      refine spQA (And.intro ha13 he15) ?_
                      have hM0 := hM; clear hM; obtain ⟨x16, hx17, hM⟩ := letk_opn hM0; clear hM0
                      have hcx16 := specieref47_invoice_ok  m (gt m.Open p13) 
                      rw [← hx17] at hcx16
                      refine hcallC_give hcx16 (clQA (And.intro ha13 he15)) (clQA (And.intro ha13 he15)) ?_
                      refine spQA (And.intro ha13 he15) ?_
                      refine hguardC_f (fun h18 => ?_) (fun h18 => ?_)
                      · rw [if_neg (ne_true h18)] at hM
                        refine spQA (And.intro ha13 (And.intro he15 h18)) ?_
                        have nh18 := nzQ h18
                        refine hguardC_t (fun h19 => ?_) (fun h19 => ?_)
                        · rw [if_pos h19] at hM
                          refine spQA (And.intro ha13 (And.intro he15 h19)) ?_
                          have nh19 := nzQ h19
                          refine hbindC_intro omQ ?_
                          refine spQA (And.intro ha13 he15) ?_
                          have ha20 : subI .i64 p13 1 = (p13 - 1) := sub_ok omQ omQ
                          try simp only [ha20]
                          refine hbindC_intro omQ ?_
                          have he21 := fun d => elt_mp (l := m.Open) (f := e_api_Invoice) (i := (p13 - 1)) omQ d
                          refine spQA (And.intro ha13 (And.intro he15 (And.intro ha20 he21))) ?_
                          refine condC_intro (fun h22 => ?_) (fun h22 => ?_)
                          · rw [if_pos h22] at hM
                            refine spQA (And.intro ha13 (And.intro he15 (And.intro ha20 (And.intro he21 h22)))) ?_
                            have nh22 := nzQ h22
                            subst hM
                            exact retC_view (lfQA (And.intro ha13 (And.intro he15 (And.intro ha20 (And.intro he21 (And.intro h4 (And.intro h5 (And.intro h6 (And.intro h7 (And.intro h8 (And.intro h9 (And.intro h10 (And.intro h11 (And.intro h12 (And.intro h14 (And.intro h18 (And.intro h19 h22)))))))))))))))))
                          · rw [if_neg (ne_true h22)] at hM
                            refine spQA (And.intro ha13 (And.intro he15 (And.intro ha20 (And.intro he21 h22)))) ?_
                            have nh22 := nzQ h22
                            refine lp_intro (n13 - 1) (⟨[(1, .ptr 0 0), (3, .int .i64 (p13 + 1))], [(0, .var 40 true (.agg (.int .u8 (gt m.Name 0) :: .int .u8 (gt m.Name 1) :: .int .u8 (gt m.Name 2) :: .int .u8 (gt m.Name 3) :: .int .u8 (gt m.Name 4) :: .int .u8 (gt m.Name 5) :: .int .u8 (gt m.Name 6) :: .int .u8 (gt m.Name 7) :: .int .u8 (gt m.Name 8) :: .int .u8 (gt m.Name 9) :: .int .u8 (gt m.Name 10) :: .int .u8 (gt m.Name 11) :: .int .u8 (gt m.Name 12) :: .int .u8 (gt m.Name 13) :: .int .u8 (gt m.Name 14) :: .int .u8 (gt m.Name 15) :: .int .u8 (gt m.Name 16) :: .int .u8 (gt m.Name 17) :: .int .u8 (gt m.Name 18) :: .int .u8 (gt m.Name 19) :: .int .u8 (gt m.Name 20) :: .int .u8 (gt m.Name 21) :: .int .u8 (gt m.Name 22) :: .int .u8 (gt m.Name 23) :: .int .u8 (gt m.Name 24) :: .int .u8 (gt m.Name 25) :: .int .u8 (gt m.Name 26) :: .int .u8 (gt m.Name 27) :: .int .u8 (gt m.Name 28) :: .int .u8 (gt m.Name 29) :: .int .u8 (gt m.Name 30) :: .int .u8 (gt m.Name 31) :: .sl none 3 true (m.Policy.Rules.map e_api_Rule) :: .sl none 35 true (m.Open.map e_api_Invoice) :: .int .i64 m.Next :: .sl none 4 true (m.Queue.map e_api_Payment) :: .sl none 35 true (m.Paid.map e_api_Invoice) :: .int .i64 m.Total :: .sl none 1 false (m.Blocked.map (V.int .i64)) :: .int .i64 m.Now :: [])))], 1⟩ : St) (by omega) sbQ sbQ ⟨(p13 + 1), rfl, ⟨omQ, omQ⟩, omQ, iter_again hM hag13⟩
                        · rw [if_neg (ne_true h19)] at hM
                          refine spQA (And.intro ha13 (And.intro he15 h19)) ?_
                          have nh19 := nzQ h19
                          refine lp_intro (n13 - 1) (⟨[(1, .ptr 0 0), (3, .int .i64 (p13 + 1))], [(0, .var 40 true (.agg (.int .u8 (gt m.Name 0) :: .int .u8 (gt m.Name 1) :: .int .u8 (gt m.Name 2) :: .int .u8 (gt m.Name 3) :: .int .u8 (gt m.Name 4) :: .int .u8 (gt m.Name 5) :: .int .u8 (gt m.Name 6) :: .int .u8 (gt m.Name 7) :: .int .u8 (gt m.Name 8) :: .int .u8 (gt m.Name 9) :: .int .u8 (gt m.Name 10) :: .int .u8 (gt m.Name 11) :: .int .u8 (gt m.Name 12) :: .int .u8 (gt m.Name 13) :: .int .u8 (gt m.Name 14) :: .int .u8 (gt m.Name 15) :: .int .u8 (gt m.Name 16) :: .int .u8 (gt m.Name 17) :: .int .u8 (gt m.Name 18) :: .int .u8 (gt m.Name 19) :: .int .u8 (gt m.Name 20) :: .int .u8 (gt m.Name 21) :: .int .u8 (gt m.Name 22) :: .int .u8 (gt m.Name 23) :: .int .u8 (gt m.Name 24) :: .int .u8 (gt m.Name 25) :: .int .u8 (gt m.Name 26) :: .int .u8 (gt m.Name 27) :: .int .u8 (gt m.Name 28) :: .int .u8 (gt m.Name 29) :: .int .u8 (gt m.Name 30) :: .int .u8 (gt m.Name 31) :: .sl none 3 true (m.Policy.Rules.map e_api_Rule) :: .sl none 35 true (m.Open.map e_api_Invoice) :: .int .i64 m.Next :: .sl none 4 true (m.Queue.map e_api_Payment) :: .sl none 35 true (m.Paid.map e_api_Invoice) :: .int .i64 m.Total :: .sl none 1 false (m.Blocked.map (V.int .i64)) :: .int .i64 m.Now :: [])))], 1⟩ : St) (by omega) sbQ sbQ ⟨(p13 + 1), rfl, ⟨omQ, omQ⟩, omQ, iter_again hM hag13⟩
                      · rw [if_pos h18] at hM
                        refine spQA (And.intro ha13 (And.intro he15 h18)) ?_
                        have nh18 := nzQ h18
                        subst hM
                        exact retC_view (lfQA (And.intro ha13 (And.intro he15 (And.intro h4 (And.intro h5 (And.intro h6 (And.intro h7 (And.intro h8 (And.intro h9 (And.intro h10 (And.intro h11 (And.intro h12 (And.intro h14 h18)))))))))))))
                    · rw [if_neg (ne_true h14)] at hM
                      refine spQA (And.intro ha13 h14) ?_
                      have nh14 := nzQ h14
                      have hM0 := hM; clear hM; obtain ⟨f23, d23, hf23, hd23, hM⟩ := iter_opn hM0; clear hM0
                      refine ct_loop (fun n S => ∃ p : Int × Int, S = (⟨[(1, .ptr 0 0), (4, .int .i64 p.1), (5, .int .i64 p.2)], [(0, .var 40 true (.agg (.int .u8 (gt m.Name 0) :: .int .u8 (gt m.Name 1) :: .int .u8 (gt m.Name 2) :: .int .u8 (gt m.Name 3) :: .int .u8 (gt m.Name 4) :: .int .u8 (gt m.Name 5) :: .int .u8 (gt m.Name 6) :: .int .u8 (gt m.Name 7) :: .int .u8 (gt m.Name 8) :: .int .u8 (gt m.Name 9) :: .int .u8 (gt m.Name 10) :: .int .u8 (gt m.Name 11) :: .int .u8 (gt m.Name 12) :: .int .u8 (gt m.Name 13) :: .int .u8 (gt m.Name 14) :: .int .u8 (gt m.Name 15) :: .int .u8 (gt m.Name 16) :: .int .u8 (gt m.Name 17) :: .int .u8 (gt m.Name 18) :: .int .u8 (gt m.Name 19) :: .int .u8 (gt m.Name 20) :: .int .u8 (gt m.Name 21) :: .int .u8 (gt m.Name 22) :: .int .u8 (gt m.Name 23) :: .int .u8 (gt m.Name 24) :: .int .u8 (gt m.Name 25) :: .int .u8 (gt m.Name 26) :: .int .u8 (gt m.Name 27) :: .int .u8 (gt m.Name 28) :: .int .u8 (gt m.Name 29) :: .int .u8 (gt m.Name 30) :: .int .u8 (gt m.Name 31) :: .sl none 3 true (m.Policy.Rules.map e_api_Rule) :: .sl none 35 true (m.Open.map e_api_Invoice) :: .int .i64 m.Next :: .sl none 4 true (m.Queue.map e_api_Payment) :: .sl none 35 true (m.Paid.map e_api_Invoice) :: .int .i64 m.Total :: .sl none 1 false (m.Blocked.map (V.int .i64)) :: .int .i64 m.Now :: [])))], 1⟩ : St) ∧ ((0 ≤ p.2) ∧ (p.2 ≤ (m.Paid.length : Int))) ∧ ((m.Paid.length : Int) - p.2).toNat < n ∧ iter n f23 d23 p = r) (((m.Paid.length : Int) - 0).toNat + 1) (⟨[(1, .ptr 0 0), (4, .int .i64 0), (5, .int .i64 0)], [(0, .var 40 true (.agg (.int .u8 (gt m.Name 0) :: .int .u8 (gt m.Name 1) :: .int .u8 (gt m.Name 2) :: .int .u8 (gt m.Name 3) :: .int .u8 (gt m.Name 4) :: .int .u8 (gt m.Name 5) :: .int .u8 (gt m.Name 6) :: .int .u8 (gt m.Name 7) :: .int .u8 (gt m.Name 8) :: .int .u8 (gt m.Name 9) :: .int .u8 (gt m.Name 10) :: .int .u8 (gt m.Name 11) :: .int .u8 (gt m.Name 12) :: .int .u8 (gt m.Name 13) :: .int .u8 (gt m.Name 14) :: .int .u8 (gt m.Name 15) :: .int .u8 (gt m.Name 16) :: .int .u8 (gt m.Name 17) :: .int .u8 (gt m.Name 18) :: .int .u8 (gt m.Name 19) :: .int .u8 (gt m.Name 20) :: .int .u8 (gt m.Name 21) :: .int .u8 (gt m.Name 22) :: .int .u8 (gt m.Name 23) :: .int .u8 (gt m.Name 24) :: .int .u8 (gt m.Name 25) :: .int .u8 (gt m.Name 26) :: .int .u8 (gt m.Name 27) :: .int .u8 (gt m.Name 28) :: .int .u8 (gt m.Name 29) :: .int .u8 (gt m.Name 30) :: .int .u8 (gt m.Name 31) :: .sl none 3 true (m.Policy.Rules.map e_api_Rule) :: .sl none 35 true (m.Open.map e_api_Invoice) :: .int .i64 m.Next :: .sl none 4 true (m.Queue.map e_api_Payment) :: .sl none 35 true (m.Paid.map e_api_Invoice) :: .int .i64 m.Total :: .sl none 1 false (m.Blocked.map (V.int .i64)) :: .int .i64 m.Now :: [])))], 1⟩ : St) sbQ sbQ ⟨(0, 0), rfl, ⟨omQ, omQ⟩, (Nat.lt_succ_self _), hM⟩ ?_
                      clear hM
                      rintro n23 S ⟨p23, rfl, hfa23, hm23, hM⟩
                      have hM0 := hM; clear hM; obtain ⟨ag23, hag23, hM⟩ := iter_step hM0 (by omega) hf23; clear hM0
                      replace hfa23 := nzQ hfa23
                      replace hm23 := nzQ hm23
                      have ha23 : addI .i64 p23.2 1 = p23.2 + 1 := add_one omQ omQ
                      refine spQA (And.intro ha13 ha23) ?_
                      refine condC_intro (fun h24 => ?_) (fun h24 => ?_)
                      · rw [if_pos h24] at hM
                        refine spQA (And.intro ha13 (And.intro ha23 h24)) ?_
                        have nh24 := nzQ h24
                        refine bindC_intro omQ ?_
                        have he25 := fun d => elt_mp (l := m.Paid) (f := e_api_Invoice) (i := p23.2) omQ d
                        refine spQA (And.intro ha13 (And.intro ha23 he25)) ?_
                        refine ct_draw 182 30 [106, 107, 108, 109, 110, 111, 112, 113, 114, 115, 116, 117, 118, 119, 120, 121, 122, 123, 124, 125, 126, 127, 128, 129, 130, 131, 132, 133, 134, 135] [] ([[], [], [0, 1], [0, 1, 2], [0, 1, 2, 3], [0, 1, 2, 3, 4], [0, 1, 2, 3, 4, 5], [0, 1, 2, 3, 4], [0, 1, 2, 3, 4, 5, 6, 7], [0, 1, 2, 3, 4, 5, 6, 7, 8], [0, 1, 2, 3, 4, 5, 6, 7, 8, 9], [0, 1, 2, 3, 4], [0, 1, 2, 3, 4, 11], [0, 1, 2, 3, 4, 5, 6, 7, 8, 9, 10, 11, 12], [0, 1, 2, 3, 4, 5, 6, 7, 8, 9, 10, 11, 12, 13], [0, 1, 2, 3, 4, 5, 6, 7, 8, 9, 10, 11, 12, 13, 14], [0, 1, 2, 3, 4, 5, 6, 7, 8, 9, 10, 11, 12, 13, 14, 15], [0, 1, 2, 3, 4, 5, 6, 7, 8, 9, 10, 11, 12, 13, 14, 15, 16], [0, 1, 2, 3, 4, 5, 6, 7, 8, 9, 10, 11, 12, 13, 14, 15], [0, 1, 2, 3, 4, 5, 6, 7, 8, 9, 10, 11, 12, 13, 14, 15, 18], [0, 1, 2, 3, 4, 5, 6, 7, 8, 9, 10, 11, 12, 13, 14, 15, 16, 17, 18, 19], [0, 1, 2, 3, 4, 5, 6, 7, 8, 9, 10, 11, 12, 13, 14, 15, 16, 17, 18, 19, 20], [0, 1, 2, 3, 4, 5, 6, 7, 8, 9, 10, 11, 12, 13, 14, 15, 16, 17, 18, 19, 20, 21], [0, 1, 2, 3, 4, 5, 6, 7, 8, 9, 10, 11, 12, 13, 14, 15, 16, 17, 18, 19, 20, 21, 22], [0, 1, 2, 3, 4, 5, 6, 7, 8, 9, 10, 11, 12, 13, 14, 15, 16, 17, 18, 19, 20, 21, 22, 23], [0, 1, 2, 3, 4, 5, 6, 7, 8, 9, 10, 11, 12, 13, 14, 15, 16, 17, 18, 19, 20, 21, 22, 23, 24], [0, 1, 2, 3, 4, 5, 6, 7, 8, 9, 10, 11, 12, 13, 14, 15, 16, 17, 18, 19, 20, 21, 22, 23], [0, 1, 2, 3, 4, 5, 6, 7, 8, 9, 10, 11, 12, 13, 14, 15, 16, 17, 18, 19, 20, 21, 22, 23, 24, 25, 26], [0, 1, 2, 3, 4, 5, 6, 7, 8, 9, 10, 11, 12, 13, 14, 15, 16, 17, 18, 19, 20, 21, 22, 23], [0, 1, 2, 3, 4, 5, 6, 7, 8, 9, 10, 11, 12, 13, 14, 15, 16, 17, 18, 19, 20, 21, 22, 23, 28]] ++ [List.range 30, List.range 31, List.range 32]) [] (by kernel_rfl) (by exact alQ) ?_
                        refine spQA (And.intro ha13 (And.intro ha23 he25)) ?_
                        have hM0 := hM; clear hM; obtain ⟨x26, hx27, hM⟩ := letk_opn hM0; clear hM0
                        have hcx26 := specieref47_invoice_ok  m (gt m.Paid p23.2) 
                        rw [← hx27] at hcx26
                        refine hcallC_give hcx26 (clQA (And.intro ha13 (And.intro ha23 he25))) (clQA (And.intro ha13 (And.intro ha23 he25))) ?_
                        refine spQA (And.intro ha13 (And.intro ha23 he25)) ?_
                        refine hguardC_f (fun h28 => ?_) (fun h28 => ?_)
                        · rw [if_neg (ne_true h28)] at hM
                          refine spQA (And.intro ha13 (And.intro ha23 (And.intro he25 h28))) ?_
                          have nh28 := nzQ h28
                          refine hbindC_intro omQ ?_
                          have he29 := fun d => elt_mp (l := m.Queue) (f := e_api_Payment) (i := p23.2) omQ d
                          refine spQA (And.intro ha13 (And.intro ha23 (And.intro he25 he29))) ?_
                          refine hguardC_f (fun h30 => ?_) (fun h30 => ?_)
                          · rw [if_neg (ne_true h30)] at hM
                            refine spQA (And.intro ha13 (And.intro ha23 (And.intro he25 (And.intro he29 h30)))) ?_
                            have nh30 := nzQ h30
                            have hM0 := hM; clear hM; obtain ⟨x31, hx32, hM⟩ := letk_opn hM0; clear hM0
                            have hcx31 := specieref47_Find_ok none (m.Open) ((gt m.Paid p23.2).Number) 
                            rw [← hx32] at hcx31
                            refine hcallC_give hcx31 (clQA (And.intro ha13 (And.intro ha23 (And.intro he25 he29)))) (clQA (And.intro ha13 (And.intro ha23 (And.intro he25 he29)))) ?_
                            refine spQA (And.intro ha13 (And.intro ha23 (And.intro he25 he29))) ?_
                            refine hguardC_f (fun h33 => ?_) (fun h33 => ?_)
                            · rw [if_neg (ne_true h33)] at hM
                              refine spQA (And.intro ha13 (And.intro ha23 (And.intro he25 (And.intro he29 h33)))) ?_
                              have nh33 := nzQ h33
                              refine hbindC_intro omQ ?_
                              refine spQA (And.intro ha13 (And.intro ha23 (And.intro he25 he29))) ?_
                              have hM0 := hM; clear hM; obtain ⟨x34, hx35, hM⟩ := letk_opn hM0; clear hM0
                              have hcx34 := specieref47_Find_ok none (sl m.Paid 0 p23.2) ((gt m.Paid p23.2).Number) 
                              rw [← hx35] at hcx34
                              refine callC_give hcx34 (clQA (And.intro ha13 (And.intro ha23 (And.intro he25 he29)))) (clQA (And.intro ha13 (And.intro ha23 (And.intro he25 he29)))) (fun hw36 => ?_)
                              replace hw36 := nzQ hw36
                              refine spQA (And.intro ha13 (And.intro ha23 (And.intro he25 he29))) ?_
                              refine condC_intro (fun h37 => ?_) (fun h37 => ?_)
                              · rw [if_pos h37] at hM
                                refine spQA (And.intro ha13 (And.intro ha23 (And.intro he25 (And.intro he29 h37)))) ?_
                                have nh37 := nzQ h37
                                subst hM
                                exact retC_view (lfQA (And.intro ha13 (And.intro ha23 (And.intro he25 (And.intro he29 (And.intro h4 (And.intro h5 (And.intro h6 (And.intro h7 (And.intro h8 (And.intro h9 (And.intro h10 (And.intro h11 (And.intro h12 (And.intro h14 (And.intro h24 (And.intro h28 (And.intro h30 (And.intro h33 h37)))))))))))))))))))
                              · rw [if_neg (ne_true h37)] at hM
                                refine spQA (And.intro ha13 (And.intro ha23 (And.intro he25 (And.intro he29 h37)))) ?_
                                have nh37 := nzQ h37
                                refine lp_intro (n23 - 1) (⟨[(1, .ptr 0 0), (4, .int .i64 (addI .i64 p23.1 (gt m.Paid p23.2).Amount)), (5, .int .i64 (p23.2 + 1))], [(0, .var 40 true (.agg (.int .u8 (gt m.Name 0) :: .int .u8 (gt m.Name 1) :: .int .u8 (gt m.Name 2) :: .int .u8 (gt m.Name 3) :: .int .u8 (gt m.Name 4) :: .int .u8 (gt m.Name 5) :: .int .u8 (gt m.Name 6) :: .int .u8 (gt m.Name 7) :: .int .u8 (gt m.Name 8) :: .int .u8 (gt m.Name 9) :: .int .u8 (gt m.Name 10) :: .int .u8 (gt m.Name 11) :: .int .u8 (gt m.Name 12) :: .int .u8 (gt m.Name 13) :: .int .u8 (gt m.Name 14) :: .int .u8 (gt m.Name 15) :: .int .u8 (gt m.Name 16) :: .int .u8 (gt m.Name 17) :: .int .u8 (gt m.Name 18) :: .int .u8 (gt m.Name 19) :: .int .u8 (gt m.Name 20) :: .int .u8 (gt m.Name 21) :: .int .u8 (gt m.Name 22) :: .int .u8 (gt m.Name 23) :: .int .u8 (gt m.Name 24) :: .int .u8 (gt m.Name 25) :: .int .u8 (gt m.Name 26) :: .int .u8 (gt m.Name 27) :: .int .u8 (gt m.Name 28) :: .int .u8 (gt m.Name 29) :: .int .u8 (gt m.Name 30) :: .int .u8 (gt m.Name 31) :: .sl none 3 true (m.Policy.Rules.map e_api_Rule) :: .sl none 35 true (m.Open.map e_api_Invoice) :: .int .i64 m.Next :: .sl none 4 true (m.Queue.map e_api_Payment) :: .sl none 35 true (m.Paid.map e_api_Invoice) :: .int .i64 m.Total :: .sl none 1 false (m.Blocked.map (V.int .i64)) :: .int .i64 m.Now :: [])))], 1⟩ : St) (by omega) sbQ sbQ ⟨((addI .i64 p23.1 (gt m.Paid p23.2).Amount), (p23.2 + 1)), rfl, ⟨omQ, omQ⟩, omQ, iter_again hM hag23⟩
                            · rw [if_pos h33] at hM
                              refine spQA (And.intro ha13 (And.intro ha23 (And.intro he25 (And.intro he29 h33)))) ?_
                              have nh33 := nzQ h33
                              subst hM
                              exact retC_view (lfQA (And.intro ha13 (And.intro ha23 (And.intro he25 (And.intro he29 (And.intro h4 (And.intro h5 (And.intro h6 (And.intro h7 (And.intro h8 (And.intro h9 (And.intro h10 (And.intro h11 (And.intro h12 (And.intro h14 (And.intro h24 (And.intro h28 (And.intro h30 h33))))))))))))))))))
                          · rw [if_pos h30] at hM
                            refine spQA (And.intro ha13 (And.intro ha23 (And.intro he25 (And.intro he29 h30)))) ?_
                            have nh30 := nzQ h30
                            subst hM
                            exact retC_view (lfQA (And.intro ha13 (And.intro ha23 (And.intro he25 (And.intro he29 (And.intro h4 (And.intro h5 (And.intro h6 (And.intro h7 (And.intro h8 (And.intro h9 (And.intro h10 (And.intro h11 (And.intro h12 (And.intro h14 (And.intro h24 (And.intro h28 h30)))))))))))))))))
                        · rw [if_pos h28] at hM
                          refine spQA (And.intro ha13 (And.intro ha23 (And.intro he25 h28))) ?_
                          have nh28 := nzQ h28
                          subst hM
                          exact retC_view (lfQA (And.intro ha13 (And.intro ha23 (And.intro he25 (And.intro h4 (And.intro h5 (And.intro h6 (And.intro h7 (And.intro h8 (And.intro h9 (And.intro h10 (And.intro h11 (And.intro h12 (And.intro h14 (And.intro h24 h28)))))))))))))))
                      · rw [if_neg (ne_true h24)] at hM
                        refine spQA (And.intro ha13 (And.intro ha23 h24)) ?_
                        have nh24 := nzQ h24
                        have hM0 := hM; clear hM; obtain ⟨f38, d38, hf38, hd38, hM⟩ := iter_opn hM0; clear hM0
                        refine ct_loop (fun n S => ∃ p : Int, S = (⟨[(1, .ptr 0 0), (4, .int .i64 p23.1), (7, .int .i64 p)], [(0, .var 40 true (.agg (.int .u8 (gt m.Name 0) :: .int .u8 (gt m.Name 1) :: .int .u8 (gt m.Name 2) :: .int .u8 (gt m.Name 3) :: .int .u8 (gt m.Name 4) :: .int .u8 (gt m.Name 5) :: .int .u8 (gt m.Name 6) :: .int .u8 (gt m.Name 7) :: .int .u8 (gt m.Name 8) :: .int .u8 (gt m.Name 9) :: .int .u8 (gt m.Name 10) :: .int .u8 (gt m.Name 11) :: .int .u8 (gt m.Name 12) :: .int .u8 (gt m.Name 13) :: .int .u8 (gt m.Name 14) :: .int .u8 (gt m.Name 15) :: .int .u8 (gt m.Name 16) :: .int .u8 (gt m.Name 17) :: .int .u8 (gt m.Name 18) :: .int .u8 (gt m.Name 19) :: .int .u8 (gt m.Name 20) :: .int .u8 (gt m.Name 21) :: .int .u8 (gt m.Name 22) :: .int .u8 (gt m.Name 23) :: .int .u8 (gt m.Name 24) :: .int .u8 (gt m.Name 25) :: .int .u8 (gt m.Name 26) :: .int .u8 (gt m.Name 27) :: .int .u8 (gt m.Name 28) :: .int .u8 (gt m.Name 29) :: .int .u8 (gt m.Name 30) :: .int .u8 (gt m.Name 31) :: .sl none 3 true (m.Policy.Rules.map e_api_Rule) :: .sl none 35 true (m.Open.map e_api_Invoice) :: .int .i64 m.Next :: .sl none 4 true (m.Queue.map e_api_Payment) :: .sl none 35 true (m.Paid.map e_api_Invoice) :: .int .i64 m.Total :: .sl none 1 false (m.Blocked.map (V.int .i64)) :: .int .i64 m.Now :: [])))], 1⟩ : St) ∧ ((0 ≤ p) ∧ (p ≤ (m.Blocked.length : Int))) ∧ ((m.Blocked.length : Int) - p).toNat < n ∧ iter n f38 d38 p = r) (((m.Blocked.length : Int) - 0).toNat + 1) (⟨[(1, .ptr 0 0), (4, .int .i64 p23.1), (7, .int .i64 0)], [(0, .var 40 true (.agg (.int .u8 (gt m.Name 0) :: .int .u8 (gt m.Name 1) :: .int .u8 (gt m.Name 2) :: .int .u8 (gt m.Name 3) :: .int .u8 (gt m.Name 4) :: .int .u8 (gt m.Name 5) :: .int .u8 (gt m.Name 6) :: .int .u8 (gt m.Name 7) :: .int .u8 (gt m.Name 8) :: .int .u8 (gt m.Name 9) :: .int .u8 (gt m.Name 10) :: .int .u8 (gt m.Name 11) :: .int .u8 (gt m.Name 12) :: .int .u8 (gt m.Name 13) :: .int .u8 (gt m.Name 14) :: .int .u8 (gt m.Name 15) :: .int .u8 (gt m.Name 16) :: .int .u8 (gt m.Name 17) :: .int .u8 (gt m.Name 18) :: .int .u8 (gt m.Name 19) :: .int .u8 (gt m.Name 20) :: .int .u8 (gt m.Name 21) :: .int .u8 (gt m.Name 22) :: .int .u8 (gt m.Name 23) :: .int .u8 (gt m.Name 24) :: .int .u8 (gt m.Name 25) :: .int .u8 (gt m.Name 26) :: .int .u8 (gt m.Name 27) :: .int .u8 (gt m.Name 28) :: .int .u8 (gt m.Name 29) :: .int .u8 (gt m.Name 30) :: .int .u8 (gt m.Name 31) :: .sl none 3 true (m.Policy.Rules.map e_api_Rule) :: .sl none 35 true (m.Open.map e_api_Invoice) :: .int .i64 m.Next :: .sl none 4 true (m.Queue.map e_api_Payment) :: .sl none 35 true (m.Paid.map e_api_Invoice) :: .int .i64 m.Total :: .sl none 1 false (m.Blocked.map (V.int .i64)) :: .int .i64 m.Now :: [])))], 1⟩ : St) sbQ sbQ ⟨0, rfl, ⟨omQ, omQ⟩, (Nat.lt_succ_self _), hM⟩ ?_
                        clear hM
                        rintro n38 S ⟨p38, rfl, hfa38, hm38, hM⟩
                        have hM0 := hM; clear hM; obtain ⟨ag38, hag38, hM⟩ := iter_step hM0 (by omega) hf38; clear hM0
                        replace hfa38 := nzQ hfa38
                        replace hm38 := nzQ hm38
                        have ha38 : addI .i64 p38 1 = p38 + 1 := add_one omQ omQ
                        refine spQA (And.intro ha13 (And.intro ha23 ha38)) ?_
                        refine condC_intro (fun h39 => ?_) (fun h39 => ?_)
                        · rw [if_pos h39] at hM
                          refine spQA (And.intro ha13 (And.intro ha23 (And.intro ha38 h39))) ?_
                          have nh39 := nzQ h39
                          refine ct_draw 182 21 [150, 151, 152, 153, 154, 155, 156, 157, 158, 159, 160, 161, 162, 163, 164, 165, 166, 167, 168, 169, 170] [] ([[], [0], [], [0, 1, 2], [0, 1, 2, 3], [0, 1, 2, 3, 4], [0, 1, 2, 3, 4, 5], [0, 1, 2, 3, 4, 5, 6], [0, 1, 2, 3, 4, 5, 6, 7], [0, 1, 2, 3, 4, 5, 6, 7, 8], [0, 1, 2, 3, 4, 5, 6, 7, 8, 9], [0, 1, 2, 3, 4, 5, 6, 7, 8, 9, 10], [0, 1, 2, 3, 4, 5, 6, 7, 8, 9], [0, 1, 2, 3, 4, 5, 6, 7, 8, 9, 10, 11, 12], [0, 1, 2, 3, 4, 5, 6, 7, 8, 9, 10, 11, 12, 13], [0, 1, 2, 3, 4, 5, 6, 7, 8, 9], [0, 1, 2, 3, 4, 5, 6, 7, 8, 9, 15], [0, 1, 2, 3, 4, 5, 6, 7, 8, 9], [0, 1, 2, 3, 4, 5, 6, 7, 8, 9, 17], [0, 1, 2, 3, 4, 5, 6, 7, 8, 9, 15, 16, 17, 18], [0, 1, 2, 3, 4, 5, 6, 7, 8, 9, 15, 16, 17, 18, 19]] ++ [List.range 21, List.range 22, List.range 23]) [] (by kernel_rfl) (by exact alQ) ?_
                          refine spQA (And.intro ha13 (And.intro ha23 ha38)) ?_
                          refine hbindC_intro omQ ?_
                          have he40 := fun d => elt_mp (l := m.Blocked) (f := (V.int .i64)) (i := p38) omQ d
                          refine spQA (And.intro ha13 (And.intro ha23 (And.intro ha38 he40))) ?_
                          refine hguardC_f (fun h41 => ?_) (fun h41 => ?_)
                          · rw [if_neg (ne_true h41)] at hM
                            refine spQA (And.intro ha13 (And.intro ha23 (And.intro ha38 (And.intro he40 h41)))) ?_
                            have nh41 := nzQ h41
                            refine hguardC_t (fun h42 => ?_) (fun h42 => ?_)
                            · rw [if_pos h42] at hM
                              refine spQA (And.intro ha13 (And.intro ha23 (And.intro ha38 (And.intro he40 h42)))) ?_
                              have nh42 := nzQ h42
                              refine hbindC_intro omQ ?_
                              refine spQA (And.intro ha13 (And.intro ha23 (And.intro ha38 he40))) ?_
                              have ha43 : subI .i64 p38 1 = (p38 - 1) := sub_ok omQ omQ
                              try simp only [ha43]
                              refine hbindC_intro omQ ?_
                              have he44 := fun d => elt_mp (l := m.Blocked) (f := (V.int .i64)) (i := (p38 - 1)) omQ d
                              refine spQA (And.intro ha13 (And.intro ha23 (And.intro ha38 (And.intro he40 (And.intro ha43 he44))))) ?_
                              refine condC_intro (fun h45 => ?_) (fun h45 => ?_)
                              · rw [if_pos h45] at hM
                                refine spQA (And.intro ha13 (And.intro ha23 (And.intro ha38 (And.intro he40 (And.intro ha43 (And.intro he44 h45)))))) ?_
                                have nh45 := nzQ h45
                                subst hM
                                exact retC_view (lfQA (And.intro ha13 (And.intro ha23 (And.intro ha38 (And.intro he40 (And.intro ha43 (And.intro he44 (And.intro h4 (And.intro h5 (And.intro h6 (And.intro h7 (And.intro h8 (And.intro h9 (And.intro h10 (And.intro h11 (And.intro h12 (And.intro h14 (And.intro h24 (And.intro h39 (And.intro h41 (And.intro h42 h45)))))))))))))))))))))
                              · rw [if_neg (ne_true h45)] at hM
                                refine spQA (And.intro ha13 (And.intro ha23 (And.intro ha38 (And.intro he40 (And.intro ha43 (And.intro he44 h45)))))) ?_
                                have nh45 := nzQ h45
                                refine lp_intro (n38 - 1) (⟨[(1, .ptr 0 0), (4, .int .i64 p23.1), (7, .int .i64 (p38 + 1))], [(0, .var 40 true (.agg (.int .u8 (gt m.Name 0) :: .int .u8 (gt m.Name 1) :: .int .u8 (gt m.Name 2) :: .int .u8 (gt m.Name 3) :: .int .u8 (gt m.Name 4) :: .int .u8 (gt m.Name 5) :: .int .u8 (gt m.Name 6) :: .int .u8 (gt m.Name 7) :: .int .u8 (gt m.Name 8) :: .int .u8 (gt m.Name 9) :: .int .u8 (gt m.Name 10) :: .int .u8 (gt m.Name 11) :: .int .u8 (gt m.Name 12) :: .int .u8 (gt m.Name 13) :: .int .u8 (gt m.Name 14) :: .int .u8 (gt m.Name 15) :: .int .u8 (gt m.Name 16) :: .int .u8 (gt m.Name 17) :: .int .u8 (gt m.Name 18) :: .int .u8 (gt m.Name 19) :: .int .u8 (gt m.Name 20) :: .int .u8 (gt m.Name 21) :: .int .u8 (gt m.Name 22) :: .int .u8 (gt m.Name 23) :: .int .u8 (gt m.Name 24) :: .int .u8 (gt m.Name 25) :: .int .u8 (gt m.Name 26) :: .int .u8 (gt m.Name 27) :: .int .u8 (gt m.Name 28) :: .int .u8 (gt m.Name 29) :: .int .u8 (gt m.Name 30) :: .int .u8 (gt m.Name 31) :: .sl none 3 true (m.Policy.Rules.map e_api_Rule) :: .sl none 35 true (m.Open.map e_api_Invoice) :: .int .i64 m.Next :: .sl none 4 true (m.Queue.map e_api_Payment) :: .sl none 35 true (m.Paid.map e_api_Invoice) :: .int .i64 m.Total :: .sl none 1 false (m.Blocked.map (V.int .i64)) :: .int .i64 m.Now :: [])))], 1⟩ : St) (by omega) sbQ sbQ ⟨(p38 + 1), rfl, ⟨omQ, omQ⟩, omQ, iter_again hM hag38⟩
                            · rw [if_neg (ne_true h42)] at hM
                              refine spQA (And.intro ha13 (And.intro ha23 (And.intro ha38 (And.intro he40 h42)))) ?_
                              have nh42 := nzQ h42
                              refine lp_intro (n38 - 1) (⟨[(1, .ptr 0 0), (4, .int .i64 p23.1), (7, .int .i64 (p38 + 1))], [(0, .var 40 true (.agg (.int .u8 (gt m.Name 0) :: .int .u8 (gt m.Name 1) :: .int .u8 (gt m.Name 2) :: .int .u8 (gt m.Name 3) :: .int .u8 (gt m.Name 4) :: .int .u8 (gt m.Name 5) :: .int .u8 (gt m.Name 6) :: .int .u8 (gt m.Name 7) :: .int .u8 (gt m.Name 8) :: .int .u8 (gt m.Name 9) :: .int .u8 (gt m.Name 10) :: .int .u8 (gt m.Name 11) :: .int .u8 (gt m.Name 12) :: .int .u8 (gt m.Name 13) :: .int .u8 (gt m.Name 14) :: .int .u8 (gt m.Name 15) :: .int .u8 (gt m.Name 16) :: .int .u8 (gt m.Name 17) :: .int .u8 (gt m.Name 18) :: .int .u8 (gt m.Name 19) :: .int .u8 (gt m.Name 20) :: .int .u8 (gt m.Name 21) :: .int .u8 (gt m.Name 22) :: .int .u8 (gt m.Name 23) :: .int .u8 (gt m.Name 24) :: .int .u8 (gt m.Name 25) :: .int .u8 (gt m.Name 26) :: .int .u8 (gt m.Name 27) :: .int .u8 (gt m.Name 28) :: .int .u8 (gt m.Name 29) :: .int .u8 (gt m.Name 30) :: .int .u8 (gt m.Name 31) :: .sl none 3 true (m.Policy.Rules.map e_api_Rule) :: .sl none 35 true (m.Open.map e_api_Invoice) :: .int .i64 m.Next :: .sl none 4 true (m.Queue.map e_api_Payment) :: .sl none 35 true (m.Paid.map e_api_Invoice) :: .int .i64 m.Total :: .sl none 1 false (m.Blocked.map (V.int .i64)) :: .int .i64 m.Now :: [])))], 1⟩ : St) (by omega) sbQ sbQ ⟨(p38 + 1), rfl, ⟨omQ, omQ⟩, omQ, iter_again hM hag38⟩
                          · rw [if_pos h41] at hM
                            refine spQA (And.intro ha13 (And.intro ha23 (And.intro ha38 (And.intro he40 h41)))) ?_
                            have nh41 := nzQ h41
                            subst hM
                            exact retC_view (lfQA (And.intro ha13 (And.intro ha23 (And.intro ha38 (And.intro he40 (And.intro h4 (And.intro h5 (And.intro h6 (And.intro h7 (And.intro h8 (And.intro h9 (And.intro h10 (And.intro h11 (And.intro h12 (And.intro h14 (And.intro h24 (And.intro h39 h41)))))))))))))))))
                        · rw [if_neg (ne_true h39)] at hM
                          refine spQA (And.intro ha13 (And.intro ha23 (And.intro ha38 h39))) ?_
                          have nh39 := nzQ h39
                          refine guardC_t (fun h46 => ?_) (fun h46 => ?_)
                          · rw [if_pos h46] at hM
                            refine spQA (And.intro ha13 (And.intro ha23 (And.intro ha38 h46))) ?_
                            have nh46 := nzQ h46
                            subst hM
                            exact retC_view (lfQA (And.intro ha13 (And.intro ha23 (And.intro ha38 (And.intro h4 (And.intro h5 (And.intro h6 (And.intro h7 (And.intro h8 (And.intro h9 (And.intro h10 (And.intro h11 (And.intro h12 (And.intro h14 (And.intro h24 (And.intro h39 h46))))))))))))))))
                          · rw [if_neg (ne_true h46)] at hM
                            refine spQA (And.intro ha13 (And.intro ha23 (And.intro ha38 h46))) ?_
                            have nh46 := nzQ h46
                            subst hM
                            exact retC_view (lfQA (And.intro ha13 (And.intro ha23 (And.intro ha38 (And.intro h4 (And.intro h5 (And.intro h6 (And.intro h7 (And.intro h8 (And.intro h9 (And.intro h10 (And.intro h11 (And.intro h12 (And.intro h14 (And.intro h24 (And.intro h39 h46))))))))))))))))
                · rw [if_pos h11] at hM
                  refine spQA h11 ?_
                  have nh11 := nzQ h11
                  subst hM
                  exact retC_view (lfQA (And.intro h4 (And.intro h5 (And.intro h6 (And.intro h7 (And.intro h8 (And.intro h9 (And.intro h10 h11))))))))
              · rw [if_pos h10] at hM
                refine spQA h10 ?_
                have nh10 := nzQ h10
                subst hM
                exact retC_view (lfQA (And.intro h4 (And.intro h5 (And.intro h6 (And.intro h7 (And.intro h8 (And.intro h9 h10)))))))
            · rw [if_pos h9] at hM
              refine spQA h9 ?_
              have nh9 := nzQ h9
              subst hM
              exact retC_view (lfQA (And.intro h4 (And.intro h5 (And.intro h6 (And.intro h7 (And.intro h8 h9))))))
          · rw [if_pos h8] at hM
            refine spQA h8 ?_
            have nh8 := nzQ h8
            subst hM
            exact retC_view (lfQA (And.intro h4 (And.intro h5 (And.intro h6 (And.intro h7 h8)))))
        · rw [if_pos h7] at hM
          refine spQA h7 ?_
          have nh7 := nzQ h7
          subst hM
          exact retC_view (lfQA (And.intro h4 (And.intro h5 (And.intro h6 h7))))
      · rw [if_pos h6] at hM
        refine spQA h6 ?_
        have nh6 := nzQ h6
        subst hM
        exact retC_view (lfQA (And.intro h4 (And.intro h5 h6)))
    · rw [if_pos h5] at hM
      refine spQA h5 ?_
      have nh5 := nzQ h5
      subst hM
      exact retC_view (lfQA (And.intro h4 h5))
  · rw [if_pos h4] at hM
    refine spQA h4 ?_
    have nh4 := nzQ h4
    subst hM
    exact retC_view (lfQA h4)
end Go.Proofs.Ytdidhdgdklkgeaa
