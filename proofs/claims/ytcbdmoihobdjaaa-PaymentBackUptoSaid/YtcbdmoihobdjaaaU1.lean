/- Each function computes its model (printed by program). -/
import Derived.Test.YtcbdmoihobdjaaaM
import Derived.Test.YtcbdmoihobdjaaaH1
import Derived.Test.YtcbdmoihobdjaaaH2
import Derived.Test.YtcbdmoihobdjaaaH3
namespace Go.Proofs.Ytcbdmoihobdjaaa
open Go.RowKit
set_option linter.unusedSimpArgs false
set_option maxHeartbeats 2000000 in
set_option maxRecDepth 100000 in
theorem payment_valid_ok   (v : S_api_Invoice)  : CallOk En 53 [(e_api_Invoice v)] (.bool (payment_valid v)) [] := by
  generalize hM : payment_valid v = r
  rw [payment_valid.eq_1] at hM
  refine enterV En_ok En_mo noJ Try.func53 rfl Try.ntmps53 (by kernel_rfl) fun hw => ct_start ?_
  refine spQ ?_
  replace hw := nzQ hw
  refine guardC_t (fun h1 => ?_) (fun h1 => ?_)
  · rw [if_pos h1] at hM
    refine spQA h1 ?_
    have nh1 := nzQ h1
    refine guardC_t (fun h2 => ?_) (fun h2 => ?_)
    · rw [if_pos h2] at hM
      refine spQA h2 ?_
      have nh2 := nzQ h2
      refine guardC_t (fun h3 => ?_) (fun h3 => ?_)
      · rw [if_pos h3] at hM
        refine spQA h3 ?_
        have nh3 := nzQ h3
        refine guardC_t (fun h4 => ?_) (fun h4 => ?_)
        · rw [if_pos h4] at hM
          refine spQA h4 ?_
          have nh4 := nzQ h4
          refine guardC_t (fun h5 => ?_) (fun h5 => ?_)
          · rw [if_pos h5] at hM
            refine spQA h5 ?_
            have nh5 := nzQ h5
            subst hM
            exact retC_view (lfQA (And.intro h1 (And.intro h2 (And.intro h3 (And.intro h4 h5)))))
          · rw [if_neg (ne_true h5)] at hM
            refine spQA h5 ?_
            have nh5 := nzQ h5
            subst hM
            exact retC_view (lfQA (And.intro h1 (And.intro h2 (And.intro h3 (And.intro h4 h5)))))
        · rw [if_neg (ne_true h4)] at hM
          refine spQA h4 ?_
          have nh4 := nzQ h4
          subst hM
          exact retC_view (lfQA (And.intro h1 (And.intro h2 (And.intro h3 h4))))
      · rw [if_neg (ne_true h3)] at hM
        refine spQA h3 ?_
        have nh3 := nzQ h3
        subst hM
        exact retC_view (lfQA (And.intro h1 (And.intro h2 h3)))
    · rw [if_neg (ne_true h2)] at hM
      refine spQA h2 ?_
      have nh2 := nzQ h2
      subst hM
      exact retC_view (lfQA (And.intro h1 h2))
  · rw [if_neg (ne_true h1)] at hM
    refine spQA h1 ?_
    have nh1 := nzQ h1
    subst hM
    exact retC_view (lfQA h1)
set_option maxHeartbeats 2000000 in
set_option maxRecDepth 100000 in
theorem payment_integer_ok   (n_ : Int)  : CallOk En 27 [.int .i64 n_] (.agg [.int .i64 (payment_integer n_).Kind, .int .i64 (payment_integer n_).N, .sl none 1 false ((payment_integer n_).B.map (V.int .u8)), .sl none 4 true ((payment_integer n_).L.map e_api_Item)]) [] := by
  generalize hM : payment_integer n_ = r
  rw [payment_integer.eq_1] at hM
  refine enterV En_ok En_mo noJ Try.func27 rfl Try.ntmps27 (by kernel_rfl) fun hw => ct_start ?_
  refine spQ ?_
  replace hw := nzQ hw
  subst hM
  exact retC_view lfQ
set_option maxHeartbeats 2000000 in
set_option maxRecDepth 100000 in
theorem encode_within_1_ok (N : Nat) (ih : ∀  (i_ : S_api_Item) (depth : Int), hgt i_ < N → CallOk En 81 [.agg [.int .i64 i_.Kind, .int .i64 i_.N, .sl none 1 false (i_.B.map (V.int .u8)), .sl none 4 true (i_.L.map e_api_Item)], .int .i64 depth] (.bool (withinM i_ depth)) [])  (x_ : S_api_Item) (c0 : Int) (hp0 : hgt x_ < N) (hp1 : 0 < c0) : CallOk En 99 [.agg [.int .i64 x_.Kind, .int .i64 x_.N, .sl none 1 false (x_.B.map (V.int .u8)), .sl none 4 true (x_.L.map e_api_Item)], .pp 1 false (.int .i64 c0)] (.bool (encode_within_1 x_ c0)) [] := by
  generalize hM : encode_within_1 x_ c0 = r
  rw [encode_within_1.eq_1] at hM
  refine enterV En_ok En_mo noJ Try.func99 rfl Try.ntmps99 (by kernel_rfl) fun hw => ct_start ?_
  refine spQ ?_
  replace hw := nzQ hw
  have ha1 : subI .i64 c0 1 = (c0 - 1) := sub_ok omQ omQ
  try simp only [ha1]
  have hM0 := hM; clear hM; obtain ⟨x2, hx3, hM⟩ := letk_opn hM0; clear hM0
  have hcx2 := ih  x_ (c0 - 1)  (by omega)
  rw [← hx3] at hcx2
  refine callC_give hcx2 (clQA ha1) (clQA ha1) (fun hw4 => ?_)
  replace hw4 := nzQ hw4
  refine spQA ha1 ?_
  subst hM
  exact retC_view (lfQA ha1)
set_option maxHeartbeats 2000000 in
set_option maxRecDepth 100000 in
theorem slices_IndexFunc_api_Item_api_Item_at_encode_within_1_ok (N : Nat) (ih : ∀  (i_ : S_api_Item) (depth : Int), hgt i_ < N → CallOk En 81 [.agg [.int .i64 i_.Kind, .int .i64 i_.N, .sl none 1 false (i_.B.map (V.int .u8)), .sl none 4 true (i_.L.map e_api_Item)], .int .i64 depth] (.bool (withinM i_ depth)) []) (z0 : Option Bool) (s : (List S_api_Item)) (f__c0 : Int) (hp0 : ∀ x ∈ s, hgt x < N) (hp1 : 0 < f__c0) : CallOk En 100 [.sl z0 4 true (s.map e_api_Item), .fn 99 [.pp 1 false (.int .i64 f__c0)]] (.int .i64 (slices_IndexFunc_api_Item_api_Item_at_encode_within_1 s f__c0)) [] := by
  generalize hM : slices_IndexFunc_api_Item_api_Item_at_encode_within_1 s f__c0 = r
  rw [slices_IndexFunc_api_Item_api_Item_at_encode_within_1.eq_1] at hM
  refine enterV En_ok En_mo noJ Try.func100 rfl Try.ntmps100 (by kernel_rfl) fun hw => ct_start ?_
  refine spQ ?_
  replace hw := nzQ hw
  have hM0 := hM; clear hM; obtain ⟨f1, d1, hf1, hd1, hM⟩ := iter_opn hM0; clear hM0
  refine ct_loop (fun n S => ∃ p : Int, S = (⟨[(0, .sl z0 4 true (s.map e_api_Item)), (1, .fn 99 [.pp 1 false (.int .i64 f__c0)]), (7, .int .i64 (s.length : Int)), (8, .int .i64 p)], [], 0⟩ : St) ∧ ((0 ≤ p) ∧ (p ≤ (s.length : Int))) ∧ ((s.length : Int) - p).toNat < n ∧ iter n f1 d1 p = r) (((s.length : Int) - 0).toNat + 1) (⟨[(0, .sl z0 4 true (s.map e_api_Item)), (1, .fn 99 [.pp 1 false (.int .i64 f__c0)]), (7, .int .i64 (s.length : Int)), (8, .int .i64 0)], [], 0⟩ : St) sbQ sbQ ⟨0, rfl, ⟨omQ, omQ⟩, (Nat.lt_succ_self _), hM⟩ ?_
  clear hM
  rintro n1 S ⟨p1, rfl, hfa1, hm1, hM⟩
  have hM0 := hM; clear hM; obtain ⟨ag1, hag1, hM⟩ := iter_step hM0 (by omega) hf1; clear hM0
  replace hfa1 := nzQ hfa1
  replace hm1 := nzQ hm1
  have ha1 : addI .i64 p1 1 = p1 + 1 := add_one omQ omQ
  refine spQA ha1 ?_
  refine condC_intro (fun h2 => ?_) (fun h2 => ?_)
  · rw [if_pos h2] at hM
    refine spQA (And.intro ha1 h2) ?_
    have nh2 := nzQ h2
    refine bindC_intro omQ ?_
    have he3 := fun d => elt_mp (l := s) (f := e_api_Item) (i := p1) omQ d
    refine spQA (And.intro ha1 he3) ?_
    have hM0 := hM; clear hM; obtain ⟨x4, hx5, hM⟩ := letk_opn hM0; clear hM0
    have hcx4 := encode_within_1_ok N ih  (gt s p1) f__c0 (by (first | exact hp1 | exact hp0 _ (gt_mem (by omega)))) (by (first | exact hp1 | exact hp0 _ (gt_mem (by omega))))
    rw [← hx5] at hcx4
    refine callC_give hcx4 (clQA (And.intro ha1 he3)) (clQA (And.intro ha1 he3)) (fun hw6 => ?_)
    replace hw6 := nzQ hw6
    refine spQA (And.intro ha1 he3) ?_
    refine condC_intro (fun h7 => ?_) (fun h7 => ?_)
    · subst h7
      rw [if_pos rfl] at hM
      refine spQA (And.intro ha1 he3) ?_
      subst hM
      exact retC_view (lfQA (And.intro ha1 (And.intro he3 h2)))
    · subst h7
      rw [if_neg (by decide)] at hM
      refine spQA (And.intro ha1 he3) ?_
      refine lp_intro (n1 - 1) (⟨[(0, .sl z0 4 true (s.map e_api_Item)), (1, .fn 99 [.pp 1 false (.int .i64 f__c0)]), (7, .int .i64 (s.length : Int)), (8, .int .i64 (p1 + 1))], [], 0⟩ : St) (by omega) sbQ sbQ ⟨(p1 + 1), rfl, ⟨omQ, omQ⟩, omQ, iter_again hM hag1⟩
  · rw [if_neg (ne_true h2)] at hM
    refine spQA (And.intro ha1 h2) ?_
    have nh2 := nzQ h2
    subst hM
    exact retC_view (lfQA (And.intro ha1 h2))
set_option maxHeartbeats 2000000 in
set_option maxRecDepth 100000 in
theorem slices_ContainsFunc_api_Item_api_Item_at_encode_within_1_ok (N : Nat) (ih : ∀  (i_ : S_api_Item) (depth : Int), hgt i_ < N → CallOk En 81 [.agg [.int .i64 i_.Kind, .int .i64 i_.N, .sl none 1 false (i_.B.map (V.int .u8)), .sl none 4 true (i_.L.map e_api_Item)], .int .i64 depth] (.bool (withinM i_ depth)) []) (z0 : Option Bool) (s : (List S_api_Item)) (f__c0 : Int) (hp0 : ∀ x ∈ s, hgt x < N) (hp1 : 0 < f__c0) : CallOk En 98 [.sl z0 4 true (s.map e_api_Item), .fn 99 [.pp 1 false (.int .i64 f__c0)]] (.bool (slices_ContainsFunc_api_Item_api_Item_at_encode_within_1 s f__c0)) [] := by
  generalize hM : slices_ContainsFunc_api_Item_api_Item_at_encode_within_1 s f__c0 = r
  rw [slices_ContainsFunc_api_Item_api_Item_at_encode_within_1.eq_1] at hM
  refine enterV En_ok En_mo noJ Try.func98 rfl Try.ntmps98 (by kernel_rfl) fun hw => ct_start ?_
  refine spQ ?_
  replace hw := nzQ hw
  have hM0 := hM; clear hM; obtain ⟨x1, hx2, hM⟩ := letk_opn hM0; clear hM0
  have hcx1 := slices_IndexFunc_api_Item_api_Item_at_encode_within_1_ok N ih z0 s f__c0 (by (first | exact hp1 | exact hp0)) (by (first | exact hp1 | exact hp0))
  rw [← hx2] at hcx1
  refine callC_give hcx1 clQ clQ (fun hw3 => ?_)
  replace hw3 := nzQ hw3
  refine spQ ?_
  subst hM
  exact retC_view lfQ
set_option maxHeartbeats 2000000 in
set_option maxRecDepth 100000 in
theorem encode_within_ok (N : Nat) (ih : ∀  (i_ : S_api_Item) (depth : Int), hgt i_ < N → CallOk En 81 [.agg [.int .i64 i_.Kind, .int .i64 i_.N, .sl none 1 false (i_.B.map (V.int .u8)), .sl none 4 true (i_.L.map e_api_Item)], .int .i64 depth] (.bool (withinM i_ depth)) [])  (i_ : S_api_Item) (depth : Int) (hp_ : hgt i_ < N + 1) : CallOk En 81 [.agg [.int .i64 i_.Kind, .int .i64 i_.N, .sl none 1 false (i_.B.map (V.int .u8)), .sl none 4 true (i_.L.map e_api_Item)], .int .i64 depth] (.bool (encode_within i_ depth)) [] := by
  generalize hM : encode_within i_ depth = r
  rw [encode_within.eq_1] at hM
  refine enterV En_ok En_mo noJ Try.func81 rfl Try.ntmps81 (by kernel_rfl) fun hw => ct_start ?_
  refine spQ ?_
  replace hw := nzQ hw
  refine condC_intro (fun h1 => ?_) (fun h1 => ?_)
  · rw [if_pos h1] at hM
    refine spQA h1 ?_
    have nh1 := nzQ h1
    refine guardC_t (fun h2 => ?_) (fun h2 => ?_)
    · rw [if_pos h2] at hM
      refine spQA h2 ?_
      have nh2 := nzQ h2
      subst hM
      exact retC_view (lfQA (And.intro h1 h2))
    · rw [if_neg (ne_true h2)] at hM
      refine spQA h2 ?_
      have nh2 := nzQ h2
      subst hM
      exact retC_view (lfQA (And.intro h1 h2))
  · rw [if_neg (ne_true h1)] at hM
    refine spQA h1 ?_
    have nh1 := nzQ h1
    refine condC_intro (fun h3 => ?_) (fun h3 => ?_)
    · rw [if_pos h3] at hM
      refine spQA h3 ?_
      have nh3 := nzQ h3
      refine guardC_t (fun h4 => ?_) (fun h4 => ?_)
      · rw [if_pos h4] at hM
        refine spQA h4 ?_
        have nh4 := nzQ h4
        subst hM
        exact retC_view (lfQA (And.intro h1 (And.intro h3 h4)))
      · rw [if_neg (ne_true h4)] at hM
        refine spQA h4 ?_
        have nh4 := nzQ h4
        subst hM
        exact retC_view (lfQA (And.intro h1 (And.intro h3 h4)))
    · rw [if_neg (ne_true h3)] at hM
      refine spQA h3 ?_
      have nh3 := nzQ h3
      refine condC_intro (fun h5 => ?_) (fun h5 => ?_)
      · rw [if_pos h5] at hM
        refine spQA h5 ?_
        have nh5 := nzQ h5
        refine guardC_t (fun h6 => ?_) (fun h6 => ?_)
        · rw [if_pos h6] at hM
          refine spQA h6 ?_
          have nh6 := nzQ h6
          refine guardC_t (fun h7 => ?_) (fun h7 => ?_)
          · rw [if_pos h7] at hM
            refine spQA h7 ?_
            have nh7 := nzQ h7
            refine guardC_t (fun h8 => ?_) (fun h8 => ?_)
            · rw [if_pos h8] at hM
              refine spQA h8 ?_
              have nh8 := nzQ h8
              refine guardC_t (fun h9 => ?_) (fun h9 => ?_)
              · rw [if_pos h9] at hM
                refine spQA h9 ?_
                have nh9 := nzQ h9
                have hM0 := hM; clear hM; obtain ⟨x10, hx11, hM⟩ := letk_opn hM0; clear hM0
                have hcx10 := slices_ContainsFunc_api_Item_api_Item_at_encode_within_1_ok N ih none (i_.L) depth (by (first | omega | exact fun x hx => Nat.lt_of_lt_of_le (hgt_L hx) (Nat.lt_succ_iff.1 hp_))) (by (first | omega | exact fun x hx => Nat.lt_of_lt_of_le (hgt_L hx) (Nat.lt_succ_iff.1 hp_)))
                rw [← hx11] at hcx10
                refine callC_look hcx10 clQ clQ (fun hw12 => ?_)
                replace hw12 := nzQ hw12
                refine spQ ?_
                subst hM
                exact retC_view (lfQA (And.intro h1 (And.intro h3 (And.intro h5 (And.intro h6 (And.intro h7 (And.intro h8 h9)))))))
              · rw [if_neg (ne_true h9)] at hM
                refine spQA h9 ?_
                have nh9 := nzQ h9
                subst hM
                exact retC_view (lfQA (And.intro h1 (And.intro h3 (And.intro h5 (And.intro h6 (And.intro h7 (And.intro h8 h9)))))))
            · rw [if_neg (ne_true h8)] at hM
              refine spQA h8 ?_
              have nh8 := nzQ h8
              subst hM
              exact retC_view (lfQA (And.intro h1 (And.intro h3 (And.intro h5 (And.intro h6 (And.intro h7 h8))))))
          · rw [if_neg (ne_true h7)] at hM
            refine spQA h7 ?_
            have nh7 := nzQ h7
            subst hM
            exact retC_view (lfQA (And.intro h1 (And.intro h3 (And.intro h5 (And.intro h6 h7)))))
        · rw [if_neg (ne_true h6)] at hM
          refine spQA h6 ?_
          have nh6 := nzQ h6
          subst hM
          exact retC_view (lfQA (And.intro h1 (And.intro h3 (And.intro h5 h6))))
      · rw [if_neg (ne_true h5)] at hM
        refine spQA h5 ?_
        have nh5 := nzQ h5
        subst hM
        exact retC_view (lfQA (And.intro h1 (And.intro h3 h5)))
theorem withinM_okN : ∀ (N : Nat)  (i_ : S_api_Item) (depth : Int), hgt i_ < N → CallOk En 81 [.agg [.int .i64 i_.Kind, .int .i64 i_.N, .sl none 1 false (i_.B.map (V.int .u8)), .sl none 4 true (i_.L.map e_api_Item)], .int .i64 depth] (.bool (withinM i_ depth)) [] := by
  intro N
  induction N with
  | zero => intro i_ depth  h; exact absurd h (Nat.not_lt_zero _)
  | succ N ih =>
    intro i_ depth  h
    have h9 := encode_within_ok N ih i_ depth  h
    rw [encode_within_eqM] at h9
    exact h9
theorem withinM_ok  (i_ : S_api_Item) (depth : Int)  : CallOk En 81 [.agg [.int .i64 i_.Kind, .int .i64 i_.N, .sl none 1 false (i_.B.map (V.int .u8)), .sl none 4 true (i_.L.map e_api_Item)], .int .i64 depth] (.bool (withinM i_ depth)) [] :=
  withinM_okN (hgt i_ + 1) i_ depth  (Nat.lt_succ_self _)
set_option maxHeartbeats 2000000 in
set_option maxRecDepth 100000 in
theorem encode_Valid_ok   (i_ : S_api_Item)  : CallOk En 58 [.agg [.int .i64 i_.Kind, .int .i64 i_.N, .sl none 1 false (i_.B.map (V.int .u8)), .sl none 4 true (i_.L.map e_api_Item)]] (.bool (encode_Valid i_)) [] := by
  generalize hM : encode_Valid i_ = r
  rw [encode_Valid.eq_1] at hM
  refine enterV En_ok En_mo noJ Try.func58 rfl Try.ntmps58 (by kernel_rfl) fun hw => ct_start ?_
  refine spQ ?_
  replace hw := nzQ hw
  have hM0 := hM; clear hM; obtain ⟨x1, hx2, hM⟩ := letk_opn hM0; clear hM0
  have hcx1 := withinM_ok  i_ 8 
  rw [← hx2] at hcx1
  refine callC_give hcx1 clQ clQ (fun hw3 => ?_)
  replace hw3 := nzQ hw3
  refine spQ ?_
  subst hM
  exact retC_view lfQ
set_option maxHeartbeats 2000000 in
set_option maxRecDepth 100000 in
theorem encode_number_ok  (z0 : Option Bool) (out : (List Int)) (n_ : Int) (size : Int) (hp0 : size ≤ 8) (hp1 : out.length ≤ 1000000000) (hp2 : 0 ≤ size) : CallIn En 82 [.own 0, .int .u64 n_, .int .i64 size] [.own 5 1 false z0 (out.map (V.int .u8))] (.own 0) [.own 5 1 false none ((encode_number out n_ size).map (V.int .u8))] [] := by
  generalize hM : encode_number out n_ size = r
  rw [encode_number.eq_1] at hM
  refine enterI En_ok En_mo noJ Try.func82 rfl Try.ntmps82 (by kernel_rfl) rfl fun ks hw hwB => ct_start ?_
  refine spQ ?_
  replace hw := nzQ hw
  try simp only [wfBs, wfB, decide_eq_true_eq, decide_eq_false_iff_not, Bool.and_eq_true, Bool.or_eq_true, Bool.not_eq_true', Bool.not_eq_false', beq_iff_eq, bne_iff_ne, beq_eq_false_iff_ne, bne_eq_false_iff_eq, ne_eq, Int.not_lt, Int.not_le, gt_iff_lt, ge_iff_le, List.length_map, wfL, wfV, and_true, true_and, LEN_eq, rng_i64, rng_u64, rng_u32, rng_i32, sl_len, st_len, List.length_append, List.length_cons, List.length_nil, List.length_replicate, rep_len, rowV_len, spl_len, cutN_len, arrN_len, nat8_len, remI_nn] at hwB
  have ha1 : subI .i64 size 1 = (size - 1) := sub_ok omQ omQ
  try simp only [ha1]
  have hM0 := hM; clear hM; obtain ⟨f2, d2, hf2, hd2, hM⟩ := iter_opn hM0; clear hM0
  refine ct_loop (fun n S => ∃ p : Int × List Int, S = (⟨[(0, .own 0), (1, .int .u64 n_), (7, .int .i64 p.1)], [(0, .own 5 1 false none (p.2.map (V.int .u8)))], 1⟩ : St) ∧ ((-1 ≤ p.1) ∧ (p.1 < 8) ∧ (((p.2).length : Int) + p.1 ≤ 1000000020)) ∧ (p.1 + 1).toNat < n ∧ iter n f2 d2 p = r) (((size - 1) + 1).toNat + 1) (⟨[(0, .own 0), (1, .int .u64 n_), (7, .int .i64 (size - 1))], [(0, .own 5 1 false none (out.map (V.int .u8)))], 1⟩ : St) sbQ sbQ ⟨((size - 1), out), rfl, ⟨omQ, omQ, omQ⟩, (Nat.lt_succ_self _), hM⟩ ?_
  clear hM
  rintro n2 S ⟨p2, rfl, hfa2, hm2, hM⟩
  have hM0 := hM; clear hM; obtain ⟨ag2, hag2, hM⟩ := iter_step hM0 (by omega) hf2; clear hM0
  replace hfa2 := nzQ hfa2
  replace hm2 := nzQ hm2
  refine spQA ha1 ?_
  refine condC_intro (fun h3 => ?_) (fun h3 => ?_)
  · rw [if_pos h3] at hM
    refine spQA (And.intro ha1 h3) ?_
    have nh3 := nzQ h3
    obtain ⟨ha4, hbha4⟩ := mul_pos_ok (a := 8) (b := p2.1) 8 8 64 omQ omQ omQ omQ (by decide) (by decide)
    try simp only [ha4]
    refine bindC_intro omQ ?_
    refine spQA (And.intro ha1 ha4) ?_
    refine bindC_intro omQ ?_
    refine spQA (And.intro ha1 ha4) ?_
    have ha5 : subI .i64 p2.1 1 = (p2.1 - 1) := sub_ok omQ omQ
    try simp only [ha5]
    refine lp_intro (n2 - 1) (⟨[(0, .own 0), (1, .int .u64 n_), (7, .int .i64 (p2.1 - 1))], [(0, .own 5 1 false none ((p2.2 ++ ([(convI .u8 (shrI .u64 n_ (8 * p2.1)))] : List Int)).map (V.int .u8)))], 1⟩ : St) (by omega) sbQ sbQ ⟨((p2.1 - 1), (p2.2 ++ ([(convI .u8 (shrI .u64 n_ (8 * p2.1)))] : List Int))), rfl, ⟨omQ, omQ, omQ⟩, omQ, iter_again hM hag2⟩
  · rw [if_neg (ne_true h3)] at hM
    refine spQA (And.intro ha1 h3) ?_
    have nh3 := nzQ h3
    subst hM
    exact retCI_in [0] (by simp only [go_sem, rowV_eq, rowV_eq0, List.length_replicate, rep_len, Int.toNat_natCast, ↓reduceIte, Nat.reduceEqDiff, Nat.reduceAdd, Int.reduceAdd, Nat.reduceMul, Nat.reduceLeDiff, Nat.reduceLT, Int.reduceLE, Int.reduceLT, Int.reduceNeg, Int.reduceToNat, mt, mtL, mtL_self, mt_self, mtZ, and_self, eq_self, or_true, true_or, map_st, ha1, gt_cons0, gt_conss, Int.reduceSub, or_self, h3]) (by decide) (by simp only [go_sem, rowV_eq, rowV_eq0, List.length_replicate, rep_len, Int.toNat_natCast, ↓reduceIte, Nat.reduceEqDiff, Nat.reduceAdd, Int.reduceAdd, Nat.reduceMul, Nat.reduceLeDiff, Nat.reduceLT, Int.reduceLE, Int.reduceLT, Int.reduceNeg, Int.reduceToNat, mt, mtL, mtL_self, mt_self, mtZ, and_self, eq_self, or_true, true_or, map_st, ha1, gt_cons0, gt_conss, Int.reduceSub, or_self, h3])
set_option maxHeartbeats 2000000 in
set_option maxRecDepth 100000 in
theorem encode_write_ok (N : Nat) (ih : ∀ (z0 : Option Bool) (out : (List Int)) (i_ : S_api_Item), (hgt i_ ≤ 500000000) → hgt i_ < N → CallIn En 59 [.own 0, .agg [.int .i64 i_.Kind, .int .i64 i_.N, .sl none 1 false (i_.B.map (V.int .u8)), .sl none 4 true (i_.L.map e_api_Item)]] [.own 5 1 false z0 (out.map (V.int .u8))] (.own 0) [.own 5 1 false none ((writeM out i_).map (V.int .u8))] []) (z0 : Option Bool) (out : (List Int)) (i_ : S_api_Item) (hp0 : hgt i_ ≤ 500000000) (hp_ : hgt i_ < N + 1) : CallIn En 59 [.own 0, .agg [.int .i64 i_.Kind, .int .i64 i_.N, .sl none 1 false (i_.B.map (V.int .u8)), .sl none 4 true (i_.L.map e_api_Item)]] [.own 5 1 false z0 (out.map (V.int .u8))] (.own 0) [.own 5 1 false none ((encode_write out i_).map (V.int .u8))] [] := by
  generalize hM : encode_write out i_ = r
  rw [encode_write.eq_1] at hM
  refine enterI En_ok En_mo noJ Try.func59 rfl Try.ntmps59 (by kernel_rfl) rfl fun ks hw hwB => ct_start ?_
  refine spQ ?_
  replace hw := nzQ hw
  try simp only [wfBs, wfB, decide_eq_true_eq, decide_eq_false_iff_not, Bool.and_eq_true, Bool.or_eq_true, Bool.not_eq_true', Bool.not_eq_false', beq_iff_eq, bne_iff_ne, beq_eq_false_iff_ne, bne_eq_false_iff_eq, ne_eq, Int.not_lt, Int.not_le, gt_iff_lt, ge_iff_le, List.length_map, wfL, wfV, and_true, true_and, LEN_eq, rng_i64, rng_u64, rng_u32, rng_i32, sl_len, st_len, List.length_append, List.length_cons, List.length_nil, List.length_replicate, rep_len, rowV_len, spl_len, cutN_len, arrN_len, nat8_len, remI_nn] at hwB
  refine condC_intro (fun h1 => ?_) (fun h1 => ?_)
  · rw [if_pos h1] at hM
    refine spQA h1 ?_
    have nh1 := nzQ h1
    subst hM
    exact retCI_in [0] (by simp only [go_sem, rowV_eq, rowV_eq0, List.length_replicate, rep_len, Int.toNat_natCast, ↓reduceIte, Nat.reduceEqDiff, Nat.reduceAdd, Int.reduceAdd, Nat.reduceMul, Nat.reduceLeDiff, Nat.reduceLT, Int.reduceLE, Int.reduceLT, Int.reduceNeg, Int.reduceToNat, mt, mtL, mtL_self, mt_self, mtZ, and_self, eq_self, or_true, true_or, map_st, gt_cons0, gt_conss, Int.reduceSub, or_self, h1]) (by decide) (by simp only [go_sem, rowV_eq, rowV_eq0, List.length_replicate, rep_len, Int.toNat_natCast, ↓reduceIte, Nat.reduceEqDiff, Nat.reduceAdd, Int.reduceAdd, Nat.reduceMul, Nat.reduceLeDiff, Nat.reduceLT, Int.reduceLE, Int.reduceLT, Int.reduceNeg, Int.reduceToNat, mt, mtL, mtL_self, mt_self, mtZ, and_self, eq_self, or_true, true_or, map_st, gt_cons0, gt_conss, Int.reduceSub, or_self, h1])
  · rw [if_neg (ne_true h1)] at hM
    refine spQA h1 ?_
    have nh1 := nzQ h1
    refine bindC_intro (by (first | exact omQ | (clear hM; first | (have h9 := hgt_eq i_; exact omQ')))) ?_
    refine spQ ?_
    refine condC_intro (fun h2 => ?_) (fun h2 => ?_)
    · rw [if_pos h2] at hM
      refine spQA h2 ?_
      have nh2 := nzQ h2
      have hM0 := hM; clear hM; obtain ⟨x3, hx4, hM⟩ := letk_opn hM0; clear hM0
      have hcx3 := encode_number_ok (some false) (out ++ ([(convI .u8 i_.Kind)] : List Int)) (convI .u64 i_.N) 8 (by (simp only [decide_eq_true_eq, decide_eq_false_iff_not, Bool.and_eq_true, Bool.or_eq_true, Bool.not_eq_true', Bool.not_eq_false', beq_iff_eq, bne_iff_ne, beq_eq_false_iff_ne, bne_eq_false_iff_eq, ne_eq, Int.not_lt, Int.not_le, gt_iff_lt, ge_iff_le, List.length_map, wfL, wfV, and_true, true_and, LEN_eq, rng_i64, rng_u64, rng_u32, rng_i32, sl_len, st_len, List.length_append, List.length_cons, List.length_nil, List.length_replicate, rep_len, rowV_len, spl_len, cutN_len, arrN_len, nat8_len, remI_nn] at *; omega)) (by (simp only [decide_eq_true_eq, decide_eq_false_iff_not, Bool.and_eq_true, Bool.or_eq_true, Bool.not_eq_true', Bool.not_eq_false', beq_iff_eq, bne_iff_ne, beq_eq_false_iff_ne, bne_eq_false_iff_eq, ne_eq, Int.not_lt, Int.not_le, gt_iff_lt, ge_iff_le, List.length_map, wfL, wfV, and_true, true_and, LEN_eq, rng_i64, rng_u64, rng_u32, rng_i32, sl_len, st_len, List.length_append, List.length_cons, List.length_nil, List.length_replicate, rep_len, rowV_len, spl_len, cutN_len, arrN_len, nat8_len, remI_nn] at *; omega)) (by (simp only [decide_eq_true_eq, decide_eq_false_iff_not, Bool.and_eq_true, Bool.or_eq_true, Bool.not_eq_true', Bool.not_eq_false', beq_iff_eq, bne_iff_ne, beq_eq_false_iff_ne, bne_eq_false_iff_eq, ne_eq, Int.not_lt, Int.not_le, gt_iff_lt, ge_iff_le, List.length_map, wfL, wfV, and_true, true_and, LEN_eq, rng_i64, rng_u64, rng_u32, rng_i32, sl_len, st_len, List.length_append, List.length_cons, List.length_nil, List.length_replicate, rep_len, rowV_len, spl_len, cutN_len, arrN_len, nat8_len, remI_nn] at *; omega))
      rw [← hx4] at hcx3
      refine callC_in [0] hcx3 (by decide) (by simp only [go_sem, rowV_eq, rowV_eq0, List.length_replicate, rep_len, Int.toNat_natCast, ↓reduceIte, Nat.reduceEqDiff, Nat.reduceAdd, Int.reduceAdd, Nat.reduceMul, Nat.reduceLeDiff, Nat.reduceLT, Int.reduceLE, Int.reduceLT, Int.reduceNeg, Int.reduceToNat, mt, mtL, mtL_self, mt_self, mtZ, and_self, eq_self, or_true, true_or]) (by simp only [go_sem, rowV_eq, rowV_eq0, List.length_replicate, rep_len, Int.toNat_natCast, ↓reduceIte, Nat.reduceEqDiff, Nat.reduceAdd, Int.reduceAdd, Nat.reduceMul, Nat.reduceLeDiff, Nat.reduceLT, Int.reduceLE, Int.reduceLT, Int.reduceNeg, Int.reduceToNat, mt, mtL, mtL_self, mt_self, mtZ, and_self, eq_self, or_true, true_or]) (fun hw5 => ?_)
      replace hw5 := nzQ hw5
      refine spQ ?_
      have hq6 := num_le hx4
      replace hq6 := nzQ hq6
      subst hM
      exact retCI_in [0] (by simp only [go_sem, rowV_eq, rowV_eq0, List.length_replicate, rep_len, Int.toNat_natCast, ↓reduceIte, Nat.reduceEqDiff, Nat.reduceAdd, Int.reduceAdd, Nat.reduceMul, Nat.reduceLeDiff, Nat.reduceLT, Int.reduceLE, Int.reduceLT, Int.reduceNeg, Int.reduceToNat, mt, mtL, mtL_self, mt_self, mtZ, and_self, eq_self, or_true, true_or, map_st, gt_cons0, gt_conss, Int.reduceSub, or_self, h1, h2]) (by decide) (by simp only [go_sem, rowV_eq, rowV_eq0, List.length_replicate, rep_len, Int.toNat_natCast, ↓reduceIte, Nat.reduceEqDiff, Nat.reduceAdd, Int.reduceAdd, Nat.reduceMul, Nat.reduceLeDiff, Nat.reduceLT, Int.reduceLE, Int.reduceLT, Int.reduceNeg, Int.reduceToNat, mt, mtL, mtL_self, mt_self, mtZ, and_self, eq_self, or_true, true_or, map_st, gt_cons0, gt_conss, Int.reduceSub, or_self, h1, h2])
    · rw [if_neg (ne_true h2)] at hM
      refine spQA h2 ?_
      have nh2 := nzQ h2
      refine condC_intro (fun h7 => ?_) (fun h7 => ?_)
      · rw [if_pos h7] at hM
        refine spQA h7 ?_
        have nh7 := nzQ h7
        refine ct_draw 55 8 [28, 29, 30, 31, 32, 33, 34, 35] [] ([[], [], [1], [1, 2], [1, 2, 3], [0, 1, 2, 3, 4], [], [6]] ++ [List.range 8, List.range 9]) [(5, 0)] (by kernel_rfl) (by exact alQ) ?_
        refine spQ ?_
        have hM0 := hM; clear hM; obtain ⟨x8, hx9, hM⟩ := letk_opn hM0; clear hM0
        have hcx8 := encode_number_ok (some false) (out ++ ([(convI .u8 i_.Kind)] : List Int)) (convI .u64 (i_.B.length : Int)) 4 (by (simp only [decide_eq_true_eq, decide_eq_false_iff_not, Bool.and_eq_true, Bool.or_eq_true, Bool.not_eq_true', Bool.not_eq_false', beq_iff_eq, bne_iff_ne, beq_eq_false_iff_ne, bne_eq_false_iff_eq, ne_eq, Int.not_lt, Int.not_le, gt_iff_lt, ge_iff_le, List.length_map, wfL, wfV, and_true, true_and, LEN_eq, rng_i64, rng_u64, rng_u32, rng_i32, sl_len, st_len, List.length_append, List.length_cons, List.length_nil, List.length_replicate, rep_len, rowV_len, spl_len, cutN_len, arrN_len, nat8_len, remI_nn] at *; omega)) (by (simp only [decide_eq_true_eq, decide_eq_false_iff_not, Bool.and_eq_true, Bool.or_eq_true, Bool.not_eq_true', Bool.not_eq_false', beq_iff_eq, bne_iff_ne, beq_eq_false_iff_ne, bne_eq_false_iff_eq, ne_eq, Int.not_lt, Int.not_le, gt_iff_lt, ge_iff_le, List.length_map, wfL, wfV, and_true, true_and, LEN_eq, rng_i64, rng_u64, rng_u32, rng_i32, sl_len, st_len, List.length_append, List.length_cons, List.length_nil, List.length_replicate, rep_len, rowV_len, spl_len, cutN_len, arrN_len, nat8_len, remI_nn] at *; omega)) (by (simp only [decide_eq_true_eq, decide_eq_false_iff_not, Bool.and_eq_true, Bool.or_eq_true, Bool.not_eq_true', Bool.not_eq_false', beq_iff_eq, bne_iff_ne, beq_eq_false_iff_ne, bne_eq_false_iff_eq, ne_eq, Int.not_lt, Int.not_le, gt_iff_lt, ge_iff_le, List.length_map, wfL, wfV, and_true, true_and, LEN_eq, rng_i64, rng_u64, rng_u32, rng_i32, sl_len, st_len, List.length_append, List.length_cons, List.length_nil, List.length_replicate, rep_len, rowV_len, spl_len, cutN_len, arrN_len, nat8_len, remI_nn] at *; omega))
        rw [← hx9] at hcx8
        refine hcallC_kill 0 hcx8 (by simp only [go_sem, rowV_eq, rowV_eq0, List.length_replicate, rep_len, Int.toNat_natCast, ↓reduceIte, Nat.reduceEqDiff, Nat.reduceAdd, Int.reduceAdd, Nat.reduceMul, Nat.reduceLeDiff, Nat.reduceLT, Int.reduceLE, Int.reduceLT, Int.reduceNeg, Int.reduceToNat, mt, mtL, mtL_self, mt_self, mtZ, and_self, eq_self, or_true, true_or]) (by simp only [go_sem, rowV_eq, rowV_eq0, List.length_replicate, rep_len, Int.toNat_natCast, ↓reduceIte, Nat.reduceEqDiff, Nat.reduceAdd, Int.reduceAdd, Nat.reduceMul, Nat.reduceLeDiff, Nat.reduceLT, Int.reduceLE, Int.reduceLT, Int.reduceNeg, Int.reduceToNat, mt, mtL, mtL_self, mt_self, mtZ, and_self, eq_self, or_true, true_or]) (by simp only [go_sem, rowV_eq, rowV_eq0, List.length_replicate, rep_len, Int.toNat_natCast, ↓reduceIte, Nat.reduceEqDiff, Nat.reduceAdd, Int.reduceAdd, Nat.reduceMul, Nat.reduceLeDiff, Nat.reduceLT, Int.reduceLE, Int.reduceLT, Int.reduceNeg, Int.reduceToNat, mt, mtL, mtL_self, mt_self, mtZ, and_self, eq_self, or_true, true_or]) (flatL_map fun _ => (by simp only [go_sem, rowV_eq, rowV_eq0, List.length_replicate, rep_len, Int.toNat_natCast, ↓reduceIte, Nat.reduceEqDiff, Nat.reduceAdd, Int.reduceAdd, Nat.reduceMul, Nat.reduceLeDiff, Nat.reduceLT, Int.reduceLE, Int.reduceLT, Int.reduceNeg, Int.reduceToNat, mt, mtL, mtL_self, mt_self, mtZ, and_self, eq_self, or_true, true_or])) ?_
        refine spQ ?_
        have hq10 := num_le hx9
        replace hq10 := nzQ hq10
        refine bindC_intro (by (first | exact omQ | (clear hM; first | (have h9 := hgt_eq i_; exact omQ')))) ?_
        refine spQ ?_
        subst hM
        exact retCI_in [8] (by simp only [go_sem, rowV_eq, rowV_eq0, List.length_replicate, rep_len, Int.toNat_natCast, ↓reduceIte, Nat.reduceEqDiff, Nat.reduceAdd, Int.reduceAdd, Nat.reduceMul, Nat.reduceLeDiff, Nat.reduceLT, Int.reduceLE, Int.reduceLT, Int.reduceNeg, Int.reduceToNat, mt, mtL, mtL_self, mt_self, mtZ, and_self, eq_self, or_true, true_or, map_st, gt_cons0, gt_conss, Int.reduceSub, or_self, h1, h2, h7]) (by decide) (by simp only [go_sem, rowV_eq, rowV_eq0, List.length_replicate, rep_len, Int.toNat_natCast, ↓reduceIte, Nat.reduceEqDiff, Nat.reduceAdd, Int.reduceAdd, Nat.reduceMul, Nat.reduceLeDiff, Nat.reduceLT, Int.reduceLE, Int.reduceLT, Int.reduceNeg, Int.reduceToNat, mt, mtL, mtL_self, mt_self, mtZ, and_self, eq_self, or_true, true_or, map_st, gt_cons0, gt_conss, Int.reduceSub, or_self, h1, h2, h7])
      · rw [if_neg (ne_true h7)] at hM
        refine spQA h7 ?_
        have nh7 := nzQ h7
        have hM0 := hM; clear hM; obtain ⟨x11, hx12, hM⟩ := letk_opn hM0; clear hM0
        have hcx11 := encode_number_ok (some false) (out ++ ([(convI .u8 i_.Kind)] : List Int)) (convI .u64 (i_.L.length : Int)) 4 (by (simp only [decide_eq_true_eq, decide_eq_false_iff_not, Bool.and_eq_true, Bool.or_eq_true, Bool.not_eq_true', Bool.not_eq_false', beq_iff_eq, bne_iff_ne, beq_eq_false_iff_ne, bne_eq_false_iff_eq, ne_eq, Int.not_lt, Int.not_le, gt_iff_lt, ge_iff_le, List.length_map, wfL, wfV, and_true, true_and, LEN_eq, rng_i64, rng_u64, rng_u32, rng_i32, sl_len, st_len, List.length_append, List.length_cons, List.length_nil, List.length_replicate, rep_len, rowV_len, spl_len, cutN_len, arrN_len, nat8_len, remI_nn] at *; omega)) (by (simp only [decide_eq_true_eq, decide_eq_false_iff_not, Bool.and_eq_true, Bool.or_eq_true, Bool.not_eq_true', Bool.not_eq_false', beq_iff_eq, bne_iff_ne, beq_eq_false_iff_ne, bne_eq_false_iff_eq, ne_eq, Int.not_lt, Int.not_le, gt_iff_lt, ge_iff_le, List.length_map, wfL, wfV, and_true, true_and, LEN_eq, rng_i64, rng_u64, rng_u32, rng_i32, sl_len, st_len, List.length_append, List.length_cons, List.length_nil, List.length_replicate, rep_len, rowV_len, spl_len, cutN_len, arrN_len, nat8_len, remI_nn] at *; omega)) (by (simp only [decide_eq_true_eq, decide_eq_false_iff_not, Bool.and_eq_true, Bool.or_eq_true, Bool.not_eq_true', Bool.not_eq_false', beq_iff_eq, bne_iff_ne, beq_eq_false_iff_ne, bne_eq_false_iff_eq, ne_eq, Int.not_lt, Int.not_le, gt_iff_lt, ge_iff_le, List.length_map, wfL, wfV, and_true, true_and, LEN_eq, rng_i64, rng_u64, rng_u32, rng_i32, sl_len, st_len, List.length_append, List.length_cons, List.length_nil, List.length_replicate, rep_len, rowV_len, spl_len, cutN_len, arrN_len, nat8_len, remI_nn] at *; omega))
        rw [← hx12] at hcx11
        refine callC_in [0] hcx11 (by decide) (by simp only [go_sem, rowV_eq, rowV_eq0, List.length_replicate, rep_len, Int.toNat_natCast, ↓reduceIte, Nat.reduceEqDiff, Nat.reduceAdd, Int.reduceAdd, Nat.reduceMul, Nat.reduceLeDiff, Nat.reduceLT, Int.reduceLE, Int.reduceLT, Int.reduceNeg, Int.reduceToNat, mt, mtL, mtL_self, mt_self, mtZ, and_self, eq_self, or_true, true_or]) (by simp only [go_sem, rowV_eq, rowV_eq0, List.length_replicate, rep_len, Int.toNat_natCast, ↓reduceIte, Nat.reduceEqDiff, Nat.reduceAdd, Int.reduceAdd, Nat.reduceMul, Nat.reduceLeDiff, Nat.reduceLT, Int.reduceLE, Int.reduceLT, Int.reduceNeg, Int.reduceToNat, mt, mtL, mtL_self, mt_self, mtZ, and_self, eq_self, or_true, true_or]) (fun hw13 => ?_)
        replace hw13 := nzQ hw13
        refine spQ ?_
        have hq14 := num_le hx12
        replace hq14 := nzQ hq14
        have hM0 := hM; clear hM; obtain ⟨f15, d15, hf15, hd15, hM⟩ := iter_opn hM0; clear hM0
        refine ct_loop (fun n S => ∃ p : Int × List Int, S = (⟨[(0, .own 0), (44, .sl none 4 true (i_.L.map e_api_Item)), (45, .int .i64 (i_.L.length : Int)), (46, .int .i64 p.1)], [(0, .own 5 1 false none (p.2.map (V.int .u8)))], 3⟩ : St) ∧ ((0 ≤ p.1) ∧ (p.1 ≤ (i_.L.length : Int))) ∧ ((i_.L.length : Int) - p.1).toNat < n ∧ iter n f15 d15 p = r) (((i_.L.length : Int) - 0).toNat + 1) (⟨[(0, .own 0), (44, .sl none 4 true (i_.L.map e_api_Item)), (45, .int .i64 (i_.L.length : Int)), (46, .int .i64 0)], [(0, .own 5 1 false none (x11.map (V.int .u8)))], 3⟩ : St) sbQ sbQ ⟨(0, x11), rfl, ⟨by (first | exact omQ | (clear hM; first | (have h9 := hgt_eq i_; exact omQ'))), by (first | exact omQ | (clear hM; first | (have h9 := hgt_eq i_; exact omQ')))⟩, (Nat.lt_succ_self _), hM⟩ ?_
        clear hM
        rintro n15 S ⟨p15, rfl, hfa15, hm15, hM⟩
        have hM0 := hM; clear hM; obtain ⟨ag15, hag15, hM⟩ := iter_step hM0 (by omega) hf15; clear hM0
        replace hfa15 := nzQ hfa15
        replace hm15 := nzQ hm15
        have ha15 : addI .i64 p15.1 1 = p15.1 + 1 := add_one (by (first | exact omQ | (clear hM; first | (have h9 := hgt_eq i_; exact omQ')))) (by (first | exact omQ | (clear hM; first | (have h9 := hgt_eq i_; exact omQ'))))
        refine spQA ha15 ?_
        refine condC_intro (fun h16 => ?_) (fun h16 => ?_)
        · rw [if_pos h16] at hM
          refine spQA (And.intro ha15 h16) ?_
          have nh16 := nzQ h16
          refine bindC_intro (by (first | exact omQ | (clear hM; first | (have h9 := hgt_eq i_; exact omQ')))) ?_
          have he17 := fun d => elt_mp (l := i_.L) (f := e_api_Item) (i := p15.1) (by (first | exact omQ | (clear hM; first | (have h9 := hgt_eq i_; exact omQ')))) d
          refine spQA (And.intro ha15 he17) ?_
          have hM0 := hM; clear hM; obtain ⟨x18, hx19, hM⟩ := letk_opn hM0; clear hM0
          have hcx18 := ih none (p15.2) (gt i_.L p15.1) (by (have h9 := hgt_L (i := i_) (gt_mem (l := i_.L) (i := p15.1) (by omega)); omega)) (by (have h9 := hgt_L (i := i_) (gt_mem (l := i_.L) (i := p15.1) (by omega)); omega))
          rw [← hx19] at hcx18
          refine callC_in [0] hcx18 (by decide) (by simp only [go_sem, rowV_eq, rowV_eq0, List.length_replicate, rep_len, Int.toNat_natCast, ↓reduceIte, Nat.reduceEqDiff, Nat.reduceAdd, Int.reduceAdd, Nat.reduceMul, Nat.reduceLeDiff, Nat.reduceLT, Int.reduceLE, Int.reduceLT, Int.reduceNeg, Int.reduceToNat, mt, mtL, mtL_self, mt_self, mtZ, and_self, eq_self, or_true, true_or, ha15, he17]) (by simp only [go_sem, rowV_eq, rowV_eq0, List.length_replicate, rep_len, Int.toNat_natCast, ↓reduceIte, Nat.reduceEqDiff, Nat.reduceAdd, Int.reduceAdd, Nat.reduceMul, Nat.reduceLeDiff, Nat.reduceLT, Int.reduceLE, Int.reduceLT, Int.reduceNeg, Int.reduceToNat, mt, mtL, mtL_self, mt_self, mtZ, and_self, eq_self, or_true, true_or, ha15, he17]) (fun hw20 => ?_)
          replace hw20 := nzQ hw20
          refine spQA (And.intro ha15 he17) ?_
          refine lp_intro (n15 - 1) (⟨[(0, .own 0), (44, .sl none 4 true (i_.L.map e_api_Item)), (45, .int .i64 (i_.L.length : Int)), (46, .int .i64 (p15.1 + 1))], [(0, .own 5 1 false none (x18.map (V.int .u8)))], 3⟩ : St) (by omega) sbQ sbQ ⟨((p15.1 + 1), x18), rfl, ⟨by (first | exact omQ | (clear hM; first | (have h9 := hgt_eq i_; exact omQ'))), by (first | exact omQ | (clear hM; first | (have h9 := hgt_eq i_; exact omQ')))⟩, by (first | exact omQ | (clear hM; first | (have h9 := hgt_eq i_; exact omQ'))), iter_again hM hag15⟩
        · rw [if_neg (ne_true h16)] at hM
          refine spQA (And.intro ha15 h16) ?_
          have nh16 := nzQ h16
          subst hM
          exact retCI_in [0] (by simp only [go_sem, rowV_eq, rowV_eq0, List.length_replicate, rep_len, Int.toNat_natCast, ↓reduceIte, Nat.reduceEqDiff, Nat.reduceAdd, Int.reduceAdd, Nat.reduceMul, Nat.reduceLeDiff, Nat.reduceLT, Int.reduceLE, Int.reduceLT, Int.reduceNeg, Int.reduceToNat, mt, mtL, mtL_self, mt_self, mtZ, and_self, eq_self, or_true, true_or, map_st, ha15, gt_cons0, gt_conss, Int.reduceSub, or_self, h1, h2, h7, h16]) (by decide) (by simp only [go_sem, rowV_eq, rowV_eq0, List.length_replicate, rep_len, Int.toNat_natCast, ↓reduceIte, Nat.reduceEqDiff, Nat.reduceAdd, Int.reduceAdd, Nat.reduceMul, Nat.reduceLeDiff, Nat.reduceLT, Int.reduceLE, Int.reduceLT, Int.reduceNeg, Int.reduceToNat, mt, mtL, mtL_self, mt_self, mtZ, and_self, eq_self, or_true, true_or, map_st, ha15, gt_cons0, gt_conss, Int.reduceSub, or_self, h1, h2, h7, h16])
theorem writeM_okN : ∀ (N : Nat) (z0 : Option Bool) (out : (List Int)) (i_ : S_api_Item), (hgt i_ ≤ 500000000) → hgt i_ < N → CallIn En 59 [.own 0, .agg [.int .i64 i_.Kind, .int .i64 i_.N, .sl none 1 false (i_.B.map (V.int .u8)), .sl none 4 true (i_.L.map e_api_Item)]] [.own 5 1 false z0 (out.map (V.int .u8))] (.own 0) [.own 5 1 false none ((writeM out i_).map (V.int .u8))] [] := by
  intro N
  induction N with
  | zero => intro z0 out i_ h0 h; exact absurd h (Nat.not_lt_zero _)
  | succ N ih =>
    intro z0 out i_ h0 h
    have h9 := encode_write_ok N ih z0 out i_ h0 h
    rw [encode_write_eqM] at h9
    exact h9
theorem writeM_ok (z0 : Option Bool) (out : (List Int)) (i_ : S_api_Item) (hp0 : hgt i_ ≤ 500000000) : CallIn En 59 [.own 0, .agg [.int .i64 i_.Kind, .int .i64 i_.N, .sl none 1 false (i_.B.map (V.int .u8)), .sl none 4 true (i_.L.map e_api_Item)]] [.own 5 1 false z0 (out.map (V.int .u8))] (.own 0) [.own 5 1 false none ((writeM out i_).map (V.int .u8))] [] :=
  writeM_okN (hgt i_ + 1) z0 out i_ hp0 (Nat.lt_succ_self _)
set_option maxHeartbeats 2000000 in
set_option maxRecDepth 100000 in
theorem encode_Encode_ok   (i_ : S_api_Item) (hp0 : hgt i_ ≤ 500000000) : CallOk En 26 [.agg [.int .i64 i_.Kind, .int .i64 i_.N, .sl none 1 false (i_.B.map (V.int .u8)), .sl none 4 true (i_.L.map e_api_Item)]] (.tup [.sl none 1 false ((encode_Encode i_).1.map (V.int .u8)), .int .i64 (encode_Encode i_).2]) [] := by
  generalize hM : encode_Encode i_ = r
  rw [encode_Encode.eq_1] at hM
  refine enterV En_ok En_mo noJ Try.func26 rfl Try.ntmps26 (by kernel_rfl) fun hw => ct_start ?_
  refine spQ ?_
  replace hw := nzQ hw
  have hM0 := hM; clear hM; obtain ⟨x1, hx2, hM⟩ := letk_opn hM0; clear hM0
  have hcx1 := encode_Valid_ok  i_ 
  rw [← hx2] at hcx1
  refine callC_give hcx1 clQ clQ (fun hw3 => ?_)
  replace hw3 := nzQ hw3
  refine spQ ?_
  refine condC_intro (fun h4 => ?_) (fun h4 => ?_)
  · rw [if_pos h4] at hM
    refine spQA h4 ?_
    have nh4 := nzQ h4
    subst hM
    exact retC_view (lfQA h4)
  · rw [if_neg (ne_true h4)] at hM
    refine spQA h4 ?_
    have nh4 := nzQ h4
    have hM0 := hM; clear hM; obtain ⟨x5, hx6, hM⟩ := letk_opn hM0; clear hM0
    have hcx5 := callIn_nil (pre := []) (post := [_]) (writeM_ok (some true) ([] : List Int) i_ (by (simp only [decide_eq_true_eq, decide_eq_false_iff_not, Bool.and_eq_true, Bool.or_eq_true, Bool.not_eq_true', Bool.not_eq_false', beq_iff_eq, bne_iff_ne, beq_eq_false_iff_ne, bne_eq_false_iff_eq, ne_eq, Int.not_lt, Int.not_le, gt_iff_lt, ge_iff_le, List.length_map, wfL, wfV, and_true, true_and, LEN_eq, rng_i64, rng_u64, rng_u32, rng_i32, sl_len, st_len, List.length_append, List.length_cons, List.length_nil, List.length_replicate, rep_len, rowV_len, spl_len, cutN_len, arrN_len, nat8_len, remI_nn] at *; omega))) (by decide)
    rw [← hx6] at hcx5
    simp only [List.nil_append, List.cons_append] at hcx5
    refine callC_giveG hcx5 clQ (fun hw7 => ?_)
    replace hw7 := nzQ hw7
    refine spQ ?_
    refine condC_intro (fun h8 => ?_) (fun h8 => ?_)
    · rw [if_pos h8] at hM
      refine spQA h8 ?_
      have nh8 := nzQ h8
      subst hM
      exact retC_view (lfQA (And.intro h4 h8))
    · rw [if_neg (ne_true h8)] at hM
      refine spQA h8 ?_
      have nh8 := nzQ h8
      subst hM
      exact retC_view (lfQA (And.intro h4 h8))
set_option maxHeartbeats 2000000 in
set_option maxRecDepth 100000 in
theorem payment_Invoice_ok   (v : S_api_Invoice)  : CallOk En 18 [(e_api_Invoice v)] (.tup [.sl none 1 false ((payment_Invoice v).1.map (V.int .u8)), .int .i64 (payment_Invoice v).2]) [] := by
  generalize hM : payment_Invoice v = r
  rw [payment_Invoice.eq_1] at hM
  refine enterV En_ok En_mo [3] Try.func18 rfl Try.ntmps18 (by kernel_rfl) fun hw => ct_start ?_
  refine spQ ?_
  replace hw := nzQ hw
  refine seqC_pass ?_
  refine spQ ?_
  have hM0 := hM; clear hM; obtain ⟨x1, hx2, hM⟩ := letk_opn hM0; clear hM0
  have hcx1 := payment_valid_ok  v 
  rw [← hx2] at hcx1
  refine callC_give hcx1 clQ clQ (fun hw3 => ?_)
  replace hw3 := nzQ hw3
  refine spQ ?_
  refine condC_intro (fun h4 => ?_) (fun h4 => ?_)
  · rw [if_pos h4] at hM
    refine spQA h4 ?_
    have nh4 := nzQ h4
    subst hM
    exact retC_view (lfQA h4)
  · rw [if_neg (ne_true h4)] at hM
    refine spQA h4 ?_
    have nh4 := nzQ h4
    refine cut_weakW _ (⟨[(1, .ptr 0 0)], [(0, .pvar 35 true ((e_api_Invoice v)))], 1⟩ : St) (weak_pubv (S := ⟨_, _, _⟩) 0 (n := 35) (g := true) (d := (e_api_Invoice v)) clQ clQ) sbQ sbQ ?_
    try refine spQ ?_
    refine ct_draw 24 17 [7, 8, 9, 10, 11, 12, 13, 14, 15, 16, 17, 18, 19, 20, 21, 22, 23] [] ([[], [0], [0, 1], [], [3], [3, 4], [], [6], [6, 7], [], [9], [9, 10], [0, 1, 2, 3, 4, 5, 6, 7, 8, 9, 10, 11], [0, 1, 2, 3, 4, 5, 6, 7, 8, 9, 10, 11, 12], [0, 1, 2, 3, 4, 5, 6, 7, 8, 9, 10, 11, 12, 13], [0, 1, 2, 3, 4, 5, 6, 7, 8, 9, 10, 11, 12, 13, 14], [0, 1, 2, 3, 4, 5, 6, 7, 8, 9, 10, 11, 12, 13, 14]] ++ [List.range 17, List.range 18]) [(12, 13)] (by kernel_rfl) (by exact alQ) ?_
    refine spQ ?_
    have hM0 := hM; clear hM; obtain ⟨x5, hx6, hM⟩ := letk_opn hM0; clear hM0
    have hcx5 := payment_integer_ok  (v.Amount) 
    rw [← hx6] at hcx5
    refine hcallC_give hcx5 clQ clQ ?_
    refine spQ ?_
    have hq7 := hgt_int hx6
    replace hq7 := nzQ hq7
    have hM0 := hM; clear hM; obtain ⟨x8, hx9, hM⟩ := letk_opn hM0; clear hM0
    have hcx8 := payment_integer_ok  (v.Time) 
    rw [← hx9] at hcx8
    refine hcallC_give hcx8 clQ clQ ?_
    refine spQ ?_
    have hq10 := hgt_int hx9
    replace hq10 := nzQ hq10
    have hM0 := hM; clear hM; obtain ⟨x11, hx12, hM⟩ := letk_opn hM0; clear hM0
    have hcx11 := payment_integer_ok  (v.Number) 
    rw [← hx12] at hcx11
    refine hcallC_give hcx11 clQ clQ ?_
    refine spQ ?_
    have hq13 := hgt_int hx12
    replace hq13 := nzQ hq13
    have hM0 := hM; clear hM; obtain ⟨x14, hx15, hM⟩ := letk_opn hM0; clear hM0
    have hcx14 := encode_Encode_ok  ({ Kind := 3, N := 0, B := ([] : List Int), L := ([({ Kind := 2, N := 0, B := (arrN 32 v.Payee), L := ([] : List S_api_Item) } : S_api_Item), x5, x8, x11] : List S_api_Item) } : S_api_Item) (by (simp only [hgt, hgtL, arrN_len, List.length_nil]; omega))
    rw [← hx15] at hcx14
    refine hcallC_give hcx14 clQ clQ ?_
    refine spQ ?_
    subst hM
    exact retC_view (lfQA h4)
set_option maxHeartbeats 2000000 in
set_option maxRecDepth 100000 in
theorem encode_reader_fail_ok   (r_ : S_encode_reader) (e_ : Int)  : CallIn En 65 [.ptr 0 0, .int .i64 e_] [.var 2 true (.agg [.sl none 1 false (r_.b.map (V.int .u8)), .int .i64 r_.e])] (.tup []) [.var 2 true (.agg [.sl none 1 false ((encode_reader_fail r_ e_).b.map (V.int .u8)), .int .i64 (encode_reader_fail r_ e_).e])] [] := by
  generalize hM : encode_reader_fail r_ e_ = r
  rw [encode_reader_fail.eq_1] at hM
  refine enterI En_ok En_mo noJ Try.func65 rfl Try.ntmps65 (by kernel_rfl) rfl fun ks hw hwB => ct_start ?_
  refine spQ ?_
  replace hw := nzQ hw
  try simp only [wfBs, wfB, decide_eq_true_eq, decide_eq_false_iff_not, Bool.and_eq_true, Bool.or_eq_true, Bool.not_eq_true', Bool.not_eq_false', beq_iff_eq, bne_iff_ne, beq_eq_false_iff_ne, bne_eq_false_iff_eq, ne_eq, Int.not_lt, Int.not_le, gt_iff_lt, ge_iff_le, List.length_map, wfL, wfV, and_true, true_and, LEN_eq, rng_i64, rng_u64, rng_u32, rng_i32, sl_len, st_len, List.length_append, List.length_cons, List.length_nil, List.length_replicate, rep_len, rowV_len, spl_len, cutN_len, arrN_len, nat8_len, remI_nn] at hwB
  refine condC_intro (fun h1 => ?_) (fun h1 => ?_)
  · rw [if_pos h1] at hM
    refine spQA h1 ?_
    have nh1 := nzQ h1
    subst hM
    exact retCI_in [0] (by simp only [go_sem, rowV_eq, rowV_eq0, List.length_replicate, rep_len, Int.toNat_natCast, ↓reduceIte, Nat.reduceEqDiff, Nat.reduceAdd, Int.reduceAdd, Nat.reduceMul, Nat.reduceLeDiff, Nat.reduceLT, Int.reduceLE, Int.reduceLT, Int.reduceNeg, Int.reduceToNat, mt, mtL, mtL_self, mt_self, mtZ, and_self, eq_self, or_true, true_or, map_st, gt_cons0, gt_conss, Int.reduceSub, or_self, h1]) (by decide) (by simp only [go_sem, rowV_eq, rowV_eq0, List.length_replicate, rep_len, Int.toNat_natCast, ↓reduceIte, Nat.reduceEqDiff, Nat.reduceAdd, Int.reduceAdd, Nat.reduceMul, Nat.reduceLeDiff, Nat.reduceLT, Int.reduceLE, Int.reduceLT, Int.reduceNeg, Int.reduceToNat, mt, mtL, mtL_self, mt_self, mtZ, and_self, eq_self, or_true, true_or, map_st, gt_cons0, gt_conss, Int.reduceSub, or_self, h1])
  · rw [if_neg (ne_true h1)] at hM
    refine spQA h1 ?_
    have nh1 := nzQ h1
    subst hM
    exact retCI_in [0] (by simp only [go_sem, rowV_eq, rowV_eq0, List.length_replicate, rep_len, Int.toNat_natCast, ↓reduceIte, Nat.reduceEqDiff, Nat.reduceAdd, Int.reduceAdd, Nat.reduceMul, Nat.reduceLeDiff, Nat.reduceLT, Int.reduceLE, Int.reduceLT, Int.reduceNeg, Int.reduceToNat, mt, mtL, mtL_self, mt_self, mtZ, and_self, eq_self, or_true, true_or, map_st, gt_cons0, gt_conss, Int.reduceSub, or_self, h1]) (by decide) (by simp only [go_sem, rowV_eq, rowV_eq0, List.length_replicate, rep_len, Int.toNat_natCast, ↓reduceIte, Nat.reduceEqDiff, Nat.reduceAdd, Int.reduceAdd, Nat.reduceMul, Nat.reduceLeDiff, Nat.reduceLT, Int.reduceLE, Int.reduceLT, Int.reduceNeg, Int.reduceToNat, mt, mtL, mtL_self, mt_self, mtZ, and_self, eq_self, or_true, true_or, map_st, gt_cons0, gt_conss, Int.reduceSub, or_self, h1])
set_option maxHeartbeats 2000000 in
set_option maxRecDepth 100000 in
theorem encode_reader_take_ok   (r_ : S_encode_reader) (n_ : Int) (hp0 : 0 ≤ n_) : CallIn En 88 [.ptr 0 0, .int .i64 n_] [.var 2 true (.agg [.sl none 1 false (r_.b.map (V.int .u8)), .int .i64 r_.e])] (.sl none 1 false ((encode_reader_take r_ n_).1.map (V.int .u8))) [.var 2 true (.agg [.sl none 1 false ((encode_reader_take r_ n_).2.b.map (V.int .u8)), .int .i64 (encode_reader_take r_ n_).2.e])] [] := by
  generalize hM : encode_reader_take r_ n_ = r
  rw [encode_reader_take.eq_1] at hM
  refine enterI En_ok En_mo noJ Try.func88 rfl Try.ntmps88 (by kernel_rfl) rfl fun ks hw hwB => ct_start ?_
  refine spQ ?_
  replace hw := nzQ hw
  try simp only [wfBs, wfB, decide_eq_true_eq, decide_eq_false_iff_not, Bool.and_eq_true, Bool.or_eq_true, Bool.not_eq_true', Bool.not_eq_false', beq_iff_eq, bne_iff_ne, beq_eq_false_iff_ne, bne_eq_false_iff_eq, ne_eq, Int.not_lt, Int.not_le, gt_iff_lt, ge_iff_le, List.length_map, wfL, wfV, and_true, true_and, LEN_eq, rng_i64, rng_u64, rng_u32, rng_i32, sl_len, st_len, List.length_append, List.length_cons, List.length_nil, List.length_replicate, rep_len, rowV_len, spl_len, cutN_len, arrN_len, nat8_len, remI_nn] at hwB
  refine guardC_f (fun h1 => ?_) (fun h1 => ?_)
  · rw [if_neg (ne_true h1)] at hM
    refine spQA h1 ?_
    have nh1 := nzQ h1
    refine condC_intro (fun h2 => ?_) (fun h2 => ?_)
    · rw [if_pos h2] at hM
      refine spQA h2 ?_
      have nh2 := nzQ h2
      have hM0 := hM; clear hM; obtain ⟨x3, hx4, hM⟩ := letk_opn hM0; clear hM0
      have hcx3 := encode_reader_fail_ok  r_ 4 
      rw [← hx4] at hcx3
      refine callC_in [0] hcx3 (by decide) (by simp only [go_sem, rowV_eq, rowV_eq0, List.length_replicate, rep_len, Int.toNat_natCast, ↓reduceIte, Nat.reduceEqDiff, Nat.reduceAdd, Int.reduceAdd, Nat.reduceMul, Nat.reduceLeDiff, Nat.reduceLT, Int.reduceLE, Int.reduceLT, Int.reduceNeg, Int.reduceToNat, mt, mtL, mtL_self, mt_self, mtZ, and_self, eq_self, or_true, true_or]) (by simp only [go_sem, rowV_eq, rowV_eq0, List.length_replicate, rep_len, Int.toNat_natCast, ↓reduceIte, Nat.reduceEqDiff, Nat.reduceAdd, Int.reduceAdd, Nat.reduceMul, Nat.reduceLeDiff, Nat.reduceLT, Int.reduceLE, Int.reduceLT, Int.reduceNeg, Int.reduceToNat, mt, mtL, mtL_self, mt_self, mtZ, and_self, eq_self, or_true, true_or]) (fun hw5 => ?_)
      replace hw5 := nzQ hw5
      refine spQ ?_
      subst hM
      exact retCI_in [0] (by simp only [go_sem, rowV_eq, rowV_eq0, List.length_replicate, rep_len, Int.toNat_natCast, ↓reduceIte, Nat.reduceEqDiff, Nat.reduceAdd, Int.reduceAdd, Nat.reduceMul, Nat.reduceLeDiff, Nat.reduceLT, Int.reduceLE, Int.reduceLT, Int.reduceNeg, Int.reduceToNat, mt, mtL, mtL_self, mt_self, mtZ, and_self, eq_self, or_true, true_or, map_st, gt_cons0, gt_conss, Int.reduceSub, or_self, h1, h2]) (by decide) (by simp only [go_sem, rowV_eq, rowV_eq0, List.length_replicate, rep_len, Int.toNat_natCast, ↓reduceIte, Nat.reduceEqDiff, Nat.reduceAdd, Int.reduceAdd, Nat.reduceMul, Nat.reduceLeDiff, Nat.reduceLT, Int.reduceLE, Int.reduceLT, Int.reduceNeg, Int.reduceToNat, mt, mtL, mtL_self, mt_self, mtZ, and_self, eq_self, or_true, true_or, map_st, gt_cons0, gt_conss, Int.reduceSub, or_self, h1, h2])
    · rw [if_neg (ne_true h2)] at hM
      refine spQA h2 ?_
      have nh2 := nzQ h2
      refine bindC_intro omQ ?_
      refine spQ ?_
      refine bindC_intro omQ ?_
      refine spQ ?_
      subst hM
      exact retCI_in [0] (by simp only [go_sem, rowV_eq, rowV_eq0, List.length_replicate, rep_len, Int.toNat_natCast, ↓reduceIte, Nat.reduceEqDiff, Nat.reduceAdd, Int.reduceAdd, Nat.reduceMul, Nat.reduceLeDiff, Nat.reduceLT, Int.reduceLE, Int.reduceLT, Int.reduceNeg, Int.reduceToNat, mt, mtL, mtL_self, mt_self, mtZ, and_self, eq_self, or_true, true_or, map_st, gt_cons0, gt_conss, Int.reduceSub, or_self, h1, h2]) (by decide) (by simp only [go_sem, rowV_eq, rowV_eq0, List.length_replicate, rep_len, Int.toNat_natCast, ↓reduceIte, Nat.reduceEqDiff, Nat.reduceAdd, Int.reduceAdd, Nat.reduceMul, Nat.reduceLeDiff, Nat.reduceLT, Int.reduceLE, Int.reduceLT, Int.reduceNeg, Int.reduceToNat, mt, mtL, mtL_self, mt_self, mtZ, and_self, eq_self, or_true, true_or, map_st, gt_cons0, gt_conss, Int.reduceSub, or_self, h1, h2])
  · rw [if_pos h1] at hM
    refine spQA h1 ?_
    have nh1 := nzQ h1
    have hM0 := hM; clear hM; obtain ⟨x6, hx7, hM⟩ := letk_opn hM0; clear hM0
    have hcx6 := encode_reader_fail_ok  r_ 4 
    rw [← hx7] at hcx6
    refine callC_in [0] hcx6 (by decide) (by simp only [go_sem, rowV_eq, rowV_eq0, List.length_replicate, rep_len, Int.toNat_natCast, ↓reduceIte, Nat.reduceEqDiff, Nat.reduceAdd, Int.reduceAdd, Nat.reduceMul, Nat.reduceLeDiff, Nat.reduceLT, Int.reduceLE, Int.reduceLT, Int.reduceNeg, Int.reduceToNat, mt, mtL, mtL_self, mt_self, mtZ, and_self, eq_self, or_true, true_or]) (by simp only [go_sem, rowV_eq, rowV_eq0, List.length_replicate, rep_len, Int.toNat_natCast, ↓reduceIte, Nat.reduceEqDiff, Nat.reduceAdd, Int.reduceAdd, Nat.reduceMul, Nat.reduceLeDiff, Nat.reduceLT, Int.reduceLE, Int.reduceLT, Int.reduceNeg, Int.reduceToNat, mt, mtL, mtL_self, mt_self, mtZ, and_self, eq_self, or_true, true_or]) (fun hw8 => ?_)
    replace hw8 := nzQ hw8
    refine spQ ?_
    subst hM
    exact retCI_in [0] (by simp only [go_sem, rowV_eq, rowV_eq0, List.length_replicate, rep_len, Int.toNat_natCast, ↓reduceIte, Nat.reduceEqDiff, Nat.reduceAdd, Int.reduceAdd, Nat.reduceMul, Nat.reduceLeDiff, Nat.reduceLT, Int.reduceLE, Int.reduceLT, Int.reduceNeg, Int.reduceToNat, mt, mtL, mtL_self, mt_self, mtZ, and_self, eq_self, or_true, true_or, map_st, gt_cons0, gt_conss, Int.reduceSub, or_self, h1]) (by decide) (by simp only [go_sem, rowV_eq, rowV_eq0, List.length_replicate, rep_len, Int.toNat_natCast, ↓reduceIte, Nat.reduceEqDiff, Nat.reduceAdd, Int.reduceAdd, Nat.reduceMul, Nat.reduceLeDiff, Nat.reduceLT, Int.reduceLE, Int.reduceLT, Int.reduceNeg, Int.reduceToNat, mt, mtL, mtL_self, mt_self, mtZ, and_self, eq_self, or_true, true_or, map_st, gt_cons0, gt_conss, Int.reduceSub, or_self, h1])
set_option maxHeartbeats 2000000 in
set_option maxRecDepth 100000 in
theorem encode_reader_number_ok   (r_ : S_encode_reader) (size : Int) (hp0 : 0 ≤ size) : CallIn En 86 [.ptr 0 0, .int .i64 size] [.var 2 true (.agg [.sl none 1 false (r_.b.map (V.int .u8)), .int .i64 r_.e])] (.int .u64 (encode_reader_number r_ size).1) [.var 2 true (.agg [.sl none 1 false ((encode_reader_number r_ size).2.b.map (V.int .u8)), .int .i64 (encode_reader_number r_ size).2.e])] [] := by
  generalize hM : encode_reader_number r_ size = r
  rw [encode_reader_number.eq_1] at hM
  refine enterI En_ok En_mo noJ Try.func86 rfl Try.ntmps86 (by kernel_rfl) rfl fun ks hw hwB => ct_start ?_
  refine spQ ?_
  replace hw := nzQ hw
  try simp only [wfBs, wfB, decide_eq_true_eq, decide_eq_false_iff_not, Bool.and_eq_true, Bool.or_eq_true, Bool.not_eq_true', Bool.not_eq_false', beq_iff_eq, bne_iff_ne, beq_eq_false_iff_ne, bne_eq_false_iff_eq, ne_eq, Int.not_lt, Int.not_le, gt_iff_lt, ge_iff_le, List.length_map, wfL, wfV, and_true, true_and, LEN_eq, rng_i64, rng_u64, rng_u32, rng_i32, sl_len, st_len, List.length_append, List.length_cons, List.length_nil, List.length_replicate, rep_len, rowV_len, spl_len, cutN_len, arrN_len, nat8_len, remI_nn] at hwB
  have hM0 := hM; clear hM; obtain ⟨x1, hx2, hM⟩ := letk_opn hM0; clear hM0
  have hcx1 := encode_reader_take_ok  r_ size (by (simp only [decide_eq_true_eq, decide_eq_false_iff_not, Bool.and_eq_true, Bool.or_eq_true, Bool.not_eq_true', Bool.not_eq_false', beq_iff_eq, bne_iff_ne, beq_eq_false_iff_ne, bne_eq_false_iff_eq, ne_eq, Int.not_lt, Int.not_le, gt_iff_lt, ge_iff_le, List.length_map, wfL, wfV, and_true, true_and, LEN_eq, rng_i64, rng_u64, rng_u32, rng_i32, sl_len, st_len, List.length_append, List.length_cons, List.length_nil, List.length_replicate, rep_len, rowV_len, spl_len, cutN_len, arrN_len, nat8_len, remI_nn] at *; omega))
  rw [← hx2] at hcx1
  refine callC_in [0] hcx1 (by decide) (by simp only [go_sem, rowV_eq, rowV_eq0, List.length_replicate, rep_len, Int.toNat_natCast, ↓reduceIte, Nat.reduceEqDiff, Nat.reduceAdd, Int.reduceAdd, Nat.reduceMul, Nat.reduceLeDiff, Nat.reduceLT, Int.reduceLE, Int.reduceLT, Int.reduceNeg, Int.reduceToNat, mt, mtL, mtL_self, mt_self, mtZ, and_self, eq_self, or_true, true_or]) (by simp only [go_sem, rowV_eq, rowV_eq0, List.length_replicate, rep_len, Int.toNat_natCast, ↓reduceIte, Nat.reduceEqDiff, Nat.reduceAdd, Int.reduceAdd, Nat.reduceMul, Nat.reduceLeDiff, Nat.reduceLT, Int.reduceLE, Int.reduceLT, Int.reduceNeg, Int.reduceToNat, mt, mtL, mtL_self, mt_self, mtZ, and_self, eq_self, or_true, true_or]) (fun hw3 => ?_)
  replace hw3 := nzQ hw3
  refine spQ ?_
  have hM0 := hM; clear hM; obtain ⟨f4, d4, hf4, hd4, hM⟩ := iter_opn hM0; clear hM0
  refine ct_loop (fun n S => ∃ p : Int × Int, S = (⟨[(0, .ptr 0 0), (5, .int .u64 p.1), (10, .sl none 1 false (x1.1.map (V.int .u8))), (11, .int .i64 (x1.1.length : Int)), (12, .int .i64 p.2)], [(0, .lent (ks 0) 2 true (.agg [.sl none 1 false (x1.2.b.map (V.int .u8)), .int .i64 x1.2.e]))], 1⟩ : St) ∧ ((0 ≤ p.2) ∧ (p.2 ≤ (x1.1.length : Int))) ∧ ((x1.1.length : Int) - p.2).toNat < n ∧ iter n f4 d4 p = r) (((x1.1.length : Int) - 0).toNat + 1) (⟨[(0, .ptr 0 0), (5, .int .u64 0), (10, .sl none 1 false (x1.1.map (V.int .u8))), (11, .int .i64 (x1.1.length : Int)), (12, .int .i64 0)], [(0, .lent (ks 0) 2 true (.agg [.sl none 1 false (x1.2.b.map (V.int .u8)), .int .i64 x1.2.e]))], 1⟩ : St) sbQ sbQ ⟨(0, 0), rfl, ⟨omQ, omQ⟩, (Nat.lt_succ_self _), hM⟩ ?_
  clear hM
  rintro n4 S ⟨p4, rfl, hfa4, hm4, hM⟩
  have hM0 := hM; clear hM; obtain ⟨ag4, hag4, hM⟩ := iter_step hM0 (by omega) hf4; clear hM0
  replace hfa4 := nzQ hfa4
  replace hm4 := nzQ hm4
  have ha4 : addI .i64 p4.2 1 = p4.2 + 1 := add_one omQ omQ
  refine spQA ha4 ?_
  refine condC_intro (fun h5 => ?_) (fun h5 => ?_)
  · rw [if_pos h5] at hM
    refine spQA (And.intro ha4 h5) ?_
    have nh5 := nzQ h5
    refine bindC_intro omQ ?_
    have he6 := fun d => elt_mp (l := x1.1) (f := (V.int .u8)) (i := p4.2) omQ d
    refine spQA (And.intro ha4 he6) ?_
    refine lp_intro (n4 - 1) (⟨[(0, .ptr 0 0), (5, .int .u64 (orI .u64 (shlI .u64 p4.1 8) (convI .u64 (gt x1.1 p4.2)))), (10, .sl none 1 false (x1.1.map (V.int .u8))), (11, .int .i64 (x1.1.length : Int)), (12, .int .i64 (p4.2 + 1))], [(0, .lent (ks 0) 2 true (.agg [.sl none 1 false (x1.2.b.map (V.int .u8)), .int .i64 x1.2.e]))], 1⟩ : St) (by omega) sbQ sbQ ⟨((orI .u64 (shlI .u64 p4.1 8) (convI .u64 (gt x1.1 p4.2))), (p4.2 + 1)), rfl, ⟨omQ, omQ⟩, omQ, iter_again hM hag4⟩
  · rw [if_neg (ne_true h5)] at hM
    refine spQA (And.intro ha4 h5) ?_
    have nh5 := nzQ h5
    subst hM
    exact retCI_in [0] (by simp only [go_sem, rowV_eq, rowV_eq0, List.length_replicate, rep_len, Int.toNat_natCast, ↓reduceIte, Nat.reduceEqDiff, Nat.reduceAdd, Int.reduceAdd, Nat.reduceMul, Nat.reduceLeDiff, Nat.reduceLT, Int.reduceLE, Int.reduceLT, Int.reduceNeg, Int.reduceToNat, mt, mtL, mtL_self, mt_self, mtZ, and_self, eq_self, or_true, true_or, map_st, ha4, gt_cons0, gt_conss, Int.reduceSub, or_self, h5]) (by decide) (by simp only [go_sem, rowV_eq, rowV_eq0, List.length_replicate, rep_len, Int.toNat_natCast, ↓reduceIte, Nat.reduceEqDiff, Nat.reduceAdd, Int.reduceAdd, Nat.reduceMul, Nat.reduceLeDiff, Nat.reduceLT, Int.reduceLE, Int.reduceLT, Int.reduceNeg, Int.reduceToNat, mt, mtL, mtL_self, mt_self, mtZ, and_self, eq_self, or_true, true_or, map_st, ha4, gt_cons0, gt_conss, Int.reduceSub, or_self, h5])
set_option maxRecDepth 100000 in
theorem bytes_Clone_ok (z0 : Option Bool) (s : List Int) : CallOk En 87 [.sl z0 1 false (s.map (V.int .u8))] (.own 0) [.own 5 1 false none ((bytes_Clone s).map (V.int .u8))] := by
  show CallOk En 87 [.sl z0 1 false (s.map (V.int .u8))] (.own 0) [.own 5 1 false none (s.map (V.int .u8))]
  refine callOk_nil (pre := []) (post := []) (fun hl => ?_) ?_ z0
  · have hl : s = [] := by cases s with | nil => rfl | cons a s => cases hl
    subst hl
    refine enterV En_ok En_mo noJ Try.func87 rfl Try.ntmps87 (by kernel_rfl) fun hw => ct_start ?_
    simp only [go_sem, rowV_eq, rowV_eq0, List.length_replicate, rep_len, Int.toNat_natCast, ↓reduceIte, Nat.reduceEqDiff, Nat.reduceAdd, Int.reduceAdd, Nat.reduceMul, Nat.reduceLeDiff, Nat.reduceLT, Int.reduceLE, Int.reduceLT, Int.reduceNeg, Int.reduceToNat, List.nil_append]
    exact retC_nil (by decide)
  · refine enterV En_ok En_mo noJ Try.func87 rfl Try.ntmps87 (by kernel_rfl) fun hw => ct_start ?_
    simp only [go_sem, rowV_eq, rowV_eq0, List.length_replicate, rep_len, Int.toNat_natCast, ↓reduceIte, Nat.reduceEqDiff, Nat.reduceAdd, Int.reduceAdd, Nat.reduceMul, Nat.reduceLeDiff, Nat.reduceLT, Int.reduceLE, Int.reduceLT, Int.reduceNeg, Int.reduceToNat, List.nil_append]
    have hn : s.length ≤ 1073741824 := by have h := hw; simp only [wfL, wfV, List.nil_append, LEN_eq, List.length_map] at h; exact h.1.1
    refine bindC_intro (by first | omega | (simp only [List.length_map, List.length_nil, List.nil_append]; omega)) ?_
    refine spQ ?_
    refine retC_ownZ 0 rfl clQ
set_option maxHeartbeats 2000000 in
set_option maxRecDepth 100000 in
theorem encode_reader_item_ok (N : Nat) (ih : ∀  (r_ : S_encode_reader) (depth : Int), (0 ≤ depth) → (isB r_.b) → depth.toNat < N → CallIn En 64 [.ptr 0 0, .int .i64 depth] [.var 2 true (.agg [.sl none 1 false (r_.b.map (V.int .u8)), .int .i64 r_.e])] (.agg [.int .i64 (itemM r_ depth).1.Kind, .int .i64 (itemM r_ depth).1.N, .sl none 1 false ((itemM r_ depth).1.B.map (V.int .u8)), .sl none 4 true ((itemM r_ depth).1.L.map e_api_Item)]) [.var 2 true (.agg [.sl none 1 false ((itemM r_ depth).2.b.map (V.int .u8)), .int .i64 (itemM r_ depth).2.e])] [])  (r_ : S_encode_reader) (depth : Int) (hp0 : 0 ≤ depth) (hp1 : isB r_.b) (hp_ : depth.toNat < N + 1) : CallIn En 64 [.ptr 0 0, .int .i64 depth] [.var 2 true (.agg [.sl none 1 false (r_.b.map (V.int .u8)), .int .i64 r_.e])] (.agg [.int .i64 (encode_reader_item r_ depth).1.Kind, .int .i64 (encode_reader_item r_ depth).1.N, .sl none 1 false ((encode_reader_item r_ depth).1.B.map (V.int .u8)), .sl none 4 true ((encode_reader_item r_ depth).1.L.map e_api_Item)]) [.var 2 true (.agg [.sl none 1 false ((encode_reader_item r_ depth).2.b.map (V.int .u8)), .int .i64 (encode_reader_item r_ depth).2.e])] [] := by
  generalize hM : encode_reader_item r_ depth = r
  rw [encode_reader_item.eq_1] at hM
  refine enterI En_ok En_mo [5, 15] Try.func64 rfl Try.ntmps64 (by kernel_rfl) rfl fun ks hw hwB => ct_start ?_
  refine spQ ?_
  replace hw := nzQ hw
  try simp only [wfBs, wfB, decide_eq_true_eq, decide_eq_false_iff_not, Bool.and_eq_true, Bool.or_eq_true, Bool.not_eq_true', Bool.not_eq_false', beq_iff_eq, bne_iff_ne, beq_eq_false_iff_ne, bne_eq_false_iff_eq, ne_eq, Int.not_lt, Int.not_le, gt_iff_lt, ge_iff_le, List.length_map, wfL, wfV, and_true, true_and, LEN_eq, rng_i64, rng_u64, rng_u32, rng_i32, sl_len, st_len, List.length_append, List.length_cons, List.length_nil, List.length_replicate, rep_len, rowV_len, spl_len, cutN_len, arrN_len, nat8_len, remI_nn] at hwB
  have hM0 := hM; clear hM; obtain ⟨x1, hx2, hM⟩ := letk_opn hM0; clear hM0
  have hcx1 := encode_reader_number_ok  r_ 1 (by (first | assumption | omega))
  rw [← hx2] at hcx1
  refine callC_in [0] hcx1 (by decide) (by simp only [go_sem, rowV_eq, rowV_eq0, List.length_replicate, rep_len, Int.toNat_natCast, ↓reduceIte, Nat.reduceEqDiff, Nat.reduceAdd, Int.reduceAdd, Nat.reduceMul, Nat.reduceLeDiff, Nat.reduceLT, Int.reduceLE, Int.reduceLT, Int.reduceNeg, Int.reduceToNat, mt, mtL, mtL_self, mt_self, mtZ, and_self, eq_self, or_true, true_or]) (by simp only [go_sem, rowV_eq, rowV_eq0, List.length_replicate, rep_len, Int.toNat_natCast, ↓reduceIte, Nat.reduceEqDiff, Nat.reduceAdd, Int.reduceAdd, Nat.reduceMul, Nat.reduceLeDiff, Nat.reduceLT, Int.reduceLE, Int.reduceLT, Int.reduceNeg, Int.reduceToNat, mt, mtL, mtL_self, mt_self, mtZ, and_self, eq_self, or_true, true_or]) (fun hw3 => ?_)
  replace hw3 := nzQ hw3
  refine spQ ?_
  have hq4 := rnum_fact hx2 (by assumption)
  replace hq4 := nzQ hq4
  have hq5 := rnum_isB hx2 (by assumption)
  replace hq5 := nzQ hq5
  have hM0 := hM; clear hM; obtain ⟨j6, hj6, hM⟩ := letj_opn hM0; clear hM0
  refine seqC_intro (fun S => ∃ p : Unit, S = (⟨[(0, .ptr 0 0), (1, .int .i64 depth), (4, .ptr 1 0), (5, .int .i64 (convI .i64 x1.1))], [(0, .lent (ks 0) 2 true (.agg [.sl none 1 false (x1.2.b.map (V.int .u8)), .int .i64 x1.2.e])), (1, .var 4 true (.agg [.int .i64 0, .int .i64 0, .sl (some true) 1 false [], .sl (some true) 4 true []]))], 2⟩ : St) ∧ (((convI .i64 x1.1) ≠ 3 ∨ depth ≠ 0)) ∧ j6 p = r) ?_ (fun hcut6 => ?_)
  · clear hM
    rintro S ⟨p6, rfl, hfa6, hM⟩
    replace hfa6 := nzQ hfa6
    have hM0 := hM; clear hM; have hM := letj_use hM0 hj6; clear hM0
    refine spQ ?_
    refine condC_intro (fun h7 => ?_) (fun h7 => ?_)
    · rw [if_pos h7] at hM
      refine spQA h7 ?_
      have nh7 := nzQ h7
      have hM0 := hM; clear hM; obtain ⟨x8, hx9, hM⟩ := letk_opn hM0; clear hM0
      have hcx8 := encode_reader_number_ok  (x1.2) 8 (by (first | assumption | omega))
      rw [← hx9] at hcx8
      refine callC_in [0] hcx8 (by decide) (by simp only [go_sem, rowV_eq, rowV_eq0, List.length_replicate, rep_len, Int.toNat_natCast, ↓reduceIte, Nat.reduceEqDiff, Nat.reduceAdd, Int.reduceAdd, Nat.reduceMul, Nat.reduceLeDiff, Nat.reduceLT, Int.reduceLE, Int.reduceLT, Int.reduceNeg, Int.reduceToNat, mt, mtL, mtL_self, mt_self, mtZ, and_self, eq_self, or_true, true_or]) (by simp only [go_sem, rowV_eq, rowV_eq0, List.length_replicate, rep_len, Int.toNat_natCast, ↓reduceIte, Nat.reduceEqDiff, Nat.reduceAdd, Int.reduceAdd, Nat.reduceMul, Nat.reduceLeDiff, Nat.reduceLT, Int.reduceLE, Int.reduceLT, Int.reduceNeg, Int.reduceToNat, mt, mtL, mtL_self, mt_self, mtZ, and_self, eq_self, or_true, true_or]) (fun hw10 => ?_)
      replace hw10 := nzQ hw10
      refine spQ ?_
      have hq11 := rnum_fact hx9 (by assumption)
      replace hq11 := nzQ hq11
      have hq12 := rnum_isB hx9 (by assumption)
      replace hq12 := nzQ hq12
      subst hM
      exact retCI_in [0] (by simp only [go_sem, rowV_eq, rowV_eq0, List.length_replicate, rep_len, Int.toNat_natCast, ↓reduceIte, Nat.reduceEqDiff, Nat.reduceAdd, Int.reduceAdd, Nat.reduceMul, Nat.reduceLeDiff, Nat.reduceLT, Int.reduceLE, Int.reduceLT, Int.reduceNeg, Int.reduceToNat, mt, mtL, mtL_self, mt_self, mtZ, and_self, eq_self, or_true, true_or, map_st, gt_cons0, gt_conss, Int.reduceSub, or_self, h7]) (by decide) (by simp only [go_sem, rowV_eq, rowV_eq0, List.length_replicate, rep_len, Int.toNat_natCast, ↓reduceIte, Nat.reduceEqDiff, Nat.reduceAdd, Int.reduceAdd, Nat.reduceMul, Nat.reduceLeDiff, Nat.reduceLT, Int.reduceLE, Int.reduceLT, Int.reduceNeg, Int.reduceToNat, mt, mtL, mtL_self, mt_self, mtZ, and_self, eq_self, or_true, true_or, map_st, gt_cons0, gt_conss, Int.reduceSub, or_self, h7])
    · rw [if_neg (ne_true h7)] at hM
      refine spQA h7 ?_
      have nh7 := nzQ h7
      refine condC_intro (fun h13 => ?_) (fun h13 => ?_)
      · rw [if_pos h13] at hM
        refine spQA h13 ?_
        have nh13 := nzQ h13
        have hM0 := hM; clear hM; obtain ⟨x14, hx15, hM⟩ := letk_opn hM0; clear hM0
        have hcx14 := encode_reader_number_ok  (x1.2) 4 (by (first | assumption | omega))
        rw [← hx15] at hcx14
        refine callC_in [0] hcx14 (by decide) (by simp only [go_sem, rowV_eq, rowV_eq0, List.length_replicate, rep_len, Int.toNat_natCast, ↓reduceIte, Nat.reduceEqDiff, Nat.reduceAdd, Int.reduceAdd, Nat.reduceMul, Nat.reduceLeDiff, Nat.reduceLT, Int.reduceLE, Int.reduceLT, Int.reduceNeg, Int.reduceToNat, mt, mtL, mtL_self, mt_self, mtZ, and_self, eq_self, or_true, true_or]) (by simp only [go_sem, rowV_eq, rowV_eq0, List.length_replicate, rep_len, Int.toNat_natCast, ↓reduceIte, Nat.reduceEqDiff, Nat.reduceAdd, Int.reduceAdd, Nat.reduceMul, Nat.reduceLeDiff, Nat.reduceLT, Int.reduceLE, Int.reduceLT, Int.reduceNeg, Int.reduceToNat, mt, mtL, mtL_self, mt_self, mtZ, and_self, eq_self, or_true, true_or]) (fun hw16 => ?_)
        replace hw16 := nzQ hw16
        refine spQ ?_
        have hq17 := rnum_fact hx15 (by assumption)
        replace hq17 := nzQ hq17
        have hq18 := rnum_isB hx15 (by assumption)
        replace hq18 := nzQ hq18
        have hM0 := hM; clear hM; obtain ⟨x19, hx20, hM⟩ := letk_opn hM0; clear hM0
        have hcx19 := encode_reader_take_ok  (x14.2) (convI .i64 x14.1) (by (first | assumption | omega))
        rw [← hx20] at hcx19
        refine callC_in [0] hcx19 (by decide) (by simp only [go_sem, rowV_eq, rowV_eq0, List.length_replicate, rep_len, Int.toNat_natCast, ↓reduceIte, Nat.reduceEqDiff, Nat.reduceAdd, Int.reduceAdd, Nat.reduceMul, Nat.reduceLeDiff, Nat.reduceLT, Int.reduceLE, Int.reduceLT, Int.reduceNeg, Int.reduceToNat, mt, mtL, mtL_self, mt_self, mtZ, and_self, eq_self, or_true, true_or]) (by simp only [go_sem, rowV_eq, rowV_eq0, List.length_replicate, rep_len, Int.toNat_natCast, ↓reduceIte, Nat.reduceEqDiff, Nat.reduceAdd, Int.reduceAdd, Nat.reduceMul, Nat.reduceLeDiff, Nat.reduceLT, Int.reduceLE, Int.reduceLT, Int.reduceNeg, Int.reduceToNat, mt, mtL, mtL_self, mt_self, mtZ, and_self, eq_self, or_true, true_or]) (fun hw21 => ?_)
        replace hw21 := nzQ hw21
        refine spQ ?_
        have hq22 := take_isB hx20 (by assumption)
        replace hq22 := nzQ hq22
        have hM0 := hM; clear hM; obtain ⟨x23, hx24, hM⟩ := letk_opn hM0; clear hM0
        have hcx23 := bytes_Clone_ok none (x19.1) 
        rw [← hx24] at hcx23
        refine callC_give hcx23 clQ clQ (fun hw25 => ?_)
        replace hw25 := nzQ hw25
        refine spQ ?_
        subst hM
        exact retCI_in [0] (by simp only [go_sem, rowV_eq, rowV_eq0, List.length_replicate, rep_len, Int.toNat_natCast, ↓reduceIte, Nat.reduceEqDiff, Nat.reduceAdd, Int.reduceAdd, Nat.reduceMul, Nat.reduceLeDiff, Nat.reduceLT, Int.reduceLE, Int.reduceLT, Int.reduceNeg, Int.reduceToNat, mt, mtL, mtL_self, mt_self, mtZ, and_self, eq_self, or_true, true_or, map_st, gt_cons0, gt_conss, Int.reduceSub, or_self, h7, h13]) (by decide) (by simp only [go_sem, rowV_eq, rowV_eq0, List.length_replicate, rep_len, Int.toNat_natCast, ↓reduceIte, Nat.reduceEqDiff, Nat.reduceAdd, Int.reduceAdd, Nat.reduceMul, Nat.reduceLeDiff, Nat.reduceLT, Int.reduceLE, Int.reduceLT, Int.reduceNeg, Int.reduceToNat, mt, mtL, mtL_self, mt_self, mtZ, and_self, eq_self, or_true, true_or, map_st, gt_cons0, gt_conss, Int.reduceSub, or_self, h7, h13])
      · rw [if_neg (ne_true h13)] at hM
        refine spQA h13 ?_
        have nh13 := nzQ h13
        refine condC_intro (fun h26 => ?_) (fun h26 => ?_)
        · rw [if_pos h26] at hM
          refine spQA h26 ?_
          have nh26 := nzQ h26
          have hM0 := hM; clear hM; obtain ⟨x27, hx28, hM⟩ := letk_opn hM0; clear hM0
          have hcx27 := encode_reader_number_ok  (x1.2) 4 (by (first | assumption | omega))
          rw [← hx28] at hcx27
          refine callC_in [0] hcx27 (by decide) (by simp only [go_sem, rowV_eq, rowV_eq0, List.length_replicate, rep_len, Int.toNat_natCast, ↓reduceIte, Nat.reduceEqDiff, Nat.reduceAdd, Int.reduceAdd, Nat.reduceMul, Nat.reduceLeDiff, Nat.reduceLT, Int.reduceLE, Int.reduceLT, Int.reduceNeg, Int.reduceToNat, mt, mtL, mtL_self, mt_self, mtZ, and_self, eq_self, or_true, true_or]) (by simp only [go_sem, rowV_eq, rowV_eq0, List.length_replicate, rep_len, Int.toNat_natCast, ↓reduceIte, Nat.reduceEqDiff, Nat.reduceAdd, Int.reduceAdd, Nat.reduceMul, Nat.reduceLeDiff, Nat.reduceLT, Int.reduceLE, Int.reduceLT, Int.reduceNeg, Int.reduceToNat, mt, mtL, mtL_self, mt_self, mtZ, and_self, eq_self, or_true, true_or]) (fun hw29 => ?_)
          replace hw29 := nzQ hw29
          refine spQ ?_
          have hq30 := rnum_fact hx28 (by assumption)
          replace hq30 := nzQ hq30
          have hq31 := rnum_isB hx28 (by assumption)
          replace hq31 := nzQ hq31
          have hM0 := hM; clear hM; obtain ⟨j32, hj32, hM⟩ := letj_opn hM0; clear hM0
          refine seqC_intro (fun S => ∃ p : S_encode_reader, S = (⟨[(0, .ptr 0 0), (1, .int .i64 depth), (4, .ptr 1 0), (6, .ptr 2 0), (7, .int .i64 (convI .i64 x27.1))], [(0, .lent (ks 0) 2 true (.agg [.sl none 1 false (p.b.map (V.int .u8)), .int .i64 p.e])), (1, .var 4 true (.agg [.int .i64 0, .int .i64 0, .sl (some true) 1 false [], .sl (some true) 4 true []])), (2, .var 4 true (.agg [.int .i64 (convI .i64 x1.1), .int .i64 0, .sl (some true) 1 false [], .sl (some true) 4 true []]))], 3⟩ : St) ∧ ((((convI .i64 x27.1) ≤ 1000 ∨ (p).e ≠ 0) ∧ (0 ≤ (convI .i64 x27.1))) ∧ (isB (p).b)) ∧ j32 p = r) ?_ (fun hcut32 => ?_)
          · clear hM
            rintro S ⟨p32, rfl, ⟨hfa32, hF15_0⟩, hM⟩
            replace hfa32 := nzQ hfa32
            have hM0 := hM; clear hM; have hM := letj_use hM0 hj32; clear hM0
            refine spQ ?_
            have hM0 := hM; clear hM; obtain ⟨f33, d33, hf33, hd33, hM⟩ := iter_opn hM0; clear hM0
            refine ct_loopW (fun n S => ∃ p : Int × S_encode_reader × List S_api_Item, S = (⟨[(0, .ptr 0 0), (1, .int .i64 depth), (4, .ptr 1 0), (6, .ptr 2 0), (55, .int .i64 (convI .i64 x27.1)), (56, .int .i64 p.1)], [(0, .lent (ks 0) 2 true (.agg [.sl none 1 false (p.2.1.b.map (V.int .u8)), .int .i64 p.2.1.e])), (1, .var 4 true (.agg [.int .i64 0, .int .i64 0, .sl (some true) 1 false [], .sl (some true) 4 true []])), (2, .var 4 true (.agg [.int .i64 (convI .i64 x1.1), .int .i64 0, .sl (some true) 1 false [], .own 3])), (3, .own 86 4 true none (p.2.2.map e_api_Item))], 4⟩ : St) ∧ (((0 ≤ p.1) ∧ (p.1 ≤ (convI .i64 x27.1)) ∧ ((convI .i64 x27.1) ≤ 1000 ∨ (p.2.1).e ≠ 0) ∧ (((p.2.2).length : Int) ≤ p.1)) ∧ (isB (p.2.1).b)) ∧ ((convI .i64 x27.1) - p.1).toNat < n ∧ iter n f33 d33 p = r) (((convI .i64 x27.1) - 0).toNat + 1) _ (⟨[(0, .ptr 0 0), (1, .int .i64 depth), (4, .ptr 1 0), (6, .ptr 2 0), (55, .int .i64 (convI .i64 x27.1)), (56, .int .i64 0)], [(0, .lent (ks 0) 2 true (.agg [.sl none 1 false (p32.b.map (V.int .u8)), .int .i64 p32.e])), (1, .var 4 true (.agg [.int .i64 0, .int .i64 0, .sl (some true) 1 false [], .sl (some true) 4 true []])), (2, .var 4 true (.agg [.int .i64 (convI .i64 x1.1), .int .i64 0, .sl (some true) 1 false [], .own 3])), (3, .own 86 4 true none (([] : List S_api_Item).map e_api_Item))], 4⟩ : St) (weak_nilV 2 3 86 rfl rfl (by decide)) sbQ sbQ ⟨(0, p32, ([] : List S_api_Item)), rfl, ⟨⟨omQ, omQ, omQ, omQ⟩, by assumption⟩, (Nat.lt_succ_self _), hM⟩ ?_
            clear hM
            rintro n33 S ⟨p33, rfl, ⟨hfa33, hF16_0⟩, hm33, hM⟩
            have hM0 := hM; clear hM; obtain ⟨ag33, hag33, hM⟩ := iter_step hM0 (by omega) hf33; clear hM0
            replace hfa33 := nzQ hfa33
            replace hm33 := nzQ hm33
            have ha33 : addI .i64 p33.1 1 = p33.1 + 1 := add_one omQ omQ
            refine spQA ha33 ?_
            refine condC_intro (fun h34 => ?_) (fun h34 => ?_)
            · rw [if_pos h34] at hM
              refine spQA (And.intro ha33 h34) ?_
              have nh34 := nzQ h34
              refine condC_intro (fun h35 => ?_) (fun h35 => ?_)
              · rw [if_pos h35] at hM
                refine spQA (And.intro ha33 h35) ?_
                have nh35 := nzQ h35
                subst hM
                exact retCI_in [0] (by simp only [go_sem, rowV_eq, rowV_eq0, List.length_replicate, rep_len, Int.toNat_natCast, ↓reduceIte, Nat.reduceEqDiff, Nat.reduceAdd, Int.reduceAdd, Nat.reduceMul, Nat.reduceLeDiff, Nat.reduceLT, Int.reduceLE, Int.reduceLT, Int.reduceNeg, Int.reduceToNat, mt, mtL, mtL_self, mt_self, mtZ, and_self, eq_self, or_true, true_or, map_st, ha33, gt_cons0, gt_conss, Int.reduceSub, or_self, h7, h13, h26, h34, h35]) (by decide) (by simp only [go_sem, rowV_eq, rowV_eq0, List.length_replicate, rep_len, Int.toNat_natCast, ↓reduceIte, Nat.reduceEqDiff, Nat.reduceAdd, Int.reduceAdd, Nat.reduceMul, Nat.reduceLeDiff, Nat.reduceLT, Int.reduceLE, Int.reduceLT, Int.reduceNeg, Int.reduceToNat, mt, mtL, mtL_self, mt_self, mtZ, and_self, eq_self, or_true, true_or, map_st, ha33, gt_cons0, gt_conss, Int.reduceSub, or_self, h7, h13, h26, h34, h35])
              · rw [if_neg (ne_true h35)] at hM
                refine spQA (And.intro ha33 h35) ?_
                have nh35 := nzQ h35
                refine ct_draw 74 7 [63, 64, 65, 66, 67, 68, 69] [] ([[], [0], [], [], [3], [2, 3, 4], [2, 3, 4, 5]] ++ [List.range 7, List.range 8, List.range 9]) [(5, 0)] (by kernel_rfl) (by exact alQ) ?_
                refine spQA ha33 ?_
                have ha36 : subI .i64 depth 1 = (depth - 1) := sub_ok omQ omQ
                try simp only [ha36]
                have hM0 := hM; clear hM; obtain ⟨x37, hx38, hM⟩ := letk_opn hM0; clear hM0
                have hcx37 := ih  (p33.2.1) (depth - 1) (by (first | assumption | omega)) (by (first | assumption | omega)) (by omega)
                rw [← hx38] at hcx37
                refine hcallC_upd 0 hcx37 rfl rfl (by simp only [go_sem, rowV_eq, rowV_eq0, List.length_replicate, rep_len, Int.toNat_natCast, ↓reduceIte, Nat.reduceEqDiff, Nat.reduceAdd, Int.reduceAdd, Nat.reduceMul, Nat.reduceLeDiff, Nat.reduceLT, Int.reduceLE, Int.reduceLT, Int.reduceNeg, Int.reduceToNat, mt, mtL, mtL_self, mt_self, mtZ, and_self, eq_self, or_true, true_or, ha33, ha36]) (by simp only [go_sem, rowV_eq, rowV_eq0, List.length_replicate, rep_len, Int.toNat_natCast, ↓reduceIte, Nat.reduceEqDiff, Nat.reduceAdd, Int.reduceAdd, Nat.reduceMul, Nat.reduceLeDiff, Nat.reduceLT, Int.reduceLE, Int.reduceLT, Int.reduceNeg, Int.reduceToNat, mt, mtL, mtL_self, mt_self, mtZ, and_self, eq_self, or_true, true_or, ha33, ha36]) (by simp only [go_sem, rowV_eq, rowV_eq0, List.length_replicate, rep_len, Int.toNat_natCast, ↓reduceIte, Nat.reduceEqDiff, Nat.reduceAdd, Int.reduceAdd, Nat.reduceMul, Nat.reduceLeDiff, Nat.reduceLT, Int.reduceLE, Int.reduceLT, Int.reduceNeg, Int.reduceToNat, mt, mtL, mtL_self, mt_self, mtZ, and_self, eq_self, or_true, true_or, ha33, ha36]) (by simp only [go_sem, rowV_eq, rowV_eq0, List.length_replicate, rep_len, Int.toNat_natCast, ↓reduceIte, Nat.reduceEqDiff, Nat.reduceAdd, Int.reduceAdd, Nat.reduceMul, Nat.reduceLeDiff, Nat.reduceLT, Int.reduceLE, Int.reduceLT, Int.reduceNeg, Int.reduceToNat, mt, mtL, mtL_self, mt_self, mtZ, and_self, eq_self, or_true, true_or, ha33, ha36]) (by simp only [go_sem, rowV_eq, rowV_eq0, List.length_replicate, rep_len, Int.toNat_natCast, ↓reduceIte, Nat.reduceEqDiff, Nat.reduceAdd, Int.reduceAdd, Nat.reduceMul, Nat.reduceLeDiff, Nat.reduceLT, Int.reduceLE, Int.reduceLT, Int.reduceNeg, Int.reduceToNat, mt, mtL, mtL_self, mt_self, mtZ, and_self, eq_self, or_true, true_or, ha33, ha36]) ?_
                refine spQA (And.intro ha33 ha36) ?_
                have hq39 := item_isB hx38 (by assumption)
                replace hq39 := nzQ hq39
                refine bindC_intro omQ ?_
                refine spQA (And.intro ha33 ha36) ?_
                refine lp_intro (n33 - 1) (⟨[(0, .ptr 0 0), (1, .int .i64 depth), (4, .ptr 1 0), (6, .ptr 2 0), (55, .int .i64 (convI .i64 x27.1)), (56, .int .i64 (p33.1 + 1))], [(0, .lent (ks 0) 2 true (.agg [.sl none 1 false (x37.2.b.map (V.int .u8)), .int .i64 x37.2.e])), (1, .var 4 true (.agg [.int .i64 0, .int .i64 0, .sl (some true) 1 false [], .sl (some true) 4 true []])), (2, .var 4 true (.agg [.int .i64 (convI .i64 x1.1), .int .i64 0, .sl (some true) 1 false [], .own 3])), (3, .own 86 4 true none ((p33.2.2 ++ ([x37.1] : List S_api_Item)).map e_api_Item))], 4⟩ : St) (by omega) sbQ sbQ ⟨((p33.1 + 1), x37.2, (p33.2.2 ++ ([x37.1] : List S_api_Item))), rfl, ⟨⟨omQ, omQ, omQ, omQ⟩, by assumption⟩, omQ, iter_again hM hag33⟩
            · rw [if_neg (ne_true h34)] at hM
              refine spQA (And.intro ha33 h34) ?_
              have nh34 := nzQ h34
              subst hM
              exact retCI_in [0] (by simp only [go_sem, rowV_eq, rowV_eq0, List.length_replicate, rep_len, Int.toNat_natCast, ↓reduceIte, Nat.reduceEqDiff, Nat.reduceAdd, Int.reduceAdd, Nat.reduceMul, Nat.reduceLeDiff, Nat.reduceLT, Int.reduceLE, Int.reduceLT, Int.reduceNeg, Int.reduceToNat, mt, mtL, mtL_self, mt_self, mtZ, and_self, eq_self, or_true, true_or, map_st, ha33, gt_cons0, gt_conss, Int.reduceSub, or_self, h7, h13, h26, h34]) (by decide) (by simp only [go_sem, rowV_eq, rowV_eq0, List.length_replicate, rep_len, Int.toNat_natCast, ↓reduceIte, Nat.reduceEqDiff, Nat.reduceAdd, Int.reduceAdd, Nat.reduceMul, Nat.reduceLeDiff, Nat.reduceLT, Int.reduceLE, Int.reduceLT, Int.reduceNeg, Int.reduceToNat, mt, mtL, mtL_self, mt_self, mtZ, and_self, eq_self, or_true, true_or, map_st, ha33, gt_cons0, gt_conss, Int.reduceSub, or_self, h7, h13, h26, h34])
          · refine spQ ?_
            refine condC_intro (fun h40 => ?_) (fun h40 => ?_)
            · rw [if_pos h40] at hM
              refine spQA h40 ?_
              have nh40 := nzQ h40
              have hM0 := hM; clear hM; obtain ⟨x41, hx42, hM⟩ := letk_opn hM0; clear hM0
              have hcx41 := encode_reader_fail_ok  (x27.2) 3 
              rw [← hx42] at hcx41
              refine callC_in [0] hcx41 (by decide) (by simp only [go_sem, rowV_eq, rowV_eq0, List.length_replicate, rep_len, Int.toNat_natCast, ↓reduceIte, Nat.reduceEqDiff, Nat.reduceAdd, Int.reduceAdd, Nat.reduceMul, Nat.reduceLeDiff, Nat.reduceLT, Int.reduceLE, Int.reduceLT, Int.reduceNeg, Int.reduceToNat, mt, mtL, mtL_self, mt_self, mtZ, and_self, eq_self, or_true, true_or]) (by simp only [go_sem, rowV_eq, rowV_eq0, List.length_replicate, rep_len, Int.toNat_natCast, ↓reduceIte, Nat.reduceEqDiff, Nat.reduceAdd, Int.reduceAdd, Nat.reduceMul, Nat.reduceLeDiff, Nat.reduceLT, Int.reduceLE, Int.reduceLT, Int.reduceNeg, Int.reduceToNat, mt, mtL, mtL_self, mt_self, mtZ, and_self, eq_self, or_true, true_or]) (fun hw43 => ?_)
              replace hw43 := nzQ hw43
              refine spQ ?_
              have hq44 := fail_ne hx42 (by decide)
              replace hq44 := nzQ hq44
              have hq45 := fail_isB hx42 (by assumption)
              replace hq45 := nzQ hq45
              exact cut_intro (⟨[(0, .ptr 0 0), (1, .int .i64 depth), (4, .ptr 1 0), (6, .ptr 2 0), (7, .int .i64 (convI .i64 x27.1))], [(0, .lent (ks 0) 2 true (.agg [.sl none 1 false (x41.b.map (V.int .u8)), .int .i64 x41.e])), (1, .var 4 true (.agg [.int .i64 0, .int .i64 0, .sl (some true) 1 false [], .sl (some true) 4 true []])), (2, .var 4 true (.agg [.int .i64 (convI .i64 x1.1), .int .i64 0, .sl (some true) 1 false [], .sl (some true) 4 true []]))], 3⟩ : St) sbQ sbQ (hcut32 _ ⟨x41, rfl, ⟨⟨omQ, omQ⟩, by assumption⟩, hM⟩)
            · rw [if_neg (ne_true h40)] at hM
              refine spQA h40 ?_
              have nh40 := nzQ h40
              exact cut_intro (⟨[(0, .ptr 0 0), (1, .int .i64 depth), (4, .ptr 1 0), (6, .ptr 2 0), (7, .int .i64 (convI .i64 x27.1))], [(0, .lent (ks 0) 2 true (.agg [.sl none 1 false (x27.2.b.map (V.int .u8)), .int .i64 x27.2.e])), (1, .var 4 true (.agg [.int .i64 0, .int .i64 0, .sl (some true) 1 false [], .sl (some true) 4 true []])), (2, .var 4 true (.agg [.int .i64 (convI .i64 x1.1), .int .i64 0, .sl (some true) 1 false [], .sl (some true) 4 true []]))], 3⟩ : St) sbQ sbQ (hcut32 _ ⟨x27.2, rfl, ⟨⟨omQ, omQ⟩, by assumption⟩, hM⟩)
        · rw [if_neg (ne_true h26)] at hM
          refine spQA h26 ?_
          have nh26 := nzQ h26
          subst hM
          exact retCI_in [0] (by simp only [go_sem, rowV_eq, rowV_eq0, List.length_replicate, rep_len, Int.toNat_natCast, ↓reduceIte, Nat.reduceEqDiff, Nat.reduceAdd, Int.reduceAdd, Nat.reduceMul, Nat.reduceLeDiff, Nat.reduceLT, Int.reduceLE, Int.reduceLT, Int.reduceNeg, Int.reduceToNat, mt, mtL, mtL_self, mt_self, mtZ, and_self, eq_self, or_true, true_or, map_st, gt_cons0, gt_conss, Int.reduceSub, or_self, h7, h13, h26]) (by decide) (by simp only [go_sem, rowV_eq, rowV_eq0, List.length_replicate, rep_len, Int.toNat_natCast, ↓reduceIte, Nat.reduceEqDiff, Nat.reduceAdd, Int.reduceAdd, Nat.reduceMul, Nat.reduceLeDiff, Nat.reduceLT, Int.reduceLE, Int.reduceLT, Int.reduceNeg, Int.reduceToNat, mt, mtL, mtL_self, mt_self, mtZ, and_self, eq_self, or_true, true_or, map_st, gt_cons0, gt_conss, Int.reduceSub, or_self, h7, h13, h26])
  · refine spQ ?_
    refine guardC_f (fun h46 => ?_) (fun h46 => ?_)
    · rw [if_neg (ne_true h46)] at hM
      refine spQA h46 ?_
      have nh46 := nzQ h46
      refine guardC_f (fun h47 => ?_) (fun h47 => ?_)
      · rw [if_neg (ne_true h47)] at hM
        refine spQA h47 ?_
        have nh47 := nzQ h47
        refine guardC_t (fun h48 => ?_) (fun h48 => ?_)
        · rw [if_pos h48] at hM
          refine spQA h48 ?_
          have nh48 := nzQ h48
          refine condC_intro (fun h49 => ?_) (fun h49 => ?_)
          · rw [if_pos h49] at hM
            refine spQA h49 ?_
            have nh49 := nzQ h49
            have hM0 := hM; clear hM; obtain ⟨x50, hx51, hM⟩ := letk_opn hM0; clear hM0
            have hcx50 := encode_reader_fail_ok  (x1.2) 3 
            rw [← hx51] at hcx50
            refine callC_in [0] hcx50 (by decide) (by simp only [go_sem, rowV_eq, rowV_eq0, List.length_replicate, rep_len, Int.toNat_natCast, ↓reduceIte, Nat.reduceEqDiff, Nat.reduceAdd, Int.reduceAdd, Nat.reduceMul, Nat.reduceLeDiff, Nat.reduceLT, Int.reduceLE, Int.reduceLT, Int.reduceNeg, Int.reduceToNat, mt, mtL, mtL_self, mt_self, mtZ, and_self, eq_self, or_true, true_or]) (by simp only [go_sem, rowV_eq, rowV_eq0, List.length_replicate, rep_len, Int.toNat_natCast, ↓reduceIte, Nat.reduceEqDiff, Nat.reduceAdd, Int.reduceAdd, Nat.reduceMul, Nat.reduceLeDiff, Nat.reduceLT, Int.reduceLE, Int.reduceLT, Int.reduceNeg, Int.reduceToNat, mt, mtL, mtL_self, mt_self, mtZ, and_self, eq_self, or_true, true_or]) (fun hw52 => ?_)
            replace hw52 := nzQ hw52
            refine spQ ?_
            have hq53 := fail_ne hx51 (by decide)
            replace hq53 := nzQ hq53
            have hq54 := fail_isB hx51 (by assumption)
            replace hq54 := nzQ hq54
            subst hM
            exact retCI_in [0] (by simp only [go_sem, rowV_eq, rowV_eq0, List.length_replicate, rep_len, Int.toNat_natCast, ↓reduceIte, Nat.reduceEqDiff, Nat.reduceAdd, Int.reduceAdd, Nat.reduceMul, Nat.reduceLeDiff, Nat.reduceLT, Int.reduceLE, Int.reduceLT, Int.reduceNeg, Int.reduceToNat, mt, mtL, mtL_self, mt_self, mtZ, and_self, eq_self, or_true, true_or, map_st, gt_cons0, gt_conss, Int.reduceSub, or_self, h46, h47, h48, h49]) (by decide) (by simp only [go_sem, rowV_eq, rowV_eq0, List.length_replicate, rep_len, Int.toNat_natCast, ↓reduceIte, Nat.reduceEqDiff, Nat.reduceAdd, Int.reduceAdd, Nat.reduceMul, Nat.reduceLeDiff, Nat.reduceLT, Int.reduceLE, Int.reduceLT, Int.reduceNeg, Int.reduceToNat, mt, mtL, mtL_self, mt_self, mtZ, and_self, eq_self, or_true, true_or, map_st, gt_cons0, gt_conss, Int.reduceSub, or_self, h46, h47, h48, h49])
          · rw [if_neg (ne_true h49)] at hM
            refine spQA h49 ?_
            have nh49 := nzQ h49
            exact cut_intro (⟨[(0, .ptr 0 0), (1, .int .i64 depth), (4, .ptr 1 0), (5, .int .i64 (convI .i64 x1.1))], [(0, .lent (ks 0) 2 true (.agg [.sl none 1 false (x1.2.b.map (V.int .u8)), .int .i64 x1.2.e])), (1, .var 4 true (.agg [.int .i64 0, .int .i64 0, .sl (some true) 1 false [], .sl (some true) 4 true []]))], 2⟩ : St) sbQ sbQ (hcut6 _ ⟨(), rfl, omQ, hM⟩)
        · rw [if_neg (ne_true h48)] at hM
          refine spQA h48 ?_
          have nh48 := nzQ h48
          exact cut_intro (⟨[(0, .ptr 0 0), (1, .int .i64 depth), (4, .ptr 1 0), (5, .int .i64 (convI .i64 x1.1))], [(0, .lent (ks 0) 2 true (.agg [.sl none 1 false (x1.2.b.map (V.int .u8)), .int .i64 x1.2.e])), (1, .var 4 true (.agg [.int .i64 0, .int .i64 0, .sl (some true) 1 false [], .sl (some true) 4 true []]))], 2⟩ : St) sbQ sbQ (hcut6 _ ⟨(), rfl, omQ, hM⟩)
      · rw [if_pos h47] at hM
        refine spQA h47 ?_
        have nh47 := nzQ h47
        have hM0 := hM; clear hM; obtain ⟨x55, hx56, hM⟩ := letk_opn hM0; clear hM0
        have hcx55 := encode_reader_fail_ok  (x1.2) 3 
        rw [← hx56] at hcx55
        refine callC_in [0] hcx55 (by decide) (by simp only [go_sem, rowV_eq, rowV_eq0, List.length_replicate, rep_len, Int.toNat_natCast, ↓reduceIte, Nat.reduceEqDiff, Nat.reduceAdd, Int.reduceAdd, Nat.reduceMul, Nat.reduceLeDiff, Nat.reduceLT, Int.reduceLE, Int.reduceLT, Int.reduceNeg, Int.reduceToNat, mt, mtL, mtL_self, mt_self, mtZ, and_self, eq_self, or_true, true_or]) (by simp only [go_sem, rowV_eq, rowV_eq0, List.length_replicate, rep_len, Int.toNat_natCast, ↓reduceIte, Nat.reduceEqDiff, Nat.reduceAdd, Int.reduceAdd, Nat.reduceMul, Nat.reduceLeDiff, Nat.reduceLT, Int.reduceLE, Int.reduceLT, Int.reduceNeg, Int.reduceToNat, mt, mtL, mtL_self, mt_self, mtZ, and_self, eq_self, or_true, true_or]) (fun hw57 => ?_)
        replace hw57 := nzQ hw57
        refine spQ ?_
        have hq58 := fail_ne hx56 (by decide)
        replace hq58 := nzQ hq58
        have hq59 := fail_isB hx56 (by assumption)
        replace hq59 := nzQ hq59
        subst hM
        exact retCI_in [0] (by simp only [go_sem, rowV_eq, rowV_eq0, List.length_replicate, rep_len, Int.toNat_natCast, ↓reduceIte, Nat.reduceEqDiff, Nat.reduceAdd, Int.reduceAdd, Nat.reduceMul, Nat.reduceLeDiff, Nat.reduceLT, Int.reduceLE, Int.reduceLT, Int.reduceNeg, Int.reduceToNat, mt, mtL, mtL_self, mt_self, mtZ, and_self, eq_self, or_true, true_or, map_st, gt_cons0, gt_conss, Int.reduceSub, or_self, h46, h47]) (by decide) (by simp only [go_sem, rowV_eq, rowV_eq0, List.length_replicate, rep_len, Int.toNat_natCast, ↓reduceIte, Nat.reduceEqDiff, Nat.reduceAdd, Int.reduceAdd, Nat.reduceMul, Nat.reduceLeDiff, Nat.reduceLT, Int.reduceLE, Int.reduceLT, Int.reduceNeg, Int.reduceToNat, mt, mtL, mtL_self, mt_self, mtZ, and_self, eq_self, or_true, true_or, map_st, gt_cons0, gt_conss, Int.reduceSub, or_self, h46, h47])
    · rw [if_pos h46] at hM
      refine spQA h46 ?_
      have nh46 := nzQ h46
      have hM0 := hM; clear hM; obtain ⟨x60, hx61, hM⟩ := letk_opn hM0; clear hM0
      have hcx60 := encode_reader_fail_ok  (x1.2) 3 
      rw [← hx61] at hcx60
      refine callC_in [0] hcx60 (by decide) (by simp only [go_sem, rowV_eq, rowV_eq0, List.length_replicate, rep_len, Int.toNat_natCast, ↓reduceIte, Nat.reduceEqDiff, Nat.reduceAdd, Int.reduceAdd, Nat.reduceMul, Nat.reduceLeDiff, Nat.reduceLT, Int.reduceLE, Int.reduceLT, Int.reduceNeg, Int.reduceToNat, mt, mtL, mtL_self, mt_self, mtZ, and_self, eq_self, or_true, true_or]) (by simp only [go_sem, rowV_eq, rowV_eq0, List.length_replicate, rep_len, Int.toNat_natCast, ↓reduceIte, Nat.reduceEqDiff, Nat.reduceAdd, Int.reduceAdd, Nat.reduceMul, Nat.reduceLeDiff, Nat.reduceLT, Int.reduceLE, Int.reduceLT, Int.reduceNeg, Int.reduceToNat, mt, mtL, mtL_self, mt_self, mtZ, and_self, eq_self, or_true, true_or]) (fun hw62 => ?_)
      replace hw62 := nzQ hw62
      refine spQ ?_
      have hq63 := fail_ne hx61 (by decide)
      replace hq63 := nzQ hq63
      have hq64 := fail_isB hx61 (by assumption)
      replace hq64 := nzQ hq64
      subst hM
      exact retCI_in [0] (by simp only [go_sem, rowV_eq, rowV_eq0, List.length_replicate, rep_len, Int.toNat_natCast, ↓reduceIte, Nat.reduceEqDiff, Nat.reduceAdd, Int.reduceAdd, Nat.reduceMul, Nat.reduceLeDiff, Nat.reduceLT, Int.reduceLE, Int.reduceLT, Int.reduceNeg, Int.reduceToNat, mt, mtL, mtL_self, mt_self, mtZ, and_self, eq_self, or_true, true_or, map_st, gt_cons0, gt_conss, Int.reduceSub, or_self, h46]) (by decide) (by simp only [go_sem, rowV_eq, rowV_eq0, List.length_replicate, rep_len, Int.toNat_natCast, ↓reduceIte, Nat.reduceEqDiff, Nat.reduceAdd, Int.reduceAdd, Nat.reduceMul, Nat.reduceLeDiff, Nat.reduceLT, Int.reduceLE, Int.reduceLT, Int.reduceNeg, Int.reduceToNat, mt, mtL, mtL_self, mt_self, mtZ, and_self, eq_self, or_true, true_or, map_st, gt_cons0, gt_conss, Int.reduceSub, or_self, h46])
theorem itemM_okN : ∀ (N : Nat)  (r_ : S_encode_reader) (depth : Int), (0 ≤ depth) → (isB r_.b) → depth.toNat < N → CallIn En 64 [.ptr 0 0, .int .i64 depth] [.var 2 true (.agg [.sl none 1 false (r_.b.map (V.int .u8)), .int .i64 r_.e])] (.agg [.int .i64 (itemM r_ depth).1.Kind, .int .i64 (itemM r_ depth).1.N, .sl none 1 false ((itemM r_ depth).1.B.map (V.int .u8)), .sl none 4 true ((itemM r_ depth).1.L.map e_api_Item)]) [.var 2 true (.agg [.sl none 1 false ((itemM r_ depth).2.b.map (V.int .u8)), .int .i64 (itemM r_ depth).2.e])] [] := by
  intro N
  induction N with
  | zero => intro r_ depth h0 h1 h; exact absurd h (Nat.not_lt_zero _)
  | succ N ih =>
    intro r_ depth h0 h1 h
    have h9 := encode_reader_item_ok N ih r_ depth h0 h1 h
    rw [encode_reader_item_eqM h0 h1] at h9
    exact h9
theorem itemM_ok  (r_ : S_encode_reader) (depth : Int) (hp0 : 0 ≤ depth) (hp1 : isB r_.b) : CallIn En 64 [.ptr 0 0, .int .i64 depth] [.var 2 true (.agg [.sl none 1 false (r_.b.map (V.int .u8)), .int .i64 r_.e])] (.agg [.int .i64 (itemM r_ depth).1.Kind, .int .i64 (itemM r_ depth).1.N, .sl none 1 false ((itemM r_ depth).1.B.map (V.int .u8)), .sl none 4 true ((itemM r_ depth).1.L.map e_api_Item)]) [.var 2 true (.agg [.sl none 1 false ((itemM r_ depth).2.b.map (V.int .u8)), .int .i64 (itemM r_ depth).2.e])] [] :=
  itemM_okN (depth.toNat + 1) r_ depth hp0 hp1 (Nat.lt_succ_self _)
set_option maxHeartbeats 2000000 in
set_option maxRecDepth 100000 in
theorem encode_Decode_ok  (z0 : Option Bool) (b : (List Int))  : CallOk En 34 [.sl z0 1 false (b.map (V.int .u8))] (.tup [.agg [.int .i64 (encode_Decode b).1.Kind, .int .i64 (encode_Decode b).1.N, .sl none 1 false ((encode_Decode b).1.B.map (V.int .u8)), .sl none 4 true ((encode_Decode b).1.L.map e_api_Item)], .int .i64 (encode_Decode b).2]) [] := by
  generalize hM : encode_Decode b = r
  rw [encode_Decode.eq_1] at hM
  refine enterV En_ok En_mo [7] Try.func34 rfl Try.ntmps34 (by kernel_rfl) fun hw => ct_start ?_
  refine spQ ?_
  replace hw := nzQ hw
  refine condC_intro (fun h1 => ?_) (fun h1 => ?_)
  · rw [if_pos h1] at hM
    refine spQA h1 ?_
    have nh1 := nzQ h1
    subst hM
    exact retC_view (lfQA h1)
  · rw [if_neg (ne_true h1)] at hM
    refine spQA h1 ?_
    have nh1 := nzQ h1
    have hM0 := hM; clear hM; obtain ⟨x2, hx3, hM⟩ := letk_opn hM0; clear hM0
    have hcx2 := itemM_ok  ({ b := b, e := 0 } : S_encode_reader) 8 (by (first | decide | exact isB_wf hw.2)) (by (first | decide | exact isB_wf hw.2))
    rw [← hx3] at hcx2
    refine callC_in [1] hcx2 (by decide) (by simp only [go_sem, rowV_eq, rowV_eq0, List.length_replicate, rep_len, Int.toNat_natCast, ↓reduceIte, Nat.reduceEqDiff, Nat.reduceAdd, Int.reduceAdd, Nat.reduceMul, Nat.reduceLeDiff, Nat.reduceLT, Int.reduceLE, Int.reduceLT, Int.reduceNeg, Int.reduceToNat, mt, mtL, mtL_self, mt_self, mtZ, and_self, eq_self, or_true, true_or]) (by simp only [go_sem, rowV_eq, rowV_eq0, List.length_replicate, rep_len, Int.toNat_natCast, ↓reduceIte, Nat.reduceEqDiff, Nat.reduceAdd, Int.reduceAdd, Nat.reduceMul, Nat.reduceLeDiff, Nat.reduceLT, Int.reduceLE, Int.reduceLT, Int.reduceNeg, Int.reduceToNat, mt, mtL, mtL_self, mt_self, mtZ, and_self, eq_self, or_true, true_or]) (fun hw4 => ?_)
    replace hw4 := nzQ hw4
    refine spQ ?_
    have hM0 := hM; clear hM; obtain ⟨j5, hj5, hM⟩ := letj_opn hM0; clear hM0
    refine seqC_intro (fun S => ∃ p : S_encode_reader, S = (⟨[(2, .ptr 0 0), (4, .ptr 1 0), (5, .ptr 2 0)], [(0, .var 4 true (.agg [.int .i64 0, .int .i64 0, .sl (some true) 1 false [], .sl (some true) 4 true []])), (1, .var 2 true (.agg [.sl none 1 false (p.b.map (V.int .u8)), .int .i64 p.e])), (2, .var 4 true (.agg [.int .i64 x2.1.Kind, .int .i64 x2.1.N, .sl none 1 false (x2.1.B.map (V.int .u8)), .sl none 4 true (x2.1.L.map e_api_Item)]))], 3⟩ : St) ∧ (True) ∧ j5 p = r) ?_ (fun hcut5 => ?_)
    · clear hM
      rintro S ⟨p5, rfl, hfa5, hM⟩
      have hM0 := hM; clear hM; have hM := letj_use hM0 hj5; clear hM0
      refine spQ ?_
      refine condC_intro (fun h6 => ?_) (fun h6 => ?_)
      · rw [if_pos h6] at hM
        refine spQA h6 ?_
        have nh6 := nzQ h6
        refine ct_draw 34 6 [28, 29, 30, 31, 32] [] ([[], [], [1], [1, 2], [1, 2, 3], [0]] ++ [List.range 6]) [(5, 0)] (by kernel_rfl) (by exact alQ) ?_
        refine spQ ?_
        subst hM
        exact retC_view (lfQA (And.intro h1 h6))
      · rw [if_neg (ne_true h6)] at hM
        refine spQA h6 ?_
        have nh6 := nzQ h6
        subst hM
        exact retC_view (lfQA (And.intro h1 h6))
    · refine spQ ?_
      refine condC_intro (fun h7 => ?_) (fun h7 => ?_)
      · rw [if_pos h7] at hM
        refine spQA h7 ?_
        have nh7 := nzQ h7
        have hM0 := hM; clear hM; obtain ⟨x8, hx9, hM⟩ := letk_opn hM0; clear hM0
        have hcx8 := encode_reader_fail_ok  (x2.2) 3 
        rw [← hx9] at hcx8
        refine callC_in [1] hcx8 (by decide) (by simp only [go_sem, rowV_eq, rowV_eq0, List.length_replicate, rep_len, Int.toNat_natCast, ↓reduceIte, Nat.reduceEqDiff, Nat.reduceAdd, Int.reduceAdd, Nat.reduceMul, Nat.reduceLeDiff, Nat.reduceLT, Int.reduceLE, Int.reduceLT, Int.reduceNeg, Int.reduceToNat, mt, mtL, mtL_self, mt_self, mtZ, and_self, eq_self, or_true, true_or]) (by simp only [go_sem, rowV_eq, rowV_eq0, List.length_replicate, rep_len, Int.toNat_natCast, ↓reduceIte, Nat.reduceEqDiff, Nat.reduceAdd, Int.reduceAdd, Nat.reduceMul, Nat.reduceLeDiff, Nat.reduceLT, Int.reduceLE, Int.reduceLT, Int.reduceNeg, Int.reduceToNat, mt, mtL, mtL_self, mt_self, mtZ, and_self, eq_self, or_true, true_or]) (fun hw10 => ?_)
        replace hw10 := nzQ hw10
        refine spQ ?_
        exact cut_intro (⟨[(2, .ptr 0 0), (4, .ptr 1 0), (5, .ptr 2 0)], [(0, .var 4 true (.agg [.int .i64 0, .int .i64 0, .sl (some true) 1 false [], .sl (some true) 4 true []])), (1, .var 2 true (.agg [.sl none 1 false (x8.b.map (V.int .u8)), .int .i64 x8.e])), (2, .var 4 true (.agg [.int .i64 x2.1.Kind, .int .i64 x2.1.N, .sl none 1 false (x2.1.B.map (V.int .u8)), .sl none 4 true (x2.1.L.map e_api_Item)]))], 3⟩ : St) sbQ sbQ (hcut5 _ ⟨x8, rfl, trivial, hM⟩)
      · rw [if_neg (ne_true h7)] at hM
        refine spQA h7 ?_
        have nh7 := nzQ h7
        exact cut_intro (⟨[(2, .ptr 0 0), (4, .ptr 1 0), (5, .ptr 2 0)], [(0, .var 4 true (.agg [.int .i64 0, .int .i64 0, .sl (some true) 1 false [], .sl (some true) 4 true []])), (1, .var 2 true (.agg [.sl none 1 false (x2.2.b.map (V.int .u8)), .int .i64 x2.2.e])), (2, .var 4 true (.agg [.int .i64 x2.1.Kind, .int .i64 x2.1.N, .sl none 1 false (x2.1.B.map (V.int .u8)), .sl none 4 true (x2.1.L.map e_api_Item)]))], 3⟩ : St) sbQ sbQ (hcut5 _ ⟨x2.2, rfl, trivial, hM⟩)
set_option maxHeartbeats 2000000 in
set_option maxRecDepth 100000 in
theorem encode_Numbers_ok   (i_ : S_api_Item)  : CallOk En 54 [.agg [.int .i64 i_.Kind, .int .i64 i_.N, .sl none 1 false (i_.B.map (V.int .u8)), .sl none 4 true (i_.L.map e_api_Item)]] (.tup [.sl none 1 false ((encode_Numbers i_).1.map (V.int .i64)), .int .i64 (encode_Numbers i_).2]) [] := by
  generalize hM : encode_Numbers i_ = r
  rw [encode_Numbers.eq_1] at hM
  refine enterV En_ok En_mo noJ Try.func54 rfl Try.ntmps54 (by kernel_rfl) fun hw => ct_start ?_
  refine spQ ?_
  replace hw := nzQ hw
  have hM0 := hM; clear hM; obtain ⟨x1, hx2, hM⟩ := letk_opn hM0; clear hM0
  have hcx1 := encode_Valid_ok  i_ 
  rw [← hx2] at hcx1
  refine callC_give hcx1 clQ clQ (fun hw3 => ?_)
  replace hw3 := nzQ hw3
  refine spQ ?_
  refine condC_intro (fun h4 => ?_) (fun h4 => ?_)
  · rw [if_pos h4] at hM
    refine spQA h4 ?_
    have nh4 := nzQ h4
    subst hM
    exact retC_view (lfQA h4)
  · rw [if_neg (ne_true h4)] at hM
    refine spQA h4 ?_
    have nh4 := nzQ h4
    refine condC_intro (fun h5 => ?_) (fun h5 => ?_)
    · rw [if_pos h5] at hM
      refine spQA h5 ?_
      have nh5 := nzQ h5
      subst hM
      exact retC_view (lfQA (And.intro h4 h5))
    · rw [if_neg (ne_true h5)] at hM
      refine spQA h5 ?_
      have nh5 := nzQ h5
      have hM0 := hM; clear hM; obtain ⟨f6, d6, hf6, hd6, hM⟩ := iter_opn hM0; clear hM0
      refine ct_loopW (fun n S => ∃ p : Int × List Int, S = (⟨[(4, .own 1), (14, .sl none 4 true (i_.L.map e_api_Item)), (15, .int .i64 (i_.L.length : Int)), (16, .int .i64 p.1)], [(1, .own 3 1 false none (p.2.map (V.int .i64)))], 2⟩ : St) ∧ ((0 ≤ p.1) ∧ (p.1 ≤ (i_.L.length : Int)) ∧ (((p.2).length : Int) ≤ p.1)) ∧ ((i_.L.length : Int) - p.1).toNat < n ∧ iter n f6 d6 p = r) (((i_.L.length : Int) - 0).toNat + 1) _ (⟨[(4, .own 1), (14, .sl none 4 true (i_.L.map e_api_Item)), (15, .int .i64 (i_.L.length : Int)), (16, .int .i64 0)], [(1, .own 3 1 false none (([] : List Int).map (V.int .i64)))], 2⟩ : St) (weak_nil 4 3 rfl (by decide)) sbQ sbQ ⟨(0, ([] : List Int)), rfl, ⟨omQ, omQ, omQ⟩, (Nat.lt_succ_self _), hM⟩ ?_
      clear hM
      rintro n6 S ⟨p6, rfl, hfa6, hm6, hM⟩
      have hM0 := hM; clear hM; obtain ⟨ag6, hag6, hM⟩ := iter_step hM0 (by omega) hf6; clear hM0
      replace hfa6 := nzQ hfa6
      replace hm6 := nzQ hm6
      have ha6 : addI .i64 p6.1 1 = p6.1 + 1 := add_one omQ omQ
      refine spQA ha6 ?_
      refine condC_intro (fun h7 => ?_) (fun h7 => ?_)
      · rw [if_pos h7] at hM
        refine spQA (And.intro ha6 h7) ?_
        have nh7 := nzQ h7
        refine bindC_intro omQ ?_
        have he8 := fun d => elt_mp (l := i_.L) (f := e_api_Item) (i := p6.1) omQ d
        refine spQA (And.intro ha6 he8) ?_
        refine condC_intro (fun h9 => ?_) (fun h9 => ?_)
        · rw [if_pos h9] at hM
          refine spQA (And.intro ha6 (And.intro he8 h9)) ?_
          have nh9 := nzQ h9
          subst hM
          exact retC_view (lfQA (And.intro ha6 (And.intro he8 (And.intro h4 (And.intro h5 (And.intro h7 h9))))))
        · rw [if_neg (ne_true h9)] at hM
          refine spQA (And.intro ha6 (And.intro he8 h9)) ?_
          have nh9 := nzQ h9
          refine bindC_intro omQ ?_
          refine spQA (And.intro ha6 he8) ?_
          refine lp_intro (n6 - 1) (⟨[(4, .own 1), (14, .sl none 4 true (i_.L.map e_api_Item)), (15, .int .i64 (i_.L.length : Int)), (16, .int .i64 (p6.1 + 1))], [(1, .own 3 1 false none ((p6.2 ++ ([(gt i_.L p6.1).N] : List Int)).map (V.int .i64)))], 2⟩ : St) (by omega) sbQ sbQ ⟨((p6.1 + 1), (p6.2 ++ ([(gt i_.L p6.1).N] : List Int))), rfl, ⟨omQ, omQ, omQ⟩, omQ, iter_again hM hag6⟩
      · rw [if_neg (ne_true h7)] at hM
        refine spQA (And.intro ha6 h7) ?_
        have nh7 := nzQ h7
        subst hM
        exact retC_view (lfQA (And.intro ha6 (And.intro h4 (And.intro h5 h7))))
set_option maxHeartbeats 2000000 in
set_option maxRecDepth 100000 in
theorem payment_FromInvoice_ok  (z0 : Option Bool) (x_ : (List Int))  : CallOk En 19 [.sl z0 1 false (x_.map (V.int .u8))] (.tup [.agg (.int .u8 (gt (payment_FromInvoice x_).1.Payee 0) :: .int .u8 (gt (payment_FromInvoice x_).1.Payee 1) :: .int .u8 (gt (payment_FromInvoice x_).1.Payee 2) :: .int .u8 (gt (payment_FromInvoice x_).1.Payee 3) :: .int .u8 (gt (payment_FromInvoice x_).1.Payee 4) :: .int .u8 (gt (payment_FromInvoice x_).1.Payee 5) :: .int .u8 (gt (payment_FromInvoice x_).1.Payee 6) :: .int .u8 (gt (payment_FromInvoice x_).1.Payee 7) :: .int .u8 (gt (payment_FromInvoice x_).1.Payee 8) :: .int .u8 (gt (payment_FromInvoice x_).1.Payee 9) :: .int .u8 (gt (payment_FromInvoice x_).1.Payee 10) :: .int .u8 (gt (payment_FromInvoice x_).1.Payee 11) :: .int .u8 (gt (payment_FromInvoice x_).1.Payee 12) :: .int .u8 (gt (payment_FromInvoice x_).1.Payee 13) :: .int .u8 (gt (payment_FromInvoice x_).1.Payee 14) :: .int .u8 (gt (payment_FromInvoice x_).1.Payee 15) :: .int .u8 (gt (payment_FromInvoice x_).1.Payee 16) :: .int .u8 (gt (payment_FromInvoice x_).1.Payee 17) :: .int .u8 (gt (payment_FromInvoice x_).1.Payee 18) :: .int .u8 (gt (payment_FromInvoice x_).1.Payee 19) :: .int .u8 (gt (payment_FromInvoice x_).1.Payee 20) :: .int .u8 (gt (payment_FromInvoice x_).1.Payee 21) :: .int .u8 (gt (payment_FromInvoice x_).1.Payee 22) :: .int .u8 (gt (payment_FromInvoice x_).1.Payee 23) :: .int .u8 (gt (payment_FromInvoice x_).1.Payee 24) :: .int .u8 (gt (payment_FromInvoice x_).1.Payee 25) :: .int .u8 (gt (payment_FromInvoice x_).1.Payee 26) :: .int .u8 (gt (payment_FromInvoice x_).1.Payee 27) :: .int .u8 (gt (payment_FromInvoice x_).1.Payee 28) :: .int .u8 (gt (payment_FromInvoice x_).1.Payee 29) :: .int .u8 (gt (payment_FromInvoice x_).1.Payee 30) :: .int .u8 (gt (payment_FromInvoice x_).1.Payee 31) :: .int .i64 (payment_FromInvoice x_).1.Amount :: .int .i64 (payment_FromInvoice x_).1.Time :: .int .i64 (payment_FromInvoice x_).1.Number :: []), .int .i64 (payment_FromInvoice x_).2]) [] := by
  generalize hM : payment_FromInvoice x_ = r
  rw [payment_FromInvoice.eq_1] at hM
  refine enterV En_ok En_mo noJ Try.func19 rfl Try.ntmps19 (by kernel_rfl) fun hw => ct_start ?_
  refine spQ ?_
  replace hw := nzQ hw
  have hM0 := hM; clear hM; obtain ⟨x1, hx2, hM⟩ := letk_opn hM0; clear hM0
  have hcx1 := encode_Decode_ok z0 x_ 
  rw [← hx2] at hcx1
  refine callC_give hcx1 clQ clQ (fun hw3 => ?_)
  replace hw3 := nzQ hw3
  refine spQ ?_
  refine guardC_f (fun h4 => ?_) (fun h4 => ?_)
  · rw [if_neg (ne_true h4)] at hM
    refine spQA h4 ?_
    have nh4 := nzQ h4
    refine guardC_f (fun h5 => ?_) (fun h5 => ?_)
    · rw [if_neg (ne_true h5)] at hM
      refine spQA h5 ?_
      have nh5 := nzQ h5
      refine guardC_f (fun h6 => ?_) (fun h6 => ?_)
      · rw [if_neg (ne_true h6)] at hM
        refine spQA h6 ?_
        have nh6 := nzQ h6
        refine bindC_intro omQ ?_
        have he7 : ∀ d, elt (x1.1.L.map e_api_Item) 0 d = e_api_Item (gt x1.1.L 0) := fun d => elt_mp (l := x1.1.L) (f := e_api_Item) (i := 0) omQ d
        refine spQA he7 ?_
        refine guardC_f (fun h8 => ?_) (fun h8 => ?_)
        · rw [if_neg (ne_true h8)] at hM
          refine spQA (And.intro he7 h8) ?_
          have nh8 := nzQ h8
          refine bindC_intro omQ ?_
          refine spQA he7 ?_
          refine condC_intro (fun h9 => ?_) (fun h9 => ?_)
          · rw [if_pos h9] at hM
            refine spQA (And.intro he7 h9) ?_
            have nh9 := nzQ h9
            subst hM
            exact retC_view (lfQA (And.intro he7 (And.intro h4 (And.intro h5 (And.intro h6 (And.intro h8 h9))))))
          · rw [if_neg (ne_true h9)] at hM
            refine spQA (And.intro he7 h9) ?_
            have nh9 := nzQ h9
            refine bindC_intro omQ ?_
            refine spQA he7 ?_
            have hM0 := hM; clear hM; obtain ⟨x10, hx11, hM⟩ := letk_opn hM0; clear hM0
            have hcx10 := encode_Numbers_ok  ({ Kind := 3, N := 0, B := ([] : List Int), L := (sl x1.1.L 1 (x1.1.L.length : Int)) } : S_api_Item) 
            rw [← hx11] at hcx10
            refine callC_give hcx10 (clQA he7) (clQA he7) (fun hw12 => ?_)
            replace hw12 := nzQ hw12
            refine spQA he7 ?_
            have hq13 := Numbers_len hx11
            replace hq13 := nzQ hq13
            refine condC_intro (fun h14 => ?_) (fun h14 => ?_)
            · rw [if_pos h14] at hM
              refine spQA (And.intro he7 h14) ?_
              have nh14 := nzQ h14
              subst hM
              exact retC_view (lfQA (And.intro he7 (And.intro h4 (And.intro h5 (And.intro h6 (And.intro h8 (And.intro h9 h14)))))))
            · rw [if_neg (ne_true h14)] at hM
              refine spQA (And.intro he7 h14) ?_
              have nh14 := nzQ h14
              refine ct_draw 77 18 [7, 55, 56, 57, 58, 59, 60, 61, 62, 63, 64, 65, 66, 67, 68, 69, 70, 71] [] ([[], [0], [0, 1], [0, 1, 2], [0, 1, 2, 3], [0, 1, 2, 3, 4], [0, 1, 2, 3, 4, 5], [], [7], [7, 8], [], [10], [10, 11], [], [13], [13, 14], [0, 1, 2, 3, 4, 5, 6, 7, 8, 9, 10, 11, 12, 13, 14, 15], []] ++ [List.range 18]) [] (by kernel_rfl) (by exact alQ) ?_
              refine spQA he7 ?_
              refine hbindC_intro omQ ?_
              refine spQA he7 ?_
              refine hbindC_intro omQ ?_
              have he15 := eltsN_mp (l := (gt x1.1.L 0).B) (f := (V.int .u8)) (k := 32) omQ
              refine spQA (And.intro he7 he15) ?_
              refine hbindC_intro omQ ?_
              have he16 : ∀ d, elt (x10.1.map (V.int .i64)) 0 d = (V.int .i64) (gt x10.1 0) := fun d => elt_mp (l := x10.1) (f := (V.int .i64)) (i := 0) omQ d
              refine spQA (And.intro he7 (And.intro he15 he16)) ?_
              refine hbindC_intro omQ ?_
              have he17 : ∀ d, elt (x10.1.map (V.int .i64)) 1 d = (V.int .i64) (gt x10.1 1) := fun d => elt_mp (l := x10.1) (f := (V.int .i64)) (i := 1) omQ d
              refine spQA (And.intro he7 (And.intro he15 (And.intro he16 he17))) ?_
              refine hbindC_intro omQ ?_
              have he18 : ∀ d, elt (x10.1.map (V.int .i64)) 2 d = (V.int .i64) (gt x10.1 2) := fun d => elt_mp (l := x10.1) (f := (V.int .i64)) (i := 2) omQ d
              refine spQA (And.intro he7 (And.intro he15 (And.intro he16 (And.intro he17 he18)))) ?_
              have hM0 := hM; clear hM; obtain ⟨x19, hx20, hM⟩ := letk_opn hM0; clear hM0
              have hcx19 := payment_valid_ok  ({ Payee := (arrN 32 (gt x1.1.L 0).B), Amount := (gt x10.1 0), Time := (gt x10.1 1), Number := (gt x10.1 2) } : S_api_Invoice) 
              rw [← hx20] at hcx19
              refine callC_give hcx19 (clQA (And.intro he7 (And.intro he15 (And.intro he16 (And.intro he17 he18))))) (clQA (And.intro he7 (And.intro he15 (And.intro he16 (And.intro he17 he18))))) (fun hw21 => ?_)
              replace hw21 := nzQ hw21
              refine spQA (And.intro he7 (And.intro he15 (And.intro he16 (And.intro he17 he18)))) ?_
              refine condC_intro (fun h22 => ?_) (fun h22 => ?_)
              · rw [if_pos h22] at hM
                refine spQA (And.intro he7 (And.intro he15 (And.intro he16 (And.intro he17 (And.intro he18 h22))))) ?_
                have nh22 := nzQ h22
                subst hM
                exact retC_view (lfQA (And.intro he7 (And.intro he15 (And.intro he16 (And.intro he17 (And.intro he18 (And.intro h4 (And.intro h5 (And.intro h6 (And.intro h8 (And.intro h9 (And.intro h14 h22))))))))))))
              · rw [if_neg (ne_true h22)] at hM
                refine spQA (And.intro he7 (And.intro he15 (And.intro he16 (And.intro he17 (And.intro he18 h22))))) ?_
                have nh22 := nzQ h22
                subst hM
                exact retC_view (lfQA (And.intro he7 (And.intro he15 (And.intro he16 (And.intro he17 (And.intro he18 (And.intro h4 (And.intro h5 (And.intro h6 (And.intro h8 (And.intro h9 (And.intro h14 h22))))))))))))
        · rw [if_pos h8] at hM
          refine spQA (And.intro he7 h8) ?_
          have nh8 := nzQ h8
          subst hM
          exact retC_view (lfQA (And.intro he7 (And.intro h4 (And.intro h5 (And.intro h6 h8)))))
      · rw [if_pos h6] at hM
        refine spQA h6 ?_
        have nh6 := nzQ h6
        subst hM
        exact retC_view (lfQA (And.intro h4 (And.intro h5 h6)))
    · rw [if_pos h5] at hM
      refine spQA h5 ?_
      have nh5 := nzQ h5
      subst hM
      exact retC_view (lfQA (And.intro h4 h5))
  · rw [if_pos h4] at hM
    refine spQA h4 ?_
    have nh4 := nzQ h4
    subst hM
    exact retC_view (lfQA h4)
set_option maxHeartbeats 2000000 in
set_option maxRecDepth 100000 in
theorem specielaw38_awake_ok     : CallOk En 5 [] (.bool (specielaw38_awake)) [] := by
  generalize hM : specielaw38_awake = r
  rw [specielaw38_awake.eq_1] at hM
  refine enterV En_ok En_mo noJ Try.func5 rfl Try.ntmps5 (by kernel_rfl) fun hw => ct_start ?_
  refine spQ ?_
  replace hw := nzQ hw
  have hM0 := hM; clear hM; obtain ⟨x1, hx2, hM⟩ := letk_opn hM0; clear hM0
  have hcx1 := payment_Invoice_ok  ({ Payee := [0, 0, 0, 0, 0, 0, 0, 0, 0, 0, 0, 0, 0, 0, 0, 0, 0, 0, 0, 0, 0, 0, 0, 0, 0, 0, 0, 0, 0, 0, 0, 0], Amount := 5, Time := 7, Number := 9 } : S_api_Invoice) 
  rw [← hx2] at hcx1
  refine callC_give hcx1 clQ clQ (fun hw3 => ?_)
  replace hw3 := nzQ hw3
  refine spQ ?_
  have hM0 := hM; clear hM; obtain ⟨x4, hx5, hM⟩ := letk_opn hM0; clear hM0
  have hcx4 := payment_FromInvoice_ok none (x1.1) 
  rw [← hx5] at hcx4
  refine callC_give hcx4 clQ clQ (fun hw6 => ?_)
  replace hw6 := nzQ hw6
  refine spQ ?_
  refine guardC_t (fun h7 => ?_) (fun h7 => ?_)
  · rw [if_pos h7] at hM
    refine spQA h7 ?_
    have nh7 := nzQ h7
    refine guardC_t (fun h8 => ?_) (fun h8 => ?_)
    · rw [if_pos h8] at hM
      refine spQA h8 ?_
      have nh8 := nzQ h8
      refine guardC_t (fun h9 => ?_) (fun h9 => ?_)
      · rw [if_pos h9] at hM
        refine spQA h9 ?_
        have nh9 := nzQ h9
        subst hM
        exact retC_view (lfQA (And.intro h7 (And.intro h8 h9)))
      · rw [if_neg (ne_true h9)] at hM
        refine spQA h9 ?_
        have nh9 := nzQ h9
        subst hM
        exact retC_view (lfQA (And.intro h7 (And.intro h8 h9)))
    · rw [if_neg (ne_true h8)] at hM
      refine spQA h8 ?_
      have nh8 := nzQ h8
      subst hM
      exact retC_view (lfQA (And.intro h7 h8))
  · rw [if_neg (ne_true h7)] at hM
    refine spQA h7 ?_
    have nh7 := nzQ h7
    subst hM
    exact retC_view (lfQA h7)
set_option maxHeartbeats 2000000 in
set_option maxRecDepth 100000 in
theorem specielaw38_long_ok   (s : S_api_Spend)  : CallOk En 21 [(e_api_Spend s)] (.bool (specielaw38_long s)) [] := by
  generalize hM : specielaw38_long s = r
  rw [specielaw38_long.eq_1] at hM
  refine enterV En_ok En_mo noJ Try.func21 rfl Try.ntmps21 (by kernel_rfl) fun hw => ct_start ?_
  refine spQ ?_
  replace hw := nzQ hw
  refine guardC_f (fun h1 => ?_) (fun h1 => ?_)
  · rw [if_neg (ne_true h1)] at hM
    refine spQA h1 ?_
    have nh1 := nzQ h1
    subst hM
    exact retC_view (lfQA h1)
  · rw [if_pos h1] at hM
    refine spQA h1 ?_
    have nh1 := nzQ h1
    subst hM
    exact retC_view (lfQA h1)
set_option maxHeartbeats 2000000 in
set_option maxRecDepth 100000 in
theorem slices_IndexFunc_api_Spend_api_Spend_at_specielaw38_long_ok  (z0 : Option Bool) (s : (List S_api_Spend))  : CallOk En 55 [.sl z0 80 true (s.map e_api_Spend), .fn 21 []] (.int .i64 (slices_IndexFunc_api_Spend_api_Spend_at_specielaw38_long s)) [] := by
  generalize hM : slices_IndexFunc_api_Spend_api_Spend_at_specielaw38_long s = r
  rw [slices_IndexFunc_api_Spend_api_Spend_at_specielaw38_long.eq_1] at hM
  refine enterV En_ok En_mo noJ Try.func55 rfl Try.ntmps55 (by kernel_rfl) fun hw => ct_start ?_
  refine spQ ?_
  replace hw := nzQ hw
  have hM0 := hM; clear hM; obtain ⟨f1, d1, hf1, hd1, hM⟩ := iter_opn hM0; clear hM0
  refine ct_loop (fun n S => ∃ p : Int, S = (⟨[(0, .sl z0 80 true (s.map e_api_Spend)), (1, .fn 21 []), (7, .int .i64 (s.length : Int)), (8, .int .i64 p)], [], 0⟩ : St) ∧ ((0 ≤ p) ∧ (p ≤ (s.length : Int))) ∧ ((s.length : Int) - p).toNat < n ∧ iter n f1 d1 p = r) (((s.length : Int) - 0).toNat + 1) (⟨[(0, .sl z0 80 true (s.map e_api_Spend)), (1, .fn 21 []), (7, .int .i64 (s.length : Int)), (8, .int .i64 0)], [], 0⟩ : St) sbQ sbQ ⟨0, rfl, ⟨omQ, omQ⟩, (Nat.lt_succ_self _), hM⟩ ?_
  clear hM
  rintro n1 S ⟨p1, rfl, hfa1, hm1, hM⟩
  have hM0 := hM; clear hM; obtain ⟨ag1, hag1, hM⟩ := iter_step hM0 (by omega) hf1; clear hM0
  replace hfa1 := nzQ hfa1
  replace hm1 := nzQ hm1
  have ha1 : addI .i64 p1 1 = p1 + 1 := add_one omQ omQ
  refine spQA ha1 ?_
  refine condC_intro (fun h2 => ?_) (fun h2 => ?_)
  · rw [if_pos h2] at hM
    refine spQA (And.intro ha1 h2) ?_
    have nh2 := nzQ h2
    refine bindC_intro omQ ?_
    have he3 := fun d => elt_mp (l := s) (f := e_api_Spend) (i := p1) omQ d
    refine spQA (And.intro ha1 he3) ?_
    have hM0 := hM; clear hM; obtain ⟨x4, hx5, hM⟩ := letk_opn hM0; clear hM0
    have hcx4 := specielaw38_long_ok  (gt s p1) 
    rw [← hx5] at hcx4
    refine callC_give hcx4 (clQA (And.intro ha1 he3)) (clQA (And.intro ha1 he3)) (fun hw6 => ?_)
    replace hw6 := nzQ hw6
    refine spQA (And.intro ha1 he3) ?_
    refine condC_intro (fun h7 => ?_) (fun h7 => ?_)
    · subst h7
      rw [if_pos rfl] at hM
      refine spQA (And.intro ha1 he3) ?_
      subst hM
      exact retC_view (lfQA (And.intro ha1 (And.intro he3 h2)))
    · subst h7
      rw [if_neg (by decide)] at hM
      refine spQA (And.intro ha1 he3) ?_
      refine lp_intro (n1 - 1) (⟨[(0, .sl z0 80 true (s.map e_api_Spend)), (1, .fn 21 []), (7, .int .i64 (s.length : Int)), (8, .int .i64 (p1 + 1))], [], 0⟩ : St) (by omega) sbQ sbQ ⟨(p1 + 1), rfl, ⟨omQ, omQ⟩, omQ, iter_again hM hag1⟩
  · rw [if_neg (ne_true h2)] at hM
    refine spQA (And.intro ha1 h2) ?_
    have nh2 := nzQ h2
    subst hM
    exact retC_view (lfQA (And.intro ha1 h2))
set_option maxHeartbeats 2000000 in
set_option maxRecDepth 100000 in
theorem slices_ContainsFunc_api_Spend_api_Spend_at_specielaw38_long_ok  (z0 : Option Bool) (s : (List S_api_Spend))  : CallOk En 20 [.sl z0 80 true (s.map e_api_Spend), .fn 21 []] (.bool (slices_ContainsFunc_api_Spend_api_Spend_at_specielaw38_long s)) [] := by
  generalize hM : slices_ContainsFunc_api_Spend_api_Spend_at_specielaw38_long s = r
  rw [slices_ContainsFunc_api_Spend_api_Spend_at_specielaw38_long.eq_1] at hM
  refine enterV En_ok En_mo noJ Try.func20 rfl Try.ntmps20 (by kernel_rfl) fun hw => ct_start ?_
  refine spQ ?_
  replace hw := nzQ hw
  have hM0 := hM; clear hM; obtain ⟨x1, hx2, hM⟩ := letk_opn hM0; clear hM0
  have hcx1 := slices_IndexFunc_api_Spend_api_Spend_at_specielaw38_long_ok z0 s 
  rw [← hx2] at hcx1
  refine callC_give hcx1 clQ clQ (fun hw3 => ?_)
  replace hw3 := nzQ hw3
  refine spQ ?_
  subst hM
  exact retC_view lfQ
set_option maxHeartbeats 2000000 in
set_option maxRecDepth 100000 in
theorem specielaw38_great_1_ok   (h_ : S_api_Chain)  : CallOk En 23 [(e_api_Chain h_)] (.bool (specielaw38_great_1 h_)) [] := by
  generalize hM : specielaw38_great_1 h_ = r
  rw [specielaw38_great_1.eq_1] at hM
  refine enterV En_ok En_mo noJ Try.func23 rfl Try.ntmps23 (by kernel_rfl) fun hw => ct_start ?_
  refine spQ ?_
  replace hw := nzQ hw
  refine guardC_f (fun h1 => ?_) (fun h1 => ?_)
  · rw [if_neg (ne_true h1)] at hM
    refine spQA h1 ?_
    have nh1 := nzQ h1
    have hM0 := hM; clear hM; obtain ⟨x2, hx3, hM⟩ := letk_opn hM0; clear hM0
    have hcx2 := specielaw38_long_ok  (h_.First) 
    rw [← hx3] at hcx2
    refine callC_give hcx2 clQ clQ (fun hw4 => ?_)
    replace hw4 := nzQ hw4
    refine spQ ?_
    refine guardC_f (fun h5 => ?_) (fun h5 => ?_)
    · subst h5
      rw [if_neg (by decide)] at hM
      refine spQ ?_
      have hM0 := hM; clear hM; obtain ⟨x6, hx7, hM⟩ := letk_opn hM0; clear hM0
      have hcx6 := slices_ContainsFunc_api_Spend_api_Spend_at_specielaw38_long_ok none (h_.L) 
      rw [← hx7] at hcx6
      refine callC_give hcx6 clQ clQ (fun hw8 => ?_)
      replace hw8 := nzQ hw8
      refine spQ ?_
      subst hM
      exact retC_view (lfQA h1)
    · subst h5
      rw [if_pos rfl] at hM
      refine spQ ?_
      subst hM
      exact retC_view (lfQA h1)
  · rw [if_pos h1] at hM
    refine spQA h1 ?_
    have nh1 := nzQ h1
    subst hM
    exact retC_view (lfQA h1)
set_option maxHeartbeats 2000000 in
set_option maxRecDepth 100000 in
theorem specielaw38_great_2_ok   (x_ : S_api_Escrow)  : CallOk En 25 [(e_api_Escrow x_)] (.bool (specielaw38_great_2 x_)) [] := by
  generalize hM : specielaw38_great_2 x_ = r
  rw [specielaw38_great_2.eq_1] at hM
  refine enterV En_ok En_mo noJ Try.func25 rfl Try.ntmps25 (by kernel_rfl) fun hw => ct_start ?_
  refine spQ ?_
  replace hw := nzQ hw
  refine guardC_f (fun h1 => ?_) (fun h1 => ?_)
  · rw [if_neg (ne_true h1)] at hM
    refine spQA h1 ?_
    have nh1 := nzQ h1
    subst hM
    exact retC_view (lfQA h1)
  · rw [if_pos h1] at hM
    refine spQA h1 ?_
    have nh1 := nzQ h1
    subst hM
    exact retC_view (lfQA h1)
set_option maxHeartbeats 2000000 in
set_option maxRecDepth 100000 in
theorem slices_IndexFunc_api_Chain_api_Chain_at_specielaw38_great_1_ok  (z0 : Option Bool) (s : (List S_api_Chain))  : CallOk En 56 [.sl z0 81 true (s.map e_api_Chain), .fn 23 []] (.int .i64 (slices_IndexFunc_api_Chain_api_Chain_at_specielaw38_great_1 s)) [] := by
  generalize hM : slices_IndexFunc_api_Chain_api_Chain_at_specielaw38_great_1 s = r
  rw [slices_IndexFunc_api_Chain_api_Chain_at_specielaw38_great_1.eq_1] at hM
  refine enterV En_ok En_mo noJ Try.func56 rfl Try.ntmps56 (by kernel_rfl) fun hw => ct_start ?_
  refine spQ ?_
  replace hw := nzQ hw
  have hM0 := hM; clear hM; obtain ⟨f1, d1, hf1, hd1, hM⟩ := iter_opn hM0; clear hM0
  refine ct_loop (fun n S => ∃ p : Int, S = (⟨[(0, .sl z0 81 true (s.map e_api_Chain)), (1, .fn 23 []), (7, .int .i64 (s.length : Int)), (8, .int .i64 p)], [], 0⟩ : St) ∧ ((0 ≤ p) ∧ (p ≤ (s.length : Int))) ∧ ((s.length : Int) - p).toNat < n ∧ iter n f1 d1 p = r) (((s.length : Int) - 0).toNat + 1) (⟨[(0, .sl z0 81 true (s.map e_api_Chain)), (1, .fn 23 []), (7, .int .i64 (s.length : Int)), (8, .int .i64 0)], [], 0⟩ : St) sbQ sbQ ⟨0, rfl, ⟨omQ, omQ⟩, (Nat.lt_succ_self _), hM⟩ ?_
  clear hM
  rintro n1 S ⟨p1, rfl, hfa1, hm1, hM⟩
  have hM0 := hM; clear hM; obtain ⟨ag1, hag1, hM⟩ := iter_step hM0 (by omega) hf1; clear hM0
  replace hfa1 := nzQ hfa1
  replace hm1 := nzQ hm1
  have ha1 : addI .i64 p1 1 = p1 + 1 := add_one omQ omQ
  refine spQA ha1 ?_
  refine condC_intro (fun h2 => ?_) (fun h2 => ?_)
  · rw [if_pos h2] at hM
    refine spQA (And.intro ha1 h2) ?_
    have nh2 := nzQ h2
    refine bindC_intro omQ ?_
    have he3 := fun d => elt_mp (l := s) (f := e_api_Chain) (i := p1) omQ d
    refine spQA (And.intro ha1 he3) ?_
    have hM0 := hM; clear hM; obtain ⟨x4, hx5, hM⟩ := letk_opn hM0; clear hM0
    have hcx4 := specielaw38_great_1_ok  (gt s p1) 
    rw [← hx5] at hcx4
    refine callC_give hcx4 (clQA (And.intro ha1 he3)) (clQA (And.intro ha1 he3)) (fun hw6 => ?_)
    replace hw6 := nzQ hw6
    refine spQA (And.intro ha1 he3) ?_
    refine condC_intro (fun h7 => ?_) (fun h7 => ?_)
    · subst h7
      rw [if_pos rfl] at hM
      refine spQA (And.intro ha1 he3) ?_
      subst hM
      exact retC_view (lfQA (And.intro ha1 (And.intro he3 h2)))
    · subst h7
      rw [if_neg (by decide)] at hM
      refine spQA (And.intro ha1 he3) ?_
      refine lp_intro (n1 - 1) (⟨[(0, .sl z0 81 true (s.map e_api_Chain)), (1, .fn 23 []), (7, .int .i64 (s.length : Int)), (8, .int .i64 (p1 + 1))], [], 0⟩ : St) (by omega) sbQ sbQ ⟨(p1 + 1), rfl, ⟨omQ, omQ⟩, omQ, iter_again hM hag1⟩
  · rw [if_neg (ne_true h2)] at hM
    refine spQA (And.intro ha1 h2) ?_
    have nh2 := nzQ h2
    subst hM
    exact retC_view (lfQA (And.intro ha1 h2))
set_option maxHeartbeats 2000000 in
set_option maxRecDepth 100000 in
theorem slices_ContainsFunc_api_Chain_api_Chain_at_specielaw38_great_1_ok  (z0 : Option Bool) (s : (List S_api_Chain))  : CallOk En 22 [.sl z0 81 true (s.map e_api_Chain), .fn 23 []] (.bool (slices_ContainsFunc_api_Chain_api_Chain_at_specielaw38_great_1 s)) [] := by
  generalize hM : slices_ContainsFunc_api_Chain_api_Chain_at_specielaw38_great_1 s = r
  rw [slices_ContainsFunc_api_Chain_api_Chain_at_specielaw38_great_1.eq_1] at hM
  refine enterV En_ok En_mo noJ Try.func22 rfl Try.ntmps22 (by kernel_rfl) fun hw => ct_start ?_
  refine spQ ?_
  replace hw := nzQ hw
  have hM0 := hM; clear hM; obtain ⟨x1, hx2, hM⟩ := letk_opn hM0; clear hM0
  have hcx1 := slices_IndexFunc_api_Chain_api_Chain_at_specielaw38_great_1_ok z0 s 
  rw [← hx2] at hcx1
  refine callC_give hcx1 clQ clQ (fun hw3 => ?_)
  replace hw3 := nzQ hw3
  refine spQ ?_
  subst hM
  exact retC_view lfQ
set_option maxHeartbeats 2000000 in
set_option maxRecDepth 100000 in
theorem slices_IndexFunc_api_Escrow_api_Escrow_at_specielaw38_great_2_ok  (z0 : Option Bool) (s : (List S_api_Escrow))  : CallOk En 57 [.sl z0 5 true (s.map e_api_Escrow), .fn 25 []] (.int .i64 (slices_IndexFunc_api_Escrow_api_Escrow_at_specielaw38_great_2 s)) [] := by
  generalize hM : slices_IndexFunc_api_Escrow_api_Escrow_at_specielaw38_great_2 s = r
  rw [slices_IndexFunc_api_Escrow_api_Escrow_at_specielaw38_great_2.eq_1] at hM
  refine enterV En_ok En_mo noJ Try.func57 rfl Try.ntmps57 (by kernel_rfl) fun hw => ct_start ?_
  refine spQ ?_
  replace hw := nzQ hw
  have hM0 := hM; clear hM; obtain ⟨f1, d1, hf1, hd1, hM⟩ := iter_opn hM0; clear hM0
  refine ct_loop (fun n S => ∃ p : Int, S = (⟨[(0, .sl z0 5 true (s.map e_api_Escrow)), (1, .fn 25 []), (7, .int .i64 (s.length : Int)), (8, .int .i64 p)], [], 0⟩ : St) ∧ ((0 ≤ p) ∧ (p ≤ (s.length : Int))) ∧ ((s.length : Int) - p).toNat < n ∧ iter n f1 d1 p = r) (((s.length : Int) - 0).toNat + 1) (⟨[(0, .sl z0 5 true (s.map e_api_Escrow)), (1, .fn 25 []), (7, .int .i64 (s.length : Int)), (8, .int .i64 0)], [], 0⟩ : St) sbQ sbQ ⟨0, rfl, ⟨omQ, omQ⟩, (Nat.lt_succ_self _), hM⟩ ?_
  clear hM
  rintro n1 S ⟨p1, rfl, hfa1, hm1, hM⟩
  have hM0 := hM; clear hM; obtain ⟨ag1, hag1, hM⟩ := iter_step hM0 (by omega) hf1; clear hM0
  replace hfa1 := nzQ hfa1
  replace hm1 := nzQ hm1
  have ha1 : addI .i64 p1 1 = p1 + 1 := add_one omQ omQ
  refine spQA ha1 ?_
  refine condC_intro (fun h2 => ?_) (fun h2 => ?_)
  · rw [if_pos h2] at hM
    refine spQA (And.intro ha1 h2) ?_
    have nh2 := nzQ h2
    refine bindC_intro omQ ?_
    have he3 := fun d => elt_mp (l := s) (f := e_api_Escrow) (i := p1) omQ d
    refine spQA (And.intro ha1 he3) ?_
    have hM0 := hM; clear hM; obtain ⟨x4, hx5, hM⟩ := letk_opn hM0; clear hM0
    have hcx4 := specielaw38_great_2_ok  (gt s p1) 
    rw [← hx5] at hcx4
    refine callC_give hcx4 (clQA (And.intro ha1 he3)) (clQA (And.intro ha1 he3)) (fun hw6 => ?_)
    replace hw6 := nzQ hw6
    refine spQA (And.intro ha1 he3) ?_
    refine condC_intro (fun h7 => ?_) (fun h7 => ?_)
    · subst h7
      rw [if_pos rfl] at hM
      refine spQA (And.intro ha1 he3) ?_
      subst hM
      exact retC_view (lfQA (And.intro ha1 (And.intro he3 h2)))
    · subst h7
      rw [if_neg (by decide)] at hM
      refine spQA (And.intro ha1 he3) ?_
      refine lp_intro (n1 - 1) (⟨[(0, .sl z0 5 true (s.map e_api_Escrow)), (1, .fn 25 []), (7, .int .i64 (s.length : Int)), (8, .int .i64 (p1 + 1))], [], 0⟩ : St) (by omega) sbQ sbQ ⟨(p1 + 1), rfl, ⟨omQ, omQ⟩, omQ, iter_again hM hag1⟩
  · rw [if_neg (ne_true h2)] at hM
    refine spQA (And.intro ha1 h2) ?_
    have nh2 := nzQ h2
    subst hM
    exact retC_view (lfQA (And.intro ha1 h2))
set_option maxHeartbeats 2000000 in
set_option maxRecDepth 100000 in
theorem slices_ContainsFunc_api_Escrow_api_Escrow_at_specielaw38_great_2_ok  (z0 : Option Bool) (s : (List S_api_Escrow))  : CallOk En 24 [.sl z0 5 true (s.map e_api_Escrow), .fn 25 []] (.bool (slices_ContainsFunc_api_Escrow_api_Escrow_at_specielaw38_great_2 s)) [] := by
  generalize hM : slices_ContainsFunc_api_Escrow_api_Escrow_at_specielaw38_great_2 s = r
  rw [slices_ContainsFunc_api_Escrow_api_Escrow_at_specielaw38_great_2.eq_1] at hM
  refine enterV En_ok En_mo noJ Try.func24 rfl Try.ntmps24 (by kernel_rfl) fun hw => ct_start ?_
  refine spQ ?_
  replace hw := nzQ hw
  have hM0 := hM; clear hM; obtain ⟨x1, hx2, hM⟩ := letk_opn hM0; clear hM0
  have hcx1 := slices_IndexFunc_api_Escrow_api_Escrow_at_specielaw38_great_2_ok z0 s 
  rw [← hx2] at hcx1
  refine callC_give hcx1 clQ clQ (fun hw3 => ?_)
  replace hw3 := nzQ hw3
  refine spQ ?_
  subst hM
  exact retC_view lfQ
set_option maxHeartbeats 2000000 in
set_option maxRecDepth 100000 in
theorem specielaw38_great_ok   (p_ : S_api_Payment)  : CallOk En 6 [.agg [.int .i64 p_.Number, .sl none 80 true (p_.Spends.map e_api_Spend), .sl none 81 true (p_.Chains.map e_api_Chain), .sl none 5 true (p_.Escrow.map e_api_Escrow)]] (.bool (specielaw38_great p_)) [] := by
  generalize hM : specielaw38_great p_ = r
  rw [specielaw38_great.eq_1] at hM
  refine enterV En_ok En_mo noJ Try.func6 rfl Try.ntmps6 (by kernel_rfl) fun hw => ct_start ?_
  refine spQ ?_
  replace hw := nzQ hw
  refine guardC_f (fun h1 => ?_) (fun h1 => ?_)
  · rw [if_neg (ne_true h1)] at hM
    refine spQA h1 ?_
    have nh1 := nzQ h1
    refine guardC_f (fun h2 => ?_) (fun h2 => ?_)
    · rw [if_neg (ne_true h2)] at hM
      refine spQA h2 ?_
      have nh2 := nzQ h2
      refine guardC_f (fun h3 => ?_) (fun h3 => ?_)
      · rw [if_neg (ne_true h3)] at hM
        refine spQA h3 ?_
        have nh3 := nzQ h3
        have hM0 := hM; clear hM; obtain ⟨x4, hx5, hM⟩ := letk_opn hM0; clear hM0
        have hcx4 := slices_ContainsFunc_api_Spend_api_Spend_at_specielaw38_long_ok none (p_.Spends) 
        rw [← hx5] at hcx4
        refine callC_give hcx4 clQ clQ (fun hw6 => ?_)
        replace hw6 := nzQ hw6
        refine spQ ?_
        refine condC_intro (fun h7 => ?_) (fun h7 => ?_)
        · subst h7
          rw [if_pos rfl] at hM
          refine spQ ?_
          subst hM
          exact retC_view (lfQA (And.intro h1 (And.intro h2 h3)))
        · subst h7
          rw [if_neg (by decide)] at hM
          refine spQ ?_
          have hM0 := hM; clear hM; obtain ⟨x8, hx9, hM⟩ := letk_opn hM0; clear hM0
          have hcx8 := slices_ContainsFunc_api_Chain_api_Chain_at_specielaw38_great_1_ok none (p_.Chains) 
          rw [← hx9] at hcx8
          refine callC_give hcx8 clQ clQ (fun hw10 => ?_)
          replace hw10 := nzQ hw10
          refine spQ ?_
          refine guardC_f (fun h11 => ?_) (fun h11 => ?_)
          · subst h11
            rw [if_neg (by decide)] at hM
            refine spQ ?_
            have hM0 := hM; clear hM; obtain ⟨x12, hx13, hM⟩ := letk_opn hM0; clear hM0
            have hcx12 := slices_ContainsFunc_api_Escrow_api_Escrow_at_specielaw38_great_2_ok none (p_.Escrow) 
            rw [← hx13] at hcx12
            refine callC_give hcx12 clQ clQ (fun hw14 => ?_)
            replace hw14 := nzQ hw14
            refine spQ ?_
            subst hM
            exact retC_view (lfQA (And.intro h1 (And.intro h2 h3)))
          · subst h11
            rw [if_pos rfl] at hM
            refine spQ ?_
            subst hM
            exact retC_view (lfQA (And.intro h1 (And.intro h2 h3)))
      · rw [if_pos h3] at hM
        refine spQA h3 ?_
        have nh3 := nzQ h3
        subst hM
        exact retC_view (lfQA (And.intro h1 (And.intro h2 h3)))
    · rw [if_pos h2] at hM
      refine spQA h2 ?_
      have nh2 := nzQ h2
      subst hM
      exact retC_view (lfQA (And.intro h1 h2))
  · rw [if_pos h1] at hM
    refine spQA h1 ?_
    have nh1 := nzQ h1
    subst hM
    exact retC_view (lfQA h1)
set_option maxRecDepth 100000 in
theorem slices_Clone_byte_byte_ok (z0 : Option Bool) (s : List Int) : CallOk En 83 [.sl z0 1 false (s.map (V.int .u8))] (.own 0) [.own 5 1 false none ((slices_Clone_byte_byte s).map (V.int .u8))] := by
  show CallOk En 83 [.sl z0 1 false (s.map (V.int .u8))] (.own 0) [.own 5 1 false none (s.map (V.int .u8))]
  refine callOk_nil (pre := []) (post := []) (fun hl => ?_) ?_ z0
  · have hl : s = [] := by cases s with | nil => rfl | cons a s => cases hl
    subst hl
    refine enterV En_ok En_mo noJ Try.func83 rfl Try.ntmps83 (by kernel_rfl) fun hw => ct_start ?_
    simp only [go_sem, rowV_eq, rowV_eq0, List.length_replicate, rep_len, Int.toNat_natCast, ↓reduceIte, Nat.reduceEqDiff, Nat.reduceAdd, Int.reduceAdd, Nat.reduceMul, Nat.reduceLeDiff, Nat.reduceLT, Int.reduceLE, Int.reduceLT, Int.reduceNeg, Int.reduceToNat, List.nil_append]
    exact retC_nil (by decide)
  · refine enterV En_ok En_mo noJ Try.func83 rfl Try.ntmps83 (by kernel_rfl) fun hw => ct_start ?_
    simp only [go_sem, rowV_eq, rowV_eq0, List.length_replicate, rep_len, Int.toNat_natCast, ↓reduceIte, Nat.reduceEqDiff, Nat.reduceAdd, Int.reduceAdd, Nat.reduceMul, Nat.reduceLeDiff, Nat.reduceLT, Int.reduceLE, Int.reduceLT, Int.reduceNeg, Int.reduceToNat, List.nil_append]
    have hn : s.length ≤ 1073741824 := by have h := hw; simp only [wfL, wfV, List.nil_append, LEN_eq, List.length_map] at h; exact h.1.1
    refine bindC_intro (by first | omega | (simp only [List.length_map, List.length_nil, List.nil_append]; omega)) ?_
    refine spQ ?_
    refine retC_ownZ 0 rfl clQ
set_option maxHeartbeats 2000000 in
set_option maxRecDepth 100000 in
theorem spend_bytes_ok   (h_ : (List Int))  : CallOk En 60 [(e_arr45 h_)] (.agg [.int .i64 (spend_bytes h_).Kind, .int .i64 (spend_bytes h_).N, .sl none 1 false ((spend_bytes h_).B.map (V.int .u8)), .sl none 4 true ((spend_bytes h_).L.map e_api_Item)]) [] := by
  generalize hM : spend_bytes h_ = r
  rw [spend_bytes.eq_1] at hM
  refine enterV En_ok En_mo noJ Try.func60 rfl Try.ntmps60 (by kernel_rfl) fun hw => ct_start ?_
  refine spQ ?_
  replace hw := nzQ hw
  have hM0 := hM; clear hM; obtain ⟨x1, hx2, hM⟩ := letk_opn hM0; clear hM0
  have hcx1 := slices_Clone_byte_byte_ok (some false) (arrN 32 h_) 
  rw [← hx2] at hcx1
  refine callC_give hcx1 clQ clQ (fun hw3 => ?_)
  replace hw3 := nzQ hw3
  refine spQ ?_
  subst hM
  exact retC_view lfQ
set_option maxHeartbeats 2000000 in
set_option maxRecDepth 100000 in
theorem encode_Ints_ok  (z0 : Option Bool) (l : (List Int))  : CallOk En 63 [.sl z0 1 false (l.map (V.int .i64))] (.agg [.int .i64 (encode_Ints l).Kind, .int .i64 (encode_Ints l).N, .sl none 1 false ((encode_Ints l).B.map (V.int .u8)), .sl none 4 true ((encode_Ints l).L.map e_api_Item)]) [] := by
  generalize hM : encode_Ints l = r
  rw [encode_Ints.eq_1] at hM
  refine enterV En_ok En_mo noJ Try.func63 rfl Try.ntmps63 (by kernel_rfl) fun hw => ct_start ?_
  refine spQ ?_
  replace hw := nzQ hw
  have hM0 := hM; clear hM; obtain ⟨f1, d1, hf1, hd1, hM⟩ := iter_opn hM0; clear hM0
  refine ct_loopW (fun n S => ∃ p : Int × List S_api_Item, S = (⟨[(2, .ptr 0 0), (3, .ptr 1 0), (7, .sl z0 1 false (l.map (V.int .i64))), (8, .int .i64 (l.length : Int)), (9, .int .i64 p.1)], [(0, .var 4 true (.agg [.int .i64 0, .int .i64 0, .sl (some true) 1 false [], .sl (some true) 4 true []])), (1, .var 4 true (.agg [.int .i64 3, .int .i64 0, .sl (some true) 1 false [], .own 2])), (2, .own 86 4 true none (p.2.map e_api_Item))], 3⟩ : St) ∧ ((0 ≤ p.1) ∧ (p.1 ≤ (l.length : Int)) ∧ (((p.2).length : Int) ≤ p.1)) ∧ ((l.length : Int) - p.1).toNat < n ∧ iter n f1 d1 p = r) (((l.length : Int) - 0).toNat + 1) _ (⟨[(2, .ptr 0 0), (3, .ptr 1 0), (7, .sl z0 1 false (l.map (V.int .i64))), (8, .int .i64 (l.length : Int)), (9, .int .i64 0)], [(0, .var 4 true (.agg [.int .i64 0, .int .i64 0, .sl (some true) 1 false [], .sl (some true) 4 true []])), (1, .var 4 true (.agg [.int .i64 3, .int .i64 0, .sl (some true) 1 false [], .own 2])), (2, .own 86 4 true none (([] : List S_api_Item).map e_api_Item))], 3⟩ : St) (weak_nilV 1 3 86 rfl rfl (by decide)) sbQ sbQ ⟨(0, ([] : List S_api_Item)), rfl, ⟨omQ, omQ, omQ⟩, (Nat.lt_succ_self _), hM⟩ ?_
  clear hM
  rintro n1 S ⟨p1, rfl, hfa1, hm1, hM⟩
  have hM0 := hM; clear hM; obtain ⟨ag1, hag1, hM⟩ := iter_step hM0 (by omega) hf1; clear hM0
  replace hfa1 := nzQ hfa1
  replace hm1 := nzQ hm1
  have ha1 : addI .i64 p1.1 1 = p1.1 + 1 := add_one omQ omQ
  refine spQA ha1 ?_
  refine condC_intro (fun h2 => ?_) (fun h2 => ?_)
  · rw [if_pos h2] at hM
    refine spQA (And.intro ha1 h2) ?_
    have nh2 := nzQ h2
    refine bindC_intro omQ ?_
    have he3 := fun d => elt_mp (l := l) (f := (V.int .i64)) (i := p1.1) omQ d
    refine spQA (And.intro ha1 he3) ?_
    refine bindC_intro omQ ?_
    refine spQA (And.intro ha1 he3) ?_
    refine lp_intro (n1 - 1) (⟨[(2, .ptr 0 0), (3, .ptr 1 0), (7, .sl z0 1 false (l.map (V.int .i64))), (8, .int .i64 (l.length : Int)), (9, .int .i64 (p1.1 + 1))], [(0, .var 4 true (.agg [.int .i64 0, .int .i64 0, .sl (some true) 1 false [], .sl (some true) 4 true []])), (1, .var 4 true (.agg [.int .i64 3, .int .i64 0, .sl (some true) 1 false [], .own 2])), (2, .own 86 4 true none ((p1.2 ++ ([({ Kind := 1, N := (gt l p1.1), B := ([] : List Int), L := ([] : List S_api_Item) } : S_api_Item)] : List S_api_Item)).map e_api_Item))], 3⟩ : St) (by omega) sbQ sbQ ⟨((p1.1 + 1), (p1.2 ++ ([({ Kind := 1, N := (gt l p1.1), B := ([] : List Int), L := ([] : List S_api_Item) } : S_api_Item)] : List S_api_Item))), rfl, ⟨omQ, omQ, omQ⟩, omQ, iter_again hM hag1⟩
  · rw [if_neg (ne_true h2)] at hM
    refine spQA (And.intro ha1 h2) ?_
    have nh2 := nzQ h2
    subst hM
    exact retC_view (lfQA (And.intro ha1 h2))
set_option maxHeartbeats 2000000 in
set_option maxRecDepth 100000 in
theorem coin_writer_ints_ok  (z0_1 : Option Bool) (z1 : Option Bool) (w_ : S_coin_writer) (l_ : (List Int)) (hp0 : w_.l.length ≤ 1000) : CallIn En 84 [.ptr 0 0, .sl z1 1 false (l_.map (V.int .i64))] [.var 1 true (.agg [.own 1]), .own 86 4 true z0_1 (w_.l.map e_api_Item)] (.tup []) [.var 1 true (.agg [.own 1]), .own 86 4 true none ((coin_writer_ints w_ l_).l.map e_api_Item)] [] := by
  generalize hM : coin_writer_ints w_ l_ = r
  rw [coin_writer_ints.eq_1] at hM
  refine enterI En_ok En_mo noJ Try.func84 rfl Try.ntmps84 (by kernel_rfl) rfl fun ks hw hwB => ct_start ?_
  refine spQ ?_
  replace hw := nzQ hw
  try simp only [wfBs, wfB, decide_eq_true_eq, decide_eq_false_iff_not, Bool.and_eq_true, Bool.or_eq_true, Bool.not_eq_true', Bool.not_eq_false', beq_iff_eq, bne_iff_ne, beq_eq_false_iff_ne, bne_eq_false_iff_eq, ne_eq, Int.not_lt, Int.not_le, gt_iff_lt, ge_iff_le, List.length_map, wfL, wfV, and_true, true_and, LEN_eq, rng_i64, rng_u64, rng_u32, rng_i32, sl_len, st_len, List.length_append, List.length_cons, List.length_nil, List.length_replicate, rep_len, rowV_len, spl_len, cutN_len, arrN_len, nat8_len, remI_nn] at hwB
  refine ct_draw 16 14 [4, 5, 6, 7, 8, 9, 10, 11, 12, 13, 14, 15] [] [[], [0], [0, 1], [0, 1, 2], [], [4], [0, 1, 2, 3], [], [0, 1, 2, 3, 6, 7], [0, 1, 2, 3, 6, 7, 8], [0, 1, 2, 3, 4, 5, 6, 7, 8, 9], [0], [0, 11], [0, 1, 2, 3, 7, 8, 11, 12]] [(8, 1), (10, 10), (13, 0)] (by kernel_rfl) (by exact alQ) ?_
  refine spQ ?_
  have hM0 := hM; clear hM; obtain ⟨x1, hx2, hM⟩ := letk_opn hM0; clear hM0
  have hcx1 := encode_Ints_ok z1 l_ 
  rw [← hx2] at hcx1
  refine hcallC_give hcx1 clQ clQ ?_
  refine spQ ?_
  refine hbindC_introA omQ clQ ?_
  refine spQ ?_
  refine hbindC_intro omQ ?_
  have he3 : ∀ d, elt ((w_.l ++ ([z_api_Item] : List S_api_Item)).map e_api_Item) w_.l.length d = e_api_Item (gt (w_.l ++ ([z_api_Item] : List S_api_Item)) (w_.l.length : Int)) := fun d => elt_mp (l := (w_.l ++ ([z_api_Item] : List S_api_Item))) (f := e_api_Item) (i := (w_.l.length : Int)) omQ d
  refine spQA he3 ?_
  refine hbindC_introU omQ clQ ?_
  refine spQA he3 ?_
  subst hM
  exact retCI_in [0, 10] (by simp only [go_sem, rowV_eq, rowV_eq0, List.length_replicate, rep_len, Int.toNat_natCast, ↓reduceIte, Nat.reduceEqDiff, Nat.reduceAdd, Int.reduceAdd, Nat.reduceMul, Nat.reduceLeDiff, Nat.reduceLT, Int.reduceLE, Int.reduceLT, Int.reduceNeg, Int.reduceToNat, mt, mtL, mtL_self, mt_self, mtZ, and_self, eq_self, or_true, true_or, map_st, he3, gt_cons0, gt_conss, Int.reduceSub, or_self]) (by decide) (by simp only [go_sem, rowV_eq, rowV_eq0, List.length_replicate, rep_len, Int.toNat_natCast, ↓reduceIte, Nat.reduceEqDiff, Nat.reduceAdd, Int.reduceAdd, Nat.reduceMul, Nat.reduceLeDiff, Nat.reduceLT, Int.reduceLE, Int.reduceLT, Int.reduceNeg, Int.reduceToNat, mt, mtL, mtL_self, mt_self, mtZ, and_self, eq_self, or_true, true_or, map_st, he3, gt_cons0, gt_conss, Int.reduceSub, or_self])
set_option maxHeartbeats 2000000 in
set_option maxRecDepth 100000 in
theorem coin_writer_bytes_ok  (z0_1 : Option Bool) (z1 : Option Bool) (w_ : S_coin_writer) (b : (List Int)) (hp0 : w_.l.length ≤ 1000) : CallIn En 85 [.ptr 0 0, .sl z1 1 false (b.map (V.int .u8))] [.var 1 true (.agg [.own 1]), .own 86 4 true z0_1 (w_.l.map e_api_Item)] (.tup []) [.var 1 true (.agg [.own 1]), .own 86 4 true none ((coin_writer_bytes w_ b).l.map e_api_Item)] [] := by
  generalize hM : coin_writer_bytes w_ b = r
  rw [coin_writer_bytes.eq_1] at hM
  refine enterI En_ok En_mo noJ Try.func85 rfl Try.ntmps85 (by kernel_rfl) rfl fun ks hw hwB => ct_start ?_
  refine spQ ?_
  replace hw := nzQ hw
  try simp only [wfBs, wfB, decide_eq_true_eq, decide_eq_false_iff_not, Bool.and_eq_true, Bool.or_eq_true, Bool.not_eq_true', Bool.not_eq_false', beq_iff_eq, bne_iff_ne, beq_eq_false_iff_ne, bne_eq_false_iff_eq, ne_eq, Int.not_lt, Int.not_le, gt_iff_lt, ge_iff_le, List.length_map, wfL, wfV, and_true, true_and, LEN_eq, rng_i64, rng_u64, rng_u32, rng_i32, sl_len, st_len, List.length_append, List.length_cons, List.length_nil, List.length_replicate, rep_len, rowV_len, spl_len, cutN_len, arrN_len, nat8_len, remI_nn] at hwB
  refine ct_draw 17 15 [4, 5, 6, 7, 8, 9, 10, 11, 12, 13, 14, 15, 16] [] [[], [0], [0, 1], [0, 1, 2], [], [4], [4, 5], [0, 1, 2, 3], [], [0, 1, 2, 3, 7, 8], [0, 1, 2, 3, 7, 8, 9], [0, 1, 2, 3, 4, 5, 6, 7, 8, 9, 10], [0], [0, 12], [0, 1, 2, 3, 8, 9, 12, 13]] [(9, 1), (11, 11), (14, 0)] (by kernel_rfl) (by exact alQ) ?_
  refine spQ ?_
  have hM0 := hM; clear hM; obtain ⟨x1, hx2, hM⟩ := letk_opn hM0; clear hM0
  have hcx1 := CallOk.pub (slices_Clone_byte_byte_ok z1 b )
  rw [← hx2] at hcx1
  refine hcallC_give hcx1 clQ clQ ?_
  refine spQ ?_
  refine hbindC_introA omQ clQ ?_
  refine spQ ?_
  refine hbindC_intro omQ ?_
  have he3 : ∀ d, elt ((w_.l ++ ([z_api_Item] : List S_api_Item)).map e_api_Item) w_.l.length d = e_api_Item (gt (w_.l ++ ([z_api_Item] : List S_api_Item)) (w_.l.length : Int)) := fun d => elt_mp (l := (w_.l ++ ([z_api_Item] : List S_api_Item))) (f := e_api_Item) (i := (w_.l.length : Int)) omQ d
  refine spQA he3 ?_
  refine hbindC_introU omQ clQ ?_
  refine spQA he3 ?_
  subst hM
  exact retCI_in [0, 11] (by simp only [go_sem, rowV_eq, rowV_eq0, List.length_replicate, rep_len, Int.toNat_natCast, ↓reduceIte, Nat.reduceEqDiff, Nat.reduceAdd, Int.reduceAdd, Nat.reduceMul, Nat.reduceLeDiff, Nat.reduceLT, Int.reduceLE, Int.reduceLT, Int.reduceNeg, Int.reduceToNat, mt, mtL, mtL_self, mt_self, mtZ, and_self, eq_self, or_true, true_or, map_st, he3, gt_cons0, gt_conss, Int.reduceSub, or_self]) (by decide) (by simp only [go_sem, rowV_eq, rowV_eq0, List.length_replicate, rep_len, Int.toNat_natCast, ↓reduceIte, Nat.reduceEqDiff, Nat.reduceAdd, Int.reduceAdd, Nat.reduceMul, Nat.reduceLeDiff, Nat.reduceLT, Int.reduceLE, Int.reduceLT, Int.reduceNeg, Int.reduceToNat, mt, mtL, mtL_self, mt_self, mtZ, and_self, eq_self, or_true, true_or, map_st, he3, gt_cons0, gt_conss, Int.reduceSub, or_self])
set_option maxHeartbeats 2000000 in
set_option maxRecDepth 100000 in
theorem coin_Item_ok   (c : S_api_Coin)  : CallOk En 62 [(e_api_Coin c)] (.agg [.int .i64 (coin_Item c).Kind, .int .i64 (coin_Item c).N, .sl none 1 false ((coin_Item c).B.map (V.int .u8)), .sl none 4 true ((coin_Item c).L.map e_api_Item)]) [] := by
  generalize hM : coin_Item c = r
  rw [coin_Item.eq_1] at hM
  refine enterV En_ok En_mo [2] Try.func62 rfl Try.ntmps62 (by kernel_rfl) fun hw => ct_start ?_
  refine spQ ?_
  replace hw := nzQ hw
  refine seqC_pass ?_
  refine spQ ?_
  refine cut_weakW _ (⟨[(1, .ptr 0 0), (2, .ptr 1 0), (3, .ptr 2 0)], [(0, .pvar 41 true ((e_api_Coin c))), (1, .var 4 true (.agg [.int .i64 0, .int .i64 0, .sl (some true) 1 false [], .sl (some true) 4 true []])), (2, .var 1 true (.agg [.sl (some true) 4 true []]))], 3⟩ : St) (weak_pubv (S := ⟨_, _, _⟩) 0 (n := 41) (g := true) (d := (e_api_Coin c)) clQ clQ) sbQ sbQ ?_
  try refine spQ ?_
  have hM0 := hM; clear hM; obtain ⟨x1, hx2, hM⟩ := letk_opn hM0; clear hM0
  have hcx1 := coin_writer_ints_ok (some true) (some false) z_coin_writer ([c.Bank, c.Epoch, c.Denom, c.Depth, c.A] : List Int) (by (have h0 : z_coin_writer.l.length = 0 := rfl; omega))
  rw [← hx2] at hcx1
  refine callC_inQ [2, 4] hcx1 ((weakQ_nilV 2 0 86 rfl rfl (by decide)).trans (weakP_pub 3 (T := 3) (n := 1) (g := false) (z := (some false)) (l := ([c.Bank, c.Epoch, c.Denom, c.Depth, c.A] : List Int).map (V.int .i64)) clQ).toQ) (by decide) (by simp only [go_sem, rowV_eq, rowV_eq0, List.length_replicate, rep_len, Int.toNat_natCast, ↓reduceIte, Nat.reduceEqDiff, Nat.reduceAdd, Int.reduceAdd, Nat.reduceMul, Nat.reduceLeDiff, Nat.reduceLT, Int.reduceLE, Int.reduceLT, Int.reduceNeg, Int.reduceToNat, mt, mtL, mtL_self, mt_self, mtZ, and_self, eq_self, or_true, true_or]) (by simp only [go_sem, rowV_eq, rowV_eq0, List.length_replicate, rep_len, Int.toNat_natCast, ↓reduceIte, Nat.reduceEqDiff, Nat.reduceAdd, Int.reduceAdd, Nat.reduceMul, Nat.reduceLeDiff, Nat.reduceLT, Int.reduceLE, Int.reduceLT, Int.reduceNeg, Int.reduceToNat, mt, mtL, mtL_self, mt_self, mtZ, and_self, eq_self, or_true, true_or]) (fun hw3 => ?_)
  replace hw3 := nzQ hw3
  refine spQ ?_
  have hq4 := ints_len hx2
  replace hq4 := nzQ hq4
  have hM0 := hM; clear hM; obtain ⟨x5, hx6, hM⟩ := letk_opn hM0; clear hM0
  have hcx5 := coin_writer_bytes_ok none (some false) x1 (arrN 32 c.Root) (by (have h0 : z_coin_writer.l.length = 0 := rfl; omega))
  rw [← hx6] at hcx5
  refine callC_in [2, 4] hcx5 (by decide) (by simp only [go_sem, rowV_eq, rowV_eq0, List.length_replicate, rep_len, Int.toNat_natCast, ↓reduceIte, Nat.reduceEqDiff, Nat.reduceAdd, Int.reduceAdd, Nat.reduceMul, Nat.reduceLeDiff, Nat.reduceLT, Int.reduceLE, Int.reduceLT, Int.reduceNeg, Int.reduceToNat, mt, mtL, mtL_self, mt_self, mtZ, and_self, eq_self, or_true, true_or]) (by simp only [go_sem, rowV_eq, rowV_eq0, List.length_replicate, rep_len, Int.toNat_natCast, ↓reduceIte, Nat.reduceEqDiff, Nat.reduceAdd, Int.reduceAdd, Nat.reduceMul, Nat.reduceLeDiff, Nat.reduceLT, Int.reduceLE, Int.reduceLT, Int.reduceNeg, Int.reduceToNat, mt, mtL, mtL_self, mt_self, mtZ, and_self, eq_self, or_true, true_or]) (fun hw7 => ?_)
  replace hw7 := nzQ hw7
  refine spQ ?_
  have hq8 := bytes_len hx6
  replace hq8 := nzQ hq8
  have hM0 := hM; clear hM; obtain ⟨x9, hx10, hM⟩ := letk_opn hM0; clear hM0
  have hcx9 := coin_writer_ints_ok none (some false) x5 ([c.Sign.Z, c.Sign.A, c.Sign.B, c.Sign.R] : List Int) (by (have h0 : z_coin_writer.l.length = 0 := rfl; omega))
  rw [← hx10] at hcx9
  refine callC_inP [2, 4] hcx9 (weakP_pub 5 (T := 3) (n := 1) (g := false) (z := (some false)) (l := ([c.Sign.Z, c.Sign.A, c.Sign.B, c.Sign.R] : List Int).map (V.int .i64)) clQ) (by decide) (by simp only [go_sem, rowV_eq, rowV_eq0, List.length_replicate, rep_len, Int.toNat_natCast, ↓reduceIte, Nat.reduceEqDiff, Nat.reduceAdd, Int.reduceAdd, Nat.reduceMul, Nat.reduceLeDiff, Nat.reduceLT, Int.reduceLE, Int.reduceLT, Int.reduceNeg, Int.reduceToNat, mt, mtL, mtL_self, mt_self, mtZ, and_self, eq_self, or_true, true_or]) (by simp only [go_sem, rowV_eq, rowV_eq0, List.length_replicate, rep_len, Int.toNat_natCast, ↓reduceIte, Nat.reduceEqDiff, Nat.reduceAdd, Int.reduceAdd, Nat.reduceMul, Nat.reduceLeDiff, Nat.reduceLT, Int.reduceLE, Int.reduceLT, Int.reduceNeg, Int.reduceToNat, mt, mtL, mtL_self, mt_self, mtZ, and_self, eq_self, or_true, true_or]) (fun hw11 => ?_)
  replace hw11 := nzQ hw11
  refine spQ ?_
  have hq12 := ints_len hx10
  replace hq12 := nzQ hq12
  subst hM
  exact retC_view lfQ
set_option maxHeartbeats 2000000 in
set_option maxRecDepth 100000 in
theorem spend_list_ok  (z0 : Option Bool) (l : (List S_api_Item))  : CallOk En 61 [.sl z0 4 true (l.map e_api_Item)] (.agg [.int .i64 (spend_list l).Kind, .int .i64 (spend_list l).N, .sl none 1 false ((spend_list l).B.map (V.int .u8)), .sl none 4 true ((spend_list l).L.map e_api_Item)]) [] := by
  generalize hM : spend_list l = r
  rw [spend_list.eq_1] at hM
  refine enterV En_ok En_mo noJ Try.func61 rfl Try.ntmps61 (by kernel_rfl) fun hw => ct_start ?_
  refine spQ ?_
  replace hw := nzQ hw
  subst hM
  exact retC_view lfQ
set_option maxHeartbeats 2000000 in
set_option maxRecDepth 100000 in
theorem spend_Item_ok   (s : S_api_Spend) (hp0 : okSp s) : CallOk En 29 [(e_api_Spend s)] (.agg [.int .i64 (spend_Item s).Kind, .int .i64 (spend_Item s).N, .sl none 1 false ((spend_Item s).B.map (V.int .u8)), .sl none 4 true ((spend_Item s).L.map e_api_Item)]) [] := by
  generalize hM : spend_Item s = r
  rw [spend_Item.eq_1] at hM
  refine enterV En_ok En_mo [13] Try.func29 rfl Try.ntmps29 (by kernel_rfl) fun hw => ct_start ?_
  refine spQ ?_
  replace hw := nzQ hw
  have hM0 := hM; clear hM; obtain ⟨f1, d1, hf1, hd1, hM⟩ := iter_opn hM0; clear hM0
  refine ct_loopW (fun n S => ∃ p : Int × List Int, S = (⟨[(1, .ptr 0 0), (2, .ptr 1 0), (3, .own 2), (10, .sl none 3 true (s.Leaves.map e_api_Leaf)), (11, .int .i64 (s.Leaves.length : Int)), (12, .int .i64 p.1)], [(0, .var 80 true ((e_api_Spend s))), (1, .var 4 true (.agg [.int .i64 0, .int .i64 0, .sl (some true) 1 false [], .sl (some true) 4 true []])), (2, .own 3 1 false none (p.2.map (V.int .i64)))], 3⟩ : St) ∧ ((0 ≤ p.1) ∧ (p.1 ≤ (s.Leaves.length : Int)) ∧ (((p.2).length : Int) = 3 * p.1)) ∧ ((s.Leaves.length : Int) - p.1).toNat < n ∧ iter n f1 d1 p = r) (((s.Leaves.length : Int) - 0).toNat + 1) _ (⟨[(1, .ptr 0 0), (2, .ptr 1 0), (3, .own 2), (10, .sl none 3 true (s.Leaves.map e_api_Leaf)), (11, .int .i64 (s.Leaves.length : Int)), (12, .int .i64 0)], [(0, .var 80 true ((e_api_Spend s))), (1, .var 4 true (.agg [.int .i64 0, .int .i64 0, .sl (some true) 1 false [], .sl (some true) 4 true []])), (2, .own 3 1 false none (([] : List Int).map (V.int .i64)))], 3⟩ : St) (weak_nil 3 3 rfl (by decide)) sbQ sbQ ⟨(0, ([] : List Int)), rfl, ⟨by (first | exact omQ | (clear hM; first | (have h9 := hp0.1; have h8 := hp0.2; exact omQ'))), by (first | exact omQ | (clear hM; first | (have h9 := hp0.1; have h8 := hp0.2; exact omQ'))), by (first | exact omQ | (clear hM; first | (have h9 := hp0.1; have h8 := hp0.2; exact omQ')))⟩, (Nat.lt_succ_self _), hM⟩ ?_
  clear hM
  rintro n1 S ⟨p1, rfl, hfa1, hm1, hM⟩
  have hM0 := hM; clear hM; obtain ⟨ag1, hag1, hM⟩ := iter_step hM0 (by omega) hf1; clear hM0
  replace hfa1 := nzQ hfa1
  replace hm1 := nzQ hm1
  have ha1 : addI .i64 p1.1 1 = p1.1 + 1 := add_one (by (first | exact omQ | (clear hM; first | (have h9 := hp0.1; have h8 := hp0.2; exact omQ')))) (by (first | exact omQ | (clear hM; first | (have h9 := hp0.1; have h8 := hp0.2; exact omQ'))))
  refine spQA ha1 ?_
  refine condC_intro (fun h2 => ?_) (fun h2 => ?_)
  · rw [if_pos h2] at hM
    refine spQA (And.intro ha1 h2) ?_
    have nh2 := nzQ h2
    refine bindC_intro (by (first | exact omQ | (clear hM; first | (have h9 := hp0.1; have h8 := hp0.2; exact omQ')))) ?_
    have he3 := fun d => elt_mp (l := s.Leaves) (f := e_api_Leaf) (i := p1.1) (by (first | exact omQ | (clear hM; first | (have h9 := hp0.1; have h8 := hp0.2; exact omQ')))) d
    refine spQA (And.intro ha1 he3) ?_
    refine bindC_intro (by (first | exact omQ | (clear hM; first | (have h9 := hp0.1; have h8 := hp0.2; exact omQ')))) ?_
    refine spQA (And.intro ha1 he3) ?_
    refine lp_intro (n1 - 1) (⟨[(1, .ptr 0 0), (2, .ptr 1 0), (3, .own 2), (10, .sl none 3 true (s.Leaves.map e_api_Leaf)), (11, .int .i64 (s.Leaves.length : Int)), (12, .int .i64 (p1.1 + 1))], [(0, .var 80 true ((e_api_Spend s))), (1, .var 4 true (.agg [.int .i64 0, .int .i64 0, .sl (some true) 1 false [], .sl (some true) 4 true []])), (2, .own 3 1 false none ((p1.2 ++ ([(gt s.Leaves p1.1).B, (gt s.Leaves p1.1).R1, (gt s.Leaves p1.1).R2] : List Int)).map (V.int .i64)))], 3⟩ : St) (by omega) sbQ sbQ ⟨((p1.1 + 1), (p1.2 ++ ([(gt s.Leaves p1.1).B, (gt s.Leaves p1.1).R1, (gt s.Leaves p1.1).R2] : List Int))), rfl, ⟨by (first | exact omQ | (clear hM; first | (have h9 := hp0.1; have h8 := hp0.2; exact omQ'))), by (first | exact omQ | (clear hM; first | (have h9 := hp0.1; have h8 := hp0.2; exact omQ'))), by (first | exact omQ | (clear hM; first | (have h9 := hp0.1; have h8 := hp0.2; exact omQ')))⟩, by (first | exact omQ | (clear hM; first | (have h9 := hp0.1; have h8 := hp0.2; exact omQ'))), iter_again hM hag1⟩
  · rw [if_neg (ne_true h2)] at hM
    refine spQA (And.intro ha1 h2) ?_
    have nh2 := nzQ h2
    refine seqC_pass ?_
    refine spQA ha1 ?_
    have hM0 := hM; clear hM; obtain ⟨f4, d4, hf4, hd4, hM⟩ := iter_opn hM0; clear hM0
    refine ct_loop (fun n S => ∃ p : Int × List S_api_Item, S = (⟨[(1, .ptr 0 0), (2, .ptr 1 0), (3, .own 2), (6, .own 3), (33, .sl none 32 true (s.Path.L.map e_arr45)), (34, .int .i64 (s.Path.L.length : Int)), (35, .int .i64 p.1)], [(0, .var 80 true ((e_api_Spend s))), (1, .var 4 true (.agg [.int .i64 0, .int .i64 0, .sl (some true) 1 false [], .sl (some true) 4 true []])), (2, .own 3 1 false none (p1.2.map (V.int .i64))), (3, .own 86 4 true none (p.2.map e_api_Item))], 4⟩ : St) ∧ ((0 ≤ p.1) ∧ (p.1 ≤ (s.Path.L.length : Int)) ∧ (((p.2).length : Int) ≤ p.1 + (([({ Kind := 1, N := s.Path.Index, B := ([] : List Int), L := ([] : List S_api_Item) } : S_api_Item)] : List S_api_Item)).length)) ∧ ((s.Path.L.length : Int) - p.1).toNat < n ∧ iter n f4 d4 p = r) (((s.Path.L.length : Int) - 0).toNat + 1) (⟨[(1, .ptr 0 0), (2, .ptr 1 0), (3, .own 2), (6, .own 3), (33, .sl none 32 true (s.Path.L.map e_arr45)), (34, .int .i64 (s.Path.L.length : Int)), (35, .int .i64 0)], [(0, .var 80 true ((e_api_Spend s))), (1, .var 4 true (.agg [.int .i64 0, .int .i64 0, .sl (some true) 1 false [], .sl (some true) 4 true []])), (2, .own 3 1 false none (p1.2.map (V.int .i64))), (3, .own 86 4 true none (([({ Kind := 1, N := s.Path.Index, B := ([] : List Int), L := ([] : List S_api_Item) } : S_api_Item)] : List S_api_Item).map e_api_Item))], 4⟩ : St) sbQ sbQ ⟨(0, ([({ Kind := 1, N := s.Path.Index, B := ([] : List Int), L := ([] : List S_api_Item) } : S_api_Item)] : List S_api_Item)), rfl, ⟨by (first | exact omQ | (clear hM; first | (have h9 := hp0.1; have h8 := hp0.2; exact omQ'))), by (first | exact omQ | (clear hM; first | (have h9 := hp0.1; have h8 := hp0.2; exact omQ'))), by (first | exact omQ | (clear hM; first | (have h9 := hp0.1; have h8 := hp0.2; exact omQ')))⟩, (Nat.lt_succ_self _), hM⟩ ?_
    clear hM
    rintro n4 S ⟨p4, rfl, hfa4, hm4, hM⟩
    have hM0 := hM; clear hM; obtain ⟨ag4, hag4, hM⟩ := iter_step hM0 (by omega) hf4; clear hM0
    replace hfa4 := nzQ hfa4
    replace hm4 := nzQ hm4
    have ha4 : addI .i64 p4.1 1 = p4.1 + 1 := add_one (by (first | exact omQ | (clear hM; first | (have h9 := hp0.1; have h8 := hp0.2; exact omQ')))) (by (first | exact omQ | (clear hM; first | (have h9 := hp0.1; have h8 := hp0.2; exact omQ'))))
    refine spQA (And.intro ha1 ha4) ?_
    refine condC_intro (fun h5 => ?_) (fun h5 => ?_)
    · rw [if_pos h5] at hM
      refine spQA (And.intro ha1 (And.intro ha4 h5)) ?_
      have nh5 := nzQ h5
      refine bindC_intro (by (first | exact omQ | (clear hM; first | (have h9 := hp0.1; have h8 := hp0.2; exact omQ')))) ?_
      have he6 := fun d => elt_mp (l := s.Path.L) (f := e_arr45) (i := p4.1) (by (first | exact omQ | (clear hM; first | (have h9 := hp0.1; have h8 := hp0.2; exact omQ')))) d
      refine spQA (And.intro ha1 (And.intro ha4 he6)) ?_
      have hM0 := hM; clear hM; obtain ⟨x7, hx8, hM⟩ := letk_opn hM0; clear hM0
      have hcx7 := spend_bytes_ok  (gt s.Path.L p4.1) 
      rw [← hx8] at hcx7
      refine callC_give hcx7 (clQA (And.intro ha1 (And.intro ha4 he6))) (clQA (And.intro ha1 (And.intro ha4 he6))) (fun hw9 => ?_)
      replace hw9 := nzQ hw9
      refine spQA (And.intro ha1 (And.intro ha4 he6)) ?_
      refine bindC_intro (by (first | exact omQ | (clear hM; first | (have h9 := hp0.1; have h8 := hp0.2; exact omQ')))) ?_
      refine spQA (And.intro ha1 (And.intro ha4 he6)) ?_
      refine lp_intro (n4 - 1) (⟨[(1, .ptr 0 0), (2, .ptr 1 0), (3, .own 2), (6, .own 3), (33, .sl none 32 true (s.Path.L.map e_arr45)), (34, .int .i64 (s.Path.L.length : Int)), (35, .int .i64 (p4.1 + 1))], [(0, .var 80 true ((e_api_Spend s))), (1, .var 4 true (.agg [.int .i64 0, .int .i64 0, .sl (some true) 1 false [], .sl (some true) 4 true []])), (2, .own 3 1 false none (p1.2.map (V.int .i64))), (3, .own 86 4 true none ((p4.2 ++ ([x7] : List S_api_Item)).map e_api_Item))], 4⟩ : St) (by omega) sbQ sbQ ⟨((p4.1 + 1), (p4.2 ++ ([x7] : List S_api_Item))), rfl, ⟨by (first | exact omQ | (clear hM; first | (have h9 := hp0.1; have h8 := hp0.2; exact omQ'))), by (first | exact omQ | (clear hM; first | (have h9 := hp0.1; have h8 := hp0.2; exact omQ'))), by (first | exact omQ | (clear hM; first | (have h9 := hp0.1; have h8 := hp0.2; exact omQ')))⟩, by (first | exact omQ | (clear hM; first | (have h9 := hp0.1; have h8 := hp0.2; exact omQ'))), iter_again hM hag4⟩
    · rw [if_neg (ne_true h5)] at hM
      refine spQA (And.intro ha1 (And.intro ha4 h5)) ?_
      have nh5 := nzQ h5
      refine cut_weakW _ (⟨[(1, .ptr 0 0), (2, .ptr 1 0), (3, .sl none 1 false (p1.2.map (V.int .i64))), (6, .sl none 4 true (p4.2.map e_api_Item))], [(0, .var 80 true ((e_api_Spend s))), (1, .var 4 true (.agg [.int .i64 0, .int .i64 0, .sl (some true) 1 false [], .sl (some true) 4 true []])), (2, .pown 1 false none (p1.2.map (V.int .i64))), (3, .pown 4 true none (p4.2.map e_api_Item))], 4⟩ : St) ((((weak_pub (S := ⟨_, _, _⟩) 2 (T := 3) (n := 1) (g := false) (z := none) (l := p1.2.map (V.int .i64)) (clQA (And.intro ha1 ha4))).trans (weak_slot (S := ⟨_, _, _⟩) 3 2 (n := 1) (g := false) (z := none) (l := p1.2.map (V.int .i64)) (clQA (And.intro ha1 ha4)) (clQA (And.intro ha1 ha4)))).trans (weak_pub (S := ⟨_, _, _⟩) 3 (T := 86) (n := 4) (g := true) (z := none) (l := p4.2.map e_api_Item) (clQA (And.intro ha1 ha4)))).trans (weak_slot (S := ⟨_, _, _⟩) 6 3 (n := 4) (g := true) (z := none) (l := p4.2.map e_api_Item) (clQA (And.intro ha1 ha4)) (clQA (And.intro ha1 ha4)))) sbQ sbQ ?_
      try refine spQA (And.intro ha1 ha4) ?_
      refine ct_draw 74 26 [45, 46, 47, 48, 49, 50, 51, 52, 53, 54, 55, 56, 57, 58, 59, 60, 61, 62, 63, 64, 65, 66, 67, 68, 69, 70] [] ([[], [0], [0, 1], [], [3], [3, 4], [], [6], [6, 7], [3, 4, 5, 6, 7, 8], [0, 1, 2, 3, 4, 5, 6, 7, 8, 9], [], [11], [11, 12], [0, 1, 2, 3, 4, 5, 6, 7, 8, 9, 10, 11, 12, 13], [], [15], [15, 16], [], [18], [18, 19], [15, 16, 17, 18, 19, 20], [0, 1, 2, 3, 4, 5, 6, 7, 8, 9, 10, 11, 12, 13, 14, 15, 16, 17, 18, 19, 20, 21], [], [0, 1, 2, 3, 4, 5, 6, 7, 8, 9, 10, 11, 12, 13, 14, 15, 16, 17, 18, 19, 20, 21, 22, 23], []] ++ [List.range 26, List.range 27, List.range 28, List.range 29]) [(9, 13), (21, 25)] (by kernel_rfl) (by exact alQ) ?_
      refine spQA (And.intro ha1 ha4) ?_
      have hM0 := hM; clear hM; obtain ⟨x10, hx11, hM⟩ := letk_opn hM0; clear hM0
      have hcx10 := coin_Item_ok  (s.Coin) 
      rw [← hx11] at hcx10
      refine hcallC_give hcx10 (clQA (And.intro ha1 ha4)) (clQA (And.intro ha1 ha4)) ?_
      refine spQA (And.intro ha1 ha4) ?_
      have hM0 := hM; clear hM; obtain ⟨x12, hx13, hM⟩ := letk_opn hM0; clear hM0
      have hcx12 := encode_Ints_ok (some false) ([s.Node.Level, s.Node.Index] : List Int) 
      rw [← hx13] at hcx12
      refine hcallC_give hcx12 (clQA (And.intro ha1 ha4)) (clQA (And.intro ha1 ha4)) ?_
      refine spQA (And.intro ha1 ha4) ?_
      have hM0 := hM; clear hM; obtain ⟨x14, hx15, hM⟩ := letk_opn hM0; clear hM0
      have hcx14 := spend_bytes_ok  (s.Context.Payee) 
      rw [← hx15] at hcx14
      refine hcallC_give hcx14 (clQA (And.intro ha1 ha4)) (clQA (And.intro ha1 ha4)) ?_
      refine spQA (And.intro ha1 ha4) ?_
      have hM0 := hM; clear hM; obtain ⟨x16, hx17, hM⟩ := letk_opn hM0; clear hM0
      have hcx16 := encode_Ints_ok (some false) ([s.Context.Time, s.Context.Number] : List Int) 
      rw [← hx17] at hcx16
      refine hcallC_give hcx16 (clQA (And.intro ha1 ha4)) (clQA (And.intro ha1 ha4)) ?_
      refine spQA (And.intro ha1 ha4) ?_
      have hM0 := hM; clear hM; obtain ⟨x18, hx19, hM⟩ := letk_opn hM0; clear hM0
      have hcx18 := encode_Ints_ok none (p1.2) 
      rw [← hx19] at hcx18
      refine hcallC_give hcx18 (clQA (And.intro ha1 ha4)) (clQA (And.intro ha1 ha4)) ?_
      refine spQA (And.intro ha1 ha4) ?_
      have hM0 := hM; clear hM; obtain ⟨x20, hx21, hM⟩ := letk_opn hM0; clear hM0
      have hcx20 := spend_list_ok none (p4.2) 
      rw [← hx21] at hcx20
      refine callC_give hcx20 (clQA (And.intro ha1 ha4)) (clQA (And.intro ha1 ha4)) (fun hw22 => ?_)
      replace hw22 := nzQ hw22
      refine spQA (And.intro ha1 ha4) ?_
      have hM0 := hM; clear hM; obtain ⟨x23, hx24, hM⟩ := letk_opn hM0; clear hM0
      have hcx23 := spend_list_ok (some false) ([x10, x12, x14, x16, x18, x20] : List S_api_Item) 
      rw [← hx24] at hcx23
      refine callC_giveP hcx23 (weakP_pub 30 (T := 86) (n := 4) (g := true) (z := (some false)) (l := ([x10, x12, x14, x16, x18, x20] : List S_api_Item).map e_api_Item) (clQA (And.intro ha1 ha4))) (clQA (And.intro ha1 ha4)) (fun hw25 => ?_)
      replace hw25 := nzQ hw25
      refine spQA (And.intro ha1 ha4) ?_
      subst hM
      exact retC_view (lfQA (And.intro ha1 (And.intro ha4 (And.intro h2 h5))))
set_option maxHeartbeats 2000000 in
set_option maxRecDepth 100000 in
theorem payment_list_api_Spend_at_spend_Item_ok  (z0 : Option Bool) (l : (List S_api_Spend)) (hp0 : ∀ x ∈ l, okSp x) : CallOk En 28 [.sl z0 80 true (l.map e_api_Spend), .fn 29 []] (.agg [.int .i64 (payment_list_api_Spend_at_spend_Item l).Kind, .int .i64 (payment_list_api_Spend_at_spend_Item l).N, .sl none 1 false ((payment_list_api_Spend_at_spend_Item l).B.map (V.int .u8)), .sl none 4 true ((payment_list_api_Spend_at_spend_Item l).L.map e_api_Item)]) [] := by
  generalize hM : payment_list_api_Spend_at_spend_Item l = r
  rw [payment_list_api_Spend_at_spend_Item.eq_1] at hM
  refine enterV En_ok En_mo noJ Try.func28 rfl Try.ntmps28 (by kernel_rfl) fun hw => ct_start ?_
  refine spQ ?_
  replace hw := nzQ hw
  have hM0 := hM; clear hM; obtain ⟨f1, d1, hf1, hd1, hM⟩ := iter_opn hM0; clear hM0
  refine ct_loopW (fun n S => ∃ p : Int × List S_api_Item, S = (⟨[(1, .fn 29 []), (4, .ptr 0 0), (5, .ptr 1 0), (9, .sl z0 80 true (l.map e_api_Spend)), (10, .int .i64 (l.length : Int)), (11, .int .i64 p.1)], [(0, .var 4 true (.agg [.int .i64 0, .int .i64 0, .sl (some true) 1 false [], .sl (some true) 4 true []])), (1, .var 4 true (.agg [.int .i64 3, .int .i64 0, .sl (some true) 1 false [], .own 2])), (2, .own 86 4 true none (p.2.map e_api_Item))], 3⟩ : St) ∧ ((0 ≤ p.1) ∧ (p.1 ≤ (l.length : Int)) ∧ (((p.2).length : Int) ≤ p.1)) ∧ ((l.length : Int) - p.1).toNat < n ∧ iter n f1 d1 p = r) (((l.length : Int) - 0).toNat + 1) _ (⟨[(1, .fn 29 []), (4, .ptr 0 0), (5, .ptr 1 0), (9, .sl z0 80 true (l.map e_api_Spend)), (10, .int .i64 (l.length : Int)), (11, .int .i64 0)], [(0, .var 4 true (.agg [.int .i64 0, .int .i64 0, .sl (some true) 1 false [], .sl (some true) 4 true []])), (1, .var 4 true (.agg [.int .i64 3, .int .i64 0, .sl (some true) 1 false [], .own 2])), (2, .own 86 4 true none (([] : List S_api_Item).map e_api_Item))], 3⟩ : St) (weak_nilV 1 3 86 rfl rfl (by decide)) sbQ sbQ ⟨(0, ([] : List S_api_Item)), rfl, ⟨omQ, omQ, omQ⟩, (Nat.lt_succ_self _), hM⟩ ?_
  clear hM
  rintro n1 S ⟨p1, rfl, hfa1, hm1, hM⟩
  have hM0 := hM; clear hM; obtain ⟨ag1, hag1, hM⟩ := iter_step hM0 (by omega) hf1; clear hM0
  replace hfa1 := nzQ hfa1
  replace hm1 := nzQ hm1
  have ha1 : addI .i64 p1.1 1 = p1.1 + 1 := add_one omQ omQ
  refine spQA ha1 ?_
  refine condC_intro (fun h2 => ?_) (fun h2 => ?_)
  · rw [if_pos h2] at hM
    refine spQA (And.intro ha1 h2) ?_
    have nh2 := nzQ h2
    refine bindC_intro omQ ?_
    have he3 := fun d => elt_mp (l := l) (f := e_api_Spend) (i := p1.1) omQ d
    refine spQA (And.intro ha1 he3) ?_
    refine ct_draw 25 6 [15, 16, 17, 18, 19, 20] [] ([[], [0], [], [], [2, 3], [2, 3, 4]] ++ [List.range 6, List.range 7, List.range 8]) [] (by kernel_rfl) (by exact alQ) ?_
    refine spQA (And.intro ha1 he3) ?_
    have hM0 := hM; clear hM; obtain ⟨x4, hx5, hM⟩ := letk_opn hM0; clear hM0
    have hcx4 := spend_Item_ok  (gt l p1.1) (by (exact hp0 _ (gt_mem (by omega))))
    rw [← hx5] at hcx4
    refine hcallC_give hcx4 (clQA (And.intro ha1 he3)) (clQA (And.intro ha1 he3)) ?_
    refine spQA (And.intro ha1 he3) ?_
    refine bindC_intro omQ ?_
    refine spQA (And.intro ha1 he3) ?_
    refine lp_intro (n1 - 1) (⟨[(1, .fn 29 []), (4, .ptr 0 0), (5, .ptr 1 0), (9, .sl z0 80 true (l.map e_api_Spend)), (10, .int .i64 (l.length : Int)), (11, .int .i64 (p1.1 + 1))], [(0, .var 4 true (.agg [.int .i64 0, .int .i64 0, .sl (some true) 1 false [], .sl (some true) 4 true []])), (1, .var 4 true (.agg [.int .i64 3, .int .i64 0, .sl (some true) 1 false [], .own 2])), (2, .own 86 4 true none ((p1.2 ++ ([x4] : List S_api_Item)).map e_api_Item))], 3⟩ : St) (by omega) sbQ sbQ ⟨((p1.1 + 1), (p1.2 ++ ([x4] : List S_api_Item))), rfl, ⟨omQ, omQ, omQ⟩, omQ, iter_again hM hag1⟩
  · rw [if_neg (ne_true h2)] at hM
    refine spQA (And.intro ha1 h2) ?_
    have nh2 := nzQ h2
    subst hM
    exact retC_view (lfQA (And.intro ha1 h2))
set_option maxHeartbeats 2000000 in
set_option maxRecDepth 100000 in
theorem payment_chainItem_ok   (h_ : S_api_Chain) (hp0 : okSp h_.First ∧ ∀ y ∈ h_.L, okSp y) : CallOk En 31 [(e_api_Chain h_)] (.agg [.int .i64 (payment_chainItem h_).Kind, .int .i64 (payment_chainItem h_).N, .sl none 1 false ((payment_chainItem h_).B.map (V.int .u8)), .sl none 4 true ((payment_chainItem h_).L.map e_api_Item)]) [] := by
  generalize hM : payment_chainItem h_ = r
  rw [payment_chainItem.eq_1] at hM
  refine enterV En_ok En_mo noJ Try.func31 rfl Try.ntmps31 (by kernel_rfl) fun hw => ct_start ?_
  refine spQ ?_
  replace hw := nzQ hw
  refine ct_draw 11 5 [3, 4, 5, 6, 7] [] ([[], [0], [0, 1], [], [3]] ++ [List.range 5, List.range 6, List.range 7, List.range 8]) [] (by kernel_rfl) (by exact alQ) ?_
  refine spQ ?_
  have hM0 := hM; clear hM; obtain ⟨x1, hx2, hM⟩ := letk_opn hM0; clear hM0
  have hcx1 := spend_Item_ok  (h_.First) (by (exact hp0.1))
  rw [← hx2] at hcx1
  refine hcallC_give hcx1 clQ clQ ?_
  refine spQ ?_
  have hM0 := hM; clear hM; obtain ⟨x3, hx4, hM⟩ := letk_opn hM0; clear hM0
  have hcx3 := payment_list_api_Spend_at_spend_Item_ok none (h_.L) (by (exact hp0.2))
  rw [← hx4] at hcx3
  refine callC_give hcx3 clQ clQ (fun hw5 => ?_)
  replace hw5 := nzQ hw5
  refine spQ ?_
  subst hM
  exact retC_view lfQ
set_option maxHeartbeats 2000000 in
set_option maxRecDepth 100000 in
theorem escrow_Item_ok   (x_ : S_api_Escrow)  : CallOk En 33 [(e_api_Escrow x_)] (.agg [.int .i64 (escrow_Item x_).Kind, .int .i64 (escrow_Item x_).N, .sl none 1 false ((escrow_Item x_).B.map (V.int .u8)), .sl none 4 true ((escrow_Item x_).L.map e_api_Item)]) [] := by
  generalize hM : escrow_Item x_ = r
  rw [escrow_Item.eq_1] at hM
  refine enterV En_ok En_mo noJ Try.func33 rfl Try.ntmps33 (by kernel_rfl) fun hw => ct_start ?_
  refine spQ ?_
  replace hw := nzQ hw
  refine ct_draw 23 18 [3, 4, 5, 6, 7, 8, 9, 10, 11, 12, 13, 14, 15, 16, 17, 18, 19, 20] [] ([[], [0], [], [2], [0, 1, 2, 3], [0, 1, 2, 3, 4], [], [6], [6, 7], [6, 7, 8], [], [10], [10, 11], [10, 11, 12], [], [14], [14, 15], [14, 15, 16]] ++ [List.range 18, List.range 19, List.range 20]) [(4, 6)] (by kernel_rfl) (by exact alQ) ?_
  refine spQ ?_
  have hM0 := hM; clear hM; obtain ⟨x1, hx2, hM⟩ := letk_opn hM0; clear hM0
  have hcx1 := encode_Ints_ok (some false) ([x_.E1, x_.E2] : List Int) 
  rw [← hx2] at hcx1
  refine hcallC_give hcx1 clQ clQ ?_
  refine spQ ?_
  have hM0 := hM; clear hM; obtain ⟨x3, hx4, hM⟩ := letk_opn hM0; clear hM0
  have hcx3 := encode_Ints_ok none (x_.Proof.A) 
  rw [← hx4] at hcx3
  refine hcallC_give hcx3 clQ clQ ?_
  refine spQ ?_
  have hM0 := hM; clear hM; obtain ⟨x5, hx6, hM⟩ := letk_opn hM0; clear hM0
  have hcx5 := encode_Ints_ok none (x_.Proof.Z) 
  rw [← hx6] at hcx5
  refine hcallC_give hcx5 clQ clQ ?_
  refine spQ ?_
  subst hM
  exact retC_view lfQ
set_option maxHeartbeats 2000000 in
set_option maxRecDepth 100000 in
theorem payment_list_api_Chain_at_payment_chainItem_ok  (z0 : Option Bool) (l : (List S_api_Chain)) (hp0 : ∀ x ∈ l, okSp x.First ∧ ∀ y ∈ x.L, okSp y) : CallOk En 30 [.sl z0 81 true (l.map e_api_Chain), .fn 31 []] (.agg [.int .i64 (payment_list_api_Chain_at_payment_chainItem l).Kind, .int .i64 (payment_list_api_Chain_at_payment_chainItem l).N, .sl none 1 false ((payment_list_api_Chain_at_payment_chainItem l).B.map (V.int .u8)), .sl none 4 true ((payment_list_api_Chain_at_payment_chainItem l).L.map e_api_Item)]) [] := by
  generalize hM : payment_list_api_Chain_at_payment_chainItem l = r
  rw [payment_list_api_Chain_at_payment_chainItem.eq_1] at hM
  refine enterV En_ok En_mo noJ Try.func30 rfl Try.ntmps30 (by kernel_rfl) fun hw => ct_start ?_
  refine spQ ?_
  replace hw := nzQ hw
  have hM0 := hM; clear hM; obtain ⟨f1, d1, hf1, hd1, hM⟩ := iter_opn hM0; clear hM0
  refine ct_loopW (fun n S => ∃ p : Int × List S_api_Item, S = (⟨[(1, .fn 31 []), (4, .ptr 0 0), (5, .ptr 1 0), (9, .sl z0 81 true (l.map e_api_Chain)), (10, .int .i64 (l.length : Int)), (11, .int .i64 p.1)], [(0, .var 4 true (.agg [.int .i64 0, .int .i64 0, .sl (some true) 1 false [], .sl (some true) 4 true []])), (1, .var 4 true (.agg [.int .i64 3, .int .i64 0, .sl (some true) 1 false [], .own 2])), (2, .own 86 4 true none (p.2.map e_api_Item))], 3⟩ : St) ∧ ((0 ≤ p.1) ∧ (p.1 ≤ (l.length : Int)) ∧ (((p.2).length : Int) ≤ p.1)) ∧ ((l.length : Int) - p.1).toNat < n ∧ iter n f1 d1 p = r) (((l.length : Int) - 0).toNat + 1) _ (⟨[(1, .fn 31 []), (4, .ptr 0 0), (5, .ptr 1 0), (9, .sl z0 81 true (l.map e_api_Chain)), (10, .int .i64 (l.length : Int)), (11, .int .i64 0)], [(0, .var 4 true (.agg [.int .i64 0, .int .i64 0, .sl (some true) 1 false [], .sl (some true) 4 true []])), (1, .var 4 true (.agg [.int .i64 3, .int .i64 0, .sl (some true) 1 false [], .own 2])), (2, .own 86 4 true none (([] : List S_api_Item).map e_api_Item))], 3⟩ : St) (weak_nilV 1 3 86 rfl rfl (by decide)) sbQ sbQ ⟨(0, ([] : List S_api_Item)), rfl, ⟨omQ, omQ, omQ⟩, (Nat.lt_succ_self _), hM⟩ ?_
  clear hM
  rintro n1 S ⟨p1, rfl, hfa1, hm1, hM⟩
  have hM0 := hM; clear hM; obtain ⟨ag1, hag1, hM⟩ := iter_step hM0 (by omega) hf1; clear hM0
  replace hfa1 := nzQ hfa1
  replace hm1 := nzQ hm1
  have ha1 : addI .i64 p1.1 1 = p1.1 + 1 := add_one omQ omQ
  refine spQA ha1 ?_
  refine condC_intro (fun h2 => ?_) (fun h2 => ?_)
  · rw [if_pos h2] at hM
    refine spQA (And.intro ha1 h2) ?_
    have nh2 := nzQ h2
    refine bindC_intro omQ ?_
    have he3 := fun d => elt_mp (l := l) (f := e_api_Chain) (i := p1.1) omQ d
    refine spQA (And.intro ha1 he3) ?_
    refine ct_draw 25 6 [15, 16, 17, 18, 19, 20] [] ([[], [0], [], [], [2, 3], [2, 3, 4]] ++ [List.range 6, List.range 7, List.range 8]) [] (by kernel_rfl) (by exact alQ) ?_
    refine spQA (And.intro ha1 he3) ?_
    have hM0 := hM; clear hM; obtain ⟨x4, hx5, hM⟩ := letk_opn hM0; clear hM0
    have hcx4 := payment_chainItem_ok  (gt l p1.1) (by (exact hp0 _ (gt_mem (by omega))))
    rw [← hx5] at hcx4
    refine hcallC_give hcx4 (clQA (And.intro ha1 he3)) (clQA (And.intro ha1 he3)) ?_
    refine spQA (And.intro ha1 he3) ?_
    refine bindC_intro omQ ?_
    refine spQA (And.intro ha1 he3) ?_
    refine lp_intro (n1 - 1) (⟨[(1, .fn 31 []), (4, .ptr 0 0), (5, .ptr 1 0), (9, .sl z0 81 true (l.map e_api_Chain)), (10, .int .i64 (l.length : Int)), (11, .int .i64 (p1.1 + 1))], [(0, .var 4 true (.agg [.int .i64 0, .int .i64 0, .sl (some true) 1 false [], .sl (some true) 4 true []])), (1, .var 4 true (.agg [.int .i64 3, .int .i64 0, .sl (some true) 1 false [], .own 2])), (2, .own 86 4 true none ((p1.2 ++ ([x4] : List S_api_Item)).map e_api_Item))], 3⟩ : St) (by omega) sbQ sbQ ⟨((p1.1 + 1), (p1.2 ++ ([x4] : List S_api_Item))), rfl, ⟨omQ, omQ, omQ⟩, omQ, iter_again hM hag1⟩
  · rw [if_neg (ne_true h2)] at hM
    refine spQA (And.intro ha1 h2) ?_
    have nh2 := nzQ h2
    subst hM
    exact retC_view (lfQA (And.intro ha1 h2))
set_option maxHeartbeats 2000000 in
set_option maxRecDepth 100000 in
theorem payment_list_api_Escrow_at_escrow_Item_ok  (z0 : Option Bool) (l : (List S_api_Escrow))  : CallOk En 32 [.sl z0 5 true (l.map e_api_Escrow), .fn 33 []] (.agg [.int .i64 (payment_list_api_Escrow_at_escrow_Item l).Kind, .int .i64 (payment_list_api_Escrow_at_escrow_Item l).N, .sl none 1 false ((payment_list_api_Escrow_at_escrow_Item l).B.map (V.int .u8)), .sl none 4 true ((payment_list_api_Escrow_at_escrow_Item l).L.map e_api_Item)]) [] := by
  generalize hM : payment_list_api_Escrow_at_escrow_Item l = r
  rw [payment_list_api_Escrow_at_escrow_Item.eq_1] at hM
  refine enterV En_ok En_mo noJ Try.func32 rfl Try.ntmps32 (by kernel_rfl) fun hw => ct_start ?_
  refine spQ ?_
  replace hw := nzQ hw
  have hM0 := hM; clear hM; obtain ⟨f1, d1, hf1, hd1, hM⟩ := iter_opn hM0; clear hM0
  refine ct_loopW (fun n S => ∃ p : Int × List S_api_Item, S = (⟨[(1, .fn 33 []), (4, .ptr 0 0), (5, .ptr 1 0), (9, .sl z0 5 true (l.map e_api_Escrow)), (10, .int .i64 (l.length : Int)), (11, .int .i64 p.1)], [(0, .var 4 true (.agg [.int .i64 0, .int .i64 0, .sl (some true) 1 false [], .sl (some true) 4 true []])), (1, .var 4 true (.agg [.int .i64 3, .int .i64 0, .sl (some true) 1 false [], .own 2])), (2, .own 86 4 true none (p.2.map e_api_Item))], 3⟩ : St) ∧ ((0 ≤ p.1) ∧ (p.1 ≤ (l.length : Int)) ∧ (((p.2).length : Int) ≤ p.1)) ∧ ((l.length : Int) - p.1).toNat < n ∧ iter n f1 d1 p = r) (((l.length : Int) - 0).toNat + 1) _ (⟨[(1, .fn 33 []), (4, .ptr 0 0), (5, .ptr 1 0), (9, .sl z0 5 true (l.map e_api_Escrow)), (10, .int .i64 (l.length : Int)), (11, .int .i64 0)], [(0, .var 4 true (.agg [.int .i64 0, .int .i64 0, .sl (some true) 1 false [], .sl (some true) 4 true []])), (1, .var 4 true (.agg [.int .i64 3, .int .i64 0, .sl (some true) 1 false [], .own 2])), (2, .own 86 4 true none (([] : List S_api_Item).map e_api_Item))], 3⟩ : St) (weak_nilV 1 3 86 rfl rfl (by decide)) sbQ sbQ ⟨(0, ([] : List S_api_Item)), rfl, ⟨omQ, omQ, omQ⟩, (Nat.lt_succ_self _), hM⟩ ?_
  clear hM
  rintro n1 S ⟨p1, rfl, hfa1, hm1, hM⟩
  have hM0 := hM; clear hM; obtain ⟨ag1, hag1, hM⟩ := iter_step hM0 (by omega) hf1; clear hM0
  replace hfa1 := nzQ hfa1
  replace hm1 := nzQ hm1
  have ha1 : addI .i64 p1.1 1 = p1.1 + 1 := add_one omQ omQ
  refine spQA ha1 ?_
  refine condC_intro (fun h2 => ?_) (fun h2 => ?_)
  · rw [if_pos h2] at hM
    refine spQA (And.intro ha1 h2) ?_
    have nh2 := nzQ h2
    refine bindC_intro omQ ?_
    have he3 := fun d => elt_mp (l := l) (f := e_api_Escrow) (i := p1.1) omQ d
    refine spQA (And.intro ha1 he3) ?_
    refine ct_draw 25 6 [15, 16, 17, 18, 19, 20] [] ([[], [0], [], [], [2, 3], [2, 3, 4]] ++ [List.range 6, List.range 7, List.range 8]) [] (by kernel_rfl) (by exact alQ) ?_
    refine spQA (And.intro ha1 he3) ?_
    have hM0 := hM; clear hM; obtain ⟨x4, hx5, hM⟩ := letk_opn hM0; clear hM0
    have hcx4 := escrow_Item_ok  (gt l p1.1) 
    rw [← hx5] at hcx4
    refine hcallC_give hcx4 (clQA (And.intro ha1 he3)) (clQA (And.intro ha1 he3)) ?_
    refine spQA (And.intro ha1 he3) ?_
    refine bindC_intro omQ ?_
    refine spQA (And.intro ha1 he3) ?_
    refine lp_intro (n1 - 1) (⟨[(1, .fn 33 []), (4, .ptr 0 0), (5, .ptr 1 0), (9, .sl z0 5 true (l.map e_api_Escrow)), (10, .int .i64 (l.length : Int)), (11, .int .i64 (p1.1 + 1))], [(0, .var 4 true (.agg [.int .i64 0, .int .i64 0, .sl (some true) 1 false [], .sl (some true) 4 true []])), (1, .var 4 true (.agg [.int .i64 3, .int .i64 0, .sl (some true) 1 false [], .own 2])), (2, .own 86 4 true none ((p1.2 ++ ([x4] : List S_api_Item)).map e_api_Item))], 3⟩ : St) (by omega) sbQ sbQ ⟨((p1.1 + 1), (p1.2 ++ ([x4] : List S_api_Item))), rfl, ⟨omQ, omQ, omQ⟩, omQ, iter_again hM hag1⟩
  · rw [if_neg (ne_true h2)] at hM
    refine spQA (And.intro ha1 h2) ?_
    have nh2 := nzQ h2
    subst hM
    exact retC_view (lfQA (And.intro ha1 h2))
set_option maxHeartbeats 2000000 in
set_option maxRecDepth 100000 in
theorem payment_Encode_ok   (p_ : S_api_Payment) (hp0 : okPay p_) : CallOk En 7 [.agg [.int .i64 p_.Number, .sl none 80 true (p_.Spends.map e_api_Spend), .sl none 81 true (p_.Chains.map e_api_Chain), .sl none 5 true (p_.Escrow.map e_api_Escrow)]] (.tup [.sl none 1 false ((payment_Encode p_).1.map (V.int .u8)), .int .i64 (payment_Encode p_).2]) [] := by
  generalize hM : payment_Encode p_ = r
  rw [payment_Encode.eq_1] at hM
  refine enterV En_ok En_mo noJ Try.func7 rfl Try.ntmps7 (by kernel_rfl) fun hw => ct_start ?_
  refine spQ ?_
  replace hw := nzQ hw
  refine guardC_f (fun h1 => ?_) (fun h1 => ?_)
  · rw [if_neg (ne_true h1)] at hM
    refine spQA h1 ?_
    have nh1 := nzQ h1
    refine guardC_f (fun h2 => ?_) (fun h2 => ?_)
    · rw [if_neg (ne_true h2)] at hM
      refine spQA h2 ?_
      have nh2 := nzQ h2
      refine condC_intro (fun h3 => ?_) (fun h3 => ?_)
      · rw [if_pos h3] at hM
        refine spQA h3 ?_
        have nh3 := nzQ h3
        subst hM
        exact retC_view (lfQA (And.intro h1 (And.intro h2 h3)))
      · rw [if_neg (ne_true h3)] at hM
        refine spQA h3 ?_
        have nh3 := nzQ h3
        refine ct_draw 43 19 [4, 22, 23, 24, 25, 26, 27, 28, 29, 30, 31, 32, 33, 34, 35, 36, 37, 38, 39] [] ([[], [0], [0, 1], [], [3], [3, 4], [], [6], [6, 7], [], [9], [9, 10], [0, 1, 2, 3, 4, 5, 6, 7, 8, 9, 10, 11], [0, 1, 2, 3, 4, 5, 6, 7, 8, 9, 10, 11, 12], [0, 1, 2, 3, 4, 5, 6, 7, 8, 9, 10, 11, 12, 13], [0, 1, 2, 3, 4, 5, 6, 7, 8, 9, 10, 11, 12, 13, 14], [0, 1, 2, 3, 4, 5, 6, 7, 8, 9, 10, 11, 12, 13, 14, 15], [0, 1, 2, 3, 4, 5, 6, 7, 8, 9, 10, 11, 12, 13, 14, 15], [0, 1, 2, 3, 4, 5, 6, 7, 8, 9, 10, 11, 12, 13, 14, 15, 16]] ++ [List.range 19]) [(12, 13)] (by kernel_rfl) (by exact alQ) ?_
        refine spQ ?_
        have hM0 := hM; clear hM; obtain ⟨x4, hx5, hM⟩ := letk_opn hM0; clear hM0
        have hcx4 := payment_integer_ok  (p_.Number) 
        rw [← hx5] at hcx4
        refine hcallC_give hcx4 clQ clQ ?_
        refine spQ ?_
        have hM0 := hM; clear hM; obtain ⟨x6, hx7, hM⟩ := letk_opn hM0; clear hM0
        have hcx6 := payment_list_api_Spend_at_spend_Item_ok none (p_.Spends) (by (exact hp0.1))
        rw [← hx7] at hcx6
        refine hcallC_give hcx6 clQ clQ ?_
        refine spQ ?_
        have hM0 := hM; clear hM; obtain ⟨x8, hx9, hM⟩ := letk_opn hM0; clear hM0
        have hcx8 := payment_list_api_Chain_at_payment_chainItem_ok none (p_.Chains) (by (exact hp0.2.1))
        rw [← hx9] at hcx8
        refine hcallC_give hcx8 clQ clQ ?_
        refine spQ ?_
        have hM0 := hM; clear hM; obtain ⟨x10, hx11, hM⟩ := letk_opn hM0; clear hM0
        have hcx10 := payment_list_api_Escrow_at_escrow_Item_ok none (p_.Escrow) 
        rw [← hx11] at hcx10
        refine hcallC_give hcx10 clQ clQ ?_
        refine spQ ?_
        have hM0 := hM; clear hM; obtain ⟨x12, hx13, hM⟩ := letk_opn hM0; clear hM0
        have hcx12 := encode_Encode_ok  ({ Kind := 3, N := 0, B := ([] : List Int), L := ([x4, x6, x8, x10] : List S_api_Item) } : S_api_Item) (by (subst_vars; exact hp0.2.2))
        rw [← hx13] at hcx12
        refine hcallC_give hcx12 clQ clQ ?_
        refine spQ ?_
        refine condC_intro (fun h14 => ?_) (fun h14 => ?_)
        · rw [if_pos h14] at hM
          refine spQA h14 ?_
          have nh14 := nzQ h14
          subst hM
          exact retC_view (lfQA (And.intro h1 (And.intro h2 (And.intro h3 h14))))
        · rw [if_neg (ne_true h14)] at hM
          refine spQA h14 ?_
          have nh14 := nzQ h14
          subst hM
          exact retC_view (lfQA (And.intro h1 (And.intro h2 (And.intro h3 h14))))
    · rw [if_pos h2] at hM
      refine spQA h2 ?_
      have nh2 := nzQ h2
      subst hM
      exact retC_view (lfQA (And.intro h1 h2))
  · rw [if_pos h1] at hM
    refine spQA h1 ?_
    have nh1 := nzQ h1
    subst hM
    exact retC_view (lfQA h1)
set_option maxHeartbeats 2000000 in
set_option maxRecDepth 100000 in
theorem coin_FromItem_ok   (i_ : S_api_Item)  : CallOk En 89 [.agg [.int .i64 i_.Kind, .int .i64 i_.N, .sl none 1 false (i_.B.map (V.int .u8)), .sl none 4 true (i_.L.map e_api_Item)]] (.tup [.agg (.int .i64 (coin_FromItem i_).1.Bank :: .int .i64 (coin_FromItem i_).1.Epoch :: .int .i64 (coin_FromItem i_).1.Denom :: .int .i64 (coin_FromItem i_).1.Depth :: .int .i64 (coin_FromItem i_).1.A :: .int .u8 (gt (coin_FromItem i_).1.Root 0) :: .int .u8 (gt (coin_FromItem i_).1.Root 1) :: .int .u8 (gt (coin_FromItem i_).1.Root 2) :: .int .u8 (gt (coin_FromItem i_).1.Root 3) :: .int .u8 (gt (coin_FromItem i_).1.Root 4) :: .int .u8 (gt (coin_FromItem i_).1.Root 5) :: .int .u8 (gt (coin_FromItem i_).1.Root 6) :: .int .u8 (gt (coin_FromItem i_).1.Root 7) :: .int .u8 (gt (coin_FromItem i_).1.Root 8) :: .int .u8 (gt (coin_FromItem i_).1.Root 9) :: .int .u8 (gt (coin_FromItem i_).1.Root 10) :: .int .u8 (gt (coin_FromItem i_).1.Root 11) :: .int .u8 (gt (coin_FromItem i_).1.Root 12) :: .int .u8 (gt (coin_FromItem i_).1.Root 13) :: .int .u8 (gt (coin_FromItem i_).1.Root 14) :: .int .u8 (gt (coin_FromItem i_).1.Root 15) :: .int .u8 (gt (coin_FromItem i_).1.Root 16) :: .int .u8 (gt (coin_FromItem i_).1.Root 17) :: .int .u8 (gt (coin_FromItem i_).1.Root 18) :: .int .u8 (gt (coin_FromItem i_).1.Root 19) :: .int .u8 (gt (coin_FromItem i_).1.Root 20) :: .int .u8 (gt (coin_FromItem i_).1.Root 21) :: .int .u8 (gt (coin_FromItem i_).1.Root 22) :: .int .u8 (gt (coin_FromItem i_).1.Root 23) :: .int .u8 (gt (coin_FromItem i_).1.Root 24) :: .int .u8 (gt (coin_FromItem i_).1.Root 25) :: .int .u8 (gt (coin_FromItem i_).1.Root 26) :: .int .u8 (gt (coin_FromItem i_).1.Root 27) :: .int .u8 (gt (coin_FromItem i_).1.Root 28) :: .int .u8 (gt (coin_FromItem i_).1.Root 29) :: .int .u8 (gt (coin_FromItem i_).1.Root 30) :: .int .u8 (gt (coin_FromItem i_).1.Root 31) :: .int .i64 (coin_FromItem i_).1.Sign.Z :: .int .i64 (coin_FromItem i_).1.Sign.A :: .int .i64 (coin_FromItem i_).1.Sign.B :: .int .i64 (coin_FromItem i_).1.Sign.R :: []), .int .i64 (coin_FromItem i_).2]) [] := by
  generalize hM : coin_FromItem i_ = r
  rw [coin_FromItem.eq_1] at hM
  refine enterV En_ok En_mo noJ Try.func89 rfl Try.ntmps89 (by kernel_rfl) fun hw => ct_start ?_
  refine spQ ?_
  replace hw := nzQ hw
  have hM0 := hM; clear hM; obtain ⟨x1, hx2, hM⟩ := letk_opn hM0; clear hM0
  have hcx1 := encode_Valid_ok  i_ 
  rw [← hx2] at hcx1
  refine callC_give hcx1 clQ clQ (fun hw3 => ?_)
  replace hw3 := nzQ hw3
  refine spQ ?_
  refine condC_intro (fun h4 => ?_) (fun h4 => ?_)
  · rw [if_pos h4] at hM
    refine spQA h4 ?_
    have nh4 := nzQ h4
    subst hM
    exact retC_view (lfQA h4)
  · rw [if_neg (ne_true h4)] at hM
    refine spQA h4 ?_
    have nh4 := nzQ h4
    refine guardC_f (fun h5 => ?_) (fun h5 => ?_)
    · rw [if_neg (ne_true h5)] at hM
      refine spQA h5 ?_
      have nh5 := nzQ h5
      refine condC_intro (fun h6 => ?_) (fun h6 => ?_)
      · rw [if_pos h6] at hM
        refine spQA h6 ?_
        have nh6 := nzQ h6
        subst hM
        exact retC_view (lfQA (And.intro h4 (And.intro h5 h6)))
      · rw [if_neg (ne_true h6)] at hM
        refine spQA h6 ?_
        have nh6 := nzQ h6
        refine bindC_intro omQ ?_
        have he7 : ∀ d, elt (i_.L.map e_api_Item) 0 d = e_api_Item (gt i_.L 0) := fun d => elt_mp (l := i_.L) (f := e_api_Item) (i := 0) omQ d
        refine spQA he7 ?_
        have hM0 := hM; clear hM; obtain ⟨x8, hx9, hM⟩ := letk_opn hM0; clear hM0
        have hcx8 := encode_Numbers_ok  (gt i_.L 0) 
        rw [← hx9] at hcx8
        refine callC_give hcx8 (clQA he7) (clQA he7) (fun hw10 => ?_)
        replace hw10 := nzQ hw10
        refine spQA he7 ?_
        refine bindC_intro omQ ?_
        have he11 : ∀ d, elt (i_.L.map e_api_Item) 2 d = e_api_Item (gt i_.L 2) := fun d => elt_mp (l := i_.L) (f := e_api_Item) (i := 2) omQ d
        refine spQA (And.intro he7 he11) ?_
        have hM0 := hM; clear hM; obtain ⟨x12, hx13, hM⟩ := letk_opn hM0; clear hM0
        have hcx12 := encode_Numbers_ok  (gt i_.L 2) 
        rw [← hx13] at hcx12
        refine callC_give hcx12 (clQA (And.intro he7 he11)) (clQA (And.intro he7 he11)) (fun hw14 => ?_)
        replace hw14 := nzQ hw14
        refine spQA (And.intro he7 he11) ?_
        refine bindC_intro omQ ?_
        have he15 : ∀ d, elt (i_.L.map e_api_Item) 1 d = e_api_Item (gt i_.L 1) := fun d => elt_mp (l := i_.L) (f := e_api_Item) (i := 1) omQ d
        refine spQA (And.intro he7 (And.intro he11 he15)) ?_
        refine guardC_f (fun h16 => ?_) (fun h16 => ?_)
        · rw [if_neg (ne_true h16)] at hM
          refine spQA (And.intro he7 (And.intro he11 (And.intro he15 h16))) ?_
          have nh16 := nzQ h16
          refine guardC_f (fun h17 => ?_) (fun h17 => ?_)
          · rw [if_neg (ne_true h17)] at hM
            refine spQA (And.intro he7 (And.intro he11 (And.intro he15 h17))) ?_
            have nh17 := nzQ h17
            refine guardC_f (fun h18 => ?_) (fun h18 => ?_)
            · rw [if_neg (ne_true h18)] at hM
              refine spQA (And.intro he7 (And.intro he11 (And.intro he15 h18))) ?_
              have nh18 := nzQ h18
              refine guardC_f (fun h19 => ?_) (fun h19 => ?_)
              · rw [if_neg (ne_true h19)] at hM
                refine spQA (And.intro he7 (And.intro he11 (And.intro he15 h19))) ?_
                have nh19 := nzQ h19
                refine guardC_f (fun h20 => ?_) (fun h20 => ?_)
                · rw [if_neg (ne_true h20)] at hM
                  refine spQA (And.intro he7 (And.intro he11 (And.intro he15 h20))) ?_
                  have nh20 := nzQ h20
                  refine condC_intro (fun h21 => ?_) (fun h21 => ?_)
                  · rw [if_pos h21] at hM
                    refine spQA (And.intro he7 (And.intro he11 (And.intro he15 h21))) ?_
                    have nh21 := nzQ h21
                    subst hM
                    exact retC_view (lfQA (And.intro he7 (And.intro he11 (And.intro he15 (And.intro h4 (And.intro h5 (And.intro h6 (And.intro h16 (And.intro h17 (And.intro h18 (And.intro h19 (And.intro h20 h21))))))))))))
                  · rw [if_neg (ne_true h21)] at hM
                    refine spQA (And.intro he7 (And.intro he11 (And.intro he15 h21))) ?_
                    have nh21 := nzQ h21
                    refine ct_draw 104 32 [71, 72, 73, 74, 75, 76, 77, 78, 79, 80, 81, 82, 83, 84, 85, 86, 87, 88, 89, 90, 91, 92, 93, 94, 95, 96, 97, 98, 99, 100, 101, 102] [] ([[], [0], [0, 1], [], [3], [3, 4], [], [6], [6, 7], [], [9], [9, 10], [], [12], [12, 13], [], [15], [15, 16], [15, 16, 17], [], [19], [19, 20], [], [22], [22, 23], [], [25], [25, 26], [], [28], [28, 29], [19, 20, 21, 22, 23, 24, 25, 26, 27, 28, 29, 30]] ++ [List.range 32, List.range 33, List.range 34]) [] (by kernel_rfl) (by exact alQ) ?_
                    refine spQA (And.intro he7 (And.intro he11 he15)) ?_
                    refine hbindC_intro omQ ?_
                    have he22 : ∀ d, elt (x8.1.map (V.int .i64)) 0 d = (V.int .i64) (gt x8.1 0) := fun d => elt_mp (l := x8.1) (f := (V.int .i64)) (i := 0) omQ d
                    refine spQA (And.intro he7 (And.intro he11 (And.intro he15 he22))) ?_
                    refine hbindC_intro omQ ?_
                    have he23 : ∀ d, elt (x8.1.map (V.int .i64)) 1 d = (V.int .i64) (gt x8.1 1) := fun d => elt_mp (l := x8.1) (f := (V.int .i64)) (i := 1) omQ d
                    refine spQA (And.intro he7 (And.intro he11 (And.intro he15 (And.intro he22 he23)))) ?_
                    refine hbindC_intro omQ ?_
                    have he24 : ∀ d, elt (x8.1.map (V.int .i64)) 2 d = (V.int .i64) (gt x8.1 2) := fun d => elt_mp (l := x8.1) (f := (V.int .i64)) (i := 2) omQ d
                    refine spQA (And.intro he7 (And.intro he11 (And.intro he15 (And.intro he22 (And.intro he23 he24))))) ?_
                    refine hbindC_intro omQ ?_
                    have he25 : ∀ d, elt (x8.1.map (V.int .i64)) 3 d = (V.int .i64) (gt x8.1 3) := fun d => elt_mp (l := x8.1) (f := (V.int .i64)) (i := 3) omQ d
                    refine spQA (And.intro he7 (And.intro he11 (And.intro he15 (And.intro he22 (And.intro he23 (And.intro he24 he25)))))) ?_
                    refine hbindC_intro omQ ?_
                    have he26 : ∀ d, elt (x8.1.map (V.int .i64)) 4 d = (V.int .i64) (gt x8.1 4) := fun d => elt_mp (l := x8.1) (f := (V.int .i64)) (i := 4) omQ d
                    refine spQA (And.intro he7 (And.intro he11 (And.intro he15 (And.intro he22 (And.intro he23 (And.intro he24 (And.intro he25 he26))))))) ?_
                    refine hbindC_intro omQ ?_
                    have he27 := eltsN_mp (l := (gt i_.L 1).B) (f := (V.int .u8)) (k := 32) omQ
                    refine spQA (And.intro he7 (And.intro he11 (And.intro he15 (And.intro he22 (And.intro he23 (And.intro he24 (And.intro he25 (And.intro he26 he27)))))))) ?_
                    refine hbindC_intro omQ ?_
                    have he28 : ∀ d, elt (x12.1.map (V.int .i64)) 0 d = (V.int .i64) (gt x12.1 0) := fun d => elt_mp (l := x12.1) (f := (V.int .i64)) (i := 0) omQ d
                    refine spQA (And.intro he7 (And.intro he11 (And.intro he15 (And.intro he22 (And.intro he23 (And.intro he24 (And.intro he25 (And.intro he26 (And.intro he27 he28))))))))) ?_
                    refine hbindC_intro omQ ?_
                    have he29 : ∀ d, elt (x12.1.map (V.int .i64)) 1 d = (V.int .i64) (gt x12.1 1) := fun d => elt_mp (l := x12.1) (f := (V.int .i64)) (i := 1) omQ d
                    refine spQA (And.intro he7 (And.intro he11 (And.intro he15 (And.intro he22 (And.intro he23 (And.intro he24 (And.intro he25 (And.intro he26 (And.intro he27 (And.intro he28 he29)))))))))) ?_
                    refine hbindC_intro omQ ?_
                    have he30 : ∀ d, elt (x12.1.map (V.int .i64)) 2 d = (V.int .i64) (gt x12.1 2) := fun d => elt_mp (l := x12.1) (f := (V.int .i64)) (i := 2) omQ d
                    refine spQA (And.intro he7 (And.intro he11 (And.intro he15 (And.intro he22 (And.intro he23 (And.intro he24 (And.intro he25 (And.intro he26 (And.intro he27 (And.intro he28 (And.intro he29 he30))))))))))) ?_
                    refine hbindC_intro omQ ?_
                    have he31 : ∀ d, elt (x12.1.map (V.int .i64)) 3 d = (V.int .i64) (gt x12.1 3) := fun d => elt_mp (l := x12.1) (f := (V.int .i64)) (i := 3) omQ d
                    refine spQA (And.intro he7 (And.intro he11 (And.intro he15 (And.intro he22 (And.intro he23 (And.intro he24 (And.intro he25 (And.intro he26 (And.intro he27 (And.intro he28 (And.intro he29 (And.intro he30 he31)))))))))))) ?_
                    subst hM
                    exact retC_view (lfQA (And.intro he7 (And.intro he11 (And.intro he15 (And.intro he22 (And.intro he23 (And.intro he24 (And.intro he25 (And.intro he26 (And.intro he27 (And.intro he28 (And.intro he29 (And.intro he30 (And.intro he31 (And.intro h4 (And.intro h5 (And.intro h6 (And.intro h16 (And.intro h17 (And.intro h18 (And.intro h19 (And.intro h20 h21))))))))))))))))))))))
                · rw [if_pos h20] at hM
                  refine spQA (And.intro he7 (And.intro he11 (And.intro he15 h20))) ?_
                  have nh20 := nzQ h20
                  subst hM
                  exact retC_view (lfQA (And.intro he7 (And.intro he11 (And.intro he15 (And.intro h4 (And.intro h5 (And.intro h6 (And.intro h16 (And.intro h17 (And.intro h18 (And.intro h19 h20)))))))))))
              · rw [if_pos h19] at hM
                refine spQA (And.intro he7 (And.intro he11 (And.intro he15 h19))) ?_
                have nh19 := nzQ h19
                subst hM
                exact retC_view (lfQA (And.intro he7 (And.intro he11 (And.intro he15 (And.intro h4 (And.intro h5 (And.intro h6 (And.intro h16 (And.intro h17 (And.intro h18 h19))))))))))
            · rw [if_pos h18] at hM
              refine spQA (And.intro he7 (And.intro he11 (And.intro he15 h18))) ?_
              have nh18 := nzQ h18
              subst hM
              exact retC_view (lfQA (And.intro he7 (And.intro he11 (And.intro he15 (And.intro h4 (And.intro h5 (And.intro h6 (And.intro h16 (And.intro h17 h18)))))))))
          · rw [if_pos h17] at hM
            refine spQA (And.intro he7 (And.intro he11 (And.intro he15 h17))) ?_
            have nh17 := nzQ h17
            subst hM
            exact retC_view (lfQA (And.intro he7 (And.intro he11 (And.intro he15 (And.intro h4 (And.intro h5 (And.intro h6 (And.intro h16 h17))))))))
        · rw [if_pos h16] at hM
          refine spQA (And.intro he7 (And.intro he11 (And.intro he15 h16))) ?_
          have nh16 := nzQ h16
          subst hM
          exact retC_view (lfQA (And.intro he7 (And.intro he11 (And.intro he15 (And.intro h4 (And.intro h5 (And.intro h6 h16)))))))
    · rw [if_pos h5] at hM
      refine spQA h5 ?_
      have nh5 := nzQ h5
      subst hM
      exact retC_view (lfQA (And.intro h4 h5))
set_option maxHeartbeats 2000000 in
set_option maxRecDepth 100000 in
theorem spend_pair_ok   (i_ : S_api_Item)  : CallOk En 90 [.agg [.int .i64 i_.Kind, .int .i64 i_.N, .sl none 1 false (i_.B.map (V.int .u8)), .sl none 4 true (i_.L.map e_api_Item)]] (.tup [.int .i64 (spend_pair i_).1, .int .i64 (spend_pair i_).2.1, .bool (spend_pair i_).2.2]) [] := by
  generalize hM : spend_pair i_ = r
  rw [spend_pair.eq_1] at hM
  refine enterV En_ok En_mo noJ Try.func90 rfl Try.ntmps90 (by kernel_rfl) fun hw => ct_start ?_
  refine spQ ?_
  replace hw := nzQ hw
  have hM0 := hM; clear hM; obtain ⟨x1, hx2, hM⟩ := letk_opn hM0; clear hM0
  have hcx1 := encode_Numbers_ok  i_ 
  rw [← hx2] at hcx1
  refine callC_give hcx1 clQ clQ (fun hw3 => ?_)
  replace hw3 := nzQ hw3
  refine spQ ?_
  refine guardC_f (fun h4 => ?_) (fun h4 => ?_)
  · rw [if_neg (ne_true h4)] at hM
    refine spQA h4 ?_
    have nh4 := nzQ h4
    refine condC_intro (fun h5 => ?_) (fun h5 => ?_)
    · rw [if_pos h5] at hM
      refine spQA h5 ?_
      have nh5 := nzQ h5
      subst hM
      exact retC_view (lfQA (And.intro h4 h5))
    · rw [if_neg (ne_true h5)] at hM
      refine spQA h5 ?_
      have nh5 := nzQ h5
      refine ct_draw 25 7 [2, 19, 20, 21, 22, 23, 24] [] ([[], [0], [0, 1], [], [3], [3, 4], [0, 1, 2]] ++ [List.range 7, List.range 8]) [] (by kernel_rfl) (by exact alQ) ?_
      refine spQ ?_
      refine hbindC_intro omQ ?_
      have he6 : ∀ d, elt (x1.1.map (V.int .i64)) 0 d = (V.int .i64) (gt x1.1 0) := fun d => elt_mp (l := x1.1) (f := (V.int .i64)) (i := 0) omQ d
      refine spQA he6 ?_
      refine hbindC_intro omQ ?_
      have he7 : ∀ d, elt (x1.1.map (V.int .i64)) 1 d = (V.int .i64) (gt x1.1 1) := fun d => elt_mp (l := x1.1) (f := (V.int .i64)) (i := 1) omQ d
      refine spQA (And.intro he6 he7) ?_
      subst hM
      exact retC_view (lfQA (And.intro he6 (And.intro he7 (And.intro h4 h5))))
  · rw [if_pos h4] at hM
    refine spQA h4 ?_
    have nh4 := nzQ h4
    subst hM
    exact retC_view (lfQA h4)
set_option maxHeartbeats 2000000 in
set_option maxRecDepth 100000 in
theorem spend_hash_ok   (i_ : S_api_Item)  : CallOk En 91 [.agg [.int .i64 i_.Kind, .int .i64 i_.N, .sl none 1 false (i_.B.map (V.int .u8)), .sl none 4 true (i_.L.map e_api_Item)]] (.tup [.agg (.int .u8 (gt (spend_hash i_).1 0) :: .int .u8 (gt (spend_hash i_).1 1) :: .int .u8 (gt (spend_hash i_).1 2) :: .int .u8 (gt (spend_hash i_).1 3) :: .int .u8 (gt (spend_hash i_).1 4) :: .int .u8 (gt (spend_hash i_).1 5) :: .int .u8 (gt (spend_hash i_).1 6) :: .int .u8 (gt (spend_hash i_).1 7) :: .int .u8 (gt (spend_hash i_).1 8) :: .int .u8 (gt (spend_hash i_).1 9) :: .int .u8 (gt (spend_hash i_).1 10) :: .int .u8 (gt (spend_hash i_).1 11) :: .int .u8 (gt (spend_hash i_).1 12) :: .int .u8 (gt (spend_hash i_).1 13) :: .int .u8 (gt (spend_hash i_).1 14) :: .int .u8 (gt (spend_hash i_).1 15) :: .int .u8 (gt (spend_hash i_).1 16) :: .int .u8 (gt (spend_hash i_).1 17) :: .int .u8 (gt (spend_hash i_).1 18) :: .int .u8 (gt (spend_hash i_).1 19) :: .int .u8 (gt (spend_hash i_).1 20) :: .int .u8 (gt (spend_hash i_).1 21) :: .int .u8 (gt (spend_hash i_).1 22) :: .int .u8 (gt (spend_hash i_).1 23) :: .int .u8 (gt (spend_hash i_).1 24) :: .int .u8 (gt (spend_hash i_).1 25) :: .int .u8 (gt (spend_hash i_).1 26) :: .int .u8 (gt (spend_hash i_).1 27) :: .int .u8 (gt (spend_hash i_).1 28) :: .int .u8 (gt (spend_hash i_).1 29) :: .int .u8 (gt (spend_hash i_).1 30) :: .int .u8 (gt (spend_hash i_).1 31) :: []), .bool (spend_hash i_).2]) [] := by
  generalize hM : spend_hash i_ = r
  rw [spend_hash.eq_1] at hM
  refine enterV En_ok En_mo noJ Try.func91 rfl Try.ntmps91 (by kernel_rfl) fun hw => ct_start ?_
  refine spQ ?_
  replace hw := nzQ hw
  refine guardC_f (fun h1 => ?_) (fun h1 => ?_)
  · rw [if_neg (ne_true h1)] at hM
    refine spQA h1 ?_
    have nh1 := nzQ h1
    refine condC_intro (fun h2 => ?_) (fun h2 => ?_)
    · rw [if_pos h2] at hM
      refine spQA h2 ?_
      have nh2 := nzQ h2
      subst hM
      exact retC_view (lfQA (And.intro h1 h2))
    · rw [if_neg (ne_true h2)] at hM
      refine spQA h2 ?_
      have nh2 := nzQ h2
      refine ct_draw 20 3 [15, 16, 17] [] ([[], [], [1]] ++ [List.range 3]) [] (by kernel_rfl) (by exact alQ) ?_
      refine spQ ?_
      have hsp3 := spl_arrN (f := (V.int .u8)) (A := ([0, 0, 0, 0, 0, 0, 0, 0, 0, 0, 0, 0, 0, 0, 0, 0, 0, 0, 0, 0, 0, 0, 0, 0, 0, 0, 0, 0, 0, 0, 0, 0] : List Int)) (l := i_.B) (n := 32) rfl
      simp only [go_sem, rowV_eq, rowV_eq0, List.length_replicate, rep_len, Int.toNat_natCast, ↓reduceIte, Nat.reduceEqDiff, Nat.reduceAdd, Int.reduceAdd, Nat.reduceMul, Nat.reduceLeDiff, Nat.reduceLT, Int.reduceLE, Int.reduceLT, Int.reduceNeg, Int.reduceToNat] at hsp3
      refine spQA hsp3 ?_
      subst hM
      exact retC_view (lfQA (And.intro hsp3 (And.intro h1 h2)))
  · rw [if_pos h1] at hM
    refine spQA h1 ?_
    have nh1 := nzQ h1
    subst hM
    exact retC_view (lfQA h1)
set_option maxHeartbeats 2000000 in
set_option maxRecDepth 100000 in
theorem spend_FromItem_ok   (i_ : S_api_Item)  : CallOk En 66 [.agg [.int .i64 i_.Kind, .int .i64 i_.N, .sl none 1 false (i_.B.map (V.int .u8)), .sl none 4 true (i_.L.map e_api_Item)]] (.tup [.agg (.int .i64 (spend_FromItem i_).1.Coin.Bank :: .int .i64 (spend_FromItem i_).1.Coin.Epoch :: .int .i64 (spend_FromItem i_).1.Coin.Denom :: .int .i64 (spend_FromItem i_).1.Coin.Depth :: .int .i64 (spend_FromItem i_).1.Coin.A :: .int .u8 (gt (spend_FromItem i_).1.Coin.Root 0) :: .int .u8 (gt (spend_FromItem i_).1.Coin.Root 1) :: .int .u8 (gt (spend_FromItem i_).1.Coin.Root 2) :: .int .u8 (gt (spend_FromItem i_).1.Coin.Root 3) :: .int .u8 (gt (spend_FromItem i_).1.Coin.Root 4) :: .int .u8 (gt (spend_FromItem i_).1.Coin.Root 5) :: .int .u8 (gt (spend_FromItem i_).1.Coin.Root 6) :: .int .u8 (gt (spend_FromItem i_).1.Coin.Root 7) :: .int .u8 (gt (spend_FromItem i_).1.Coin.Root 8) :: .int .u8 (gt (spend_FromItem i_).1.Coin.Root 9) :: .int .u8 (gt (spend_FromItem i_).1.Coin.Root 10) :: .int .u8 (gt (spend_FromItem i_).1.Coin.Root 11) :: .int .u8 (gt (spend_FromItem i_).1.Coin.Root 12) :: .int .u8 (gt (spend_FromItem i_).1.Coin.Root 13) :: .int .u8 (gt (spend_FromItem i_).1.Coin.Root 14) :: .int .u8 (gt (spend_FromItem i_).1.Coin.Root 15) :: .int .u8 (gt (spend_FromItem i_).1.Coin.Root 16) :: .int .u8 (gt (spend_FromItem i_).1.Coin.Root 17) :: .int .u8 (gt (spend_FromItem i_).1.Coin.Root 18) :: .int .u8 (gt (spend_FromItem i_).1.Coin.Root 19) :: .int .u8 (gt (spend_FromItem i_).1.Coin.Root 20) :: .int .u8 (gt (spend_FromItem i_).1.Coin.Root 21) :: .int .u8 (gt (spend_FromItem i_).1.Coin.Root 22) :: .int .u8 (gt (spend_FromItem i_).1.Coin.Root 23) :: .int .u8 (gt (spend_FromItem i_).1.Coin.Root 24) :: .int .u8 (gt (spend_FromItem i_).1.Coin.Root 25) :: .int .u8 (gt (spend_FromItem i_).1.Coin.Root 26) :: .int .u8 (gt (spend_FromItem i_).1.Coin.Root 27) :: .int .u8 (gt (spend_FromItem i_).1.Coin.Root 28) :: .int .u8 (gt (spend_FromItem i_).1.Coin.Root 29) :: .int .u8 (gt (spend_FromItem i_).1.Coin.Root 30) :: .int .u8 (gt (spend_FromItem i_).1.Coin.Root 31) :: .int .i64 (spend_FromItem i_).1.Coin.Sign.Z :: .int .i64 (spend_FromItem i_).1.Coin.Sign.A :: .int .i64 (spend_FromItem i_).1.Coin.Sign.B :: .int .i64 (spend_FromItem i_).1.Coin.Sign.R :: .int .i64 (spend_FromItem i_).1.Node.Level :: .int .i64 (spend_FromItem i_).1.Node.Index :: .int .u8 (gt (spend_FromItem i_).1.Context.Payee 0) :: .int .u8 (gt (spend_FromItem i_).1.Context.Payee 1) :: .int .u8 (gt (spend_FromItem i_).1.Context.Payee 2) :: .int .u8 (gt (spend_FromItem i_).1.Context.Payee 3) :: .int .u8 (gt (spend_FromItem i_).1.Context.Payee 4) :: .int .u8 (gt (spend_FromItem i_).1.Context.Payee 5) :: .int .u8 (gt (spend_FromItem i_).1.Context.Payee 6) :: .int .u8 (gt (spend_FromItem i_).1.Context.Payee 7) :: .int .u8 (gt (spend_FromItem i_).1.Context.Payee 8) :: .int .u8 (gt (spend_FromItem i_).1.Context.Payee 9) :: .int .u8 (gt (spend_FromItem i_).1.Context.Payee 10) :: .int .u8 (gt (spend_FromItem i_).1.Context.Payee 11) :: .int .u8 (gt (spend_FromItem i_).1.Context.Payee 12) :: .int .u8 (gt (spend_FromItem i_).1.Context.Payee 13) :: .int .u8 (gt (spend_FromItem i_).1.Context.Payee 14) :: .int .u8 (gt (spend_FromItem i_).1.Context.Payee 15) :: .int .u8 (gt (spend_FromItem i_).1.Context.Payee 16) :: .int .u8 (gt (spend_FromItem i_).1.Context.Payee 17) :: .int .u8 (gt (spend_FromItem i_).1.Context.Payee 18) :: .int .u8 (gt (spend_FromItem i_).1.Context.Payee 19) :: .int .u8 (gt (spend_FromItem i_).1.Context.Payee 20) :: .int .u8 (gt (spend_FromItem i_).1.Context.Payee 21) :: .int .u8 (gt (spend_FromItem i_).1.Context.Payee 22) :: .int .u8 (gt (spend_FromItem i_).1.Context.Payee 23) :: .int .u8 (gt (spend_FromItem i_).1.Context.Payee 24) :: .int .u8 (gt (spend_FromItem i_).1.Context.Payee 25) :: .int .u8 (gt (spend_FromItem i_).1.Context.Payee 26) :: .int .u8 (gt (spend_FromItem i_).1.Context.Payee 27) :: .int .u8 (gt (spend_FromItem i_).1.Context.Payee 28) :: .int .u8 (gt (spend_FromItem i_).1.Context.Payee 29) :: .int .u8 (gt (spend_FromItem i_).1.Context.Payee 30) :: .int .u8 (gt (spend_FromItem i_).1.Context.Payee 31) :: .int .i64 (spend_FromItem i_).1.Context.Time :: .int .i64 (spend_FromItem i_).1.Context.Number :: .sl none 3 true ((spend_FromItem i_).1.Leaves.map e_api_Leaf) :: .int .i64 (spend_FromItem i_).1.Path.Index :: .sl none 32 true ((spend_FromItem i_).1.Path.L.map e_arr45) :: []), .int .i64 (spend_FromItem i_).2]) [] := by
  generalize hM : spend_FromItem i_ = r
  rw [spend_FromItem.eq_1] at hM
  refine enterV En_ok En_mo noJ Try.func66 rfl Try.ntmps66 (by kernel_rfl) fun hw => ct_start ?_
  refine spQ ?_
  replace hw := nzQ hw
  have hM0 := hM; clear hM; obtain ⟨x1, hx2, hM⟩ := letk_opn hM0; clear hM0
  have hcx1 := encode_Valid_ok  i_ 
  rw [← hx2] at hcx1
  refine callC_give hcx1 clQ clQ (fun hw3 => ?_)
  replace hw3 := nzQ hw3
  refine spQ ?_
  have hq4 := Valid_sub hx2
  replace hq4 := nzQ hq4
  refine condC_intro (fun h5 => ?_) (fun h5 => ?_)
  · rw [if_pos h5] at hM
    refine spQA h5 ?_
    have nh5 := nzQ h5
    subst hM
    exact retC_view (lfQA h5)
  · rw [if_neg (ne_true h5)] at hM
    refine spQA h5 ?_
    have nh5 := nzQ h5
    refine guardC_f (fun h6 => ?_) (fun h6 => ?_)
    · rw [if_neg (ne_true h6)] at hM
      refine spQA h6 ?_
      have nh6 := nzQ h6
      refine condC_intro (fun h7 => ?_) (fun h7 => ?_)
      · rw [if_pos h7] at hM
        refine spQA h7 ?_
        have nh7 := nzQ h7
        subst hM
        exact retC_view (lfQA (And.intro h5 (And.intro h6 h7)))
      · rw [if_neg (ne_true h7)] at hM
        refine spQA h7 ?_
        have nh7 := nzQ h7
        refine bindC_intro (by (first | exact omQ | (clear hM; first | (have h9 := sub_gt (l := i_.L) (j := 5) (by assumption) (by assumption) (by omega); exact omQ')))) ?_
        have he8 : ∀ d, elt (i_.L.map e_api_Item) 0 d = e_api_Item (gt i_.L 0) := fun d => elt_mp (l := i_.L) (f := e_api_Item) (i := 0) (by (first | exact omQ | (clear hM; first | (have h9 := sub_gt (l := i_.L) (j := 5) (by assumption) (by assumption) (by omega); exact omQ')))) d
        refine spQA he8 ?_
        have hM0 := hM; clear hM; obtain ⟨x9, hx10, hM⟩ := letk_opn hM0; clear hM0
        have hcx9 := coin_FromItem_ok  (gt i_.L 0) 
        rw [← hx10] at hcx9
        refine callC_give hcx9 (clQA he8) (clQA he8) (fun hw11 => ?_)
        replace hw11 := nzQ hw11
        refine spQA he8 ?_
        refine bindC_intro (by (first | exact omQ | (clear hM; first | (have h9 := sub_gt (l := i_.L) (j := 5) (by assumption) (by assumption) (by omega); exact omQ')))) ?_
        have he12 : ∀ d, elt (i_.L.map e_api_Item) 1 d = e_api_Item (gt i_.L 1) := fun d => elt_mp (l := i_.L) (f := e_api_Item) (i := 1) (by (first | exact omQ | (clear hM; first | (have h9 := sub_gt (l := i_.L) (j := 5) (by assumption) (by assumption) (by omega); exact omQ')))) d
        refine spQA (And.intro he8 he12) ?_
        have hM0 := hM; clear hM; obtain ⟨x13, hx14, hM⟩ := letk_opn hM0; clear hM0
        have hcx13 := spend_pair_ok  (gt i_.L 1) 
        rw [← hx14] at hcx13
        refine callC_give hcx13 (clQA (And.intro he8 he12)) (clQA (And.intro he8 he12)) (fun hw15 => ?_)
        replace hw15 := nzQ hw15
        refine spQA (And.intro he8 he12) ?_
        refine bindC_intro (by (first | exact omQ | (clear hM; first | (have h9 := sub_gt (l := i_.L) (j := 5) (by assumption) (by assumption) (by omega); exact omQ')))) ?_
        have he16 : ∀ d, elt (i_.L.map e_api_Item) 2 d = e_api_Item (gt i_.L 2) := fun d => elt_mp (l := i_.L) (f := e_api_Item) (i := 2) (by (first | exact omQ | (clear hM; first | (have h9 := sub_gt (l := i_.L) (j := 5) (by assumption) (by assumption) (by omega); exact omQ')))) d
        refine spQA (And.intro he8 (And.intro he12 he16)) ?_
        have hM0 := hM; clear hM; obtain ⟨x17, hx18, hM⟩ := letk_opn hM0; clear hM0
        have hcx17 := spend_hash_ok  (gt i_.L 2) 
        rw [← hx18] at hcx17
        refine callC_give hcx17 (clQA (And.intro he8 (And.intro he12 he16))) (clQA (And.intro he8 (And.intro he12 he16))) (fun hw19 => ?_)
        replace hw19 := nzQ hw19
        refine spQA (And.intro he8 (And.intro he12 he16)) ?_
        refine bindC_intro (by (first | exact omQ | (clear hM; first | (have h9 := sub_gt (l := i_.L) (j := 5) (by assumption) (by assumption) (by omega); exact omQ')))) ?_
        have he20 : ∀ d, elt (i_.L.map e_api_Item) 3 d = e_api_Item (gt i_.L 3) := fun d => elt_mp (l := i_.L) (f := e_api_Item) (i := 3) (by (first | exact omQ | (clear hM; first | (have h9 := sub_gt (l := i_.L) (j := 5) (by assumption) (by assumption) (by omega); exact omQ')))) d
        refine spQA (And.intro he8 (And.intro he12 (And.intro he16 he20))) ?_
        have hM0 := hM; clear hM; obtain ⟨x21, hx22, hM⟩ := letk_opn hM0; clear hM0
        have hcx21 := spend_pair_ok  (gt i_.L 3) 
        rw [← hx22] at hcx21
        refine callC_give hcx21 (clQA (And.intro he8 (And.intro he12 (And.intro he16 he20)))) (clQA (And.intro he8 (And.intro he12 (And.intro he16 he20)))) (fun hw23 => ?_)
        replace hw23 := nzQ hw23
        refine spQA (And.intro he8 (And.intro he12 (And.intro he16 he20))) ?_
        refine bindC_intro (by (first | exact omQ | (clear hM; first | (have h9 := sub_gt (l := i_.L) (j := 5) (by assumption) (by assumption) (by omega); exact omQ')))) ?_
        have he24 : ∀ d, elt (i_.L.map e_api_Item) 4 d = e_api_Item (gt i_.L 4) := fun d => elt_mp (l := i_.L) (f := e_api_Item) (i := 4) (by (first | exact omQ | (clear hM; first | (have h9 := sub_gt (l := i_.L) (j := 5) (by assumption) (by assumption) (by omega); exact omQ')))) d
        refine spQA (And.intro he8 (And.intro he12 (And.intro he16 (And.intro he20 he24)))) ?_
        have hM0 := hM; clear hM; obtain ⟨x25, hx26, hM⟩ := letk_opn hM0; clear hM0
        have hcx25 := encode_Numbers_ok  (gt i_.L 4) 
        rw [← hx26] at hcx25
        refine callC_give hcx25 (clQA (And.intro he8 (And.intro he12 (And.intro he16 (And.intro he20 he24))))) (clQA (And.intro he8 (And.intro he12 (And.intro he16 (And.intro he20 he24))))) (fun hw27 => ?_)
        replace hw27 := nzQ hw27
        refine spQA (And.intro he8 (And.intro he12 (And.intro he16 (And.intro he20 he24)))) ?_
        refine bindC_intro (by (first | exact omQ | (clear hM; first | (have h9 := sub_gt (l := i_.L) (j := 5) (by assumption) (by assumption) (by omega); exact omQ')))) ?_
        have he28 : ∀ d, elt (i_.L.map e_api_Item) 5 d = e_api_Item (gt i_.L 5) := fun d => elt_mp (l := i_.L) (f := e_api_Item) (i := 5) (by (first | exact omQ | (clear hM; first | (have h9 := sub_gt (l := i_.L) (j := 5) (by assumption) (by assumption) (by omega); exact omQ')))) d
        refine spQA (And.intro he8 (And.intro he12 (And.intro he16 (And.intro he20 (And.intro he24 he28))))) ?_
        refine guardC_f (fun h29 => ?_) (fun h29 => ?_)
        · rw [if_neg (ne_true h29)] at hM
          refine spQA (And.intro he8 (And.intro he12 (And.intro he16 (And.intro he20 (And.intro he24 (And.intro he28 h29)))))) ?_
          have nh29 := nzQ h29
          refine guardC_f (fun h30 => ?_) (fun h30 => ?_)
          · rw [if_neg (ne_true h30)] at hM
            refine spQA (And.intro he8 (And.intro he12 (And.intro he16 (And.intro he20 (And.intro he24 (And.intro he28 h30)))))) ?_
            have nh30 := nzQ h30
            refine guardC_f (fun h31 => ?_) (fun h31 => ?_)
            · rw [if_neg (ne_true h31)] at hM
              refine spQA (And.intro he8 (And.intro he12 (And.intro he16 (And.intro he20 (And.intro he24 (And.intro he28 h31)))))) ?_
              have nh31 := nzQ h31
              refine guardC_f (fun h32 => ?_) (fun h32 => ?_)
              · rw [if_neg (ne_true h32)] at hM
                refine spQA (And.intro he8 (And.intro he12 (And.intro he16 (And.intro he20 (And.intro he24 (And.intro he28 h32)))))) ?_
                have nh32 := nzQ h32
                refine guardC_f (fun h33 => ?_) (fun h33 => ?_)
                · rw [if_neg (ne_true h33)] at hM
                  refine spQA (And.intro he8 (And.intro he12 (And.intro he16 (And.intro he20 (And.intro he24 (And.intro he28 h33)))))) ?_
                  have nh33 := nzQ h33
                  refine bindC_intro (by (first | exact omQ | (clear hM; first | (have h9 := sub_gt (l := i_.L) (j := 5) (by assumption) (by assumption) (by omega); exact omQ')))) ?_
                  refine spQA (And.intro he8 (And.intro he12 (And.intro he16 (And.intro he20 (And.intro he24 he28))))) ?_
                  refine guardC_f (fun h34 => ?_) (fun h34 => ?_)
                  · rw [if_neg (ne_true h34)] at hM
                    refine spQA (And.intro he8 (And.intro he12 (And.intro he16 (And.intro he20 (And.intro he24 (And.intro he28 h34)))))) ?_
                    have nh34 := nzQ h34
                    refine guardC_f (fun h35 => ?_) (fun h35 => ?_)
                    · rw [if_neg (ne_true h35)] at hM
                      refine spQA (And.intro he8 (And.intro he12 (And.intro he16 (And.intro he20 (And.intro he24 (And.intro he28 h35)))))) ?_
                      have nh35 := nzQ h35
                      refine guardC_f (fun h36 => ?_) (fun h36 => ?_)
                      · rw [if_neg (ne_true h36)] at hM
                        refine spQA (And.intro he8 (And.intro he12 (And.intro he16 (And.intro he20 (And.intro he24 (And.intro he28 h36)))))) ?_
                        have nh36 := nzQ h36
                        refine bindC_intro (by (first | exact omQ | (clear hM; first | (have h9 := sub_gt (l := i_.L) (j := 5) (by assumption) (by assumption) (by omega); exact omQ')))) ?_
                        have he37 : ∀ d, elt ((gt i_.L 5).L.map e_api_Item) 0 d = e_api_Item (gt (gt i_.L 5).L 0) := fun d => elt_mp (l := (gt i_.L 5).L) (f := e_api_Item) (i := 0) (by (first | exact omQ | (clear hM; first | (have h9 := sub_gt (l := i_.L) (j := 5) (by assumption) (by assumption) (by omega); exact omQ')))) d
                        refine spQA (And.intro he8 (And.intro he12 (And.intro he16 (And.intro he20 (And.intro he24 (And.intro he28 he37)))))) ?_
                        refine condC_intro (fun h38 => ?_) (fun h38 => ?_)
                        · rw [if_pos h38] at hM
                          refine spQA (And.intro he8 (And.intro he12 (And.intro he16 (And.intro he20 (And.intro he24 (And.intro he28 (And.intro he37 h38))))))) ?_
                          have nh38 := nzQ h38
                          subst hM
                          exact retC_view (lfQA (And.intro he8 (And.intro he12 (And.intro he16 (And.intro he20 (And.intro he24 (And.intro he28 (And.intro he37 (And.intro h5 (And.intro h6 (And.intro h7 (And.intro h29 (And.intro h30 (And.intro h31 (And.intro h32 (And.intro h33 (And.intro h34 (And.intro h35 (And.intro h36 h38)))))))))))))))))))
                        · rw [if_neg (ne_true h38)] at hM
                          refine spQA (And.intro he8 (And.intro he12 (And.intro he16 (And.intro he20 (And.intro he24 (And.intro he28 (And.intro he37 h38))))))) ?_
                          have nh38 := nzQ h38
                          have hM0 := hM; clear hM; obtain ⟨f39, d39, hf39, hd39, hM⟩ := iter_opn hM0; clear hM0
                          refine ct_loopW (fun n S => ∃ p : Int × List S_api_Leaf, S = (⟨[(2, .ptr 1 0), (14, .sl none 1 false (x25.1.map (V.int .i64))), (16, .ptr 4 0), (17, .ptr 5 0), (18, .int .i64 p.1)], [(1, .var 80 true (zv_59)), (4, .var 4 true (.agg [.int .i64 (gt i_.L 5).Kind, .int .i64 (gt i_.L 5).N, .sl none 1 false ((gt i_.L 5).B.map (V.int .u8)), .sl none 4 true ((gt i_.L 5).L.map e_api_Item)])), (5, .var 80 true (.agg (.int .i64 x9.1.Bank :: .int .i64 x9.1.Epoch :: .int .i64 x9.1.Denom :: .int .i64 x9.1.Depth :: .int .i64 x9.1.A :: .int .u8 (gt x9.1.Root 0) :: .int .u8 (gt x9.1.Root 1) :: .int .u8 (gt x9.1.Root 2) :: .int .u8 (gt x9.1.Root 3) :: .int .u8 (gt x9.1.Root 4) :: .int .u8 (gt x9.1.Root 5) :: .int .u8 (gt x9.1.Root 6) :: .int .u8 (gt x9.1.Root 7) :: .int .u8 (gt x9.1.Root 8) :: .int .u8 (gt x9.1.Root 9) :: .int .u8 (gt x9.1.Root 10) :: .int .u8 (gt x9.1.Root 11) :: .int .u8 (gt x9.1.Root 12) :: .int .u8 (gt x9.1.Root 13) :: .int .u8 (gt x9.1.Root 14) :: .int .u8 (gt x9.1.Root 15) :: .int .u8 (gt x9.1.Root 16) :: .int .u8 (gt x9.1.Root 17) :: .int .u8 (gt x9.1.Root 18) :: .int .u8 (gt x9.1.Root 19) :: .int .u8 (gt x9.1.Root 20) :: .int .u8 (gt x9.1.Root 21) :: .int .u8 (gt x9.1.Root 22) :: .int .u8 (gt x9.1.Root 23) :: .int .u8 (gt x9.1.Root 24) :: .int .u8 (gt x9.1.Root 25) :: .int .u8 (gt x9.1.Root 26) :: .int .u8 (gt x9.1.Root 27) :: .int .u8 (gt x9.1.Root 28) :: .int .u8 (gt x9.1.Root 29) :: .int .u8 (gt x9.1.Root 30) :: .int .u8 (gt x9.1.Root 31) :: .int .i64 x9.1.Sign.Z :: .int .i64 x9.1.Sign.A :: .int .i64 x9.1.Sign.B :: .int .i64 x9.1.Sign.R :: .int .i64 x13.1 :: .int .i64 x13.2.1 :: .int .u8 (gt x17.1 0) :: .int .u8 (gt x17.1 1) :: .int .u8 (gt x17.1 2) :: .int .u8 (gt x17.1 3) :: .int .u8 (gt x17.1 4) :: .int .u8 (gt x17.1 5) :: .int .u8 (gt x17.1 6) :: .int .u8 (gt x17.1 7) :: .int .u8 (gt x17.1 8) :: .int .u8 (gt x17.1 9) :: .int .u8 (gt x17.1 10) :: .int .u8 (gt x17.1 11) :: .int .u8 (gt x17.1 12) :: .int .u8 (gt x17.1 13) :: .int .u8 (gt x17.1 14) :: .int .u8 (gt x17.1 15) :: .int .u8 (gt x17.1 16) :: .int .u8 (gt x17.1 17) :: .int .u8 (gt x17.1 18) :: .int .u8 (gt x17.1 19) :: .int .u8 (gt x17.1 20) :: .int .u8 (gt x17.1 21) :: .int .u8 (gt x17.1 22) :: .int .u8 (gt x17.1 23) :: .int .u8 (gt x17.1 24) :: .int .u8 (gt x17.1 25) :: .int .u8 (gt x17.1 26) :: .int .u8 (gt x17.1 27) :: .int .u8 (gt x17.1 28) :: .int .u8 (gt x17.1 29) :: .int .u8 (gt x17.1 30) :: .int .u8 (gt x17.1 31) :: .int .i64 x21.1 :: .int .i64 x21.2.1 :: .own 6 :: .int .i64 0 :: .sl (some true) 32 true [] :: []))), (6, .own 116 3 true none (p.2.map e_api_Leaf))], 7⟩ : St) ∧ ((0 ≤ p.1) ∧ (p.1 ≤ (x25.1.length : Int)) ∧ (p.1 % 3 = 0) ∧ (((p.2).length : Int) ≤ p.1)) ∧ ((x25.1.length : Int) - p.1).toNat < n ∧ iter n f39 d39 p = r) (((x25.1.length : Int) - 0).toNat + 1) _ (⟨[(2, .ptr 1 0), (14, .sl none 1 false (x25.1.map (V.int .i64))), (16, .ptr 4 0), (17, .ptr 5 0), (18, .int .i64 0)], [(1, .var 80 true (zv_59)), (4, .var 4 true (.agg [.int .i64 (gt i_.L 5).Kind, .int .i64 (gt i_.L 5).N, .sl none 1 false ((gt i_.L 5).B.map (V.int .u8)), .sl none 4 true ((gt i_.L 5).L.map e_api_Item)])), (5, .var 80 true (.agg (.int .i64 x9.1.Bank :: .int .i64 x9.1.Epoch :: .int .i64 x9.1.Denom :: .int .i64 x9.1.Depth :: .int .i64 x9.1.A :: .int .u8 (gt x9.1.Root 0) :: .int .u8 (gt x9.1.Root 1) :: .int .u8 (gt x9.1.Root 2) :: .int .u8 (gt x9.1.Root 3) :: .int .u8 (gt x9.1.Root 4) :: .int .u8 (gt x9.1.Root 5) :: .int .u8 (gt x9.1.Root 6) :: .int .u8 (gt x9.1.Root 7) :: .int .u8 (gt x9.1.Root 8) :: .int .u8 (gt x9.1.Root 9) :: .int .u8 (gt x9.1.Root 10) :: .int .u8 (gt x9.1.Root 11) :: .int .u8 (gt x9.1.Root 12) :: .int .u8 (gt x9.1.Root 13) :: .int .u8 (gt x9.1.Root 14) :: .int .u8 (gt x9.1.Root 15) :: .int .u8 (gt x9.1.Root 16) :: .int .u8 (gt x9.1.Root 17) :: .int .u8 (gt x9.1.Root 18) :: .int .u8 (gt x9.1.Root 19) :: .int .u8 (gt x9.1.Root 20) :: .int .u8 (gt x9.1.Root 21) :: .int .u8 (gt x9.1.Root 22) :: .int .u8 (gt x9.1.Root 23) :: .int .u8 (gt x9.1.Root 24) :: .int .u8 (gt x9.1.Root 25) :: .int .u8 (gt x9.1.Root 26) :: .int .u8 (gt x9.1.Root 27) :: .int .u8 (gt x9.1.Root 28) :: .int .u8 (gt x9.1.Root 29) :: .int .u8 (gt x9.1.Root 30) :: .int .u8 (gt x9.1.Root 31) :: .int .i64 x9.1.Sign.Z :: .int .i64 x9.1.Sign.A :: .int .i64 x9.1.Sign.B :: .int .i64 x9.1.Sign.R :: .int .i64 x13.1 :: .int .i64 x13.2.1 :: .int .u8 (gt x17.1 0) :: .int .u8 (gt x17.1 1) :: .int .u8 (gt x17.1 2) :: .int .u8 (gt x17.1 3) :: .int .u8 (gt x17.1 4) :: .int .u8 (gt x17.1 5) :: .int .u8 (gt x17.1 6) :: .int .u8 (gt x17.1 7) :: .int .u8 (gt x17.1 8) :: .int .u8 (gt x17.1 9) :: .int .u8 (gt x17.1 10) :: .int .u8 (gt x17.1 11) :: .int .u8 (gt x17.1 12) :: .int .u8 (gt x17.1 13) :: .int .u8 (gt x17.1 14) :: .int .u8 (gt x17.1 15) :: .int .u8 (gt x17.1 16) :: .int .u8 (gt x17.1 17) :: .int .u8 (gt x17.1 18) :: .int .u8 (gt x17.1 19) :: .int .u8 (gt x17.1 20) :: .int .u8 (gt x17.1 21) :: .int .u8 (gt x17.1 22) :: .int .u8 (gt x17.1 23) :: .int .u8 (gt x17.1 24) :: .int .u8 (gt x17.1 25) :: .int .u8 (gt x17.1 26) :: .int .u8 (gt x17.1 27) :: .int .u8 (gt x17.1 28) :: .int .u8 (gt x17.1 29) :: .int .u8 (gt x17.1 30) :: .int .u8 (gt x17.1 31) :: .int .i64 x21.1 :: .int .i64 x21.2.1 :: .own 6 :: .int .i64 0 :: .sl (some true) 32 true [] :: []))), (6, .own 116 3 true none (([] : List S_api_Leaf).map e_api_Leaf))], 7⟩ : St) (weak_nilV 5 77 116 rfl rfl (by decide)) sbQ sbQ ⟨(0, ([] : List S_api_Leaf)), rfl, ⟨by (first | exact omQ | (clear hM; first | (have h9 := sub_gt (l := i_.L) (j := 5) (by assumption) (by assumption) (by omega); exact omQ'))), by (first | exact omQ | (clear hM; first | (have h9 := sub_gt (l := i_.L) (j := 5) (by assumption) (by assumption) (by omega); exact omQ'))), by (first | exact omQ | (clear hM; first | (have h9 := sub_gt (l := i_.L) (j := 5) (by assumption) (by assumption) (by omega); exact omQ'))), by (first | exact omQ | (clear hM; first | (have h9 := sub_gt (l := i_.L) (j := 5) (by assumption) (by assumption) (by omega); exact omQ')))⟩, (Nat.lt_succ_self _), hM⟩ ?_
                          clear hM
                          rintro n39 S ⟨p39, rfl, hfa39, hm39, hM⟩
                          have hM0 := hM; clear hM; obtain ⟨ag39, hag39, hM⟩ := iter_step hM0 (by omega) hf39; clear hM0
                          replace hfa39 := nzQ hfa39
                          replace hm39 := nzQ hm39
                          have ha39 : addI .i64 p39.1 1 = p39.1 + 1 := add_one (by (first | exact omQ | (clear hM; first | (have h9 := sub_gt (l := i_.L) (j := 5) (by assumption) (by assumption) (by omega); exact omQ')))) (by (first | exact omQ | (clear hM; first | (have h9 := sub_gt (l := i_.L) (j := 5) (by assumption) (by assumption) (by omega); exact omQ'))))
                          refine spQA (And.intro he8 (And.intro he12 (And.intro he16 (And.intro he20 (And.intro he24 (And.intro he28 (And.intro he37 ha39))))))) ?_
                          refine condC_intro (fun h40 => ?_) (fun h40 => ?_)
                          · rw [if_pos h40] at hM
                            refine spQA (And.intro he8 (And.intro he12 (And.intro he16 (And.intro he20 (And.intro he24 (And.intro he28 (And.intro he37 (And.intro ha39 h40)))))))) ?_
                            have nh40 := nzQ h40
                            refine ct_draw 195 18 [142, 143, 144, 145, 146, 147, 148, 149, 150, 151, 152, 153, 154, 155, 156, 157, 158, 159] [] ([[], [0], [], [], [2, 3], [2, 3, 4], [], [], [7], [6, 7, 8], [6, 7, 8, 9], [], [], [12], [11, 12, 13], [11, 12, 13, 14], [2, 3, 4, 5, 6, 7, 8, 9, 10, 11, 12, 13, 14, 15], [2, 3, 4, 5, 6, 7, 8, 9, 10, 11, 12, 13, 14, 15, 16]] ++ [List.range 18, List.range 19, List.range 20]) [] (by kernel_rfl) (by exact alQ) ?_
                            refine spQA (And.intro he8 (And.intro he12 (And.intro he16 (And.intro he20 (And.intro he24 (And.intro he28 (And.intro he37 ha39))))))) ?_
                            refine hbindC_intro (by (first | exact omQ | (clear hM; first | (have h9 := sub_gt (l := i_.L) (j := 5) (by assumption) (by assumption) (by omega); exact omQ')))) ?_
                            have he41 := fun d => elt_mp (l := x25.1) (f := (V.int .i64)) (i := p39.1) (by (first | exact omQ | (clear hM; first | (have h9 := sub_gt (l := i_.L) (j := 5) (by assumption) (by assumption) (by omega); exact omQ')))) d
                            refine spQA (And.intro he8 (And.intro he12 (And.intro he16 (And.intro he20 (And.intro he24 (And.intro he28 (And.intro he37 (And.intro ha39 he41)))))))) ?_
                            refine hbindC_intro (by (first | exact omQ | (clear hM; first | (have h9 := sub_gt (l := i_.L) (j := 5) (by assumption) (by assumption) (by omega); exact omQ')))) ?_
                            have he42 := fun d => elt_mp (l := x25.1) (f := (V.int .i64)) (i := (p39.1 + 1)) (by (first | exact omQ | (clear hM; first | (have h9 := sub_gt (l := i_.L) (j := 5) (by assumption) (by assumption) (by omega); exact omQ')))) d
                            refine spQA (And.intro he8 (And.intro he12 (And.intro he16 (And.intro he20 (And.intro he24 (And.intro he28 (And.intro he37 (And.intro ha39 (And.intro he41 he42))))))))) ?_
                            have ha43 : addI .i64 p39.1 2 = (p39.1 + 2) := add_ok (by (first | exact omQ | (clear hM; first | (have h9 := sub_gt (l := i_.L) (j := 5) (by assumption) (by assumption) (by omega); exact omQ')))) (by (first | exact omQ | (clear hM; first | (have h9 := sub_gt (l := i_.L) (j := 5) (by assumption) (by assumption) (by omega); exact omQ'))))
                            try simp only [ha43]
                            refine hbindC_intro (by (first | exact omQ | (clear hM; first | (have h9 := sub_gt (l := i_.L) (j := 5) (by assumption) (by assumption) (by omega); exact omQ')))) ?_
                            have he44 := fun d => elt_mp (l := x25.1) (f := (V.int .i64)) (i := (p39.1 + 2)) (by (first | exact omQ | (clear hM; first | (have h9 := sub_gt (l := i_.L) (j := 5) (by assumption) (by assumption) (by omega); exact omQ')))) d
                            refine spQA (And.intro he8 (And.intro he12 (And.intro he16 (And.intro he20 (And.intro he24 (And.intro he28 (And.intro he37 (And.intro ha39 (And.intro he41 (And.intro he42 (And.intro ha43 he44))))))))))) ?_
                            refine bindC_intro (by (first | exact omQ | (clear hM; first | (have h9 := sub_gt (l := i_.L) (j := 5) (by assumption) (by assumption) (by omega); exact omQ')))) ?_
                            refine spQA (And.intro he8 (And.intro he12 (And.intro he16 (And.intro he20 (And.intro he24 (And.intro he28 (And.intro he37 (And.intro ha39 (And.intro he41 (And.intro he42 (And.intro ha43 he44))))))))))) ?_
                            have ha45 : addI .i64 p39.1 3 = (p39.1 + 3) := add_ok (by (first | exact omQ | (clear hM; first | (have h9 := sub_gt (l := i_.L) (j := 5) (by assumption) (by assumption) (by omega); exact omQ')))) (by (first | exact omQ | (clear hM; first | (have h9 := sub_gt (l := i_.L) (j := 5) (by assumption) (by assumption) (by omega); exact omQ'))))
                            try simp only [ha45]
                            refine lp_intro (n39 - 1) (⟨[(2, .ptr 1 0), (14, .sl none 1 false (x25.1.map (V.int .i64))), (16, .ptr 4 0), (17, .ptr 5 0), (18, .int .i64 (p39.1 + 3))], [(1, .var 80 true (zv_59)), (4, .var 4 true (.agg [.int .i64 (gt i_.L 5).Kind, .int .i64 (gt i_.L 5).N, .sl none 1 false ((gt i_.L 5).B.map (V.int .u8)), .sl none 4 true ((gt i_.L 5).L.map e_api_Item)])), (5, .var 80 true (.agg (.int .i64 x9.1.Bank :: .int .i64 x9.1.Epoch :: .int .i64 x9.1.Denom :: .int .i64 x9.1.Depth :: .int .i64 x9.1.A :: .int .u8 (gt x9.1.Root 0) :: .int .u8 (gt x9.1.Root 1) :: .int .u8 (gt x9.1.Root 2) :: .int .u8 (gt x9.1.Root 3) :: .int .u8 (gt x9.1.Root 4) :: .int .u8 (gt x9.1.Root 5) :: .int .u8 (gt x9.1.Root 6) :: .int .u8 (gt x9.1.Root 7) :: .int .u8 (gt x9.1.Root 8) :: .int .u8 (gt x9.1.Root 9) :: .int .u8 (gt x9.1.Root 10) :: .int .u8 (gt x9.1.Root 11) :: .int .u8 (gt x9.1.Root 12) :: .int .u8 (gt x9.1.Root 13) :: .int .u8 (gt x9.1.Root 14) :: .int .u8 (gt x9.1.Root 15) :: .int .u8 (gt x9.1.Root 16) :: .int .u8 (gt x9.1.Root 17) :: .int .u8 (gt x9.1.Root 18) :: .int .u8 (gt x9.1.Root 19) :: .int .u8 (gt x9.1.Root 20) :: .int .u8 (gt x9.1.Root 21) :: .int .u8 (gt x9.1.Root 22) :: .int .u8 (gt x9.1.Root 23) :: .int .u8 (gt x9.1.Root 24) :: .int .u8 (gt x9.1.Root 25) :: .int .u8 (gt x9.1.Root 26) :: .int .u8 (gt x9.1.Root 27) :: .int .u8 (gt x9.1.Root 28) :: .int .u8 (gt x9.1.Root 29) :: .int .u8 (gt x9.1.Root 30) :: .int .u8 (gt x9.1.Root 31) :: .int .i64 x9.1.Sign.Z :: .int .i64 x9.1.Sign.A :: .int .i64 x9.1.Sign.B :: .int .i64 x9.1.Sign.R :: .int .i64 x13.1 :: .int .i64 x13.2.1 :: .int .u8 (gt x17.1 0) :: .int .u8 (gt x17.1 1) :: .int .u8 (gt x17.1 2) :: .int .u8 (gt x17.1 3) :: .int .u8 (gt x17.1 4) :: .int .u8 (gt x17.1 5) :: .int .u8 (gt x17.1 6) :: .int .u8 (gt x17.1 7) :: .int .u8 (gt x17.1 8) :: .int .u8 (gt x17.1 9) :: .int .u8 (gt x17.1 10) :: .int .u8 (gt x17.1 11) :: .int .u8 (gt x17.1 12) :: .int .u8 (gt x17.1 13) :: .int .u8 (gt x17.1 14) :: .int .u8 (gt x17.1 15) :: .int .u8 (gt x17.1 16) :: .int .u8 (gt x17.1 17) :: .int .u8 (gt x17.1 18) :: .int .u8 (gt x17.1 19) :: .int .u8 (gt x17.1 20) :: .int .u8 (gt x17.1 21) :: .int .u8 (gt x17.1 22) :: .int .u8 (gt x17.1 23) :: .int .u8 (gt x17.1 24) :: .int .u8 (gt x17.1 25) :: .int .u8 (gt x17.1 26) :: .int .u8 (gt x17.1 27) :: .int .u8 (gt x17.1 28) :: .int .u8 (gt x17.1 29) :: .int .u8 (gt x17.1 30) :: .int .u8 (gt x17.1 31) :: .int .i64 x21.1 :: .int .i64 x21.2.1 :: .own 6 :: .int .i64 0 :: .sl (some true) 32 true [] :: []))), (6, .own 116 3 true none ((p39.2 ++ ([({ B := (gt x25.1 p39.1), R1 := (gt x25.1 (p39.1 + 1)), R2 := (gt x25.1 (p39.1 + 2)) } : S_api_Leaf)] : List S_api_Leaf)).map e_api_Leaf))], 7⟩ : St) (by omega) sbQ sbQ ⟨((p39.1 + 3), (p39.2 ++ ([({ B := (gt x25.1 p39.1), R1 := (gt x25.1 (p39.1 + 1)), R2 := (gt x25.1 (p39.1 + 2)) } : S_api_Leaf)] : List S_api_Leaf))), rfl, ⟨by (first | exact omQ | (clear hM; first | (have h9 := sub_gt (l := i_.L) (j := 5) (by assumption) (by assumption) (by omega); exact omQ'))), by (first | exact omQ | (clear hM; first | (have h9 := sub_gt (l := i_.L) (j := 5) (by assumption) (by assumption) (by omega); exact omQ'))), by (first | exact omQ | (clear hM; first | (have h9 := sub_gt (l := i_.L) (j := 5) (by assumption) (by assumption) (by omega); exact omQ'))), by (first | exact omQ | (clear hM; first | (have h9 := sub_gt (l := i_.L) (j := 5) (by assumption) (by assumption) (by omega); exact omQ')))⟩, by (first | exact omQ | (clear hM; first | (have h9 := sub_gt (l := i_.L) (j := 5) (by assumption) (by assumption) (by omega); exact omQ'))), iter_again hM hag39⟩
                          · rw [if_neg (ne_true h40)] at hM
                            refine spQA (And.intro he8 (And.intro he12 (And.intro he16 (And.intro he20 (And.intro he24 (And.intro he28 (And.intro he37 (And.intro ha39 h40)))))))) ?_
                            have nh40 := nzQ h40
                            refine bindC_intro (by (first | exact omQ | (clear hM; first | (have h9 := sub_gt (l := i_.L) (j := 5) (by assumption) (by assumption) (by omega); exact omQ')))) ?_
                            refine spQA (And.intro he8 (And.intro he12 (And.intro he16 (And.intro he20 (And.intro he24 (And.intro he28 (And.intro he37 ha39))))))) ?_
                            refine bindC_intro (by (first | exact omQ | (clear hM; first | (have h9 := sub_gt (l := i_.L) (j := 5) (by assumption) (by assumption) (by omega); exact omQ')))) ?_
                            refine spQA (And.intro he8 (And.intro he12 (And.intro he16 (And.intro he20 (And.intro he24 (And.intro he28 (And.intro he37 ha39))))))) ?_
                            have hM0 := hM; clear hM; obtain ⟨f46, d46, hf46, hd46, hM⟩ := iter_opn hM0; clear hM0
                            refine ct_loopW (fun n S => ∃ p : Int × S_api_Spend × List (List Int), S = (⟨[(2, .ptr 1 0), (17, .ptr 5 0), (171, .sl none 4 true ((sl (gt i_.L 5).L 1 ((gt i_.L 5).L.length : Int)).map e_api_Item)), (172, .int .i64 ((sl (gt i_.L 5).L 1 ((gt i_.L 5).L.length : Int)).length : Int)), (173, .int .i64 p.1)], [(1, .var 80 true ((e_api_Spend p.2.1))), (5, .var 80 true (.agg (.int .i64 x9.1.Bank :: .int .i64 x9.1.Epoch :: .int .i64 x9.1.Denom :: .int .i64 x9.1.Depth :: .int .i64 x9.1.A :: .int .u8 (gt x9.1.Root 0) :: .int .u8 (gt x9.1.Root 1) :: .int .u8 (gt x9.1.Root 2) :: .int .u8 (gt x9.1.Root 3) :: .int .u8 (gt x9.1.Root 4) :: .int .u8 (gt x9.1.Root 5) :: .int .u8 (gt x9.1.Root 6) :: .int .u8 (gt x9.1.Root 7) :: .int .u8 (gt x9.1.Root 8) :: .int .u8 (gt x9.1.Root 9) :: .int .u8 (gt x9.1.Root 10) :: .int .u8 (gt x9.1.Root 11) :: .int .u8 (gt x9.1.Root 12) :: .int .u8 (gt x9.1.Root 13) :: .int .u8 (gt x9.1.Root 14) :: .int .u8 (gt x9.1.Root 15) :: .int .u8 (gt x9.1.Root 16) :: .int .u8 (gt x9.1.Root 17) :: .int .u8 (gt x9.1.Root 18) :: .int .u8 (gt x9.1.Root 19) :: .int .u8 (gt x9.1.Root 20) :: .int .u8 (gt x9.1.Root 21) :: .int .u8 (gt x9.1.Root 22) :: .int .u8 (gt x9.1.Root 23) :: .int .u8 (gt x9.1.Root 24) :: .int .u8 (gt x9.1.Root 25) :: .int .u8 (gt x9.1.Root 26) :: .int .u8 (gt x9.1.Root 27) :: .int .u8 (gt x9.1.Root 28) :: .int .u8 (gt x9.1.Root 29) :: .int .u8 (gt x9.1.Root 30) :: .int .u8 (gt x9.1.Root 31) :: .int .i64 x9.1.Sign.Z :: .int .i64 x9.1.Sign.A :: .int .i64 x9.1.Sign.B :: .int .i64 x9.1.Sign.R :: .int .i64 x13.1 :: .int .i64 x13.2.1 :: .int .u8 (gt x17.1 0) :: .int .u8 (gt x17.1 1) :: .int .u8 (gt x17.1 2) :: .int .u8 (gt x17.1 3) :: .int .u8 (gt x17.1 4) :: .int .u8 (gt x17.1 5) :: .int .u8 (gt x17.1 6) :: .int .u8 (gt x17.1 7) :: .int .u8 (gt x17.1 8) :: .int .u8 (gt x17.1 9) :: .int .u8 (gt x17.1 10) :: .int .u8 (gt x17.1 11) :: .int .u8 (gt x17.1 12) :: .int .u8 (gt x17.1 13) :: .int .u8 (gt x17.1 14) :: .int .u8 (gt x17.1 15) :: .int .u8 (gt x17.1 16) :: .int .u8 (gt x17.1 17) :: .int .u8 (gt x17.1 18) :: .int .u8 (gt x17.1 19) :: .int .u8 (gt x17.1 20) :: .int .u8 (gt x17.1 21) :: .int .u8 (gt x17.1 22) :: .int .u8 (gt x17.1 23) :: .int .u8 (gt x17.1 24) :: .int .u8 (gt x17.1 25) :: .int .u8 (gt x17.1 26) :: .int .u8 (gt x17.1 27) :: .int .u8 (gt x17.1 28) :: .int .u8 (gt x17.1 29) :: .int .u8 (gt x17.1 30) :: .int .u8 (gt x17.1 31) :: .int .i64 x21.1 :: .int .i64 x21.2.1 :: .own 6 :: .int .i64 (gt (gt i_.L 5).L 0).N :: .own 7 :: []))), (6, .own 116 3 true none (p39.2.map e_api_Leaf)), (7, .own 45 32 true none (p.2.2.map e_arr45))], 8⟩ : St) ∧ ((0 ≤ p.1) ∧ (p.1 ≤ ((sl (gt i_.L 5).L 1 ((gt i_.L 5).L.length : Int)).length : Int)) ∧ (((p.2.2).length : Int) ≤ p.1)) ∧ (((sl (gt i_.L 5).L 1 ((gt i_.L 5).L.length : Int)).length : Int) - p.1).toNat < n ∧ iter n f46 d46 p = r) ((((sl (gt i_.L 5).L 1 ((gt i_.L 5).L.length : Int)).length : Int) - 0).toNat + 1) _ (⟨[(2, .ptr 1 0), (17, .ptr 5 0), (171, .sl none 4 true ((sl (gt i_.L 5).L 1 ((gt i_.L 5).L.length : Int)).map e_api_Item)), (172, .int .i64 ((sl (gt i_.L 5).L 1 ((gt i_.L 5).L.length : Int)).length : Int)), (173, .int .i64 0)], [(1, .var 80 true (.agg (.int .i64 0 :: .int .i64 0 :: .int .i64 0 :: .int .i64 0 :: .int .i64 0 :: .int .u8 0 :: .int .u8 0 :: .int .u8 0 :: .int .u8 0 :: .int .u8 0 :: .int .u8 0 :: .int .u8 0 :: .int .u8 0 :: .int .u8 0 :: .int .u8 0 :: .int .u8 0 :: .int .u8 0 :: .int .u8 0 :: .int .u8 0 :: .int .u8 0 :: .int .u8 0 :: .int .u8 0 :: .int .u8 0 :: .int .u8 0 :: .int .u8 0 :: .int .u8 0 :: .int .u8 0 :: .int .u8 0 :: .int .u8 0 :: .int .u8 0 :: .int .u8 0 :: .int .u8 0 :: .int .u8 0 :: .int .u8 0 :: .int .u8 0 :: .int .u8 0 :: .int .u8 0 :: .int .i64 0 :: .int .i64 0 :: .int .i64 0 :: .int .i64 0 :: .int .i64 0 :: .int .i64 0 :: .int .u8 0 :: .int .u8 0 :: .int .u8 0 :: .int .u8 0 :: .int .u8 0 :: .int .u8 0 :: .int .u8 0 :: .int .u8 0 :: .int .u8 0 :: .int .u8 0 :: .int .u8 0 :: .int .u8 0 :: .int .u8 0 :: .int .u8 0 :: .int .u8 0 :: .int .u8 0 :: .int .u8 0 :: .int .u8 0 :: .int .u8 0 :: .int .u8 0 :: .int .u8 0 :: .int .u8 0 :: .int .u8 0 :: .int .u8 0 :: .int .u8 0 :: .int .u8 0 :: .int .u8 0 :: .int .u8 0 :: .int .u8 0 :: .int .u8 0 :: .int .u8 0 :: .int .u8 0 :: .int .i64 0 :: .int .i64 0 :: .sl none 3 true [] :: .int .i64 0 :: .sl none 32 true [] :: []))), (5, .var 80 true (.agg (.int .i64 x9.1.Bank :: .int .i64 x9.1.Epoch :: .int .i64 x9.1.Denom :: .int .i64 x9.1.Depth :: .int .i64 x9.1.A :: .int .u8 (gt x9.1.Root 0) :: .int .u8 (gt x9.1.Root 1) :: .int .u8 (gt x9.1.Root 2) :: .int .u8 (gt x9.1.Root 3) :: .int .u8 (gt x9.1.Root 4) :: .int .u8 (gt x9.1.Root 5) :: .int .u8 (gt x9.1.Root 6) :: .int .u8 (gt x9.1.Root 7) :: .int .u8 (gt x9.1.Root 8) :: .int .u8 (gt x9.1.Root 9) :: .int .u8 (gt x9.1.Root 10) :: .int .u8 (gt x9.1.Root 11) :: .int .u8 (gt x9.1.Root 12) :: .int .u8 (gt x9.1.Root 13) :: .int .u8 (gt x9.1.Root 14) :: .int .u8 (gt x9.1.Root 15) :: .int .u8 (gt x9.1.Root 16) :: .int .u8 (gt x9.1.Root 17) :: .int .u8 (gt x9.1.Root 18) :: .int .u8 (gt x9.1.Root 19) :: .int .u8 (gt x9.1.Root 20) :: .int .u8 (gt x9.1.Root 21) :: .int .u8 (gt x9.1.Root 22) :: .int .u8 (gt x9.1.Root 23) :: .int .u8 (gt x9.1.Root 24) :: .int .u8 (gt x9.1.Root 25) :: .int .u8 (gt x9.1.Root 26) :: .int .u8 (gt x9.1.Root 27) :: .int .u8 (gt x9.1.Root 28) :: .int .u8 (gt x9.1.Root 29) :: .int .u8 (gt x9.1.Root 30) :: .int .u8 (gt x9.1.Root 31) :: .int .i64 x9.1.Sign.Z :: .int .i64 x9.1.Sign.A :: .int .i64 x9.1.Sign.B :: .int .i64 x9.1.Sign.R :: .int .i64 x13.1 :: .int .i64 x13.2.1 :: .int .u8 (gt x17.1 0) :: .int .u8 (gt x17.1 1) :: .int .u8 (gt x17.1 2) :: .int .u8 (gt x17.1 3) :: .int .u8 (gt x17.1 4) :: .int .u8 (gt x17.1 5) :: .int .u8 (gt x17.1 6) :: .int .u8 (gt x17.1 7) :: .int .u8 (gt x17.1 8) :: .int .u8 (gt x17.1 9) :: .int .u8 (gt x17.1 10) :: .int .u8 (gt x17.1 11) :: .int .u8 (gt x17.1 12) :: .int .u8 (gt x17.1 13) :: .int .u8 (gt x17.1 14) :: .int .u8 (gt x17.1 15) :: .int .u8 (gt x17.1 16) :: .int .u8 (gt x17.1 17) :: .int .u8 (gt x17.1 18) :: .int .u8 (gt x17.1 19) :: .int .u8 (gt x17.1 20) :: .int .u8 (gt x17.1 21) :: .int .u8 (gt x17.1 22) :: .int .u8 (gt x17.1 23) :: .int .u8 (gt x17.1 24) :: .int .u8 (gt x17.1 25) :: .int .u8 (gt x17.1 26) :: .int .u8 (gt x17.1 27) :: .int .u8 (gt x17.1 28) :: .int .u8 (gt x17.1 29) :: .int .u8 (gt x17.1 30) :: .int .u8 (gt x17.1 31) :: .int .i64 x21.1 :: .int .i64 x21.2.1 :: .own 6 :: .int .i64 (gt (gt i_.L 5).L 0).N :: .own 7 :: []))), (6, .own 116 3 true none (p39.2.map e_api_Leaf)), (7, .own 45 32 true none (([] : List (List Int)).map e_arr45))], 8⟩ : St) (weak_nilV 5 79 45 rfl rfl (by decide)) sbQ sbQ ⟨(0, z_api_Spend, ([] : List (List Int))), rfl, ⟨by (first | exact omQ | (clear hM; first | (have h9 := sub_gt (l := i_.L) (j := 5) (by assumption) (by assumption) (by omega); exact omQ'))), by (first | exact omQ | (clear hM; first | (have h9 := sub_gt (l := i_.L) (j := 5) (by assumption) (by assumption) (by omega); exact omQ'))), by (first | exact omQ | (clear hM; first | (have h9 := sub_gt (l := i_.L) (j := 5) (by assumption) (by assumption) (by omega); exact omQ')))⟩, (Nat.lt_succ_self _), hM⟩ ?_
                            clear hM
                            rintro n46 S ⟨p46, rfl, hfa46, hm46, hM⟩
                            have hM0 := hM; clear hM; obtain ⟨ag46, hag46, hM⟩ := iter_step hM0 (by omega) hf46; clear hM0
                            replace hfa46 := nzQ hfa46
                            replace hm46 := nzQ hm46
                            have ha46 : addI .i64 p46.1 1 = p46.1 + 1 := add_one (by (first | exact omQ | (clear hM; first | (have h9 := sub_gt (l := i_.L) (j := 5) (by assumption) (by assumption) (by omega); exact omQ')))) (by (first | exact omQ | (clear hM; first | (have h9 := sub_gt (l := i_.L) (j := 5) (by assumption) (by assumption) (by omega); exact omQ'))))
                            refine spQA (And.intro he8 (And.intro he12 (And.intro he16 (And.intro he20 (And.intro he24 (And.intro he28 (And.intro he37 (And.intro ha39 ha46)))))))) ?_
                            refine condC_intro (fun h47 => ?_) (fun h47 => ?_)
                            · rw [if_pos h47] at hM
                              refine spQA (And.intro he8 (And.intro he12 (And.intro he16 (And.intro he20 (And.intro he24 (And.intro he28 (And.intro he37 (And.intro ha39 (And.intro ha46 h47))))))))) ?_
                              have nh47 := nzQ h47
                              refine bindC_intro (by (first | exact omQ | (clear hM; first | (have h9 := sub_gt (l := i_.L) (j := 5) (by assumption) (by assumption) (by omega); exact omQ')))) ?_
                              have he48 := fun d => elt_mp (l := (sl (gt i_.L 5).L 1 ((gt i_.L 5).L.length : Int))) (f := e_api_Item) (i := p46.1) (by (first | exact omQ | (clear hM; first | (have h9 := sub_gt (l := i_.L) (j := 5) (by assumption) (by assumption) (by omega); exact omQ')))) d
                              refine spQA (And.intro he8 (And.intro he12 (And.intro he16 (And.intro he20 (And.intro he24 (And.intro he28 (And.intro he37 (And.intro ha39 (And.intro ha46 he48))))))))) ?_
                              have hM0 := hM; clear hM; obtain ⟨x49, hx50, hM⟩ := letk_opn hM0; clear hM0
                              have hcx49 := spend_hash_ok  (gt (sl (gt i_.L 5).L 1 ((gt i_.L 5).L.length : Int)) p46.1) 
                              rw [← hx50] at hcx49
                              refine callC_give hcx49 (clQA (And.intro he8 (And.intro he12 (And.intro he16 (And.intro he20 (And.intro he24 (And.intro he28 (And.intro he37 (And.intro ha39 (And.intro ha46 he48)))))))))) (clQA (And.intro he8 (And.intro he12 (And.intro he16 (And.intro he20 (And.intro he24 (And.intro he28 (And.intro he37 (And.intro ha39 (And.intro ha46 he48)))))))))) (fun hw51 => ?_)
                              replace hw51 := nzQ hw51
                              refine spQA (And.intro he8 (And.intro he12 (And.intro he16 (And.intro he20 (And.intro he24 (And.intro he28 (And.intro he37 (And.intro ha39 (And.intro ha46 he48))))))))) ?_
                              refine condC_intro (fun h52 => ?_) (fun h52 => ?_)
                              · rw [if_pos h52] at hM
                                refine spQA (And.intro he8 (And.intro he12 (And.intro he16 (And.intro he20 (And.intro he24 (And.intro he28 (And.intro he37 (And.intro ha39 (And.intro ha46 (And.intro he48 h52)))))))))) ?_
                                have nh52 := nzQ h52
                                subst hM
                                exact retC_view (lfQA (And.intro he8 (And.intro he12 (And.intro he16 (And.intro he20 (And.intro he24 (And.intro he28 (And.intro he37 (And.intro ha39 (And.intro ha46 (And.intro he48 (And.intro h5 (And.intro h6 (And.intro h7 (And.intro h29 (And.intro h30 (And.intro h31 (And.intro h32 (And.intro h33 (And.intro h34 (And.intro h35 (And.intro h36 (And.intro h38 (And.intro h40 (And.intro h47 h52)))))))))))))))))))))))))
                              · rw [if_neg (ne_true h52)] at hM
                                refine spQA (And.intro he8 (And.intro he12 (And.intro he16 (And.intro he20 (And.intro he24 (And.intro he28 (And.intro he37 (And.intro ha39 (And.intro ha46 (And.intro he48 h52)))))))))) ?_
                                have nh52 := nzQ h52
                                refine bindC_intro (by (first | exact omQ | (clear hM; first | (have h9 := sub_gt (l := i_.L) (j := 5) (by assumption) (by assumption) (by omega); exact omQ')))) ?_
                                refine spQA (And.intro he8 (And.intro he12 (And.intro he16 (And.intro he20 (And.intro he24 (And.intro he28 (And.intro he37 (And.intro ha39 (And.intro ha46 he48))))))))) ?_
                                refine lp_intro (n46 - 1) (⟨[(2, .ptr 1 0), (17, .ptr 5 0), (171, .sl none 4 true ((sl (gt i_.L 5).L 1 ((gt i_.L 5).L.length : Int)).map e_api_Item)), (172, .int .i64 ((sl (gt i_.L 5).L 1 ((gt i_.L 5).L.length : Int)).length : Int)), (173, .int .i64 (p46.1 + 1))], [(1, .var 80 true ((e_api_Spend p46.2.1))), (5, .var 80 true (.agg (.int .i64 x9.1.Bank :: .int .i64 x9.1.Epoch :: .int .i64 x9.1.Denom :: .int .i64 x9.1.Depth :: .int .i64 x9.1.A :: .int .u8 (gt x9.1.Root 0) :: .int .u8 (gt x9.1.Root 1) :: .int .u8 (gt x9.1.Root 2) :: .int .u8 (gt x9.1.Root 3) :: .int .u8 (gt x9.1.Root 4) :: .int .u8 (gt x9.1.Root 5) :: .int .u8 (gt x9.1.Root 6) :: .int .u8 (gt x9.1.Root 7) :: .int .u8 (gt x9.1.Root 8) :: .int .u8 (gt x9.1.Root 9) :: .int .u8 (gt x9.1.Root 10) :: .int .u8 (gt x9.1.Root 11) :: .int .u8 (gt x9.1.Root 12) :: .int .u8 (gt x9.1.Root 13) :: .int .u8 (gt x9.1.Root 14) :: .int .u8 (gt x9.1.Root 15) :: .int .u8 (gt x9.1.Root 16) :: .int .u8 (gt x9.1.Root 17) :: .int .u8 (gt x9.1.Root 18) :: .int .u8 (gt x9.1.Root 19) :: .int .u8 (gt x9.1.Root 20) :: .int .u8 (gt x9.1.Root 21) :: .int .u8 (gt x9.1.Root 22) :: .int .u8 (gt x9.1.Root 23) :: .int .u8 (gt x9.1.Root 24) :: .int .u8 (gt x9.1.Root 25) :: .int .u8 (gt x9.1.Root 26) :: .int .u8 (gt x9.1.Root 27) :: .int .u8 (gt x9.1.Root 28) :: .int .u8 (gt x9.1.Root 29) :: .int .u8 (gt x9.1.Root 30) :: .int .u8 (gt x9.1.Root 31) :: .int .i64 x9.1.Sign.Z :: .int .i64 x9.1.Sign.A :: .int .i64 x9.1.Sign.B :: .int .i64 x9.1.Sign.R :: .int .i64 x13.1 :: .int .i64 x13.2.1 :: .int .u8 (gt x17.1 0) :: .int .u8 (gt x17.1 1) :: .int .u8 (gt x17.1 2) :: .int .u8 (gt x17.1 3) :: .int .u8 (gt x17.1 4) :: .int .u8 (gt x17.1 5) :: .int .u8 (gt x17.1 6) :: .int .u8 (gt x17.1 7) :: .int .u8 (gt x17.1 8) :: .int .u8 (gt x17.1 9) :: .int .u8 (gt x17.1 10) :: .int .u8 (gt x17.1 11) :: .int .u8 (gt x17.1 12) :: .int .u8 (gt x17.1 13) :: .int .u8 (gt x17.1 14) :: .int .u8 (gt x17.1 15) :: .int .u8 (gt x17.1 16) :: .int .u8 (gt x17.1 17) :: .int .u8 (gt x17.1 18) :: .int .u8 (gt x17.1 19) :: .int .u8 (gt x17.1 20) :: .int .u8 (gt x17.1 21) :: .int .u8 (gt x17.1 22) :: .int .u8 (gt x17.1 23) :: .int .u8 (gt x17.1 24) :: .int .u8 (gt x17.1 25) :: .int .u8 (gt x17.1 26) :: .int .u8 (gt x17.1 27) :: .int .u8 (gt x17.1 28) :: .int .u8 (gt x17.1 29) :: .int .u8 (gt x17.1 30) :: .int .u8 (gt x17.1 31) :: .int .i64 x21.1 :: .int .i64 x21.2.1 :: .own 6 :: .int .i64 (gt (gt i_.L 5).L 0).N :: .own 7 :: []))), (6, .own 116 3 true none (p39.2.map e_api_Leaf)), (7, .own 45 32 true none ((p46.2.2 ++ ([x49.1] : List (List Int))).map e_arr45))], 8⟩ : St) (by omega) sbQ sbQ ⟨((p46.1 + 1), p46.2.1, (p46.2.2 ++ ([x49.1] : List (List Int)))), rfl, ⟨by (first | exact omQ | (clear hM; first | (have h9 := sub_gt (l := i_.L) (j := 5) (by assumption) (by assumption) (by omega); exact omQ'))), by (first | exact omQ | (clear hM; first | (have h9 := sub_gt (l := i_.L) (j := 5) (by assumption) (by assumption) (by omega); exact omQ'))), by (first | exact omQ | (clear hM; first | (have h9 := sub_gt (l := i_.L) (j := 5) (by assumption) (by assumption) (by omega); exact omQ')))⟩, by (first | exact omQ | (clear hM; first | (have h9 := sub_gt (l := i_.L) (j := 5) (by assumption) (by assumption) (by omega); exact omQ'))), iter_again hM hag46⟩
                            · rw [if_neg (ne_true h47)] at hM
                              refine spQA (And.intro he8 (And.intro he12 (And.intro he16 (And.intro he20 (And.intro he24 (And.intro he28 (And.intro he37 (And.intro ha39 (And.intro ha46 h47))))))))) ?_
                              have nh47 := nzQ h47
                              subst hM
                              exact retC_view (lfQA (And.intro he8 (And.intro he12 (And.intro he16 (And.intro he20 (And.intro he24 (And.intro he28 (And.intro he37 (And.intro ha39 (And.intro ha46 (And.intro h5 (And.intro h6 (And.intro h7 (And.intro h29 (And.intro h30 (And.intro h31 (And.intro h32 (And.intro h33 (And.intro h34 (And.intro h35 (And.intro h36 (And.intro h38 (And.intro h40 h47)))))))))))))))))))))))
                      · rw [if_pos h36] at hM
                        refine spQA (And.intro he8 (And.intro he12 (And.intro he16 (And.intro he20 (And.intro he24 (And.intro he28 h36)))))) ?_
                        have nh36 := nzQ h36
                        subst hM
                        exact retC_view (lfQA (And.intro he8 (And.intro he12 (And.intro he16 (And.intro he20 (And.intro he24 (And.intro he28 (And.intro h5 (And.intro h6 (And.intro h7 (And.intro h29 (And.intro h30 (And.intro h31 (And.intro h32 (And.intro h33 (And.intro h34 (And.intro h35 h36)))))))))))))))))
                    · rw [if_pos h35] at hM
                      refine spQA (And.intro he8 (And.intro he12 (And.intro he16 (And.intro he20 (And.intro he24 (And.intro he28 h35)))))) ?_
                      have nh35 := nzQ h35
                      subst hM
                      exact retC_view (lfQA (And.intro he8 (And.intro he12 (And.intro he16 (And.intro he20 (And.intro he24 (And.intro he28 (And.intro h5 (And.intro h6 (And.intro h7 (And.intro h29 (And.intro h30 (And.intro h31 (And.intro h32 (And.intro h33 (And.intro h34 h35))))))))))))))))
                  · rw [if_pos h34] at hM
                    refine spQA (And.intro he8 (And.intro he12 (And.intro he16 (And.intro he20 (And.intro he24 (And.intro he28 h34)))))) ?_
                    have nh34 := nzQ h34
                    subst hM
                    exact retC_view (lfQA (And.intro he8 (And.intro he12 (And.intro he16 (And.intro he20 (And.intro he24 (And.intro he28 (And.intro h5 (And.intro h6 (And.intro h7 (And.intro h29 (And.intro h30 (And.intro h31 (And.intro h32 (And.intro h33 h34)))))))))))))))
                · rw [if_pos h33] at hM
                  refine spQA (And.intro he8 (And.intro he12 (And.intro he16 (And.intro he20 (And.intro he24 (And.intro he28 h33)))))) ?_
                  have nh33 := nzQ h33
                  subst hM
                  exact retC_view (lfQA (And.intro he8 (And.intro he12 (And.intro he16 (And.intro he20 (And.intro he24 (And.intro he28 (And.intro h5 (And.intro h6 (And.intro h7 (And.intro h29 (And.intro h30 (And.intro h31 (And.intro h32 h33))))))))))))))
              · rw [if_pos h32] at hM
                refine spQA (And.intro he8 (And.intro he12 (And.intro he16 (And.intro he20 (And.intro he24 (And.intro he28 h32)))))) ?_
                have nh32 := nzQ h32
                subst hM
                exact retC_view (lfQA (And.intro he8 (And.intro he12 (And.intro he16 (And.intro he20 (And.intro he24 (And.intro he28 (And.intro h5 (And.intro h6 (And.intro h7 (And.intro h29 (And.intro h30 (And.intro h31 h32)))))))))))))
            · rw [if_pos h31] at hM
              refine spQA (And.intro he8 (And.intro he12 (And.intro he16 (And.intro he20 (And.intro he24 (And.intro he28 h31)))))) ?_
              have nh31 := nzQ h31
              subst hM
              exact retC_view (lfQA (And.intro he8 (And.intro he12 (And.intro he16 (And.intro he20 (And.intro he24 (And.intro he28 (And.intro h5 (And.intro h6 (And.intro h7 (And.intro h29 (And.intro h30 h31))))))))))))
          · rw [if_pos h30] at hM
            refine spQA (And.intro he8 (And.intro he12 (And.intro he16 (And.intro he20 (And.intro he24 (And.intro he28 h30)))))) ?_
            have nh30 := nzQ h30
            subst hM
            exact retC_view (lfQA (And.intro he8 (And.intro he12 (And.intro he16 (And.intro he20 (And.intro he24 (And.intro he28 (And.intro h5 (And.intro h6 (And.intro h7 (And.intro h29 h30)))))))))))
        · rw [if_pos h29] at hM
          refine spQA (And.intro he8 (And.intro he12 (And.intro he16 (And.intro he20 (And.intro he24 (And.intro he28 h29)))))) ?_
          have nh29 := nzQ h29
          subst hM
          exact retC_view (lfQA (And.intro he8 (And.intro he12 (And.intro he16 (And.intro he20 (And.intro he24 (And.intro he28 (And.intro h5 (And.intro h6 (And.intro h7 h29))))))))))
    · rw [if_pos h6] at hM
      refine spQA h6 ?_
      have nh6 := nzQ h6
      subst hM
      exact retC_view (lfQA (And.intro h5 h6))
set_option maxHeartbeats 2000000 in
set_option maxRecDepth 100000 in
theorem payment_readSpend_ok   (i_ : S_api_Item)  : CallOk En 36 [.agg [.int .i64 i_.Kind, .int .i64 i_.N, .sl none 1 false (i_.B.map (V.int .u8)), .sl none 4 true (i_.L.map e_api_Item)]] (.tup [.agg (.int .i64 (payment_readSpend i_).1.Coin.Bank :: .int .i64 (payment_readSpend i_).1.Coin.Epoch :: .int .i64 (payment_readSpend i_).1.Coin.Denom :: .int .i64 (payment_readSpend i_).1.Coin.Depth :: .int .i64 (payment_readSpend i_).1.Coin.A :: .int .u8 (gt (payment_readSpend i_).1.Coin.Root 0) :: .int .u8 (gt (payment_readSpend i_).1.Coin.Root 1) :: .int .u8 (gt (payment_readSpend i_).1.Coin.Root 2) :: .int .u8 (gt (payment_readSpend i_).1.Coin.Root 3) :: .int .u8 (gt (payment_readSpend i_).1.Coin.Root 4) :: .int .u8 (gt (payment_readSpend i_).1.Coin.Root 5) :: .int .u8 (gt (payment_readSpend i_).1.Coin.Root 6) :: .int .u8 (gt (payment_readSpend i_).1.Coin.Root 7) :: .int .u8 (gt (payment_readSpend i_).1.Coin.Root 8) :: .int .u8 (gt (payment_readSpend i_).1.Coin.Root 9) :: .int .u8 (gt (payment_readSpend i_).1.Coin.Root 10) :: .int .u8 (gt (payment_readSpend i_).1.Coin.Root 11) :: .int .u8 (gt (payment_readSpend i_).1.Coin.Root 12) :: .int .u8 (gt (payment_readSpend i_).1.Coin.Root 13) :: .int .u8 (gt (payment_readSpend i_).1.Coin.Root 14) :: .int .u8 (gt (payment_readSpend i_).1.Coin.Root 15) :: .int .u8 (gt (payment_readSpend i_).1.Coin.Root 16) :: .int .u8 (gt (payment_readSpend i_).1.Coin.Root 17) :: .int .u8 (gt (payment_readSpend i_).1.Coin.Root 18) :: .int .u8 (gt (payment_readSpend i_).1.Coin.Root 19) :: .int .u8 (gt (payment_readSpend i_).1.Coin.Root 20) :: .int .u8 (gt (payment_readSpend i_).1.Coin.Root 21) :: .int .u8 (gt (payment_readSpend i_).1.Coin.Root 22) :: .int .u8 (gt (payment_readSpend i_).1.Coin.Root 23) :: .int .u8 (gt (payment_readSpend i_).1.Coin.Root 24) :: .int .u8 (gt (payment_readSpend i_).1.Coin.Root 25) :: .int .u8 (gt (payment_readSpend i_).1.Coin.Root 26) :: .int .u8 (gt (payment_readSpend i_).1.Coin.Root 27) :: .int .u8 (gt (payment_readSpend i_).1.Coin.Root 28) :: .int .u8 (gt (payment_readSpend i_).1.Coin.Root 29) :: .int .u8 (gt (payment_readSpend i_).1.Coin.Root 30) :: .int .u8 (gt (payment_readSpend i_).1.Coin.Root 31) :: .int .i64 (payment_readSpend i_).1.Coin.Sign.Z :: .int .i64 (payment_readSpend i_).1.Coin.Sign.A :: .int .i64 (payment_readSpend i_).1.Coin.Sign.B :: .int .i64 (payment_readSpend i_).1.Coin.Sign.R :: .int .i64 (payment_readSpend i_).1.Node.Level :: .int .i64 (payment_readSpend i_).1.Node.Index :: .int .u8 (gt (payment_readSpend i_).1.Context.Payee 0) :: .int .u8 (gt (payment_readSpend i_).1.Context.Payee 1) :: .int .u8 (gt (payment_readSpend i_).1.Context.Payee 2) :: .int .u8 (gt (payment_readSpend i_).1.Context.Payee 3) :: .int .u8 (gt (payment_readSpend i_).1.Context.Payee 4) :: .int .u8 (gt (payment_readSpend i_).1.Context.Payee 5) :: .int .u8 (gt (payment_readSpend i_).1.Context.Payee 6) :: .int .u8 (gt (payment_readSpend i_).1.Context.Payee 7) :: .int .u8 (gt (payment_readSpend i_).1.Context.Payee 8) :: .int .u8 (gt (payment_readSpend i_).1.Context.Payee 9) :: .int .u8 (gt (payment_readSpend i_).1.Context.Payee 10) :: .int .u8 (gt (payment_readSpend i_).1.Context.Payee 11) :: .int .u8 (gt (payment_readSpend i_).1.Context.Payee 12) :: .int .u8 (gt (payment_readSpend i_).1.Context.Payee 13) :: .int .u8 (gt (payment_readSpend i_).1.Context.Payee 14) :: .int .u8 (gt (payment_readSpend i_).1.Context.Payee 15) :: .int .u8 (gt (payment_readSpend i_).1.Context.Payee 16) :: .int .u8 (gt (payment_readSpend i_).1.Context.Payee 17) :: .int .u8 (gt (payment_readSpend i_).1.Context.Payee 18) :: .int .u8 (gt (payment_readSpend i_).1.Context.Payee 19) :: .int .u8 (gt (payment_readSpend i_).1.Context.Payee 20) :: .int .u8 (gt (payment_readSpend i_).1.Context.Payee 21) :: .int .u8 (gt (payment_readSpend i_).1.Context.Payee 22) :: .int .u8 (gt (payment_readSpend i_).1.Context.Payee 23) :: .int .u8 (gt (payment_readSpend i_).1.Context.Payee 24) :: .int .u8 (gt (payment_readSpend i_).1.Context.Payee 25) :: .int .u8 (gt (payment_readSpend i_).1.Context.Payee 26) :: .int .u8 (gt (payment_readSpend i_).1.Context.Payee 27) :: .int .u8 (gt (payment_readSpend i_).1.Context.Payee 28) :: .int .u8 (gt (payment_readSpend i_).1.Context.Payee 29) :: .int .u8 (gt (payment_readSpend i_).1.Context.Payee 30) :: .int .u8 (gt (payment_readSpend i_).1.Context.Payee 31) :: .int .i64 (payment_readSpend i_).1.Context.Time :: .int .i64 (payment_readSpend i_).1.Context.Number :: .sl none 3 true ((payment_readSpend i_).1.Leaves.map e_api_Leaf) :: .int .i64 (payment_readSpend i_).1.Path.Index :: .sl none 32 true ((payment_readSpend i_).1.Path.L.map e_arr45) :: []), .bool (payment_readSpend i_).2]) [] := by
  generalize hM : payment_readSpend i_ = r
  rw [payment_readSpend.eq_1] at hM
  refine enterV En_ok En_mo noJ Try.func36 rfl Try.ntmps36 (by kernel_rfl) fun hw => ct_start ?_
  refine spQ ?_
  replace hw := nzQ hw
  have hM0 := hM; clear hM; obtain ⟨x1, hx2, hM⟩ := letk_opn hM0; clear hM0
  have hcx1 := spend_FromItem_ok  i_ 
  rw [← hx2] at hcx1
  refine callC_give hcx1 clQ clQ (fun hw3 => ?_)
  replace hw3 := nzQ hw3
  refine spQ ?_
  subst hM
  exact retC_view lfQ
set_option maxHeartbeats 2000000 in
set_option maxRecDepth 100000 in
theorem payment_things_api_Spend_at_payment_readSpend_ok   (i_ : S_api_Item)  : CallOk En 35 [.agg [.int .i64 i_.Kind, .int .i64 i_.N, .sl none 1 false (i_.B.map (V.int .u8)), .sl none 4 true (i_.L.map e_api_Item)], .fn 36 []] (.tup [.sl none 80 true ((payment_things_api_Spend_at_payment_readSpend i_).1.map e_api_Spend), .bool (payment_things_api_Spend_at_payment_readSpend i_).2]) [] := by
  generalize hM : payment_things_api_Spend_at_payment_readSpend i_ = r
  rw [payment_things_api_Spend_at_payment_readSpend.eq_1] at hM
  refine enterV En_ok En_mo noJ Try.func35 rfl Try.ntmps35 (by kernel_rfl) fun hw => ct_start ?_
  refine spQ ?_
  replace hw := nzQ hw
  refine condC_intro (fun h1 => ?_) (fun h1 => ?_)
  · rw [if_pos h1] at hM
    refine spQA h1 ?_
    have nh1 := nzQ h1
    subst hM
    exact retC_view (lfQA h1)
  · rw [if_neg (ne_true h1)] at hM
    refine spQA h1 ?_
    have nh1 := nzQ h1
    have hM0 := hM; clear hM; obtain ⟨f2, d2, hf2, hd2, hM⟩ := iter_opn hM0; clear hM0
    refine ct_loopW (fun n S => ∃ p : Int × List S_api_Spend, S = (⟨[(1, .fn 36 []), (6, .own 1), (15, .sl none 4 true (i_.L.map e_api_Item)), (16, .int .i64 (i_.L.length : Int)), (17, .int .i64 p.1)], [(1, .own 59 80 true none (p.2.map e_api_Spend))], 2⟩ : St) ∧ ((0 ≤ p.1) ∧ (p.1 ≤ (i_.L.length : Int)) ∧ (((p.2).length : Int) ≤ p.1)) ∧ ((i_.L.length : Int) - p.1).toNat < n ∧ iter n f2 d2 p = r) (((i_.L.length : Int) - 0).toNat + 1) _ (⟨[(1, .fn 36 []), (6, .own 1), (15, .sl none 4 true (i_.L.map e_api_Item)), (16, .int .i64 (i_.L.length : Int)), (17, .int .i64 0)], [(1, .own 59 80 true none (([] : List S_api_Spend).map e_api_Spend))], 2⟩ : St) (weak_nil 6 59 rfl (by decide)) sbQ sbQ ⟨(0, ([] : List S_api_Spend)), rfl, ⟨omQ, omQ, omQ⟩, (Nat.lt_succ_self _), hM⟩ ?_
    clear hM
    rintro n2 S ⟨p2, rfl, hfa2, hm2, hM⟩
    have hM0 := hM; clear hM; obtain ⟨ag2, hag2, hM⟩ := iter_step hM0 (by omega) hf2; clear hM0
    replace hfa2 := nzQ hfa2
    replace hm2 := nzQ hm2
    have ha2 : addI .i64 p2.1 1 = p2.1 + 1 := add_one omQ omQ
    refine spQA ha2 ?_
    refine condC_intro (fun h3 => ?_) (fun h3 => ?_)
    · rw [if_pos h3] at hM
      refine spQA (And.intro ha2 h3) ?_
      have nh3 := nzQ h3
      refine bindC_intro omQ ?_
      have he4 := fun d => elt_mp (l := i_.L) (f := e_api_Item) (i := p2.1) omQ d
      refine spQA (And.intro ha2 he4) ?_
      have hM0 := hM; clear hM; obtain ⟨x5, hx6, hM⟩ := letk_opn hM0; clear hM0
      have hcx5 := payment_readSpend_ok  (gt i_.L p2.1) 
      rw [← hx6] at hcx5
      refine callC_give hcx5 (clQA (And.intro ha2 he4)) (clQA (And.intro ha2 he4)) (fun hw7 => ?_)
      replace hw7 := nzQ hw7
      refine spQA (And.intro ha2 he4) ?_
      refine condC_intro (fun h8 => ?_) (fun h8 => ?_)
      · rw [if_pos h8] at hM
        refine spQA (And.intro ha2 (And.intro he4 h8)) ?_
        have nh8 := nzQ h8
        subst hM
        exact retC_view (lfQA (And.intro ha2 (And.intro he4 (And.intro h1 (And.intro h3 h8)))))
      · rw [if_neg (ne_true h8)] at hM
        refine spQA (And.intro ha2 (And.intro he4 h8)) ?_
        have nh8 := nzQ h8
        refine bindC_intro omQ ?_
        refine spQA (And.intro ha2 he4) ?_
        refine lp_intro (n2 - 1) (⟨[(1, .fn 36 []), (6, .own 1), (15, .sl none 4 true (i_.L.map e_api_Item)), (16, .int .i64 (i_.L.length : Int)), (17, .int .i64 (p2.1 + 1))], [(1, .own 59 80 true none ((p2.2 ++ ([x5.1] : List S_api_Spend)).map e_api_Spend))], 2⟩ : St) (by omega) sbQ sbQ ⟨((p2.1 + 1), (p2.2 ++ ([x5.1] : List S_api_Spend))), rfl, ⟨omQ, omQ, omQ⟩, omQ, iter_again hM hag2⟩
    · rw [if_neg (ne_true h3)] at hM
      refine spQA (And.intro ha2 h3) ?_
      have nh3 := nzQ h3
      subst hM
      exact retC_view (lfQA (And.intro ha2 (And.intro h1 h3)))
set_option maxHeartbeats 2000000 in
set_option maxRecDepth 100000 in
theorem payment_readChain_ok   (i_ : S_api_Item)  : CallOk En 38 [.agg [.int .i64 i_.Kind, .int .i64 i_.N, .sl none 1 false (i_.B.map (V.int .u8)), .sl none 4 true (i_.L.map e_api_Item)]] (.tup [.agg (.int .i64 (payment_readChain i_).1.First.Coin.Bank :: .int .i64 (payment_readChain i_).1.First.Coin.Epoch :: .int .i64 (payment_readChain i_).1.First.Coin.Denom :: .int .i64 (payment_readChain i_).1.First.Coin.Depth :: .int .i64 (payment_readChain i_).1.First.Coin.A :: .int .u8 (gt (payment_readChain i_).1.First.Coin.Root 0) :: .int .u8 (gt (payment_readChain i_).1.First.Coin.Root 1) :: .int .u8 (gt (payment_readChain i_).1.First.Coin.Root 2) :: .int .u8 (gt (payment_readChain i_).1.First.Coin.Root 3) :: .int .u8 (gt (payment_readChain i_).1.First.Coin.Root 4) :: .int .u8 (gt (payment_readChain i_).1.First.Coin.Root 5) :: .int .u8 (gt (payment_readChain i_).1.First.Coin.Root 6) :: .int .u8 (gt (payment_readChain i_).1.First.Coin.Root 7) :: .int .u8 (gt (payment_readChain i_).1.First.Coin.Root 8) :: .int .u8 (gt (payment_readChain i_).1.First.Coin.Root 9) :: .int .u8 (gt (payment_readChain i_).1.First.Coin.Root 10) :: .int .u8 (gt (payment_readChain i_).1.First.Coin.Root 11) :: .int .u8 (gt (payment_readChain i_).1.First.Coin.Root 12) :: .int .u8 (gt (payment_readChain i_).1.First.Coin.Root 13) :: .int .u8 (gt (payment_readChain i_).1.First.Coin.Root 14) :: .int .u8 (gt (payment_readChain i_).1.First.Coin.Root 15) :: .int .u8 (gt (payment_readChain i_).1.First.Coin.Root 16) :: .int .u8 (gt (payment_readChain i_).1.First.Coin.Root 17) :: .int .u8 (gt (payment_readChain i_).1.First.Coin.Root 18) :: .int .u8 (gt (payment_readChain i_).1.First.Coin.Root 19) :: .int .u8 (gt (payment_readChain i_).1.First.Coin.Root 20) :: .int .u8 (gt (payment_readChain i_).1.First.Coin.Root 21) :: .int .u8 (gt (payment_readChain i_).1.First.Coin.Root 22) :: .int .u8 (gt (payment_readChain i_).1.First.Coin.Root 23) :: .int .u8 (gt (payment_readChain i_).1.First.Coin.Root 24) :: .int .u8 (gt (payment_readChain i_).1.First.Coin.Root 25) :: .int .u8 (gt (payment_readChain i_).1.First.Coin.Root 26) :: .int .u8 (gt (payment_readChain i_).1.First.Coin.Root 27) :: .int .u8 (gt (payment_readChain i_).1.First.Coin.Root 28) :: .int .u8 (gt (payment_readChain i_).1.First.Coin.Root 29) :: .int .u8 (gt (payment_readChain i_).1.First.Coin.Root 30) :: .int .u8 (gt (payment_readChain i_).1.First.Coin.Root 31) :: .int .i64 (payment_readChain i_).1.First.Coin.Sign.Z :: .int .i64 (payment_readChain i_).1.First.Coin.Sign.A :: .int .i64 (payment_readChain i_).1.First.Coin.Sign.B :: .int .i64 (payment_readChain i_).1.First.Coin.Sign.R :: .int .i64 (payment_readChain i_).1.First.Node.Level :: .int .i64 (payment_readChain i_).1.First.Node.Index :: .int .u8 (gt (payment_readChain i_).1.First.Context.Payee 0) :: .int .u8 (gt (payment_readChain i_).1.First.Context.Payee 1) :: .int .u8 (gt (payment_readChain i_).1.First.Context.Payee 2) :: .int .u8 (gt (payment_readChain i_).1.First.Context.Payee 3) :: .int .u8 (gt (payment_readChain i_).1.First.Context.Payee 4) :: .int .u8 (gt (payment_readChain i_).1.First.Context.Payee 5) :: .int .u8 (gt (payment_readChain i_).1.First.Context.Payee 6) :: .int .u8 (gt (payment_readChain i_).1.First.Context.Payee 7) :: .int .u8 (gt (payment_readChain i_).1.First.Context.Payee 8) :: .int .u8 (gt (payment_readChain i_).1.First.Context.Payee 9) :: .int .u8 (gt (payment_readChain i_).1.First.Context.Payee 10) :: .int .u8 (gt (payment_readChain i_).1.First.Context.Payee 11) :: .int .u8 (gt (payment_readChain i_).1.First.Context.Payee 12) :: .int .u8 (gt (payment_readChain i_).1.First.Context.Payee 13) :: .int .u8 (gt (payment_readChain i_).1.First.Context.Payee 14) :: .int .u8 (gt (payment_readChain i_).1.First.Context.Payee 15) :: .int .u8 (gt (payment_readChain i_).1.First.Context.Payee 16) :: .int .u8 (gt (payment_readChain i_).1.First.Context.Payee 17) :: .int .u8 (gt (payment_readChain i_).1.First.Context.Payee 18) :: .int .u8 (gt (payment_readChain i_).1.First.Context.Payee 19) :: .int .u8 (gt (payment_readChain i_).1.First.Context.Payee 20) :: .int .u8 (gt (payment_readChain i_).1.First.Context.Payee 21) :: .int .u8 (gt (payment_readChain i_).1.First.Context.Payee 22) :: .int .u8 (gt (payment_readChain i_).1.First.Context.Payee 23) :: .int .u8 (gt (payment_readChain i_).1.First.Context.Payee 24) :: .int .u8 (gt (payment_readChain i_).1.First.Context.Payee 25) :: .int .u8 (gt (payment_readChain i_).1.First.Context.Payee 26) :: .int .u8 (gt (payment_readChain i_).1.First.Context.Payee 27) :: .int .u8 (gt (payment_readChain i_).1.First.Context.Payee 28) :: .int .u8 (gt (payment_readChain i_).1.First.Context.Payee 29) :: .int .u8 (gt (payment_readChain i_).1.First.Context.Payee 30) :: .int .u8 (gt (payment_readChain i_).1.First.Context.Payee 31) :: .int .i64 (payment_readChain i_).1.First.Context.Time :: .int .i64 (payment_readChain i_).1.First.Context.Number :: .sl none 3 true ((payment_readChain i_).1.First.Leaves.map e_api_Leaf) :: .int .i64 (payment_readChain i_).1.First.Path.Index :: .sl none 32 true ((payment_readChain i_).1.First.Path.L.map e_arr45) :: .sl none 80 true ((payment_readChain i_).1.L.map e_api_Spend) :: []), .bool (payment_readChain i_).2]) [] := by
  generalize hM : payment_readChain i_ = r
  rw [payment_readChain.eq_1] at hM
  refine enterV En_ok En_mo noJ Try.func38 rfl Try.ntmps38 (by kernel_rfl) fun hw => ct_start ?_
  refine spQ ?_
  replace hw := nzQ hw
  refine guardC_f (fun h1 => ?_) (fun h1 => ?_)
  · rw [if_neg (ne_true h1)] at hM
    refine spQA h1 ?_
    have nh1 := nzQ h1
    refine condC_intro (fun h2 => ?_) (fun h2 => ?_)
    · rw [if_pos h2] at hM
      refine spQA h2 ?_
      have nh2 := nzQ h2
      subst hM
      exact retC_view (lfQA (And.intro h1 h2))
    · rw [if_neg (ne_true h2)] at hM
      refine spQA h2 ?_
      have nh2 := nzQ h2
      refine bindC_intro omQ ?_
      have he3 : ∀ d, elt (i_.L.map e_api_Item) 0 d = e_api_Item (gt i_.L 0) := fun d => elt_mp (l := i_.L) (f := e_api_Item) (i := 0) omQ d
      refine spQA he3 ?_
      have hM0 := hM; clear hM; obtain ⟨x4, hx5, hM⟩ := letk_opn hM0; clear hM0
      have hcx4 := payment_readSpend_ok  (gt i_.L 0) 
      rw [← hx5] at hcx4
      refine callC_give hcx4 (clQA he3) (clQA he3) (fun hw6 => ?_)
      replace hw6 := nzQ hw6
      refine spQA he3 ?_
      refine bindC_intro omQ ?_
      have he7 : ∀ d, elt (i_.L.map e_api_Item) 1 d = e_api_Item (gt i_.L 1) := fun d => elt_mp (l := i_.L) (f := e_api_Item) (i := 1) omQ d
      refine spQA (And.intro he3 he7) ?_
      have hM0 := hM; clear hM; obtain ⟨x8, hx9, hM⟩ := letk_opn hM0; clear hM0
      have hcx8 := payment_things_api_Spend_at_payment_readSpend_ok  (gt i_.L 1) 
      rw [← hx9] at hcx8
      refine callC_give hcx8 (clQA (And.intro he3 he7)) (clQA (And.intro he3 he7)) (fun hw10 => ?_)
      replace hw10 := nzQ hw10
      refine spQA (And.intro he3 he7) ?_
      refine guardC_t (fun h11 => ?_) (fun h11 => ?_)
      · rw [if_pos h11] at hM
        refine spQA (And.intro he3 (And.intro he7 h11)) ?_
        have nh11 := nzQ h11
        subst hM
        exact retC_view (lfQA (And.intro he3 (And.intro he7 (And.intro h1 (And.intro h2 h11)))))
      · rw [if_neg (ne_true h11)] at hM
        refine spQA (And.intro he3 (And.intro he7 h11)) ?_
        have nh11 := nzQ h11
        subst hM
        exact retC_view (lfQA (And.intro he3 (And.intro he7 (And.intro h1 (And.intro h2 h11)))))
  · rw [if_pos h1] at hM
    refine spQA h1 ?_
    have nh1 := nzQ h1
    subst hM
    exact retC_view (lfQA h1)
end Go.Proofs.Ytcbdmoihobdjaaa
