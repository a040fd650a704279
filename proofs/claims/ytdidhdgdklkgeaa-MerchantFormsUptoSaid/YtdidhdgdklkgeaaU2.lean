/- Each function computes its model (printed by program). -/
import Derived.Test.YtdidhdgdklkgeaaU1
namespace Go.Proofs.Ytdidhdgdklkgeaa
open Go.RowKit
set_option linter.unusedSimpArgs false
set_option maxHeartbeats 2000000 in
set_option maxRecDepth 100000 in
theorem specieref47_invoices_ok  (z0 : Option Bool) (z1 : Option Bool) (a_ : (List S_api_Invoice)) (b : (List S_api_Invoice))  : CallOk En 37 [.sl z0 35 true (a_.map e_api_Invoice), .sl z1 35 true (b.map e_api_Invoice)] (.bool (specieref47_invoices a_ b)) [] := by
  generalize hM : specieref47_invoices a_ b = r
  rw [specieref47_invoices.eq_1] at hM
  refine enterV En_ok En_mo noJ Try.func37 rfl Try.ntmps37 (by kernel_rfl) fun hw => ct_start ?_
  refine spQ ?_
  replace hw := nzQ hw
  refine condC_intro (fun h1 => ?_) (fun h1 => ?_)
  · rw [if_pos h1] at hM
    refine spQA h1 ?_
    have nh1 := nzQ h1
    subst hM
    exact retC_view (lfQA h1)
  · rw [if_neg (ne_true h1)] at hM
    refine spQA h1 ?_
    have nh1 := nzQ h1
    have hM0 := hM; clear hM; obtain ⟨f2, d2, hf2, hd2, hM⟩ := iter_opn hM0; clear hM0
    refine ct_loop (fun n S => ∃ p : Int, S = (⟨[(0, .sl z0 35 true (a_.map e_api_Invoice)), (1, .sl z1 35 true (b.map e_api_Invoice)), (5, .int .i64 p)], [], 0⟩ : St) ∧ ((0 ≤ p) ∧ (p ≤ (a_.length : Int))) ∧ ((a_.length : Int) - p).toNat < n ∧ iter n f2 d2 p = r) (((a_.length : Int) - 0).toNat + 1) (⟨[(0, .sl z0 35 true (a_.map e_api_Invoice)), (1, .sl z1 35 true (b.map e_api_Invoice)), (5, .int .i64 0)], [], 0⟩ : St) sbQ sbQ ⟨0, rfl, ⟨omQ, omQ⟩, (Nat.lt_succ_self _), hM⟩ ?_
    clear hM
    rintro n2 S ⟨p2, rfl, hfa2, hm2, hM⟩
    have hM0 := hM; clear hM; obtain ⟨ag2, hag2, hM⟩ := iter_step hM0 (by omega) hf2; clear hM0
    replace hfa2 := nzQ hfa2
    replace hm2 := nzQ hm2
    have ha2 : addI .i64 p2 1 = p2 + 1 := add_one omQ omQ
    refine spQA ha2 ?_
    refine condC_intro (fun h3 => ?_) (fun h3 => ?_)
    · rw [if_pos h3] at hM
      refine spQA (And.intro ha2 h3) ?_
      have nh3 := nzQ h3
      refine ct_draw 26 8 [17, 18, 19, 20, 21, 22, 23, 24] [] ([[], [], [0, 1], [0, 1, 2], [], [], [4, 5], [4, 5, 6]] ++ [List.range 8]) [] (by kernel_rfl) (by exact alQ) ?_
      refine spQA ha2 ?_
      refine hbindC_intro omQ ?_
      have he4 := fun d => elt_mp (l := a_) (f := e_api_Invoice) (i := p2) omQ d
      refine spQA (And.intro ha2 he4) ?_
      refine hbindC_intro omQ ?_
      have he5 := fun d => elt_mp (l := b) (f := e_api_Invoice) (i := p2) omQ d
      refine spQA (And.intro ha2 (And.intro he4 he5)) ?_
      refine condC_intro (fun h6 => ?_) (fun h6 => ?_)
      · have kh6 : (!(q_api_Invoice (gt a_ p2) (gt b p2))) = true := h6
        rw [if_pos kh6] at hM
        refine spQA (And.intro ha2 (And.intro he4 (And.intro he5 h6))) ?_
        have nh6 := nzQ kh6
        subst hM
        exact retC_view (lfQA (And.intro ha2 (And.intro he4 (And.intro he5 (And.intro h1 (And.intro h3 h6))))))
      · have kh6 : (!(q_api_Invoice (gt a_ p2) (gt b p2))) = false := h6
        rw [if_neg (ne_true kh6)] at hM
        refine spQA (And.intro ha2 (And.intro he4 (And.intro he5 h6))) ?_
        have nh6 := nzQ kh6
        refine lp_intro (n2 - 1) (⟨[(0, .sl z0 35 true (a_.map e_api_Invoice)), (1, .sl z1 35 true (b.map e_api_Invoice)), (5, .int .i64 (p2 + 1))], [], 0⟩ : St) (by omega) sbQ sbQ ⟨(p2 + 1), rfl, ⟨omQ, omQ⟩, omQ, iter_again hM hag2⟩
    · rw [if_neg (ne_true h3)] at hM
      refine spQA (And.intro ha2 h3) ?_
      have nh3 := nzQ h3
      subst hM
      exact retC_view (lfQA (And.intro ha2 (And.intro h1 h3)))
set_option maxHeartbeats 2000000 in
set_option maxRecDepth 100000 in
theorem specieref27_Same_ok   (p_ : S_api_Path) (q : S_api_Path)  : CallOk En 64 [.agg [.int .i64 p_.Index, .sl none 32 true (p_.L.map (fun l => .agg (.int .u8 (gt l 0) :: .int .u8 (gt l 1) :: .int .u8 (gt l 2) :: .int .u8 (gt l 3) :: .int .u8 (gt l 4) :: .int .u8 (gt l 5) :: .int .u8 (gt l 6) :: .int .u8 (gt l 7) :: .int .u8 (gt l 8) :: .int .u8 (gt l 9) :: .int .u8 (gt l 10) :: .int .u8 (gt l 11) :: .int .u8 (gt l 12) :: .int .u8 (gt l 13) :: .int .u8 (gt l 14) :: .int .u8 (gt l 15) :: .int .u8 (gt l 16) :: .int .u8 (gt l 17) :: .int .u8 (gt l 18) :: .int .u8 (gt l 19) :: .int .u8 (gt l 20) :: .int .u8 (gt l 21) :: .int .u8 (gt l 22) :: .int .u8 (gt l 23) :: .int .u8 (gt l 24) :: .int .u8 (gt l 25) :: .int .u8 (gt l 26) :: .int .u8 (gt l 27) :: .int .u8 (gt l 28) :: .int .u8 (gt l 29) :: .int .u8 (gt l 30) :: .int .u8 (gt l 31) :: [])))], .agg [.int .i64 q.Index, .sl none 32 true (q.L.map (fun l => .agg (.int .u8 (gt l 0) :: .int .u8 (gt l 1) :: .int .u8 (gt l 2) :: .int .u8 (gt l 3) :: .int .u8 (gt l 4) :: .int .u8 (gt l 5) :: .int .u8 (gt l 6) :: .int .u8 (gt l 7) :: .int .u8 (gt l 8) :: .int .u8 (gt l 9) :: .int .u8 (gt l 10) :: .int .u8 (gt l 11) :: .int .u8 (gt l 12) :: .int .u8 (gt l 13) :: .int .u8 (gt l 14) :: .int .u8 (gt l 15) :: .int .u8 (gt l 16) :: .int .u8 (gt l 17) :: .int .u8 (gt l 18) :: .int .u8 (gt l 19) :: .int .u8 (gt l 20) :: .int .u8 (gt l 21) :: .int .u8 (gt l 22) :: .int .u8 (gt l 23) :: .int .u8 (gt l 24) :: .int .u8 (gt l 25) :: .int .u8 (gt l 26) :: .int .u8 (gt l 27) :: .int .u8 (gt l 28) :: .int .u8 (gt l 29) :: .int .u8 (gt l 30) :: .int .u8 (gt l 31) :: [])))]] (.bool (specieref27_Same p_ q)) [] := by
  generalize hM : specieref27_Same p_ q = r
  rw [specieref27_Same.eq_1] at hM
  refine enterV En_ok En_mo noJ Try.func64 rfl Try.ntmps64 (by kernel_rfl) fun hw => ct_start ?_
  refine spQ ?_
  replace hw := nzQ hw
  refine guardC_f (fun h1 => ?_) (fun h1 => ?_)
  · rw [if_neg (ne_true h1)] at hM
    refine spQA h1 ?_
    have nh1 := nzQ h1
    refine condC_intro (fun h2 => ?_) (fun h2 => ?_)
    · rw [if_pos h2] at hM
      refine spQA h2 ?_
      have nh2 := nzQ h2
      subst hM
      exact retC_view (lfQA (And.intro h1 h2))
    · rw [if_neg (ne_true h2)] at hM
      refine spQA h2 ?_
      have nh2 := nzQ h2
      have hM0 := hM; clear hM; obtain ⟨f3, d3, hf3, hd3, hM⟩ := iter_opn hM0; clear hM0
      refine ct_loop (fun n S => ∃ p : Int, S = (⟨[(2, .ptr 0 0), (3, .ptr 1 0), (5, .int .i64 p)], [(0, .var 2 true (.agg [.int .i64 p_.Index, .sl none 32 true (p_.L.map (fun l => .agg (.int .u8 (gt l 0) :: .int .u8 (gt l 1) :: .int .u8 (gt l 2) :: .int .u8 (gt l 3) :: .int .u8 (gt l 4) :: .int .u8 (gt l 5) :: .int .u8 (gt l 6) :: .int .u8 (gt l 7) :: .int .u8 (gt l 8) :: .int .u8 (gt l 9) :: .int .u8 (gt l 10) :: .int .u8 (gt l 11) :: .int .u8 (gt l 12) :: .int .u8 (gt l 13) :: .int .u8 (gt l 14) :: .int .u8 (gt l 15) :: .int .u8 (gt l 16) :: .int .u8 (gt l 17) :: .int .u8 (gt l 18) :: .int .u8 (gt l 19) :: .int .u8 (gt l 20) :: .int .u8 (gt l 21) :: .int .u8 (gt l 22) :: .int .u8 (gt l 23) :: .int .u8 (gt l 24) :: .int .u8 (gt l 25) :: .int .u8 (gt l 26) :: .int .u8 (gt l 27) :: .int .u8 (gt l 28) :: .int .u8 (gt l 29) :: .int .u8 (gt l 30) :: .int .u8 (gt l 31) :: [])))])), (1, .var 2 true (.agg [.int .i64 q.Index, .sl none 32 true (q.L.map (fun l => .agg (.int .u8 (gt l 0) :: .int .u8 (gt l 1) :: .int .u8 (gt l 2) :: .int .u8 (gt l 3) :: .int .u8 (gt l 4) :: .int .u8 (gt l 5) :: .int .u8 (gt l 6) :: .int .u8 (gt l 7) :: .int .u8 (gt l 8) :: .int .u8 (gt l 9) :: .int .u8 (gt l 10) :: .int .u8 (gt l 11) :: .int .u8 (gt l 12) :: .int .u8 (gt l 13) :: .int .u8 (gt l 14) :: .int .u8 (gt l 15) :: .int .u8 (gt l 16) :: .int .u8 (gt l 17) :: .int .u8 (gt l 18) :: .int .u8 (gt l 19) :: .int .u8 (gt l 20) :: .int .u8 (gt l 21) :: .int .u8 (gt l 22) :: .int .u8 (gt l 23) :: .int .u8 (gt l 24) :: .int .u8 (gt l 25) :: .int .u8 (gt l 26) :: .int .u8 (gt l 27) :: .int .u8 (gt l 28) :: .int .u8 (gt l 29) :: .int .u8 (gt l 30) :: .int .u8 (gt l 31) :: [])))]))], 2⟩ : St) ∧ ((0 ≤ p) ∧ (p ≤ (p_.L.length : Int))) ∧ ((p_.L.length : Int) - p).toNat < n ∧ iter n f3 d3 p = r) (((p_.L.length : Int) - 0).toNat + 1) (⟨[(2, .ptr 0 0), (3, .ptr 1 0), (5, .int .i64 0)], [(0, .var 2 true (.agg [.int .i64 p_.Index, .sl none 32 true (p_.L.map (fun l => .agg (.int .u8 (gt l 0) :: .int .u8 (gt l 1) :: .int .u8 (gt l 2) :: .int .u8 (gt l 3) :: .int .u8 (gt l 4) :: .int .u8 (gt l 5) :: .int .u8 (gt l 6) :: .int .u8 (gt l 7) :: .int .u8 (gt l 8) :: .int .u8 (gt l 9) :: .int .u8 (gt l 10) :: .int .u8 (gt l 11) :: .int .u8 (gt l 12) :: .int .u8 (gt l 13) :: .int .u8 (gt l 14) :: .int .u8 (gt l 15) :: .int .u8 (gt l 16) :: .int .u8 (gt l 17) :: .int .u8 (gt l 18) :: .int .u8 (gt l 19) :: .int .u8 (gt l 20) :: .int .u8 (gt l 21) :: .int .u8 (gt l 22) :: .int .u8 (gt l 23) :: .int .u8 (gt l 24) :: .int .u8 (gt l 25) :: .int .u8 (gt l 26) :: .int .u8 (gt l 27) :: .int .u8 (gt l 28) :: .int .u8 (gt l 29) :: .int .u8 (gt l 30) :: .int .u8 (gt l 31) :: [])))])), (1, .var 2 true (.agg [.int .i64 q.Index, .sl none 32 true (q.L.map (fun l => .agg (.int .u8 (gt l 0) :: .int .u8 (gt l 1) :: .int .u8 (gt l 2) :: .int .u8 (gt l 3) :: .int .u8 (gt l 4) :: .int .u8 (gt l 5) :: .int .u8 (gt l 6) :: .int .u8 (gt l 7) :: .int .u8 (gt l 8) :: .int .u8 (gt l 9) :: .int .u8 (gt l 10) :: .int .u8 (gt l 11) :: .int .u8 (gt l 12) :: .int .u8 (gt l 13) :: .int .u8 (gt l 14) :: .int .u8 (gt l 15) :: .int .u8 (gt l 16) :: .int .u8 (gt l 17) :: .int .u8 (gt l 18) :: .int .u8 (gt l 19) :: .int .u8 (gt l 20) :: .int .u8 (gt l 21) :: .int .u8 (gt l 22) :: .int .u8 (gt l 23) :: .int .u8 (gt l 24) :: .int .u8 (gt l 25) :: .int .u8 (gt l 26) :: .int .u8 (gt l 27) :: .int .u8 (gt l 28) :: .int .u8 (gt l 29) :: .int .u8 (gt l 30) :: .int .u8 (gt l 31) :: [])))]))], 2⟩ : St) sbQ sbQ ⟨0, rfl, ⟨omQ, omQ⟩, (Nat.lt_succ_self _), hM⟩ ?_
      clear hM
      rintro n3 S ⟨p3, rfl, hfa3, hm3, hM⟩
      have hM0 := hM; clear hM; obtain ⟨ag3, hag3, hM⟩ := iter_step hM0 (by omega) hf3; clear hM0
      replace hfa3 := nzQ hfa3
      replace hm3 := nzQ hm3
      have ha3 : addI .i64 p3 1 = p3 + 1 := add_one omQ omQ
      refine spQA ha3 ?_
      refine condC_intro (fun h4 => ?_) (fun h4 => ?_)
      · rw [if_pos h4] at hM
        refine spQA (And.intro ha3 h4) ?_
        have nh4 := nzQ h4
        refine ct_draw 38 10 [27, 28, 29, 30, 31, 32, 33, 34, 35, 36] [] ([[], [0], [], [0, 1, 2], [0, 1, 2, 3], [], [5], [], [5, 6, 7], [5, 6, 7, 8]] ++ [List.range 10]) [] (by kernel_rfl) (by exact alQ) ?_
        refine spQA ha3 ?_
        refine hbindC_intro omQ ?_
        have he5 := fun d => elt_mp (l := p_.L) (f := (fun l => .agg (.int .u8 (gt l 0) :: .int .u8 (gt l 1) :: .int .u8 (gt l 2) :: .int .u8 (gt l 3) :: .int .u8 (gt l 4) :: .int .u8 (gt l 5) :: .int .u8 (gt l 6) :: .int .u8 (gt l 7) :: .int .u8 (gt l 8) :: .int .u8 (gt l 9) :: .int .u8 (gt l 10) :: .int .u8 (gt l 11) :: .int .u8 (gt l 12) :: .int .u8 (gt l 13) :: .int .u8 (gt l 14) :: .int .u8 (gt l 15) :: .int .u8 (gt l 16) :: .int .u8 (gt l 17) :: .int .u8 (gt l 18) :: .int .u8 (gt l 19) :: .int .u8 (gt l 20) :: .int .u8 (gt l 21) :: .int .u8 (gt l 22) :: .int .u8 (gt l 23) :: .int .u8 (gt l 24) :: .int .u8 (gt l 25) :: .int .u8 (gt l 26) :: .int .u8 (gt l 27) :: .int .u8 (gt l 28) :: .int .u8 (gt l 29) :: .int .u8 (gt l 30) :: .int .u8 (gt l 31) :: []))) (i := p3) omQ d
        refine spQA (And.intro ha3 he5) ?_
        refine hbindC_intro omQ ?_
        have he6 := fun d => elt_mp (l := q.L) (f := (fun l => .agg (.int .u8 (gt l 0) :: .int .u8 (gt l 1) :: .int .u8 (gt l 2) :: .int .u8 (gt l 3) :: .int .u8 (gt l 4) :: .int .u8 (gt l 5) :: .int .u8 (gt l 6) :: .int .u8 (gt l 7) :: .int .u8 (gt l 8) :: .int .u8 (gt l 9) :: .int .u8 (gt l 10) :: .int .u8 (gt l 11) :: .int .u8 (gt l 12) :: .int .u8 (gt l 13) :: .int .u8 (gt l 14) :: .int .u8 (gt l 15) :: .int .u8 (gt l 16) :: .int .u8 (gt l 17) :: .int .u8 (gt l 18) :: .int .u8 (gt l 19) :: .int .u8 (gt l 20) :: .int .u8 (gt l 21) :: .int .u8 (gt l 22) :: .int .u8 (gt l 23) :: .int .u8 (gt l 24) :: .int .u8 (gt l 25) :: .int .u8 (gt l 26) :: .int .u8 (gt l 27) :: .int .u8 (gt l 28) :: .int .u8 (gt l 29) :: .int .u8 (gt l 30) :: .int .u8 (gt l 31) :: []))) (i := p3) omQ d
        refine spQA (And.intro ha3 (And.intro he5 he6)) ?_
        refine condC_intro (fun h7 => ?_) (fun h7 => ?_)
        · have kh7 : (!(q_arr23 (gt p_.L p3) (gt q.L p3))) = true := h7
          rw [if_pos kh7] at hM
          refine spQA (And.intro ha3 (And.intro he5 (And.intro he6 h7))) ?_
          have nh7 := nzQ kh7
          subst hM
          exact retC_view (lfQA (And.intro ha3 (And.intro he5 (And.intro he6 (And.intro h1 (And.intro h2 (And.intro h4 h7)))))))
        · have kh7 : (!(q_arr23 (gt p_.L p3) (gt q.L p3))) = false := h7
          rw [if_neg (ne_true kh7)] at hM
          refine spQA (And.intro ha3 (And.intro he5 (And.intro he6 h7))) ?_
          have nh7 := nzQ kh7
          refine lp_intro (n3 - 1) (⟨[(2, .ptr 0 0), (3, .ptr 1 0), (5, .int .i64 (p3 + 1))], [(0, .var 2 true (.agg [.int .i64 p_.Index, .sl none 32 true (p_.L.map (fun l => .agg (.int .u8 (gt l 0) :: .int .u8 (gt l 1) :: .int .u8 (gt l 2) :: .int .u8 (gt l 3) :: .int .u8 (gt l 4) :: .int .u8 (gt l 5) :: .int .u8 (gt l 6) :: .int .u8 (gt l 7) :: .int .u8 (gt l 8) :: .int .u8 (gt l 9) :: .int .u8 (gt l 10) :: .int .u8 (gt l 11) :: .int .u8 (gt l 12) :: .int .u8 (gt l 13) :: .int .u8 (gt l 14) :: .int .u8 (gt l 15) :: .int .u8 (gt l 16) :: .int .u8 (gt l 17) :: .int .u8 (gt l 18) :: .int .u8 (gt l 19) :: .int .u8 (gt l 20) :: .int .u8 (gt l 21) :: .int .u8 (gt l 22) :: .int .u8 (gt l 23) :: .int .u8 (gt l 24) :: .int .u8 (gt l 25) :: .int .u8 (gt l 26) :: .int .u8 (gt l 27) :: .int .u8 (gt l 28) :: .int .u8 (gt l 29) :: .int .u8 (gt l 30) :: .int .u8 (gt l 31) :: [])))])), (1, .var 2 true (.agg [.int .i64 q.Index, .sl none 32 true (q.L.map (fun l => .agg (.int .u8 (gt l 0) :: .int .u8 (gt l 1) :: .int .u8 (gt l 2) :: .int .u8 (gt l 3) :: .int .u8 (gt l 4) :: .int .u8 (gt l 5) :: .int .u8 (gt l 6) :: .int .u8 (gt l 7) :: .int .u8 (gt l 8) :: .int .u8 (gt l 9) :: .int .u8 (gt l 10) :: .int .u8 (gt l 11) :: .int .u8 (gt l 12) :: .int .u8 (gt l 13) :: .int .u8 (gt l 14) :: .int .u8 (gt l 15) :: .int .u8 (gt l 16) :: .int .u8 (gt l 17) :: .int .u8 (gt l 18) :: .int .u8 (gt l 19) :: .int .u8 (gt l 20) :: .int .u8 (gt l 21) :: .int .u8 (gt l 22) :: .int .u8 (gt l 23) :: .int .u8 (gt l 24) :: .int .u8 (gt l 25) :: .int .u8 (gt l 26) :: .int .u8 (gt l 27) :: .int .u8 (gt l 28) :: .int .u8 (gt l 29) :: .int .u8 (gt l 30) :: .int .u8 (gt l 31) :: [])))]))], 2⟩ : St) (by omega) sbQ sbQ ⟨(p3 + 1), rfl, ⟨omQ, omQ⟩, omQ, iter_again hM hag3⟩
      · rw [if_neg (ne_true h4)] at hM
        refine spQA (And.intro ha3 h4) ?_
        have nh4 := nzQ h4
        subst hM
        exact retC_view (lfQA (And.intro ha3 (And.intro h1 (And.intro h2 h4))))
  · rw [if_pos h1] at hM
    refine spQA h1 ?_
    have nh1 := nzQ h1
    subst hM
    exact retC_view (lfQA h1)
set_option maxHeartbeats 2000000 in
set_option maxRecDepth 100000 in
theorem specieref32_Same_ok   (a_ : S_api_Spend) (b : S_api_Spend)  : CallOk En 32 [.agg (.int .i64 a_.Coin.Bank :: .int .i64 a_.Coin.Epoch :: .int .i64 a_.Coin.Denom :: .int .i64 a_.Coin.Depth :: .int .i64 a_.Coin.A :: .int .u8 (gt a_.Coin.Root 0) :: .int .u8 (gt a_.Coin.Root 1) :: .int .u8 (gt a_.Coin.Root 2) :: .int .u8 (gt a_.Coin.Root 3) :: .int .u8 (gt a_.Coin.Root 4) :: .int .u8 (gt a_.Coin.Root 5) :: .int .u8 (gt a_.Coin.Root 6) :: .int .u8 (gt a_.Coin.Root 7) :: .int .u8 (gt a_.Coin.Root 8) :: .int .u8 (gt a_.Coin.Root 9) :: .int .u8 (gt a_.Coin.Root 10) :: .int .u8 (gt a_.Coin.Root 11) :: .int .u8 (gt a_.Coin.Root 12) :: .int .u8 (gt a_.Coin.Root 13) :: .int .u8 (gt a_.Coin.Root 14) :: .int .u8 (gt a_.Coin.Root 15) :: .int .u8 (gt a_.Coin.Root 16) :: .int .u8 (gt a_.Coin.Root 17) :: .int .u8 (gt a_.Coin.Root 18) :: .int .u8 (gt a_.Coin.Root 19) :: .int .u8 (gt a_.Coin.Root 20) :: .int .u8 (gt a_.Coin.Root 21) :: .int .u8 (gt a_.Coin.Root 22) :: .int .u8 (gt a_.Coin.Root 23) :: .int .u8 (gt a_.Coin.Root 24) :: .int .u8 (gt a_.Coin.Root 25) :: .int .u8 (gt a_.Coin.Root 26) :: .int .u8 (gt a_.Coin.Root 27) :: .int .u8 (gt a_.Coin.Root 28) :: .int .u8 (gt a_.Coin.Root 29) :: .int .u8 (gt a_.Coin.Root 30) :: .int .u8 (gt a_.Coin.Root 31) :: .int .i64 a_.Coin.Sign.Z :: .int .i64 a_.Coin.Sign.A :: .int .i64 a_.Coin.Sign.B :: .int .i64 a_.Coin.Sign.R :: .int .i64 a_.Node.Level :: .int .i64 a_.Node.Index :: .int .u8 (gt a_.Context.Payee 0) :: .int .u8 (gt a_.Context.Payee 1) :: .int .u8 (gt a_.Context.Payee 2) :: .int .u8 (gt a_.Context.Payee 3) :: .int .u8 (gt a_.Context.Payee 4) :: .int .u8 (gt a_.Context.Payee 5) :: .int .u8 (gt a_.Context.Payee 6) :: .int .u8 (gt a_.Context.Payee 7) :: .int .u8 (gt a_.Context.Payee 8) :: .int .u8 (gt a_.Context.Payee 9) :: .int .u8 (gt a_.Context.Payee 10) :: .int .u8 (gt a_.Context.Payee 11) :: .int .u8 (gt a_.Context.Payee 12) :: .int .u8 (gt a_.Context.Payee 13) :: .int .u8 (gt a_.Context.Payee 14) :: .int .u8 (gt a_.Context.Payee 15) :: .int .u8 (gt a_.Context.Payee 16) :: .int .u8 (gt a_.Context.Payee 17) :: .int .u8 (gt a_.Context.Payee 18) :: .int .u8 (gt a_.Context.Payee 19) :: .int .u8 (gt a_.Context.Payee 20) :: .int .u8 (gt a_.Context.Payee 21) :: .int .u8 (gt a_.Context.Payee 22) :: .int .u8 (gt a_.Context.Payee 23) :: .int .u8 (gt a_.Context.Payee 24) :: .int .u8 (gt a_.Context.Payee 25) :: .int .u8 (gt a_.Context.Payee 26) :: .int .u8 (gt a_.Context.Payee 27) :: .int .u8 (gt a_.Context.Payee 28) :: .int .u8 (gt a_.Context.Payee 29) :: .int .u8 (gt a_.Context.Payee 30) :: .int .u8 (gt a_.Context.Payee 31) :: .int .i64 a_.Context.Time :: .int .i64 a_.Context.Number :: .sl none 3 true (a_.Leaves.map e_api_Leaf) :: .int .i64 a_.Path.Index :: .sl none 32 true (a_.Path.L.map (fun l => .agg (.int .u8 (gt l 0) :: .int .u8 (gt l 1) :: .int .u8 (gt l 2) :: .int .u8 (gt l 3) :: .int .u8 (gt l 4) :: .int .u8 (gt l 5) :: .int .u8 (gt l 6) :: .int .u8 (gt l 7) :: .int .u8 (gt l 8) :: .int .u8 (gt l 9) :: .int .u8 (gt l 10) :: .int .u8 (gt l 11) :: .int .u8 (gt l 12) :: .int .u8 (gt l 13) :: .int .u8 (gt l 14) :: .int .u8 (gt l 15) :: .int .u8 (gt l 16) :: .int .u8 (gt l 17) :: .int .u8 (gt l 18) :: .int .u8 (gt l 19) :: .int .u8 (gt l 20) :: .int .u8 (gt l 21) :: .int .u8 (gt l 22) :: .int .u8 (gt l 23) :: .int .u8 (gt l 24) :: .int .u8 (gt l 25) :: .int .u8 (gt l 26) :: .int .u8 (gt l 27) :: .int .u8 (gt l 28) :: .int .u8 (gt l 29) :: .int .u8 (gt l 30) :: .int .u8 (gt l 31) :: []))) :: []), .agg (.int .i64 b.Coin.Bank :: .int .i64 b.Coin.Epoch :: .int .i64 b.Coin.Denom :: .int .i64 b.Coin.Depth :: .int .i64 b.Coin.A :: .int .u8 (gt b.Coin.Root 0) :: .int .u8 (gt b.Coin.Root 1) :: .int .u8 (gt b.Coin.Root 2) :: .int .u8 (gt b.Coin.Root 3) :: .int .u8 (gt b.Coin.Root 4) :: .int .u8 (gt b.Coin.Root 5) :: .int .u8 (gt b.Coin.Root 6) :: .int .u8 (gt b.Coin.Root 7) :: .int .u8 (gt b.Coin.Root 8) :: .int .u8 (gt b.Coin.Root 9) :: .int .u8 (gt b.Coin.Root 10) :: .int .u8 (gt b.Coin.Root 11) :: .int .u8 (gt b.Coin.Root 12) :: .int .u8 (gt b.Coin.Root 13) :: .int .u8 (gt b.Coin.Root 14) :: .int .u8 (gt b.Coin.Root 15) :: .int .u8 (gt b.Coin.Root 16) :: .int .u8 (gt b.Coin.Root 17) :: .int .u8 (gt b.Coin.Root 18) :: .int .u8 (gt b.Coin.Root 19) :: .int .u8 (gt b.Coin.Root 20) :: .int .u8 (gt b.Coin.Root 21) :: .int .u8 (gt b.Coin.Root 22) :: .int .u8 (gt b.Coin.Root 23) :: .int .u8 (gt b.Coin.Root 24) :: .int .u8 (gt b.Coin.Root 25) :: .int .u8 (gt b.Coin.Root 26) :: .int .u8 (gt b.Coin.Root 27) :: .int .u8 (gt b.Coin.Root 28) :: .int .u8 (gt b.Coin.Root 29) :: .int .u8 (gt b.Coin.Root 30) :: .int .u8 (gt b.Coin.Root 31) :: .int .i64 b.Coin.Sign.Z :: .int .i64 b.Coin.Sign.A :: .int .i64 b.Coin.Sign.B :: .int .i64 b.Coin.Sign.R :: .int .i64 b.Node.Level :: .int .i64 b.Node.Index :: .int .u8 (gt b.Context.Payee 0) :: .int .u8 (gt b.Context.Payee 1) :: .int .u8 (gt b.Context.Payee 2) :: .int .u8 (gt b.Context.Payee 3) :: .int .u8 (gt b.Context.Payee 4) :: .int .u8 (gt b.Context.Payee 5) :: .int .u8 (gt b.Context.Payee 6) :: .int .u8 (gt b.Context.Payee 7) :: .int .u8 (gt b.Context.Payee 8) :: .int .u8 (gt b.Context.Payee 9) :: .int .u8 (gt b.Context.Payee 10) :: .int .u8 (gt b.Context.Payee 11) :: .int .u8 (gt b.Context.Payee 12) :: .int .u8 (gt b.Context.Payee 13) :: .int .u8 (gt b.Context.Payee 14) :: .int .u8 (gt b.Context.Payee 15) :: .int .u8 (gt b.Context.Payee 16) :: .int .u8 (gt b.Context.Payee 17) :: .int .u8 (gt b.Context.Payee 18) :: .int .u8 (gt b.Context.Payee 19) :: .int .u8 (gt b.Context.Payee 20) :: .int .u8 (gt b.Context.Payee 21) :: .int .u8 (gt b.Context.Payee 22) :: .int .u8 (gt b.Context.Payee 23) :: .int .u8 (gt b.Context.Payee 24) :: .int .u8 (gt b.Context.Payee 25) :: .int .u8 (gt b.Context.Payee 26) :: .int .u8 (gt b.Context.Payee 27) :: .int .u8 (gt b.Context.Payee 28) :: .int .u8 (gt b.Context.Payee 29) :: .int .u8 (gt b.Context.Payee 30) :: .int .u8 (gt b.Context.Payee 31) :: .int .i64 b.Context.Time :: .int .i64 b.Context.Number :: .sl none 3 true (b.Leaves.map e_api_Leaf) :: .int .i64 b.Path.Index :: .sl none 32 true (b.Path.L.map (fun l => .agg (.int .u8 (gt l 0) :: .int .u8 (gt l 1) :: .int .u8 (gt l 2) :: .int .u8 (gt l 3) :: .int .u8 (gt l 4) :: .int .u8 (gt l 5) :: .int .u8 (gt l 6) :: .int .u8 (gt l 7) :: .int .u8 (gt l 8) :: .int .u8 (gt l 9) :: .int .u8 (gt l 10) :: .int .u8 (gt l 11) :: .int .u8 (gt l 12) :: .int .u8 (gt l 13) :: .int .u8 (gt l 14) :: .int .u8 (gt l 15) :: .int .u8 (gt l 16) :: .int .u8 (gt l 17) :: .int .u8 (gt l 18) :: .int .u8 (gt l 19) :: .int .u8 (gt l 20) :: .int .u8 (gt l 21) :: .int .u8 (gt l 22) :: .int .u8 (gt l 23) :: .int .u8 (gt l 24) :: .int .u8 (gt l 25) :: .int .u8 (gt l 26) :: .int .u8 (gt l 27) :: .int .u8 (gt l 28) :: .int .u8 (gt l 29) :: .int .u8 (gt l 30) :: .int .u8 (gt l 31) :: []))) :: [])] (.bool (specieref32_Same a_ b)) [] := by
  generalize hM : specieref32_Same a_ b = r
  rw [specieref32_Same.eq_1] at hM
  refine enterV En_ok En_mo noJ Try.func32 rfl Try.ntmps32 (by kernel_rfl) fun hw => ct_start ?_
  refine spQ ?_
  replace hw := nzQ hw
  refine guardC_f (fun h1 => ?_) (fun h1 => ?_)
  · have kh1 : (!(q_api_Coin (a_.Coin) (b.Coin))) = false := h1
    rw [if_neg (ne_true kh1)] at hM
    refine spQA h1 ?_
    have nh1 := nzQ kh1
    refine guardC_f (fun h2 => ?_) (fun h2 => ?_)
    · have kh2 : (!(q_api_Node (a_.Node) (b.Node))) = false := h2
      rw [if_neg (ne_true kh2)] at hM
      refine spQA h2 ?_
      have nh2 := nzQ kh2
      refine guardC_f (fun h3 => ?_) (fun h3 => ?_)
      · have kh3 : (!(q_api_Context (a_.Context) (b.Context))) = false := h3
        rw [if_neg (ne_true kh3)] at hM
        refine spQA h3 ?_
        have nh3 := nzQ kh3
        refine guardC_f (fun h4 => ?_) (fun h4 => ?_)
        · rw [if_neg (ne_true h4)] at hM
          refine spQA h4 ?_
          have nh4 := nzQ h4
          have hM0 := hM; clear hM; obtain ⟨x5, hx6, hM⟩ := letk_opn hM0; clear hM0
          have hcx5 := specieref27_Same_ok  (a_.Path) (b.Path) 
          rw [← hx6] at hcx5
          refine callC_give hcx5 clQ clQ (fun hw7 => ?_)
          replace hw7 := nzQ hw7
          refine spQ ?_
          refine condC_intro (fun h8 => ?_) (fun h8 => ?_)
          · rw [if_pos h8] at hM
            refine spQA h8 ?_
            have nh8 := nzQ h8
            subst hM
            exact retC_view (lfQA (And.intro h1 (And.intro h2 (And.intro h3 (And.intro h4 h8)))))
          · rw [if_neg (ne_true h8)] at hM
            refine spQA h8 ?_
            have nh8 := nzQ h8
            have hM0 := hM; clear hM; obtain ⟨f9, d9, hf9, hd9, hM⟩ := iter_opn hM0; clear hM0
            refine ct_loop (fun n S => ∃ p : Int, S = (⟨[(2, .ptr 0 0), (3, .ptr 1 0), (5, .int .i64 p)], [(0, .var 80 true (.agg (.int .i64 a_.Coin.Bank :: .int .i64 a_.Coin.Epoch :: .int .i64 a_.Coin.Denom :: .int .i64 a_.Coin.Depth :: .int .i64 a_.Coin.A :: .int .u8 (gt a_.Coin.Root 0) :: .int .u8 (gt a_.Coin.Root 1) :: .int .u8 (gt a_.Coin.Root 2) :: .int .u8 (gt a_.Coin.Root 3) :: .int .u8 (gt a_.Coin.Root 4) :: .int .u8 (gt a_.Coin.Root 5) :: .int .u8 (gt a_.Coin.Root 6) :: .int .u8 (gt a_.Coin.Root 7) :: .int .u8 (gt a_.Coin.Root 8) :: .int .u8 (gt a_.Coin.Root 9) :: .int .u8 (gt a_.Coin.Root 10) :: .int .u8 (gt a_.Coin.Root 11) :: .int .u8 (gt a_.Coin.Root 12) :: .int .u8 (gt a_.Coin.Root 13) :: .int .u8 (gt a_.Coin.Root 14) :: .int .u8 (gt a_.Coin.Root 15) :: .int .u8 (gt a_.Coin.Root 16) :: .int .u8 (gt a_.Coin.Root 17) :: .int .u8 (gt a_.Coin.Root 18) :: .int .u8 (gt a_.Coin.Root 19) :: .int .u8 (gt a_.Coin.Root 20) :: .int .u8 (gt a_.Coin.Root 21) :: .int .u8 (gt a_.Coin.Root 22) :: .int .u8 (gt a_.Coin.Root 23) :: .int .u8 (gt a_.Coin.Root 24) :: .int .u8 (gt a_.Coin.Root 25) :: .int .u8 (gt a_.Coin.Root 26) :: .int .u8 (gt a_.Coin.Root 27) :: .int .u8 (gt a_.Coin.Root 28) :: .int .u8 (gt a_.Coin.Root 29) :: .int .u8 (gt a_.Coin.Root 30) :: .int .u8 (gt a_.Coin.Root 31) :: .int .i64 a_.Coin.Sign.Z :: .int .i64 a_.Coin.Sign.A :: .int .i64 a_.Coin.Sign.B :: .int .i64 a_.Coin.Sign.R :: .int .i64 a_.Node.Level :: .int .i64 a_.Node.Index :: .int .u8 (gt a_.Context.Payee 0) :: .int .u8 (gt a_.Context.Payee 1) :: .int .u8 (gt a_.Context.Payee 2) :: .int .u8 (gt a_.Context.Payee 3) :: .int .u8 (gt a_.Context.Payee 4) :: .int .u8 (gt a_.Context.Payee 5) :: .int .u8 (gt a_.Context.Payee 6) :: .int .u8 (gt a_.Context.Payee 7) :: .int .u8 (gt a_.Context.Payee 8) :: .int .u8 (gt a_.Context.Payee 9) :: .int .u8 (gt a_.Context.Payee 10) :: .int .u8 (gt a_.Context.Payee 11) :: .int .u8 (gt a_.Context.Payee 12) :: .int .u8 (gt a_.Context.Payee 13) :: .int .u8 (gt a_.Context.Payee 14) :: .int .u8 (gt a_.Context.Payee 15) :: .int .u8 (gt a_.Context.Payee 16) :: .int .u8 (gt a_.Context.Payee 17) :: .int .u8 (gt a_.Context.Payee 18) :: .int .u8 (gt a_.Context.Payee 19) :: .int .u8 (gt a_.Context.Payee 20) :: .int .u8 (gt a_.Context.Payee 21) :: .int .u8 (gt a_.Context.Payee 22) :: .int .u8 (gt a_.Context.Payee 23) :: .int .u8 (gt a_.Context.Payee 24) :: .int .u8 (gt a_.Context.Payee 25) :: .int .u8 (gt a_.Context.Payee 26) :: .int .u8 (gt a_.Context.Payee 27) :: .int .u8 (gt a_.Context.Payee 28) :: .int .u8 (gt a_.Context.Payee 29) :: .int .u8 (gt a_.Context.Payee 30) :: .int .u8 (gt a_.Context.Payee 31) :: .int .i64 a_.Context.Time :: .int .i64 a_.Context.Number :: .sl none 3 true (a_.Leaves.map e_api_Leaf) :: .int .i64 a_.Path.Index :: .sl none 32 true (a_.Path.L.map (fun l => .agg (.int .u8 (gt l 0) :: .int .u8 (gt l 1) :: .int .u8 (gt l 2) :: .int .u8 (gt l 3) :: .int .u8 (gt l 4) :: .int .u8 (gt l 5) :: .int .u8 (gt l 6) :: .int .u8 (gt l 7) :: .int .u8 (gt l 8) :: .int .u8 (gt l 9) :: .int .u8 (gt l 10) :: .int .u8 (gt l 11) :: .int .u8 (gt l 12) :: .int .u8 (gt l 13) :: .int .u8 (gt l 14) :: .int .u8 (gt l 15) :: .int .u8 (gt l 16) :: .int .u8 (gt l 17) :: .int .u8 (gt l 18) :: .int .u8 (gt l 19) :: .int .u8 (gt l 20) :: .int .u8 (gt l 21) :: .int .u8 (gt l 22) :: .int .u8 (gt l 23) :: .int .u8 (gt l 24) :: .int .u8 (gt l 25) :: .int .u8 (gt l 26) :: .int .u8 (gt l 27) :: .int .u8 (gt l 28) :: .int .u8 (gt l 29) :: .int .u8 (gt l 30) :: .int .u8 (gt l 31) :: []))) :: []))), (1, .var 80 true (.agg (.int .i64 b.Coin.Bank :: .int .i64 b.Coin.Epoch :: .int .i64 b.Coin.Denom :: .int .i64 b.Coin.Depth :: .int .i64 b.Coin.A :: .int .u8 (gt b.Coin.Root 0) :: .int .u8 (gt b.Coin.Root 1) :: .int .u8 (gt b.Coin.Root 2) :: .int .u8 (gt b.Coin.Root 3) :: .int .u8 (gt b.Coin.Root 4) :: .int .u8 (gt b.Coin.Root 5) :: .int .u8 (gt b.Coin.Root 6) :: .int .u8 (gt b.Coin.Root 7) :: .int .u8 (gt b.Coin.Root 8) :: .int .u8 (gt b.Coin.Root 9) :: .int .u8 (gt b.Coin.Root 10) :: .int .u8 (gt b.Coin.Root 11) :: .int .u8 (gt b.Coin.Root 12) :: .int .u8 (gt b.Coin.Root 13) :: .int .u8 (gt b.Coin.Root 14) :: .int .u8 (gt b.Coin.Root 15) :: .int .u8 (gt b.Coin.Root 16) :: .int .u8 (gt b.Coin.Root 17) :: .int .u8 (gt b.Coin.Root 18) :: .int .u8 (gt b.Coin.Root 19) :: .int .u8 (gt b.Coin.Root 20) :: .int .u8 (gt b.Coin.Root 21) :: .int .u8 (gt b.Coin.Root 22) :: .int .u8 (gt b.Coin.Root 23) :: .int .u8 (gt b.Coin.Root 24) :: .int .u8 (gt b.Coin.Root 25) :: .int .u8 (gt b.Coin.Root 26) :: .int .u8 (gt b.Coin.Root 27) :: .int .u8 (gt b.Coin.Root 28) :: .int .u8 (gt b.Coin.Root 29) :: .int .u8 (gt b.Coin.Root 30) :: .int .u8 (gt b.Coin.Root 31) :: .int .i64 b.Coin.Sign.Z :: .int .i64 b.Coin.Sign.A :: .int .i64 b.Coin.Sign.B :: .int .i64 b.Coin.Sign.R :: .int .i64 b.Node.Level :: .int .i64 b.Node.Index :: .int .u8 (gt b.Context.Payee 0) :: .int .u8 (gt b.Context.Payee 1) :: .int .u8 (gt b.Context.Payee 2) :: .int .u8 (gt b.Context.Payee 3) :: .int .u8 (gt b.Context.Payee 4) :: .int .u8 (gt b.Context.Payee 5) :: .int .u8 (gt b.Context.Payee 6) :: .int .u8 (gt b.Context.Payee 7) :: .int .u8 (gt b.Context.Payee 8) :: .int .u8 (gt b.Context.Payee 9) :: .int .u8 (gt b.Context.Payee 10) :: .int .u8 (gt b.Context.Payee 11) :: .int .u8 (gt b.Context.Payee 12) :: .int .u8 (gt b.Context.Payee 13) :: .int .u8 (gt b.Context.Payee 14) :: .int .u8 (gt b.Context.Payee 15) :: .int .u8 (gt b.Context.Payee 16) :: .int .u8 (gt b.Context.Payee 17) :: .int .u8 (gt b.Context.Payee 18) :: .int .u8 (gt b.Context.Payee 19) :: .int .u8 (gt b.Context.Payee 20) :: .int .u8 (gt b.Context.Payee 21) :: .int .u8 (gt b.Context.Payee 22) :: .int .u8 (gt b.Context.Payee 23) :: .int .u8 (gt b.Context.Payee 24) :: .int .u8 (gt b.Context.Payee 25) :: .int .u8 (gt b.Context.Payee 26) :: .int .u8 (gt b.Context.Payee 27) :: .int .u8 (gt b.Context.Payee 28) :: .int .u8 (gt b.Context.Payee 29) :: .int .u8 (gt b.Context.Payee 30) :: .int .u8 (gt b.Context.Payee 31) :: .int .i64 b.Context.Time :: .int .i64 b.Context.Number :: .sl none 3 true (b.Leaves.map e_api_Leaf) :: .int .i64 b.Path.Index :: .sl none 32 true (b.Path.L.map (fun l => .agg (.int .u8 (gt l 0) :: .int .u8 (gt l 1) :: .int .u8 (gt l 2) :: .int .u8 (gt l 3) :: .int .u8 (gt l 4) :: .int .u8 (gt l 5) :: .int .u8 (gt l 6) :: .int .u8 (gt l 7) :: .int .u8 (gt l 8) :: .int .u8 (gt l 9) :: .int .u8 (gt l 10) :: .int .u8 (gt l 11) :: .int .u8 (gt l 12) :: .int .u8 (gt l 13) :: .int .u8 (gt l 14) :: .int .u8 (gt l 15) :: .int .u8 (gt l 16) :: .int .u8 (gt l 17) :: .int .u8 (gt l 18) :: .int .u8 (gt l 19) :: .int .u8 (gt l 20) :: .int .u8 (gt l 21) :: .int .u8 (gt l 22) :: .int .u8 (gt l 23) :: .int .u8 (gt l 24) :: .int .u8 (gt l 25) :: .int .u8 (gt l 26) :: .int .u8 (gt l 27) :: .int .u8 (gt l 28) :: .int .u8 (gt l 29) :: .int .u8 (gt l 30) :: .int .u8 (gt l 31) :: []))) :: [])))], 2⟩ : St) ∧ ((0 ≤ p) ∧ (p ≤ (a_.Leaves.length : Int))) ∧ ((a_.Leaves.length : Int) - p).toNat < n ∧ iter n f9 d9 p = r) (((a_.Leaves.length : Int) - 0).toNat + 1) (⟨[(2, .ptr 0 0), (3, .ptr 1 0), (5, .int .i64 0)], [(0, .var 80 true (.agg (.int .i64 a_.Coin.Bank :: .int .i64 a_.Coin.Epoch :: .int .i64 a_.Coin.Denom :: .int .i64 a_.Coin.Depth :: .int .i64 a_.Coin.A :: .int .u8 (gt a_.Coin.Root 0) :: .int .u8 (gt a_.Coin.Root 1) :: .int .u8 (gt a_.Coin.Root 2) :: .int .u8 (gt a_.Coin.Root 3) :: .int .u8 (gt a_.Coin.Root 4) :: .int .u8 (gt a_.Coin.Root 5) :: .int .u8 (gt a_.Coin.Root 6) :: .int .u8 (gt a_.Coin.Root 7) :: .int .u8 (gt a_.Coin.Root 8) :: .int .u8 (gt a_.Coin.Root 9) :: .int .u8 (gt a_.Coin.Root 10) :: .int .u8 (gt a_.Coin.Root 11) :: .int .u8 (gt a_.Coin.Root 12) :: .int .u8 (gt a_.Coin.Root 13) :: .int .u8 (gt a_.Coin.Root 14) :: .int .u8 (gt a_.Coin.Root 15) :: .int .u8 (gt a_.Coin.Root 16) :: .int .u8 (gt a_.Coin.Root 17) :: .int .u8 (gt a_.Coin.Root 18) :: .int .u8 (gt a_.Coin.Root 19) :: .int .u8 (gt a_.Coin.Root 20) :: .int .u8 (gt a_.Coin.Root 21) :: .int .u8 (gt a_.Coin.Root 22) :: .int .u8 (gt a_.Coin.Root 23) :: .int .u8 (gt a_.Coin.Root 24) :: .int .u8 (gt a_.Coin.Root 25) :: .int .u8 (gt a_.Coin.Root 26) :: .int .u8 (gt a_.Coin.Root 27) :: .int .u8 (gt a_.Coin.Root 28) :: .int .u8 (gt a_.Coin.Root 29) :: .int .u8 (gt a_.Coin.Root 30) :: .int .u8 (gt a_.Coin.Root 31) :: .int .i64 a_.Coin.Sign.Z :: .int .i64 a_.Coin.Sign.A :: .int .i64 a_.Coin.Sign.B :: .int .i64 a_.Coin.Sign.R :: .int .i64 a_.Node.Level :: .int .i64 a_.Node.Index :: .int .u8 (gt a_.Context.Payee 0) :: .int .u8 (gt a_.Context.Payee 1) :: .int .u8 (gt a_.Context.Payee 2) :: .int .u8 (gt a_.Context.Payee 3) :: .int .u8 (gt a_.Context.Payee 4) :: .int .u8 (gt a_.Context.Payee 5) :: .int .u8 (gt a_.Context.Payee 6) :: .int .u8 (gt a_.Context.Payee 7) :: .int .u8 (gt a_.Context.Payee 8) :: .int .u8 (gt a_.Context.Payee 9) :: .int .u8 (gt a_.Context.Payee 10) :: .int .u8 (gt a_.Context.Payee 11) :: .int .u8 (gt a_.Context.Payee 12) :: .int .u8 (gt a_.Context.Payee 13) :: .int .u8 (gt a_.Context.Payee 14) :: .int .u8 (gt a_.Context.Payee 15) :: .int .u8 (gt a_.Context.Payee 16) :: .int .u8 (gt a_.Context.Payee 17) :: .int .u8 (gt a_.Context.Payee 18) :: .int .u8 (gt a_.Context.Payee 19) :: .int .u8 (gt a_.Context.Payee 20) :: .int .u8 (gt a_.Context.Payee 21) :: .int .u8 (gt a_.Context.Payee 22) :: .int .u8 (gt a_.Context.Payee 23) :: .int .u8 (gt a_.Context.Payee 24) :: .int .u8 (gt a_.Context.Payee 25) :: .int .u8 (gt a_.Context.Payee 26) :: .int .u8 (gt a_.Context.Payee 27) :: .int .u8 (gt a_.Context.Payee 28) :: .int .u8 (gt a_.Context.Payee 29) :: .int .u8 (gt a_.Context.Payee 30) :: .int .u8 (gt a_.Context.Payee 31) :: .int .i64 a_.Context.Time :: .int .i64 a_.Context.Number :: .sl none 3 true (a_.Leaves.map e_api_Leaf) :: .int .i64 a_.Path.Index :: .sl none 32 true (a_.Path.L.map (fun l => .agg (.int .u8 (gt l 0) :: .int .u8 (gt l 1) :: .int .u8 (gt l 2) :: .int .u8 (gt l 3) :: .int .u8 (gt l 4) :: .int .u8 (gt l 5) :: .int .u8 (gt l 6) :: .int .u8 (gt l 7) :: .int .u8 (gt l 8) :: .int .u8 (gt l 9) :: .int .u8 (gt l 10) :: .int .u8 (gt l 11) :: .int .u8 (gt l 12) :: .int .u8 (gt l 13) :: .int .u8 (gt l 14) :: .int .u8 (gt l 15) :: .int .u8 (gt l 16) :: .int .u8 (gt l 17) :: .int .u8 (gt l 18) :: .int .u8 (gt l 19) :: .int .u8 (gt l 20) :: .int .u8 (gt l 21) :: .int .u8 (gt l 22) :: .int .u8 (gt l 23) :: .int .u8 (gt l 24) :: .int .u8 (gt l 25) :: .int .u8 (gt l 26) :: .int .u8 (gt l 27) :: .int .u8 (gt l 28) :: .int .u8 (gt l 29) :: .int .u8 (gt l 30) :: .int .u8 (gt l 31) :: []))) :: []))), (1, .var 80 true (.agg (.int .i64 b.Coin.Bank :: .int .i64 b.Coin.Epoch :: .int .i64 b.Coin.Denom :: .int .i64 b.Coin.Depth :: .int .i64 b.Coin.A :: .int .u8 (gt b.Coin.Root 0) :: .int .u8 (gt b.Coin.Root 1) :: .int .u8 (gt b.Coin.Root 2) :: .int .u8 (gt b.Coin.Root 3) :: .int .u8 (gt b.Coin.Root 4) :: .int .u8 (gt b.Coin.Root 5) :: .int .u8 (gt b.Coin.Root 6) :: .int .u8 (gt b.Coin.Root 7) :: .int .u8 (gt b.Coin.Root 8) :: .int .u8 (gt b.Coin.Root 9) :: .int .u8 (gt b.Coin.Root 10) :: .int .u8 (gt b.Coin.Root 11) :: .int .u8 (gt b.Coin.Root 12) :: .int .u8 (gt b.Coin.Root 13) :: .int .u8 (gt b.Coin.Root 14) :: .int .u8 (gt b.Coin.Root 15) :: .int .u8 (gt b.Coin.Root 16) :: .int .u8 (gt b.Coin.Root 17) :: .int .u8 (gt b.Coin.Root 18) :: .int .u8 (gt b.Coin.Root 19) :: .int .u8 (gt b.Coin.Root 20) :: .int .u8 (gt b.Coin.Root 21) :: .int .u8 (gt b.Coin.Root 22) :: .int .u8 (gt b.Coin.Root 23) :: .int .u8 (gt b.Coin.Root 24) :: .int .u8 (gt b.Coin.Root 25) :: .int .u8 (gt b.Coin.Root 26) :: .int .u8 (gt b.Coin.Root 27) :: .int .u8 (gt b.Coin.Root 28) :: .int .u8 (gt b.Coin.Root 29) :: .int .u8 (gt b.Coin.Root 30) :: .int .u8 (gt b.Coin.Root 31) :: .int .i64 b.Coin.Sign.Z :: .int .i64 b.Coin.Sign.A :: .int .i64 b.Coin.Sign.B :: .int .i64 b.Coin.Sign.R :: .int .i64 b.Node.Level :: .int .i64 b.Node.Index :: .int .u8 (gt b.Context.Payee 0) :: .int .u8 (gt b.Context.Payee 1) :: .int .u8 (gt b.Context.Payee 2) :: .int .u8 (gt b.Context.Payee 3) :: .int .u8 (gt b.Context.Payee 4) :: .int .u8 (gt b.Context.Payee 5) :: .int .u8 (gt b.Context.Payee 6) :: .int .u8 (gt b.Context.Payee 7) :: .int .u8 (gt b.Context.Payee 8) :: .int .u8 (gt b.Context.Payee 9) :: .int .u8 (gt b.Context.Payee 10) :: .int .u8 (gt b.Context.Payee 11) :: .int .u8 (gt b.Context.Payee 12) :: .int .u8 (gt b.Context.Payee 13) :: .int .u8 (gt b.Context.Payee 14) :: .int .u8 (gt b.Context.Payee 15) :: .int .u8 (gt b.Context.Payee 16) :: .int .u8 (gt b.Context.Payee 17) :: .int .u8 (gt b.Context.Payee 18) :: .int .u8 (gt b.Context.Payee 19) :: .int .u8 (gt b.Context.Payee 20) :: .int .u8 (gt b.Context.Payee 21) :: .int .u8 (gt b.Context.Payee 22) :: .int .u8 (gt b.Context.Payee 23) :: .int .u8 (gt b.Context.Payee 24) :: .int .u8 (gt b.Context.Payee 25) :: .int .u8 (gt b.Context.Payee 26) :: .int .u8 (gt b.Context.Payee 27) :: .int .u8 (gt b.Context.Payee 28) :: .int .u8 (gt b.Context.Payee 29) :: .int .u8 (gt b.Context.Payee 30) :: .int .u8 (gt b.Context.Payee 31) :: .int .i64 b.Context.Time :: .int .i64 b.Context.Number :: .sl none 3 true (b.Leaves.map e_api_Leaf) :: .int .i64 b.Path.Index :: .sl none 32 true (b.Path.L.map (fun l => .agg (.int .u8 (gt l 0) :: .int .u8 (gt l 1) :: .int .u8 (gt l 2) :: .int .u8 (gt l 3) :: .int .u8 (gt l 4) :: .int .u8 (gt l 5) :: .int .u8 (gt l 6) :: .int .u8 (gt l 7) :: .int .u8 (gt l 8) :: .int .u8 (gt l 9) :: .int .u8 (gt l 10) :: .int .u8 (gt l 11) :: .int .u8 (gt l 12) :: .int .u8 (gt l 13) :: .int .u8 (gt l 14) :: .int .u8 (gt l 15) :: .int .u8 (gt l 16) :: .int .u8 (gt l 17) :: .int .u8 (gt l 18) :: .int .u8 (gt l 19) :: .int .u8 (gt l 20) :: .int .u8 (gt l 21) :: .int .u8 (gt l 22) :: .int .u8 (gt l 23) :: .int .u8 (gt l 24) :: .int .u8 (gt l 25) :: .int .u8 (gt l 26) :: .int .u8 (gt l 27) :: .int .u8 (gt l 28) :: .int .u8 (gt l 29) :: .int .u8 (gt l 30) :: .int .u8 (gt l 31) :: []))) :: [])))], 2⟩ : St) sbQ sbQ ⟨0, rfl, ⟨omQ, omQ⟩, (Nat.lt_succ_self _), hM⟩ ?_
            clear hM
            rintro n9 S ⟨p9, rfl, hfa9, hm9, hM⟩
            have hM0 := hM; clear hM; obtain ⟨ag9, hag9, hM⟩ := iter_step hM0 (by omega) hf9; clear hM0
            replace hfa9 := nzQ hfa9
            replace hm9 := nzQ hm9
            have ha9 : addI .i64 p9 1 = p9 + 1 := add_one omQ omQ
            refine spQA ha9 ?_
            refine condC_intro (fun h10 => ?_) (fun h10 => ?_)
            · rw [if_pos h10] at hM
              refine spQA (And.intro ha9 h10) ?_
              have nh10 := nzQ h10
              refine ct_draw 60 10 [49, 50, 51, 52, 53, 54, 55, 56, 57, 58] [] ([[], [0], [], [0, 1, 2], [0, 1, 2, 3], [], [5], [], [5, 6, 7], [5, 6, 7, 8]] ++ [List.range 10]) [] (by kernel_rfl) (by exact alQ) ?_
              refine spQA ha9 ?_
              refine hbindC_intro omQ ?_
              have he11 := fun d => elt_mp (l := a_.Leaves) (f := e_api_Leaf) (i := p9) omQ d
              refine spQA (And.intro ha9 he11) ?_
              refine hbindC_intro omQ ?_
              have he12 := fun d => elt_mp (l := b.Leaves) (f := e_api_Leaf) (i := p9) omQ d
              refine spQA (And.intro ha9 (And.intro he11 he12)) ?_
              refine condC_intro (fun h13 => ?_) (fun h13 => ?_)
              · have kh13 : (!(q_api_Leaf (gt a_.Leaves p9) (gt b.Leaves p9))) = true := h13
                rw [if_pos kh13] at hM
                refine spQA (And.intro ha9 (And.intro he11 (And.intro he12 h13))) ?_
                have nh13 := nzQ kh13
                subst hM
                exact retC_view (lfQA (And.intro ha9 (And.intro he11 (And.intro he12 (And.intro h1 (And.intro h2 (And.intro h3 (And.intro h4 (And.intro h8 (And.intro h10 h13))))))))))
              · have kh13 : (!(q_api_Leaf (gt a_.Leaves p9) (gt b.Leaves p9))) = false := h13
                rw [if_neg (ne_true kh13)] at hM
                refine spQA (And.intro ha9 (And.intro he11 (And.intro he12 h13))) ?_
                have nh13 := nzQ kh13
                refine lp_intro (n9 - 1) (⟨[(2, .ptr 0 0), (3, .ptr 1 0), (5, .int .i64 (p9 + 1))], [(0, .var 80 true (.agg (.int .i64 a_.Coin.Bank :: .int .i64 a_.Coin.Epoch :: .int .i64 a_.Coin.Denom :: .int .i64 a_.Coin.Depth :: .int .i64 a_.Coin.A :: .int .u8 (gt a_.Coin.Root 0) :: .int .u8 (gt a_.Coin.Root 1) :: .int .u8 (gt a_.Coin.Root 2) :: .int .u8 (gt a_.Coin.Root 3) :: .int .u8 (gt a_.Coin.Root 4) :: .int .u8 (gt a_.Coin.Root 5) :: .int .u8 (gt a_.Coin.Root 6) :: .int .u8 (gt a_.Coin.Root 7) :: .int .u8 (gt a_.Coin.Root 8) :: .int .u8 (gt a_.Coin.Root 9) :: .int .u8 (gt a_.Coin.Root 10) :: .int .u8 (gt a_.Coin.Root 11) :: .int .u8 (gt a_.Coin.Root 12) :: .int .u8 (gt a_.Coin.Root 13) :: .int .u8 (gt a_.Coin.Root 14) :: .int .u8 (gt a_.Coin.Root 15) :: .int .u8 (gt a_.Coin.Root 16) :: .int .u8 (gt a_.Coin.Root 17) :: .int .u8 (gt a_.Coin.Root 18) :: .int .u8 (gt a_.Coin.Root 19) :: .int .u8 (gt a_.Coin.Root 20) :: .int .u8 (gt a_.Coin.Root 21) :: .int .u8 (gt a_.Coin.Root 22) :: .int .u8 (gt a_.Coin.Root 23) :: .int .u8 (gt a_.Coin.Root 24) :: .int .u8 (gt a_.Coin.Root 25) :: .int .u8 (gt a_.Coin.Root 26) :: .int .u8 (gt a_.Coin.Root 27) :: .int .u8 (gt a_.Coin.Root 28) :: .int .u8 (gt a_.Coin.Root 29) :: .int .u8 (gt a_.Coin.Root 30) :: .int .u8 (gt a_.Coin.Root 31) :: .int .i64 a_.Coin.Sign.Z :: .int .i64 a_.Coin.Sign.A :: .int .i64 a_.Coin.Sign.B :: .int .i64 a_.Coin.Sign.R :: .int .i64 a_.Node.Level :: .int .i64 a_.Node.Index :: .int .u8 (gt a_.Context.Payee 0) :: .int .u8 (gt a_.Context.Payee 1) :: .int .u8 (gt a_.Context.Payee 2) :: .int .u8 (gt a_.Context.Payee 3) :: .int .u8 (gt a_.Context.Payee 4) :: .int .u8 (gt a_.Context.Payee 5) :: .int .u8 (gt a_.Context.Payee 6) :: .int .u8 (gt a_.Context.Payee 7) :: .int .u8 (gt a_.Context.Payee 8) :: .int .u8 (gt a_.Context.Payee 9) :: .int .u8 (gt a_.Context.Payee 10) :: .int .u8 (gt a_.Context.Payee 11) :: .int .u8 (gt a_.Context.Payee 12) :: .int .u8 (gt a_.Context.Payee 13) :: .int .u8 (gt a_.Context.Payee 14) :: .int .u8 (gt a_.Context.Payee 15) :: .int .u8 (gt a_.Context.Payee 16) :: .int .u8 (gt a_.Context.Payee 17) :: .int .u8 (gt a_.Context.Payee 18) :: .int .u8 (gt a_.Context.Payee 19) :: .int .u8 (gt a_.Context.Payee 20) :: .int .u8 (gt a_.Context.Payee 21) :: .int .u8 (gt a_.Context.Payee 22) :: .int .u8 (gt a_.Context.Payee 23) :: .int .u8 (gt a_.Context.Payee 24) :: .int .u8 (gt a_.Context.Payee 25) :: .int .u8 (gt a_.Context.Payee 26) :: .int .u8 (gt a_.Context.Payee 27) :: .int .u8 (gt a_.Context.Payee 28) :: .int .u8 (gt a_.Context.Payee 29) :: .int .u8 (gt a_.Context.Payee 30) :: .int .u8 (gt a_.Context.Payee 31) :: .int .i64 a_.Context.Time :: .int .i64 a_.Context.Number :: .sl none 3 true (a_.Leaves.map e_api_Leaf) :: .int .i64 a_.Path.Index :: .sl none 32 true (a_.Path.L.map (fun l => .agg (.int .u8 (gt l 0) :: .int .u8 (gt l 1) :: .int .u8 (gt l 2) :: .int .u8 (gt l 3) :: .int .u8 (gt l 4) :: .int .u8 (gt l 5) :: .int .u8 (gt l 6) :: .int .u8 (gt l 7) :: .int .u8 (gt l 8) :: .int .u8 (gt l 9) :: .int .u8 (gt l 10) :: .int .u8 (gt l 11) :: .int .u8 (gt l 12) :: .int .u8 (gt l 13) :: .int .u8 (gt l 14) :: .int .u8 (gt l 15) :: .int .u8 (gt l 16) :: .int .u8 (gt l 17) :: .int .u8 (gt l 18) :: .int .u8 (gt l 19) :: .int .u8 (gt l 20) :: .int .u8 (gt l 21) :: .int .u8 (gt l 22) :: .int .u8 (gt l 23) :: .int .u8 (gt l 24) :: .int .u8 (gt l 25) :: .int .u8 (gt l 26) :: .int .u8 (gt l 27) :: .int .u8 (gt l 28) :: .int .u8 (gt l 29) :: .int .u8 (gt l 30) :: .int .u8 (gt l 31) :: []))) :: []))), (1, .var 80 true (.agg (.int .i64 b.Coin.Bank :: .int .i64 b.Coin.Epoch :: .int .i64 b.Coin.Denom :: .int .i64 b.Coin.Depth :: .int .i64 b.Coin.A :: .int .u8 (gt b.Coin.Root 0) :: .int .u8 (gt b.Coin.Root 1) :: .int .u8 (gt b.Coin.Root 2) :: .int .u8 (gt b.Coin.Root 3) :: .int .u8 (gt b.Coin.Root 4) :: .int .u8 (gt b.Coin.Root 5) :: .int .u8 (gt b.Coin.Root 6) :: .int .u8 (gt b.Coin.Root 7) :: .int .u8 (gt b.Coin.Root 8) :: .int .u8 (gt b.Coin.Root 9) :: .int .u8 (gt b.Coin.Root 10) :: .int .u8 (gt b.Coin.Root 11) :: .int .u8 (gt b.Coin.Root 12) :: .int .u8 (gt b.Coin.Root 13) :: .int .u8 (gt b.Coin.Root 14) :: .int .u8 (gt b.Coin.Root 15) :: .int .u8 (gt b.Coin.Root 16) :: .int .u8 (gt b.Coin.Root 17) :: .int .u8 (gt b.Coin.Root 18) :: .int .u8 (gt b.Coin.Root 19) :: .int .u8 (gt b.Coin.Root 20) :: .int .u8 (gt b.Coin.Root 21) :: .int .u8 (gt b.Coin.Root 22) :: .int .u8 (gt b.Coin.Root 23) :: .int .u8 (gt b.Coin.Root 24) :: .int .u8 (gt b.Coin.Root 25) :: .int .u8 (gt b.Coin.Root 26) :: .int .u8 (gt b.Coin.Root 27) :: .int .u8 (gt b.Coin.Root 28) :: .int .u8 (gt b.Coin.Root 29) :: .int .u8 (gt b.Coin.Root 30) :: .int .u8 (gt b.Coin.Root 31) :: .int .i64 b.Coin.Sign.Z :: .int .i64 b.Coin.Sign.A :: .int .i64 b.Coin.Sign.B :: .int .i64 b.Coin.Sign.R :: .int .i64 b.Node.Level :: .int .i64 b.Node.Index :: .int .u8 (gt b.Context.Payee 0) :: .int .u8 (gt b.Context.Payee 1) :: .int .u8 (gt b.Context.Payee 2) :: .int .u8 (gt b.Context.Payee 3) :: .int .u8 (gt b.Context.Payee 4) :: .int .u8 (gt b.Context.Payee 5) :: .int .u8 (gt b.Context.Payee 6) :: .int .u8 (gt b.Context.Payee 7) :: .int .u8 (gt b.Context.Payee 8) :: .int .u8 (gt b.Context.Payee 9) :: .int .u8 (gt b.Context.Payee 10) :: .int .u8 (gt b.Context.Payee 11) :: .int .u8 (gt b.Context.Payee 12) :: .int .u8 (gt b.Context.Payee 13) :: .int .u8 (gt b.Context.Payee 14) :: .int .u8 (gt b.Context.Payee 15) :: .int .u8 (gt b.Context.Payee 16) :: .int .u8 (gt b.Context.Payee 17) :: .int .u8 (gt b.Context.Payee 18) :: .int .u8 (gt b.Context.Payee 19) :: .int .u8 (gt b.Context.Payee 20) :: .int .u8 (gt b.Context.Payee 21) :: .int .u8 (gt b.Context.Payee 22) :: .int .u8 (gt b.Context.Payee 23) :: .int .u8 (gt b.Context.Payee 24) :: .int .u8 (gt b.Context.Payee 25) :: .int .u8 (gt b.Context.Payee 26) :: .int .u8 (gt b.Context.Payee 27) :: .int .u8 (gt b.Context.Payee 28) :: .int .u8 (gt b.Context.Payee 29) :: .int .u8 (gt b.Context.Payee 30) :: .int .u8 (gt b.Context.Payee 31) :: .int .i64 b.Context.Time :: .int .i64 b.Context.Number :: .sl none 3 true (b.Leaves.map e_api_Leaf) :: .int .i64 b.Path.Index :: .sl none 32 true (b.Path.L.map (fun l => .agg (.int .u8 (gt l 0) :: .int .u8 (gt l 1) :: .int .u8 (gt l 2) :: .int .u8 (gt l 3) :: .int .u8 (gt l 4) :: .int .u8 (gt l 5) :: .int .u8 (gt l 6) :: .int .u8 (gt l 7) :: .int .u8 (gt l 8) :: .int .u8 (gt l 9) :: .int .u8 (gt l 10) :: .int .u8 (gt l 11) :: .int .u8 (gt l 12) :: .int .u8 (gt l 13) :: .int .u8 (gt l 14) :: .int .u8 (gt l 15) :: .int .u8 (gt l 16) :: .int .u8 (gt l 17) :: .int .u8 (gt l 18) :: .int .u8 (gt l 19) :: .int .u8 (gt l 20) :: .int .u8 (gt l 21) :: .int .u8 (gt l 22) :: .int .u8 (gt l 23) :: .int .u8 (gt l 24) :: .int .u8 (gt l 25) :: .int .u8 (gt l 26) :: .int .u8 (gt l 27) :: .int .u8 (gt l 28) :: .int .u8 (gt l 29) :: .int .u8 (gt l 30) :: .int .u8 (gt l 31) :: []))) :: [])))], 2⟩ : St) (by omega) sbQ sbQ ⟨(p9 + 1), rfl, ⟨omQ, omQ⟩, omQ, iter_again hM hag9⟩
            · rw [if_neg (ne_true h10)] at hM
              refine spQA (And.intro ha9 h10) ?_
              have nh10 := nzQ h10
              subst hM
              exact retC_view (lfQA (And.intro ha9 (And.intro h1 (And.intro h2 (And.intro h3 (And.intro h4 (And.intro h8 h10)))))))
        · rw [if_pos h4] at hM
          refine spQA h4 ?_
          have nh4 := nzQ h4
          subst hM
          exact retC_view (lfQA (And.intro h1 (And.intro h2 (And.intro h3 h4))))
      · have kh3 : (!(q_api_Context (a_.Context) (b.Context))) = true := h3
        rw [if_pos kh3] at hM
        refine spQA h3 ?_
        have nh3 := nzQ kh3
        subst hM
        exact retC_view (lfQA (And.intro h1 (And.intro h2 h3)))
    · have kh2 : (!(q_api_Node (a_.Node) (b.Node))) = true := h2
      rw [if_pos kh2] at hM
      refine spQA h2 ?_
      have nh2 := nzQ kh2
      subst hM
      exact retC_view (lfQA (And.intro h1 h2))
  · have kh1 : (!(q_api_Coin (a_.Coin) (b.Coin))) = true := h1
    rw [if_pos kh1] at hM
    refine spQA h1 ?_
    have nh1 := nzQ kh1
    subst hM
    exact retC_view (lfQA h1)
set_option maxHeartbeats 2000000 in
set_option maxRecDepth 100000 in
theorem specieref35_Same_ok   (x_ : S_api_Chain) (y : S_api_Chain) (hp0 : x_.L.length ≤ 1000) (hp1 : y.L.length ≤ 1000) : CallOk En 33 [.agg (.int .i64 x_.First.Coin.Bank :: .int .i64 x_.First.Coin.Epoch :: .int .i64 x_.First.Coin.Denom :: .int .i64 x_.First.Coin.Depth :: .int .i64 x_.First.Coin.A :: .int .u8 (gt x_.First.Coin.Root 0) :: .int .u8 (gt x_.First.Coin.Root 1) :: .int .u8 (gt x_.First.Coin.Root 2) :: .int .u8 (gt x_.First.Coin.Root 3) :: .int .u8 (gt x_.First.Coin.Root 4) :: .int .u8 (gt x_.First.Coin.Root 5) :: .int .u8 (gt x_.First.Coin.Root 6) :: .int .u8 (gt x_.First.Coin.Root 7) :: .int .u8 (gt x_.First.Coin.Root 8) :: .int .u8 (gt x_.First.Coin.Root 9) :: .int .u8 (gt x_.First.Coin.Root 10) :: .int .u8 (gt x_.First.Coin.Root 11) :: .int .u8 (gt x_.First.Coin.Root 12) :: .int .u8 (gt x_.First.Coin.Root 13) :: .int .u8 (gt x_.First.Coin.Root 14) :: .int .u8 (gt x_.First.Coin.Root 15) :: .int .u8 (gt x_.First.Coin.Root 16) :: .int .u8 (gt x_.First.Coin.Root 17) :: .int .u8 (gt x_.First.Coin.Root 18) :: .int .u8 (gt x_.First.Coin.Root 19) :: .int .u8 (gt x_.First.Coin.Root 20) :: .int .u8 (gt x_.First.Coin.Root 21) :: .int .u8 (gt x_.First.Coin.Root 22) :: .int .u8 (gt x_.First.Coin.Root 23) :: .int .u8 (gt x_.First.Coin.Root 24) :: .int .u8 (gt x_.First.Coin.Root 25) :: .int .u8 (gt x_.First.Coin.Root 26) :: .int .u8 (gt x_.First.Coin.Root 27) :: .int .u8 (gt x_.First.Coin.Root 28) :: .int .u8 (gt x_.First.Coin.Root 29) :: .int .u8 (gt x_.First.Coin.Root 30) :: .int .u8 (gt x_.First.Coin.Root 31) :: .int .i64 x_.First.Coin.Sign.Z :: .int .i64 x_.First.Coin.Sign.A :: .int .i64 x_.First.Coin.Sign.B :: .int .i64 x_.First.Coin.Sign.R :: .int .i64 x_.First.Node.Level :: .int .i64 x_.First.Node.Index :: .int .u8 (gt x_.First.Context.Payee 0) :: .int .u8 (gt x_.First.Context.Payee 1) :: .int .u8 (gt x_.First.Context.Payee 2) :: .int .u8 (gt x_.First.Context.Payee 3) :: .int .u8 (gt x_.First.Context.Payee 4) :: .int .u8 (gt x_.First.Context.Payee 5) :: .int .u8 (gt x_.First.Context.Payee 6) :: .int .u8 (gt x_.First.Context.Payee 7) :: .int .u8 (gt x_.First.Context.Payee 8) :: .int .u8 (gt x_.First.Context.Payee 9) :: .int .u8 (gt x_.First.Context.Payee 10) :: .int .u8 (gt x_.First.Context.Payee 11) :: .int .u8 (gt x_.First.Context.Payee 12) :: .int .u8 (gt x_.First.Context.Payee 13) :: .int .u8 (gt x_.First.Context.Payee 14) :: .int .u8 (gt x_.First.Context.Payee 15) :: .int .u8 (gt x_.First.Context.Payee 16) :: .int .u8 (gt x_.First.Context.Payee 17) :: .int .u8 (gt x_.First.Context.Payee 18) :: .int .u8 (gt x_.First.Context.Payee 19) :: .int .u8 (gt x_.First.Context.Payee 20) :: .int .u8 (gt x_.First.Context.Payee 21) :: .int .u8 (gt x_.First.Context.Payee 22) :: .int .u8 (gt x_.First.Context.Payee 23) :: .int .u8 (gt x_.First.Context.Payee 24) :: .int .u8 (gt x_.First.Context.Payee 25) :: .int .u8 (gt x_.First.Context.Payee 26) :: .int .u8 (gt x_.First.Context.Payee 27) :: .int .u8 (gt x_.First.Context.Payee 28) :: .int .u8 (gt x_.First.Context.Payee 29) :: .int .u8 (gt x_.First.Context.Payee 30) :: .int .u8 (gt x_.First.Context.Payee 31) :: .int .i64 x_.First.Context.Time :: .int .i64 x_.First.Context.Number :: .sl none 3 true (x_.First.Leaves.map e_api_Leaf) :: .int .i64 x_.First.Path.Index :: .sl none 32 true (x_.First.Path.L.map (fun l => .agg (.int .u8 (gt l 0) :: .int .u8 (gt l 1) :: .int .u8 (gt l 2) :: .int .u8 (gt l 3) :: .int .u8 (gt l 4) :: .int .u8 (gt l 5) :: .int .u8 (gt l 6) :: .int .u8 (gt l 7) :: .int .u8 (gt l 8) :: .int .u8 (gt l 9) :: .int .u8 (gt l 10) :: .int .u8 (gt l 11) :: .int .u8 (gt l 12) :: .int .u8 (gt l 13) :: .int .u8 (gt l 14) :: .int .u8 (gt l 15) :: .int .u8 (gt l 16) :: .int .u8 (gt l 17) :: .int .u8 (gt l 18) :: .int .u8 (gt l 19) :: .int .u8 (gt l 20) :: .int .u8 (gt l 21) :: .int .u8 (gt l 22) :: .int .u8 (gt l 23) :: .int .u8 (gt l 24) :: .int .u8 (gt l 25) :: .int .u8 (gt l 26) :: .int .u8 (gt l 27) :: .int .u8 (gt l 28) :: .int .u8 (gt l 29) :: .int .u8 (gt l 30) :: .int .u8 (gt l 31) :: []))) :: .sl none 80 true (x_.L.map e_api_Spend) :: []), .agg (.int .i64 y.First.Coin.Bank :: .int .i64 y.First.Coin.Epoch :: .int .i64 y.First.Coin.Denom :: .int .i64 y.First.Coin.Depth :: .int .i64 y.First.Coin.A :: .int .u8 (gt y.First.Coin.Root 0) :: .int .u8 (gt y.First.Coin.Root 1) :: .int .u8 (gt y.First.Coin.Root 2) :: .int .u8 (gt y.First.Coin.Root 3) :: .int .u8 (gt y.First.Coin.Root 4) :: .int .u8 (gt y.First.Coin.Root 5) :: .int .u8 (gt y.First.Coin.Root 6) :: .int .u8 (gt y.First.Coin.Root 7) :: .int .u8 (gt y.First.Coin.Root 8) :: .int .u8 (gt y.First.Coin.Root 9) :: .int .u8 (gt y.First.Coin.Root 10) :: .int .u8 (gt y.First.Coin.Root 11) :: .int .u8 (gt y.First.Coin.Root 12) :: .int .u8 (gt y.First.Coin.Root 13) :: .int .u8 (gt y.First.Coin.Root 14) :: .int .u8 (gt y.First.Coin.Root 15) :: .int .u8 (gt y.First.Coin.Root 16) :: .int .u8 (gt y.First.Coin.Root 17) :: .int .u8 (gt y.First.Coin.Root 18) :: .int .u8 (gt y.First.Coin.Root 19) :: .int .u8 (gt y.First.Coin.Root 20) :: .int .u8 (gt y.First.Coin.Root 21) :: .int .u8 (gt y.First.Coin.Root 22) :: .int .u8 (gt y.First.Coin.Root 23) :: .int .u8 (gt y.First.Coin.Root 24) :: .int .u8 (gt y.First.Coin.Root 25) :: .int .u8 (gt y.First.Coin.Root 26) :: .int .u8 (gt y.First.Coin.Root 27) :: .int .u8 (gt y.First.Coin.Root 28) :: .int .u8 (gt y.First.Coin.Root 29) :: .int .u8 (gt y.First.Coin.Root 30) :: .int .u8 (gt y.First.Coin.Root 31) :: .int .i64 y.First.Coin.Sign.Z :: .int .i64 y.First.Coin.Sign.A :: .int .i64 y.First.Coin.Sign.B :: .int .i64 y.First.Coin.Sign.R :: .int .i64 y.First.Node.Level :: .int .i64 y.First.Node.Index :: .int .u8 (gt y.First.Context.Payee 0) :: .int .u8 (gt y.First.Context.Payee 1) :: .int .u8 (gt y.First.Context.Payee 2) :: .int .u8 (gt y.First.Context.Payee 3) :: .int .u8 (gt y.First.Context.Payee 4) :: .int .u8 (gt y.First.Context.Payee 5) :: .int .u8 (gt y.First.Context.Payee 6) :: .int .u8 (gt y.First.Context.Payee 7) :: .int .u8 (gt y.First.Context.Payee 8) :: .int .u8 (gt y.First.Context.Payee 9) :: .int .u8 (gt y.First.Context.Payee 10) :: .int .u8 (gt y.First.Context.Payee 11) :: .int .u8 (gt y.First.Context.Payee 12) :: .int .u8 (gt y.First.Context.Payee 13) :: .int .u8 (gt y.First.Context.Payee 14) :: .int .u8 (gt y.First.Context.Payee 15) :: .int .u8 (gt y.First.Context.Payee 16) :: .int .u8 (gt y.First.Context.Payee 17) :: .int .u8 (gt y.First.Context.Payee 18) :: .int .u8 (gt y.First.Context.Payee 19) :: .int .u8 (gt y.First.Context.Payee 20) :: .int .u8 (gt y.First.Context.Payee 21) :: .int .u8 (gt y.First.Context.Payee 22) :: .int .u8 (gt y.First.Context.Payee 23) :: .int .u8 (gt y.First.Context.Payee 24) :: .int .u8 (gt y.First.Context.Payee 25) :: .int .u8 (gt y.First.Context.Payee 26) :: .int .u8 (gt y.First.Context.Payee 27) :: .int .u8 (gt y.First.Context.Payee 28) :: .int .u8 (gt y.First.Context.Payee 29) :: .int .u8 (gt y.First.Context.Payee 30) :: .int .u8 (gt y.First.Context.Payee 31) :: .int .i64 y.First.Context.Time :: .int .i64 y.First.Context.Number :: .sl none 3 true (y.First.Leaves.map e_api_Leaf) :: .int .i64 y.First.Path.Index :: .sl none 32 true (y.First.Path.L.map (fun l => .agg (.int .u8 (gt l 0) :: .int .u8 (gt l 1) :: .int .u8 (gt l 2) :: .int .u8 (gt l 3) :: .int .u8 (gt l 4) :: .int .u8 (gt l 5) :: .int .u8 (gt l 6) :: .int .u8 (gt l 7) :: .int .u8 (gt l 8) :: .int .u8 (gt l 9) :: .int .u8 (gt l 10) :: .int .u8 (gt l 11) :: .int .u8 (gt l 12) :: .int .u8 (gt l 13) :: .int .u8 (gt l 14) :: .int .u8 (gt l 15) :: .int .u8 (gt l 16) :: .int .u8 (gt l 17) :: .int .u8 (gt l 18) :: .int .u8 (gt l 19) :: .int .u8 (gt l 20) :: .int .u8 (gt l 21) :: .int .u8 (gt l 22) :: .int .u8 (gt l 23) :: .int .u8 (gt l 24) :: .int .u8 (gt l 25) :: .int .u8 (gt l 26) :: .int .u8 (gt l 27) :: .int .u8 (gt l 28) :: .int .u8 (gt l 29) :: .int .u8 (gt l 30) :: .int .u8 (gt l 31) :: []))) :: .sl none 80 true (y.L.map e_api_Spend) :: [])] (.bool (specieref35_Same x_ y)) [] := by
  generalize hM : specieref35_Same x_ y = r
  rw [specieref35_Same.eq_1] at hM
  refine enterV En_ok En_mo noJ Try.func33 rfl Try.ntmps33 (by kernel_rfl) fun hw => ct_start ?_
  refine spQ ?_
  replace hw := nzQ hw
  refine ct_draw 33 3 [8, 9, 10] [] ([[], [0], []] ++ [List.range 3, List.range 4, List.range 5]) [] (by kernel_rfl) (by exact alQ) ?_
  refine spQ ?_
  have hM0 := hM; clear hM; obtain ⟨x1, hx2, hM⟩ := letk_opn hM0; clear hM0
  have hcx1 := specieref35_Spends_ok  x_ (by (first | exact hp0 | exact hp1))
  rw [← hx2] at hcx1
  refine hcallC_give hcx1 clQ clQ ?_
  refine spQ ?_
  have hM0 := hM; clear hM; obtain ⟨x3, hx4, hM⟩ := letk_opn hM0; clear hM0
  have hcx3 := specieref35_Spends_ok  y (by (first | exact hp0 | exact hp1))
  rw [← hx4] at hcx3
  refine callC_give hcx3 clQ clQ (fun hw5 => ?_)
  replace hw5 := nzQ hw5
  refine spQ ?_
  refine condC_intro (fun h6 => ?_) (fun h6 => ?_)
  · rw [if_pos h6] at hM
    refine spQA h6 ?_
    have nh6 := nzQ h6
    subst hM
    exact retC_view (lfQA h6)
  · rw [if_neg (ne_true h6)] at hM
    refine spQA h6 ?_
    have nh6 := nzQ h6
    have hM0 := hM; clear hM; obtain ⟨f7, d7, hf7, hd7, hM⟩ := iter_opn hM0; clear hM0
    refine ct_loop (fun n S => ∃ p : Int, S = (⟨[(5, .sl none 80 true (x1.map e_api_Spend)), (6, .sl none 80 true (x3.map e_api_Spend)), (7, .int .i64 p)], [], 5⟩ : St) ∧ ((0 ≤ p) ∧ (p ≤ (x1.length : Int))) ∧ ((x1.length : Int) - p).toNat < n ∧ iter n f7 d7 p = r) (((x1.length : Int) - 0).toNat + 1) (⟨[(5, .sl none 80 true (x1.map e_api_Spend)), (6, .sl none 80 true (x3.map e_api_Spend)), (7, .int .i64 0)], [], 5⟩ : St) sbQ sbQ ⟨0, rfl, ⟨omQ, omQ⟩, (Nat.lt_succ_self _), hM⟩ ?_
    clear hM
    rintro n7 S ⟨p7, rfl, hfa7, hm7, hM⟩
    have hM0 := hM; clear hM; obtain ⟨ag7, hag7, hM⟩ := iter_step hM0 (by omega) hf7; clear hM0
    replace hfa7 := nzQ hfa7
    replace hm7 := nzQ hm7
    have ha7 : addI .i64 p7 1 = p7 + 1 := add_one omQ omQ
    refine spQA ha7 ?_
    refine condC_intro (fun h8 => ?_) (fun h8 => ?_)
    · rw [if_pos h8] at hM
      refine spQA (And.intro ha7 h8) ?_
      have nh8 := nzQ h8
      refine ct_draw 33 8 [23, 24, 25, 26, 27, 28, 29, 30] [] ([[], [], [0, 1], [0, 1, 2], [], [], [4, 5], [4, 5, 6]] ++ [List.range 8, List.range 9]) [] (by kernel_rfl) (by exact alQ) ?_
      refine spQA ha7 ?_
      refine hbindC_intro omQ ?_
      have he9 := fun d => elt_mp (l := x1) (f := e_api_Spend) (i := p7) omQ d
      refine spQA (And.intro ha7 he9) ?_
      refine hbindC_intro omQ ?_
      have he10 := fun d => elt_mp (l := x3) (f := e_api_Spend) (i := p7) omQ d
      refine spQA (And.intro ha7 (And.intro he9 he10)) ?_
      have hM0 := hM; clear hM; obtain ⟨x11, hx12, hM⟩ := letk_opn hM0; clear hM0
      have hcx11 := specieref32_Same_ok  (gt x1 p7) (gt x3 p7) 
      rw [← hx12] at hcx11
      refine callC_give hcx11 (clQA (And.intro ha7 (And.intro he9 he10))) (clQA (And.intro ha7 (And.intro he9 he10))) (fun hw13 => ?_)
      replace hw13 := nzQ hw13
      refine spQA (And.intro ha7 (And.intro he9 he10)) ?_
      refine condC_intro (fun h14 => ?_) (fun h14 => ?_)
      · rw [if_pos h14] at hM
        refine spQA (And.intro ha7 (And.intro he9 (And.intro he10 h14))) ?_
        have nh14 := nzQ h14
        subst hM
        exact retC_view (lfQA (And.intro ha7 (And.intro he9 (And.intro he10 (And.intro h6 (And.intro h8 h14))))))
      · rw [if_neg (ne_true h14)] at hM
        refine spQA (And.intro ha7 (And.intro he9 (And.intro he10 h14))) ?_
        have nh14 := nzQ h14
        refine lp_intro (n7 - 1) (⟨[(5, .sl none 80 true (x1.map e_api_Spend)), (6, .sl none 80 true (x3.map e_api_Spend)), (7, .int .i64 (p7 + 1))], [], 5⟩ : St) (by omega) sbQ sbQ ⟨(p7 + 1), rfl, ⟨omQ, omQ⟩, omQ, iter_again hM hag7⟩
    · rw [if_neg (ne_true h8)] at hM
      refine spQA (And.intro ha7 h8) ?_
      have nh8 := nzQ h8
      subst hM
      exact retC_view (lfQA (And.intro ha7 (And.intro h6 h8)))
set_option maxHeartbeats 2000000 in
set_option maxRecDepth 100000 in
theorem specieref17_Same_ok  (z0 : Option Bool) (z1 : Option Bool) (a_ : (List Int)) (b : (List Int))  : CallOk En 82 [.sl z0 1 false (a_.map (V.int .i64)), .sl z1 1 false (b.map (V.int .i64))] (.bool (specieref17_Same a_ b)) [] := by
  generalize hM : specieref17_Same a_ b = r
  rw [specieref17_Same.eq_1] at hM
  refine enterV En_ok En_mo noJ Try.func82 rfl Try.ntmps82 (by kernel_rfl) fun hw => ct_start ?_
  refine spQ ?_
  replace hw := nzQ hw
  refine condC_intro (fun h1 => ?_) (fun h1 => ?_)
  · rw [if_pos h1] at hM
    refine spQA h1 ?_
    have nh1 := nzQ h1
    subst hM
    exact retC_view (lfQA h1)
  · rw [if_neg (ne_true h1)] at hM
    refine spQA h1 ?_
    have nh1 := nzQ h1
    have hM0 := hM; clear hM; obtain ⟨f2, d2, hf2, hd2, hM⟩ := iter_opn hM0; clear hM0
    refine ct_loop (fun n S => ∃ p : Int, S = (⟨[(0, .sl z0 1 false (a_.map (V.int .i64))), (1, .sl z1 1 false (b.map (V.int .i64))), (5, .int .i64 p)], [], 0⟩ : St) ∧ ((0 ≤ p) ∧ (p ≤ (a_.length : Int))) ∧ ((a_.length : Int) - p).toNat < n ∧ iter n f2 d2 p = r) (((a_.length : Int) - 0).toNat + 1) (⟨[(0, .sl z0 1 false (a_.map (V.int .i64))), (1, .sl z1 1 false (b.map (V.int .i64))), (5, .int .i64 0)], [], 0⟩ : St) sbQ sbQ ⟨0, rfl, ⟨omQ, omQ⟩, (Nat.lt_succ_self _), hM⟩ ?_
    clear hM
    rintro n2 S ⟨p2, rfl, hfa2, hm2, hM⟩
    have hM0 := hM; clear hM; obtain ⟨ag2, hag2, hM⟩ := iter_step hM0 (by omega) hf2; clear hM0
    replace hfa2 := nzQ hfa2
    replace hm2 := nzQ hm2
    have ha2 : addI .i64 p2 1 = p2 + 1 := add_one omQ omQ
    refine spQA ha2 ?_
    refine condC_intro (fun h3 => ?_) (fun h3 => ?_)
    · rw [if_pos h3] at hM
      refine spQA (And.intro ha2 h3) ?_
      have nh3 := nzQ h3
      refine ct_draw 26 8 [17, 18, 19, 20, 21, 22, 23, 24] [] ([[], [], [0, 1], [0, 1, 2], [], [], [4, 5], [4, 5, 6]] ++ [List.range 8]) [] (by kernel_rfl) (by exact alQ) ?_
      refine spQA ha2 ?_
      refine hbindC_intro omQ ?_
      have he4 := fun d => elt_mp (l := a_) (f := (V.int .i64)) (i := p2) omQ d
      refine spQA (And.intro ha2 he4) ?_
      refine hbindC_intro omQ ?_
      have he5 := fun d => elt_mp (l := b) (f := (V.int .i64)) (i := p2) omQ d
      refine spQA (And.intro ha2 (And.intro he4 he5)) ?_
      refine condC_intro (fun h6 => ?_) (fun h6 => ?_)
      · rw [if_pos h6] at hM
        refine spQA (And.intro ha2 (And.intro he4 (And.intro he5 h6))) ?_
        have nh6 := nzQ h6
        subst hM
        exact retC_view (lfQA (And.intro ha2 (And.intro he4 (And.intro he5 (And.intro h1 (And.intro h3 h6))))))
      · rw [if_neg (ne_true h6)] at hM
        refine spQA (And.intro ha2 (And.intro he4 (And.intro he5 h6))) ?_
        have nh6 := nzQ h6
        refine lp_intro (n2 - 1) (⟨[(0, .sl z0 1 false (a_.map (V.int .i64))), (1, .sl z1 1 false (b.map (V.int .i64))), (5, .int .i64 (p2 + 1))], [], 0⟩ : St) (by omega) sbQ sbQ ⟨(p2 + 1), rfl, ⟨omQ, omQ⟩, omQ, iter_again hM hag2⟩
    · rw [if_neg (ne_true h3)] at hM
      refine spQA (And.intro ha2 h3) ?_
      have nh3 := nzQ h3
      subst hM
      exact retC_view (lfQA (And.intro ha2 (And.intro h1 h3)))
set_option maxHeartbeats 2000000 in
set_option maxRecDepth 100000 in
theorem specieref17_SameProof_ok   (a_ : S_api_Proof) (b : S_api_Proof)  : CallOk En 66 [.agg [.sl none 1 false (a_.A.map (V.int .i64)), .int .i64 a_.C, .sl none 1 false (a_.Z.map (V.int .i64))], .agg [.sl none 1 false (b.A.map (V.int .i64)), .int .i64 b.C, .sl none 1 false (b.Z.map (V.int .i64))]] (.bool (specieref17_SameProof a_ b)) [] := by
  generalize hM : specieref17_SameProof a_ b = r
  rw [specieref17_SameProof.eq_1] at hM
  refine enterV En_ok En_mo noJ Try.func66 rfl Try.ntmps66 (by kernel_rfl) fun hw => ct_start ?_
  refine spQ ?_
  replace hw := nzQ hw
  have hM0 := hM; clear hM; obtain ⟨x1, hx2, hM⟩ := letk_opn hM0; clear hM0
  have hcx1 := specieref17_Same_ok none none (a_.A) (b.A) 
  rw [← hx2] at hcx1
  refine callC_give hcx1 clQ clQ (fun hw3 => ?_)
  replace hw3 := nzQ hw3
  refine spQ ?_
  refine guardC_t (fun h4 => ?_) (fun h4 => ?_)
  · subst h4
    rw [if_pos rfl] at hM
    refine spQ ?_
    refine guardC_t (fun h5 => ?_) (fun h5 => ?_)
    · rw [if_pos h5] at hM
      refine spQA h5 ?_
      have nh5 := nzQ h5
      have hM0 := hM; clear hM; obtain ⟨x6, hx7, hM⟩ := letk_opn hM0; clear hM0
      have hcx6 := specieref17_Same_ok none none (a_.Z) (b.Z) 
      rw [← hx7] at hcx6
      refine callC_give hcx6 clQ clQ (fun hw8 => ?_)
      replace hw8 := nzQ hw8
      refine spQ ?_
      subst hM
      exact retC_view (lfQA h5)
    · rw [if_neg (ne_true h5)] at hM
      refine spQA h5 ?_
      have nh5 := nzQ h5
      subst hM
      exact retC_view (lfQA h5)
  · subst h4
    rw [if_neg (by decide)] at hM
    refine spQ ?_
    subst hM
    exact retC_view lfQ
set_option maxHeartbeats 2000000 in
set_option maxRecDepth 100000 in
theorem specieref36_Same_ok   (a_ : S_api_Escrow) (b : S_api_Escrow)  : CallOk En 34 [.agg [.int .i64 a_.E1, .int .i64 a_.E2, .sl none 1 false (a_.Proof.A.map (V.int .i64)), .int .i64 a_.Proof.C, .sl none 1 false (a_.Proof.Z.map (V.int .i64))], .agg [.int .i64 b.E1, .int .i64 b.E2, .sl none 1 false (b.Proof.A.map (V.int .i64)), .int .i64 b.Proof.C, .sl none 1 false (b.Proof.Z.map (V.int .i64))]] (.bool (specieref36_Same a_ b)) [] := by
  generalize hM : specieref36_Same a_ b = r
  rw [specieref36_Same.eq_1] at hM
  refine enterV En_ok En_mo noJ Try.func34 rfl Try.ntmps34 (by kernel_rfl) fun hw => ct_start ?_
  refine spQ ?_
  replace hw := nzQ hw
  refine guardC_t (fun h1 => ?_) (fun h1 => ?_)
  · rw [if_pos h1] at hM
    refine spQA h1 ?_
    have nh1 := nzQ h1
    refine guardC_t (fun h2 => ?_) (fun h2 => ?_)
    · rw [if_pos h2] at hM
      refine spQA h2 ?_
      have nh2 := nzQ h2
      have hM0 := hM; clear hM; obtain ⟨x3, hx4, hM⟩ := letk_opn hM0; clear hM0
      have hcx3 := specieref17_SameProof_ok  (a_.Proof) (b.Proof) 
      rw [← hx4] at hcx3
      refine callC_give hcx3 clQ clQ (fun hw5 => ?_)
      replace hw5 := nzQ hw5
      refine spQ ?_
      subst hM
      exact retC_view (lfQA (And.intro h1 h2))
    · rw [if_neg (ne_true h2)] at hM
      refine spQA h2 ?_
      have nh2 := nzQ h2
      subst hM
      exact retC_view (lfQA (And.intro h1 h2))
  · rw [if_neg (ne_true h1)] at hM
    refine spQA h1 ?_
    have nh1 := nzQ h1
    subst hM
    exact retC_view (lfQA h1)
set_option maxHeartbeats 2000000 in
set_option maxRecDepth 100000 in
theorem specieref38_Same_ok   (p_ : S_api_Payment) (q : S_api_Payment) (hp0 : okP p_) (hp1 : okP q) : CallOk En 12 [.agg [.int .i64 p_.Number, .sl none 80 true (p_.Spends.map e_api_Spend), .sl none 81 true (p_.Chains.map e_api_Chain), .sl none 5 true (p_.Escrow.map e_api_Escrow)], .agg [.int .i64 q.Number, .sl none 80 true (q.Spends.map e_api_Spend), .sl none 81 true (q.Chains.map e_api_Chain), .sl none 5 true (q.Escrow.map e_api_Escrow)]] (.bool (specieref38_Same p_ q)) [] := by
  generalize hM : specieref38_Same p_ q = r
  rw [specieref38_Same.eq_1] at hM
  refine enterV En_ok En_mo noJ Try.func12 rfl Try.ntmps12 (by kernel_rfl) fun hw => ct_start ?_
  refine spQ ?_
  replace hw := nzQ hw
  refine guardC_f (fun h1 => ?_) (fun h1 => ?_)
  · rw [if_neg (ne_true h1)] at hM
    refine spQA h1 ?_
    have nh1 := nzQ h1
    refine guardC_f (fun h2 => ?_) (fun h2 => ?_)
    · rw [if_neg (ne_true h2)] at hM
      refine spQA h2 ?_
      have nh2 := nzQ h2
      refine guardC_f (fun h3 => ?_) (fun h3 => ?_)
      · rw [if_neg (ne_true h3)] at hM
        refine spQA h3 ?_
        have nh3 := nzQ h3
        refine condC_intro (fun h4 => ?_) (fun h4 => ?_)
        · rw [if_pos h4] at hM
          refine spQA h4 ?_
          have nh4 := nzQ h4
          subst hM
          exact retC_view (lfQA (And.intro h1 (And.intro h2 (And.intro h3 h4))))
        · rw [if_neg (ne_true h4)] at hM
          refine spQA h4 ?_
          have nh4 := nzQ h4
          have hM0 := hM; clear hM; obtain ⟨f5, d5, hf5, hd5, hM⟩ := iter_opn hM0; clear hM0
          refine ct_loop (fun n S => ∃ p : Int, S = (⟨[(2, .ptr 0 0), (3, .ptr 1 0), (5, .int .i64 p)], [(0, .var 4 true (.agg [.int .i64 p_.Number, .sl none 80 true (p_.Spends.map e_api_Spend), .sl none 81 true (p_.Chains.map e_api_Chain), .sl none 5 true (p_.Escrow.map e_api_Escrow)])), (1, .var 4 true (.agg [.int .i64 q.Number, .sl none 80 true (q.Spends.map e_api_Spend), .sl none 81 true (q.Chains.map e_api_Chain), .sl none 5 true (q.Escrow.map e_api_Escrow)]))], 2⟩ : St) ∧ ((0 ≤ p) ∧ (p ≤ (p_.Spends.length : Int))) ∧ ((p_.Spends.length : Int) - p).toNat < n ∧ iter n f5 d5 p = r) (((p_.Spends.length : Int) - 0).toNat + 1) (⟨[(2, .ptr 0 0), (3, .ptr 1 0), (5, .int .i64 0)], [(0, .var 4 true (.agg [.int .i64 p_.Number, .sl none 80 true (p_.Spends.map e_api_Spend), .sl none 81 true (p_.Chains.map e_api_Chain), .sl none 5 true (p_.Escrow.map e_api_Escrow)])), (1, .var 4 true (.agg [.int .i64 q.Number, .sl none 80 true (q.Spends.map e_api_Spend), .sl none 81 true (q.Chains.map e_api_Chain), .sl none 5 true (q.Escrow.map e_api_Escrow)]))], 2⟩ : St) sbQ sbQ ⟨0, rfl, ⟨omQ, omQ⟩, (Nat.lt_succ_self _), hM⟩ ?_
          clear hM
          rintro n5 S ⟨p5, rfl, hfa5, hm5, hM⟩
          have hM0 := hM; clear hM; obtain ⟨ag5, hag5, hM⟩ := iter_step hM0 (by omega) hf5; clear hM0
          replace hfa5 := nzQ hfa5
          replace hm5 := nzQ hm5
          have ha5 : addI .i64 p5 1 = p5 + 1 := add_one omQ omQ
          refine spQA ha5 ?_
          refine condC_intro (fun h6 => ?_) (fun h6 => ?_)
          · rw [if_pos h6] at hM
            refine spQA (And.intro ha5 h6) ?_
            have nh6 := nzQ h6
            refine ct_draw 97 10 [47, 48, 49, 50, 51, 52, 53, 54, 55, 56] [] ([[], [0], [], [0, 1, 2], [0, 1, 2, 3], [], [5], [], [5, 6, 7], [5, 6, 7, 8]] ++ [List.range 10, List.range 11]) [] (by kernel_rfl) (by exact alQ) ?_
            refine spQA ha5 ?_
            refine hbindC_intro omQ ?_
            have he7 := fun d => elt_mp (l := p_.Spends) (f := e_api_Spend) (i := p5) omQ d
            refine spQA (And.intro ha5 he7) ?_
            refine hbindC_intro omQ ?_
            have he8 := fun d => elt_mp (l := q.Spends) (f := e_api_Spend) (i := p5) omQ d
            refine spQA (And.intro ha5 (And.intro he7 he8)) ?_
            have hM0 := hM; clear hM; obtain ⟨x9, hx10, hM⟩ := letk_opn hM0; clear hM0
            have hcx9 := specieref32_Same_ok  (gt p_.Spends p5) (gt q.Spends p5) 
            rw [← hx10] at hcx9
            refine callC_give hcx9 (clQA (And.intro ha5 (And.intro he7 he8))) (clQA (And.intro ha5 (And.intro he7 he8))) (fun hw11 => ?_)
            replace hw11 := nzQ hw11
            refine spQA (And.intro ha5 (And.intro he7 he8)) ?_
            refine condC_intro (fun h12 => ?_) (fun h12 => ?_)
            · rw [if_pos h12] at hM
              refine spQA (And.intro ha5 (And.intro he7 (And.intro he8 h12))) ?_
              have nh12 := nzQ h12
              subst hM
              exact retC_view (lfQA (And.intro ha5 (And.intro he7 (And.intro he8 (And.intro h1 (And.intro h2 (And.intro h3 (And.intro h4 (And.intro h6 h12)))))))))
            · rw [if_neg (ne_true h12)] at hM
              refine spQA (And.intro ha5 (And.intro he7 (And.intro he8 h12))) ?_
              have nh12 := nzQ h12
              refine lp_intro (n5 - 1) (⟨[(2, .ptr 0 0), (3, .ptr 1 0), (5, .int .i64 (p5 + 1))], [(0, .var 4 true (.agg [.int .i64 p_.Number, .sl none 80 true (p_.Spends.map e_api_Spend), .sl none 81 true (p_.Chains.map e_api_Chain), .sl none 5 true (p_.Escrow.map e_api_Escrow)])), (1, .var 4 true (.agg [.int .i64 q.Number, .sl none 80 true (q.Spends.map e_api_Spend), .sl none 81 true (q.Chains.map e_api_Chain), .sl none 5 true (q.Escrow.map e_api_Escrow)]))], 2⟩ : St) (by omega) sbQ sbQ ⟨(p5 + 1), rfl, ⟨omQ, omQ⟩, omQ, iter_again hM hag5⟩
          · rw [if_neg (ne_true h6)] at hM
            refine spQA (And.intro ha5 h6) ?_
            have nh6 := nzQ h6
            have hM0 := hM; clear hM; obtain ⟨f13, d13, hf13, hd13, hM⟩ := iter_opn hM0; clear hM0
            refine ct_loop (fun n S => ∃ p : Int, S = (⟨[(2, .ptr 0 0), (3, .ptr 1 0), (6, .int .i64 p)], [(0, .var 4 true (.agg [.int .i64 p_.Number, .sl none 80 true (p_.Spends.map e_api_Spend), .sl none 81 true (p_.Chains.map e_api_Chain), .sl none 5 true (p_.Escrow.map e_api_Escrow)])), (1, .var 4 true (.agg [.int .i64 q.Number, .sl none 80 true (q.Spends.map e_api_Spend), .sl none 81 true (q.Chains.map e_api_Chain), .sl none 5 true (q.Escrow.map e_api_Escrow)]))], 2⟩ : St) ∧ ((0 ≤ p) ∧ (p ≤ (p_.Chains.length : Int))) ∧ ((p_.Chains.length : Int) - p).toNat < n ∧ iter n f13 d13 p = r) (((p_.Chains.length : Int) - 0).toNat + 1) (⟨[(2, .ptr 0 0), (3, .ptr 1 0), (6, .int .i64 0)], [(0, .var 4 true (.agg [.int .i64 p_.Number, .sl none 80 true (p_.Spends.map e_api_Spend), .sl none 81 true (p_.Chains.map e_api_Chain), .sl none 5 true (p_.Escrow.map e_api_Escrow)])), (1, .var 4 true (.agg [.int .i64 q.Number, .sl none 80 true (q.Spends.map e_api_Spend), .sl none 81 true (q.Chains.map e_api_Chain), .sl none 5 true (q.Escrow.map e_api_Escrow)]))], 2⟩ : St) sbQ sbQ ⟨0, rfl, ⟨omQ, omQ⟩, (Nat.lt_succ_self _), hM⟩ ?_
            clear hM
            rintro n13 S ⟨p13, rfl, hfa13, hm13, hM⟩
            have hM0 := hM; clear hM; obtain ⟨ag13, hag13, hM⟩ := iter_step hM0 (by omega) hf13; clear hM0
            replace hfa13 := nzQ hfa13
            replace hm13 := nzQ hm13
            have ha13 : addI .i64 p13 1 = p13 + 1 := add_one omQ omQ
            refine spQA (And.intro ha5 ha13) ?_
            refine condC_intro (fun h14 => ?_) (fun h14 => ?_)
            · rw [if_pos h14] at hM
              refine spQA (And.intro ha5 (And.intro ha13 h14)) ?_
              have nh14 := nzQ h14
              refine ct_draw 97 10 [66, 67, 68, 69, 70, 71, 72, 73, 74, 75] [] ([[], [0], [], [0, 1, 2], [0, 1, 2, 3], [], [5], [], [5, 6, 7], [5, 6, 7, 8]] ++ [List.range 10, List.range 11]) [] (by kernel_rfl) (by exact alQ) ?_
              refine spQA (And.intro ha5 ha13) ?_
              refine hbindC_intro omQ ?_
              have he15 := fun d => elt_mp (l := p_.Chains) (f := e_api_Chain) (i := p13) omQ d
              refine spQA (And.intro ha5 (And.intro ha13 he15)) ?_
              refine hbindC_intro omQ ?_
              have he16 := fun d => elt_mp (l := q.Chains) (f := e_api_Chain) (i := p13) omQ d
              refine spQA (And.intro ha5 (And.intro ha13 (And.intro he15 he16))) ?_
              have hM0 := hM; clear hM; obtain ⟨x17, hx18, hM⟩ := letk_opn hM0; clear hM0
              have hcx17 := specieref35_Same_ok  (gt p_.Chains p13) (gt q.Chains p13) (by (first | exact hp0 _ (by omega) (by omega) | exact hp1 _ (by omega) (by omega))) (by (first | exact hp0 _ (by omega) (by omega) | exact hp1 _ (by omega) (by omega)))
              rw [← hx18] at hcx17
              refine callC_give hcx17 (clQA (And.intro ha5 (And.intro ha13 (And.intro he15 he16)))) (clQA (And.intro ha5 (And.intro ha13 (And.intro he15 he16)))) (fun hw19 => ?_)
              replace hw19 := nzQ hw19
              refine spQA (And.intro ha5 (And.intro ha13 (And.intro he15 he16))) ?_
              refine condC_intro (fun h20 => ?_) (fun h20 => ?_)
              · rw [if_pos h20] at hM
                refine spQA (And.intro ha5 (And.intro ha13 (And.intro he15 (And.intro he16 h20)))) ?_
                have nh20 := nzQ h20
                subst hM
                exact retC_view (lfQA (And.intro ha5 (And.intro ha13 (And.intro he15 (And.intro he16 (And.intro h1 (And.intro h2 (And.intro h3 (And.intro h4 (And.intro h6 (And.intro h14 h20)))))))))))
              · rw [if_neg (ne_true h20)] at hM
                refine spQA (And.intro ha5 (And.intro ha13 (And.intro he15 (And.intro he16 h20)))) ?_
                have nh20 := nzQ h20
                refine lp_intro (n13 - 1) (⟨[(2, .ptr 0 0), (3, .ptr 1 0), (6, .int .i64 (p13 + 1))], [(0, .var 4 true (.agg [.int .i64 p_.Number, .sl none 80 true (p_.Spends.map e_api_Spend), .sl none 81 true (p_.Chains.map e_api_Chain), .sl none 5 true (p_.Escrow.map e_api_Escrow)])), (1, .var 4 true (.agg [.int .i64 q.Number, .sl none 80 true (q.Spends.map e_api_Spend), .sl none 81 true (q.Chains.map e_api_Chain), .sl none 5 true (q.Escrow.map e_api_Escrow)]))], 2⟩ : St) (by omega) sbQ sbQ ⟨(p13 + 1), rfl, ⟨omQ, omQ⟩, omQ, iter_again hM hag13⟩
            · rw [if_neg (ne_true h14)] at hM
              refine spQA (And.intro ha5 (And.intro ha13 h14)) ?_
              have nh14 := nzQ h14
              have hM0 := hM; clear hM; obtain ⟨f21, d21, hf21, hd21, hM⟩ := iter_opn hM0; clear hM0
              refine ct_loop (fun n S => ∃ p : Int, S = (⟨[(2, .ptr 0 0), (3, .ptr 1 0), (7, .int .i64 p)], [(0, .var 4 true (.agg [.int .i64 p_.Number, .sl none 80 true (p_.Spends.map e_api_Spend), .sl none 81 true (p_.Chains.map e_api_Chain), .sl none 5 true (p_.Escrow.map e_api_Escrow)])), (1, .var 4 true (.agg [.int .i64 q.Number, .sl none 80 true (q.Spends.map e_api_Spend), .sl none 81 true (q.Chains.map e_api_Chain), .sl none 5 true (q.Escrow.map e_api_Escrow)]))], 2⟩ : St) ∧ ((0 ≤ p) ∧ (p ≤ (p_.Escrow.length : Int))) ∧ ((p_.Escrow.length : Int) - p).toNat < n ∧ iter n f21 d21 p = r) (((p_.Escrow.length : Int) - 0).toNat + 1) (⟨[(2, .ptr 0 0), (3, .ptr 1 0), (7, .int .i64 0)], [(0, .var 4 true (.agg [.int .i64 p_.Number, .sl none 80 true (p_.Spends.map e_api_Spend), .sl none 81 true (p_.Chains.map e_api_Chain), .sl none 5 true (p_.Escrow.map e_api_Escrow)])), (1, .var 4 true (.agg [.int .i64 q.Number, .sl none 80 true (q.Spends.map e_api_Spend), .sl none 81 true (q.Chains.map e_api_Chain), .sl none 5 true (q.Escrow.map e_api_Escrow)]))], 2⟩ : St) sbQ sbQ ⟨0, rfl, ⟨omQ, omQ⟩, (Nat.lt_succ_self _), hM⟩ ?_
              clear hM
              rintro n21 S ⟨p21, rfl, hfa21, hm21, hM⟩
              have hM0 := hM; clear hM; obtain ⟨ag21, hag21, hM⟩ := iter_step hM0 (by omega) hf21; clear hM0
              replace hfa21 := nzQ hfa21
              replace hm21 := nzQ hm21
              have ha21 : addI .i64 p21 1 = p21 + 1 := add_one omQ omQ
              refine spQA (And.intro ha5 (And.intro ha13 ha21)) ?_
              refine condC_intro (fun h22 => ?_) (fun h22 => ?_)
              · rw [if_pos h22] at hM
                refine spQA (And.intro ha5 (And.intro ha13 (And.intro ha21 h22))) ?_
                have nh22 := nzQ h22
                refine ct_draw 97 10 [85, 86, 87, 88, 89, 90, 91, 92, 93, 94] [] ([[], [0], [], [0, 1, 2], [0, 1, 2, 3], [], [5], [], [5, 6, 7], [5, 6, 7, 8]] ++ [List.range 10, List.range 11]) [] (by kernel_rfl) (by exact alQ) ?_
                refine spQA (And.intro ha5 (And.intro ha13 ha21)) ?_
                refine hbindC_intro omQ ?_
                have he23 := fun d => elt_mp (l := p_.Escrow) (f := e_api_Escrow) (i := p21) omQ d
                refine spQA (And.intro ha5 (And.intro ha13 (And.intro ha21 he23))) ?_
                refine hbindC_intro omQ ?_
                have he24 := fun d => elt_mp (l := q.Escrow) (f := e_api_Escrow) (i := p21) omQ d
                refine spQA (And.intro ha5 (And.intro ha13 (And.intro ha21 (And.intro he23 he24)))) ?_
                have hM0 := hM; clear hM; obtain ⟨x25, hx26, hM⟩ := letk_opn hM0; clear hM0
                have hcx25 := specieref36_Same_ok  (gt p_.Escrow p21) (gt q.Escrow p21) 
                rw [← hx26] at hcx25
                refine callC_give hcx25 (clQA (And.intro ha5 (And.intro ha13 (And.intro ha21 (And.intro he23 he24))))) (clQA (And.intro ha5 (And.intro ha13 (And.intro ha21 (And.intro he23 he24))))) (fun hw27 => ?_)
                replace hw27 := nzQ hw27
                refine spQA (And.intro ha5 (And.intro ha13 (And.intro ha21 (And.intro he23 he24)))) ?_
                refine condC_intro (fun h28 => ?_) (fun h28 => ?_)
                · rw [if_pos h28] at hM
                  refine spQA (And.intro ha5 (And.intro ha13 (And.intro ha21 (And.intro he23 (And.intro he24 h28))))) ?_
                  have nh28 := nzQ h28
                  subst hM
                  exact retC_view (lfQA (And.intro ha5 (And.intro ha13 (And.intro ha21 (And.intro he23 (And.intro he24 (And.intro h1 (And.intro h2 (And.intro h3 (And.intro h4 (And.intro h6 (And.intro h14 (And.intro h22 h28)))))))))))))
                · rw [if_neg (ne_true h28)] at hM
                  refine spQA (And.intro ha5 (And.intro ha13 (And.intro ha21 (And.intro he23 (And.intro he24 h28))))) ?_
                  have nh28 := nzQ h28
                  refine lp_intro (n21 - 1) (⟨[(2, .ptr 0 0), (3, .ptr 1 0), (7, .int .i64 (p21 + 1))], [(0, .var 4 true (.agg [.int .i64 p_.Number, .sl none 80 true (p_.Spends.map e_api_Spend), .sl none 81 true (p_.Chains.map e_api_Chain), .sl none 5 true (p_.Escrow.map e_api_Escrow)])), (1, .var 4 true (.agg [.int .i64 q.Number, .sl none 80 true (q.Spends.map e_api_Spend), .sl none 81 true (q.Chains.map e_api_Chain), .sl none 5 true (q.Escrow.map e_api_Escrow)]))], 2⟩ : St) (by omega) sbQ sbQ ⟨(p21 + 1), rfl, ⟨omQ, omQ⟩, omQ, iter_again hM hag21⟩
              · rw [if_neg (ne_true h22)] at hM
                refine spQA (And.intro ha5 (And.intro ha13 (And.intro ha21 h22))) ?_
                have nh22 := nzQ h22
                subst hM
                exact retC_view (lfQA (And.intro ha5 (And.intro ha13 (And.intro ha21 (And.intro h1 (And.intro h2 (And.intro h3 (And.intro h4 (And.intro h6 (And.intro h14 h22))))))))))
      · rw [if_pos h3] at hM
        refine spQA h3 ?_
        have nh3 := nzQ h3
        subst hM
        exact retC_view (lfQA (And.intro h1 (And.intro h2 h3)))
    · rw [if_pos h2] at hM
      refine spQA h2 ?_
      have nh2 := nzQ h2
      subst hM
      exact retC_view (lfQA (And.intro h1 h2))
  · rw [if_pos h1] at hM
    refine spQA h1 ?_
    have nh1 := nzQ h1
    subst hM
    exact retC_view (lfQA h1)
set_option maxHeartbeats 2000000 in
set_option maxRecDepth 100000 in
theorem specieref47_Same_ok   (a_ : S_api_Merchant) (b : S_api_Merchant) (hp0 : okQ a_.Queue) (hp1 : okQ b.Queue) : CallOk En 14 [.agg (.int .u8 (gt a_.Name 0) :: .int .u8 (gt a_.Name 1) :: .int .u8 (gt a_.Name 2) :: .int .u8 (gt a_.Name 3) :: .int .u8 (gt a_.Name 4) :: .int .u8 (gt a_.Name 5) :: .int .u8 (gt a_.Name 6) :: .int .u8 (gt a_.Name 7) :: .int .u8 (gt a_.Name 8) :: .int .u8 (gt a_.Name 9) :: .int .u8 (gt a_.Name 10) :: .int .u8 (gt a_.Name 11) :: .int .u8 (gt a_.Name 12) :: .int .u8 (gt a_.Name 13) :: .int .u8 (gt a_.Name 14) :: .int .u8 (gt a_.Name 15) :: .int .u8 (gt a_.Name 16) :: .int .u8 (gt a_.Name 17) :: .int .u8 (gt a_.Name 18) :: .int .u8 (gt a_.Name 19) :: .int .u8 (gt a_.Name 20) :: .int .u8 (gt a_.Name 21) :: .int .u8 (gt a_.Name 22) :: .int .u8 (gt a_.Name 23) :: .int .u8 (gt a_.Name 24) :: .int .u8 (gt a_.Name 25) :: .int .u8 (gt a_.Name 26) :: .int .u8 (gt a_.Name 27) :: .int .u8 (gt a_.Name 28) :: .int .u8 (gt a_.Name 29) :: .int .u8 (gt a_.Name 30) :: .int .u8 (gt a_.Name 31) :: .sl none 3 true (a_.Policy.Rules.map e_api_Rule) :: .sl none 35 true (a_.Open.map e_api_Invoice) :: .int .i64 a_.Next :: .sl none 4 true (a_.Queue.map e_api_Payment) :: .sl none 35 true (a_.Paid.map e_api_Invoice) :: .int .i64 a_.Total :: .sl none 1 false (a_.Blocked.map (V.int .i64)) :: .int .i64 a_.Now :: []), .agg (.int .u8 (gt b.Name 0) :: .int .u8 (gt b.Name 1) :: .int .u8 (gt b.Name 2) :: .int .u8 (gt b.Name 3) :: .int .u8 (gt b.Name 4) :: .int .u8 (gt b.Name 5) :: .int .u8 (gt b.Name 6) :: .int .u8 (gt b.Name 7) :: .int .u8 (gt b.Name 8) :: .int .u8 (gt b.Name 9) :: .int .u8 (gt b.Name 10) :: .int .u8 (gt b.Name 11) :: .int .u8 (gt b.Name 12) :: .int .u8 (gt b.Name 13) :: .int .u8 (gt b.Name 14) :: .int .u8 (gt b.Name 15) :: .int .u8 (gt b.Name 16) :: .int .u8 (gt b.Name 17) :: .int .u8 (gt b.Name 18) :: .int .u8 (gt b.Name 19) :: .int .u8 (gt b.Name 20) :: .int .u8 (gt b.Name 21) :: .int .u8 (gt b.Name 22) :: .int .u8 (gt b.Name 23) :: .int .u8 (gt b.Name 24) :: .int .u8 (gt b.Name 25) :: .int .u8 (gt b.Name 26) :: .int .u8 (gt b.Name 27) :: .int .u8 (gt b.Name 28) :: .int .u8 (gt b.Name 29) :: .int .u8 (gt b.Name 30) :: .int .u8 (gt b.Name 31) :: .sl none 3 true (b.Policy.Rules.map e_api_Rule) :: .sl none 35 true (b.Open.map e_api_Invoice) :: .int .i64 b.Next :: .sl none 4 true (b.Queue.map e_api_Payment) :: .sl none 35 true (b.Paid.map e_api_Invoice) :: .int .i64 b.Total :: .sl none 1 false (b.Blocked.map (V.int .i64)) :: .int .i64 b.Now :: [])] (.bool (specieref47_Same a_ b)) [] := by
  generalize hM : specieref47_Same a_ b = r
  rw [specieref47_Same.eq_1] at hM
  refine enterV En_ok En_mo noJ Try.func14 rfl Try.ntmps14 (by kernel_rfl) fun hw => ct_start ?_
  refine spQ ?_
  replace hw := nzQ hw
  refine guardC_f (fun h1 => ?_) (fun h1 => ?_)
  · have kh1 : (!(q_arr23 (a_.Name) (b.Name))) = false := h1
    rw [if_neg (ne_true kh1)] at hM
    refine spQA h1 ?_
    have nh1 := nzQ kh1
    refine guardC_f (fun h2 => ?_) (fun h2 => ?_)
    · rw [if_neg (ne_true h2)] at hM
      refine spQA h2 ?_
      have nh2 := nzQ h2
      refine guardC_f (fun h3 => ?_) (fun h3 => ?_)
      · rw [if_neg (ne_true h3)] at hM
        refine spQA h3 ?_
        have nh3 := nzQ h3
        refine guardC_f (fun h4 => ?_) (fun h4 => ?_)
        · rw [if_neg (ne_true h4)] at hM
          refine spQA h4 ?_
          have nh4 := nzQ h4
          refine guardC_f (fun h5 => ?_) (fun h5 => ?_)
          · rw [if_neg (ne_true h5)] at hM
            refine spQA h5 ?_
            have nh5 := nzQ h5
            refine guardC_f (fun h6 => ?_) (fun h6 => ?_)
            · rw [if_neg (ne_true h6)] at hM
              refine spQA h6 ?_
              have nh6 := nzQ h6
              refine guardC_f (fun h7 => ?_) (fun h7 => ?_)
              · rw [if_neg (ne_true h7)] at hM
                refine spQA h7 ?_
                have nh7 := nzQ h7
                have hM0 := hM; clear hM; obtain ⟨x8, hx9, hM⟩ := letk_opn hM0; clear hM0
                have hcx8 := specieref47_invoices_ok none none (a_.Open) (b.Open) 
                rw [← hx9] at hcx8
                refine callC_give hcx8 clQ clQ (fun hw10 => ?_)
                replace hw10 := nzQ hw10
                refine spQ ?_
                refine guardC_f (fun h11 => ?_) (fun h11 => ?_)
                · rw [if_neg (ne_true h11)] at hM
                  refine spQA h11 ?_
                  have nh11 := nzQ h11
                  have hM0 := hM; clear hM; obtain ⟨x12, hx13, hM⟩ := letk_opn hM0; clear hM0
                  have hcx12 := specieref47_invoices_ok none none (a_.Paid) (b.Paid) 
                  rw [← hx13] at hcx12
                  refine callC_give hcx12 clQ clQ (fun hw14 => ?_)
                  replace hw14 := nzQ hw14
                  refine spQ ?_
                  refine condC_intro (fun h15 => ?_) (fun h15 => ?_)
                  · rw [if_pos h15] at hM
                    refine spQA h15 ?_
                    have nh15 := nzQ h15
                    subst hM
                    exact retC_view (lfQA (And.intro h1 (And.intro h2 (And.intro h3 (And.intro h4 (And.intro h5 (And.intro h6 (And.intro h7 (And.intro h11 h15)))))))))
                  · rw [if_neg (ne_true h15)] at hM
                    refine spQA h15 ?_
                    have nh15 := nzQ h15
                    have hM0 := hM; clear hM; obtain ⟨f16, d16, hf16, hd16, hM⟩ := iter_opn hM0; clear hM0
                    refine ct_loop (fun n S => ∃ p : Int, S = (⟨[(2, .ptr 0 0), (3, .ptr 1 0), (5, .int .i64 p)], [(0, .var 40 true (.agg (.int .u8 (gt a_.Name 0) :: .int .u8 (gt a_.Name 1) :: .int .u8 (gt a_.Name 2) :: .int .u8 (gt a_.Name 3) :: .int .u8 (gt a_.Name 4) :: .int .u8 (gt a_.Name 5) :: .int .u8 (gt a_.Name 6) :: .int .u8 (gt a_.Name 7) :: .int .u8 (gt a_.Name 8) :: .int .u8 (gt a_.Name 9) :: .int .u8 (gt a_.Name 10) :: .int .u8 (gt a_.Name 11) :: .int .u8 (gt a_.Name 12) :: .int .u8 (gt a_.Name 13) :: .int .u8 (gt a_.Name 14) :: .int .u8 (gt a_.Name 15) :: .int .u8 (gt a_.Name 16) :: .int .u8 (gt a_.Name 17) :: .int .u8 (gt a_.Name 18) :: .int .u8 (gt a_.Name 19) :: .int .u8 (gt a_.Name 20) :: .int .u8 (gt a_.Name 21) :: .int .u8 (gt a_.Name 22) :: .int .u8 (gt a_.Name 23) :: .int .u8 (gt a_.Name 24) :: .int .u8 (gt a_.Name 25) :: .int .u8 (gt a_.Name 26) :: .int .u8 (gt a_.Name 27) :: .int .u8 (gt a_.Name 28) :: .int .u8 (gt a_.Name 29) :: .int .u8 (gt a_.Name 30) :: .int .u8 (gt a_.Name 31) :: .sl none 3 true (a_.Policy.Rules.map e_api_Rule) :: .sl none 35 true (a_.Open.map e_api_Invoice) :: .int .i64 a_.Next :: .sl none 4 true (a_.Queue.map e_api_Payment) :: .sl none 35 true (a_.Paid.map e_api_Invoice) :: .int .i64 a_.Total :: .sl none 1 false (a_.Blocked.map (V.int .i64)) :: .int .i64 a_.Now :: []))), (1, .var 40 true (.agg (.int .u8 (gt b.Name 0) :: .int .u8 (gt b.Name 1) :: .int .u8 (gt b.Name 2) :: .int .u8 (gt b.Name 3) :: .int .u8 (gt b.Name 4) :: .int .u8 (gt b.Name 5) :: .int .u8 (gt b.Name 6) :: .int .u8 (gt b.Name 7) :: .int .u8 (gt b.Name 8) :: .int .u8 (gt b.Name 9) :: .int .u8 (gt b.Name 10) :: .int .u8 (gt b.Name 11) :: .int .u8 (gt b.Name 12) :: .int .u8 (gt b.Name 13) :: .int .u8 (gt b.Name 14) :: .int .u8 (gt b.Name 15) :: .int .u8 (gt b.Name 16) :: .int .u8 (gt b.Name 17) :: .int .u8 (gt b.Name 18) :: .int .u8 (gt b.Name 19) :: .int .u8 (gt b.Name 20) :: .int .u8 (gt b.Name 21) :: .int .u8 (gt b.Name 22) :: .int .u8 (gt b.Name 23) :: .int .u8 (gt b.Name 24) :: .int .u8 (gt b.Name 25) :: .int .u8 (gt b.Name 26) :: .int .u8 (gt b.Name 27) :: .int .u8 (gt b.Name 28) :: .int .u8 (gt b.Name 29) :: .int .u8 (gt b.Name 30) :: .int .u8 (gt b.Name 31) :: .sl none 3 true (b.Policy.Rules.map e_api_Rule) :: .sl none 35 true (b.Open.map e_api_Invoice) :: .int .i64 b.Next :: .sl none 4 true (b.Queue.map e_api_Payment) :: .sl none 35 true (b.Paid.map e_api_Invoice) :: .int .i64 b.Total :: .sl none 1 false (b.Blocked.map (V.int .i64)) :: .int .i64 b.Now :: [])))], 2⟩ : St) ∧ ((0 ≤ p) ∧ (p ≤ (a_.Policy.Rules.length : Int))) ∧ ((a_.Policy.Rules.length : Int) - p).toNat < n ∧ iter n f16 d16 p = r) (((a_.Policy.Rules.length : Int) - 0).toNat + 1) (⟨[(2, .ptr 0 0), (3, .ptr 1 0), (5, .int .i64 0)], [(0, .var 40 true (.agg (.int .u8 (gt a_.Name 0) :: .int .u8 (gt a_.Name 1) :: .int .u8 (gt a_.Name 2) :: .int .u8 (gt a_.Name 3) :: .int .u8 (gt a_.Name 4) :: .int .u8 (gt a_.Name 5) :: .int .u8 (gt a_.Name 6) :: .int .u8 (gt a_.Name 7) :: .int .u8 (gt a_.Name 8) :: .int .u8 (gt a_.Name 9) :: .int .u8 (gt a_.Name 10) :: .int .u8 (gt a_.Name 11) :: .int .u8 (gt a_.Name 12) :: .int .u8 (gt a_.Name 13) :: .int .u8 (gt a_.Name 14) :: .int .u8 (gt a_.Name 15) :: .int .u8 (gt a_.Name 16) :: .int .u8 (gt a_.Name 17) :: .int .u8 (gt a_.Name 18) :: .int .u8 (gt a_.Name 19) :: .int .u8 (gt a_.Name 20) :: .int .u8 (gt a_.Name 21) :: .int .u8 (gt a_.Name 22) :: .int .u8 (gt a_.Name 23) :: .int .u8 (gt a_.Name 24) :: .int .u8 (gt a_.Name 25) :: .int .u8 (gt a_.Name 26) :: .int .u8 (gt a_.Name 27) :: .int .u8 (gt a_.Name 28) :: .int .u8 (gt a_.Name 29) :: .int .u8 (gt a_.Name 30) :: .int .u8 (gt a_.Name 31) :: .sl none 3 true (a_.Policy.Rules.map e_api_Rule) :: .sl none 35 true (a_.Open.map e_api_Invoice) :: .int .i64 a_.Next :: .sl none 4 true (a_.Queue.map e_api_Payment) :: .sl none 35 true (a_.Paid.map e_api_Invoice) :: .int .i64 a_.Total :: .sl none 1 false (a_.Blocked.map (V.int .i64)) :: .int .i64 a_.Now :: []))), (1, .var 40 true (.agg (.int .u8 (gt b.Name 0) :: .int .u8 (gt b.Name 1) :: .int .u8 (gt b.Name 2) :: .int .u8 (gt b.Name 3) :: .int .u8 (gt b.Name 4) :: .int .u8 (gt b.Name 5) :: .int .u8 (gt b.Name 6) :: .int .u8 (gt b.Name 7) :: .int .u8 (gt b.Name 8) :: .int .u8 (gt b.Name 9) :: .int .u8 (gt b.Name 10) :: .int .u8 (gt b.Name 11) :: .int .u8 (gt b.Name 12) :: .int .u8 (gt b.Name 13) :: .int .u8 (gt b.Name 14) :: .int .u8 (gt b.Name 15) :: .int .u8 (gt b.Name 16) :: .int .u8 (gt b.Name 17) :: .int .u8 (gt b.Name 18) :: .int .u8 (gt b.Name 19) :: .int .u8 (gt b.Name 20) :: .int .u8 (gt b.Name 21) :: .int .u8 (gt b.Name 22) :: .int .u8 (gt b.Name 23) :: .int .u8 (gt b.Name 24) :: .int .u8 (gt b.Name 25) :: .int .u8 (gt b.Name 26) :: .int .u8 (gt b.Name 27) :: .int .u8 (gt b.Name 28) :: .int .u8 (gt b.Name 29) :: .int .u8 (gt b.Name 30) :: .int .u8 (gt b.Name 31) :: .sl none 3 true (b.Policy.Rules.map e_api_Rule) :: .sl none 35 true (b.Open.map e_api_Invoice) :: .int .i64 b.Next :: .sl none 4 true (b.Queue.map e_api_Payment) :: .sl none 35 true (b.Paid.map e_api_Invoice) :: .int .i64 b.Total :: .sl none 1 false (b.Blocked.map (V.int .i64)) :: .int .i64 b.Now :: [])))], 2⟩ : St) sbQ sbQ ⟨0, rfl, ⟨omQ, omQ⟩, (Nat.lt_succ_self _), hM⟩ ?_
                    clear hM
                    rintro n16 S ⟨p16, rfl, hfa16, hm16, hM⟩
                    have hM0 := hM; clear hM; obtain ⟨ag16, hag16, hM⟩ := iter_step hM0 (by omega) hf16; clear hM0
                    replace hfa16 := nzQ hfa16
                    replace hm16 := nzQ hm16
                    have ha16 : addI .i64 p16 1 = p16 + 1 := add_one omQ omQ
                    refine spQA ha16 ?_
                    refine condC_intro (fun h17 => ?_) (fun h17 => ?_)
                    · rw [if_pos h17] at hM
                      refine spQA (And.intro ha16 h17) ?_
                      have nh17 := nzQ h17
                      refine ct_draw 137 12 [87, 88, 89, 90, 91, 92, 93, 94, 95, 96, 97, 98] [] ([[], [0], [0, 1], [], [0, 1, 2, 3], [0, 1, 2, 3, 4], [], [6], [6, 7], [], [6, 7, 8, 9], [6, 7, 8, 9, 10]] ++ [List.range 12]) [] (by kernel_rfl) (by exact alQ) ?_
                      refine spQA ha16 ?_
                      refine hbindC_intro omQ ?_
                      have he18 := fun d => elt_mp (l := a_.Policy.Rules) (f := e_api_Rule) (i := p16) omQ d
                      refine spQA (And.intro ha16 he18) ?_
                      refine hbindC_intro omQ ?_
                      have he19 := fun d => elt_mp (l := b.Policy.Rules) (f := e_api_Rule) (i := p16) omQ d
                      refine spQA (And.intro ha16 (And.intro he18 he19)) ?_
                      refine condC_intro (fun h20 => ?_) (fun h20 => ?_)
                      · have kh20 : (!(q_api_Rule (gt a_.Policy.Rules p16) (gt b.Policy.Rules p16))) = true := h20
                        rw [if_pos kh20] at hM
                        refine spQA (And.intro ha16 (And.intro he18 (And.intro he19 h20))) ?_
                        have nh20 := nzQ kh20
                        subst hM
                        exact retC_view (lfQA (And.intro ha16 (And.intro he18 (And.intro he19 (And.intro h1 (And.intro h2 (And.intro h3 (And.intro h4 (And.intro h5 (And.intro h6 (And.intro h7 (And.intro h11 (And.intro h15 (And.intro h17 h20))))))))))))))
                      · have kh20 : (!(q_api_Rule (gt a_.Policy.Rules p16) (gt b.Policy.Rules p16))) = false := h20
                        rw [if_neg (ne_true kh20)] at hM
                        refine spQA (And.intro ha16 (And.intro he18 (And.intro he19 h20))) ?_
                        have nh20 := nzQ kh20
                        refine lp_intro (n16 - 1) (⟨[(2, .ptr 0 0), (3, .ptr 1 0), (5, .int .i64 (p16 + 1))], [(0, .var 40 true (.agg (.int .u8 (gt a_.Name 0) :: .int .u8 (gt a_.Name 1) :: .int .u8 (gt a_.Name 2) :: .int .u8 (gt a_.Name 3) :: .int .u8 (gt a_.Name 4) :: .int .u8 (gt a_.Name 5) :: .int .u8 (gt a_.Name 6) :: .int .u8 (gt a_.Name 7) :: .int .u8 (gt a_.Name 8) :: .int .u8 (gt a_.Name 9) :: .int .u8 (gt a_.Name 10) :: .int .u8 (gt a_.Name 11) :: .int .u8 (gt a_.Name 12) :: .int .u8 (gt a_.Name 13) :: .int .u8 (gt a_.Name 14) :: .int .u8 (gt a_.Name 15) :: .int .u8 (gt a_.Name 16) :: .int .u8 (gt a_.Name 17) :: .int .u8 (gt a_.Name 18) :: .int .u8 (gt a_.Name 19) :: .int .u8 (gt a_.Name 20) :: .int .u8 (gt a_.Name 21) :: .int .u8 (gt a_.Name 22) :: .int .u8 (gt a_.Name 23) :: .int .u8 (gt a_.Name 24) :: .int .u8 (gt a_.Name 25) :: .int .u8 (gt a_.Name 26) :: .int .u8 (gt a_.Name 27) :: .int .u8 (gt a_.Name 28) :: .int .u8 (gt a_.Name 29) :: .int .u8 (gt a_.Name 30) :: .int .u8 (gt a_.Name 31) :: .sl none 3 true (a_.Policy.Rules.map e_api_Rule) :: .sl none 35 true (a_.Open.map e_api_Invoice) :: .int .i64 a_.Next :: .sl none 4 true (a_.Queue.map e_api_Payment) :: .sl none 35 true (a_.Paid.map e_api_Invoice) :: .int .i64 a_.Total :: .sl none 1 false (a_.Blocked.map (V.int .i64)) :: .int .i64 a_.Now :: []))), (1, .var 40 true (.agg (.int .u8 (gt b.Name 0) :: .int .u8 (gt b.Name 1) :: .int .u8 (gt b.Name 2) :: .int .u8 (gt b.Name 3) :: .int .u8 (gt b.Name 4) :: .int .u8 (gt b.Name 5) :: .int .u8 (gt b.Name 6) :: .int .u8 (gt b.Name 7) :: .int .u8 (gt b.Name 8) :: .int .u8 (gt b.Name 9) :: .int .u8 (gt b.Name 10) :: .int .u8 (gt b.Name 11) :: .int .u8 (gt b.Name 12) :: .int .u8 (gt b.Name 13) :: .int .u8 (gt b.Name 14) :: .int .u8 (gt b.Name 15) :: .int .u8 (gt b.Name 16) :: .int .u8 (gt b.Name 17) :: .int .u8 (gt b.Name 18) :: .int .u8 (gt b.Name 19) :: .int .u8 (gt b.Name 20) :: .int .u8 (gt b.Name 21) :: .int .u8 (gt b.Name 22) :: .int .u8 (gt b.Name 23) :: .int .u8 (gt b.Name 24) :: .int .u8 (gt b.Name 25) :: .int .u8 (gt b.Name 26) :: .int .u8 (gt b.Name 27) :: .int .u8 (gt b.Name 28) :: .int .u8 (gt b.Name 29) :: .int .u8 (gt b.Name 30) :: .int .u8 (gt b.Name 31) :: .sl none 3 true (b.Policy.Rules.map e_api_Rule) :: .sl none 35 true (b.Open.map e_api_Invoice) :: .int .i64 b.Next :: .sl none 4 true (b.Queue.map e_api_Payment) :: .sl none 35 true (b.Paid.map e_api_Invoice) :: .int .i64 b.Total :: .sl none 1 false (b.Blocked.map (V.int .i64)) :: .int .i64 b.Now :: [])))], 2⟩ : St) (by omega) sbQ sbQ ⟨(p16 + 1), rfl, ⟨omQ, omQ⟩, omQ, iter_again hM hag16⟩
                    · rw [if_neg (ne_true h17)] at hM
                      refine spQA (And.intro ha16 h17) ?_
                      have nh17 := nzQ h17
                      have hM0 := hM; clear hM; obtain ⟨f21, d21, hf21, hd21, hM⟩ := iter_opn hM0; clear hM0
                      refine ct_loop (fun n S => ∃ p : Int, S = (⟨[(2, .ptr 0 0), (3, .ptr 1 0), (6, .int .i64 p)], [(0, .var 40 true (.agg (.int .u8 (gt a_.Name 0) :: .int .u8 (gt a_.Name 1) :: .int .u8 (gt a_.Name 2) :: .int .u8 (gt a_.Name 3) :: .int .u8 (gt a_.Name 4) :: .int .u8 (gt a_.Name 5) :: .int .u8 (gt a_.Name 6) :: .int .u8 (gt a_.Name 7) :: .int .u8 (gt a_.Name 8) :: .int .u8 (gt a_.Name 9) :: .int .u8 (gt a_.Name 10) :: .int .u8 (gt a_.Name 11) :: .int .u8 (gt a_.Name 12) :: .int .u8 (gt a_.Name 13) :: .int .u8 (gt a_.Name 14) :: .int .u8 (gt a_.Name 15) :: .int .u8 (gt a_.Name 16) :: .int .u8 (gt a_.Name 17) :: .int .u8 (gt a_.Name 18) :: .int .u8 (gt a_.Name 19) :: .int .u8 (gt a_.Name 20) :: .int .u8 (gt a_.Name 21) :: .int .u8 (gt a_.Name 22) :: .int .u8 (gt a_.Name 23) :: .int .u8 (gt a_.Name 24) :: .int .u8 (gt a_.Name 25) :: .int .u8 (gt a_.Name 26) :: .int .u8 (gt a_.Name 27) :: .int .u8 (gt a_.Name 28) :: .int .u8 (gt a_.Name 29) :: .int .u8 (gt a_.Name 30) :: .int .u8 (gt a_.Name 31) :: .sl none 3 true (a_.Policy.Rules.map e_api_Rule) :: .sl none 35 true (a_.Open.map e_api_Invoice) :: .int .i64 a_.Next :: .sl none 4 true (a_.Queue.map e_api_Payment) :: .sl none 35 true (a_.Paid.map e_api_Invoice) :: .int .i64 a_.Total :: .sl none 1 false (a_.Blocked.map (V.int .i64)) :: .int .i64 a_.Now :: []))), (1, .var 40 true (.agg (.int .u8 (gt b.Name 0) :: .int .u8 (gt b.Name 1) :: .int .u8 (gt b.Name 2) :: .int .u8 (gt b.Name 3) :: .int .u8 (gt b.Name 4) :: .int .u8 (gt b.Name 5) :: .int .u8 (gt b.Name 6) :: .int .u8 (gt b.Name 7) :: .int .u8 (gt b.Name 8) :: .int .u8 (gt b.Name 9) :: .int .u8 (gt b.Name 10) :: .int .u8 (gt b.Name 11) :: .int .u8 (gt b.Name 12) :: .int .u8 (gt b.Name 13) :: .int .u8 (gt b.Name 14) :: .int .u8 (gt b.Name 15) :: .int .u8 (gt b.Name 16) :: .int .u8 (gt b.Name 17) :: .int .u8 (gt b.Name 18) :: .int .u8 (gt b.Name 19) :: .int .u8 (gt b.Name 20) :: .int .u8 (gt b.Name 21) :: .int .u8 (gt b.Name 22) :: .int .u8 (gt b.Name 23) :: .int .u8 (gt b.Name 24) :: .int .u8 (gt b.Name 25) :: .int .u8 (gt b.Name 26) :: .int .u8 (gt b.Name 27) :: .int .u8 (gt b.Name 28) :: .int .u8 (gt b.Name 29) :: .int .u8 (gt b.Name 30) :: .int .u8 (gt b.Name 31) :: .sl none 3 true (b.Policy.Rules.map e_api_Rule) :: .sl none 35 true (b.Open.map e_api_Invoice) :: .int .i64 b.Next :: .sl none 4 true (b.Queue.map e_api_Payment) :: .sl none 35 true (b.Paid.map e_api_Invoice) :: .int .i64 b.Total :: .sl none 1 false (b.Blocked.map (V.int .i64)) :: .int .i64 b.Now :: [])))], 2⟩ : St) ∧ ((0 ≤ p) ∧ (p ≤ (a_.Queue.length : Int))) ∧ ((a_.Queue.length : Int) - p).toNat < n ∧ iter n f21 d21 p = r) (((a_.Queue.length : Int) - 0).toNat + 1) (⟨[(2, .ptr 0 0), (3, .ptr 1 0), (6, .int .i64 0)], [(0, .var 40 true (.agg (.int .u8 (gt a_.Name 0) :: .int .u8 (gt a_.Name 1) :: .int .u8 (gt a_.Name 2) :: .int .u8 (gt a_.Name 3) :: .int .u8 (gt a_.Name 4) :: .int .u8 (gt a_.Name 5) :: .int .u8 (gt a_.Name 6) :: .int .u8 (gt a_.Name 7) :: .int .u8 (gt a_.Name 8) :: .int .u8 (gt a_.Name 9) :: .int .u8 (gt a_.Name 10) :: .int .u8 (gt a_.Name 11) :: .int .u8 (gt a_.Name 12) :: .int .u8 (gt a_.Name 13) :: .int .u8 (gt a_.Name 14) :: .int .u8 (gt a_.Name 15) :: .int .u8 (gt a_.Name 16) :: .int .u8 (gt a_.Name 17) :: .int .u8 (gt a_.Name 18) :: .int .u8 (gt a_.Name 19) :: .int .u8 (gt a_.Name 20) :: .int .u8 (gt a_.Name 21) :: .int .u8 (gt a_.Name 22) :: .int .u8 (gt a_.Name 23) :: .int .u8 (gt a_.Name 24) :: .int .u8 (gt a_.Name 25) :: .int .u8 (gt a_.Name 26) :: .int .u8 (gt a_.Name 27) :: .int .u8 (gt a_.Name 28) :: .int .u8 (gt a_.Name 29) :: .int .u8 (gt a_.Name 30) :: .int .u8 (gt a_.Name 31) :: .sl none 3 true (a_.Policy.Rules.map e_api_Rule) :: .sl none 35 true (a_.Open.map e_api_Invoice) :: .int .i64 a_.Next :: .sl none 4 true (a_.Queue.map e_api_Payment) :: .sl none 35 true (a_.Paid.map e_api_Invoice) :: .int .i64 a_.Total :: .sl none 1 false (a_.Blocked.map (V.int .i64)) :: .int .i64 a_.Now :: []))), (1, .var 40 true (.agg (.int .u8 (gt b.Name 0) :: .int .u8 (gt b.Name 1) :: .int .u8 (gt b.Name 2) :: .int .u8 (gt b.Name 3) :: .int .u8 (gt b.Name 4) :: .int .u8 (gt b.Name 5) :: .int .u8 (gt b.Name 6) :: .int .u8 (gt b.Name 7) :: .int .u8 (gt b.Name 8) :: .int .u8 (gt b.Name 9) :: .int .u8 (gt b.Name 10) :: .int .u8 (gt b.Name 11) :: .int .u8 (gt b.Name 12) :: .int .u8 (gt b.Name 13) :: .int .u8 (gt b.Name 14) :: .int .u8 (gt b.Name 15) :: .int .u8 (gt b.Name 16) :: .int .u8 (gt b.Name 17) :: .int .u8 (gt b.Name 18) :: .int .u8 (gt b.Name 19) :: .int .u8 (gt b.Name 20) :: .int .u8 (gt b.Name 21) :: .int .u8 (gt b.Name 22) :: .int .u8 (gt b.Name 23) :: .int .u8 (gt b.Name 24) :: .int .u8 (gt b.Name 25) :: .int .u8 (gt b.Name 26) :: .int .u8 (gt b.Name 27) :: .int .u8 (gt b.Name 28) :: .int .u8 (gt b.Name 29) :: .int .u8 (gt b.Name 30) :: .int .u8 (gt b.Name 31) :: .sl none 3 true (b.Policy.Rules.map e_api_Rule) :: .sl none 35 true (b.Open.map e_api_Invoice) :: .int .i64 b.Next :: .sl none 4 true (b.Queue.map e_api_Payment) :: .sl none 35 true (b.Paid.map e_api_Invoice) :: .int .i64 b.Total :: .sl none 1 false (b.Blocked.map (V.int .i64)) :: .int .i64 b.Now :: [])))], 2⟩ : St) sbQ sbQ ⟨0, rfl, ⟨omQ, omQ⟩, (Nat.lt_succ_self _), hM⟩ ?_
                      clear hM
                      rintro n21 S ⟨p21, rfl, hfa21, hm21, hM⟩
                      have hM0 := hM; clear hM; obtain ⟨ag21, hag21, hM⟩ := iter_step hM0 (by omega) hf21; clear hM0
                      replace hfa21 := nzQ hfa21
                      replace hm21 := nzQ hm21
                      have ha21 : addI .i64 p21 1 = p21 + 1 := add_one omQ omQ
                      refine spQA (And.intro ha16 ha21) ?_
                      refine condC_intro (fun h22 => ?_) (fun h22 => ?_)
                      · rw [if_pos h22] at hM
                        refine spQA (And.intro ha16 (And.intro ha21 h22)) ?_
                        have nh22 := nzQ h22
                        refine ct_draw 137 10 [107, 108, 109, 110, 111, 112, 113, 114, 115, 116] [] ([[], [0], [], [0, 1, 2], [0, 1, 2, 3], [], [5], [], [5, 6, 7], [5, 6, 7, 8]] ++ [List.range 10, List.range 11]) [] (by kernel_rfl) (by exact alQ) ?_
                        refine spQA (And.intro ha16 ha21) ?_
                        refine hbindC_intro omQ ?_
                        have he23 := fun d => elt_mp (l := a_.Queue) (f := e_api_Payment) (i := p21) omQ d
                        refine spQA (And.intro ha16 (And.intro ha21 he23)) ?_
                        refine hbindC_intro omQ ?_
                        have he24 := fun d => elt_mp (l := b.Queue) (f := e_api_Payment) (i := p21) omQ d
                        refine spQA (And.intro ha16 (And.intro ha21 (And.intro he23 he24))) ?_
                        have hM0 := hM; clear hM; obtain ⟨x25, hx26, hM⟩ := letk_opn hM0; clear hM0
                        have hcx25 := specieref38_Same_ok  (gt a_.Queue p21) (gt b.Queue p21) (by (first | exact okQ_at hp0 (by omega) | exact okQ_at hp1 (by omega))) (by (first | exact okQ_at hp0 (by omega) | exact okQ_at hp1 (by omega)))
                        rw [← hx26] at hcx25
                        refine callC_give hcx25 (clQA (And.intro ha16 (And.intro ha21 (And.intro he23 he24)))) (clQA (And.intro ha16 (And.intro ha21 (And.intro he23 he24)))) (fun hw27 => ?_)
                        replace hw27 := nzQ hw27
                        refine spQA (And.intro ha16 (And.intro ha21 (And.intro he23 he24))) ?_
                        refine condC_intro (fun h28 => ?_) (fun h28 => ?_)
                        · rw [if_pos h28] at hM
                          refine spQA (And.intro ha16 (And.intro ha21 (And.intro he23 (And.intro he24 h28)))) ?_
                          have nh28 := nzQ h28
                          subst hM
                          exact retC_view (lfQA (And.intro ha16 (And.intro ha21 (And.intro he23 (And.intro he24 (And.intro h1 (And.intro h2 (And.intro h3 (And.intro h4 (And.intro h5 (And.intro h6 (And.intro h7 (And.intro h11 (And.intro h15 (And.intro h17 (And.intro h22 h28))))))))))))))))
                        · rw [if_neg (ne_true h28)] at hM
                          refine spQA (And.intro ha16 (And.intro ha21 (And.intro he23 (And.intro he24 h28)))) ?_
                          have nh28 := nzQ h28
                          refine lp_intro (n21 - 1) (⟨[(2, .ptr 0 0), (3, .ptr 1 0), (6, .int .i64 (p21 + 1))], [(0, .var 40 true (.agg (.int .u8 (gt a_.Name 0) :: .int .u8 (gt a_.Name 1) :: .int .u8 (gt a_.Name 2) :: .int .u8 (gt a_.Name 3) :: .int .u8 (gt a_.Name 4) :: .int .u8 (gt a_.Name 5) :: .int .u8 (gt a_.Name 6) :: .int .u8 (gt a_.Name 7) :: .int .u8 (gt a_.Name 8) :: .int .u8 (gt a_.Name 9) :: .int .u8 (gt a_.Name 10) :: .int .u8 (gt a_.Name 11) :: .int .u8 (gt a_.Name 12) :: .int .u8 (gt a_.Name 13) :: .int .u8 (gt a_.Name 14) :: .int .u8 (gt a_.Name 15) :: .int .u8 (gt a_.Name 16) :: .int .u8 (gt a_.Name 17) :: .int .u8 (gt a_.Name 18) :: .int .u8 (gt a_.Name 19) :: .int .u8 (gt a_.Name 20) :: .int .u8 (gt a_.Name 21) :: .int .u8 (gt a_.Name 22) :: .int .u8 (gt a_.Name 23) :: .int .u8 (gt a_.Name 24) :: .int .u8 (gt a_.Name 25) :: .int .u8 (gt a_.Name 26) :: .int .u8 (gt a_.Name 27) :: .int .u8 (gt a_.Name 28) :: .int .u8 (gt a_.Name 29) :: .int .u8 (gt a_.Name 30) :: .int .u8 (gt a_.Name 31) :: .sl none 3 true (a_.Policy.Rules.map e_api_Rule) :: .sl none 35 true (a_.Open.map e_api_Invoice) :: .int .i64 a_.Next :: .sl none 4 true (a_.Queue.map e_api_Payment) :: .sl none 35 true (a_.Paid.map e_api_Invoice) :: .int .i64 a_.Total :: .sl none 1 false (a_.Blocked.map (V.int .i64)) :: .int .i64 a_.Now :: []))), (1, .var 40 true (.agg (.int .u8 (gt b.Name 0) :: .int .u8 (gt b.Name 1) :: .int .u8 (gt b.Name 2) :: .int .u8 (gt b.Name 3) :: .int .u8 (gt b.Name 4) :: .int .u8 (gt b.Name 5) :: .int .u8 (gt b.Name 6) :: .int .u8 (gt b.Name 7) :: .int .u8 (gt b.Name 8) :: .int .u8 (gt b.Name 9) :: .int .u8 (gt b.Name 10) :: .int .u8 (gt b.Name 11) :: .int .u8 (gt b.Name 12) :: .int .u8 (gt b.Name 13) :: .int .u8 (gt b.Name 14) :: .int .u8 (gt b.Name 15) :: .int .u8 (gt b.Name 16) :: .int .u8 (gt b.Name 17) :: .int .u8 (gt b.Name 18) :: .int .u8 (gt b.Name 19) :: .int .u8 (gt b.Name 20) :: .int .u8 (gt b.Name 21) :: .int .u8 (gt b.Name 22) :: .int .u8 (gt b.Name 23) :: .int .u8 (gt b.Name 24) :: .int .u8 (gt b.Name 25) :: .int .u8 (gt b.Name 26) :: .int .u8 (gt b.Name 27) :: .int .u8 (gt b.Name 28) :: .int .u8 (gt b.Name 29) :: .int .u8 (gt b.Name 30) :: .int .u8 (gt b.Name 31) :: .sl none 3 true (b.Policy.Rules.map e_api_Rule) :: .sl none 35 true (b.Open.map e_api_Invoice) :: .int .i64 b.Next :: .sl none 4 true (b.Queue.map e_api_Payment) :: .sl none 35 true (b.Paid.map e_api_Invoice) :: .int .i64 b.Total :: .sl none 1 false (b.Blocked.map (V.int .i64)) :: .int .i64 b.Now :: [])))], 2⟩ : St) (by omega) sbQ sbQ ⟨(p21 + 1), rfl, ⟨omQ, omQ⟩, omQ, iter_again hM hag21⟩
                      · rw [if_neg (ne_true h22)] at hM
                        refine spQA (And.intro ha16 (And.intro ha21 h22)) ?_
                        have nh22 := nzQ h22
                        have hM0 := hM; clear hM; obtain ⟨f29, d29, hf29, hd29, hM⟩ := iter_opn hM0; clear hM0
                        refine ct_loop (fun n S => ∃ p : Int, S = (⟨[(2, .ptr 0 0), (3, .ptr 1 0), (7, .int .i64 p)], [(0, .var 40 true (.agg (.int .u8 (gt a_.Name 0) :: .int .u8 (gt a_.Name 1) :: .int .u8 (gt a_.Name 2) :: .int .u8 (gt a_.Name 3) :: .int .u8 (gt a_.Name 4) :: .int .u8 (gt a_.Name 5) :: .int .u8 (gt a_.Name 6) :: .int .u8 (gt a_.Name 7) :: .int .u8 (gt a_.Name 8) :: .int .u8 (gt a_.Name 9) :: .int .u8 (gt a_.Name 10) :: .int .u8 (gt a_.Name 11) :: .int .u8 (gt a_.Name 12) :: .int .u8 (gt a_.Name 13) :: .int .u8 (gt a_.Name 14) :: .int .u8 (gt a_.Name 15) :: .int .u8 (gt a_.Name 16) :: .int .u8 (gt a_.Name 17) :: .int .u8 (gt a_.Name 18) :: .int .u8 (gt a_.Name 19) :: .int .u8 (gt a_.Name 20) :: .int .u8 (gt a_.Name 21) :: .int .u8 (gt a_.Name 22) :: .int .u8 (gt a_.Name 23) :: .int .u8 (gt a_.Name 24) :: .int .u8 (gt a_.Name 25) :: .int .u8 (gt a_.Name 26) :: .int .u8 (gt a_.Name 27) :: .int .u8 (gt a_.Name 28) :: .int .u8 (gt a_.Name 29) :: .int .u8 (gt a_.Name 30) :: .int .u8 (gt a_.Name 31) :: .sl none 3 true (a_.Policy.Rules.map e_api_Rule) :: .sl none 35 true (a_.Open.map e_api_Invoice) :: .int .i64 a_.Next :: .sl none 4 true (a_.Queue.map e_api_Payment) :: .sl none 35 true (a_.Paid.map e_api_Invoice) :: .int .i64 a_.Total :: .sl none 1 false (a_.Blocked.map (V.int .i64)) :: .int .i64 a_.Now :: []))), (1, .var 40 true (.agg (.int .u8 (gt b.Name 0) :: .int .u8 (gt b.Name 1) :: .int .u8 (gt b.Name 2) :: .int .u8 (gt b.Name 3) :: .int .u8 (gt b.Name 4) :: .int .u8 (gt b.Name 5) :: .int .u8 (gt b.Name 6) :: .int .u8 (gt b.Name 7) :: .int .u8 (gt b.Name 8) :: .int .u8 (gt b.Name 9) :: .int .u8 (gt b.Name 10) :: .int .u8 (gt b.Name 11) :: .int .u8 (gt b.Name 12) :: .int .u8 (gt b.Name 13) :: .int .u8 (gt b.Name 14) :: .int .u8 (gt b.Name 15) :: .int .u8 (gt b.Name 16) :: .int .u8 (gt b.Name 17) :: .int .u8 (gt b.Name 18) :: .int .u8 (gt b.Name 19) :: .int .u8 (gt b.Name 20) :: .int .u8 (gt b.Name 21) :: .int .u8 (gt b.Name 22) :: .int .u8 (gt b.Name 23) :: .int .u8 (gt b.Name 24) :: .int .u8 (gt b.Name 25) :: .int .u8 (gt b.Name 26) :: .int .u8 (gt b.Name 27) :: .int .u8 (gt b.Name 28) :: .int .u8 (gt b.Name 29) :: .int .u8 (gt b.Name 30) :: .int .u8 (gt b.Name 31) :: .sl none 3 true (b.Policy.Rules.map e_api_Rule) :: .sl none 35 true (b.Open.map e_api_Invoice) :: .int .i64 b.Next :: .sl none 4 true (b.Queue.map e_api_Payment) :: .sl none 35 true (b.Paid.map e_api_Invoice) :: .int .i64 b.Total :: .sl none 1 false (b.Blocked.map (V.int .i64)) :: .int .i64 b.Now :: [])))], 2⟩ : St) ∧ ((0 ≤ p) ∧ (p ≤ (a_.Blocked.length : Int))) ∧ ((a_.Blocked.length : Int) - p).toNat < n ∧ iter n f29 d29 p = r) (((a_.Blocked.length : Int) - 0).toNat + 1) (⟨[(2, .ptr 0 0), (3, .ptr 1 0), (7, .int .i64 0)], [(0, .var 40 true (.agg (.int .u8 (gt a_.Name 0) :: .int .u8 (gt a_.Name 1) :: .int .u8 (gt a_.Name 2) :: .int .u8 (gt a_.Name 3) :: .int .u8 (gt a_.Name 4) :: .int .u8 (gt a_.Name 5) :: .int .u8 (gt a_.Name 6) :: .int .u8 (gt a_.Name 7) :: .int .u8 (gt a_.Name 8) :: .int .u8 (gt a_.Name 9) :: .int .u8 (gt a_.Name 10) :: .int .u8 (gt a_.Name 11) :: .int .u8 (gt a_.Name 12) :: .int .u8 (gt a_.Name 13) :: .int .u8 (gt a_.Name 14) :: .int .u8 (gt a_.Name 15) :: .int .u8 (gt a_.Name 16) :: .int .u8 (gt a_.Name 17) :: .int .u8 (gt a_.Name 18) :: .int .u8 (gt a_.Name 19) :: .int .u8 (gt a_.Name 20) :: .int .u8 (gt a_.Name 21) :: .int .u8 (gt a_.Name 22) :: .int .u8 (gt a_.Name 23) :: .int .u8 (gt a_.Name 24) :: .int .u8 (gt a_.Name 25) :: .int .u8 (gt a_.Name 26) :: .int .u8 (gt a_.Name 27) :: .int .u8 (gt a_.Name 28) :: .int .u8 (gt a_.Name 29) :: .int .u8 (gt a_.Name 30) :: .int .u8 (gt a_.Name 31) :: .sl none 3 true (a_.Policy.Rules.map e_api_Rule) :: .sl none 35 true (a_.Open.map e_api_Invoice) :: .int .i64 a_.Next :: .sl none 4 true (a_.Queue.map e_api_Payment) :: .sl none 35 true (a_.Paid.map e_api_Invoice) :: .int .i64 a_.Total :: .sl none 1 false (a_.Blocked.map (V.int .i64)) :: .int .i64 a_.Now :: []))), (1, .var 40 true (.agg (.int .u8 (gt b.Name 0) :: .int .u8 (gt b.Name 1) :: .int .u8 (gt b.Name 2) :: .int .u8 (gt b.Name 3) :: .int .u8 (gt b.Name 4) :: .int .u8 (gt b.Name 5) :: .int .u8 (gt b.Name 6) :: .int .u8 (gt b.Name 7) :: .int .u8 (gt b.Name 8) :: .int .u8 (gt b.Name 9) :: .int .u8 (gt b.Name 10) :: .int .u8 (gt b.Name 11) :: .int .u8 (gt b.Name 12) :: .int .u8 (gt b.Name 13) :: .int .u8 (gt b.Name 14) :: .int .u8 (gt b.Name 15) :: .int .u8 (gt b.Name 16) :: .int .u8 (gt b.Name 17) :: .int .u8 (gt b.Name 18) :: .int .u8 (gt b.Name 19) :: .int .u8 (gt b.Name 20) :: .int .u8 (gt b.Name 21) :: .int .u8 (gt b.Name 22) :: .int .u8 (gt b.Name 23) :: .int .u8 (gt b.Name 24) :: .int .u8 (gt b.Name 25) :: .int .u8 (gt b.Name 26) :: .int .u8 (gt b.Name 27) :: .int .u8 (gt b.Name 28) :: .int .u8 (gt b.Name 29) :: .int .u8 (gt b.Name 30) :: .int .u8 (gt b.Name 31) :: .sl none 3 true (b.Policy.Rules.map e_api_Rule) :: .sl none 35 true (b.Open.map e_api_Invoice) :: .int .i64 b.Next :: .sl none 4 true (b.Queue.map e_api_Payment) :: .sl none 35 true (b.Paid.map e_api_Invoice) :: .int .i64 b.Total :: .sl none 1 false (b.Blocked.map (V.int .i64)) :: .int .i64 b.Now :: [])))], 2⟩ : St) sbQ sbQ ⟨0, rfl, ⟨omQ, omQ⟩, (Nat.lt_succ_self _), hM⟩ ?_
                        clear hM
                        rintro n29 S ⟨p29, rfl, hfa29, hm29, hM⟩
                        have hM0 := hM; clear hM; obtain ⟨ag29, hag29, hM⟩ := iter_step hM0 (by omega) hf29; clear hM0
                        replace hfa29 := nzQ hfa29
                        replace hm29 := nzQ hm29
                        have ha29 : addI .i64 p29 1 = p29 + 1 := add_one omQ omQ
                        refine spQA (And.intro ha16 (And.intro ha21 ha29)) ?_
                        refine condC_intro (fun h30 => ?_) (fun h30 => ?_)
                        · rw [if_pos h30] at hM
                          refine spQA (And.intro ha16 (And.intro ha21 (And.intro ha29 h30))) ?_
                          have nh30 := nzQ h30
                          refine ct_draw 137 10 [126, 127, 128, 129, 130, 131, 132, 133, 134, 135] [] ([[], [0], [], [0, 1, 2], [0, 1, 2, 3], [], [5], [], [5, 6, 7], [5, 6, 7, 8]] ++ [List.range 10]) [] (by kernel_rfl) (by exact alQ) ?_
                          refine spQA (And.intro ha16 (And.intro ha21 ha29)) ?_
                          refine hbindC_intro omQ ?_
                          have he31 := fun d => elt_mp (l := a_.Blocked) (f := (V.int .i64)) (i := p29) omQ d
                          refine spQA (And.intro ha16 (And.intro ha21 (And.intro ha29 he31))) ?_
                          refine hbindC_intro omQ ?_
                          have he32 := fun d => elt_mp (l := b.Blocked) (f := (V.int .i64)) (i := p29) omQ d
                          refine spQA (And.intro ha16 (And.intro ha21 (And.intro ha29 (And.intro he31 he32)))) ?_
                          refine condC_intro (fun h33 => ?_) (fun h33 => ?_)
                          · rw [if_pos h33] at hM
                            refine spQA (And.intro ha16 (And.intro ha21 (And.intro ha29 (And.intro he31 (And.intro he32 h33))))) ?_
                            have nh33 := nzQ h33
                            subst hM
                            exact retC_view (lfQA (And.intro ha16 (And.intro ha21 (And.intro ha29 (And.intro he31 (And.intro he32 (And.intro h1 (And.intro h2 (And.intro h3 (And.intro h4 (And.intro h5 (And.intro h6 (And.intro h7 (And.intro h11 (And.intro h15 (And.intro h17 (And.intro h22 (And.intro h30 h33))))))))))))))))))
                          · rw [if_neg (ne_true h33)] at hM
                            refine spQA (And.intro ha16 (And.intro ha21 (And.intro ha29 (And.intro he31 (And.intro he32 h33))))) ?_
                            have nh33 := nzQ h33
                            refine lp_intro (n29 - 1) (⟨[(2, .ptr 0 0), (3, .ptr 1 0), (7, .int .i64 (p29 + 1))], [(0, .var 40 true (.agg (.int .u8 (gt a_.Name 0) :: .int .u8 (gt a_.Name 1) :: .int .u8 (gt a_.Name 2) :: .int .u8 (gt a_.Name 3) :: .int .u8 (gt a_.Name 4) :: .int .u8 (gt a_.Name 5) :: .int .u8 (gt a_.Name 6) :: .int .u8 (gt a_.Name 7) :: .int .u8 (gt a_.Name 8) :: .int .u8 (gt a_.Name 9) :: .int .u8 (gt a_.Name 10) :: .int .u8 (gt a_.Name 11) :: .int .u8 (gt a_.Name 12) :: .int .u8 (gt a_.Name 13) :: .int .u8 (gt a_.Name 14) :: .int .u8 (gt a_.Name 15) :: .int .u8 (gt a_.Name 16) :: .int .u8 (gt a_.Name 17) :: .int .u8 (gt a_.Name 18) :: .int .u8 (gt a_.Name 19) :: .int .u8 (gt a_.Name 20) :: .int .u8 (gt a_.Name 21) :: .int .u8 (gt a_.Name 22) :: .int .u8 (gt a_.Name 23) :: .int .u8 (gt a_.Name 24) :: .int .u8 (gt a_.Name 25) :: .int .u8 (gt a_.Name 26) :: .int .u8 (gt a_.Name 27) :: .int .u8 (gt a_.Name 28) :: .int .u8 (gt a_.Name 29) :: .int .u8 (gt a_.Name 30) :: .int .u8 (gt a_.Name 31) :: .sl none 3 true (a_.Policy.Rules.map e_api_Rule) :: .sl none 35 true (a_.Open.map e_api_Invoice) :: .int .i64 a_.Next :: .sl none 4 true (a_.Queue.map e_api_Payment) :: .sl none 35 true (a_.Paid.map e_api_Invoice) :: .int .i64 a_.Total :: .sl none 1 false (a_.Blocked.map (V.int .i64)) :: .int .i64 a_.Now :: []))), (1, .var 40 true (.agg (.int .u8 (gt b.Name 0) :: .int .u8 (gt b.Name 1) :: .int .u8 (gt b.Name 2) :: .int .u8 (gt b.Name 3) :: .int .u8 (gt b.Name 4) :: .int .u8 (gt b.Name 5) :: .int .u8 (gt b.Name 6) :: .int .u8 (gt b.Name 7) :: .int .u8 (gt b.Name 8) :: .int .u8 (gt b.Name 9) :: .int .u8 (gt b.Name 10) :: .int .u8 (gt b.Name 11) :: .int .u8 (gt b.Name 12) :: .int .u8 (gt b.Name 13) :: .int .u8 (gt b.Name 14) :: .int .u8 (gt b.Name 15) :: .int .u8 (gt b.Name 16) :: .int .u8 (gt b.Name 17) :: .int .u8 (gt b.Name 18) :: .int .u8 (gt b.Name 19) :: .int .u8 (gt b.Name 20) :: .int .u8 (gt b.Name 21) :: .int .u8 (gt b.Name 22) :: .int .u8 (gt b.Name 23) :: .int .u8 (gt b.Name 24) :: .int .u8 (gt b.Name 25) :: .int .u8 (gt b.Name 26) :: .int .u8 (gt b.Name 27) :: .int .u8 (gt b.Name 28) :: .int .u8 (gt b.Name 29) :: .int .u8 (gt b.Name 30) :: .int .u8 (gt b.Name 31) :: .sl none 3 true (b.Policy.Rules.map e_api_Rule) :: .sl none 35 true (b.Open.map e_api_Invoice) :: .int .i64 b.Next :: .sl none 4 true (b.Queue.map e_api_Payment) :: .sl none 35 true (b.Paid.map e_api_Invoice) :: .int .i64 b.Total :: .sl none 1 false (b.Blocked.map (V.int .i64)) :: .int .i64 b.Now :: [])))], 2⟩ : St) (by omega) sbQ sbQ ⟨(p29 + 1), rfl, ⟨omQ, omQ⟩, omQ, iter_again hM hag29⟩
                        · rw [if_neg (ne_true h30)] at hM
                          refine spQA (And.intro ha16 (And.intro ha21 (And.intro ha29 h30))) ?_
                          have nh30 := nzQ h30
                          subst hM
                          exact retC_view (lfQA (And.intro ha16 (And.intro ha21 (And.intro ha29 (And.intro h1 (And.intro h2 (And.intro h3 (And.intro h4 (And.intro h5 (And.intro h6 (And.intro h7 (And.intro h11 (And.intro h15 (And.intro h17 (And.intro h22 h30)))))))))))))))
                · rw [if_pos h11] at hM
                  refine spQA h11 ?_
                  have nh11 := nzQ h11
                  subst hM
                  exact retC_view (lfQA (And.intro h1 (And.intro h2 (And.intro h3 (And.intro h4 (And.intro h5 (And.intro h6 (And.intro h7 h11))))))))
              · rw [if_pos h7] at hM
                refine spQA h7 ?_
                have nh7 := nzQ h7
                subst hM
                exact retC_view (lfQA (And.intro h1 (And.intro h2 (And.intro h3 (And.intro h4 (And.intro h5 (And.intro h6 h7)))))))
            · rw [if_pos h6] at hM
              refine spQA h6 ?_
              have nh6 := nzQ h6
              subst hM
              exact retC_view (lfQA (And.intro h1 (And.intro h2 (And.intro h3 (And.intro h4 (And.intro h5 h6))))))
          · rw [if_pos h5] at hM
            refine spQA h5 ?_
            have nh5 := nzQ h5
            subst hM
            exact retC_view (lfQA (And.intro h1 (And.intro h2 (And.intro h3 (And.intro h4 h5)))))
        · rw [if_pos h4] at hM
          refine spQA h4 ?_
          have nh4 := nzQ h4
          subst hM
          exact retC_view (lfQA (And.intro h1 (And.intro h2 (And.intro h3 h4))))
      · rw [if_pos h3] at hM
        refine spQA h3 ?_
        have nh3 := nzQ h3
        subst hM
        exact retC_view (lfQA (And.intro h1 (And.intro h2 h3)))
    · rw [if_pos h2] at hM
      refine spQA h2 ?_
      have nh2 := nzQ h2
      subst hM
      exact retC_view (lfQA (And.intro h1 h2))
  · have kh1 : (!(q_arr23 (a_.Name) (b.Name))) = true := h1
    rw [if_pos kh1] at hM
    refine spQA h1 ?_
    have nh1 := nzQ kh1
    subst hM
    exact retC_view (lfQA h1)
set_option maxHeartbeats 2000000 in
set_option maxRecDepth 100000 in
theorem specielaw47_none_ok   (m : S_api_Merchant) (hp0 : okQ m.Queue) : CallOk En 11 [.agg (.int .u8 (gt m.Name 0) :: .int .u8 (gt m.Name 1) :: .int .u8 (gt m.Name 2) :: .int .u8 (gt m.Name 3) :: .int .u8 (gt m.Name 4) :: .int .u8 (gt m.Name 5) :: .int .u8 (gt m.Name 6) :: .int .u8 (gt m.Name 7) :: .int .u8 (gt m.Name 8) :: .int .u8 (gt m.Name 9) :: .int .u8 (gt m.Name 10) :: .int .u8 (gt m.Name 11) :: .int .u8 (gt m.Name 12) :: .int .u8 (gt m.Name 13) :: .int .u8 (gt m.Name 14) :: .int .u8 (gt m.Name 15) :: .int .u8 (gt m.Name 16) :: .int .u8 (gt m.Name 17) :: .int .u8 (gt m.Name 18) :: .int .u8 (gt m.Name 19) :: .int .u8 (gt m.Name 20) :: .int .u8 (gt m.Name 21) :: .int .u8 (gt m.Name 22) :: .int .u8 (gt m.Name 23) :: .int .u8 (gt m.Name 24) :: .int .u8 (gt m.Name 25) :: .int .u8 (gt m.Name 26) :: .int .u8 (gt m.Name 27) :: .int .u8 (gt m.Name 28) :: .int .u8 (gt m.Name 29) :: .int .u8 (gt m.Name 30) :: .int .u8 (gt m.Name 31) :: .sl none 3 true (m.Policy.Rules.map e_api_Rule) :: .sl none 35 true (m.Open.map e_api_Invoice) :: .int .i64 m.Next :: .sl none 4 true (m.Queue.map e_api_Payment) :: .sl none 35 true (m.Paid.map e_api_Invoice) :: .int .i64 m.Total :: .sl none 1 false (m.Blocked.map (V.int .i64)) :: .int .i64 m.Now :: [])] (.bool (specielaw47_none m)) [] := by
  generalize hM : specielaw47_none m = r
  rw [specielaw47_none.eq_1] at hM
  refine enterV En_ok En_mo noJ Try.func11 rfl Try.ntmps11 (by kernel_rfl) fun hw => ct_start ?_
  refine spQ ?_
  replace hw := nzQ hw
  have hM0 := hM; clear hM; obtain ⟨x1, hx2, hM⟩ := letk_opn hM0; clear hM0
  have hcx1 := specieref47_Same_ok  m z_api_Merchant (by (first | exact hp0 | exact okQ_nil)) (by (first | exact hp0 | exact okQ_nil))
  rw [← hx2] at hcx1
  refine callC_give hcx1 clQ clQ (fun hw3 => ?_)
  replace hw3 := nzQ hw3
  refine spQ ?_
  subst hM
  exact retC_view lfQ
set_option maxHeartbeats 2000000 in
set_option maxRecDepth 100000 in
theorem specieref47_Copy_ok   (m : S_api_Merchant)  : CallOk En 15 [.agg (.int .u8 (gt m.Name 0) :: .int .u8 (gt m.Name 1) :: .int .u8 (gt m.Name 2) :: .int .u8 (gt m.Name 3) :: .int .u8 (gt m.Name 4) :: .int .u8 (gt m.Name 5) :: .int .u8 (gt m.Name 6) :: .int .u8 (gt m.Name 7) :: .int .u8 (gt m.Name 8) :: .int .u8 (gt m.Name 9) :: .int .u8 (gt m.Name 10) :: .int .u8 (gt m.Name 11) :: .int .u8 (gt m.Name 12) :: .int .u8 (gt m.Name 13) :: .int .u8 (gt m.Name 14) :: .int .u8 (gt m.Name 15) :: .int .u8 (gt m.Name 16) :: .int .u8 (gt m.Name 17) :: .int .u8 (gt m.Name 18) :: .int .u8 (gt m.Name 19) :: .int .u8 (gt m.Name 20) :: .int .u8 (gt m.Name 21) :: .int .u8 (gt m.Name 22) :: .int .u8 (gt m.Name 23) :: .int .u8 (gt m.Name 24) :: .int .u8 (gt m.Name 25) :: .int .u8 (gt m.Name 26) :: .int .u8 (gt m.Name 27) :: .int .u8 (gt m.Name 28) :: .int .u8 (gt m.Name 29) :: .int .u8 (gt m.Name 30) :: .int .u8 (gt m.Name 31) :: .sl none 3 true (m.Policy.Rules.map e_api_Rule) :: .sl none 35 true (m.Open.map e_api_Invoice) :: .int .i64 m.Next :: .sl none 4 true (m.Queue.map e_api_Payment) :: .sl none 35 true (m.Paid.map e_api_Invoice) :: .int .i64 m.Total :: .sl none 1 false (m.Blocked.map (V.int .i64)) :: .int .i64 m.Now :: [])] (.agg (.int .u8 (gt (specieref47_Copy m).Name 0) :: .int .u8 (gt (specieref47_Copy m).Name 1) :: .int .u8 (gt (specieref47_Copy m).Name 2) :: .int .u8 (gt (specieref47_Copy m).Name 3) :: .int .u8 (gt (specieref47_Copy m).Name 4) :: .int .u8 (gt (specieref47_Copy m).Name 5) :: .int .u8 (gt (specieref47_Copy m).Name 6) :: .int .u8 (gt (specieref47_Copy m).Name 7) :: .int .u8 (gt (specieref47_Copy m).Name 8) :: .int .u8 (gt (specieref47_Copy m).Name 9) :: .int .u8 (gt (specieref47_Copy m).Name 10) :: .int .u8 (gt (specieref47_Copy m).Name 11) :: .int .u8 (gt (specieref47_Copy m).Name 12) :: .int .u8 (gt (specieref47_Copy m).Name 13) :: .int .u8 (gt (specieref47_Copy m).Name 14) :: .int .u8 (gt (specieref47_Copy m).Name 15) :: .int .u8 (gt (specieref47_Copy m).Name 16) :: .int .u8 (gt (specieref47_Copy m).Name 17) :: .int .u8 (gt (specieref47_Copy m).Name 18) :: .int .u8 (gt (specieref47_Copy m).Name 19) :: .int .u8 (gt (specieref47_Copy m).Name 20) :: .int .u8 (gt (specieref47_Copy m).Name 21) :: .int .u8 (gt (specieref47_Copy m).Name 22) :: .int .u8 (gt (specieref47_Copy m).Name 23) :: .int .u8 (gt (specieref47_Copy m).Name 24) :: .int .u8 (gt (specieref47_Copy m).Name 25) :: .int .u8 (gt (specieref47_Copy m).Name 26) :: .int .u8 (gt (specieref47_Copy m).Name 27) :: .int .u8 (gt (specieref47_Copy m).Name 28) :: .int .u8 (gt (specieref47_Copy m).Name 29) :: .int .u8 (gt (specieref47_Copy m).Name 30) :: .int .u8 (gt (specieref47_Copy m).Name 31) :: .sl none 3 true ((specieref47_Copy m).Policy.Rules.map e_api_Rule) :: .own 0 :: .int .i64 (specieref47_Copy m).Next :: .sl none 4 true ((specieref47_Copy m).Queue.map e_api_Payment) :: .sl none 35 true ((specieref47_Copy m).Paid.map e_api_Invoice) :: .int .i64 (specieref47_Copy m).Total :: .own 1 :: .int .i64 (specieref47_Copy m).Now :: [])) [.own 35 35 true none ((specieref47_Copy m).Open.map e_api_Invoice), .own 3 1 false none ((specieref47_Copy m).Blocked.map (V.int .i64))] := by
  generalize hM : specieref47_Copy m = r
  rw [specieref47_Copy.eq_1] at hM
  refine enterV En_ok En_mo noJ Try.func15 rfl Try.ntmps15 (by kernel_rfl) fun hw => ct_start ?_
  refine spQ ?_
  replace hw := nzQ hw
  refine bindC_intro omQ ?_
  refine spQ ?_
  refine bindC_intro omQ ?_
  refine spQ ?_
  refine bindC_intro omQ ?_
  refine spQ ?_
  refine bindC_intro omQ ?_
  refine spQ ?_
  subst hM
  exact retC_owns [2, 5] (bs := [.own 35 35 true (zApp (m.Open.map e_api_Invoice)) ((([] : List S_api_Invoice) ++ m.Open).map e_api_Invoice), .own 3 1 false (zApp (m.Blocked.map (V.int .i64))) ((([] : List Int) ++ m.Blocked).map (V.int .i64))]) clQ (by decide) lfQ
set_option maxHeartbeats 2000000 in
set_option maxRecDepth 100000 in
theorem merchant_Go_ok   (m : S_api_Merchant) (now : Int)  : CallOk En 18 [.agg (.int .u8 (gt m.Name 0) :: .int .u8 (gt m.Name 1) :: .int .u8 (gt m.Name 2) :: .int .u8 (gt m.Name 3) :: .int .u8 (gt m.Name 4) :: .int .u8 (gt m.Name 5) :: .int .u8 (gt m.Name 6) :: .int .u8 (gt m.Name 7) :: .int .u8 (gt m.Name 8) :: .int .u8 (gt m.Name 9) :: .int .u8 (gt m.Name 10) :: .int .u8 (gt m.Name 11) :: .int .u8 (gt m.Name 12) :: .int .u8 (gt m.Name 13) :: .int .u8 (gt m.Name 14) :: .int .u8 (gt m.Name 15) :: .int .u8 (gt m.Name 16) :: .int .u8 (gt m.Name 17) :: .int .u8 (gt m.Name 18) :: .int .u8 (gt m.Name 19) :: .int .u8 (gt m.Name 20) :: .int .u8 (gt m.Name 21) :: .int .u8 (gt m.Name 22) :: .int .u8 (gt m.Name 23) :: .int .u8 (gt m.Name 24) :: .int .u8 (gt m.Name 25) :: .int .u8 (gt m.Name 26) :: .int .u8 (gt m.Name 27) :: .int .u8 (gt m.Name 28) :: .int .u8 (gt m.Name 29) :: .int .u8 (gt m.Name 30) :: .int .u8 (gt m.Name 31) :: .sl none 3 true (m.Policy.Rules.map e_api_Rule) :: .sl none 35 true (m.Open.map e_api_Invoice) :: .int .i64 m.Next :: .sl none 4 true (m.Queue.map e_api_Payment) :: .sl none 35 true (m.Paid.map e_api_Invoice) :: .int .i64 m.Total :: .sl none 1 false (m.Blocked.map (V.int .i64)) :: .int .i64 m.Now :: []), .int .i64 now] (.tup [.agg (.int .u8 (gt (merchant_Go m now).1.Name 0) :: .int .u8 (gt (merchant_Go m now).1.Name 1) :: .int .u8 (gt (merchant_Go m now).1.Name 2) :: .int .u8 (gt (merchant_Go m now).1.Name 3) :: .int .u8 (gt (merchant_Go m now).1.Name 4) :: .int .u8 (gt (merchant_Go m now).1.Name 5) :: .int .u8 (gt (merchant_Go m now).1.Name 6) :: .int .u8 (gt (merchant_Go m now).1.Name 7) :: .int .u8 (gt (merchant_Go m now).1.Name 8) :: .int .u8 (gt (merchant_Go m now).1.Name 9) :: .int .u8 (gt (merchant_Go m now).1.Name 10) :: .int .u8 (gt (merchant_Go m now).1.Name 11) :: .int .u8 (gt (merchant_Go m now).1.Name 12) :: .int .u8 (gt (merchant_Go m now).1.Name 13) :: .int .u8 (gt (merchant_Go m now).1.Name 14) :: .int .u8 (gt (merchant_Go m now).1.Name 15) :: .int .u8 (gt (merchant_Go m now).1.Name 16) :: .int .u8 (gt (merchant_Go m now).1.Name 17) :: .int .u8 (gt (merchant_Go m now).1.Name 18) :: .int .u8 (gt (merchant_Go m now).1.Name 19) :: .int .u8 (gt (merchant_Go m now).1.Name 20) :: .int .u8 (gt (merchant_Go m now).1.Name 21) :: .int .u8 (gt (merchant_Go m now).1.Name 22) :: .int .u8 (gt (merchant_Go m now).1.Name 23) :: .int .u8 (gt (merchant_Go m now).1.Name 24) :: .int .u8 (gt (merchant_Go m now).1.Name 25) :: .int .u8 (gt (merchant_Go m now).1.Name 26) :: .int .u8 (gt (merchant_Go m now).1.Name 27) :: .int .u8 (gt (merchant_Go m now).1.Name 28) :: .int .u8 (gt (merchant_Go m now).1.Name 29) :: .int .u8 (gt (merchant_Go m now).1.Name 30) :: .int .u8 (gt (merchant_Go m now).1.Name 31) :: .sl none 3 true ((merchant_Go m now).1.Policy.Rules.map e_api_Rule) :: .sl none 35 true ((merchant_Go m now).1.Open.map e_api_Invoice) :: .int .i64 (merchant_Go m now).1.Next :: .sl none 4 true ((merchant_Go m now).1.Queue.map e_api_Payment) :: .sl none 35 true ((merchant_Go m now).1.Paid.map e_api_Invoice) :: .int .i64 (merchant_Go m now).1.Total :: .sl none 1 false ((merchant_Go m now).1.Blocked.map (V.int .i64)) :: .int .i64 (merchant_Go m now).1.Now :: []), .int .i64 (merchant_Go m now).2]) [] := by
  generalize hM : merchant_Go m now = r
  rw [merchant_Go.eq_1] at hM
  refine enterV En_ok En_mo noJ Try.func18 rfl Try.ntmps18 (by kernel_rfl) fun hw => ct_start ?_
  refine spQ ?_
  replace hw := nzQ hw
  have hM0 := hM; clear hM; obtain ⟨x1, hx2, hM⟩ := letk_opn hM0; clear hM0
  have hcx1 := merchant_Valid_ok  m 
  rw [← hx2] at hcx1
  refine callC_give hcx1 clQ clQ (fun hw3 => ?_)
  replace hw3 := nzQ hw3
  refine spQ ?_
  refine condC_intro (fun h4 => ?_) (fun h4 => ?_)
  · rw [if_pos h4] at hM
    refine spQA h4 ?_
    have nh4 := nzQ h4
    subst hM
    exact retC_view (lfQA h4)
  · rw [if_neg (ne_true h4)] at hM
    refine spQA h4 ?_
    have nh4 := nzQ h4
    refine guardC_f (fun h5 => ?_) (fun h5 => ?_)
    · rw [if_neg (ne_true h5)] at hM
      refine spQA h5 ?_
      have nh5 := nzQ h5
      refine condC_intro (fun h6 => ?_) (fun h6 => ?_)
      · rw [if_pos h6] at hM
        refine spQA h6 ?_
        have nh6 := nzQ h6
        subst hM
        exact retC_view (lfQA (And.intro h4 (And.intro h5 h6)))
      · rw [if_neg (ne_true h6)] at hM
        refine spQA h6 ?_
        have nh6 := nzQ h6
        refine condC_intro (fun h7 => ?_) (fun h7 => ?_)
        · rw [if_pos h7] at hM
          refine spQA h7 ?_
          have nh7 := nzQ h7
          subst hM
          exact retC_view (lfQA (And.intro h4 (And.intro h5 (And.intro h6 h7))))
        · rw [if_neg (ne_true h7)] at hM
          refine spQA h7 ?_
          have nh7 := nzQ h7
          have hM0 := hM; clear hM; obtain ⟨x8, hx9, hM⟩ := letk_opn hM0; clear hM0
          have hcx8 := merchant_cloned_ok  m 
          rw [← hx9] at hcx8
          refine callC_give hcx8 clQ clQ (fun hw10 => ?_)
          replace hw10 := nzQ hw10
          refine spQ ?_
          subst hM
          exact retC_view (lfQA (And.intro h4 (And.intro h5 (And.intro h6 h7))))
    · rw [if_pos h5] at hM
      refine spQA h5 ?_
      have nh5 := nzQ h5
      subst hM
      exact retC_view (lfQA (And.intro h4 h5))
set_option maxHeartbeats 2000000 in
set_option maxRecDepth 100000 in
theorem cmp_isNaN_int_ok   (x_ : Int)  : CallOk En 74 [.int .i64 x_] (.bool (cmp_isNaN_int x_)) [] := by
  generalize hM : cmp_isNaN_int x_ = r
  rw [cmp_isNaN_int.eq_1] at hM
  refine enterV En_ok En_mo noJ Try.func74 rfl Try.ntmps74 (by kernel_rfl) fun hw => ct_start ?_
  refine spQ ?_
  replace hw := nzQ hw
  subst hM
  exact retC_view lfQ
set_option maxHeartbeats 2000000 in
set_option maxRecDepth 100000 in
theorem cmp_Less_int_ok   (x_ : Int) (y : Int)  : CallOk En 48 [.int .i64 x_, .int .i64 y] (.bool (cmp_Less_int x_ y)) [] := by
  generalize hM : cmp_Less_int x_ y = r
  rw [cmp_Less_int.eq_1] at hM
  refine enterV En_ok En_mo noJ Try.func48 rfl Try.ntmps48 (by kernel_rfl) fun hw => ct_start ?_
  refine spQ ?_
  replace hw := nzQ hw
  have hM0 := hM; clear hM; obtain ⟨x1, hx2, hM⟩ := letk_opn hM0; clear hM0
  have hcx1 := cmp_isNaN_int_ok  x_ 
  rw [← hx2] at hcx1
  refine callC_give hcx1 clQ clQ (fun hw3 => ?_)
  replace hw3 := nzQ hw3
  refine spQ ?_
  refine guardC_t (fun h4 => ?_) (fun h4 => ?_)
  · subst h4
    rw [if_pos rfl] at hM
    refine spQ ?_
    have hM0 := hM; clear hM; obtain ⟨x5, hx6, hM⟩ := letk_opn hM0; clear hM0
    have hcx5 := cmp_isNaN_int_ok  y 
    rw [← hx6] at hcx5
    refine callC_give hcx5 clQ clQ (fun hw7 => ?_)
    replace hw7 := nzQ hw7
    refine spQ ?_
    refine guardC_f (fun h8 => ?_) (fun h8 => ?_)
    · rw [if_neg (ne_true h8)] at hM
      refine spQA h8 ?_
      have nh8 := nzQ h8
      subst hM
      exact retC_view (lfQA h8)
    · rw [if_pos h8] at hM
      refine spQA h8 ?_
      have nh8 := nzQ h8
      subst hM
      exact retC_view (lfQA h8)
  · subst h4
    rw [if_neg (by decide)] at hM
    refine spQ ?_
    subst hM
    exact retC_view lfQ
set_option maxHeartbeats 2000000 in
set_option maxRecDepth 100000 in
theorem slices_isNaN_int_ok   (x_ : Int)  : CallOk En 49 [.int .i64 x_] (.bool (slices_isNaN_int x_)) [] := by
  generalize hM : slices_isNaN_int x_ = r
  rw [slices_isNaN_int.eq_1] at hM
  refine enterV En_ok En_mo noJ Try.func49 rfl Try.ntmps49 (by kernel_rfl) fun hw => ct_start ?_
  refine spQ ?_
  replace hw := nzQ hw
  subst hM
  exact retC_view lfQ
set_option maxHeartbeats 2000000 in
set_option maxRecDepth 100000 in
theorem slices_BinarySearch_int_int_ok  (z0 : Option Bool) (x_ : (List Int)) (target : Int)  : CallOk En 23 [.sl z0 1 false (x_.map (V.int .i64)), .int .i64 target] (.tup [.int .i64 (slices_BinarySearch_int_int x_ target).1, .bool (slices_BinarySearch_int_int x_ target).2]) [] := by
  generalize hM : slices_BinarySearch_int_int x_ target = r
  rw [slices_BinarySearch_int_int.eq_1] at hM
  refine enterV En_ok En_mo noJ Try.func23 rfl Try.ntmps23 (by kernel_rfl) fun hw => ct_start ?_
  refine spQ ?_
  replace hw := nzQ hw
  have hM0 := hM; clear hM; obtain ⟨f1, d1, hf1, hd1, hM⟩ := iter_opn hM0; clear hM0
  refine ct_loop (fun n S => ∃ p : Int × Int, S = (⟨[(0, .sl z0 1 false (x_.map (V.int .i64))), (1, .int .i64 target), (6, .int .i64 (x_.length : Int)), (7, .int .i64 p.1), (8, .int .i64 p.2)], [], 0⟩ : St) ∧ ((0 ≤ p.1) ∧ (p.1 ≤ p.2) ∧ (0 ≤ p.1) ∧ (p.1 ≤ p.2) ∧ (p.2 ≤ (x_.length : Int))) ∧ (p.2 - p.1).toNat < n ∧ iter n f1 d1 p = r) (((x_.length : Int) - 0).toNat + 1) (⟨[(0, .sl z0 1 false (x_.map (V.int .i64))), (1, .int .i64 target), (6, .int .i64 (x_.length : Int)), (7, .int .i64 0), (8, .int .i64 (x_.length : Int))], [], 0⟩ : St) sbQ sbQ ⟨(0, (x_.length : Int)), rfl, ⟨by (first | exact omQ | (clear hM; first | (have hq := half_le p1.1 p1.2 (by omega) (by omega) (by omega); exact omQ'))), by (first | exact omQ | (clear hM; first | (have hq := half_le p1.1 p1.2 (by omega) (by omega) (by omega); exact omQ'))), by (first | exact omQ | (clear hM; first | (have hq := half_le p1.1 p1.2 (by omega) (by omega) (by omega); exact omQ'))), by (first | exact omQ | (clear hM; first | (have hq := half_le p1.1 p1.2 (by omega) (by omega) (by omega); exact omQ'))), by (first | exact omQ | (clear hM; first | (have hq := half_le p1.1 p1.2 (by omega) (by omega) (by omega); exact omQ')))⟩, (Nat.lt_succ_self _), hM⟩ ?_
  clear hM
  rintro n1 S ⟨p1, rfl, hfa1, hm1, hM⟩
  have hM0 := hM; clear hM; obtain ⟨ag1, hag1, hM⟩ := iter_step hM0 (by omega) hf1; clear hM0
  replace hfa1 := nzQ hfa1
  replace hm1 := nzQ hm1
  have ha1 : addI .i64 p1.1 1 = p1.1 + 1 := add_one (by (first | exact omQ | (clear hM; first | (have hq := half_le p1.1 p1.2 (by omega) (by omega) (by omega); exact omQ')))) (by (first | exact omQ | (clear hM; first | (have hq := half_le p1.1 p1.2 (by omega) (by omega) (by omega); exact omQ'))))
  refine spQA ha1 ?_
  refine condC_intro (fun h2 => ?_) (fun h2 => ?_)
  · rw [if_pos h2] at hM
    refine spQA (And.intro ha1 h2) ?_
    have nh2 := nzQ h2
    have ha3 : addI .i64 p1.1 p1.2 = (p1.1 + p1.2) := add_ok (by (first | exact omQ | (clear hM; first | (have hq := half_le p1.1 p1.2 (by omega) (by omega) (by omega); exact omQ')))) (by (first | exact omQ | (clear hM; first | (have hq := half_le p1.1 p1.2 (by omega) (by omega) (by omega); exact omQ'))))
    try simp only [ha3]
    refine bindC_intro (by (first | exact omQ | (clear hM; first | (have hq := half_le p1.1 p1.2 (by omega) (by omega) (by omega); exact omQ')))) ?_
    have he4 := fun d => elt_mp (l := x_) (f := (V.int .i64)) (i := (convI .i64 (shrI .u64 (convI .u64 (p1.1 + p1.2)) 1))) (by (first | exact omQ | (clear hM; first | (have hq := half_le p1.1 p1.2 (by omega) (by omega) (by omega); exact omQ')))) d
    refine spQA (And.intro ha1 (And.intro ha3 he4)) ?_
    have hM0 := hM; clear hM; obtain ⟨x5, hx6, hM⟩ := letk_opn hM0; clear hM0
    have hcx5 := cmp_Less_int_ok  (gt x_ (convI .i64 (shrI .u64 (convI .u64 (p1.1 + p1.2)) 1))) target 
    rw [← hx6] at hcx5
    refine callC_give hcx5 (clQA (And.intro ha1 (And.intro ha3 he4))) (clQA (And.intro ha1 (And.intro ha3 he4))) (fun hw7 => ?_)
    replace hw7 := nzQ hw7
    refine spQA (And.intro ha1 (And.intro ha3 he4)) ?_
    refine condC_intro (fun h8 => ?_) (fun h8 => ?_)
    · subst h8
      rw [if_pos rfl] at hM
      refine spQA (And.intro ha1 (And.intro ha3 he4)) ?_
      have ha9 : addI .i64 (convI .i64 (shrI .u64 (convI .u64 (p1.1 + p1.2)) 1)) 1 = ((convI .i64 (shrI .u64 (convI .u64 (p1.1 + p1.2)) 1)) + 1) := add_ok (by (first | exact omQ | (clear hM; first | (have hq := half_le p1.1 p1.2 (by omega) (by omega) (by omega); exact omQ')))) (by (first | exact omQ | (clear hM; first | (have hq := half_le p1.1 p1.2 (by omega) (by omega) (by omega); exact omQ'))))
      try simp only [ha9]
      refine lp_intro (n1 - 1) (⟨[(0, .sl z0 1 false (x_.map (V.int .i64))), (1, .int .i64 target), (6, .int .i64 (x_.length : Int)), (7, .int .i64 ((convI .i64 (shrI .u64 (convI .u64 (p1.1 + p1.2)) 1)) + 1)), (8, .int .i64 p1.2)], [], 0⟩ : St) (by omega) sbQ sbQ ⟨(((convI .i64 (shrI .u64 (convI .u64 (p1.1 + p1.2)) 1)) + 1), p1.2), rfl, ⟨by (clear hM; first | omega | (have hq := half_le p1.1 p1.2 (by omega) (by omega) (by omega); omega)), by (clear hM; first | omega | (have hq := half_le p1.1 p1.2 (by omega) (by omega) (by omega); omega)), by (clear hM; first | omega | (have hq := half_le p1.1 p1.2 (by omega) (by omega) (by omega); omega)), by (clear hM; first | omega | (have hq := half_le p1.1 p1.2 (by omega) (by omega) (by omega); omega)), by (clear hM; first | omega | (have hq := half_le p1.1 p1.2 (by omega) (by omega) (by omega); omega))⟩, by (clear hM; first | omega | (have hq := half_le p1.1 p1.2 (by omega) (by omega) (by omega); omega)), iter_again hM hag1⟩
    · subst h8
      rw [if_neg (by decide)] at hM
      refine spQA (And.intro ha1 (And.intro ha3 he4)) ?_
      refine lp_intro (n1 - 1) (⟨[(0, .sl z0 1 false (x_.map (V.int .i64))), (1, .int .i64 target), (6, .int .i64 (x_.length : Int)), (7, .int .i64 p1.1), (8, .int .i64 (convI .i64 (shrI .u64 (convI .u64 (p1.1 + p1.2)) 1)))], [], 0⟩ : St) (by omega) sbQ sbQ ⟨(p1.1, (convI .i64 (shrI .u64 (convI .u64 (p1.1 + p1.2)) 1))), rfl, ⟨by (clear hM; first | omega | (have hq := half_le p1.1 p1.2 (by omega) (by omega) (by omega); omega)), by (clear hM; first | omega | (have hq := half_le p1.1 p1.2 (by omega) (by omega) (by omega); omega)), by (clear hM; first | omega | (have hq := half_le p1.1 p1.2 (by omega) (by omega) (by omega); omega)), by (clear hM; first | omega | (have hq := half_le p1.1 p1.2 (by omega) (by omega) (by omega); omega)), by (clear hM; first | omega | (have hq := half_le p1.1 p1.2 (by omega) (by omega) (by omega); omega))⟩, by (clear hM; first | omega | (have hq := half_le p1.1 p1.2 (by omega) (by omega) (by omega); omega)), iter_again hM hag1⟩
  · rw [if_neg (ne_true h2)] at hM
    refine spQA (And.intro ha1 h2) ?_
    have nh2 := nzQ h2
    refine guardC_t (fun h10 => ?_) (fun h10 => ?_)
    · rw [if_pos h10] at hM
      refine spQA (And.intro ha1 h10) ?_
      have nh10 := nzQ h10
      refine bindC_intro (by (first | exact omQ | (clear hM; first | (have hq := half_le p1.1 p1.2 (by omega) (by omega) (by omega); exact omQ')))) ?_
      have he11 := fun d => elt_mp (l := x_) (f := (V.int .i64)) (i := p1.1) (by (first | exact omQ | (clear hM; first | (have hq := half_le p1.1 p1.2 (by omega) (by omega) (by omega); exact omQ')))) d
      refine spQA (And.intro ha1 he11) ?_
      refine guardC_f (fun h12 => ?_) (fun h12 => ?_)
      · rw [if_neg (ne_true h12)] at hM
        refine spQA (And.intro ha1 (And.intro he11 h12)) ?_
        have nh12 := nzQ h12
        refine bindC_intro (by (first | exact omQ | (clear hM; first | (have hq := half_le p1.1 p1.2 (by omega) (by omega) (by omega); exact omQ')))) ?_
        refine spQA (And.intro ha1 he11) ?_
        have hM0 := hM; clear hM; obtain ⟨x13, hx14, hM⟩ := letk_opn hM0; clear hM0
        have hcx13 := slices_isNaN_int_ok  (gt x_ p1.1) 
        rw [← hx14] at hcx13
        refine callC_give hcx13 (clQA (And.intro ha1 he11)) (clQA (And.intro ha1 he11)) (fun hw15 => ?_)
        replace hw15 := nzQ hw15
        refine spQA (And.intro ha1 he11) ?_
        refine guardC_t (fun h16 => ?_) (fun h16 => ?_)
        · subst h16
          rw [if_pos rfl] at hM
          refine spQA (And.intro ha1 he11) ?_
          have hM0 := hM; clear hM; obtain ⟨x17, hx18, hM⟩ := letk_opn hM0; clear hM0
          have hcx17 := slices_isNaN_int_ok  target 
          rw [← hx18] at hcx17
          refine callC_give hcx17 (clQA (And.intro ha1 he11)) (clQA (And.intro ha1 he11)) (fun hw19 => ?_)
          replace hw19 := nzQ hw19
          refine spQA (And.intro ha1 he11) ?_
          subst hM
          exact retC_view (lfQA (And.intro ha1 (And.intro he11 (And.intro h2 (And.intro h10 h12)))))
        · subst h16
          rw [if_neg (by decide)] at hM
          refine spQA (And.intro ha1 he11) ?_
          subst hM
          exact retC_view (lfQA (And.intro ha1 (And.intro he11 (And.intro h2 (And.intro h10 h12)))))
      · rw [if_pos h12] at hM
        refine spQA (And.intro ha1 (And.intro he11 h12)) ?_
        have nh12 := nzQ h12
        subst hM
        exact retC_view (lfQA (And.intro ha1 (And.intro he11 (And.intro h2 (And.intro h10 h12)))))
    · rw [if_neg (ne_true h10)] at hM
      refine spQA (And.intro ha1 h10) ?_
      have nh10 := nzQ h10
      subst hM
      exact retC_view (lfQA (And.intro ha1 (And.intro h2 h10)))
set_option maxHeartbeats 2000000 in
set_option maxRecDepth 100000 in
theorem merchant_Block_ok   (m : S_api_Merchant) (pseudonym : Int)  : CallOk En 21 [.agg (.int .u8 (gt m.Name 0) :: .int .u8 (gt m.Name 1) :: .int .u8 (gt m.Name 2) :: .int .u8 (gt m.Name 3) :: .int .u8 (gt m.Name 4) :: .int .u8 (gt m.Name 5) :: .int .u8 (gt m.Name 6) :: .int .u8 (gt m.Name 7) :: .int .u8 (gt m.Name 8) :: .int .u8 (gt m.Name 9) :: .int .u8 (gt m.Name 10) :: .int .u8 (gt m.Name 11) :: .int .u8 (gt m.Name 12) :: .int .u8 (gt m.Name 13) :: .int .u8 (gt m.Name 14) :: .int .u8 (gt m.Name 15) :: .int .u8 (gt m.Name 16) :: .int .u8 (gt m.Name 17) :: .int .u8 (gt m.Name 18) :: .int .u8 (gt m.Name 19) :: .int .u8 (gt m.Name 20) :: .int .u8 (gt m.Name 21) :: .int .u8 (gt m.Name 22) :: .int .u8 (gt m.Name 23) :: .int .u8 (gt m.Name 24) :: .int .u8 (gt m.Name 25) :: .int .u8 (gt m.Name 26) :: .int .u8 (gt m.Name 27) :: .int .u8 (gt m.Name 28) :: .int .u8 (gt m.Name 29) :: .int .u8 (gt m.Name 30) :: .int .u8 (gt m.Name 31) :: .sl none 3 true (m.Policy.Rules.map e_api_Rule) :: .sl none 35 true (m.Open.map e_api_Invoice) :: .int .i64 m.Next :: .sl none 4 true (m.Queue.map e_api_Payment) :: .sl none 35 true (m.Paid.map e_api_Invoice) :: .int .i64 m.Total :: .sl none 1 false (m.Blocked.map (V.int .i64)) :: .int .i64 m.Now :: []), .int .i64 pseudonym] (.tup [.agg (.int .u8 (gt (merchant_Block m pseudonym).1.Name 0) :: .int .u8 (gt (merchant_Block m pseudonym).1.Name 1) :: .int .u8 (gt (merchant_Block m pseudonym).1.Name 2) :: .int .u8 (gt (merchant_Block m pseudonym).1.Name 3) :: .int .u8 (gt (merchant_Block m pseudonym).1.Name 4) :: .int .u8 (gt (merchant_Block m pseudonym).1.Name 5) :: .int .u8 (gt (merchant_Block m pseudonym).1.Name 6) :: .int .u8 (gt (merchant_Block m pseudonym).1.Name 7) :: .int .u8 (gt (merchant_Block m pseudonym).1.Name 8) :: .int .u8 (gt (merchant_Block m pseudonym).1.Name 9) :: .int .u8 (gt (merchant_Block m pseudonym).1.Name 10) :: .int .u8 (gt (merchant_Block m pseudonym).1.Name 11) :: .int .u8 (gt (merchant_Block m pseudonym).1.Name 12) :: .int .u8 (gt (merchant_Block m pseudonym).1.Name 13) :: .int .u8 (gt (merchant_Block m pseudonym).1.Name 14) :: .int .u8 (gt (merchant_Block m pseudonym).1.Name 15) :: .int .u8 (gt (merchant_Block m pseudonym).1.Name 16) :: .int .u8 (gt (merchant_Block m pseudonym).1.Name 17) :: .int .u8 (gt (merchant_Block m pseudonym).1.Name 18) :: .int .u8 (gt (merchant_Block m pseudonym).1.Name 19) :: .int .u8 (gt (merchant_Block m pseudonym).1.Name 20) :: .int .u8 (gt (merchant_Block m pseudonym).1.Name 21) :: .int .u8 (gt (merchant_Block m pseudonym).1.Name 22) :: .int .u8 (gt (merchant_Block m pseudonym).1.Name 23) :: .int .u8 (gt (merchant_Block m pseudonym).1.Name 24) :: .int .u8 (gt (merchant_Block m pseudonym).1.Name 25) :: .int .u8 (gt (merchant_Block m pseudonym).1.Name 26) :: .int .u8 (gt (merchant_Block m pseudonym).1.Name 27) :: .int .u8 (gt (merchant_Block m pseudonym).1.Name 28) :: .int .u8 (gt (merchant_Block m pseudonym).1.Name 29) :: .int .u8 (gt (merchant_Block m pseudonym).1.Name 30) :: .int .u8 (gt (merchant_Block m pseudonym).1.Name 31) :: .sl none 3 true ((merchant_Block m pseudonym).1.Policy.Rules.map e_api_Rule) :: .sl none 35 true ((merchant_Block m pseudonym).1.Open.map e_api_Invoice) :: .int .i64 (merchant_Block m pseudonym).1.Next :: .sl none 4 true ((merchant_Block m pseudonym).1.Queue.map e_api_Payment) :: .sl none 35 true ((merchant_Block m pseudonym).1.Paid.map e_api_Invoice) :: .int .i64 (merchant_Block m pseudonym).1.Total :: .sl none 1 false ((merchant_Block m pseudonym).1.Blocked.map (V.int .i64)) :: .int .i64 (merchant_Block m pseudonym).1.Now :: []), .int .i64 (merchant_Block m pseudonym).2]) [] := by
  generalize hM : merchant_Block m pseudonym = r
  rw [merchant_Block.eq_1] at hM
  refine enterV En_ok En_mo noJ Try.func21 rfl Try.ntmps21 (by kernel_rfl) fun hw => ct_start ?_
  refine spQ ?_
  replace hw := nzQ hw
  have hM0 := hM; clear hM; obtain ⟨x1, hx2, hM⟩ := letk_opn hM0; clear hM0
  have hcx1 := merchant_Valid_ok  m 
  rw [← hx2] at hcx1
  refine callC_give hcx1 clQ clQ (fun hw3 => ?_)
  replace hw3 := nzQ hw3
  refine spQ ?_
  refine condC_intro (fun h4 => ?_) (fun h4 => ?_)
  · rw [if_pos h4] at hM
    refine spQA h4 ?_
    have nh4 := nzQ h4
    subst hM
    exact retC_view (lfQA h4)
  · rw [if_neg (ne_true h4)] at hM
    refine spQA h4 ?_
    have nh4 := nzQ h4
    refine condC_intro (fun h5 => ?_) (fun h5 => ?_)
    · rw [if_pos h5] at hM
      refine spQA h5 ?_
      have nh5 := nzQ h5
      subst hM
      exact retC_view (lfQA (And.intro h4 h5))
    · rw [if_neg (ne_true h5)] at hM
      refine spQA h5 ?_
      have nh5 := nzQ h5
      have hM0 := hM; clear hM; obtain ⟨x6, hx7, hM⟩ := letk_opn hM0; clear hM0
      have hcx6 := slices_BinarySearch_int_int_ok none (m.Blocked) pseudonym 
      rw [← hx7] at hcx6
      refine callC_give hcx6 clQ clQ (fun hw8 => ?_)
      replace hw8 := nzQ hw8
      refine spQ ?_
      have hq9 : 0 ≤ x6.1 ∧ x6.1 ≤ (m.Blocked.length : Int) := by rw [hx7]; have hv := mValid_len (hx2.symm.trans nh4); exact bs_range (by omega)
      refine condC_intro (fun h10 => ?_) (fun h10 => ?_)
      · rw [if_pos h10] at hM
        refine spQA h10 ?_
        have nh10 := nzQ h10
        subst hM
        exact retC_view (lfQA (And.intro h4 (And.intro h5 h10)))
      · rw [if_neg (ne_true h10)] at hM
        refine spQA h10 ?_
        have nh10 := nzQ h10
        refine condC_intro (fun h11 => ?_) (fun h11 => ?_)
        · rw [if_pos h11] at hM
          refine spQA h11 ?_
          have nh11 := nzQ h11
          subst hM
          exact retC_view (lfQA (And.intro h4 (And.intro h5 (And.intro h10 h11))))
        · rw [if_neg (ne_true h11)] at hM
          refine spQA h11 ?_
          have nh11 := nzQ h11
          have hM0 := hM; clear hM; obtain ⟨x12, hx13, hM⟩ := letk_opn hM0; clear hM0
          have hcx12 := merchant_cloned_ok  m 
          rw [← hx13] at hcx12
          refine callC_give hcx12 clQ clQ (fun hw14 => ?_)
          replace hw14 := nzQ hw14
          refine spQ ?_
          have hq15 : x12.Open.length = m.Open.length ∧ x12.Paid.length = m.Paid.length ∧ x12.Queue.length = m.Queue.length ∧ x12.Blocked.length = m.Blocked.length := by rw [hx13, cloned_eq]; exact ⟨rfl, rfl, rfl, rfl⟩
          have hM0 := hM; clear hM; obtain ⟨x16, hx17, hM⟩ := letk_opn hM0; clear hM0
          have hcx16 := slices_Insert_int_int_ok none (some false) (x12.Blocked) (x6.1) ([pseudonym] : List Int) (by (first | rfl | (have hv := mValid_len (hx2.symm.trans nh4); omega))) (by (first | rfl | (have hv := mValid_len (hx2.symm.trans nh4); omega))) (by (first | rfl | (have hv := mValid_len (hx2.symm.trans nh4); omega))) (by (first | rfl | (have hv := mValid_len (hx2.symm.trans nh4); omega)))
          rw [← hx17] at hcx16
          refine callC_in [3, 5] hcx16 (by decide) (by simp only [go_sem, rowV_eq, rowV_eq0, List.length_replicate, rep_len, Int.toNat_natCast, ↓reduceIte, Nat.reduceEqDiff, Nat.reduceAdd, Nat.reduceMul, Nat.reduceLeDiff, Nat.reduceLT, Int.reduceLE, Int.reduceLT, Int.reduceNeg, Int.reduceToNat, mt, mtL, mtL_self, mt_self, mtZ, and_self, eq_self]) (by simp only [go_sem, rowV_eq, rowV_eq0, List.length_replicate, rep_len, Int.toNat_natCast, ↓reduceIte, Nat.reduceEqDiff, Nat.reduceAdd, Nat.reduceMul, Nat.reduceLeDiff, Nat.reduceLT, Int.reduceLE, Int.reduceLT, Int.reduceNeg, Int.reduceToNat, mt, mtL, mtL_self, mt_self, mtZ, and_self, eq_self]) (fun hw18 => ?_)
          replace hw18 := nzQ hw18
          refine spQ ?_
          subst hM
          exact retC_view (lfQA (And.intro h4 (And.intro h5 (And.intro h10 h11))))
set_option maxHeartbeats 2000000 in
set_option maxRecDepth 100000 in
theorem specielaw47_MerchantForms_ok   (m : S_api_Merchant) (pseudonym : Int) (now : Int)  : CallOk En 5 [.agg (.int .u8 (gt m.Name 0) :: .int .u8 (gt m.Name 1) :: .int .u8 (gt m.Name 2) :: .int .u8 (gt m.Name 3) :: .int .u8 (gt m.Name 4) :: .int .u8 (gt m.Name 5) :: .int .u8 (gt m.Name 6) :: .int .u8 (gt m.Name 7) :: .int .u8 (gt m.Name 8) :: .int .u8 (gt m.Name 9) :: .int .u8 (gt m.Name 10) :: .int .u8 (gt m.Name 11) :: .int .u8 (gt m.Name 12) :: .int .u8 (gt m.Name 13) :: .int .u8 (gt m.Name 14) :: .int .u8 (gt m.Name 15) :: .int .u8 (gt m.Name 16) :: .int .u8 (gt m.Name 17) :: .int .u8 (gt m.Name 18) :: .int .u8 (gt m.Name 19) :: .int .u8 (gt m.Name 20) :: .int .u8 (gt m.Name 21) :: .int .u8 (gt m.Name 22) :: .int .u8 (gt m.Name 23) :: .int .u8 (gt m.Name 24) :: .int .u8 (gt m.Name 25) :: .int .u8 (gt m.Name 26) :: .int .u8 (gt m.Name 27) :: .int .u8 (gt m.Name 28) :: .int .u8 (gt m.Name 29) :: .int .u8 (gt m.Name 30) :: .int .u8 (gt m.Name 31) :: .sl none 3 true (m.Policy.Rules.map e_api_Rule) :: .sl none 35 true (m.Open.map e_api_Invoice) :: .int .i64 m.Next :: .sl none 4 true (m.Queue.map e_api_Payment) :: .sl none 35 true (m.Paid.map e_api_Invoice) :: .int .i64 m.Total :: .sl none 1 false (m.Blocked.map (V.int .i64)) :: .int .i64 m.Now :: []), .int .i64 pseudonym, .int .i64 now] (.bool (specielaw47_MerchantForms m pseudonym now)) [] := by
  generalize hM : specielaw47_MerchantForms m pseudonym now = r
  rw [specielaw47_MerchantForms.eq_1] at hM
  refine enterV En_ok En_mo [11, 29] Try.func5 rfl Try.ntmps5 (by kernel_rfl) fun hw => ct_start ?_
  refine spQ ?_
  replace hw := nzQ hw
  have hM0 := hM; clear hM; obtain ⟨x1, hx2, hM⟩ := letk_opn hM0; clear hM0
  have hcx1 := specielaw47_awake_ok   
  rw [← hx2] at hcx1
  refine callC_give hcx1 clQ clQ (fun hw3 => ?_)
  replace hw3 := nzQ hw3
  refine spQ ?_
  refine guardC_f (fun h4 => ?_) (fun h4 => ?_)
  · rw [if_neg (ne_true h4)] at hM
    refine spQA h4 ?_
    have nh4 := nzQ h4
    have hM0 := hM; clear hM; obtain ⟨x5, hx6, hM⟩ := letk_opn hM0; clear hM0
    have hcx5 := specielaw47_few_ok  m 
    rw [← hx6] at hcx5
    refine callC_give hcx5 clQ clQ (fun hw7 => ?_)
    replace hw7 := nzQ hw7
    refine spQ ?_
    refine condC_intro (fun h8 => ?_) (fun h8 => ?_)
    · rw [if_pos h8] at hM
      refine spQA h8 ?_
      have nh8 := nzQ h8
      have hM0 := hM; clear hM; obtain ⟨x9, hx10, hM⟩ := letk_opn hM0; clear hM0
      have hcx9 := specielaw47_awake_ok   
      rw [← hx10] at hcx9
      refine callC_give hcx9 clQ clQ (fun hw11 => ?_)
      replace hw11 := nzQ hw11
      refine spQ ?_
      subst hM
      exact retC_view (lfQA (And.intro h4 h8))
    · rw [if_neg (ne_true h8)] at hM
      refine spQA h8 ?_
      have nh8 := nzQ h8
      have hM0 := hM; clear hM; obtain ⟨x12, hx13, hM⟩ := letk_opn hM0; clear hM0
      have hcx12 := merchant_New_ok  (m.Name) (m.Policy) 
      rw [← hx13] at hcx12
      refine callC_give hcx12 clQ clQ (fun hw14 => ?_)
      replace hw14 := nzQ hw14
      refine spQ ?_
      have hM0 := hM; clear hM; obtain ⟨x15, hx16, hM⟩ := letk_opn hM0; clear hM0
      have hcx15 := merchant_Block_ok  m pseudonym 
      rw [← hx16] at hcx15
      refine callC_give hcx15 clQ clQ (fun hw17 => ?_)
      replace hw17 := nzQ hw17
      refine spQ ?_
      have hM0 := hM; clear hM; obtain ⟨x18, hx19, hM⟩ := letk_opn hM0; clear hM0
      have hcx18 := merchant_Go_ok  m now 
      rw [← hx19] at hcx18
      refine callC_give hcx18 clQ clQ (fun hw20 => ?_)
      replace hw20 := nzQ hw20
      refine spQ ?_
      have hM0 := hM; clear hM; obtain ⟨j21, hj21, hM⟩ := letj_opn hM0; clear hM0
      refine seqC_intro (fun S => ∃ p : Unit, S = (⟨[(1, .int .i64 pseudonym), (2, .int .i64 now), (3, .ptr 0 0), (9, .ptr 2 0), (10, .int .i64 x15.2), (11, .ptr 3 0), (12, .int .i64 x18.2)], [(0, .var 40 true (.agg (.int .u8 (gt m.Name 0) :: .int .u8 (gt m.Name 1) :: .int .u8 (gt m.Name 2) :: .int .u8 (gt m.Name 3) :: .int .u8 (gt m.Name 4) :: .int .u8 (gt m.Name 5) :: .int .u8 (gt m.Name 6) :: .int .u8 (gt m.Name 7) :: .int .u8 (gt m.Name 8) :: .int .u8 (gt m.Name 9) :: .int .u8 (gt m.Name 10) :: .int .u8 (gt m.Name 11) :: .int .u8 (gt m.Name 12) :: .int .u8 (gt m.Name 13) :: .int .u8 (gt m.Name 14) :: .int .u8 (gt m.Name 15) :: .int .u8 (gt m.Name 16) :: .int .u8 (gt m.Name 17) :: .int .u8 (gt m.Name 18) :: .int .u8 (gt m.Name 19) :: .int .u8 (gt m.Name 20) :: .int .u8 (gt m.Name 21) :: .int .u8 (gt m.Name 22) :: .int .u8 (gt m.Name 23) :: .int .u8 (gt m.Name 24) :: .int .u8 (gt m.Name 25) :: .int .u8 (gt m.Name 26) :: .int .u8 (gt m.Name 27) :: .int .u8 (gt m.Name 28) :: .int .u8 (gt m.Name 29) :: .int .u8 (gt m.Name 30) :: .int .u8 (gt m.Name 31) :: .sl none 3 true (m.Policy.Rules.map e_api_Rule) :: .sl none 35 true (m.Open.map e_api_Invoice) :: .int .i64 m.Next :: .sl none 4 true (m.Queue.map e_api_Payment) :: .sl none 35 true (m.Paid.map e_api_Invoice) :: .int .i64 m.Total :: .sl none 1 false (m.Blocked.map (V.int .i64)) :: .int .i64 m.Now :: []))), (2, .var 40 true (.agg (.int .u8 (gt x15.1.Name 0) :: .int .u8 (gt x15.1.Name 1) :: .int .u8 (gt x15.1.Name 2) :: .int .u8 (gt x15.1.Name 3) :: .int .u8 (gt x15.1.Name 4) :: .int .u8 (gt x15.1.Name 5) :: .int .u8 (gt x15.1.Name 6) :: .int .u8 (gt x15.1.Name 7) :: .int .u8 (gt x15.1.Name 8) :: .int .u8 (gt x15.1.Name 9) :: .int .u8 (gt x15.1.Name 10) :: .int .u8 (gt x15.1.Name 11) :: .int .u8 (gt x15.1.Name 12) :: .int .u8 (gt x15.1.Name 13) :: .int .u8 (gt x15.1.Name 14) :: .int .u8 (gt x15.1.Name 15) :: .int .u8 (gt x15.1.Name 16) :: .int .u8 (gt x15.1.Name 17) :: .int .u8 (gt x15.1.Name 18) :: .int .u8 (gt x15.1.Name 19) :: .int .u8 (gt x15.1.Name 20) :: .int .u8 (gt x15.1.Name 21) :: .int .u8 (gt x15.1.Name 22) :: .int .u8 (gt x15.1.Name 23) :: .int .u8 (gt x15.1.Name 24) :: .int .u8 (gt x15.1.Name 25) :: .int .u8 (gt x15.1.Name 26) :: .int .u8 (gt x15.1.Name 27) :: .int .u8 (gt x15.1.Name 28) :: .int .u8 (gt x15.1.Name 29) :: .int .u8 (gt x15.1.Name 30) :: .int .u8 (gt x15.1.Name 31) :: .sl none 3 true (x15.1.Policy.Rules.map e_api_Rule) :: .sl none 35 true (x15.1.Open.map e_api_Invoice) :: .int .i64 x15.1.Next :: .sl none 4 true (x15.1.Queue.map e_api_Payment) :: .sl none 35 true (x15.1.Paid.map e_api_Invoice) :: .int .i64 x15.1.Total :: .sl none 1 false (x15.1.Blocked.map (V.int .i64)) :: .int .i64 x15.1.Now :: []))), (3, .var 40 true (.agg (.int .u8 (gt x18.1.Name 0) :: .int .u8 (gt x18.1.Name 1) :: .int .u8 (gt x18.1.Name 2) :: .int .u8 (gt x18.1.Name 3) :: .int .u8 (gt x18.1.Name 4) :: .int .u8 (gt x18.1.Name 5) :: .int .u8 (gt x18.1.Name 6) :: .int .u8 (gt x18.1.Name 7) :: .int .u8 (gt x18.1.Name 8) :: .int .u8 (gt x18.1.Name 9) :: .int .u8 (gt x18.1.Name 10) :: .int .u8 (gt x18.1.Name 11) :: .int .u8 (gt x18.1.Name 12) :: .int .u8 (gt x18.1.Name 13) :: .int .u8 (gt x18.1.Name 14) :: .int .u8 (gt x18.1.Name 15) :: .int .u8 (gt x18.1.Name 16) :: .int .u8 (gt x18.1.Name 17) :: .int .u8 (gt x18.1.Name 18) :: .int .u8 (gt x18.1.Name 19) :: .int .u8 (gt x18.1.Name 20) :: .int .u8 (gt x18.1.Name 21) :: .int .u8 (gt x18.1.Name 22) :: .int .u8 (gt x18.1.Name 23) :: .int .u8 (gt x18.1.Name 24) :: .int .u8 (gt x18.1.Name 25) :: .int .u8 (gt x18.1.Name 26) :: .int .u8 (gt x18.1.Name 27) :: .int .u8 (gt x18.1.Name 28) :: .int .u8 (gt x18.1.Name 29) :: .int .u8 (gt x18.1.Name 30) :: .int .u8 (gt x18.1.Name 31) :: .sl none 3 true (x18.1.Policy.Rules.map e_api_Rule) :: .sl none 35 true (x18.1.Open.map e_api_Invoice) :: .int .i64 x18.1.Next :: .sl none 4 true (x18.1.Queue.map e_api_Payment) :: .sl none 35 true (x18.1.Paid.map e_api_Invoice) :: .int .i64 x18.1.Total :: .sl none 1 false (x18.1.Blocked.map (V.int .i64)) :: .int .i64 x18.1.Now :: [])))], 4⟩ : St) ∧ (True) ∧ j21 p = r) ?_ (fun hcut21 => ?_)
      · clear hM
        rintro S ⟨p21, rfl, hfa21, hM⟩
        have hM0 := hM; clear hM; have hM := letj_use hM0 hj21; clear hM0
        refine spQ ?_
        have hM0 := hM; clear hM; obtain ⟨x22, hx23, hM⟩ := letk_opn hM0; clear hM0
        have hcx22 := specieref47_Valid_ok  m 
        rw [← hx23] at hcx22
        refine callC_give hcx22 clQ clQ (fun hw24 => ?_)
        replace hw24 := nzQ hw24
        refine spQ ?_
        refine condC_intro (fun h25 => ?_) (fun h25 => ?_)
        · rw [if_pos h25] at hM
          refine spQA h25 ?_
          have nh25 := nzQ h25
          have hM0 := hM; clear hM; obtain ⟨x26, hx27, hM⟩ := letk_opn hM0; clear hM0
          have hcx26 := merchant_Valid_ok  m 
          rw [← hx27] at hcx26
          refine callC_give hcx26 clQ clQ (fun hw28 => ?_)
          replace hw28 := nzQ hw28
          refine spQ ?_
          refine guardC_t (fun h29 => ?_) (fun h29 => ?_)
          · rw [if_pos h29] at hM
            refine spQA h29 ?_
            have nh29 := nzQ h29
            have hM0 := hM; clear hM; obtain ⟨x30, hx31, hM⟩ := letk_opn hM0; clear hM0
            have hcx30 := specielaw47_none_ok  (x15.1) (by (have hf := few_ok (hx6.symm.trans nh8); first | exact okQ_nil | (rw [hx13]; exact okQ_New) | (rw [hx16]; exact okQ_Block hf) | (rw [hx19]; exact okQ_Go hf) | exact hf | (show okQ x47.Queue; rw [hx48]; exact hf)))
            rw [← hx31] at hcx30
            refine callC_give hcx30 clQ clQ (fun hw32 => ?_)
            replace hw32 := nzQ hw32
            refine spQ ?_
            refine guardC_t (fun h33 => ?_) (fun h33 => ?_)
            · subst h33
              rw [if_pos rfl] at hM
              refine spQ ?_
              refine guardC_t (fun h34 => ?_) (fun h34 => ?_)
              · rw [if_pos h34] at hM
                refine spQA h34 ?_
                have nh34 := nzQ h34
                have hM0 := hM; clear hM; obtain ⟨x35, hx36, hM⟩ := letk_opn hM0; clear hM0
                have hcx35 := specielaw47_none_ok  (x18.1) (by (have hf := few_ok (hx6.symm.trans nh8); first | exact okQ_nil | (rw [hx13]; exact okQ_New) | (rw [hx16]; exact okQ_Block hf) | (rw [hx19]; exact okQ_Go hf) | exact hf | (show okQ x47.Queue; rw [hx48]; exact hf)))
                rw [← hx36] at hcx35
                refine callC_give hcx35 clQ clQ (fun hw37 => ?_)
                replace hw37 := nzQ hw37
                refine spQ ?_
                refine guardC_t (fun h38 => ?_) (fun h38 => ?_)
                · subst h38
                  rw [if_pos rfl] at hM
                  refine spQ ?_
                  subst hM
                  exact retC_view (lfQA (And.intro h4 (And.intro h8 (And.intro h25 (And.intro h29 h34)))))
                · subst h38
                  rw [if_neg (by decide)] at hM
                  refine spQ ?_
                  subst hM
                  exact retC_view (lfQA (And.intro h4 (And.intro h8 (And.intro h25 (And.intro h29 h34)))))
              · rw [if_neg (ne_true h34)] at hM
                refine spQA h34 ?_
                have nh34 := nzQ h34
                subst hM
                exact retC_view (lfQA (And.intro h4 (And.intro h8 (And.intro h25 (And.intro h29 h34)))))
            · subst h33
              rw [if_neg (by decide)] at hM
              refine spQ ?_
              subst hM
              exact retC_view (lfQA (And.intro h4 (And.intro h8 (And.intro h25 h29))))
          · rw [if_neg (ne_true h29)] at hM
            refine spQA h29 ?_
            have nh29 := nzQ h29
            subst hM
            exact retC_view (lfQA (And.intro h4 (And.intro h8 (And.intro h25 h29))))
        · rw [if_neg (ne_true h25)] at hM
          refine spQA h25 ?_
          have nh25 := nzQ h25
          have hM0 := hM; clear hM; obtain ⟨x39, hx40, hM⟩ := letk_opn hM0; clear hM0
          have hcx39 := merchant_Valid_ok  m 
          rw [← hx40] at hcx39
          refine callC_give hcx39 clQ clQ (fun hw41 => ?_)
          replace hw41 := nzQ hw41
          refine spQ ?_
          refine condC_intro (fun h42 => ?_) (fun h42 => ?_)
          · rw [if_pos h42] at hM
            refine spQA h42 ?_
            have nh42 := nzQ h42
            subst hM
            exact retC_view (lfQA (And.intro h4 (And.intro h8 (And.intro h25 h42))))
          · rw [if_neg (ne_true h42)] at hM
            refine spQA h42 ?_
            have nh42 := nzQ h42
            have hM0 := hM; clear hM; obtain ⟨x43, hx44, hM⟩ := letk_opn hM0; clear hM0
            have hcx43 := slices_BinarySearch_int_int_ok none (m.Blocked) pseudonym 
            rw [← hx44] at hcx43
            refine callC_give hcx43 clQ clQ (fun hw45 => ?_)
            replace hw45 := nzQ hw45
            refine spQ ?_
            have hq46 : 0 ≤ x43.1 ∧ x43.1 ≤ (m.Blocked.length : Int) := by rw [hx44]; have hv := refValid_len (hx23.symm.trans nh25); exact bs_range (by omega)
            have hM0 := hM; clear hM; obtain ⟨x47, hx48, hM⟩ := letk_opn hM0; clear hM0
            have hcx47 := specieref47_Copy_ok  m 
            rw [← hx48] at hcx47
            refine callC_give hcx47 clQ clQ (fun hw49 => ?_)
            replace hw49 := nzQ hw49
            refine spQ ?_
            have hq50 : x47.Open.length = m.Open.length ∧ x47.Paid.length = m.Paid.length ∧ x47.Queue.length = m.Queue.length ∧ x47.Blocked.length = m.Blocked.length := by rw [hx48]; exact ⟨rfl, rfl, rfl, rfl⟩
            have hM0 := hM; clear hM; obtain ⟨x51, hx52, hM⟩ := letk_opn hM0; clear hM0
            have hcx51 := slices_Insert_int_int_ok none (some false) (x47.Blocked) (x43.1) ([pseudonym] : List Int) (by (first | rfl | (have hv := refValid_len (hx23.symm.trans nh25); omega))) (by (first | rfl | (have hv := refValid_len (hx23.symm.trans nh25); omega))) (by (first | rfl | (have hv := refValid_len (hx23.symm.trans nh25); omega))) (by (first | rfl | (have hv := refValid_len (hx23.symm.trans nh25); omega)))
            rw [← hx52] at hcx51
            refine callC_in [5, 7] hcx51 (by decide) (by simp only [go_sem, rowV_eq, rowV_eq0, List.length_replicate, rep_len, Int.toNat_natCast, ↓reduceIte, Nat.reduceEqDiff, Nat.reduceAdd, Nat.reduceMul, Nat.reduceLeDiff, Nat.reduceLT, Int.reduceLE, Int.reduceLT, Int.reduceNeg, Int.reduceToNat, mt, mtL, mtL_self, mt_self, mtZ, and_self, eq_self]) (by simp only [go_sem, rowV_eq, rowV_eq0, List.length_replicate, rep_len, Int.toNat_natCast, ↓reduceIte, Nat.reduceEqDiff, Nat.reduceAdd, Nat.reduceMul, Nat.reduceLeDiff, Nat.reduceLT, Int.reduceLE, Int.reduceLT, Int.reduceNeg, Int.reduceToNat, mt, mtL, mtL_self, mt_self, mtZ, and_self, eq_self]) (fun hw53 => ?_)
            replace hw53 := nzQ hw53
            refine spQ ?_
            have hM0 := hM; clear hM; obtain ⟨j54, hj54, hM⟩ := letj_opn hM0; clear hM0
            refine seqC_intro (fun S => ∃ p : Unit, S = (⟨[(2, .int .i64 now), (3, .ptr 0 0), (11, .ptr 3 0), (12, .int .i64 x18.2)], [(0, .var 40 true (.agg (.int .u8 (gt m.Name 0) :: .int .u8 (gt m.Name 1) :: .int .u8 (gt m.Name 2) :: .int .u8 (gt m.Name 3) :: .int .u8 (gt m.Name 4) :: .int .u8 (gt m.Name 5) :: .int .u8 (gt m.Name 6) :: .int .u8 (gt m.Name 7) :: .int .u8 (gt m.Name 8) :: .int .u8 (gt m.Name 9) :: .int .u8 (gt m.Name 10) :: .int .u8 (gt m.Name 11) :: .int .u8 (gt m.Name 12) :: .int .u8 (gt m.Name 13) :: .int .u8 (gt m.Name 14) :: .int .u8 (gt m.Name 15) :: .int .u8 (gt m.Name 16) :: .int .u8 (gt m.Name 17) :: .int .u8 (gt m.Name 18) :: .int .u8 (gt m.Name 19) :: .int .u8 (gt m.Name 20) :: .int .u8 (gt m.Name 21) :: .int .u8 (gt m.Name 22) :: .int .u8 (gt m.Name 23) :: .int .u8 (gt m.Name 24) :: .int .u8 (gt m.Name 25) :: .int .u8 (gt m.Name 26) :: .int .u8 (gt m.Name 27) :: .int .u8 (gt m.Name 28) :: .int .u8 (gt m.Name 29) :: .int .u8 (gt m.Name 30) :: .int .u8 (gt m.Name 31) :: .sl none 3 true (m.Policy.Rules.map e_api_Rule) :: .sl none 35 true (m.Open.map e_api_Invoice) :: .int .i64 m.Next :: .sl none 4 true (m.Queue.map e_api_Payment) :: .sl none 35 true (m.Paid.map e_api_Invoice) :: .int .i64 m.Total :: .sl none 1 false (m.Blocked.map (V.int .i64)) :: .int .i64 m.Now :: []))), (3, .var 40 true (.agg (.int .u8 (gt x18.1.Name 0) :: .int .u8 (gt x18.1.Name 1) :: .int .u8 (gt x18.1.Name 2) :: .int .u8 (gt x18.1.Name 3) :: .int .u8 (gt x18.1.Name 4) :: .int .u8 (gt x18.1.Name 5) :: .int .u8 (gt x18.1.Name 6) :: .int .u8 (gt x18.1.Name 7) :: .int .u8 (gt x18.1.Name 8) :: .int .u8 (gt x18.1.Name 9) :: .int .u8 (gt x18.1.Name 10) :: .int .u8 (gt x18.1.Name 11) :: .int .u8 (gt x18.1.Name 12) :: .int .u8 (gt x18.1.Name 13) :: .int .u8 (gt x18.1.Name 14) :: .int .u8 (gt x18.1.Name 15) :: .int .u8 (gt x18.1.Name 16) :: .int .u8 (gt x18.1.Name 17) :: .int .u8 (gt x18.1.Name 18) :: .int .u8 (gt x18.1.Name 19) :: .int .u8 (gt x18.1.Name 20) :: .int .u8 (gt x18.1.Name 21) :: .int .u8 (gt x18.1.Name 22) :: .int .u8 (gt x18.1.Name 23) :: .int .u8 (gt x18.1.Name 24) :: .int .u8 (gt x18.1.Name 25) :: .int .u8 (gt x18.1.Name 26) :: .int .u8 (gt x18.1.Name 27) :: .int .u8 (gt x18.1.Name 28) :: .int .u8 (gt x18.1.Name 29) :: .int .u8 (gt x18.1.Name 30) :: .int .u8 (gt x18.1.Name 31) :: .sl none 3 true (x18.1.Policy.Rules.map e_api_Rule) :: .sl none 35 true (x18.1.Open.map e_api_Invoice) :: .int .i64 x18.1.Next :: .sl none 4 true (x18.1.Queue.map e_api_Payment) :: .sl none 35 true (x18.1.Paid.map e_api_Invoice) :: .int .i64 x18.1.Total :: .sl none 1 false (x18.1.Blocked.map (V.int .i64)) :: .int .i64 x18.1.Now :: [])))], 8⟩ : St) ∧ (True) ∧ j54 p = r) ?_ (fun hcut54 => ?_)
            · clear hM
              rintro S ⟨p54, rfl, hfa54, hM⟩
              have hM0 := hM; clear hM; have hM := letj_use hM0 hj54; clear hM0
              refine spQ ?_
              refine guardC_f (fun h55 => ?_) (fun h55 => ?_)
              · rw [if_neg (ne_true h55)] at hM
                refine spQA h55 ?_
                have nh55 := nzQ h55
                refine condC_intro (fun h56 => ?_) (fun h56 => ?_)
                · rw [if_pos h56] at hM
                  refine spQA h56 ?_
                  have nh56 := nzQ h56
                  have hM0 := hM; clear hM; obtain ⟨x57, hx58, hM⟩ := letk_opn hM0; clear hM0
                  have hcx57 := specielaw47_none_ok  (x18.1) (by (have hf := few_ok (hx6.symm.trans nh8); first | exact okQ_nil | (rw [hx13]; exact okQ_New) | (rw [hx16]; exact okQ_Block hf) | (rw [hx19]; exact okQ_Go hf) | exact hf | (show okQ x47.Queue; rw [hx48]; exact hf)))
                  rw [← hx58] at hcx57
                  refine callC_give hcx57 clQ clQ (fun hw59 => ?_)
                  replace hw59 := nzQ hw59
                  refine spQ ?_
                  refine guardC_t (fun h60 => ?_) (fun h60 => ?_)
                  · subst h60
                    rw [if_pos rfl] at hM
                    refine spQ ?_
                    subst hM
                    exact retC_view (lfQA (And.intro h4 (And.intro h8 (And.intro h25 (And.intro h42 (And.intro h55 h56))))))
                  · subst h60
                    rw [if_neg (by decide)] at hM
                    refine spQ ?_
                    subst hM
                    exact retC_view (lfQA (And.intro h4 (And.intro h8 (And.intro h25 (And.intro h42 (And.intro h55 h56))))))
                · rw [if_neg (ne_true h56)] at hM
                  refine spQA h56 ?_
                  have nh56 := nzQ h56
                  refine condC_intro (fun h61 => ?_) (fun h61 => ?_)
                  · rw [if_pos h61] at hM
                    refine spQA h61 ?_
                    have nh61 := nzQ h61
                    have hM0 := hM; clear hM; obtain ⟨x62, hx63, hM⟩ := letk_opn hM0; clear hM0
                    have hcx62 := specielaw47_none_ok  (x18.1) (by (have hf := few_ok (hx6.symm.trans nh8); first | exact okQ_nil | (rw [hx13]; exact okQ_New) | (rw [hx16]; exact okQ_Block hf) | (rw [hx19]; exact okQ_Go hf) | exact hf | (show okQ x47.Queue; rw [hx48]; exact hf)))
                    rw [← hx63] at hcx62
                    refine callC_give hcx62 clQ clQ (fun hw64 => ?_)
                    replace hw64 := nzQ hw64
                    refine spQ ?_
                    refine guardC_t (fun h65 => ?_) (fun h65 => ?_)
                    · subst h65
                      rw [if_pos rfl] at hM
                      refine spQ ?_
                      subst hM
                      exact retC_view (lfQA (And.intro h4 (And.intro h8 (And.intro h25 (And.intro h42 (And.intro h55 (And.intro h56 h61)))))))
                    · subst h65
                      rw [if_neg (by decide)] at hM
                      refine spQ ?_
                      subst hM
                      exact retC_view (lfQA (And.intro h4 (And.intro h8 (And.intro h25 (And.intro h42 (And.intro h55 (And.intro h56 h61)))))))
                  · rw [if_neg (ne_true h61)] at hM
                    refine spQA h61 ?_
                    have nh61 := nzQ h61
                    have hM0 := hM; clear hM; obtain ⟨x66, hx67, hM⟩ := letk_opn hM0; clear hM0
                    have hcx66 := specieref47_Same_ok  (x18.1) ({ Name := m.Name, Policy := m.Policy, Open := m.Open, Next := m.Next, Queue := m.Queue, Paid := m.Paid, Total := m.Total, Blocked := m.Blocked, Now := now } : S_api_Merchant) (by (have hf := few_ok (hx6.symm.trans nh8); first | exact okQ_nil | (rw [hx13]; exact okQ_New) | (rw [hx16]; exact okQ_Block hf) | (rw [hx19]; exact okQ_Go hf) | exact hf | (show okQ x47.Queue; rw [hx48]; exact hf))) (by (have hf := few_ok (hx6.symm.trans nh8); first | exact okQ_nil | (rw [hx13]; exact okQ_New) | (rw [hx16]; exact okQ_Block hf) | (rw [hx19]; exact okQ_Go hf) | exact hf | (show okQ x47.Queue; rw [hx48]; exact hf)))
                    rw [← hx67] at hcx66
                    refine callC_give hcx66 clQ clQ (fun hw68 => ?_)
                    replace hw68 := nzQ hw68
                    refine spQ ?_
                    refine guardC_t (fun h69 => ?_) (fun h69 => ?_)
                    · subst h69
                      rw [if_pos rfl] at hM
                      refine spQ ?_
                      subst hM
                      exact retC_view (lfQA (And.intro h4 (And.intro h8 (And.intro h25 (And.intro h42 (And.intro h55 (And.intro h56 h61)))))))
                    · subst h69
                      rw [if_neg (by decide)] at hM
                      refine spQ ?_
                      subst hM
                      exact retC_view (lfQA (And.intro h4 (And.intro h8 (And.intro h25 (And.intro h42 (And.intro h55 (And.intro h56 h61)))))))
              · rw [if_pos h55] at hM
                refine spQA h55 ?_
                have nh55 := nzQ h55
                have hM0 := hM; clear hM; obtain ⟨x70, hx71, hM⟩ := letk_opn hM0; clear hM0
                have hcx70 := specielaw47_none_ok  (x18.1) (by (have hf := few_ok (hx6.symm.trans nh8); first | exact okQ_nil | (rw [hx13]; exact okQ_New) | (rw [hx16]; exact okQ_Block hf) | (rw [hx19]; exact okQ_Go hf) | exact hf | (show okQ x47.Queue; rw [hx48]; exact hf)))
                rw [← hx71] at hcx70
                refine callC_give hcx70 clQ clQ (fun hw72 => ?_)
                replace hw72 := nzQ hw72
                refine spQ ?_
                refine guardC_t (fun h73 => ?_) (fun h73 => ?_)
                · subst h73
                  rw [if_pos rfl] at hM
                  refine spQ ?_
                  subst hM
                  exact retC_view (lfQA (And.intro h4 (And.intro h8 (And.intro h25 (And.intro h42 h55)))))
                · subst h73
                  rw [if_neg (by decide)] at hM
                  refine spQ ?_
                  subst hM
                  exact retC_view (lfQA (And.intro h4 (And.intro h8 (And.intro h25 (And.intro h42 h55)))))
            · refine spQ ?_
              refine condC_intro (fun h74 => ?_) (fun h74 => ?_)
              · rw [if_pos h74] at hM
                refine spQA h74 ?_
                have nh74 := nzQ h74
                have hM0 := hM; clear hM; obtain ⟨x75, hx76, hM⟩ := letk_opn hM0; clear hM0
                have hcx75 := specielaw47_none_ok  (x15.1) (by (have hf := few_ok (hx6.symm.trans nh8); first | exact okQ_nil | (rw [hx13]; exact okQ_New) | (rw [hx16]; exact okQ_Block hf) | (rw [hx19]; exact okQ_Go hf) | exact hf | (show okQ x47.Queue; rw [hx48]; exact hf)))
                rw [← hx76] at hcx75
                refine callC_give hcx75 clQ clQ (fun hw77 => ?_)
                replace hw77 := nzQ hw77
                refine spQ ?_
                refine guardC_f (fun h78 => ?_) (fun h78 => ?_)
                · rw [if_neg (ne_true h78)] at hM
                  refine spQA h78 ?_
                  have nh78 := nzQ h78
                  refine condC_intro (fun h79 => ?_) (fun h79 => ?_)
                  · rw [if_pos h79] at hM
                    refine spQA h79 ?_
                    have nh79 := nzQ h79
                    subst hM
                    exact retC_view (lfQA (And.intro h4 (And.intro h8 (And.intro h25 (And.intro h42 (And.intro h74 (And.intro h78 h79)))))))
                  · rw [if_neg (ne_true h79)] at hM
                    refine spQA h79 ?_
                    have nh79 := nzQ h79
                    exact cut_intro (⟨[(2, .int .i64 now), (3, .ptr 0 0), (11, .ptr 3 0), (12, .int .i64 x18.2)], [(0, .var 40 true (.agg (.int .u8 (gt m.Name 0) :: .int .u8 (gt m.Name 1) :: .int .u8 (gt m.Name 2) :: .int .u8 (gt m.Name 3) :: .int .u8 (gt m.Name 4) :: .int .u8 (gt m.Name 5) :: .int .u8 (gt m.Name 6) :: .int .u8 (gt m.Name 7) :: .int .u8 (gt m.Name 8) :: .int .u8 (gt m.Name 9) :: .int .u8 (gt m.Name 10) :: .int .u8 (gt m.Name 11) :: .int .u8 (gt m.Name 12) :: .int .u8 (gt m.Name 13) :: .int .u8 (gt m.Name 14) :: .int .u8 (gt m.Name 15) :: .int .u8 (gt m.Name 16) :: .int .u8 (gt m.Name 17) :: .int .u8 (gt m.Name 18) :: .int .u8 (gt m.Name 19) :: .int .u8 (gt m.Name 20) :: .int .u8 (gt m.Name 21) :: .int .u8 (gt m.Name 22) :: .int .u8 (gt m.Name 23) :: .int .u8 (gt m.Name 24) :: .int .u8 (gt m.Name 25) :: .int .u8 (gt m.Name 26) :: .int .u8 (gt m.Name 27) :: .int .u8 (gt m.Name 28) :: .int .u8 (gt m.Name 29) :: .int .u8 (gt m.Name 30) :: .int .u8 (gt m.Name 31) :: .sl none 3 true (m.Policy.Rules.map e_api_Rule) :: .sl none 35 true (m.Open.map e_api_Invoice) :: .int .i64 m.Next :: .sl none 4 true (m.Queue.map e_api_Payment) :: .sl none 35 true (m.Paid.map e_api_Invoice) :: .int .i64 m.Total :: .sl none 1 false (m.Blocked.map (V.int .i64)) :: .int .i64 m.Now :: []))), (3, .var 40 true (.agg (.int .u8 (gt x18.1.Name 0) :: .int .u8 (gt x18.1.Name 1) :: .int .u8 (gt x18.1.Name 2) :: .int .u8 (gt x18.1.Name 3) :: .int .u8 (gt x18.1.Name 4) :: .int .u8 (gt x18.1.Name 5) :: .int .u8 (gt x18.1.Name 6) :: .int .u8 (gt x18.1.Name 7) :: .int .u8 (gt x18.1.Name 8) :: .int .u8 (gt x18.1.Name 9) :: .int .u8 (gt x18.1.Name 10) :: .int .u8 (gt x18.1.Name 11) :: .int .u8 (gt x18.1.Name 12) :: .int .u8 (gt x18.1.Name 13) :: .int .u8 (gt x18.1.Name 14) :: .int .u8 (gt x18.1.Name 15) :: .int .u8 (gt x18.1.Name 16) :: .int .u8 (gt x18.1.Name 17) :: .int .u8 (gt x18.1.Name 18) :: .int .u8 (gt x18.1.Name 19) :: .int .u8 (gt x18.1.Name 20) :: .int .u8 (gt x18.1.Name 21) :: .int .u8 (gt x18.1.Name 22) :: .int .u8 (gt x18.1.Name 23) :: .int .u8 (gt x18.1.Name 24) :: .int .u8 (gt x18.1.Name 25) :: .int .u8 (gt x18.1.Name 26) :: .int .u8 (gt x18.1.Name 27) :: .int .u8 (gt x18.1.Name 28) :: .int .u8 (gt x18.1.Name 29) :: .int .u8 (gt x18.1.Name 30) :: .int .u8 (gt x18.1.Name 31) :: .sl none 3 true (x18.1.Policy.Rules.map e_api_Rule) :: .sl none 35 true (x18.1.Open.map e_api_Invoice) :: .int .i64 x18.1.Next :: .sl none 4 true (x18.1.Queue.map e_api_Payment) :: .sl none 35 true (x18.1.Paid.map e_api_Invoice) :: .int .i64 x18.1.Total :: .sl none 1 false (x18.1.Blocked.map (V.int .i64)) :: .int .i64 x18.1.Now :: [])))], 8⟩ : St) sbQ sbQ (hcut54 _ ⟨(), rfl, trivial, hM⟩)
                · rw [if_pos h78] at hM
                  refine spQA h78 ?_
                  have nh78 := nzQ h78
                  subst hM
                  exact retC_view (lfQA (And.intro h4 (And.intro h8 (And.intro h25 (And.intro h42 (And.intro h74 h78))))))
              · rw [if_neg (ne_true h74)] at hM
                refine spQA h74 ?_
                have nh74 := nzQ h74
                refine condC_intro (fun h80 => ?_) (fun h80 => ?_)
                · rw [if_pos h80] at hM
                  refine spQA h80 ?_
                  have nh80 := nzQ h80
                  have hM0 := hM; clear hM; obtain ⟨x81, hx82, hM⟩ := letk_opn hM0; clear hM0
                  have hcx81 := specielaw47_none_ok  (x15.1) (by (have hf := few_ok (hx6.symm.trans nh8); first | exact okQ_nil | (rw [hx13]; exact okQ_New) | (rw [hx16]; exact okQ_Block hf) | (rw [hx19]; exact okQ_Go hf) | exact hf | (show okQ x47.Queue; rw [hx48]; exact hf)))
                  rw [← hx82] at hcx81
                  refine callC_give hcx81 clQ clQ (fun hw83 => ?_)
                  replace hw83 := nzQ hw83
                  refine spQ ?_
                  refine guardC_f (fun h84 => ?_) (fun h84 => ?_)
                  · rw [if_neg (ne_true h84)] at hM
                    refine spQA h84 ?_
                    have nh84 := nzQ h84
                    refine condC_intro (fun h85 => ?_) (fun h85 => ?_)
                    · rw [if_pos h85] at hM
                      refine spQA h85 ?_
                      have nh85 := nzQ h85
                      subst hM
                      exact retC_view (lfQA (And.intro h4 (And.intro h8 (And.intro h25 (And.intro h42 (And.intro h74 (And.intro h80 (And.intro h84 h85))))))))
                    · rw [if_neg (ne_true h85)] at hM
                      refine spQA h85 ?_
                      have nh85 := nzQ h85
                      exact cut_intro (⟨[(2, .int .i64 now), (3, .ptr 0 0), (11, .ptr 3 0), (12, .int .i64 x18.2)], [(0, .var 40 true (.agg (.int .u8 (gt m.Name 0) :: .int .u8 (gt m.Name 1) :: .int .u8 (gt m.Name 2) :: .int .u8 (gt m.Name 3) :: .int .u8 (gt m.Name 4) :: .int .u8 (gt m.Name 5) :: .int .u8 (gt m.Name 6) :: .int .u8 (gt m.Name 7) :: .int .u8 (gt m.Name 8) :: .int .u8 (gt m.Name 9) :: .int .u8 (gt m.Name 10) :: .int .u8 (gt m.Name 11) :: .int .u8 (gt m.Name 12) :: .int .u8 (gt m.Name 13) :: .int .u8 (gt m.Name 14) :: .int .u8 (gt m.Name 15) :: .int .u8 (gt m.Name 16) :: .int .u8 (gt m.Name 17) :: .int .u8 (gt m.Name 18) :: .int .u8 (gt m.Name 19) :: .int .u8 (gt m.Name 20) :: .int .u8 (gt m.Name 21) :: .int .u8 (gt m.Name 22) :: .int .u8 (gt m.Name 23) :: .int .u8 (gt m.Name 24) :: .int .u8 (gt m.Name 25) :: .int .u8 (gt m.Name 26) :: .int .u8 (gt m.Name 27) :: .int .u8 (gt m.Name 28) :: .int .u8 (gt m.Name 29) :: .int .u8 (gt m.Name 30) :: .int .u8 (gt m.Name 31) :: .sl none 3 true (m.Policy.Rules.map e_api_Rule) :: .sl none 35 true (m.Open.map e_api_Invoice) :: .int .i64 m.Next :: .sl none 4 true (m.Queue.map e_api_Payment) :: .sl none 35 true (m.Paid.map e_api_Invoice) :: .int .i64 m.Total :: .sl none 1 false (m.Blocked.map (V.int .i64)) :: .int .i64 m.Now :: []))), (3, .var 40 true (.agg (.int .u8 (gt x18.1.Name 0) :: .int .u8 (gt x18.1.Name 1) :: .int .u8 (gt x18.1.Name 2) :: .int .u8 (gt x18.1.Name 3) :: .int .u8 (gt x18.1.Name 4) :: .int .u8 (gt x18.1.Name 5) :: .int .u8 (gt x18.1.Name 6) :: .int .u8 (gt x18.1.Name 7) :: .int .u8 (gt x18.1.Name 8) :: .int .u8 (gt x18.1.Name 9) :: .int .u8 (gt x18.1.Name 10) :: .int .u8 (gt x18.1.Name 11) :: .int .u8 (gt x18.1.Name 12) :: .int .u8 (gt x18.1.Name 13) :: .int .u8 (gt x18.1.Name 14) :: .int .u8 (gt x18.1.Name 15) :: .int .u8 (gt x18.1.Name 16) :: .int .u8 (gt x18.1.Name 17) :: .int .u8 (gt x18.1.Name 18) :: .int .u8 (gt x18.1.Name 19) :: .int .u8 (gt x18.1.Name 20) :: .int .u8 (gt x18.1.Name 21) :: .int .u8 (gt x18.1.Name 22) :: .int .u8 (gt x18.1.Name 23) :: .int .u8 (gt x18.1.Name 24) :: .int .u8 (gt x18.1.Name 25) :: .int .u8 (gt x18.1.Name 26) :: .int .u8 (gt x18.1.Name 27) :: .int .u8 (gt x18.1.Name 28) :: .int .u8 (gt x18.1.Name 29) :: .int .u8 (gt x18.1.Name 30) :: .int .u8 (gt x18.1.Name 31) :: .sl none 3 true (x18.1.Policy.Rules.map e_api_Rule) :: .sl none 35 true (x18.1.Open.map e_api_Invoice) :: .int .i64 x18.1.Next :: .sl none 4 true (x18.1.Queue.map e_api_Payment) :: .sl none 35 true (x18.1.Paid.map e_api_Invoice) :: .int .i64 x18.1.Total :: .sl none 1 false (x18.1.Blocked.map (V.int .i64)) :: .int .i64 x18.1.Now :: [])))], 8⟩ : St) sbQ sbQ (hcut54 _ ⟨(), rfl, trivial, hM⟩)
                  · rw [if_pos h84] at hM
                    refine spQA h84 ?_
                    have nh84 := nzQ h84
                    subst hM
                    exact retC_view (lfQA (And.intro h4 (And.intro h8 (And.intro h25 (And.intro h42 (And.intro h74 (And.intro h80 h84)))))))
                · rw [if_neg (ne_true h80)] at hM
                  refine spQA h80 ?_
                  have nh80 := nzQ h80
                  refine condC_intro (fun h86 => ?_) (fun h86 => ?_)
                  · rw [if_pos h86] at hM
                    refine spQA h86 ?_
                    have nh86 := nzQ h86
                    have hM0 := hM; clear hM; obtain ⟨x87, hx88, hM⟩ := letk_opn hM0; clear hM0
                    have hcx87 := specielaw47_none_ok  (x15.1) (by (have hf := few_ok (hx6.symm.trans nh8); first | exact okQ_nil | (rw [hx13]; exact okQ_New) | (rw [hx16]; exact okQ_Block hf) | (rw [hx19]; exact okQ_Go hf) | exact hf | (show okQ x47.Queue; rw [hx48]; exact hf)))
                    rw [← hx88] at hcx87
                    refine callC_give hcx87 clQ clQ (fun hw89 => ?_)
                    replace hw89 := nzQ hw89
                    refine spQ ?_
                    refine guardC_f (fun h90 => ?_) (fun h90 => ?_)
                    · rw [if_neg (ne_true h90)] at hM
                      refine spQA h90 ?_
                      have nh90 := nzQ h90
                      refine condC_intro (fun h91 => ?_) (fun h91 => ?_)
                      · rw [if_pos h91] at hM
                        refine spQA h91 ?_
                        have nh91 := nzQ h91
                        subst hM
                        exact retC_view (lfQA (And.intro h4 (And.intro h8 (And.intro h25 (And.intro h42 (And.intro h74 (And.intro h80 (And.intro h86 (And.intro h90 h91)))))))))
                      · rw [if_neg (ne_true h91)] at hM
                        refine spQA h91 ?_
                        have nh91 := nzQ h91
                        exact cut_intro (⟨[(2, .int .i64 now), (3, .ptr 0 0), (11, .ptr 3 0), (12, .int .i64 x18.2)], [(0, .var 40 true (.agg (.int .u8 (gt m.Name 0) :: .int .u8 (gt m.Name 1) :: .int .u8 (gt m.Name 2) :: .int .u8 (gt m.Name 3) :: .int .u8 (gt m.Name 4) :: .int .u8 (gt m.Name 5) :: .int .u8 (gt m.Name 6) :: .int .u8 (gt m.Name 7) :: .int .u8 (gt m.Name 8) :: .int .u8 (gt m.Name 9) :: .int .u8 (gt m.Name 10) :: .int .u8 (gt m.Name 11) :: .int .u8 (gt m.Name 12) :: .int .u8 (gt m.Name 13) :: .int .u8 (gt m.Name 14) :: .int .u8 (gt m.Name 15) :: .int .u8 (gt m.Name 16) :: .int .u8 (gt m.Name 17) :: .int .u8 (gt m.Name 18) :: .int .u8 (gt m.Name 19) :: .int .u8 (gt m.Name 20) :: .int .u8 (gt m.Name 21) :: .int .u8 (gt m.Name 22) :: .int .u8 (gt m.Name 23) :: .int .u8 (gt m.Name 24) :: .int .u8 (gt m.Name 25) :: .int .u8 (gt m.Name 26) :: .int .u8 (gt m.Name 27) :: .int .u8 (gt m.Name 28) :: .int .u8 (gt m.Name 29) :: .int .u8 (gt m.Name 30) :: .int .u8 (gt m.Name 31) :: .sl none 3 true (m.Policy.Rules.map e_api_Rule) :: .sl none 35 true (m.Open.map e_api_Invoice) :: .int .i64 m.Next :: .sl none 4 true (m.Queue.map e_api_Payment) :: .sl none 35 true (m.Paid.map e_api_Invoice) :: .int .i64 m.Total :: .sl none 1 false (m.Blocked.map (V.int .i64)) :: .int .i64 m.Now :: []))), (3, .var 40 true (.agg (.int .u8 (gt x18.1.Name 0) :: .int .u8 (gt x18.1.Name 1) :: .int .u8 (gt x18.1.Name 2) :: .int .u8 (gt x18.1.Name 3) :: .int .u8 (gt x18.1.Name 4) :: .int .u8 (gt x18.1.Name 5) :: .int .u8 (gt x18.1.Name 6) :: .int .u8 (gt x18.1.Name 7) :: .int .u8 (gt x18.1.Name 8) :: .int .u8 (gt x18.1.Name 9) :: .int .u8 (gt x18.1.Name 10) :: .int .u8 (gt x18.1.Name 11) :: .int .u8 (gt x18.1.Name 12) :: .int .u8 (gt x18.1.Name 13) :: .int .u8 (gt x18.1.Name 14) :: .int .u8 (gt x18.1.Name 15) :: .int .u8 (gt x18.1.Name 16) :: .int .u8 (gt x18.1.Name 17) :: .int .u8 (gt x18.1.Name 18) :: .int .u8 (gt x18.1.Name 19) :: .int .u8 (gt x18.1.Name 20) :: .int .u8 (gt x18.1.Name 21) :: .int .u8 (gt x18.1.Name 22) :: .int .u8 (gt x18.1.Name 23) :: .int .u8 (gt x18.1.Name 24) :: .int .u8 (gt x18.1.Name 25) :: .int .u8 (gt x18.1.Name 26) :: .int .u8 (gt x18.1.Name 27) :: .int .u8 (gt x18.1.Name 28) :: .int .u8 (gt x18.1.Name 29) :: .int .u8 (gt x18.1.Name 30) :: .int .u8 (gt x18.1.Name 31) :: .sl none 3 true (x18.1.Policy.Rules.map e_api_Rule) :: .sl none 35 true (x18.1.Open.map e_api_Invoice) :: .int .i64 x18.1.Next :: .sl none 4 true (x18.1.Queue.map e_api_Payment) :: .sl none 35 true (x18.1.Paid.map e_api_Invoice) :: .int .i64 x18.1.Total :: .sl none 1 false (x18.1.Blocked.map (V.int .i64)) :: .int .i64 x18.1.Now :: [])))], 8⟩ : St) sbQ sbQ (hcut54 _ ⟨(), rfl, trivial, hM⟩)
                    · rw [if_pos h90] at hM
                      refine spQA h90 ?_
                      have nh90 := nzQ h90
                      subst hM
                      exact retC_view (lfQA (And.intro h4 (And.intro h8 (And.intro h25 (And.intro h42 (And.intro h74 (And.intro h80 (And.intro h86 h90))))))))
                  · rw [if_neg (ne_true h86)] at hM
                    refine spQA h86 ?_
                    have nh86 := nzQ h86
                    have hM0 := hM; clear hM; obtain ⟨x92, hx93, hM⟩ := letk_opn hM0; clear hM0
                    have hcx92 := specieref47_Same_ok  (x15.1) ({ Name := x47.Name, Policy := x47.Policy, Open := x47.Open, Next := x47.Next, Queue := x47.Queue, Paid := x47.Paid, Total := x47.Total, Blocked := x51, Now := x47.Now } : S_api_Merchant) (by (have hf := few_ok (hx6.symm.trans nh8); first | exact okQ_nil | (rw [hx13]; exact okQ_New) | (rw [hx16]; exact okQ_Block hf) | (rw [hx19]; exact okQ_Go hf) | exact hf | (show okQ x47.Queue; rw [hx48]; exact hf))) (by (have hf := few_ok (hx6.symm.trans nh8); first | exact okQ_nil | (rw [hx13]; exact okQ_New) | (rw [hx16]; exact okQ_Block hf) | (rw [hx19]; exact okQ_Go hf) | exact hf | (show okQ x47.Queue; rw [hx48]; exact hf)))
                    rw [← hx93] at hcx92
                    refine callC_look hcx92 clQ clQ (fun hw94 => ?_)
                    replace hw94 := nzQ hw94
                    refine spQ ?_
                    refine guardC_f (fun h95 => ?_) (fun h95 => ?_)
                    · rw [if_neg (ne_true h95)] at hM
                      refine spQA h95 ?_
                      have nh95 := nzQ h95
                      refine condC_intro (fun h96 => ?_) (fun h96 => ?_)
                      · rw [if_pos h96] at hM
                        refine spQA h96 ?_
                        have nh96 := nzQ h96
                        subst hM
                        exact retC_view (lfQA (And.intro h4 (And.intro h8 (And.intro h25 (And.intro h42 (And.intro h74 (And.intro h80 (And.intro h86 (And.intro h95 h96)))))))))
                      · rw [if_neg (ne_true h96)] at hM
                        refine spQA h96 ?_
                        have nh96 := nzQ h96
                        exact cut_intro (⟨[(2, .int .i64 now), (3, .ptr 0 0), (11, .ptr 3 0), (12, .int .i64 x18.2)], [(0, .var 40 true (.agg (.int .u8 (gt m.Name 0) :: .int .u8 (gt m.Name 1) :: .int .u8 (gt m.Name 2) :: .int .u8 (gt m.Name 3) :: .int .u8 (gt m.Name 4) :: .int .u8 (gt m.Name 5) :: .int .u8 (gt m.Name 6) :: .int .u8 (gt m.Name 7) :: .int .u8 (gt m.Name 8) :: .int .u8 (gt m.Name 9) :: .int .u8 (gt m.Name 10) :: .int .u8 (gt m.Name 11) :: .int .u8 (gt m.Name 12) :: .int .u8 (gt m.Name 13) :: .int .u8 (gt m.Name 14) :: .int .u8 (gt m.Name 15) :: .int .u8 (gt m.Name 16) :: .int .u8 (gt m.Name 17) :: .int .u8 (gt m.Name 18) :: .int .u8 (gt m.Name 19) :: .int .u8 (gt m.Name 20) :: .int .u8 (gt m.Name 21) :: .int .u8 (gt m.Name 22) :: .int .u8 (gt m.Name 23) :: .int .u8 (gt m.Name 24) :: .int .u8 (gt m.Name 25) :: .int .u8 (gt m.Name 26) :: .int .u8 (gt m.Name 27) :: .int .u8 (gt m.Name 28) :: .int .u8 (gt m.Name 29) :: .int .u8 (gt m.Name 30) :: .int .u8 (gt m.Name 31) :: .sl none 3 true (m.Policy.Rules.map e_api_Rule) :: .sl none 35 true (m.Open.map e_api_Invoice) :: .int .i64 m.Next :: .sl none 4 true (m.Queue.map e_api_Payment) :: .sl none 35 true (m.Paid.map e_api_Invoice) :: .int .i64 m.Total :: .sl none 1 false (m.Blocked.map (V.int .i64)) :: .int .i64 m.Now :: []))), (3, .var 40 true (.agg (.int .u8 (gt x18.1.Name 0) :: .int .u8 (gt x18.1.Name 1) :: .int .u8 (gt x18.1.Name 2) :: .int .u8 (gt x18.1.Name 3) :: .int .u8 (gt x18.1.Name 4) :: .int .u8 (gt x18.1.Name 5) :: .int .u8 (gt x18.1.Name 6) :: .int .u8 (gt x18.1.Name 7) :: .int .u8 (gt x18.1.Name 8) :: .int .u8 (gt x18.1.Name 9) :: .int .u8 (gt x18.1.Name 10) :: .int .u8 (gt x18.1.Name 11) :: .int .u8 (gt x18.1.Name 12) :: .int .u8 (gt x18.1.Name 13) :: .int .u8 (gt x18.1.Name 14) :: .int .u8 (gt x18.1.Name 15) :: .int .u8 (gt x18.1.Name 16) :: .int .u8 (gt x18.1.Name 17) :: .int .u8 (gt x18.1.Name 18) :: .int .u8 (gt x18.1.Name 19) :: .int .u8 (gt x18.1.Name 20) :: .int .u8 (gt x18.1.Name 21) :: .int .u8 (gt x18.1.Name 22) :: .int .u8 (gt x18.1.Name 23) :: .int .u8 (gt x18.1.Name 24) :: .int .u8 (gt x18.1.Name 25) :: .int .u8 (gt x18.1.Name 26) :: .int .u8 (gt x18.1.Name 27) :: .int .u8 (gt x18.1.Name 28) :: .int .u8 (gt x18.1.Name 29) :: .int .u8 (gt x18.1.Name 30) :: .int .u8 (gt x18.1.Name 31) :: .sl none 3 true (x18.1.Policy.Rules.map e_api_Rule) :: .sl none 35 true (x18.1.Open.map e_api_Invoice) :: .int .i64 x18.1.Next :: .sl none 4 true (x18.1.Queue.map e_api_Payment) :: .sl none 35 true (x18.1.Paid.map e_api_Invoice) :: .int .i64 x18.1.Total :: .sl none 1 false (x18.1.Blocked.map (V.int .i64)) :: .int .i64 x18.1.Now :: [])))], 8⟩ : St) sbQ sbQ (hcut54 _ ⟨(), rfl, trivial, hM⟩)
                    · rw [if_pos h95] at hM
                      refine spQA h95 ?_
                      have nh95 := nzQ h95
                      subst hM
                      exact retC_view (lfQA (And.intro h4 (And.intro h8 (And.intro h25 (And.intro h42 (And.intro h74 (And.intro h80 (And.intro h86 h95))))))))
      · refine spQ ?_
        have hM0 := hM; clear hM; obtain ⟨x97, hx98, hM⟩ := letk_opn hM0; clear hM0
        have hcx97 := specieref46_Valid_ok  (m.Policy) 
        rw [← hx98] at hcx97
        refine callC_give hcx97 clQ clQ (fun hw99 => ?_)
        replace hw99 := nzQ hw99
        refine spQ ?_
        refine condC_intro (fun h100 => ?_) (fun h100 => ?_)
        · rw [if_pos h100] at hM
          refine spQA h100 ?_
          have nh100 := nzQ h100
          have hM0 := hM; clear hM; obtain ⟨x101, hx102, hM⟩ := letk_opn hM0; clear hM0
          have hcx101 := specielaw47_none_ok  (x12.1) (by (have hf := few_ok (hx6.symm.trans nh8); first | exact okQ_nil | (rw [hx13]; exact okQ_New) | (rw [hx16]; exact okQ_Block hf) | (rw [hx19]; exact okQ_Go hf) | exact hf | (show okQ x47.Queue; rw [hx48]; exact hf)))
          rw [← hx102] at hcx101
          refine callC_give hcx101 clQ clQ (fun hw103 => ?_)
          replace hw103 := nzQ hw103
          refine spQ ?_
          refine guardC_f (fun h104 => ?_) (fun h104 => ?_)
          · rw [if_neg (ne_true h104)] at hM
            refine spQA h104 ?_
            have nh104 := nzQ h104
            refine condC_intro (fun h105 => ?_) (fun h105 => ?_)
            · rw [if_pos h105] at hM
              refine spQA h105 ?_
              have nh105 := nzQ h105
              subst hM
              exact retC_view (lfQA (And.intro h4 (And.intro h8 (And.intro h100 (And.intro h104 h105)))))
            · rw [if_neg (ne_true h105)] at hM
              refine spQA h105 ?_
              have nh105 := nzQ h105
              exact cut_intro (⟨[(1, .int .i64 pseudonym), (2, .int .i64 now), (3, .ptr 0 0), (9, .ptr 2 0), (10, .int .i64 x15.2), (11, .ptr 3 0), (12, .int .i64 x18.2)], [(0, .var 40 true (.agg (.int .u8 (gt m.Name 0) :: .int .u8 (gt m.Name 1) :: .int .u8 (gt m.Name 2) :: .int .u8 (gt m.Name 3) :: .int .u8 (gt m.Name 4) :: .int .u8 (gt m.Name 5) :: .int .u8 (gt m.Name 6) :: .int .u8 (gt m.Name 7) :: .int .u8 (gt m.Name 8) :: .int .u8 (gt m.Name 9) :: .int .u8 (gt m.Name 10) :: .int .u8 (gt m.Name 11) :: .int .u8 (gt m.Name 12) :: .int .u8 (gt m.Name 13) :: .int .u8 (gt m.Name 14) :: .int .u8 (gt m.Name 15) :: .int .u8 (gt m.Name 16) :: .int .u8 (gt m.Name 17) :: .int .u8 (gt m.Name 18) :: .int .u8 (gt m.Name 19) :: .int .u8 (gt m.Name 20) :: .int .u8 (gt m.Name 21) :: .int .u8 (gt m.Name 22) :: .int .u8 (gt m.Name 23) :: .int .u8 (gt m.Name 24) :: .int .u8 (gt m.Name 25) :: .int .u8 (gt m.Name 26) :: .int .u8 (gt m.Name 27) :: .int .u8 (gt m.Name 28) :: .int .u8 (gt m.Name 29) :: .int .u8 (gt m.Name 30) :: .int .u8 (gt m.Name 31) :: .sl none 3 true (m.Policy.Rules.map e_api_Rule) :: .sl none 35 true (m.Open.map e_api_Invoice) :: .int .i64 m.Next :: .sl none 4 true (m.Queue.map e_api_Payment) :: .sl none 35 true (m.Paid.map e_api_Invoice) :: .int .i64 m.Total :: .sl none 1 false (m.Blocked.map (V.int .i64)) :: .int .i64 m.Now :: []))), (2, .var 40 true (.agg (.int .u8 (gt x15.1.Name 0) :: .int .u8 (gt x15.1.Name 1) :: .int .u8 (gt x15.1.Name 2) :: .int .u8 (gt x15.1.Name 3) :: .int .u8 (gt x15.1.Name 4) :: .int .u8 (gt x15.1.Name 5) :: .int .u8 (gt x15.1.Name 6) :: .int .u8 (gt x15.1.Name 7) :: .int .u8 (gt x15.1.Name 8) :: .int .u8 (gt x15.1.Name 9) :: .int .u8 (gt x15.1.Name 10) :: .int .u8 (gt x15.1.Name 11) :: .int .u8 (gt x15.1.Name 12) :: .int .u8 (gt x15.1.Name 13) :: .int .u8 (gt x15.1.Name 14) :: .int .u8 (gt x15.1.Name 15) :: .int .u8 (gt x15.1.Name 16) :: .int .u8 (gt x15.1.Name 17) :: .int .u8 (gt x15.1.Name 18) :: .int .u8 (gt x15.1.Name 19) :: .int .u8 (gt x15.1.Name 20) :: .int .u8 (gt x15.1.Name 21) :: .int .u8 (gt x15.1.Name 22) :: .int .u8 (gt x15.1.Name 23) :: .int .u8 (gt x15.1.Name 24) :: .int .u8 (gt x15.1.Name 25) :: .int .u8 (gt x15.1.Name 26) :: .int .u8 (gt x15.1.Name 27) :: .int .u8 (gt x15.1.Name 28) :: .int .u8 (gt x15.1.Name 29) :: .int .u8 (gt x15.1.Name 30) :: .int .u8 (gt x15.1.Name 31) :: .sl none 3 true (x15.1.Policy.Rules.map e_api_Rule) :: .sl none 35 true (x15.1.Open.map e_api_Invoice) :: .int .i64 x15.1.Next :: .sl none 4 true (x15.1.Queue.map e_api_Payment) :: .sl none 35 true (x15.1.Paid.map e_api_Invoice) :: .int .i64 x15.1.Total :: .sl none 1 false (x15.1.Blocked.map (V.int .i64)) :: .int .i64 x15.1.Now :: []))), (3, .var 40 true (.agg (.int .u8 (gt x18.1.Name 0) :: .int .u8 (gt x18.1.Name 1) :: .int .u8 (gt x18.1.Name 2) :: .int .u8 (gt x18.1.Name 3) :: .int .u8 (gt x18.1.Name 4) :: .int .u8 (gt x18.1.Name 5) :: .int .u8 (gt x18.1.Name 6) :: .int .u8 (gt x18.1.Name 7) :: .int .u8 (gt x18.1.Name 8) :: .int .u8 (gt x18.1.Name 9) :: .int .u8 (gt x18.1.Name 10) :: .int .u8 (gt x18.1.Name 11) :: .int .u8 (gt x18.1.Name 12) :: .int .u8 (gt x18.1.Name 13) :: .int .u8 (gt x18.1.Name 14) :: .int .u8 (gt x18.1.Name 15) :: .int .u8 (gt x18.1.Name 16) :: .int .u8 (gt x18.1.Name 17) :: .int .u8 (gt x18.1.Name 18) :: .int .u8 (gt x18.1.Name 19) :: .int .u8 (gt x18.1.Name 20) :: .int .u8 (gt x18.1.Name 21) :: .int .u8 (gt x18.1.Name 22) :: .int .u8 (gt x18.1.Name 23) :: .int .u8 (gt x18.1.Name 24) :: .int .u8 (gt x18.1.Name 25) :: .int .u8 (gt x18.1.Name 26) :: .int .u8 (gt x18.1.Name 27) :: .int .u8 (gt x18.1.Name 28) :: .int .u8 (gt x18.1.Name 29) :: .int .u8 (gt x18.1.Name 30) :: .int .u8 (gt x18.1.Name 31) :: .sl none 3 true (x18.1.Policy.Rules.map e_api_Rule) :: .sl none 35 true (x18.1.Open.map e_api_Invoice) :: .int .i64 x18.1.Next :: .sl none 4 true (x18.1.Queue.map e_api_Payment) :: .sl none 35 true (x18.1.Paid.map e_api_Invoice) :: .int .i64 x18.1.Total :: .sl none 1 false (x18.1.Blocked.map (V.int .i64)) :: .int .i64 x18.1.Now :: [])))], 4⟩ : St) sbQ sbQ (hcut21 _ ⟨(), rfl, trivial, hM⟩)
          · rw [if_pos h104] at hM
            refine spQA h104 ?_
            have nh104 := nzQ h104
            subst hM
            exact retC_view (lfQA (And.intro h4 (And.intro h8 (And.intro h100 h104))))
        · rw [if_neg (ne_true h100)] at hM
          refine spQA h100 ?_
          have nh100 := nzQ h100
          have hM0 := hM; clear hM; obtain ⟨x106, hx107, hM⟩ := letk_opn hM0; clear hM0
          have hcx106 := specieref47_Same_ok  (x12.1) ({ Name := m.Name, Policy := m.Policy, Open := ([] : List S_api_Invoice), Next := 0, Queue := ([] : List S_api_Payment), Paid := ([] : List S_api_Invoice), Total := 0, Blocked := ([] : List Int), Now := 0 } : S_api_Merchant) (by (have hf := few_ok (hx6.symm.trans nh8); first | exact okQ_nil | (rw [hx13]; exact okQ_New) | (rw [hx16]; exact okQ_Block hf) | (rw [hx19]; exact okQ_Go hf) | exact hf | (show okQ x47.Queue; rw [hx48]; exact hf))) (by (have hf := few_ok (hx6.symm.trans nh8); first | exact okQ_nil | (rw [hx13]; exact okQ_New) | (rw [hx16]; exact okQ_Block hf) | (rw [hx19]; exact okQ_Go hf) | exact hf | (show okQ x47.Queue; rw [hx48]; exact hf)))
          rw [← hx107] at hcx106
          refine callC_give hcx106 clQ clQ (fun hw108 => ?_)
          replace hw108 := nzQ hw108
          refine spQ ?_
          refine guardC_f (fun h109 => ?_) (fun h109 => ?_)
          · rw [if_neg (ne_true h109)] at hM
            refine spQA h109 ?_
            have nh109 := nzQ h109
            refine condC_intro (fun h110 => ?_) (fun h110 => ?_)
            · rw [if_pos h110] at hM
              refine spQA h110 ?_
              have nh110 := nzQ h110
              subst hM
              exact retC_view (lfQA (And.intro h4 (And.intro h8 (And.intro h100 (And.intro h109 h110)))))
            · rw [if_neg (ne_true h110)] at hM
              refine spQA h110 ?_
              have nh110 := nzQ h110
              exact cut_intro (⟨[(1, .int .i64 pseudonym), (2, .int .i64 now), (3, .ptr 0 0), (9, .ptr 2 0), (10, .int .i64 x15.2), (11, .ptr 3 0), (12, .int .i64 x18.2)], [(0, .var 40 true (.agg (.int .u8 (gt m.Name 0) :: .int .u8 (gt m.Name 1) :: .int .u8 (gt m.Name 2) :: .int .u8 (gt m.Name 3) :: .int .u8 (gt m.Name 4) :: .int .u8 (gt m.Name 5) :: .int .u8 (gt m.Name 6) :: .int .u8 (gt m.Name 7) :: .int .u8 (gt m.Name 8) :: .int .u8 (gt m.Name 9) :: .int .u8 (gt m.Name 10) :: .int .u8 (gt m.Name 11) :: .int .u8 (gt m.Name 12) :: .int .u8 (gt m.Name 13) :: .int .u8 (gt m.Name 14) :: .int .u8 (gt m.Name 15) :: .int .u8 (gt m.Name 16) :: .int .u8 (gt m.Name 17) :: .int .u8 (gt m.Name 18) :: .int .u8 (gt m.Name 19) :: .int .u8 (gt m.Name 20) :: .int .u8 (gt m.Name 21) :: .int .u8 (gt m.Name 22) :: .int .u8 (gt m.Name 23) :: .int .u8 (gt m.Name 24) :: .int .u8 (gt m.Name 25) :: .int .u8 (gt m.Name 26) :: .int .u8 (gt m.Name 27) :: .int .u8 (gt m.Name 28) :: .int .u8 (gt m.Name 29) :: .int .u8 (gt m.Name 30) :: .int .u8 (gt m.Name 31) :: .sl none 3 true (m.Policy.Rules.map e_api_Rule) :: .sl none 35 true (m.Open.map e_api_Invoice) :: .int .i64 m.Next :: .sl none 4 true (m.Queue.map e_api_Payment) :: .sl none 35 true (m.Paid.map e_api_Invoice) :: .int .i64 m.Total :: .sl none 1 false (m.Blocked.map (V.int .i64)) :: .int .i64 m.Now :: []))), (2, .var 40 true (.agg (.int .u8 (gt x15.1.Name 0) :: .int .u8 (gt x15.1.Name 1) :: .int .u8 (gt x15.1.Name 2) :: .int .u8 (gt x15.1.Name 3) :: .int .u8 (gt x15.1.Name 4) :: .int .u8 (gt x15.1.Name 5) :: .int .u8 (gt x15.1.Name 6) :: .int .u8 (gt x15.1.Name 7) :: .int .u8 (gt x15.1.Name 8) :: .int .u8 (gt x15.1.Name 9) :: .int .u8 (gt x15.1.Name 10) :: .int .u8 (gt x15.1.Name 11) :: .int .u8 (gt x15.1.Name 12) :: .int .u8 (gt x15.1.Name 13) :: .int .u8 (gt x15.1.Name 14) :: .int .u8 (gt x15.1.Name 15) :: .int .u8 (gt x15.1.Name 16) :: .int .u8 (gt x15.1.Name 17) :: .int .u8 (gt x15.1.Name 18) :: .int .u8 (gt x15.1.Name 19) :: .int .u8 (gt x15.1.Name 20) :: .int .u8 (gt x15.1.Name 21) :: .int .u8 (gt x15.1.Name 22) :: .int .u8 (gt x15.1.Name 23) :: .int .u8 (gt x15.1.Name 24) :: .int .u8 (gt x15.1.Name 25) :: .int .u8 (gt x15.1.Name 26) :: .int .u8 (gt x15.1.Name 27) :: .int .u8 (gt x15.1.Name 28) :: .int .u8 (gt x15.1.Name 29) :: .int .u8 (gt x15.1.Name 30) :: .int .u8 (gt x15.1.Name 31) :: .sl none 3 true (x15.1.Policy.Rules.map e_api_Rule) :: .sl none 35 true (x15.1.Open.map e_api_Invoice) :: .int .i64 x15.1.Next :: .sl none 4 true (x15.1.Queue.map e_api_Payment) :: .sl none 35 true (x15.1.Paid.map e_api_Invoice) :: .int .i64 x15.1.Total :: .sl none 1 false (x15.1.Blocked.map (V.int .i64)) :: .int .i64 x15.1.Now :: []))), (3, .var 40 true (.agg (.int .u8 (gt x18.1.Name 0) :: .int .u8 (gt x18.1.Name 1) :: .int .u8 (gt x18.1.Name 2) :: .int .u8 (gt x18.1.Name 3) :: .int .u8 (gt x18.1.Name 4) :: .int .u8 (gt x18.1.Name 5) :: .int .u8 (gt x18.1.Name 6) :: .int .u8 (gt x18.1.Name 7) :: .int .u8 (gt x18.1.Name 8) :: .int .u8 (gt x18.1.Name 9) :: .int .u8 (gt x18.1.Name 10) :: .int .u8 (gt x18.1.Name 11) :: .int .u8 (gt x18.1.Name 12) :: .int .u8 (gt x18.1.Name 13) :: .int .u8 (gt x18.1.Name 14) :: .int .u8 (gt x18.1.Name 15) :: .int .u8 (gt x18.1.Name 16) :: .int .u8 (gt x18.1.Name 17) :: .int .u8 (gt x18.1.Name 18) :: .int .u8 (gt x18.1.Name 19) :: .int .u8 (gt x18.1.Name 20) :: .int .u8 (gt x18.1.Name 21) :: .int .u8 (gt x18.1.Name 22) :: .int .u8 (gt x18.1.Name 23) :: .int .u8 (gt x18.1.Name 24) :: .int .u8 (gt x18.1.Name 25) :: .int .u8 (gt x18.1.Name 26) :: .int .u8 (gt x18.1.Name 27) :: .int .u8 (gt x18.1.Name 28) :: .int .u8 (gt x18.1.Name 29) :: .int .u8 (gt x18.1.Name 30) :: .int .u8 (gt x18.1.Name 31) :: .sl none 3 true (x18.1.Policy.Rules.map e_api_Rule) :: .sl none 35 true (x18.1.Open.map e_api_Invoice) :: .int .i64 x18.1.Next :: .sl none 4 true (x18.1.Queue.map e_api_Payment) :: .sl none 35 true (x18.1.Paid.map e_api_Invoice) :: .int .i64 x18.1.Total :: .sl none 1 false (x18.1.Blocked.map (V.int .i64)) :: .int .i64 x18.1.Now :: [])))], 4⟩ : St) sbQ sbQ (hcut21 _ ⟨(), rfl, trivial, hM⟩)
          · rw [if_pos h109] at hM
            refine spQA h109 ?_
            have nh109 := nzQ h109
            subst hM
            exact retC_view (lfQA (And.intro h4 (And.intro h8 (And.intro h100 h109))))
  · rw [if_pos h4] at hM
    refine spQA h4 ?_
    have nh4 := nzQ h4
    have hM0 := hM; clear hM; obtain ⟨x111, hx112, hM⟩ := letk_opn hM0; clear hM0
    have hcx111 := specielaw47_awake_ok   
    rw [← hx112] at hcx111
    refine callC_give hcx111 clQ clQ (fun hw113 => ?_)
    replace hw113 := nzQ hw113
    refine spQ ?_
    subst hM
    exact retC_view (lfQA h4)
end Go.Proofs.Ytdidhdgdklkgeaa
