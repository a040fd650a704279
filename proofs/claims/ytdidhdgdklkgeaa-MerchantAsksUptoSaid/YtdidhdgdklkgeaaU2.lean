/- Each function computes its model (printed by program). -/
import Derived.Test.YtdidhdgdklkgeaaU1
namespace Go.Proofs.Ytdidhdgdklkgeaa
open Go.RowKit
set_option linter.unusedSimpArgs false
set_option maxHeartbeats 2000000 in
set_option maxRecDepth 100000 in
theorem specieref47_Valid_ok  (m : S_api_Merchant)  : CallOk En 10 [.agg (.int .u8 (gt m.Name 0) :: .int .u8 (gt m.Name 1) :: .int .u8 (gt m.Name 2) :: .int .u8 (gt m.Name 3) :: .int .u8 (gt m.Name 4) :: .int .u8 (gt m.Name 5) :: .int .u8 (gt m.Name 6) :: .int .u8 (gt m.Name 7) :: .int .u8 (gt m.Name 8) :: .int .u8 (gt m.Name 9) :: .int .u8 (gt m.Name 10) :: .int .u8 (gt m.Name 11) :: .int .u8 (gt m.Name 12) :: .int .u8 (gt m.Name 13) :: .int .u8 (gt m.Name 14) :: .int .u8 (gt m.Name 15) :: .int .u8 (gt m.Name 16) :: .int .u8 (gt m.Name 17) :: .int .u8 (gt m.Name 18) :: .int .u8 (gt m.Name 19) :: .int .u8 (gt m.Name 20) :: .int .u8 (gt m.Name 21) :: .int .u8 (gt m.Name 22) :: .int .u8 (gt m.Name 23) :: .int .u8 (gt m.Name 24) :: .int .u8 (gt m.Name 25) :: .int .u8 (gt m.Name 26) :: .int .u8 (gt m.Name 27) :: .int .u8 (gt m.Name 28) :: .int .u8 (gt m.Name 29) :: .int .u8 (gt m.Name 30) :: .int .u8 (gt m.Name 31) :: .sl none 3 true (m.Policy.Rules.map e_api_Rule) :: .sl none 35 true (m.Open.map e_api_Invoice) :: .int .i64 m.Next :: .sl none 4 true (m.Queue.map e_api_Payment) :: .sl none 35 true (m.Paid.map e_api_Invoice) :: .int .i64 m.Total :: .sl none 1 false (m.Blocked.map (V.int .i64)) :: .int .i64 m.Now :: [])] (.bool (specieref47_Valid m)) [] := by
  generalize hM : specieref47_Valid m = r
  rw [specieref47_Valid.eq_1] at hM
  refine enterV En_ok En_mo noJ Try.func10 rfl Try.ntmps10 (by kernel_rfl) fun hw => ct_start ?_
  refine spQ ?_
  replace hw := nzQ hw
  have hM0 := hM; clear hM; obtain ⟨x1, hx2, hM⟩ := letk_opn hM0; clear hM0
  have hcx1 := specieref46_Valid_ok  (m.Policy) 
  rw [← hx2] at hcx1
  refine callC_give hcx1 clQ clQ (fun hw3 => ?_)
  replace hw3 := nzQ hw3
  refine spQ ?_
  refine guardC_f (fun h4 => ?_) (fun h4 => ?_)
  · rw [if_neg (ne_true h4)] at hM
    refine spQA h4 ?_
    have nh4 := nzQ h4
    refine guardC_f (fun h5 => ?_) (fun h5 => ?_)
    · rw [if_neg (ne_true h5)] at hM
      refine spQA h5 ?_
      have nh5 := nzQ h5
      refine guardC_f (fun h6 => ?_) (fun h6 => ?_)
      · rw [if_neg (ne_true h6)] at hM
        refine spQA h6 ?_
        have nh6 := nzQ h6
        refine guardC_f (fun h7 => ?_) (fun h7 => ?_)
        · rw [if_neg (ne_true h7)] at hM
          refine spQA h7 ?_
          have nh7 := nzQ h7
          refine guardC_f (fun h8 => ?_) (fun h8 => ?_)
          · rw [if_neg (ne_true h8)] at hM
            refine spQA h8 ?_
            have nh8 := nzQ h8
            refine guardC_f (fun h9 => ?_) (fun h9 => ?_)
            · rw [if_neg (ne_true h9)] at hM
              refine spQA h9 ?_
              have nh9 := nzQ h9
              refine guardC_f (fun h10 => ?_) (fun h10 => ?_)
              · rw [if_neg (ne_true h10)] at hM
                refine spQA h10 ?_
                have nh10 := nzQ h10
                refine guardC_f (fun h11 => ?_) (fun h11 => ?_)
                · rw [if_neg (ne_true h11)] at hM
                  refine spQA h11 ?_
                  have nh11 := nzQ h11
                  refine condC_intro (fun h12 => ?_) (fun h12 => ?_)
                  · rw [if_pos h12] at hM
                    refine spQA h12 ?_
                    have nh12 := nzQ h12
                    subst hM
                    exact retC_view (lfQA (And.intro h4 (And.intro h5 (And.intro h6 (And.intro h7 (And.intro h8 (And.intro h9 (And.intro h10 (And.intro h11 h12)))))))))
                  · rw [if_neg (ne_true h12)] at hM
                    refine spQA h12 ?_
                    have nh12 := nzQ h12
                    have hM0 := hM; clear hM; obtain ⟨f13, d13, hf13, hd13, hM⟩ := iter_opn hM0; clear hM0
                    refine ct_loop (fun n S => ∃ p : Int, S = (⟨[(1, .ptr 0 0), (3, .int .i64 p)], [(0, .var 40 true (.agg (.int .u8 (gt m.Name 0) :: .int .u8 (gt m.Name 1) :: .int .u8 (gt m.Name 2) :: .int .u8 (gt m.Name 3) :: .int .u8 (gt m.Name 4) :: .int .u8 (gt m.Name 5) :: .int .u8 (gt m.Name 6) :: .int .u8 (gt m.Name 7) :: .int .u8 (gt m.Name 8) :: .int .u8 (gt m.Name 9) :: .int .u8 (gt m.Name 10) :: .int .u8 (gt m.Name 11) :: .int .u8 (gt m.Name 12) :: .int .u8 (gt m.Name 13) :: .int .u8 (gt m.Name 14) :: .int .u8 (gt m.Name 15) :: .int .u8 (gt m.Name 16) :: .int .u8 (gt m.Name 17) :: .int .u8 (gt m.Name 18) :: .int .u8 (gt m.Name 19) :: .int .u8 (gt m.Name 20) :: .int .u8 (gt m.Name 21) :: .int .u8 (gt m.Name 22) :: .int .u8 (gt m.Name 23) :: .int .u8 (gt m.Name 24) :: .int .u8 (gt m.Name 25) :: .int .u8 (gt m.Name 26) :: .int .u8 (gt m.Name 27) :: .int .u8 (gt m.Name 28) :: .int .u8 (gt m.Name 29) :: .int .u8 (gt m.Name 30) :: .int .u8 (gt m.Name 31) :: .sl none 3 true (m.Policy.Rules.map e_api_Rule) :: .sl none 35 true (m.Open.map e_api_Invoice) :: .int .i64 m.Next :: .sl none 4 true (m.Queue.map e_api_Payment) :: .sl none 35 true (m.Paid.map e_api_Invoice) :: .int .i64 m.Total :: .sl none 1 false (m.Blocked.map (V.int .i64)) :: .int .i64 m.Now :: [])))], 1⟩ : St) ∧ ((0 ≤ p) ∧ (p ≤ (m.Open.length : Int))) ∧ ((m.Open.length : Int) - p).toNat < n ∧ iter n f13 d13 p = r) (((m.Open.length : Int) - 0).toNat + 1) (⟨[(1, .ptr 0 0), (3, .int .i64 0)], [(0, .var 40 true (.agg (.int .u8 (gt m.Name 0) :: .int .u8 (gt m.Name 1) :: .int .u8 (gt m.Name 2) :: .int .u8 (gt m.Name 3) :: .int .u8 (gt m.Name 4) :: .int .u8 (gt m.Name 5) :: .int .u8 (gt m.Name 6) :: .int .u8 (gt m.Name 7) :: .int .u8 (gt m.Name 8) :: .int .u8 (gt m.Name 9) :: .int .u8 (gt m.Name 10) :: .int .u8 (gt m.Name 11) :: .int .u8 (gt m.Name 12) :: .int .u8 (gt m.Name 13) :: .int .u8 (gt m.Name 14) :: .int .u8 (gt m.Name 15) :: .int .u8 (gt m.Name 16) :: .int .u8 (gt m.Name 17) :: .int .u8 (gt m.Name 18) :: .int .u8 (gt m.Name 19) :: .int .u8 (gt m.Name 20) :: .int .u8 (gt m.Name 21) :: .int .u8 (gt m.Name 22) :: .int .u8 (gt m.Name 23) :: .int .u8 (gt m.Name 24) :: .int .u8 (gt m.Name 25) :: .int .u8 (gt m.Name 26) :: .int .u8 (gt m.Name 27) :: .int .u8 (gt m.Name 28) :: .int .u8 (gt m.Name 29) :: .int .u8 (gt m.Name 30) :: .int .u8 (gt m.Name 31) :: .sl none 3 true (m.Policy.Rules.map e_api_Rule) :: .sl none 35 true (m.Open.map e_api_Invoice) :: .int .i64 m.Next :: .sl none 4 true (m.Queue.map e_api_Payment) :: .sl none 35 true (m.Paid.map e_api_Invoice) :: .int .i64 m.Total :: .sl none 1 false (m.Blocked.map (V.int .i64)) :: .int .i64 m.Now :: [])))], 1⟩ : St) sbQ sbQ ⟨0, rfl, ⟨omQ, omQ⟩, (Nat.lt_succ_self _), hM⟩ ?_
                    clear hM
                    rintro n13 S ⟨p13, rfl, hfa13, hm13, hM⟩
                    have hM0 := hM; clear hM; obtain ⟨ag13, hag13, hM⟩ := iter_step hM0 (by omega) hf13; clear hM0
                    replace hfa13 := nzQ hfa13
                    replace hm13 := nzQ hm13
                    have ha13 : addI .i64 p13 1 = p13 + 1 := add_one omQ omQ
                    refine spQA ha13 ?_
                    refine condC_intro (fun h14 => ?_) (fun h14 => ?_)
                    · rw [if_pos h14] at hM
                      refine spQA (And.intro ha13 h14) ?_
                      have nh14 := nzQ h14
                      refine ct_draw 182 25 [66, 67, 68, 69, 70, 71, 72, 73, 74, 75, 76, 77, 78, 79, 80, 81, 82, 83, 84, 85, 86, 87, 88, 89, 90] [] ([[], [], [1], [], [1, 2, 3], [1, 2, 3, 4], [0, 1, 2, 3, 4, 5], [0, 1, 2, 3, 4, 5, 6], [0, 1, 2, 3, 4, 5, 6, 7], [0, 1, 2, 3, 4, 5, 6, 7, 8], [0, 1, 2, 3, 4, 5, 6, 7, 8, 9], [0, 1, 2, 3, 4, 5, 6, 7, 8, 9, 10], [0, 1, 2, 3, 4, 5, 6, 7, 8, 9, 10, 11], [0, 1, 2, 3, 4, 5, 6, 7, 8, 9, 10, 11, 12], [0, 1, 2, 3, 4, 5, 6, 7, 8, 9, 10, 11], [0, 1, 2, 3, 4, 5, 6, 7, 8, 9, 10, 11, 12, 13, 14], [0, 1, 2, 3, 4, 5, 6, 7, 8, 9, 10, 11, 12, 13, 14, 15], [0, 1, 2, 3, 4, 5, 6, 7, 8, 9, 10, 11, 12, 13, 14, 15, 16], [0, 1, 2, 3, 4, 5, 6, 7, 8, 9, 10, 11], [0, 1, 2, 3, 4, 5, 6, 7, 8, 9, 10, 11, 18], [0, 1, 2, 3, 4, 5, 6, 7, 8, 9, 10, 11], [0, 1, 2, 3, 4, 5, 6, 7, 8, 9, 10, 11, 20], [0, 1, 2, 3, 4, 5, 6, 7, 8, 9, 10, 11, 18, 19, 20, 21], [0, 1, 2, 3, 4, 5, 6, 7, 8, 9, 10, 11, 18, 19, 20, 21, 22], [0, 1, 2, 3, 4, 5, 6, 7, 8, 9, 10, 11, 18, 19, 20, 21, 22, 23]] ++ [List.range 25, List.range 26, List.range 27]) [] (by kernel_rfl) (by exact alQ) ?_
                      refine spQA ha13 ?_
                      refine hbindC_intro omQ ?_
                      have he15 := fun d => elt_mp (l := m.Open) (f := e_api_Invoice) (i := p13) omQ d
                      refine spQA (And.intro ha13 he15) ?_
                      have hM0 := hM; clear hM; obtain ⟨x16, hx17, hM⟩ := letk_opn hM0; clear hM0
                      have hcx16 := specieref47_invoice_ok  m (gt m.Open p13) 
                      rw [← hx17] at hcx16
                      refine hcallC_give hcx16 (clQA (And.intro ha13 he15)) (clQA (And.intro ha13 he15)) ?_
                      refine spQA (And.intro ha13 he15) ?_
                      refine hguardC_f (fun h18 => ?_) (fun h18 => ?_)
                      · rw [if_neg (ne_true h18)] at hM
                        refine spQA (And.intro ha13 (And.intro he15 h18)) ?_
                        have nh18 := nzQ h18
                        refine hguardC_t (fun h19 => ?_) (fun h19 => ?_)
                        · rw [if_pos h19] at hM
                          refine spQA (And.intro ha13 (And.intro he15 h19)) ?_
                          have nh19 := nzQ h19
                          refine hbindC_intro omQ ?_
                          refine spQA (And.intro ha13 he15) ?_
                          have ha20 : subI .i64 p13 1 = (p13 - 1) := sub_ok omQ omQ
                          try simp only [ha20]
                          refine hbindC_intro omQ ?_
                          have he21 := fun d => elt_mp (l := m.Open) (f := e_api_Invoice) (i := (p13 - 1)) omQ d
                          refine spQA (And.intro ha13 (And.intro he15 (And.intro ha20 he21))) ?_
                          refine condC_intro (fun h22 => ?_) (fun h22 => ?_)
                          · rw [if_pos h22] at hM
                            refine spQA (And.intro ha13 (And.intro he15 (And.intro ha20 (And.intro he21 h22)))) ?_
                            have nh22 := nzQ h22
                            subst hM
                            exact retC_view (lfQA (And.intro ha13 (And.intro he15 (And.intro ha20 (And.intro he21 (And.intro h4 (And.intro h5 (And.intro h6 (And.intro h7 (And.intro h8 (And.intro h9 (And.intro h10 (And.intro h11 (And.intro h12 (And.intro h14 (And.intro h18 (And.intro h19 h22)))))))))))))))))
                          · rw [if_neg (ne_true h22)] at hM
                            refine spQA (And.intro ha13 (And.intro he15 (And.intro ha20 (And.intro he21 h22)))) ?_
                            have nh22 := nzQ h22
                            refine lp_intro (n13 - 1) (⟨[(1, .ptr 0 0), (3, .int .i64 (p13 + 1))], [(0, .var 40 true (.agg (.int .u8 (gt m.Name 0) :: .int .u8 (gt m.Name 1) :: .int .u8 (gt m.Name 2) :: .int .u8 (gt m.Name 3) :: .int .u8 (gt m.Name 4) :: .int .u8 (gt m.Name 5) :: .int .u8 (gt m.Name 6) :: .int .u8 (gt m.Name 7) :: .int .u8 (gt m.Name 8) :: .int .u8 (gt m.Name 9) :: .int .u8 (gt m.Name 10) :: .int .u8 (gt m.Name 11) :: .int .u8 (gt m.Name 12) :: .int .u8 (gt m.Name 13) :: .int .u8 (gt m.Name 14) :: .int .u8 (gt m.Name 15) :: .int .u8 (gt m.Name 16) :: .int .u8 (gt m.Name 17) :: .int .u8 (gt m.Name 18) :: .int .u8 (gt m.Name 19) :: .int .u8 (gt m.Name 20) :: .int .u8 (gt m.Name 21) :: .int .u8 (gt m.Name 22) :: .int .u8 (gt m.Name 23) :: .int .u8 (gt m.Name 24) :: .int .u8 (gt m.Name 25) :: .int .u8 (gt m.Name 26) :: .int .u8 (gt m.Name 27) :: .int .u8 (gt m.Name 28) :: .int .u8 (gt m.Name 29) :: .int .u8 (gt m.Name 30) :: .int .u8 (gt m.Name 31) :: .sl none 3 true (m.Policy.Rules.map e_api_Rule) :: .sl none 35 true (m.Open.map e_api_Invoice) :: .int .i64 m.Next :: .sl none 4 true (m.Queue.map e_api_Payment) :: .sl none 35 true (m.Paid.map e_api_Invoice) :: .int .i64 m.Total :: .sl none 1 false (m.Blocked.map (V.int .i64)) :: .int .i64 m.Now :: [])))], 1⟩ : St) (by omega) sbQ sbQ ⟨(p13 + 1), rfl, ⟨omQ, omQ⟩, omQ, iter_again hM hag13⟩
                        · rw [if_neg (ne_true h19)] at hM
                          refine spQA (And.intro ha13 (And.intro he15 h19)) ?_
                          have nh19 := nzQ h19
                          refine lp_intro (n13 - 1) (⟨[(1, .ptr 0 0), (3, .int .i64 (p13 + 1))], [(0, .var 40 true (.agg (.int .u8 (gt m.Name 0) :: .int .u8 (gt m.Name 1) :: .int .u8 (gt m.Name 2) :: .int .u8 (gt m.Name 3) :: .int .u8 (gt m.Name 4) :: .int .u8 (gt m.Name 5) :: .int .u8 (gt m.Name 6) :: .int .u8 (gt m.Name 7) :: .int .u8 (gt m.Name 8) :: .int .u8 (gt m.Name 9) :: .int .u8 (gt m.Name 10) :: .int .u8 (gt m.Name 11) :: .int .u8 (gt m.Name 12) :: .int .u8 (gt m.Name 13) :: .int .u8 (gt m.Name 14) :: .int .u8 (gt m.Name 15) :: .int .u8 (gt m.Name 16) :: .int .u8 (gt m.Name 17) :: .int .u8 (gt m.Name 18) :: .int .u8 (gt m.Name 19) :: .int .u8 (gt m.Name 20) :: .int .u8 (gt m.Name 21) :: .int .u8 (gt m.Name 22) :: .int .u8 (gt m.Name 23) :: .int .u8 (gt m.Name 24) :: .int .u8 (gt m.Name 25) :: .int .u8 (gt m.Name 26) :: .int .u8 (gt m.Name 27) :: .int .u8 (gt m.Name 28) :: .int .u8 (gt m.Name 29) :: .int .u8 (gt m.Name 30) :: .int .u8 (gt m.Name 31) :: .sl none 3 true (m.Policy.Rules.map e_api_Rule) :: .sl none 35 true (m.Open.map e_api_Invoice) :: .int .i64 m.Next :: .sl none 4 true (m.Queue.map e_api_Payment) :: .sl none 35 true (m.Paid.map e_api_Invoice) :: .int .i64 m.Total :: .sl none 1 false (m.Blocked.map (V.int .i64)) :: .int .i64 m.Now :: [])))], 1⟩ : St) (by omega) sbQ sbQ ⟨(p13 + 1), rfl, ⟨omQ, omQ⟩, omQ, iter_again hM hag13⟩
                      · rw [if_pos h18] at hM
                        refine spQA (And.intro ha13 (And.intro he15 h18)) ?_
                        have nh18 := nzQ h18
                        subst hM
                        exact retC_view (lfQA (And.intro ha13 (And.intro he15 (And.intro h4 (And.intro h5 (And.intro h6 (And.intro h7 (And.intro h8 (And.intro h9 (And.intro h10 (And.intro h11 (And.intro h12 (And.intro h14 h18)))))))))))))
                    · rw [if_neg (ne_true h14)] at hM
                      refine spQA (And.intro ha13 h14) ?_
                      have nh14 := nzQ h14
                      have hM0 := hM; clear hM; obtain ⟨f23, d23, hf23, hd23, hM⟩ := iter_opn hM0; clear hM0
                      refine ct_loop (fun n S => ∃ p : Int × Int, S = (⟨[(1, .ptr 0 0), (4, .int .i64 p.1), (5, .int .i64 p.2)], [(0, .var 40 true (.agg (.int .u8 (gt m.Name 0) :: .int .u8 (gt m.Name 1) :: .int .u8 (gt m.Name 2) :: .int .u8 (gt m.Name 3) :: .int .u8 (gt m.Name 4) :: .int .u8 (gt m.Name 5) :: .int .u8 (gt m.Name 6) :: .int .u8 (gt m.Name 7) :: .int .u8 (gt m.Name 8) :: .int .u8 (gt m.Name 9) :: .int .u8 (gt m.Name 10) :: .int .u8 (gt m.Name 11) :: .int .u8 (gt m.Name 12) :: .int .u8 (gt m.Name 13) :: .int .u8 (gt m.Name 14) :: .int .u8 (gt m.Name 15) :: .int .u8 (gt m.Name 16) :: .int .u8 (gt m.Name 17) :: .int .u8 (gt m.Name 18) :: .int .u8 (gt m.Name 19) :: .int .u8 (gt m.Name 20) :: .int .u8 (gt m.Name 21) :: .int .u8 (gt m.Name 22) :: .int .u8 (gt m.Name 23) :: .int .u8 (gt m.Name 24) :: .int .u8 (gt m.Name 25) :: .int .u8 (gt m.Name 26) :: .int .u8 (gt m.Name 27) :: .int .u8 (gt m.Name 28) :: .int .u8 (gt m.Name 29) :: .int .u8 (gt m.Name 30) :: .int .u8 (gt m.Name 31) :: .sl none 3 true (m.Policy.Rules.map e_api_Rule) :: .sl none 35 true (m.Open.map e_api_Invoice) :: .int .i64 m.Next :: .sl none 4 true (m.Queue.map e_api_Payment) :: .sl none 35 true (m.Paid.map e_api_Invoice) :: .int .i64 m.Total :: .sl none 1 false (m.Blocked.map (V.int .i64)) :: .int .i64 m.Now :: [])))], 1⟩ : St) ∧ ((0 ≤ p.2) ∧ (p.2 ≤ (m.Paid.length : Int))) ∧ ((m.Paid.length : Int) - p.2).toNat < n ∧ iter n f23 d23 p = r) (((m.Paid.length : Int) - 0).toNat + 1) (⟨[(1, .ptr 0 0), (4, .int .i64 0), (5, .int .i64 0)], [(0, .var 40 true (.agg (.int .u8 (gt m.Name 0) :: .int .u8 (gt m.Name 1) :: .int .u8 (gt m.Name 2) :: .int .u8 (gt m.Name 3) :: .int .u8 (gt m.Name 4) :: .int .u8 (gt m.Name 5) :: .int .u8 (gt m.Name 6) :: .int .u8 (gt m.Name 7) :: .int .u8 (gt m.Name 8) :: .int .u8 (gt m.Name 9) :: .int .u8 (gt m.Name 10) :: .int .u8 (gt m.Name 11) :: .int .u8 (gt m.Name 12) :: .int .u8 (gt m.Name 13) :: .int .u8 (gt m.Name 14) :: .int .u8 (gt m.Name 15) :: .int .u8 (gt m.Name 16) :: .int .u8 (gt m.Name 17) :: .int .u8 (gt m.Name 18) :: .int .u8 (gt m.Name 19) :: .int .u8 (gt m.Name 20) :: .int .u8 (gt m.Name 21) :: .int .u8 (gt m.Name 22) :: .int .u8 (gt m.Name 23) :: .int .u8 (gt m.Name 24) :: .int .u8 (gt m.Name 25) :: .int .u8 (gt m.Name 26) :: .int .u8 (gt m.Name 27) :: .int .u8 (gt m.Name 28) :: .int .u8 (gt m.Name 29) :: .int .u8 (gt m.Name 30) :: .int .u8 (gt m.Name 31) :: .sl none 3 true (m.Policy.Rules.map e_api_Rule) :: .sl none 35 true (m.Open.map e_api_Invoice) :: .int .i64 m.Next :: .sl none 4 true (m.Queue.map e_api_Payment) :: .sl none 35 true (m.Paid.map e_api_Invoice) :: .int .i64 m.Total :: .sl none 1 false (m.Blocked.map (V.int .i64)) :: .int .i64 m.Now :: [])))], 1⟩ : St) sbQ sbQ ⟨(0, 0), rfl, ⟨omQ, omQ⟩, (Nat.lt_succ_self _), hM⟩ ?_
                      clear hM
                      rintro n23 S ⟨p23, rfl, hfa23, hm23, hM⟩
                      have hM0 := hM; clear hM; obtain ⟨ag23, hag23, hM⟩ := iter_step hM0 (by omega) hf23; clear hM0
                      replace hfa23 := nzQ hfa23
                      replace hm23 := nzQ hm23
                      have ha23 : addI .i64 p23.2 1 = p23.2 + 1 := add_one omQ omQ
                      refine spQA (And.intro ha13 ha23) ?_
                      refine condC_intro (fun h24 => ?_) (fun h24 => ?_)
                      · rw [if_pos h24] at hM
                        refine spQA (And.intro ha13 (And.intro ha23 h24)) ?_
                        have nh24 := nzQ h24
                        refine bindC_intro omQ ?_
                        have he25 := fun d => elt_mp (l := m.Paid) (f := e_api_Invoice) (i := p23.2) omQ d
                        refine spQA (And.intro ha13 (And.intro ha23 he25)) ?_
                        refine ct_draw 182 30 [106, 107, 108, 109, 110, 111, 112, 113, 114, 115, 116, 117, 118, 119, 120, 121, 122, 123, 124, 125, 126, 127, 128, 129, 130, 131, 132, 133, 134, 135] [] ([[], [], [0, 1], [0, 1, 2], [0, 1, 2, 3], [0, 1, 2, 3, 4], [0, 1, 2, 3, 4, 5], [0, 1, 2, 3, 4], [0, 1, 2, 3, 4, 5, 6, 7], [0, 1, 2, 3, 4, 5, 6, 7, 8], [0, 1, 2, 3, 4, 5, 6, 7, 8, 9], [0, 1, 2, 3, 4], [0, 1, 2, 3, 4, 11], [0, 1, 2, 3, 4, 5, 6, 7, 8, 9, 10, 11, 12], [0, 1, 2, 3, 4, 5, 6, 7, 8, 9, 10, 11, 12, 13], [0, 1, 2, 3, 4, 5, 6, 7, 8, 9, 10, 11, 12, 13, 14], [0, 1, 2, 3, 4, 5, 6, 7, 8, 9, 10, 11, 12, 13, 14, 15], [0, 1, 2, 3, 4, 5, 6, 7, 8, 9, 10, 11, 12, 13, 14, 15, 16], [0, 1, 2, 3, 4, 5, 6, 7, 8, 9, 10, 11, 12, 13, 14, 15], [0, 1, 2, 3, 4, 5, 6, 7, 8, 9, 10, 11, 12, 13, 14, 15, 18], [0, 1, 2, 3, 4, 5, 6, 7, 8, 9, 10, 11, 12, 13, 14, 15, 16, 17, 18, 19], [0, 1, 2, 3, 4, 5, 6, 7, 8, 9, 10, 11, 12, 13, 14, 15, 16, 17, 18, 19, 20], [0, 1, 2, 3, 4, 5, 6, 7, 8, 9, 10, 11, 12, 13, 14, 15, 16, 17, 18, 19, 20, 21], [0, 1, 2, 3, 4, 5, 6, 7, 8, 9, 10, 11, 12, 13, 14, 15, 16, 17, 18, 19, 20, 21, 22], [0, 1, 2, 3, 4, 5, 6, 7, 8, 9, 10, 11, 12, 13, 14, 15, 16, 17, 18, 19, 20, 21, 22, 23], [0, 1, 2, 3, 4, 5, 6, 7, 8, 9, 10, 11, 12, 13, 14, 15, 16, 17, 18, 19, 20, 21, 22, 23, 24], [0, 1, 2, 3, 4, 5, 6, 7, 8, 9, 10, 11, 12, 13, 14, 15, 16, 17, 18, 19, 20, 21, 22, 23], [0, 1, 2, 3, 4, 5, 6, 7, 8, 9, 10, 11, 12, 13, 14, 15, 16, 17, 18, 19, 20, 21, 22, 23, 24, 25, 26], [0, 1, 2, 3, 4, 5, 6, 7, 8, 9, 10, 11, 12, 13, 14, 15, 16, 17, 18, 19, 20, 21, 22, 23], [0, 1, 2, 3, 4, 5, 6, 7, 8, 9, 10, 11, 12, 13, 14, 15, 16, 17, 18, 19, 20, 21, 22, 23, 28]] ++ [List.range 30, List.range 31, List.range 32]) [] (by kernel_rfl) (by exact alQ) ?_
                        refine spQA (And.intro ha13 (And.intro ha23 he25)) ?_
                        have hM0 := hM; clear hM; obtain ⟨x26, hx27, hM⟩ := letk_opn hM0; clear hM0
                        have hcx26 := specieref47_invoice_ok  m (gt m.Paid p23.2) 
                        rw [← hx27] at hcx26
                        refine hcallC_give hcx26 (clQA (And.intro ha13 (And.intro ha23 he25))) (clQA (And.intro ha13 (And.intro ha23 he25))) ?_
                        refine spQA (And.intro ha13 (And.intro ha23 he25)) ?_
                        refine hguardC_f (fun h28 => ?_) (fun h28 => ?_)
                        · rw [if_neg (ne_true h28)] at hM
                          refine spQA (And.intro ha13 (And.intro ha23 (And.intro he25 h28))) ?_
                          have nh28 := nzQ h28
                          refine hbindC_intro omQ ?_
                          have he29 := fun d => elt_mp (l := m.Queue) (f := e_api_Payment) (i := p23.2) omQ d
                          refine spQA (And.intro ha13 (And.intro ha23 (And.intro he25 he29))) ?_
                          refine hguardC_f (fun h30 => ?_) (fun h30 => ?_)
                          · rw [if_neg (ne_true h30)] at hM
                            refine spQA (And.intro ha13 (And.intro ha23 (And.intro he25 (And.intro he29 h30)))) ?_
                            have nh30 := nzQ h30
                            have hM0 := hM; clear hM; obtain ⟨x31, hx32, hM⟩ := letk_opn hM0; clear hM0
                            have hcx31 := specieref47_Find_ok none (m.Open) ((gt m.Paid p23.2).Number) 
                            rw [← hx32] at hcx31
                            refine hcallC_give hcx31 (clQA (And.intro ha13 (And.intro ha23 (And.intro he25 he29)))) (clQA (And.intro ha13 (And.intro ha23 (And.intro he25 he29)))) ?_
                            refine spQA (And.intro ha13 (And.intro ha23 (And.intro he25 he29))) ?_
                            refine hguardC_f (fun h33 => ?_) (fun h33 => ?_)
                            · rw [if_neg (ne_true h33)] at hM
                              refine spQA (And.intro ha13 (And.intro ha23 (And.intro he25 (And.intro he29 h33)))) ?_
                              have nh33 := nzQ h33
                              refine hbindC_intro omQ ?_
                              refine spQA (And.intro ha13 (And.intro ha23 (And.intro he25 he29))) ?_
                              have hM0 := hM; clear hM; obtain ⟨x34, hx35, hM⟩ := letk_opn hM0; clear hM0
                              have hcx34 := specieref47_Find_ok none (sl m.Paid 0 p23.2) ((gt m.Paid p23.2).Number) 
                              rw [← hx35] at hcx34
                              refine callC_give hcx34 (clQA (And.intro ha13 (And.intro ha23 (And.intro he25 he29)))) (clQA (And.intro ha13 (And.intro ha23 (And.intro he25 he29)))) (fun hw36 => ?_)
                              replace hw36 := nzQ hw36
                              refine spQA (And.intro ha13 (And.intro ha23 (And.intro he25 he29))) ?_
                              refine condC_intro (fun h37 => ?_) (fun h37 => ?_)
                              · rw [if_pos h37] at hM
                                refine spQA (And.intro ha13 (And.intro ha23 (And.intro he25 (And.intro he29 h37)))) ?_
                                have nh37 := nzQ h37
                                subst hM
                                exact retC_view (lfQA (And.intro ha13 (And.intro ha23 (And.intro he25 (And.intro he29 (And.intro h4 (And.intro h5 (And.intro h6 (And.intro h7 (And.intro h8 (And.intro h9 (And.intro h10 (And.intro h11 (And.intro h12 (And.intro h14 (And.intro h24 (And.intro h28 (And.intro h30 (And.intro h33 h37)))))))))))))))))))
                              · rw [if_neg (ne_true h37)] at hM
                                refine spQA (And.intro ha13 (And.intro ha23 (And.intro he25 (And.intro he29 h37)))) ?_
                                have nh37 := nzQ h37
                                refine lp_intro (n23 - 1) (⟨[(1, .ptr 0 0), (4, .int .i64 (addI .i64 p23.1 (gt m.Paid p23.2).Amount)), (5, .int .i64 (p23.2 + 1))], [(0, .var 40 true (.agg (.int .u8 (gt m.Name 0) :: .int .u8 (gt m.Name 1) :: .int .u8 (gt m.Name 2) :: .int .u8 (gt m.Name 3) :: .int .u8 (gt m.Name 4) :: .int .u8 (gt m.Name 5) :: .int .u8 (gt m.Name 6) :: .int .u8 (gt m.Name 7) :: .int .u8 (gt m.Name 8) :: .int .u8 (gt m.Name 9) :: .int .u8 (gt m.Name 10) :: .int .u8 (gt m.Name 11) :: .int .u8 (gt m.Name 12) :: .int .u8 (gt m.Name 13) :: .int .u8 (gt m.Name 14) :: .int .u8 (gt m.Name 15) :: .int .u8 (gt m.Name 16) :: .int .u8 (gt m.Name 17) :: .int .u8 (gt m.Name 18) :: .int .u8 (gt m.Name 19) :: .int .u8 (gt m.Name 20) :: .int .u8 (gt m.Name 21) :: .int .u8 (gt m.Name 22) :: .int .u8 (gt m.Name 23) :: .int .u8 (gt m.Name 24) :: .int .u8 (gt m.Name 25) :: .int .u8 (gt m.Name 26) :: .int .u8 (gt m.Name 27) :: .int .u8 (gt m.Name 28) :: .int .u8 (gt m.Name 29) :: .int .u8 (gt m.Name 30) :: .int .u8 (gt m.Name 31) :: .sl none 3 true (m.Policy.Rules.map e_api_Rule) :: .sl none 35 true (m.Open.map e_api_Invoice) :: .int .i64 m.Next :: .sl none 4 true (m.Queue.map e_api_Payment) :: .sl none 35 true (m.Paid.map e_api_Invoice) :: .int .i64 m.Total :: .sl none 1 false (m.Blocked.map (V.int .i64)) :: .int .i64 m.Now :: [])))], 1⟩ : St) (by omega) sbQ sbQ ⟨((addI .i64 p23.1 (gt m.Paid p23.2).Amount), (p23.2 + 1)), rfl, ⟨omQ, omQ⟩, omQ, iter_again hM hag23⟩
                            · rw [if_pos h33] at hM
                              refine spQA (And.intro ha13 (And.intro ha23 (And.intro he25 (And.intro he29 h33)))) ?_
                              have nh33 := nzQ h33
                              subst hM
                              exact retC_view (lfQA (And.intro ha13 (And.intro ha23 (And.intro he25 (And.intro he29 (And.intro h4 (And.intro h5 (And.intro h6 (And.intro h7 (And.intro h8 (And.intro h9 (And.intro h10 (And.intro h11 (And.intro h12 (And.intro h14 (And.intro h24 (And.intro h28 (And.intro h30 h33))))))))))))))))))
                          · rw [if_pos h30] at hM
                            refine spQA (And.intro ha13 (And.intro ha23 (And.intro he25 (And.intro he29 h30)))) ?_
                            have nh30 := nzQ h30
                            subst hM
                            exact retC_view (lfQA (And.intro ha13 (And.intro ha23 (And.intro he25 (And.intro he29 (And.intro h4 (And.intro h5 (And.intro h6 (And.intro h7 (And.intro h8 (And.intro h9 (And.intro h10 (And.intro h11 (And.intro h12 (And.intro h14 (And.intro h24 (And.intro h28 h30)))))))))))))))))
                        · rw [if_pos h28] at hM
                          refine spQA (And.intro ha13 (And.intro ha23 (And.intro he25 h28))) ?_
                          have nh28 := nzQ h28
                          subst hM
                          exact retC_view (lfQA (And.intro ha13 (And.intro ha23 (And.intro he25 (And.intro h4 (And.intro h5 (And.intro h6 (And.intro h7 (And.intro h8 (And.intro h9 (And.intro h10 (And.intro h11 (And.intro h12 (And.intro h14 (And.intro h24 h28)))))))))))))))
                      · rw [if_neg (ne_true h24)] at hM
                        refine spQA (And.intro ha13 (And.intro ha23 h24)) ?_
                        have nh24 := nzQ h24
                        have hM0 := hM; clear hM; obtain ⟨f38, d38, hf38, hd38, hM⟩ := iter_opn hM0; clear hM0
                        refine ct_loop (fun n S => ∃ p : Int, S = (⟨[(1, .ptr 0 0), (4, .int .i64 p23.1), (7, .int .i64 p)], [(0, .var 40 true (.agg (.int .u8 (gt m.Name 0) :: .int .u8 (gt m.Name 1) :: .int .u8 (gt m.Name 2) :: .int .u8 (gt m.Name 3) :: .int .u8 (gt m.Name 4) :: .int .u8 (gt m.Name 5) :: .int .u8 (gt m.Name 6) :: .int .u8 (gt m.Name 7) :: .int .u8 (gt m.Name 8) :: .int .u8 (gt m.Name 9) :: .int .u8 (gt m.Name 10) :: .int .u8 (gt m.Name 11) :: .int .u8 (gt m.Name 12) :: .int .u8 (gt m.Name 13) :: .int .u8 (gt m.Name 14) :: .int .u8 (gt m.Name 15) :: .int .u8 (gt m.Name 16) :: .int .u8 (gt m.Name 17) :: .int .u8 (gt m.Name 18) :: .int .u8 (gt m.Name 19) :: .int .u8 (gt m.Name 20) :: .int .u8 (gt m.Name 21) :: .int .u8 (gt m.Name 22) :: .int .u8 (gt m.Name 23) :: .int .u8 (gt m.Name 24) :: .int .u8 (gt m.Name 25) :: .int .u8 (gt m.Name 26) :: .int .u8 (gt m.Name 27) :: .int .u8 (gt m.Name 28) :: .int .u8 (gt m.Name 29) :: .int .u8 (gt m.Name 30) :: .int .u8 (gt m.Name 31) :: .sl none 3 true (m.Policy.Rules.map e_api_Rule) :: .sl none 35 true (m.Open.map e_api_Invoice) :: .int .i64 m.Next :: .sl none 4 true (m.Queue.map e_api_Payment) :: .sl none 35 true (m.Paid.map e_api_Invoice) :: .int .i64 m.Total :: .sl none 1 false (m.Blocked.map (V.int .i64)) :: .int .i64 m.Now :: [])))], 1⟩ : St) ∧ ((0 ≤ p) ∧ (p ≤ (m.Blocked.length : Int))) ∧ ((m.Blocked.length : Int) - p).toNat < n ∧ iter n f38 d38 p = r) (((m.Blocked.length : Int) - 0).toNat + 1) (⟨[(1, .ptr 0 0), (4, .int .i64 p23.1), (7, .int .i64 0)], [(0, .var 40 true (.agg (.int .u8 (gt m.Name 0) :: .int .u8 (gt m.Name 1) :: .int .u8 (gt m.Name 2) :: .int .u8 (gt m.Name 3) :: .int .u8 (gt m.Name 4) :: .int .u8 (gt m.Name 5) :: .int .u8 (gt m.Name 6) :: .int .u8 (gt m.Name 7) :: .int .u8 (gt m.Name 8) :: .int .u8 (gt m.Name 9) :: .int .u8 (gt m.Name 10) :: .int .u8 (gt m.Name 11) :: .int .u8 (gt m.Name 12) :: .int .u8 (gt m.Name 13) :: .int .u8 (gt m.Name 14) :: .int .u8 (gt m.Name 15) :: .int .u8 (gt m.Name 16) :: .int .u8 (gt m.Name 17) :: .int .u8 (gt m.Name 18) :: .int .u8 (gt m.Name 19) :: .int .u8 (gt m.Name 20) :: .int .u8 (gt m.Name 21) :: .int .u8 (gt m.Name 22) :: .int .u8 (gt m.Name 23) :: .int .u8 (gt m.Name 24) :: .int .u8 (gt m.Name 25) :: .int .u8 (gt m.Name 26) :: .int .u8 (gt m.Name 27) :: .int .u8 (gt m.Name 28) :: .int .u8 (gt m.Name 29) :: .int .u8 (gt m.Name 30) :: .int .u8 (gt m.Name 31) :: .sl none 3 true (m.Policy.Rules.map e_api_Rule) :: .sl none 35 true (m.Open.map e_api_Invoice) :: .int .i64 m.Next :: .sl none 4 true (m.Queue.map e_api_Payment) :: .sl none 35 true (m.Paid.map e_api_Invoice) :: .int .i64 m.Total :: .sl none 1 false (m.Blocked.map (V.int .i64)) :: .int .i64 m.Now :: [])))], 1⟩ : St) sbQ sbQ ⟨0, rfl, ⟨omQ, omQ⟩, (Nat.lt_succ_self _), hM⟩ ?_
                        clear hM
                        rintro n38 S ⟨p38, rfl, hfa38, hm38, hM⟩
                        have hM0 := hM; clear hM; obtain ⟨ag38, hag38, hM⟩ := iter_step hM0 (by omega) hf38; clear hM0
                        replace hfa38 := nzQ hfa38
                        replace hm38 := nzQ hm38
                        have ha38 : addI .i64 p38 1 = p38 + 1 := add_one omQ omQ
                        refine spQA (And.intro ha13 (And.intro ha23 ha38)) ?_
                        refine condC_intro (fun h39 => ?_) (fun h39 => ?_)
                        · rw [if_pos h39] at hM
                          refine spQA (And.intro ha13 (And.intro ha23 (And.intro ha38 h39))) ?_
                          have nh39 := nzQ h39
                          refine ct_draw 182 21 [150, 151, 152, 153, 154, 155, 156, 157, 158, 159, 160, 161, 162, 163, 164, 165, 166, 167, 168, 169, 170] [] ([[], [0], [], [0, 1, 2], [0, 1, 2, 3], [0, 1, 2, 3, 4], [0, 1, 2, 3, 4, 5], [0, 1, 2, 3, 4, 5, 6], [0, 1, 2, 3, 4, 5, 6, 7], [0, 1, 2, 3, 4, 5, 6, 7, 8], [0, 1, 2, 3, 4, 5, 6, 7, 8, 9], [0, 1, 2, 3, 4, 5, 6, 7, 8, 9, 10], [0, 1, 2, 3, 4, 5, 6, 7, 8, 9], [0, 1, 2, 3, 4, 5, 6, 7, 8, 9, 10, 11, 12], [0, 1, 2, 3, 4, 5, 6, 7, 8, 9, 10, 11, 12, 13], [0, 1, 2, 3, 4, 5, 6, 7, 8, 9], [0, 1, 2, 3, 4, 5, 6, 7, 8, 9, 15], [0, 1, 2, 3, 4, 5, 6, 7, 8, 9], [0, 1, 2, 3, 4, 5, 6, 7, 8, 9, 17], [0, 1, 2, 3, 4, 5, 6, 7, 8, 9, 15, 16, 17, 18], [0, 1, 2, 3, 4, 5, 6, 7, 8, 9, 15, 16, 17, 18, 19]] ++ [List.range 21, List.range 22, List.range 23]) [] (by kernel_rfl) (by exact alQ) ?_
                          refine spQA (And.intro ha13 (And.intro ha23 ha38)) ?_
                          refine hbindC_intro omQ ?_
                          have he40 := fun d => elt_mp (l := m.Blocked) (f := (V.int .i64)) (i := p38) omQ d
                          refine spQA (And.intro ha13 (And.intro ha23 (And.intro ha38 he40))) ?_
                          refine hguardC_f (fun h41 => ?_) (fun h41 => ?_)
                          · rw [if_neg (ne_true h41)] at hM
                            refine spQA (And.intro ha13 (And.intro ha23 (And.intro ha38 (And.intro he40 h41)))) ?_
                            have nh41 := nzQ h41
                            refine hguardC_t (fun h42 => ?_) (fun h42 => ?_)
                            · rw [if_pos h42] at hM
                              refine spQA (And.intro ha13 (And.intro ha23 (And.intro ha38 (And.intro he40 h42)))) ?_
                              have nh42 := nzQ h42
                              refine hbindC_intro omQ ?_
                              refine spQA (And.intro ha13 (And.intro ha23 (And.intro ha38 he40))) ?_
                              have ha43 : subI .i64 p38 1 = (p38 - 1) := sub_ok omQ omQ
                              try simp only [ha43]
                              refine hbindC_intro omQ ?_
                              have he44 := fun d => elt_mp (l := m.Blocked) (f := (V.int .i64)) (i := (p38 - 1)) omQ d
                              refine spQA (And.intro ha13 (And.intro ha23 (And.intro ha38 (And.intro he40 (And.intro ha43 he44))))) ?_
                              refine condC_intro (fun h45 => ?_) (fun h45 => ?_)
                              · rw [if_pos h45] at hM
                                refine spQA (And.intro ha13 (And.intro ha23 (And.intro ha38 (And.intro he40 (And.intro ha43 (And.intro he44 h45)))))) ?_
                                have nh45 := nzQ h45
                                subst hM
                                exact retC_view (lfQA (And.intro ha13 (And.intro ha23 (And.intro ha38 (And.intro he40 (And.intro ha43 (And.intro he44 (And.intro h4 (And.intro h5 (And.intro h6 (And.intro h7 (And.intro h8 (And.intro h9 (And.intro h10 (And.intro h11 (And.intro h12 (And.intro h14 (And.intro h24 (And.intro h39 (And.intro h41 (And.intro h42 h45)))))))))))))))))))))
                              · rw [if_neg (ne_true h45)] at hM
                                refine spQA (And.intro ha13 (And.intro ha23 (And.intro ha38 (And.intro he40 (And.intro ha43 (And.intro he44 h45)))))) ?_
                                have nh45 := nzQ h45
                                refine lp_intro (n38 - 1) (⟨[(1, .ptr 0 0), (4, .int .i64 p23.1), (7, .int .i64 (p38 + 1))], [(0, .var 40 true (.agg (.int .u8 (gt m.Name 0) :: .int .u8 (gt m.Name 1) :: .int .u8 (gt m.Name 2) :: .int .u8 (gt m.Name 3) :: .int .u8 (gt m.Name 4) :: .int .u8 (gt m.Name 5) :: .int .u8 (gt m.Name 6) :: .int .u8 (gt m.Name 7) :: .int .u8 (gt m.Name 8) :: .int .u8 (gt m.Name 9) :: .int .u8 (gt m.Name 10) :: .int .u8 (gt m.Name 11) :: .int .u8 (gt m.Name 12) :: .int .u8 (gt m.Name 13) :: .int .u8 (gt m.Name 14) :: .int .u8 (gt m.Name 15) :: .int .u8 (gt m.Name 16) :: .int .u8 (gt m.Name 17) :: .int .u8 (gt m.Name 18) :: .int .u8 (gt m.Name 19) :: .int .u8 (gt m.Name 20) :: .int .u8 (gt m.Name 21) :: .int .u8 (gt m.Name 22) :: .int .u8 (gt m.Name 23) :: .int .u8 (gt m.Name 24) :: .int .u8 (gt m.Name 25) :: .int .u8 (gt m.Name 26) :: .int .u8 (gt m.Name 27) :: .int .u8 (gt m.Name 28) :: .int .u8 (gt m.Name 29) :: .int .u8 (gt m.Name 30) :: .int .u8 (gt m.Name 31) :: .sl none 3 true (m.Policy.Rules.map e_api_Rule) :: .sl none 35 true (m.Open.map e_api_Invoice) :: .int .i64 m.Next :: .sl none 4 true (m.Queue.map e_api_Payment) :: .sl none 35 true (m.Paid.map e_api_Invoice) :: .int .i64 m.Total :: .sl none 1 false (m.Blocked.map (V.int .i64)) :: .int .i64 m.Now :: [])))], 1⟩ : St) (by omega) sbQ sbQ ⟨(p38 + 1), rfl, ⟨omQ, omQ⟩, omQ, iter_again hM hag38⟩
                            · rw [if_neg (ne_true h42)] at hM
                              refine spQA (And.intro ha13 (And.intro ha23 (And.intro ha38 (And.intro he40 h42)))) ?_
                              have nh42 := nzQ h42
                              refine lp_intro (n38 - 1) (⟨[(1, .ptr 0 0), (4, .int .i64 p23.1), (7, .int .i64 (p38 + 1))], [(0, .var 40 true (.agg (.int .u8 (gt m.Name 0) :: .int .u8 (gt m.Name 1) :: .int .u8 (gt m.Name 2) :: .int .u8 (gt m.Name 3) :: .int .u8 (gt m.Name 4) :: .int .u8 (gt m.Name 5) :: .int .u8 (gt m.Name 6) :: .int .u8 (gt m.Name 7) :: .int .u8 (gt m.Name 8) :: .int .u8 (gt m.Name 9) :: .int .u8 (gt m.Name 10) :: .int .u8 (gt m.Name 11) :: .int .u8 (gt m.Name 12) :: .int .u8 (gt m.Name 13) :: .int .u8 (gt m.Name 14) :: .int .u8 (gt m.Name 15) :: .int .u8 (gt m.Name 16) :: .int .u8 (gt m.Name 17) :: .int .u8 (gt m.Name 18) :: .int .u8 (gt m.Name 19) :: .int .u8 (gt m.Name 20) :: .int .u8 (gt m.Name 21) :: .int .u8 (gt m.Name 22) :: .int .u8 (gt m.Name 23) :: .int .u8 (gt m.Name 24) :: .int .u8 (gt m.Name 25) :: .int .u8 (gt m.Name 26) :: .int .u8 (gt m.Name 27) :: .int .u8 (gt m.Name 28) :: .int .u8 (gt m.Name 29) :: .int .u8 (gt m.Name 30) :: .int .u8 (gt m.Name 31) :: .sl none 3 true (m.Policy.Rules.map e_api_Rule) :: .sl none 35 true (m.Open.map e_api_Invoice) :: .int .i64 m.Next :: .sl none 4 true (m.Queue.map e_api_Payment) :: .sl none 35 true (m.Paid.map e_api_Invoice) :: .int .i64 m.Total :: .sl none 1 false (m.Blocked.map (V.int .i64)) :: .int .i64 m.Now :: [])))], 1⟩ : St) (by omega) sbQ sbQ ⟨(p38 + 1), rfl, ⟨omQ, omQ⟩, omQ, iter_again hM hag38⟩
                          · rw [if_pos h41] at hM
                            refine spQA (And.intro ha13 (And.intro ha23 (And.intro ha38 (And.intro he40 h41)))) ?_
                            have nh41 := nzQ h41
                            subst hM
                            exact retC_view (lfQA (And.intro ha13 (And.intro ha23 (And.intro ha38 (And.intro he40 (And.intro h4 (And.intro h5 (And.intro h6 (And.intro h7 (And.intro h8 (And.intro h9 (And.intro h10 (And.intro h11 (And.intro h12 (And.intro h14 (And.intro h24 (And.intro h39 h41)))))))))))))))))
                        · rw [if_neg (ne_true h39)] at hM
                          refine spQA (And.intro ha13 (And.intro ha23 (And.intro ha38 h39))) ?_
                          have nh39 := nzQ h39
                          refine guardC_t (fun h46 => ?_) (fun h46 => ?_)
                          · rw [if_pos h46] at hM
                            refine spQA (And.intro ha13 (And.intro ha23 (And.intro ha38 h46))) ?_
                            have nh46 := nzQ h46
                            subst hM
                            exact retC_view (lfQA (And.intro ha13 (And.intro ha23 (And.intro ha38 (And.intro h4 (And.intro h5 (And.intro h6 (And.intro h7 (And.intro h8 (And.intro h9 (And.intro h10 (And.intro h11 (And.intro h12 (And.intro h14 (And.intro h24 (And.intro h39 h46))))))))))))))))
                          · rw [if_neg (ne_true h46)] at hM
                            refine spQA (And.intro ha13 (And.intro ha23 (And.intro ha38 h46))) ?_
                            have nh46 := nzQ h46
                            subst hM
                            exact retC_view (lfQA (And.intro ha13 (And.intro ha23 (And.intro ha38 (And.intro h4 (And.intro h5 (And.intro h6 (And.intro h7 (And.intro h8 (And.intro h9 (And.intro h10 (And.intro h11 (And.intro h12 (And.intro h14 (And.intro h24 (And.intro h39 h46))))))))))))))))
                · rw [if_pos h11] at hM
                  refine spQA h11 ?_
                  have nh11 := nzQ h11
                  subst hM
                  exact retC_view (lfQA (And.intro h4 (And.intro h5 (And.intro h6 (And.intro h7 (And.intro h8 (And.intro h9 (And.intro h10 h11))))))))
              · rw [if_pos h10] at hM
                refine spQA h10 ?_
                have nh10 := nzQ h10
                subst hM
                exact retC_view (lfQA (And.intro h4 (And.intro h5 (And.intro h6 (And.intro h7 (And.intro h8 (And.intro h9 h10)))))))
            · rw [if_pos h9] at hM
              refine spQA h9 ?_
              have nh9 := nzQ h9
              subst hM
              exact retC_view (lfQA (And.intro h4 (And.intro h5 (And.intro h6 (And.intro h7 (And.intro h8 h9))))))
          · rw [if_pos h8] at hM
            refine spQA h8 ?_
            have nh8 := nzQ h8
            subst hM
            exact retC_view (lfQA (And.intro h4 (And.intro h5 (And.intro h6 (And.intro h7 h8)))))
        · rw [if_pos h7] at hM
          refine spQA h7 ?_
          have nh7 := nzQ h7
          subst hM
          exact retC_view (lfQA (And.intro h4 (And.intro h5 (And.intro h6 h7))))
      · rw [if_pos h6] at hM
        refine spQA h6 ?_
        have nh6 := nzQ h6
        subst hM
        exact retC_view (lfQA (And.intro h4 (And.intro h5 h6)))
    · rw [if_pos h5] at hM
      refine spQA h5 ?_
      have nh5 := nzQ h5
      subst hM
      exact retC_view (lfQA (And.intro h4 h5))
  · rw [if_pos h4] at hM
    refine spQA h4 ?_
    have nh4 := nzQ h4
    subst hM
    exact retC_view (lfQA h4)
set_option maxHeartbeats 2000000 in
set_option maxRecDepth 100000 in
theorem specieref47_invoices_ok (z0 : Option Bool) (z1 : Option Bool) (a_ : (List S_api_Invoice)) (b : (List S_api_Invoice))  : CallOk En 37 [.sl z0 35 true (a_.map e_api_Invoice), .sl z1 35 true (b.map e_api_Invoice)] (.bool (specieref47_invoices a_ b)) [] := by
  generalize hM : specieref47_invoices a_ b = r
  rw [specieref47_invoices.eq_1] at hM
  refine enterV En_ok En_mo noJ Try.func37 rfl Try.ntmps37 (by kernel_rfl) fun hw => ct_start ?_
  refine spQ ?_
  replace hw := nzQ hw
  refine condC_intro (fun h1 => ?_) (fun h1 => ?_)
  · rw [if_pos h1] at hM
    refine spQA h1 ?_
    have nh1 := nzQ h1
    subst hM
    exact retC_view (lfQA h1)
  · rw [if_neg (ne_true h1)] at hM
    refine spQA h1 ?_
    have nh1 := nzQ h1
    have hM0 := hM; clear hM; obtain ⟨f2, d2, hf2, hd2, hM⟩ := iter_opn hM0; clear hM0
    refine ct_loop (fun n S => ∃ p : Int, S = (⟨[(0, .sl z0 35 true (a_.map e_api_Invoice)), (1, .sl z1 35 true (b.map e_api_Invoice)), (5, .int .i64 p)], [], 0⟩ : St) ∧ ((0 ≤ p) ∧ (p ≤ (a_.length : Int))) ∧ ((a_.length : Int) - p).toNat < n ∧ iter n f2 d2 p = r) (((a_.length : Int) - 0).toNat + 1) (⟨[(0, .sl z0 35 true (a_.map e_api_Invoice)), (1, .sl z1 35 true (b.map e_api_Invoice)), (5, .int .i64 0)], [], 0⟩ : St) sbQ sbQ ⟨0, rfl, ⟨omQ, omQ⟩, (Nat.lt_succ_self _), hM⟩ ?_
    clear hM
    rintro n2 S ⟨p2, rfl, hfa2, hm2, hM⟩
    have hM0 := hM; clear hM; obtain ⟨ag2, hag2, hM⟩ := iter_step hM0 (by omega) hf2; clear hM0
    replace hfa2 := nzQ hfa2
    replace hm2 := nzQ hm2
    have ha2 : addI .i64 p2 1 = p2 + 1 := add_one omQ omQ
    refine spQA ha2 ?_
    refine condC_intro (fun h3 => ?_) (fun h3 => ?_)
    · rw [if_pos h3] at hM
      refine spQA (And.intro ha2 h3) ?_
      have nh3 := nzQ h3
      refine ct_draw 26 8 [17, 18, 19, 20, 21, 22, 23, 24] [] ([[], [], [0, 1], [0, 1, 2], [], [], [4, 5], [4, 5, 6]] ++ [List.range 8]) [] (by kernel_rfl) (by exact alQ) ?_
      refine spQA ha2 ?_
      refine hbindC_intro omQ ?_
      have he4 := fun d => elt_mp (l := a_) (f := e_api_Invoice) (i := p2) omQ d
      refine spQA (And.intro ha2 he4) ?_
      refine hbindC_intro omQ ?_
      have he5 := fun d => elt_mp (l := b) (f := e_api_Invoice) (i := p2) omQ d
      refine spQA (And.intro ha2 (And.intro he4 he5)) ?_
      refine condC_intro (fun h6 => ?_) (fun h6 => ?_)
      · have kh6 : (!(q_api_Invoice (gt a_ p2) (gt b p2))) = true := h6
        rw [if_pos kh6] at hM
        refine spQA (And.intro ha2 (And.intro he4 (And.intro he5 h6))) ?_
        have nh6 := nzQ kh6
        subst hM
        exact retC_view (lfQA (And.intro ha2 (And.intro he4 (And.intro he5 (And.intro h1 (And.intro h3 h6))))))
      · have kh6 : (!(q_api_Invoice (gt a_ p2) (gt b p2))) = false := h6
        rw [if_neg (ne_true kh6)] at hM
        refine spQA (And.intro ha2 (And.intro he4 (And.intro he5 h6))) ?_
        have nh6 := nzQ kh6
        refine lp_intro (n2 - 1) (⟨[(0, .sl z0 35 true (a_.map e_api_Invoice)), (1, .sl z1 35 true (b.map e_api_Invoice)), (5, .int .i64 (p2 + 1))], [], 0⟩ : St) (by omega) sbQ sbQ ⟨(p2 + 1), rfl, ⟨omQ, omQ⟩, omQ, iter_again hM hag2⟩
    · rw [if_neg (ne_true h3)] at hM
      refine spQA (And.intro ha2 h3) ?_
      have nh3 := nzQ h3
      subst hM
      exact retC_view (lfQA (And.intro ha2 (And.intro h1 h3)))
set_option maxHeartbeats 2000000 in
set_option maxRecDepth 100000 in
theorem specieref27_Same_ok  (p_ : S_api_Path) (q : S_api_Path)  : CallOk En 64 [.agg [.int .i64 p_.Index, .sl none 32 true (p_.L.map (fun l => .agg (.int .u8 (gt l 0) :: .int .u8 (gt l 1) :: .int .u8 (gt l 2) :: .int .u8 (gt l 3) :: .int .u8 (gt l 4) :: .int .u8 (gt l 5) :: .int .u8 (gt l 6) :: .int .u8 (gt l 7) :: .int .u8 (gt l 8) :: .int .u8 (gt l 9) :: .int .u8 (gt l 10) :: .int .u8 (gt l 11) :: .int .u8 (gt l 12) :: .int .u8 (gt l 13) :: .int .u8 (gt l 14) :: .int .u8 (gt l 15) :: .int .u8 (gt l 16) :: .int .u8 (gt l 17) :: .int .u8 (gt l 18) :: .int .u8 (gt l 19) :: .int .u8 (gt l 20) :: .int .u8 (gt l 21) :: .int .u8 (gt l 22) :: .int .u8 (gt l 23) :: .int .u8 (gt l 24) :: .int .u8 (gt l 25) :: .int .u8 (gt l 26) :: .int .u8 (gt l 27) :: .int .u8 (gt l 28) :: .int .u8 (gt l 29) :: .int .u8 (gt l 30) :: .int .u8 (gt l 31) :: [])))], .agg [.int .i64 q.Index, .sl none 32 true (q.L.map (fun l => .agg (.int .u8 (gt l 0) :: .int .u8 (gt l 1) :: .int .u8 (gt l 2) :: .int .u8 (gt l 3) :: .int .u8 (gt l 4) :: .int .u8 (gt l 5) :: .int .u8 (gt l 6) :: .int .u8 (gt l 7) :: .int .u8 (gt l 8) :: .int .u8 (gt l 9) :: .int .u8 (gt l 10) :: .int .u8 (gt l 11) :: .int .u8 (gt l 12) :: .int .u8 (gt l 13) :: .int .u8 (gt l 14) :: .int .u8 (gt l 15) :: .int .u8 (gt l 16) :: .int .u8 (gt l 17) :: .int .u8 (gt l 18) :: .int .u8 (gt l 19) :: .int .u8 (gt l 20) :: .int .u8 (gt l 21) :: .int .u8 (gt l 22) :: .int .u8 (gt l 23) :: .int .u8 (gt l 24) :: .int .u8 (gt l 25) :: .int .u8 (gt l 26) :: .int .u8 (gt l 27) :: .int .u8 (gt l 28) :: .int .u8 (gt l 29) :: .int .u8 (gt l 30) :: .int .u8 (gt l 31) :: [])))]] (.bool (specieref27_Same p_ q)) [] := by
  generalize hM : specieref27_Same p_ q = r
  rw [specieref27_Same.eq_1] at hM
  refine enterV En_ok En_mo noJ Try.func64 rfl Try.ntmps64 (by kernel_rfl) fun hw => ct_start ?_
  refine spQ ?_
  replace hw := nzQ hw
  refine guardC_f (fun h1 => ?_) (fun h1 => ?_)
  · rw [if_neg (ne_true h1)] at hM
    refine spQA h1 ?_
    have nh1 := nzQ h1
    refine condC_intro (fun h2 => ?_) (fun h2 => ?_)
    · rw [if_pos h2] at hM
      refine spQA h2 ?_
      have nh2 := nzQ h2
      subst hM
      exact retC_view (lfQA (And.intro h1 h2))
    · rw [if_neg (ne_true h2)] at hM
      refine spQA h2 ?_
      have nh2 := nzQ h2
      have hM0 := hM; clear hM; obtain ⟨f3, d3, hf3, hd3, hM⟩ := iter_opn hM0; clear hM0
      refine ct_loop (fun n S => ∃ p : Int, S = (⟨[(2, .ptr 0 0), (3, .ptr 1 0), (5, .int .i64 p)], [(0, .var 2 true (.agg [.int .i64 p_.Index, .sl none 32 true (p_.L.map (fun l => .agg (.int .u8 (gt l 0) :: .int .u8 (gt l 1) :: .int .u8 (gt l 2) :: .int .u8 (gt l 3) :: .int .u8 (gt l 4) :: .int .u8 (gt l 5) :: .int .u8 (gt l 6) :: .int .u8 (gt l 7) :: .int .u8 (gt l 8) :: .int .u8 (gt l 9) :: .int .u8 (gt l 10) :: .int .u8 (gt l 11) :: .int .u8 (gt l 12) :: .int .u8 (gt l 13) :: .int .u8 (gt l 14) :: .int .u8 (gt l 15) :: .int .u8 (gt l 16) :: .int .u8 (gt l 17) :: .int .u8 (gt l 18) :: .int .u8 (gt l 19) :: .int .u8 (gt l 20) :: .int .u8 (gt l 21) :: .int .u8 (gt l 22) :: .int .u8 (gt l 23) :: .int .u8 (gt l 24) :: .int .u8 (gt l 25) :: .int .u8 (gt l 26) :: .int .u8 (gt l 27) :: .int .u8 (gt l 28) :: .int .u8 (gt l 29) :: .int .u8 (gt l 30) :: .int .u8 (gt l 31) :: [])))])), (1, .var 2 true (.agg [.int .i64 q.Index, .sl none 32 true (q.L.map (fun l => .agg (.int .u8 (gt l 0) :: .int .u8 (gt l 1) :: .int .u8 (gt l 2) :: .int .u8 (gt l 3) :: .int .u8 (gt l 4) :: .int .u8 (gt l 5) :: .int .u8 (gt l 6) :: .int .u8 (gt l 7) :: .int .u8 (gt l 8) :: .int .u8 (gt l 9) :: .int .u8 (gt l 10) :: .int .u8 (gt l 11) :: .int .u8 (gt l 12) :: .int .u8 (gt l 13) :: .int .u8 (gt l 14) :: .int .u8 (gt l 15) :: .int .u8 (gt l 16) :: .int .u8 (gt l 17) :: .int .u8 (gt l 18) :: .int .u8 (gt l 19) :: .int .u8 (gt l 20) :: .int .u8 (gt l 21) :: .int .u8 (gt l 22) :: .int .u8 (gt l 23) :: .int .u8 (gt l 24) :: .int .u8 (gt l 25) :: .int .u8 (gt l 26) :: .int .u8 (gt l 27) :: .int .u8 (gt l 28) :: .int .u8 (gt l 29) :: .int .u8 (gt l 30) :: .int .u8 (gt l 31) :: [])))]))], 2⟩ : St) ∧ ((0 ≤ p) ∧ (p ≤ (p_.L.length : Int))) ∧ ((p_.L.length : Int) - p).toNat < n ∧ iter n f3 d3 p = r) (((p_.L.length : Int) - 0).toNat + 1) (⟨[(2, .ptr 0 0), (3, .ptr 1 0), (5, .int .i64 0)], [(0, .var 2 true (.agg [.int .i64 p_.Index, .sl none 32 true (p_.L.map (fun l => .agg (.int .u8 (gt l 0) :: .int .u8 (gt l 1) :: .int .u8 (gt l 2) :: .int .u8 (gt l 3) :: .int .u8 (gt l 4) :: .int .u8 (gt l 5) :: .int .u8 (gt l 6) :: .int .u8 (gt l 7) :: .int .u8 (gt l 8) :: .int .u8 (gt l 9) :: .int .u8 (gt l 10) :: .int .u8 (gt l 11) :: .int .u8 (gt l 12) :: .int .u8 (gt l 13) :: .int .u8 (gt l 14) :: .int .u8 (gt l 15) :: .int .u8 (gt l 16) :: .int .u8 (gt l 17) :: .int .u8 (gt l 18) :: .int .u8 (gt l 19) :: .int .u8 (gt l 20) :: .int .u8 (gt l 21) :: .int .u8 (gt l 22) :: .int .u8 (gt l 23) :: .int .u8 (gt l 24) :: .int .u8 (gt l 25) :: .int .u8 (gt l 26) :: .int .u8 (gt l 27) :: .int .u8 (gt l 28) :: .int .u8 (gt l 29) :: .int .u8 (gt l 30) :: .int .u8 (gt l 31) :: [])))])), (1, .var 2 true (.agg [.int .i64 q.Index, .sl none 32 true (q.L.map (fun l => .agg (.int .u8 (gt l 0) :: .int .u8 (gt l 1) :: .int .u8 (gt l 2) :: .int .u8 (gt l 3) :: .int .u8 (gt l 4) :: .int .u8 (gt l 5) :: .int .u8 (gt l 6) :: .int .u8 (gt l 7) :: .int .u8 (gt l 8) :: .int .u8 (gt l 9) :: .int .u8 (gt l 10) :: .int .u8 (gt l 11) :: .int .u8 (gt l 12) :: .int .u8 (gt l 13) :: .int .u8 (gt l 14) :: .int .u8 (gt l 15) :: .int .u8 (gt l 16) :: .int .u8 (gt l 17) :: .int .u8 (gt l 18) :: .int .u8 (gt l 19) :: .int .u8 (gt l 20) :: .int .u8 (gt l 21) :: .int .u8 (gt l 22) :: .int .u8 (gt l 23) :: .int .u8 (gt l 24) :: .int .u8 (gt l 25) :: .int .u8 (gt l 26) :: .int .u8 (gt l 27) :: .int .u8 (gt l 28) :: .int .u8 (gt l 29) :: .int .u8 (gt l 30) :: .int .u8 (gt l 31) :: [])))]))], 2⟩ : St) sbQ sbQ ⟨0, rfl, ⟨omQ, omQ⟩, (Nat.lt_succ_self _), hM⟩ ?_
      clear hM
      rintro n3 S ⟨p3, rfl, hfa3, hm3, hM⟩
      have hM0 := hM; clear hM; obtain ⟨ag3, hag3, hM⟩ := iter_step hM0 (by omega) hf3; clear hM0
      replace hfa3 := nzQ hfa3
      replace hm3 := nzQ hm3
      have ha3 : addI .i64 p3 1 = p3 + 1 := add_one omQ omQ
      refine spQA ha3 ?_
      refine condC_intro (fun h4 => ?_) (fun h4 => ?_)
      · rw [if_pos h4] at hM
        refine spQA (And.intro ha3 h4) ?_
        have nh4 := nzQ h4
        refine ct_draw 38 10 [27, 28, 29, 30, 31, 32, 33, 34, 35, 36] [] ([[], [0], [], [0, 1, 2], [0, 1, 2, 3], [], [5], [], [5, 6, 7], [5, 6, 7, 8]] ++ [List.range 10]) [] (by kernel_rfl) (by exact alQ) ?_
        refine spQA ha3 ?_
        refine hbindC_intro omQ ?_
        have he5 := fun d => elt_mp (l := p_.L) (f := (fun l => .agg (.int .u8 (gt l 0) :: .int .u8 (gt l 1) :: .int .u8 (gt l 2) :: .int .u8 (gt l 3) :: .int .u8 (gt l 4) :: .int .u8 (gt l 5) :: .int .u8 (gt l 6) :: .int .u8 (gt l 7) :: .int .u8 (gt l 8) :: .int .u8 (gt l 9) :: .int .u8 (gt l 10) :: .int .u8 (gt l 11) :: .int .u8 (gt l 12) :: .int .u8 (gt l 13) :: .int .u8 (gt l 14) :: .int .u8 (gt l 15) :: .int .u8 (gt l 16) :: .int .u8 (gt l 17) :: .int .u8 (gt l 18) :: .int .u8 (gt l 19) :: .int .u8 (gt l 20) :: .int .u8 (gt l 21) :: .int .u8 (gt l 22) :: .int .u8 (gt l 23) :: .int .u8 (gt l 24) :: .int .u8 (gt l 25) :: .int .u8 (gt l 26) :: .int .u8 (gt l 27) :: .int .u8 (gt l 28) :: .int .u8 (gt l 29) :: .int .u8 (gt l 30) :: .int .u8 (gt l 31) :: []))) (i := p3) omQ d
        refine spQA (And.intro ha3 he5) ?_
        refine hbindC_intro omQ ?_
        have he6 := fun d => elt_mp (l := q.L) (f := (fun l => .agg (.int .u8 (gt l 0) :: .int .u8 (gt l 1) :: .int .u8 (gt l 2) :: .int .u8 (gt l 3) :: .int .u8 (gt l 4) :: .int .u8 (gt l 5) :: .int .u8 (gt l 6) :: .int .u8 (gt l 7) :: .int .u8 (gt l 8) :: .int .u8 (gt l 9) :: .int .u8 (gt l 10) :: .int .u8 (gt l 11) :: .int .u8 (gt l 12) :: .int .u8 (gt l 13) :: .int .u8 (gt l 14) :: .int .u8 (gt l 15) :: .int .u8 (gt l 16) :: .int .u8 (gt l 17) :: .int .u8 (gt l 18) :: .int .u8 (gt l 19) :: .int .u8 (gt l 20) :: .int .u8 (gt l 21) :: .int .u8 (gt l 22) :: .int .u8 (gt l 23) :: .int .u8 (gt l 24) :: .int .u8 (gt l 25) :: .int .u8 (gt l 26) :: .int .u8 (gt l 27) :: .int .u8 (gt l 28) :: .int .u8 (gt l 29) :: .int .u8 (gt l 30) :: .int .u8 (gt l 31) :: []))) (i := p3) omQ d
        refine spQA (And.intro ha3 (And.intro he5 he6)) ?_
        refine condC_intro (fun h7 => ?_) (fun h7 => ?_)
        · have kh7 : (!(q_arr23 (gt p_.L p3) (gt q.L p3))) = true := h7
          rw [if_pos kh7] at hM
          refine spQA (And.intro ha3 (And.intro he5 (And.intro he6 h7))) ?_
          have nh7 := nzQ kh7
          subst hM
          exact retC_view (lfQA (And.intro ha3 (And.intro he5 (And.intro he6 (And.intro h1 (And.intro h2 (And.intro h4 h7)))))))
        · have kh7 : (!(q_arr23 (gt p_.L p3) (gt q.L p3))) = false := h7
          rw [if_neg (ne_true kh7)] at hM
          refine spQA (And.intro ha3 (And.intro he5 (And.intro he6 h7))) ?_
          have nh7 := nzQ kh7
          refine lp_intro (n3 - 1) (⟨[(2, .ptr 0 0), (3, .ptr 1 0), (5, .int .i64 (p3 + 1))], [(0, .var 2 true (.agg [.int .i64 p_.Index, .sl none 32 true (p_.L.map (fun l => .agg (.int .u8 (gt l 0) :: .int .u8 (gt l 1) :: .int .u8 (gt l 2) :: .int .u8 (gt l 3) :: .int .u8 (gt l 4) :: .int .u8 (gt l 5) :: .int .u8 (gt l 6) :: .int .u8 (gt l 7) :: .int .u8 (gt l 8) :: .int .u8 (gt l 9) :: .int .u8 (gt l 10) :: .int .u8 (gt l 11) :: .int .u8 (gt l 12) :: .int .u8 (gt l 13) :: .int .u8 (gt l 14) :: .int .u8 (gt l 15) :: .int .u8 (gt l 16) :: .int .u8 (gt l 17) :: .int .u8 (gt l 18) :: .int .u8 (gt l 19) :: .int .u8 (gt l 20) :: .int .u8 (gt l 21) :: .int .u8 (gt l 22) :: .int .u8 (gt l 23) :: .int .u8 (gt l 24) :: .int .u8 (gt l 25) :: .int .u8 (gt l 26) :: .int .u8 (gt l 27) :: .int .u8 (gt l 28) :: .int .u8 (gt l 29) :: .int .u8 (gt l 30) :: .int .u8 (gt l 31) :: [])))])), (1, .var 2 true (.agg [.int .i64 q.Index, .sl none 32 true (q.L.map (fun l => .agg (.int .u8 (gt l 0) :: .int .u8 (gt l 1) :: .int .u8 (gt l 2) :: .int .u8 (gt l 3) :: .int .u8 (gt l 4) :: .int .u8 (gt l 5) :: .int .u8 (gt l 6) :: .int .u8 (gt l 7) :: .int .u8 (gt l 8) :: .int .u8 (gt l 9) :: .int .u8 (gt l 10) :: .int .u8 (gt l 11) :: .int .u8 (gt l 12) :: .int .u8 (gt l 13) :: .int .u8 (gt l 14) :: .int .u8 (gt l 15) :: .int .u8 (gt l 16) :: .int .u8 (gt l 17) :: .int .u8 (gt l 18) :: .int .u8 (gt l 19) :: .int .u8 (gt l 20) :: .int .u8 (gt l 21) :: .int .u8 (gt l 22) :: .int .u8 (gt l 23) :: .int .u8 (gt l 24) :: .int .u8 (gt l 25) :: .int .u8 (gt l 26) :: .int .u8 (gt l 27) :: .int .u8 (gt l 28) :: .int .u8 (gt l 29) :: .int .u8 (gt l 30) :: .int .u8 (gt l 31) :: [])))]))], 2⟩ : St) (by omega) sbQ sbQ ⟨(p3 + 1), rfl, ⟨omQ, omQ⟩, omQ, iter_again hM hag3⟩
      · rw [if_neg (ne_true h4)] at hM
        refine spQA (And.intro ha3 h4) ?_
        have nh4 := nzQ h4
        subst hM
        exact retC_view (lfQA (And.intro ha3 (And.intro h1 (And.intro h2 h4))))
  · rw [if_pos h1] at hM
    refine spQA h1 ?_
    have nh1 := nzQ h1
    subst hM
    exact retC_view (lfQA h1)
set_option maxHeartbeats 2000000 in
set_option maxRecDepth 100000 in
theorem specieref32_Same_ok  (a_ : S_api_Spend) (b : S_api_Spend)  : CallOk En 32 [.agg (.int .i64 a_.Coin.Bank :: .int .i64 a_.Coin.Epoch :: .int .i64 a_.Coin.Denom :: .int .i64 a_.Coin.Depth :: .int .i64 a_.Coin.A :: .int .u8 (gt a_.Coin.Root 0) :: .int .u8 (gt a_.Coin.Root 1) :: .int .u8 (gt a_.Coin.Root 2) :: .int .u8 (gt a_.Coin.Root 3) :: .int .u8 (gt a_.Coin.Root 4) :: .int .u8 (gt a_.Coin.Root 5) :: .int .u8 (gt a_.Coin.Root 6) :: .int .u8 (gt a_.Coin.Root 7) :: .int .u8 (gt a_.Coin.Root 8) :: .int .u8 (gt a_.Coin.Root 9) :: .int .u8 (gt a_.Coin.Root 10) :: .int .u8 (gt a_.Coin.Root 11) :: .int .u8 (gt a_.Coin.Root 12) :: .int .u8 (gt a_.Coin.Root 13) :: .int .u8 (gt a_.Coin.Root 14) :: .int .u8 (gt a_.Coin.Root 15) :: .int .u8 (gt a_.Coin.Root 16) :: .int .u8 (gt a_.Coin.Root 17) :: .int .u8 (gt a_.Coin.Root 18) :: .int .u8 (gt a_.Coin.Root 19) :: .int .u8 (gt a_.Coin.Root 20) :: .int .u8 (gt a_.Coin.Root 21) :: .int .u8 (gt a_.Coin.Root 22) :: .int .u8 (gt a_.Coin.Root 23) :: .int .u8 (gt a_.Coin.Root 24) :: .int .u8 (gt a_.Coin.Root 25) :: .int .u8 (gt a_.Coin.Root 26) :: .int .u8 (gt a_.Coin.Root 27) :: .int .u8 (gt a_.Coin.Root 28) :: .int .u8 (gt a_.Coin.Root 29) :: .int .u8 (gt a_.Coin.Root 30) :: .int .u8 (gt a_.Coin.Root 31) :: .int .i64 a_.Coin.Sign.Z :: .int .i64 a_.Coin.Sign.A :: .int .i64 a_.Coin.Sign.B :: .int .i64 a_.Coin.Sign.R :: .int .i64 a_.Node.Level :: .int .i64 a_.Node.Index :: .int .u8 (gt a_.Context.Payee 0) :: .int .u8 (gt a_.Context.Payee 1) :: .int .u8 (gt a_.Context.Payee 2) :: .int .u8 (gt a_.Context.Payee 3) :: .int .u8 (gt a_.Context.Payee 4) :: .int .u8 (gt a_.Context.Payee 5) :: .int .u8 (gt a_.Context.Payee 6) :: .int .u8 (gt a_.Context.Payee 7) :: .int .u8 (gt a_.Context.Payee 8) :: .int .u8 (gt a_.Context.Payee 9) :: .int .u8 (gt a_.Context.Payee 10) :: .int .u8 (gt a_.Context.Payee 11) :: .int .u8 (gt a_.Context.Payee 12) :: .int .u8 (gt a_.Context.Payee 13) :: .int .u8 (gt a_.Context.Payee 14) :: .int .u8 (gt a_.Context.Payee 15) :: .int .u8 (gt a_.Context.Payee 16) :: .int .u8 (gt a_.Context.Payee 17) :: .int .u8 (gt a_.Context.Payee 18) :: .int .u8 (gt a_.Context.Payee 19) :: .int .u8 (gt a_.Context.Payee 20) :: .int .u8 (gt a_.Context.Payee 21) :: .int .u8 (gt a_.Context.Payee 22) :: .int .u8 (gt a_.Context.Payee 23) :: .int .u8 (gt a_.Context.Payee 24) :: .int .u8 (gt a_.Context.Payee 25) :: .int .u8 (gt a_.Context.Payee 26) :: .int .u8 (gt a_.Context.Payee 27) :: .int .u8 (gt a_.Context.Payee 28) :: .int .u8 (gt a_.Context.Payee 29) :: .int .u8 (gt a_.Context.Payee 30) :: .int .u8 (gt a_.Context.Payee 31) :: .int .i64 a_.Context.Time :: .int .i64 a_.Context.Number :: .sl none 3 true (a_.Leaves.map e_api_Leaf) :: .int .i64 a_.Path.Index :: .sl none 32 true (a_.Path.L.map (fun l => .agg (.int .u8 (gt l 0) :: .int .u8 (gt l 1) :: .int .u8 (gt l 2) :: .int .u8 (gt l 3) :: .int .u8 (gt l 4) :: .int .u8 (gt l 5) :: .int .u8 (gt l 6) :: .int .u8 (gt l 7) :: .int .u8 (gt l 8) :: .int .u8 (gt l 9) :: .int .u8 (gt l 10) :: .int .u8 (gt l 11) :: .int .u8 (gt l 12) :: .int .u8 (gt l 13) :: .int .u8 (gt l 14) :: .int .u8 (gt l 15) :: .int .u8 (gt l 16) :: .int .u8 (gt l 17) :: .int .u8 (gt l 18) :: .int .u8 (gt l 19) :: .int .u8 (gt l 20) :: .int .u8 (gt l 21) :: .int .u8 (gt l 22) :: .int .u8 (gt l 23) :: .int .u8 (gt l 24) :: .int .u8 (gt l 25) :: .int .u8 (gt l 26) :: .int .u8 (gt l 27) :: .int .u8 (gt l 28) :: .int .u8 (gt l 29) :: .int .u8 (gt l 30) :: .int .u8 (gt l 31) :: []))) :: []), .agg (.int .i64 b.Coin.Bank :: .int .i64 b.Coin.Epoch :: .int .i64 b.Coin.Denom :: .int .i64 b.Coin.Depth :: .int .i64 b.Coin.A :: .int .u8 (gt b.Coin.Root 0) :: .int .u8 (gt b.Coin.Root 1) :: .int .u8 (gt b.Coin.Root 2) :: .int .u8 (gt b.Coin.Root 3) :: .int .u8 (gt b.Coin.Root 4) :: .int .u8 (gt b.Coin.Root 5) :: .int .u8 (gt b.Coin.Root 6) :: .int .u8 (gt b.Coin.Root 7) :: .int .u8 (gt b.Coin.Root 8) :: .int .u8 (gt b.Coin.Root 9) :: .int .u8 (gt b.Coin.Root 10) :: .int .u8 (gt b.Coin.Root 11) :: .int .u8 (gt b.Coin.Root 12) :: .int .u8 (gt b.Coin.Root 13) :: .int .u8 (gt b.Coin.Root 14) :: .int .u8 (gt b.Coin.Root 15) :: .int .u8 (gt b.Coin.Root 16) :: .int .u8 (gt b.Coin.Root 17) :: .int .u8 (gt b.Coin.Root 18) :: .int .u8 (gt b.Coin.Root 19) :: .int .u8 (gt b.Coin.Root 20) :: .int .u8 (gt b.Coin.Root 21) :: .int .u8 (gt b.Coin.Root 22) :: .int .u8 (gt b.Coin.Root 23) :: .int .u8 (gt b.Coin.Root 24) :: .int .u8 (gt b.Coin.Root 25) :: .int .u8 (gt b.Coin.Root 26) :: .int .u8 (gt b.Coin.Root 27) :: .int .u8 (gt b.Coin.Root 28) :: .int .u8 (gt b.Coin.Root 29) :: .int .u8 (gt b.Coin.Root 30) :: .int .u8 (gt b.Coin.Root 31) :: .int .i64 b.Coin.Sign.Z :: .int .i64 b.Coin.Sign.A :: .int .i64 b.Coin.Sign.B :: .int .i64 b.Coin.Sign.R :: .int .i64 b.Node.Level :: .int .i64 b.Node.Index :: .int .u8 (gt b.Context.Payee 0) :: .int .u8 (gt b.Context.Payee 1) :: .int .u8 (gt b.Context.Payee 2) :: .int .u8 (gt b.Context.Payee 3) :: .int .u8 (gt b.Context.Payee 4) :: .int .u8 (gt b.Context.Payee 5) :: .int .u8 (gt b.Context.Payee 6) :: .int .u8 (gt b.Context.Payee 7) :: .int .u8 (gt b.Context.Payee 8) :: .int .u8 (gt b.Context.Payee 9) :: .int .u8 (gt b.Context.Payee 10) :: .int .u8 (gt b.Context.Payee 11) :: .int .u8 (gt b.Context.Payee 12) :: .int .u8 (gt b.Context.Payee 13) :: .int .u8 (gt b.Context.Payee 14) :: .int .u8 (gt b.Context.Payee 15) :: .int .u8 (gt b.Context.Payee 16) :: .int .u8 (gt b.Context.Payee 17) :: .int .u8 (gt b.Context.Payee 18) :: .int .u8 (gt b.Context.Payee 19) :: .int .u8 (gt b.Context.Payee 20) :: .int .u8 (gt b.Context.Payee 21) :: .int .u8 (gt b.Context.Payee 22) :: .int .u8 (gt b.Context.Payee 23) :: .int .u8 (gt b.Context.Payee 24) :: .int .u8 (gt b.Context.Payee 25) :: .int .u8 (gt b.Context.Payee 26) :: .int .u8 (gt b.Context.Payee 27) :: .int .u8 (gt b.Context.Payee 28) :: .int .u8 (gt b.Context.Payee 29) :: .int .u8 (gt b.Context.Payee 30) :: .int .u8 (gt b.Context.Payee 31) :: .int .i64 b.Context.Time :: .int .i64 b.Context.Number :: .sl none 3 true (b.Leaves.map e_api_Leaf) :: .int .i64 b.Path.Index :: .sl none 32 true (b.Path.L.map (fun l => .agg (.int .u8 (gt l 0) :: .int .u8 (gt l 1) :: .int .u8 (gt l 2) :: .int .u8 (gt l 3) :: .int .u8 (gt l 4) :: .int .u8 (gt l 5) :: .int .u8 (gt l 6) :: .int .u8 (gt l 7) :: .int .u8 (gt l 8) :: .int .u8 (gt l 9) :: .int .u8 (gt l 10) :: .int .u8 (gt l 11) :: .int .u8 (gt l 12) :: .int .u8 (gt l 13) :: .int .u8 (gt l 14) :: .int .u8 (gt l 15) :: .int .u8 (gt l 16) :: .int .u8 (gt l 17) :: .int .u8 (gt l 18) :: .int .u8 (gt l 19) :: .int .u8 (gt l 20) :: .int .u8 (gt l 21) :: .int .u8 (gt l 22) :: .int .u8 (gt l 23) :: .int .u8 (gt l 24) :: .int .u8 (gt l 25) :: .int .u8 (gt l 26) :: .int .u8 (gt l 27) :: .int .u8 (gt l 28) :: .int .u8 (gt l 29) :: .int .u8 (gt l 30) :: .int .u8 (gt l 31) :: []))) :: [])] (.bool (specieref32_Same a_ b)) [] := by
  generalize hM : specieref32_Same a_ b = r
  rw [specieref32_Same.eq_1] at hM
  refine enterV En_ok En_mo noJ Try.func32 rfl Try.ntmps32 (by kernel_rfl) fun hw => ct_start ?_
  refine spQ ?_
  replace hw := nzQ hw
  refine guardC_f (fun h1 => ?_) (fun h1 => ?_)
  · have kh1 : (!(q_api_Coin (a_.Coin) (b.Coin))) = false := h1
    rw [if_neg (ne_true kh1)] at hM
    refine spQA h1 ?_
    have nh1 := nzQ kh1
    refine guardC_f (fun h2 => ?_) (fun h2 => ?_)
    · have kh2 : (!(q_api_Node (a_.Node) (b.Node))) = false := h2
      rw [if_neg (ne_true kh2)] at hM
      refine spQA h2 ?_
      have nh2 := nzQ kh2
      refine guardC_f (fun h3 => ?_) (fun h3 => ?_)
      · have kh3 : (!(q_api_Context (a_.Context) (b.Context))) = false := h3
        rw [if_neg (ne_true kh3)] at hM
        refine spQA h3 ?_
        have nh3 := nzQ kh3
        refine guardC_f (fun h4 => ?_) (fun h4 => ?_)
        · rw [if_neg (ne_true h4)] at hM
          refine spQA h4 ?_
          have nh4 := nzQ h4
          have hM0 := hM; clear hM; obtain ⟨x5, hx6, hM⟩ := letk_opn hM0; clear hM0
          have hcx5 := specieref27_Same_ok  (a_.Path) (b.Path) 
          rw [← hx6] at hcx5
          refine callC_give hcx5 clQ clQ (fun hw7 => ?_)
          replace hw7 := nzQ hw7
          refine spQ ?_
          refine condC_intro (fun h8 => ?_) (fun h8 => ?_)
          · rw [if_pos h8] at hM
            refine spQA h8 ?_
            have nh8 := nzQ h8
            subst hM
            exact retC_view (lfQA (And.intro h1 (And.intro h2 (And.intro h3 (And.intro h4 h8)))))
          · rw [if_neg (ne_true h8)] at hM
            refine spQA h8 ?_
            have nh8 := nzQ h8
            have hM0 := hM; clear hM; obtain ⟨f9, d9, hf9, hd9, hM⟩ := iter_opn hM0; clear hM0
            refine ct_loop (fun n S => ∃ p : Int, S = (⟨[(2, .ptr 0 0), (3, .ptr 1 0), (5, .int .i64 p)], [(0, .var 80 true (.agg (.int .i64 a_.Coin.Bank :: .int .i64 a_.Coin.Epoch :: .int .i64 a_.Coin.Denom :: .int .i64 a_.Coin.Depth :: .int .i64 a_.Coin.A :: .int .u8 (gt a_.Coin.Root 0) :: .int .u8 (gt a_.Coin.Root 1) :: .int .u8 (gt a_.Coin.Root 2) :: .int .u8 (gt a_.Coin.Root 3) :: .int .u8 (gt a_.Coin.Root 4) :: .int .u8 (gt a_.Coin.Root 5) :: .int .u8 (gt a_.Coin.Root 6) :: .int .u8 (gt a_.Coin.Root 7) :: .int .u8 (gt a_.Coin.Root 8) :: .int .u8 (gt a_.Coin.Root 9) :: .int .u8 (gt a_.Coin.Root 10) :: .int .u8 (gt a_.Coin.Root 11) :: .int .u8 (gt a_.Coin.Root 12) :: .int .u8 (gt a_.Coin.Root 13) :: .int .u8 (gt a_.Coin.Root 14) :: .int .u8 (gt a_.Coin.Root 15) :: .int .u8 (gt a_.Coin.Root 16) :: .int .u8 (gt a_.Coin.Root 17) :: .int .u8 (gt a_.Coin.Root 18) :: .int .u8 (gt a_.Coin.Root 19) :: .int .u8 (gt a_.Coin.Root 20) :: .int .u8 (gt a_.Coin.Root 21) :: .int .u8 (gt a_.Coin.Root 22) :: .int .u8 (gt a_.Coin.Root 23) :: .int .u8 (gt a_.Coin.Root 24) :: .int .u8 (gt a_.Coin.Root 25) :: .int .u8 (gt a_.Coin.Root 26) :: .int .u8 (gt a_.Coin.Root 27) :: .int .u8 (gt a_.Coin.Root 28) :: .int .u8 (gt a_.Coin.Root 29) :: .int .u8 (gt a_.Coin.Root 30) :: .int .u8 (gt a_.Coin.Root 31) :: .int .i64 a_.Coin.Sign.Z :: .int .i64 a_.Coin.Sign.A :: .int .i64 a_.Coin.Sign.B :: .int .i64 a_.Coin.Sign.R :: .int .i64 a_.Node.Level :: .int .i64 a_.Node.Index :: .int .u8 (gt a_.Context.Payee 0) :: .int .u8 (gt a_.Context.Payee 1) :: .int .u8 (gt a_.Context.Payee 2) :: .int .u8 (gt a_.Context.Payee 3) :: .int .u8 (gt a_.Context.Payee 4) :: .int .u8 (gt a_.Context.Payee 5) :: .int .u8 (gt a_.Context.Payee 6) :: .int .u8 (gt a_.Context.Payee 7) :: .int .u8 (gt a_.Context.Payee 8) :: .int .u8 (gt a_.Context.Payee 9) :: .int .u8 (gt a_.Context.Payee 10) :: .int .u8 (gt a_.Context.Payee 11) :: .int .u8 (gt a_.Context.Payee 12) :: .int .u8 (gt a_.Context.Payee 13) :: .int .u8 (gt a_.Context.Payee 14) :: .int .u8 (gt a_.Context.Payee 15) :: .int .u8 (gt a_.Context.Payee 16) :: .int .u8 (gt a_.Context.Payee 17) :: .int .u8 (gt a_.Context.Payee 18) :: .int .u8 (gt a_.Context.Payee 19) :: .int .u8 (gt a_.Context.Payee 20) :: .int .u8 (gt a_.Context.Payee 21) :: .int .u8 (gt a_.Context.Payee 22) :: .int .u8 (gt a_.Context.Payee 23) :: .int .u8 (gt a_.Context.Payee 24) :: .int .u8 (gt a_.Context.Payee 25) :: .int .u8 (gt a_.Context.Payee 26) :: .int .u8 (gt a_.Context.Payee 27) :: .int .u8 (gt a_.Context.Payee 28) :: .int .u8 (gt a_.Context.Payee 29) :: .int .u8 (gt a_.Context.Payee 30) :: .int .u8 (gt a_.Context.Payee 31) :: .int .i64 a_.Context.Time :: .int .i64 a_.Context.Number :: .sl none 3 true (a_.Leaves.map e_api_Leaf) :: .int .i64 a_.Path.Index :: .sl none 32 true (a_.Path.L.map (fun l => .agg (.int .u8 (gt l 0) :: .int .u8 (gt l 1) :: .int .u8 (gt l 2) :: .int .u8 (gt l 3) :: .int .u8 (gt l 4) :: .int .u8 (gt l 5) :: .int .u8 (gt l 6) :: .int .u8 (gt l 7) :: .int .u8 (gt l 8) :: .int .u8 (gt l 9) :: .int .u8 (gt l 10) :: .int .u8 (gt l 11) :: .int .u8 (gt l 12) :: .int .u8 (gt l 13) :: .int .u8 (gt l 14) :: .int .u8 (gt l 15) :: .int .u8 (gt l 16) :: .int .u8 (gt l 17) :: .int .u8 (gt l 18) :: .int .u8 (gt l 19) :: .int .u8 (gt l 20) :: .int .u8 (gt l 21) :: .int .u8 (gt l 22) :: .int .u8 (gt l 23) :: .int .u8 (gt l 24) :: .int .u8 (gt l 25) :: .int .u8 (gt l 26) :: .int .u8 (gt l 27) :: .int .u8 (gt l 28) :: .int .u8 (gt l 29) :: .int .u8 (gt l 30) :: .int .u8 (gt l 31) :: []))) :: []))), (1, .var 80 true (.agg (.int .i64 b.Coin.Bank :: .int .i64 b.Coin.Epoch :: .int .i64 b.Coin.Denom :: .int .i64 b.Coin.Depth :: .int .i64 b.Coin.A :: .int .u8 (gt b.Coin.Root 0) :: .int .u8 (gt b.Coin.Root 1) :: .int .u8 (gt b.Coin.Root 2) :: .int .u8 (gt b.Coin.Root 3) :: .int .u8 (gt b.Coin.Root 4) :: .int .u8 (gt b.Coin.Root 5) :: .int .u8 (gt b.Coin.Root 6) :: .int .u8 (gt b.Coin.Root 7) :: .int .u8 (gt b.Coin.Root 8) :: .int .u8 (gt b.Coin.Root 9) :: .int .u8 (gt b.Coin.Root 10) :: .int .u8 (gt b.Coin.Root 11) :: .int .u8 (gt b.Coin.Root 12) :: .int .u8 (gt b.Coin.Root 13) :: .int .u8 (gt b.Coin.Root 14) :: .int .u8 (gt b.Coin.Root 15) :: .int .u8 (gt b.Coin.Root 16) :: .int .u8 (gt b.Coin.Root 17) :: .int .u8 (gt b.Coin.Root 18) :: .int .u8 (gt b.Coin.Root 19) :: .int .u8 (gt b.Coin.Root 20) :: .int .u8 (gt b.Coin.Root 21) :: .int .u8 (gt b.Coin.Root 22) :: .int .u8 (gt b.Coin.Root 23) :: .int .u8 (gt b.Coin.Root 24) :: .int .u8 (gt b.Coin.Root 25) :: .int .u8 (gt b.Coin.Root 26) :: .int .u8 (gt b.Coin.Root 27) :: .int .u8 (gt b.Coin.Root 28) :: .int .u8 (gt b.Coin.Root 29) :: .int .u8 (gt b.Coin.Root 30) :: .int .u8 (gt b.Coin.Root 31) :: .int .i64 b.Coin.Sign.Z :: .int .i64 b.Coin.Sign.A :: .int .i64 b.Coin.Sign.B :: .int .i64 b.Coin.Sign.R :: .int .i64 b.Node.Level :: .int .i64 b.Node.Index :: .int .u8 (gt b.Context.Payee 0) :: .int .u8 (gt b.Context.Payee 1) :: .int .u8 (gt b.Context.Payee 2) :: .int .u8 (gt b.Context.Payee 3) :: .int .u8 (gt b.Context.Payee 4) :: .int .u8 (gt b.Context.Payee 5) :: .int .u8 (gt b.Context.Payee 6) :: .int .u8 (gt b.Context.Payee 7) :: .int .u8 (gt b.Context.Payee 8) :: .int .u8 (gt b.Context.Payee 9) :: .int .u8 (gt b.Context.Payee 10) :: .int .u8 (gt b.Context.Payee 11) :: .int .u8 (gt b.Context.Payee 12) :: .int .u8 (gt b.Context.Payee 13) :: .int .u8 (gt b.Context.Payee 14) :: .int .u8 (gt b.Context.Payee 15) :: .int .u8 (gt b.Context.Payee 16) :: .int .u8 (gt b.Context.Payee 17) :: .int .u8 (gt b.Context.Payee 18) :: .int .u8 (gt b.Context.Payee 19) :: .int .u8 (gt b.Context.Payee 20) :: .int .u8 (gt b.Context.Payee 21) :: .int .u8 (gt b.Context.Payee 22) :: .int .u8 (gt b.Context.Payee 23) :: .int .u8 (gt b.Context.Payee 24) :: .int .u8 (gt b.Context.Payee 25) :: .int .u8 (gt b.Context.Payee 26) :: .int .u8 (gt b.Context.Payee 27) :: .int .u8 (gt b.Context.Payee 28) :: .int .u8 (gt b.Context.Payee 29) :: .int .u8 (gt b.Context.Payee 30) :: .int .u8 (gt b.Context.Payee 31) :: .int .i64 b.Context.Time :: .int .i64 b.Context.Number :: .sl none 3 true (b.Leaves.map e_api_Leaf) :: .int .i64 b.Path.Index :: .sl none 32 true (b.Path.L.map (fun l => .agg (.int .u8 (gt l 0) :: .int .u8 (gt l 1) :: .int .u8 (gt l 2) :: .int .u8 (gt l 3) :: .int .u8 (gt l 4) :: .int .u8 (gt l 5) :: .int .u8 (gt l 6) :: .int .u8 (gt l 7) :: .int .u8 (gt l 8) :: .int .u8 (gt l 9) :: .int .u8 (gt l 10) :: .int .u8 (gt l 11) :: .int .u8 (gt l 12) :: .int .u8 (gt l 13) :: .int .u8 (gt l 14) :: .int .u8 (gt l 15) :: .int .u8 (gt l 16) :: .int .u8 (gt l 17) :: .int .u8 (gt l 18) :: .int .u8 (gt l 19) :: .int .u8 (gt l 20) :: .int .u8 (gt l 21) :: .int .u8 (gt l 22) :: .int .u8 (gt l 23) :: .int .u8 (gt l 24) :: .int .u8 (gt l 25) :: .int .u8 (gt l 26) :: .int .u8 (gt l 27) :: .int .u8 (gt l 28) :: .int .u8 (gt l 29) :: .int .u8 (gt l 30) :: .int .u8 (gt l 31) :: []))) :: [])))], 2⟩ : St) ∧ ((0 ≤ p) ∧ (p ≤ (a_.Leaves.length : Int))) ∧ ((a_.Leaves.length : Int) - p).toNat < n ∧ iter n f9 d9 p = r) (((a_.Leaves.length : Int) - 0).toNat + 1) (⟨[(2, .ptr 0 0), (3, .ptr 1 0), (5, .int .i64 0)], [(0, .var 80 true (.agg (.int .i64 a_.Coin.Bank :: .int .i64 a_.Coin.Epoch :: .int .i64 a_.Coin.Denom :: .int .i64 a_.Coin.Depth :: .int .i64 a_.Coin.A :: .int .u8 (gt a_.Coin.Root 0) :: .int .u8 (gt a_.Coin.Root 1) :: .int .u8 (gt a_.Coin.Root 2) :: .int .u8 (gt a_.Coin.Root 3) :: .int .u8 (gt a_.Coin.Root 4) :: .int .u8 (gt a_.Coin.Root 5) :: .int .u8 (gt a_.Coin.Root 6) :: .int .u8 (gt a_.Coin.Root 7) :: .int .u8 (gt a_.Coin.Root 8) :: .int .u8 (gt a_.Coin.Root 9) :: .int .u8 (gt a_.Coin.Root 10) :: .int .u8 (gt a_.Coin.Root 11) :: .int .u8 (gt a_.Coin.Root 12) :: .int .u8 (gt a_.Coin.Root 13) :: .int .u8 (gt a_.Coin.Root 14) :: .int .u8 (gt a_.Coin.Root 15) :: .int .u8 (gt a_.Coin.Root 16) :: .int .u8 (gt a_.Coin.Root 17) :: .int .u8 (gt a_.Coin.Root 18) :: .int .u8 (gt a_.Coin.Root 19) :: .int .u8 (gt a_.Coin.Root 20) :: .int .u8 (gt a_.Coin.Root 21) :: .int .u8 (gt a_.Coin.Root 22) :: .int .u8 (gt a_.Coin.Root 23) :: .int .u8 (gt a_.Coin.Root 24) :: .int .u8 (gt a_.Coin.Root 25) :: .int .u8 (gt a_.Coin.Root 26) :: .int .u8 (gt a_.Coin.Root 27) :: .int .u8 (gt a_.Coin.Root 28) :: .int .u8 (gt a_.Coin.Root 29) :: .int .u8 (gt a_.Coin.Root 30) :: .int .u8 (gt a_.Coin.Root 31) :: .int .i64 a_.Coin.Sign.Z :: .int .i64 a_.Coin.Sign.A :: .int .i64 a_.Coin.Sign.B :: .int .i64 a_.Coin.Sign.R :: .int .i64 a_.Node.Level :: .int .i64 a_.Node.Index :: .int .u8 (gt a_.Context.Payee 0) :: .int .u8 (gt a_.Context.Payee 1) :: .int .u8 (gt a_.Context.Payee 2) :: .int .u8 (gt a_.Context.Payee 3) :: .int .u8 (gt a_.Context.Payee 4) :: .int .u8 (gt a_.Context.Payee 5) :: .int .u8 (gt a_.Context.Payee 6) :: .int .u8 (gt a_.Context.Payee 7) :: .int .u8 (gt a_.Context.Payee 8) :: .int .u8 (gt a_.Context.Payee 9) :: .int .u8 (gt a_.Context.Payee 10) :: .int .u8 (gt a_.Context.Payee 11) :: .int .u8 (gt a_.Context.Payee 12) :: .int .u8 (gt a_.Context.Payee 13) :: .int .u8 (gt a_.Context.Payee 14) :: .int .u8 (gt a_.Context.Payee 15) :: .int .u8 (gt a_.Context.Payee 16) :: .int .u8 (gt a_.Context.Payee 17) :: .int .u8 (gt a_.Context.Payee 18) :: .int .u8 (gt a_.Context.Payee 19) :: .int .u8 (gt a_.Context.Payee 20) :: .int .u8 (gt a_.Context.Payee 21) :: .int .u8 (gt a_.Context.Payee 22) :: .int .u8 (gt a_.Context.Payee 23) :: .int .u8 (gt a_.Context.Payee 24) :: .int .u8 (gt a_.Context.Payee 25) :: .int .u8 (gt a_.Context.Payee 26) :: .int .u8 (gt a_.Context.Payee 27) :: .int .u8 (gt a_.Context.Payee 28) :: .int .u8 (gt a_.Context.Payee 29) :: .int .u8 (gt a_.Context.Payee 30) :: .int .u8 (gt a_.Context.Payee 31) :: .int .i64 a_.Context.Time :: .int .i64 a_.Context.Number :: .sl none 3 true (a_.Leaves.map e_api_Leaf) :: .int .i64 a_.Path.Index :: .sl none 32 true (a_.Path.L.map (fun l => .agg (.int .u8 (gt l 0) :: .int .u8 (gt l 1) :: .int .u8 (gt l 2) :: .int .u8 (gt l 3) :: .int .u8 (gt l 4) :: .int .u8 (gt l 5) :: .int .u8 (gt l 6) :: .int .u8 (gt l 7) :: .int .u8 (gt l 8) :: .int .u8 (gt l 9) :: .int .u8 (gt l 10) :: .int .u8 (gt l 11) :: .int .u8 (gt l 12) :: .int .u8 (gt l 13) :: .int .u8 (gt l 14) :: .int .u8 (gt l 15) :: .int .u8 (gt l 16) :: .int .u8 (gt l 17) :: .int .u8 (gt l 18) :: .int .u8 (gt l 19) :: .int .u8 (gt l 20) :: .int .u8 (gt l 21) :: .int .u8 (gt l 22) :: .int .u8 (gt l 23) :: .int .u8 (gt l 24) :: .int .u8 (gt l 25) :: .int .u8 (gt l 26) :: .int .u8 (gt l 27) :: .int .u8 (gt l 28) :: .int .u8 (gt l 29) :: .int .u8 (gt l 30) :: .int .u8 (gt l 31) :: []))) :: []))), (1, .var 80 true (.agg (.int .i64 b.Coin.Bank :: .int .i64 b.Coin.Epoch :: .int .i64 b.Coin.Denom :: .int .i64 b.Coin.Depth :: .int .i64 b.Coin.A :: .int .u8 (gt b.Coin.Root 0) :: .int .u8 (gt b.Coin.Root 1) :: .int .u8 (gt b.Coin.Root 2) :: .int .u8 (gt b.Coin.Root 3) :: .int .u8 (gt b.Coin.Root 4) :: .int .u8 (gt b.Coin.Root 5) :: .int .u8 (gt b.Coin.Root 6) :: .int .u8 (gt b.Coin.Root 7) :: .int .u8 (gt b.Coin.Root 8) :: .int .u8 (gt b.Coin.Root 9) :: .int .u8 (gt b.Coin.Root 10) :: .int .u8 (gt b.Coin.Root 11) :: .int .u8 (gt b.Coin.Root 12) :: .int .u8 (gt b.Coin.Root 13) :: .int .u8 (gt b.Coin.Root 14) :: .int .u8 (gt b.Coin.Root 15) :: .int .u8 (gt b.Coin.Root 16) :: .int .u8 (gt b.Coin.Root 17) :: .int .u8 (gt b.Coin.Root 18) :: .int .u8 (gt b.Coin.Root 19) :: .int .u8 (gt b.Coin.Root 20) :: .int .u8 (gt b.Coin.Root 21) :: .int .u8 (gt b.Coin.Root 22) :: .int .u8 (gt b.Coin.Root 23) :: .int .u8 (gt b.Coin.Root 24) :: .int .u8 (gt b.Coin.Root 25) :: .int .u8 (gt b.Coin.Root 26) :: .int .u8 (gt b.Coin.Root 27) :: .int .u8 (gt b.Coin.Root 28) :: .int .u8 (gt b.Coin.Root 29) :: .int .u8 (gt b.Coin.Root 30) :: .int .u8 (gt b.Coin.Root 31) :: .int .i64 b.Coin.Sign.Z :: .int .i64 b.Coin.Sign.A :: .int .i64 b.Coin.Sign.B :: .int .i64 b.Coin.Sign.R :: .int .i64 b.Node.Level :: .int .i64 b.Node.Index :: .int .u8 (gt b.Context.Payee 0) :: .int .u8 (gt b.Context.Payee 1) :: .int .u8 (gt b.Context.Payee 2) :: .int .u8 (gt b.Context.Payee 3) :: .int .u8 (gt b.Context.Payee 4) :: .int .u8 (gt b.Context.Payee 5) :: .int .u8 (gt b.Context.Payee 6) :: .int .u8 (gt b.Context.Payee 7) :: .int .u8 (gt b.Context.Payee 8) :: .int .u8 (gt b.Context.Payee 9) :: .int .u8 (gt b.Context.Payee 10) :: .int .u8 (gt b.Context.Payee 11) :: .int .u8 (gt b.Context.Payee 12) :: .int .u8 (gt b.Context.Payee 13) :: .int .u8 (gt b.Context.Payee 14) :: .int .u8 (gt b.Context.Payee 15) :: .int .u8 (gt b.Context.Payee 16) :: .int .u8 (gt b.Context.Payee 17) :: .int .u8 (gt b.Context.Payee 18) :: .int .u8 (gt b.Context.Payee 19) :: .int .u8 (gt b.Context.Payee 20) :: .int .u8 (gt b.Context.Payee 21) :: .int .u8 (gt b.Context.Payee 22) :: .int .u8 (gt b.Context.Payee 23) :: .int .u8 (gt b.Context.Payee 24) :: .int .u8 (gt b.Context.Payee 25) :: .int .u8 (gt b.Context.Payee 26) :: .int .u8 (gt b.Context.Payee 27) :: .int .u8 (gt b.Context.Payee 28) :: .int .u8 (gt b.Context.Payee 29) :: .int .u8 (gt b.Context.Payee 30) :: .int .u8 (gt b.Context.Payee 31) :: .int .i64 b.Context.Time :: .int .i64 b.Context.Number :: .sl none 3 true (b.Leaves.map e_api_Leaf) :: .int .i64 b.Path.Index :: .sl none 32 true (b.Path.L.map (fun l => .agg (.int .u8 (gt l 0) :: .int .u8 (gt l 1) :: .int .u8 (gt l 2) :: .int .u8 (gt l 3) :: .int .u8 (gt l 4) :: .int .u8 (gt l 5) :: .int .u8 (gt l 6) :: .int .u8 (gt l 7) :: .int .u8 (gt l 8) :: .int .u8 (gt l 9) :: .int .u8 (gt l 10) :: .int .u8 (gt l 11) :: .int .u8 (gt l 12) :: .int .u8 (gt l 13) :: .int .u8 (gt l 14) :: .int .u8 (gt l 15) :: .int .u8 (gt l 16) :: .int .u8 (gt l 17) :: .int .u8 (gt l 18) :: .int .u8 (gt l 19) :: .int .u8 (gt l 20) :: .int .u8 (gt l 21) :: .int .u8 (gt l 22) :: .int .u8 (gt l 23) :: .int .u8 (gt l 24) :: .int .u8 (gt l 25) :: .int .u8 (gt l 26) :: .int .u8 (gt l 27) :: .int .u8 (gt l 28) :: .int .u8 (gt l 29) :: .int .u8 (gt l 30) :: .int .u8 (gt l 31) :: []))) :: [])))], 2⟩ : St) sbQ sbQ ⟨0, rfl, ⟨omQ, omQ⟩, (Nat.lt_succ_self _), hM⟩ ?_
            clear hM
            rintro n9 S ⟨p9, rfl, hfa9, hm9, hM⟩
            have hM0 := hM; clear hM; obtain ⟨ag9, hag9, hM⟩ := iter_step hM0 (by omega) hf9; clear hM0
            replace hfa9 := nzQ hfa9
            replace hm9 := nzQ hm9
            have ha9 : addI .i64 p9 1 = p9 + 1 := add_one omQ omQ
            refine spQA ha9 ?_
            refine condC_intro (fun h10 => ?_) (fun h10 => ?_)
            · rw [if_pos h10] at hM
              refine spQA (And.intro ha9 h10) ?_
              have nh10 := nzQ h10
              refine ct_draw 60 10 [49, 50, 51, 52, 53, 54, 55, 56, 57, 58] [] ([[], [0], [], [0, 1, 2], [0, 1, 2, 3], [], [5], [], [5, 6, 7], [5, 6, 7, 8]] ++ [List.range 10]) [] (by kernel_rfl) (by exact alQ) ?_
              refine spQA ha9 ?_
              refine hbindC_intro omQ ?_
              have he11 := fun d => elt_mp (l := a_.Leaves) (f := e_api_Leaf) (i := p9) omQ d
              refine spQA (And.intro ha9 he11) ?_
              refine hbindC_intro omQ ?_
              have he12 := fun d => elt_mp (l := b.Leaves) (f := e_api_Leaf) (i := p9) omQ d
              refine spQA (And.intro ha9 (And.intro he11 he12)) ?_
              refine condC_intro (fun h13 => ?_) (fun h13 => ?_)
              · have kh13 : (!(q_api_Leaf (gt a_.Leaves p9) (gt b.Leaves p9))) = true := h13
                rw [if_pos kh13] at hM
                refine spQA (And.intro ha9 (And.intro he11 (And.intro he12 h13))) ?_
                have nh13 := nzQ kh13
                subst hM
                exact retC_view (lfQA (And.intro ha9 (And.intro he11 (And.intro he12 (And.intro h1 (And.intro h2 (And.intro h3 (And.intro h4 (And.intro h8 (And.intro h10 h13))))))))))
              · have kh13 : (!(q_api_Leaf (gt a_.Leaves p9) (gt b.Leaves p9))) = false := h13
                rw [if_neg (ne_true kh13)] at hM
                refine spQA (And.intro ha9 (And.intro he11 (And.intro he12 h13))) ?_
                have nh13 := nzQ kh13
                refine lp_intro (n9 - 1) (⟨[(2, .ptr 0 0), (3, .ptr 1 0), (5, .int .i64 (p9 + 1))], [(0, .var 80 true (.agg (.int .i64 a_.Coin.Bank :: .int .i64 a_.Coin.Epoch :: .int .i64 a_.Coin.Denom :: .int .i64 a_.Coin.Depth :: .int .i64 a_.Coin.A :: .int .u8 (gt a_.Coin.Root 0) :: .int .u8 (gt a_.Coin.Root 1) :: .int .u8 (gt a_.Coin.Root 2) :: .int .u8 (gt a_.Coin.Root 3) :: .int .u8 (gt a_.Coin.Root 4) :: .int .u8 (gt a_.Coin.Root 5) :: .int .u8 (gt a_.Coin.Root 6) :: .int .u8 (gt a_.Coin.Root 7) :: .int .u8 (gt a_.Coin.Root 8) :: .int .u8 (gt a_.Coin.Root 9) :: .int .u8 (gt a_.Coin.Root 10) :: .int .u8 (gt a_.Coin.Root 11) :: .int .u8 (gt a_.Coin.Root 12) :: .int .u8 (gt a_.Coin.Root 13) :: .int .u8 (gt a_.Coin.Root 14) :: .int .u8 (gt a_.Coin.Root 15) :: .int .u8 (gt a_.Coin.Root 16) :: .int .u8 (gt a_.Coin.Root 17) :: .int .u8 (gt a_.Coin.Root 18) :: .int .u8 (gt a_.Coin.Root 19) :: .int .u8 (gt a_.Coin.Root 20) :: .int .u8 (gt a_.Coin.Root 21) :: .int .u8 (gt a_.Coin.Root 22) :: .int .u8 (gt a_.Coin.Root 23) :: .int .u8 (gt a_.Coin.Root 24) :: .int .u8 (gt a_.Coin.Root 25) :: .int .u8 (gt a_.Coin.Root 26) :: .int .u8 (gt a_.Coin.Root 27) :: .int .u8 (gt a_.Coin.Root 28) :: .int .u8 (gt a_.Coin.Root 29) :: .int .u8 (gt a_.Coin.Root 30) :: .int .u8 (gt a_.Coin.Root 31) :: .int .i64 a_.Coin.Sign.Z :: .int .i64 a_.Coin.Sign.A :: .int .i64 a_.Coin.Sign.B :: .int .i64 a_.Coin.Sign.R :: .int .i64 a_.Node.Level :: .int .i64 a_.Node.Index :: .int .u8 (gt a_.Context.Payee 0) :: .int .u8 (gt a_.Context.Payee 1) :: .int .u8 (gt a_.Context.Payee 2) :: .int .u8 (gt a_.Context.Payee 3) :: .int .u8 (gt a_.Context.Payee 4) :: .int .u8 (gt a_.Context.Payee 5) :: .int .u8 (gt a_.Context.Payee 6) :: .int .u8 (gt a_.Context.Payee 7) :: .int .u8 (gt a_.Context.Payee 8) :: .int .u8 (gt a_.Context.Payee 9) :: .int .u8 (gt a_.Context.Payee 10) :: .int .u8 (gt a_.Context.Payee 11) :: .int .u8 (gt a_.Context.Payee 12) :: .int .u8 (gt a_.Context.Payee 13) :: .int .u8 (gt a_.Context.Payee 14) :: .int .u8 (gt a_.Context.Payee 15) :: .int .u8 (gt a_.Context.Payee 16) :: .int .u8 (gt a_.Context.Payee 17) :: .int .u8 (gt a_.Context.Payee 18) :: .int .u8 (gt a_.Context.Payee 19) :: .int .u8 (gt a_.Context.Payee 20) :: .int .u8 (gt a_.Context.Payee 21) :: .int .u8 (gt a_.Context.Payee 22) :: .int .u8 (gt a_.Context.Payee 23) :: .int .u8 (gt a_.Context.Payee 24) :: .int .u8 (gt a_.Context.Payee 25) :: .int .u8 (gt a_.Context.Payee 26) :: .int .u8 (gt a_.Context.Payee 27) :: .int .u8 (gt a_.Context.Payee 28) :: .int .u8 (gt a_.Context.Payee 29) :: .int .u8 (gt a_.Context.Payee 30) :: .int .u8 (gt a_.Context.Payee 31) :: .int .i64 a_.Context.Time :: .int .i64 a_.Context.Number :: .sl none 3 true (a_.Leaves.map e_api_Leaf) :: .int .i64 a_.Path.Index :: .sl none 32 true (a_.Path.L.map (fun l => .agg (.int .u8 (gt l 0) :: .int .u8 (gt l 1) :: .int .u8 (gt l 2) :: .int .u8 (gt l 3) :: .int .u8 (gt l 4) :: .int .u8 (gt l 5) :: .int .u8 (gt l 6) :: .int .u8 (gt l 7) :: .int .u8 (gt l 8) :: .int .u8 (gt l 9) :: .int .u8 (gt l 10) :: .int .u8 (gt l 11) :: .int .u8 (gt l 12) :: .int .u8 (gt l 13) :: .int .u8 (gt l 14) :: .int .u8 (gt l 15) :: .int .u8 (gt l 16) :: .int .u8 (gt l 17) :: .int .u8 (gt l 18) :: .int .u8 (gt l 19) :: .int .u8 (gt l 20) :: .int .u8 (gt l 21) :: .int .u8 (gt l 22) :: .int .u8 (gt l 23) :: .int .u8 (gt l 24) :: .int .u8 (gt l 25) :: .int .u8 (gt l 26) :: .int .u8 (gt l 27) :: .int .u8 (gt l 28) :: .int .u8 (gt l 29) :: .int .u8 (gt l 30) :: .int .u8 (gt l 31) :: []))) :: []))), (1, .var 80 true (.agg (.int .i64 b.Coin.Bank :: .int .i64 b.Coin.Epoch :: .int .i64 b.Coin.Denom :: .int .i64 b.Coin.Depth :: .int .i64 b.Coin.A :: .int .u8 (gt b.Coin.Root 0) :: .int .u8 (gt b.Coin.Root 1) :: .int .u8 (gt b.Coin.Root 2) :: .int .u8 (gt b.Coin.Root 3) :: .int .u8 (gt b.Coin.Root 4) :: .int .u8 (gt b.Coin.Root 5) :: .int .u8 (gt b.Coin.Root 6) :: .int .u8 (gt b.Coin.Root 7) :: .int .u8 (gt b.Coin.Root 8) :: .int .u8 (gt b.Coin.Root 9) :: .int .u8 (gt b.Coin.Root 10) :: .int .u8 (gt b.Coin.Root 11) :: .int .u8 (gt b.Coin.Root 12) :: .int .u8 (gt b.Coin.Root 13) :: .int .u8 (gt b.Coin.Root 14) :: .int .u8 (gt b.Coin.Root 15) :: .int .u8 (gt b.Coin.Root 16) :: .int .u8 (gt b.Coin.Root 17) :: .int .u8 (gt b.Coin.Root 18) :: .int .u8 (gt b.Coin.Root 19) :: .int .u8 (gt b.Coin.Root 20) :: .int .u8 (gt b.Coin.Root 21) :: .int .u8 (gt b.Coin.Root 22) :: .int .u8 (gt b.Coin.Root 23) :: .int .u8 (gt b.Coin.Root 24) :: .int .u8 (gt b.Coin.Root 25) :: .int .u8 (gt b.Coin.Root 26) :: .int .u8 (gt b.Coin.Root 27) :: .int .u8 (gt b.Coin.Root 28) :: .int .u8 (gt b.Coin.Root 29) :: .int .u8 (gt b.Coin.Root 30) :: .int .u8 (gt b.Coin.Root 31) :: .int .i64 b.Coin.Sign.Z :: .int .i64 b.Coin.Sign.A :: .int .i64 b.Coin.Sign.B :: .int .i64 b.Coin.Sign.R :: .int .i64 b.Node.Level :: .int .i64 b.Node.Index :: .int .u8 (gt b.Context.Payee 0) :: .int .u8 (gt b.Context.Payee 1) :: .int .u8 (gt b.Context.Payee 2) :: .int .u8 (gt b.Context.Payee 3) :: .int .u8 (gt b.Context.Payee 4) :: .int .u8 (gt b.Context.Payee 5) :: .int .u8 (gt b.Context.Payee 6) :: .int .u8 (gt b.Context.Payee 7) :: .int .u8 (gt b.Context.Payee 8) :: .int .u8 (gt b.Context.Payee 9) :: .int .u8 (gt b.Context.Payee 10) :: .int .u8 (gt b.Context.Payee 11) :: .int .u8 (gt b.Context.Payee 12) :: .int .u8 (gt b.Context.Payee 13) :: .int .u8 (gt b.Context.Payee 14) :: .int .u8 (gt b.Context.Payee 15) :: .int .u8 (gt b.Context.Payee 16) :: .int .u8 (gt b.Context.Payee 17) :: .int .u8 (gt b.Context.Payee 18) :: .int .u8 (gt b.Context.Payee 19) :: .int .u8 (gt b.Context.Payee 20) :: .int .u8 (gt b.Context.Payee 21) :: .int .u8 (gt b.Context.Payee 22) :: .int .u8 (gt b.Context.Payee 23) :: .int .u8 (gt b.Context.Payee 24) :: .int .u8 (gt b.Context.Payee 25) :: .int .u8 (gt b.Context.Payee 26) :: .int .u8 (gt b.Context.Payee 27) :: .int .u8 (gt b.Context.Payee 28) :: .int .u8 (gt b.Context.Payee 29) :: .int .u8 (gt b.Context.Payee 30) :: .int .u8 (gt b.Context.Payee 31) :: .int .i64 b.Context.Time :: .int .i64 b.Context.Number :: .sl none 3 true (b.Leaves.map e_api_Leaf) :: .int .i64 b.Path.Index :: .sl none 32 true (b.Path.L.map (fun l => .agg (.int .u8 (gt l 0) :: .int .u8 (gt l 1) :: .int .u8 (gt l 2) :: .int .u8 (gt l 3) :: .int .u8 (gt l 4) :: .int .u8 (gt l 5) :: .int .u8 (gt l 6) :: .int .u8 (gt l 7) :: .int .u8 (gt l 8) :: .int .u8 (gt l 9) :: .int .u8 (gt l 10) :: .int .u8 (gt l 11) :: .int .u8 (gt l 12) :: .int .u8 (gt l 13) :: .int .u8 (gt l 14) :: .int .u8 (gt l 15) :: .int .u8 (gt l 16) :: .int .u8 (gt l 17) :: .int .u8 (gt l 18) :: .int .u8 (gt l 19) :: .int .u8 (gt l 20) :: .int .u8 (gt l 21) :: .int .u8 (gt l 22) :: .int .u8 (gt l 23) :: .int .u8 (gt l 24) :: .int .u8 (gt l 25) :: .int .u8 (gt l 26) :: .int .u8 (gt l 27) :: .int .u8 (gt l 28) :: .int .u8 (gt l 29) :: .int .u8 (gt l 30) :: .int .u8 (gt l 31) :: []))) :: [])))], 2⟩ : St) (by omega) sbQ sbQ ⟨(p9 + 1), rfl, ⟨omQ, omQ⟩, omQ, iter_again hM hag9⟩
            · rw [if_neg (ne_true h10)] at hM
              refine spQA (And.intro ha9 h10) ?_
              have nh10 := nzQ h10
              subst hM
              exact retC_view (lfQA (And.intro ha9 (And.intro h1 (And.intro h2 (And.intro h3 (And.intro h4 (And.intro h8 h10)))))))
        · rw [if_pos h4] at hM
          refine spQA h4 ?_
          have nh4 := nzQ h4
          subst hM
          exact retC_view (lfQA (And.intro h1 (And.intro h2 (And.intro h3 h4))))
      · have kh3 : (!(q_api_Context (a_.Context) (b.Context))) = true := h3
        rw [if_pos kh3] at hM
        refine spQA h3 ?_
        have nh3 := nzQ kh3
        subst hM
        exact retC_view (lfQA (And.intro h1 (And.intro h2 h3)))
    · have kh2 : (!(q_api_Node (a_.Node) (b.Node))) = true := h2
      rw [if_pos kh2] at hM
      refine spQA h2 ?_
      have nh2 := nzQ kh2
      subst hM
      exact retC_view (lfQA (And.intro h1 h2))
  · have kh1 : (!(q_api_Coin (a_.Coin) (b.Coin))) = true := h1
    rw [if_pos kh1] at hM
    refine spQA h1 ?_
    have nh1 := nzQ kh1
    subst hM
    exact retC_view (lfQA h1)
set_option maxHeartbeats 2000000 in
set_option maxRecDepth 100000 in
theorem specieref35_Same_ok  (x_ : S_api_Chain) (y : S_api_Chain) (hp0 : x_.L.length ≤ 1000) (hp1 : y.L.length ≤ 1000) : CallOk En 33 [.agg (.int .i64 x_.First.Coin.Bank :: .int .i64 x_.First.Coin.Epoch :: .int .i64 x_.First.Coin.Denom :: .int .i64 x_.First.Coin.Depth :: .int .i64 x_.First.Coin.A :: .int .u8 (gt x_.First.Coin.Root 0) :: .int .u8 (gt x_.First.Coin.Root 1) :: .int .u8 (gt x_.First.Coin.Root 2) :: .int .u8 (gt x_.First.Coin.Root 3) :: .int .u8 (gt x_.First.Coin.Root 4) :: .int .u8 (gt x_.First.Coin.Root 5) :: .int .u8 (gt x_.First.Coin.Root 6) :: .int .u8 (gt x_.First.Coin.Root 7) :: .int .u8 (gt x_.First.Coin.Root 8) :: .int .u8 (gt x_.First.Coin.Root 9) :: .int .u8 (gt x_.First.Coin.Root 10) :: .int .u8 (gt x_.First.Coin.Root 11) :: .int .u8 (gt x_.First.Coin.Root 12) :: .int .u8 (gt x_.First.Coin.Root 13) :: .int .u8 (gt x_.First.Coin.Root 14) :: .int .u8 (gt x_.First.Coin.Root 15) :: .int .u8 (gt x_.First.Coin.Root 16) :: .int .u8 (gt x_.First.Coin.Root 17) :: .int .u8 (gt x_.First.Coin.Root 18) :: .int .u8 (gt x_.First.Coin.Root 19) :: .int .u8 (gt x_.First.Coin.Root 20) :: .int .u8 (gt x_.First.Coin.Root 21) :: .int .u8 (gt x_.First.Coin.Root 22) :: .int .u8 (gt x_.First.Coin.Root 23) :: .int .u8 (gt x_.First.Coin.Root 24) :: .int .u8 (gt x_.First.Coin.Root 25) :: .int .u8 (gt x_.First.Coin.Root 26) :: .int .u8 (gt x_.First.Coin.Root 27) :: .int .u8 (gt x_.First.Coin.Root 28) :: .int .u8 (gt x_.First.Coin.Root 29) :: .int .u8 (gt x_.First.Coin.Root 30) :: .int .u8 (gt x_.First.Coin.Root 31) :: .int .i64 x_.First.Coin.Sign.Z :: .int .i64 x_.First.Coin.Sign.A :: .int .i64 x_.First.Coin.Sign.B :: .int .i64 x_.First.Coin.Sign.R :: .int .i64 x_.First.Node.Level :: .int .i64 x_.First.Node.Index :: .int .u8 (gt x_.First.Context.Payee 0) :: .int .u8 (gt x_.First.Context.Payee 1) :: .int .u8 (gt x_.First.Context.Payee 2) :: .int .u8 (gt x_.First.Context.Payee 3) :: .int .u8 (gt x_.First.Context.Payee 4) :: .int .u8 (gt x_.First.Context.Payee 5) :: .int .u8 (gt x_.First.Context.Payee 6) :: .int .u8 (gt x_.First.Context.Payee 7) :: .int .u8 (gt x_.First.Context.Payee 8) :: .int .u8 (gt x_.First.Context.Payee 9) :: .int .u8 (gt x_.First.Context.Payee 10) :: .int .u8 (gt x_.First.Context.Payee 11) :: .int .u8 (gt x_.First.Context.Payee 12) :: .int .u8 (gt x_.First.Context.Payee 13) :: .int .u8 (gt x_.First.Context.Payee 14) :: .int .u8 (gt x_.First.Context.Payee 15) :: .int .u8 (gt x_.First.Context.Payee 16) :: .int .u8 (gt x_.First.Context.Payee 17) :: .int .u8 (gt x_.First.Context.Payee 18) :: .int .u8 (gt x_.First.Context.Payee 19) :: .int .u8 (gt x_.First.Context.Payee 20) :: .int .u8 (gt x_.First.Context.Payee 21) :: .int .u8 (gt x_.First.Context.Payee 22) :: .int .u8 (gt x_.First.Context.Payee 23) :: .int .u8 (gt x_.First.Context.Payee 24) :: .int .u8 (gt x_.First.Context.Payee 25) :: .int .u8 (gt x_.First.Context.Payee 26) :: .int .u8 (gt x_.First.Context.Payee 27) :: .int .u8 (gt x_.First.Context.Payee 28) :: .int .u8 (gt x_.First.Context.Payee 29) :: .int .u8 (gt x_.First.Context.Payee 30) :: .int .u8 (gt x_.First.Context.Payee 31) :: .int .i64 x_.First.Context.Time :: .int .i64 x_.First.Context.Number :: .sl none 3 true (x_.First.Leaves.map e_api_Leaf) :: .int .i64 x_.First.Path.Index :: .sl none 32 true (x_.First.Path.L.map (fun l => .agg (.int .u8 (gt l 0) :: .int .u8 (gt l 1) :: .int .u8 (gt l 2) :: .int .u8 (gt l 3) :: .int .u8 (gt l 4) :: .int .u8 (gt l 5) :: .int .u8 (gt l 6) :: .int .u8 (gt l 7) :: .int .u8 (gt l 8) :: .int .u8 (gt l 9) :: .int .u8 (gt l 10) :: .int .u8 (gt l 11) :: .int .u8 (gt l 12) :: .int .u8 (gt l 13) :: .int .u8 (gt l 14) :: .int .u8 (gt l 15) :: .int .u8 (gt l 16) :: .int .u8 (gt l 17) :: .int .u8 (gt l 18) :: .int .u8 (gt l 19) :: .int .u8 (gt l 20) :: .int .u8 (gt l 21) :: .int .u8 (gt l 22) :: .int .u8 (gt l 23) :: .int .u8 (gt l 24) :: .int .u8 (gt l 25) :: .int .u8 (gt l 26) :: .int .u8 (gt l 27) :: .int .u8 (gt l 28) :: .int .u8 (gt l 29) :: .int .u8 (gt l 30) :: .int .u8 (gt l 31) :: []))) :: .sl none 80 true (x_.L.map e_api_Spend) :: []), .agg (.int .i64 y.First.Coin.Bank :: .int .i64 y.First.Coin.Epoch :: .int .i64 y.First.Coin.Denom :: .int .i64 y.First.Coin.Depth :: .int .i64 y.First.Coin.A :: .int .u8 (gt y.First.Coin.Root 0) :: .int .u8 (gt y.First.Coin.Root 1) :: .int .u8 (gt y.First.Coin.Root 2) :: .int .u8 (gt y.First.Coin.Root 3) :: .int .u8 (gt y.First.Coin.Root 4) :: .int .u8 (gt y.First.Coin.Root 5) :: .int .u8 (gt y.First.Coin.Root 6) :: .int .u8 (gt y.First.Coin.Root 7) :: .int .u8 (gt y.First.Coin.Root 8) :: .int .u8 (gt y.First.Coin.Root 9) :: .int .u8 (gt y.First.Coin.Root 10) :: .int .u8 (gt y.First.Coin.Root 11) :: .int .u8 (gt y.First.Coin.Root 12) :: .int .u8 (gt y.First.Coin.Root 13) :: .int .u8 (gt y.First.Coin.Root 14) :: .int .u8 (gt y.First.Coin.Root 15) :: .int .u8 (gt y.First.Coin.Root 16) :: .int .u8 (gt y.First.Coin.Root 17) :: .int .u8 (gt y.First.Coin.Root 18) :: .int .u8 (gt y.First.Coin.Root 19) :: .int .u8 (gt y.First.Coin.Root 20) :: .int .u8 (gt y.First.Coin.Root 21) :: .int .u8 (gt y.First.Coin.Root 22) :: .int .u8 (gt y.First.Coin.Root 23) :: .int .u8 (gt y.First.Coin.Root 24) :: .int .u8 (gt y.First.Coin.Root 25) :: .int .u8 (gt y.First.Coin.Root 26) :: .int .u8 (gt y.First.Coin.Root 27) :: .int .u8 (gt y.First.Coin.Root 28) :: .int .u8 (gt y.First.Coin.Root 29) :: .int .u8 (gt y.First.Coin.Root 30) :: .int .u8 (gt y.First.Coin.Root 31) :: .int .i64 y.First.Coin.Sign.Z :: .int .i64 y.First.Coin.Sign.A :: .int .i64 y.First.Coin.Sign.B :: .int .i64 y.First.Coin.Sign.R :: .int .i64 y.First.Node.Level :: .int .i64 y.First.Node.Index :: .int .u8 (gt y.First.Context.Payee 0) :: .int .u8 (gt y.First.Context.Payee 1) :: .int .u8 (gt y.First.Context.Payee 2) :: .int .u8 (gt y.First.Context.Payee 3) :: .int .u8 (gt y.First.Context.Payee 4) :: .int .u8 (gt y.First.Context.Payee 5) :: .int .u8 (gt y.First.Context.Payee 6) :: .int .u8 (gt y.First.Context.Payee 7) :: .int .u8 (gt y.First.Context.Payee 8) :: .int .u8 (gt y.First.Context.Payee 9) :: .int .u8 (gt y.First.Context.Payee 10) :: .int .u8 (gt y.First.Context.Payee 11) :: .int .u8 (gt y.First.Context.Payee 12) :: .int .u8 (gt y.First.Context.Payee 13) :: .int .u8 (gt y.First.Context.Payee 14) :: .int .u8 (gt y.First.Context.Payee 15) :: .int .u8 (gt y.First.Context.Payee 16) :: .int .u8 (gt y.First.Context.Payee 17) :: .int .u8 (gt y.First.Context.Payee 18) :: .int .u8 (gt y.First.Context.Payee 19) :: .int .u8 (gt y.First.Context.Payee 20) :: .int .u8 (gt y.First.Context.Payee 21) :: .int .u8 (gt y.First.Context.Payee 22) :: .int .u8 (gt y.First.Context.Payee 23) :: .int .u8 (gt y.First.Context.Payee 24) :: .int .u8 (gt y.First.Context.Payee 25) :: .int .u8 (gt y.First.Context.Payee 26) :: .int .u8 (gt y.First.Context.Payee 27) :: .int .u8 (gt y.First.Context.Payee 28) :: .int .u8 (gt y.First.Context.Payee 29) :: .int .u8 (gt y.First.Context.Payee 30) :: .int .u8 (gt y.First.Context.Payee 31) :: .int .i64 y.First.Context.Time :: .int .i64 y.First.Context.Number :: .sl none 3 true (y.First.Leaves.map e_api_Leaf) :: .int .i64 y.First.Path.Index :: .sl none 32 true (y.First.Path.L.map (fun l => .agg (.int .u8 (gt l 0) :: .int .u8 (gt l 1) :: .int .u8 (gt l 2) :: .int .u8 (gt l 3) :: .int .u8 (gt l 4) :: .int .u8 (gt l 5) :: .int .u8 (gt l 6) :: .int .u8 (gt l 7) :: .int .u8 (gt l 8) :: .int .u8 (gt l 9) :: .int .u8 (gt l 10) :: .int .u8 (gt l 11) :: .int .u8 (gt l 12) :: .int .u8 (gt l 13) :: .int .u8 (gt l 14) :: .int .u8 (gt l 15) :: .int .u8 (gt l 16) :: .int .u8 (gt l 17) :: .int .u8 (gt l 18) :: .int .u8 (gt l 19) :: .int .u8 (gt l 20) :: .int .u8 (gt l 21) :: .int .u8 (gt l 22) :: .int .u8 (gt l 23) :: .int .u8 (gt l 24) :: .int .u8 (gt l 25) :: .int .u8 (gt l 26) :: .int .u8 (gt l 27) :: .int .u8 (gt l 28) :: .int .u8 (gt l 29) :: .int .u8 (gt l 30) :: .int .u8 (gt l 31) :: []))) :: .sl none 80 true (y.L.map e_api_Spend) :: [])] (.bool (specieref35_Same x_ y)) [] := by
  generalize hM : specieref35_Same x_ y = r
  rw [specieref35_Same.eq_1] at hM
  refine enterV En_ok En_mo noJ Try.func33 rfl Try.ntmps33 (by kernel_rfl) fun hw => ct_start ?_
  refine spQ ?_
  replace hw := nzQ hw
  refine ct_draw 33 3 [8, 9, 10] [] ([[], [0], []] ++ [List.range 3, List.range 4, List.range 5]) [] (by kernel_rfl) (by exact alQ) ?_
  refine spQ ?_
  have hM0 := hM; clear hM; obtain ⟨x1, hx2, hM⟩ := letk_opn hM0; clear hM0
  have hcx1 := specieref35_Spends_ok  x_ (by (first | exact hp0 | exact hp1))
  rw [← hx2] at hcx1
  refine hcallC_give hcx1 clQ clQ ?_
  refine spQ ?_
  have hM0 := hM; clear hM; obtain ⟨x3, hx4, hM⟩ := letk_opn hM0; clear hM0
  have hcx3 := specieref35_Spends_ok  y (by (first | exact hp0 | exact hp1))
  rw [← hx4] at hcx3
  refine callC_give hcx3 clQ clQ (fun hw5 => ?_)
  replace hw5 := nzQ hw5
  refine spQ ?_
  refine condC_intro (fun h6 => ?_) (fun h6 => ?_)
  · rw [if_pos h6] at hM
    refine spQA h6 ?_
    have nh6 := nzQ h6
    subst hM
    exact retC_view (lfQA h6)
  · rw [if_neg (ne_true h6)] at hM
    refine spQA h6 ?_
    have nh6 := nzQ h6
    have hM0 := hM; clear hM; obtain ⟨f7, d7, hf7, hd7, hM⟩ := iter_opn hM0; clear hM0
    refine ct_loop (fun n S => ∃ p : Int, S = (⟨[(5, .sl none 80 true (x1.map e_api_Spend)), (6, .sl none 80 true (x3.map e_api_Spend)), (7, .int .i64 p)], [], 5⟩ : St) ∧ ((0 ≤ p) ∧ (p ≤ (x1.length : Int))) ∧ ((x1.length : Int) - p).toNat < n ∧ iter n f7 d7 p = r) (((x1.length : Int) - 0).toNat + 1) (⟨[(5, .sl none 80 true (x1.map e_api_Spend)), (6, .sl none 80 true (x3.map e_api_Spend)), (7, .int .i64 0)], [], 5⟩ : St) sbQ sbQ ⟨0, rfl, ⟨omQ, omQ⟩, (Nat.lt_succ_self _), hM⟩ ?_
    clear hM
    rintro n7 S ⟨p7, rfl, hfa7, hm7, hM⟩
    have hM0 := hM; clear hM; obtain ⟨ag7, hag7, hM⟩ := iter_step hM0 (by omega) hf7; clear hM0
    replace hfa7 := nzQ hfa7
    replace hm7 := nzQ hm7
    have ha7 : addI .i64 p7 1 = p7 + 1 := add_one omQ omQ
    refine spQA ha7 ?_
    refine condC_intro (fun h8 => ?_) (fun h8 => ?_)
    · rw [if_pos h8] at hM
      refine spQA (And.intro ha7 h8) ?_
      have nh8 := nzQ h8
      refine ct_draw 33 8 [23, 24, 25, 26, 27, 28, 29, 30] [] ([[], [], [0, 1], [0, 1, 2], [], [], [4, 5], [4, 5, 6]] ++ [List.range 8, List.range 9]) [] (by kernel_rfl) (by exact alQ) ?_
      refine spQA ha7 ?_
      refine hbindC_intro omQ ?_
      have he9 := fun d => elt_mp (l := x1) (f := e_api_Spend) (i := p7) omQ d
      refine spQA (And.intro ha7 he9) ?_
      refine hbindC_intro omQ ?_
      have he10 := fun d => elt_mp (l := x3) (f := e_api_Spend) (i := p7) omQ d
      refine spQA (And.intro ha7 (And.intro he9 he10)) ?_
      have hM0 := hM; clear hM; obtain ⟨x11, hx12, hM⟩ := letk_opn hM0; clear hM0
      have hcx11 := specieref32_Same_ok  (gt x1 p7) (gt x3 p7) 
      rw [← hx12] at hcx11
      refine callC_give hcx11 (clQA (And.intro ha7 (And.intro he9 he10))) (clQA (And.intro ha7 (And.intro he9 he10))) (fun hw13 => ?_)
      replace hw13 := nzQ hw13
      refine spQA (And.intro ha7 (And.intro he9 he10)) ?_
      refine condC_intro (fun h14 => ?_) (fun h14 => ?_)
      · rw [if_pos h14] at hM
        refine spQA (And.intro ha7 (And.intro he9 (And.intro he10 h14))) ?_
        have nh14 := nzQ h14
        subst hM
        exact retC_view (lfQA (And.intro ha7 (And.intro he9 (And.intro he10 (And.intro h6 (And.intro h8 h14))))))
      · rw [if_neg (ne_true h14)] at hM
        refine spQA (And.intro ha7 (And.intro he9 (And.intro he10 h14))) ?_
        have nh14 := nzQ h14
        refine lp_intro (n7 - 1) (⟨[(5, .sl none 80 true (x1.map e_api_Spend)), (6, .sl none 80 true (x3.map e_api_Spend)), (7, .int .i64 (p7 + 1))], [], 5⟩ : St) (by omega) sbQ sbQ ⟨(p7 + 1), rfl, ⟨omQ, omQ⟩, omQ, iter_again hM hag7⟩
    · rw [if_neg (ne_true h8)] at hM
      refine spQA (And.intro ha7 h8) ?_
      have nh8 := nzQ h8
      subst hM
      exact retC_view (lfQA (And.intro ha7 (And.intro h6 h8)))
set_option maxHeartbeats 2000000 in
set_option maxRecDepth 100000 in
theorem specieref17_Same_ok (z0 : Option Bool) (z1 : Option Bool) (a_ : (List Int)) (b : (List Int))  : CallOk En 82 [.sl z0 1 false (a_.map (V.int .i64)), .sl z1 1 false (b.map (V.int .i64))] (.bool (specieref17_Same a_ b)) [] := by
  generalize hM : specieref17_Same a_ b = r
  rw [specieref17_Same.eq_1] at hM
  refine enterV En_ok En_mo noJ Try.func82 rfl Try.ntmps82 (by kernel_rfl) fun hw => ct_start ?_
  refine spQ ?_
  replace hw := nzQ hw
  refine condC_intro (fun h1 => ?_) (fun h1 => ?_)
  · rw [if_pos h1] at hM
    refine spQA h1 ?_
    have nh1 := nzQ h1
    subst hM
    exact retC_view (lfQA h1)
  · rw [if_neg (ne_true h1)] at hM
    refine spQA h1 ?_
    have nh1 := nzQ h1
    have hM0 := hM; clear hM; obtain ⟨f2, d2, hf2, hd2, hM⟩ := iter_opn hM0; clear hM0
    refine ct_loop (fun n S => ∃ p : Int, S = (⟨[(0, .sl z0 1 false (a_.map (V.int .i64))), (1, .sl z1 1 false (b.map (V.int .i64))), (5, .int .i64 p)], [], 0⟩ : St) ∧ ((0 ≤ p) ∧ (p ≤ (a_.length : Int))) ∧ ((a_.length : Int) - p).toNat < n ∧ iter n f2 d2 p = r) (((a_.length : Int) - 0).toNat + 1) (⟨[(0, .sl z0 1 false (a_.map (V.int .i64))), (1, .sl z1 1 false (b.map (V.int .i64))), (5, .int .i64 0)], [], 0⟩ : St) sbQ sbQ ⟨0, rfl, ⟨omQ, omQ⟩, (Nat.lt_succ_self _), hM⟩ ?_
    clear hM
    rintro n2 S ⟨p2, rfl, hfa2, hm2, hM⟩
    have hM0 := hM; clear hM; obtain ⟨ag2, hag2, hM⟩ := iter_step hM0 (by omega) hf2; clear hM0
    replace hfa2 := nzQ hfa2
    replace hm2 := nzQ hm2
    have ha2 : addI .i64 p2 1 = p2 + 1 := add_one omQ omQ
    refine spQA ha2 ?_
    refine condC_intro (fun h3 => ?_) (fun h3 => ?_)
    · rw [if_pos h3] at hM
      refine spQA (And.intro ha2 h3) ?_
      have nh3 := nzQ h3
      refine ct_draw 26 8 [17, 18, 19, 20, 21, 22, 23, 24] [] ([[], [], [0, 1], [0, 1, 2], [], [], [4, 5], [4, 5, 6]] ++ [List.range 8]) [] (by kernel_rfl) (by exact alQ) ?_
      refine spQA ha2 ?_
      refine hbindC_intro omQ ?_
      have he4 := fun d => elt_mp (l := a_) (f := (V.int .i64)) (i := p2) omQ d
      refine spQA (And.intro ha2 he4) ?_
      refine hbindC_intro omQ ?_
      have he5 := fun d => elt_mp (l := b) (f := (V.int .i64)) (i := p2) omQ d
      refine spQA (And.intro ha2 (And.intro he4 he5)) ?_
      refine condC_intro (fun h6 => ?_) (fun h6 => ?_)
      · rw [if_pos h6] at hM
        refine spQA (And.intro ha2 (And.intro he4 (And.intro he5 h6))) ?_
        have nh6 := nzQ h6
        subst hM
        exact retC_view (lfQA (And.intro ha2 (And.intro he4 (And.intro he5 (And.intro h1 (And.intro h3 h6))))))
      · rw [if_neg (ne_true h6)] at hM
        refine spQA (And.intro ha2 (And.intro he4 (And.intro he5 h6))) ?_
        have nh6 := nzQ h6
        refine lp_intro (n2 - 1) (⟨[(0, .sl z0 1 false (a_.map (V.int .i64))), (1, .sl z1 1 false (b.map (V.int .i64))), (5, .int .i64 (p2 + 1))], [], 0⟩ : St) (by omega) sbQ sbQ ⟨(p2 + 1), rfl, ⟨omQ, omQ⟩, omQ, iter_again hM hag2⟩
    · rw [if_neg (ne_true h3)] at hM
      refine spQA (And.intro ha2 h3) ?_
      have nh3 := nzQ h3
      subst hM
      exact retC_view (lfQA (And.intro ha2 (And.intro h1 h3)))
set_option maxHeartbeats 2000000 in
set_option maxRecDepth 100000 in
theorem specieref17_SameProof_ok  (a_ : S_api_Proof) (b : S_api_Proof)  : CallOk En 66 [.agg [.sl none 1 false (a_.A.map (V.int .i64)), .int .i64 a_.C, .sl none 1 false (a_.Z.map (V.int .i64))], .agg [.sl none 1 false (b.A.map (V.int .i64)), .int .i64 b.C, .sl none 1 false (b.Z.map (V.int .i64))]] (.bool (specieref17_SameProof a_ b)) [] := by
  generalize hM : specieref17_SameProof a_ b = r
  rw [specieref17_SameProof.eq_1] at hM
  refine enterV En_ok En_mo noJ Try.func66 rfl Try.ntmps66 (by kernel_rfl) fun hw => ct_start ?_
  refine spQ ?_
  replace hw := nzQ hw
  have hM0 := hM; clear hM; obtain ⟨x1, hx2, hM⟩ := letk_opn hM0; clear hM0
  have hcx1 := specieref17_Same_ok none none (a_.A) (b.A) 
  rw [← hx2] at hcx1
  refine callC_give hcx1 clQ clQ (fun hw3 => ?_)
  replace hw3 := nzQ hw3
  refine spQ ?_
  refine guardC_t (fun h4 => ?_) (fun h4 => ?_)
  · subst h4
    rw [if_pos rfl] at hM
    refine spQ ?_
    refine guardC_t (fun h5 => ?_) (fun h5 => ?_)
    · rw [if_pos h5] at hM
      refine spQA h5 ?_
      have nh5 := nzQ h5
      have hM0 := hM; clear hM; obtain ⟨x6, hx7, hM⟩ := letk_opn hM0; clear hM0
      have hcx6 := specieref17_Same_ok none none (a_.Z) (b.Z) 
      rw [← hx7] at hcx6
      refine callC_give hcx6 clQ clQ (fun hw8 => ?_)
      replace hw8 := nzQ hw8
      refine spQ ?_
      subst hM
      exact retC_view (lfQA h5)
    · rw [if_neg (ne_true h5)] at hM
      refine spQA h5 ?_
      have nh5 := nzQ h5
      subst hM
      exact retC_view (lfQA h5)
  · subst h4
    rw [if_neg (by decide)] at hM
    refine spQ ?_
    subst hM
    exact retC_view lfQ
set_option maxHeartbeats 2000000 in
set_option maxRecDepth 100000 in
theorem specieref36_Same_ok  (a_ : S_api_Escrow) (b : S_api_Escrow)  : CallOk En 34 [.agg [.int .i64 a_.E1, .int .i64 a_.E2, .sl none 1 false (a_.Proof.A.map (V.int .i64)), .int .i64 a_.Proof.C, .sl none 1 false (a_.Proof.Z.map (V.int .i64))], .agg [.int .i64 b.E1, .int .i64 b.E2, .sl none 1 false (b.Proof.A.map (V.int .i64)), .int .i64 b.Proof.C, .sl none 1 false (b.Proof.Z.map (V.int .i64))]] (.bool (specieref36_Same a_ b)) [] := by
  generalize hM : specieref36_Same a_ b = r
  rw [specieref36_Same.eq_1] at hM
  refine enterV En_ok En_mo noJ Try.func34 rfl Try.ntmps34 (by kernel_rfl) fun hw => ct_start ?_
  refine spQ ?_
  replace hw := nzQ hw
  refine guardC_t (fun h1 => ?_) (fun h1 => ?_)
  · rw [if_pos h1] at hM
    refine spQA h1 ?_
    have nh1 := nzQ h1
    refine guardC_t (fun h2 => ?_) (fun h2 => ?_)
    · rw [if_pos h2] at hM
      refine spQA h2 ?_
      have nh2 := nzQ h2
      have hM0 := hM; clear hM; obtain ⟨x3, hx4, hM⟩ := letk_opn hM0; clear hM0
      have hcx3 := specieref17_SameProof_ok  (a_.Proof) (b.Proof) 
      rw [← hx4] at hcx3
      refine callC_give hcx3 clQ clQ (fun hw5 => ?_)
      replace hw5 := nzQ hw5
      refine spQ ?_
      subst hM
      exact retC_view (lfQA (And.intro h1 h2))
    · rw [if_neg (ne_true h2)] at hM
      refine spQA h2 ?_
      have nh2 := nzQ h2
      subst hM
      exact retC_view (lfQA (And.intro h1 h2))
  · rw [if_neg (ne_true h1)] at hM
    refine spQA h1 ?_
    have nh1 := nzQ h1
    subst hM
    exact retC_view (lfQA h1)
set_option maxHeartbeats 2000000 in
set_option maxRecDepth 100000 in
theorem specieref38_Same_ok  (p_ : S_api_Payment) (q : S_api_Payment) (hp0 : okP p_) (hp1 : okP q) : CallOk En 12 [.agg [.int .i64 p_.Number, .sl none 80 true (p_.Spends.map e_api_Spend), .sl none 81 true (p_.Chains.map e_api_Chain), .sl none 5 true (p_.Escrow.map e_api_Escrow)], .agg [.int .i64 q.Number, .sl none 80 true (q.Spends.map e_api_Spend), .sl none 81 true (q.Chains.map e_api_Chain), .sl none 5 true (q.Escrow.map e_api_Escrow)]] (.bool (specieref38_Same p_ q)) [] := by
  generalize hM : specieref38_Same p_ q = r
  rw [specieref38_Same.eq_1] at hM
  refine enterV En_ok En_mo noJ Try.func12 rfl Try.ntmps12 (by kernel_rfl) fun hw => ct_start ?_
  refine spQ ?_
  replace hw := nzQ hw
  refine guardC_f (fun h1 => ?_) (fun h1 => ?_)
  · rw [if_neg (ne_true h1)] at hM
    refine spQA h1 ?_
    have nh1 := nzQ h1
    refine guardC_f (fun h2 => ?_) (fun h2 => ?_)
    · rw [if_neg (ne_true h2)] at hM
      refine spQA h2 ?_
      have nh2 := nzQ h2
      refine guardC_f (fun h3 => ?_) (fun h3 => ?_)
      · rw [if_neg (ne_true h3)] at hM
        refine spQA h3 ?_
        have nh3 := nzQ h3
        refine condC_intro (fun h4 => ?_) (fun h4 => ?_)
        · rw [if_pos h4] at hM
          refine spQA h4 ?_
          have nh4 := nzQ h4
          subst hM
          exact retC_view (lfQA (And.intro h1 (And.intro h2 (And.intro h3 h4))))
        · rw [if_neg (ne_true h4)] at hM
          refine spQA h4 ?_
          have nh4 := nzQ h4
          have hM0 := hM; clear hM; obtain ⟨f5, d5, hf5, hd5, hM⟩ := iter_opn hM0; clear hM0
          refine ct_loop (fun n S => ∃ p : Int, S = (⟨[(2, .ptr 0 0), (3, .ptr 1 0), (5, .int .i64 p)], [(0, .var 4 true (.agg [.int .i64 p_.Number, .sl none 80 true (p_.Spends.map e_api_Spend), .sl none 81 true (p_.Chains.map e_api_Chain), .sl none 5 true (p_.Escrow.map e_api_Escrow)])), (1, .var 4 true (.agg [.int .i64 q.Number, .sl none 80 true (q.Spends.map e_api_Spend), .sl none 81 true (q.Chains.map e_api_Chain), .sl none 5 true (q.Escrow.map e_api_Escrow)]))], 2⟩ : St) ∧ ((0 ≤ p) ∧ (p ≤ (p_.Spends.length : Int))) ∧ ((p_.Spends.length : Int) - p).toNat < n ∧ iter n f5 d5 p = r) (((p_.Spends.length : Int) - 0).toNat + 1) (⟨[(2, .ptr 0 0), (3, .ptr 1 0), (5, .int .i64 0)], [(0, .var 4 true (.agg [.int .i64 p_.Number, .sl none 80 true (p_.Spends.map e_api_Spend), .sl none 81 true (p_.Chains.map e_api_Chain), .sl none 5 true (p_.Escrow.map e_api_Escrow)])), (1, .var 4 true (.agg [.int .i64 q.Number, .sl none 80 true (q.Spends.map e_api_Spend), .sl none 81 true (q.Chains.map e_api_Chain), .sl none 5 true (q.Escrow.map e_api_Escrow)]))], 2⟩ : St) sbQ sbQ ⟨0, rfl, ⟨omQ, omQ⟩, (Nat.lt_succ_self _), hM⟩ ?_
          clear hM
          rintro n5 S ⟨p5, rfl, hfa5, hm5, hM⟩
          have hM0 := hM; clear hM; obtain ⟨ag5, hag5, hM⟩ := iter_step hM0 (by omega) hf5; clear hM0
          replace hfa5 := nzQ hfa5
          replace hm5 := nzQ hm5
          have ha5 : addI .i64 p5 1 = p5 + 1 := add_one omQ omQ
          refine spQA ha5 ?_
          refine condC_intro (fun h6 => ?_) (fun h6 => ?_)
          · rw [if_pos h6] at hM
            refine spQA (And.intro ha5 h6) ?_
            have nh6 := nzQ h6
            refine ct_draw 97 10 [47, 48, 49, 50, 51, 52, 53, 54, 55, 56] [] ([[], [0], [], [0, 1, 2], [0, 1, 2, 3], [], [5], [], [5, 6, 7], [5, 6, 7, 8]] ++ [List.range 10, List.range 11]) [] (by kernel_rfl) (by exact alQ) ?_
            refine spQA ha5 ?_
            refine hbindC_intro omQ ?_
            have he7 := fun d => elt_mp (l := p_.Spends) (f := e_api_Spend) (i := p5) omQ d
            refine spQA (And.intro ha5 he7) ?_
            refine hbindC_intro omQ ?_
            have he8 := fun d => elt_mp (l := q.Spends) (f := e_api_Spend) (i := p5) omQ d
            refine spQA (And.intro ha5 (And.intro he7 he8)) ?_
            have hM0 := hM; clear hM; obtain ⟨x9, hx10, hM⟩ := letk_opn hM0; clear hM0
            have hcx9 := specieref32_Same_ok  (gt p_.Spends p5) (gt q.Spends p5) 
            rw [← hx10] at hcx9
            refine callC_give hcx9 (clQA (And.intro ha5 (And.intro he7 he8))) (clQA (And.intro ha5 (And.intro he7 he8))) (fun hw11 => ?_)
            replace hw11 := nzQ hw11
            refine spQA (And.intro ha5 (And.intro he7 he8)) ?_
            refine condC_intro (fun h12 => ?_) (fun h12 => ?_)
            · rw [if_pos h12] at hM
              refine spQA (And.intro ha5 (And.intro he7 (And.intro he8 h12))) ?_
              have nh12 := nzQ h12
              subst hM
              exact retC_view (lfQA (And.intro ha5 (And.intro he7 (And.intro he8 (And.intro h1 (And.intro h2 (And.intro h3 (And.intro h4 (And.intro h6 h12)))))))))
            · rw [if_neg (ne_true h12)] at hM
              refine spQA (And.intro ha5 (And.intro he7 (And.intro he8 h12))) ?_
              have nh12 := nzQ h12
              refine lp_intro (n5 - 1) (⟨[(2, .ptr 0 0), (3, .ptr 1 0), (5, .int .i64 (p5 + 1))], [(0, .var 4 true (.agg [.int .i64 p_.Number, .sl none 80 true (p_.Spends.map e_api_Spend), .sl none 81 true (p_.Chains.map e_api_Chain), .sl none 5 true (p_.Escrow.map e_api_Escrow)])), (1, .var 4 true (.agg [.int .i64 q.Number, .sl none 80 true (q.Spends.map e_api_Spend), .sl none 81 true (q.Chains.map e_api_Chain), .sl none 5 true (q.Escrow.map e_api_Escrow)]))], 2⟩ : St) (by omega) sbQ sbQ ⟨(p5 + 1), rfl, ⟨omQ, omQ⟩, omQ, iter_again hM hag5⟩
          · rw [if_neg (ne_true h6)] at hM
            refine spQA (And.intro ha5 h6) ?_
            have nh6 := nzQ h6
            have hM0 := hM; clear hM; obtain ⟨f13, d13, hf13, hd13, hM⟩ := iter_opn hM0; clear hM0
            refine ct_loop (fun n S => ∃ p : Int, S = (⟨[(2, .ptr 0 0), (3, .ptr 1 0), (6, .int .i64 p)], [(0, .var 4 true (.agg [.int .i64 p_.Number, .sl none 80 true (p_.Spends.map e_api_Spend), .sl none 81 true (p_.Chains.map e_api_Chain), .sl none 5 true (p_.Escrow.map e_api_Escrow)])), (1, .var 4 true (.agg [.int .i64 q.Number, .sl none 80 true (q.Spends.map e_api_Spend), .sl none 81 true (q.Chains.map e_api_Chain), .sl none 5 true (q.Escrow.map e_api_Escrow)]))], 2⟩ : St) ∧ ((0 ≤ p) ∧ (p ≤ (p_.Chains.length : Int))) ∧ ((p_.Chains.length : Int) - p).toNat < n ∧ iter n f13 d13 p = r) (((p_.Chains.length : Int) - 0).toNat + 1) (⟨[(2, .ptr 0 0), (3, .ptr 1 0), (6, .int .i64 0)], [(0, .var 4 true (.agg [.int .i64 p_.Number, .sl none 80 true (p_.Spends.map e_api_Spend), .sl none 81 true (p_.Chains.map e_api_Chain), .sl none 5 true (p_.Escrow.map e_api_Escrow)])), (1, .var 4 true (.agg [.int .i64 q.Number, .sl none 80 true (q.Spends.map e_api_Spend), .sl none 81 true (q.Chains.map e_api_Chain), .sl none 5 true (q.Escrow.map e_api_Escrow)]))], 2⟩ : St) sbQ sbQ ⟨0, rfl, ⟨omQ, omQ⟩, (Nat.lt_succ_self _), hM⟩ ?_
            clear hM
            rintro n13 S ⟨p13, rfl, hfa13, hm13, hM⟩
            have hM0 := hM; clear hM; obtain ⟨ag13, hag13, hM⟩ := iter_step hM0 (by omega) hf13; clear hM0
            replace hfa13 := nzQ hfa13
            replace hm13 := nzQ hm13
            have ha13 : addI .i64 p13 1 = p13 + 1 := add_one omQ omQ
            refine spQA (And.intro ha5 ha13) ?_
            refine condC_intro (fun h14 => ?_) (fun h14 => ?_)
            · rw [if_pos h14] at hM
              refine spQA (And.intro ha5 (And.intro ha13 h14)) ?_
              have nh14 := nzQ h14
              refine ct_draw 97 10 [66, 67, 68, 69, 70, 71, 72, 73, 74, 75] [] ([[], [0], [], [0, 1, 2], [0, 1, 2, 3], [], [5], [], [5, 6, 7], [5, 6, 7, 8]] ++ [List.range 10, List.range 11]) [] (by kernel_rfl) (by exact alQ) ?_
              refine spQA (And.intro ha5 ha13) ?_
              refine hbindC_intro omQ ?_
              have he15 := fun d => elt_mp (l := p_.Chains) (f := e_api_Chain) (i := p13) omQ d
              refine spQA (And.intro ha5 (And.intro ha13 he15)) ?_
              refine hbindC_intro omQ ?_
              have he16 := fun d => elt_mp (l := q.Chains) (f := e_api_Chain) (i := p13) omQ d
              refine spQA (And.intro ha5 (And.intro ha13 (And.intro he15 he16))) ?_
              have hM0 := hM; clear hM; obtain ⟨x17, hx18, hM⟩ := letk_opn hM0; clear hM0
              have hcx17 := specieref35_Same_ok  (gt p_.Chains p13) (gt q.Chains p13) (by (first | exact hp0 _ (by omega) (by omega) | exact hp1 _ (by omega) (by omega))) (by (first | exact hp0 _ (by omega) (by omega) | exact hp1 _ (by omega) (by omega)))
              rw [← hx18] at hcx17
              refine callC_give hcx17 (clQA (And.intro ha5 (And.intro ha13 (And.intro he15 he16)))) (clQA (And.intro ha5 (And.intro ha13 (And.intro he15 he16)))) (fun hw19 => ?_)
              replace hw19 := nzQ hw19
              refine spQA (And.intro ha5 (And.intro ha13 (And.intro he15 he16))) ?_
              refine condC_intro (fun h20 => ?_) (fun h20 => ?_)
              · rw [if_pos h20] at hM
                refine spQA (And.intro ha5 (And.intro ha13 (And.intro he15 (And.intro he16 h20)))) ?_
                have nh20 := nzQ h20
                subst hM
                exact retC_view (lfQA (And.intro ha5 (And.intro ha13 (And.intro he15 (And.intro he16 (And.intro h1 (And.intro h2 (And.intro h3 (And.intro h4 (And.intro h6 (And.intro h14 h20)))))))))))
              · rw [if_neg (ne_true h20)] at hM
                refine spQA (And.intro ha5 (And.intro ha13 (And.intro he15 (And.intro he16 h20)))) ?_
                have nh20 := nzQ h20
                refine lp_intro (n13 - 1) (⟨[(2, .ptr 0 0), (3, .ptr 1 0), (6, .int .i64 (p13 + 1))], [(0, .var 4 true (.agg [.int .i64 p_.Number, .sl none 80 true (p_.Spends.map e_api_Spend), .sl none 81 true (p_.Chains.map e_api_Chain), .sl none 5 true (p_.Escrow.map e_api_Escrow)])), (1, .var 4 true (.agg [.int .i64 q.Number, .sl none 80 true (q.Spends.map e_api_Spend), .sl none 81 true (q.Chains.map e_api_Chain), .sl none 5 true (q.Escrow.map e_api_Escrow)]))], 2⟩ : St) (by omega) sbQ sbQ ⟨(p13 + 1), rfl, ⟨omQ, omQ⟩, omQ, iter_again hM hag13⟩
            · rw [if_neg (ne_true h14)] at hM
              refine spQA (And.intro ha5 (And.intro ha13 h14)) ?_
              have nh14 := nzQ h14
              have hM0 := hM; clear hM; obtain ⟨f21, d21, hf21, hd21, hM⟩ := iter_opn hM0; clear hM0
              refine ct_loop (fun n S => ∃ p : Int, S = (⟨[(2, .ptr 0 0), (3, .ptr 1 0), (7, .int .i64 p)], [(0, .var 4 true (.agg [.int .i64 p_.Number, .sl none 80 true (p_.Spends.map e_api_Spend), .sl none 81 true (p_.Chains.map e_api_Chain), .sl none 5 true (p_.Escrow.map e_api_Escrow)])), (1, .var 4 true (.agg [.int .i64 q.Number, .sl none 80 true (q.Spends.map e_api_Spend), .sl none 81 true (q.Chains.map e_api_Chain), .sl none 5 true (q.Escrow.map e_api_Escrow)]))], 2⟩ : St) ∧ ((0 ≤ p) ∧ (p ≤ (p_.Escrow.length : Int))) ∧ ((p_.Escrow.length : Int) - p).toNat < n ∧ iter n f21 d21 p = r) (((p_.Escrow.length : Int) - 0).toNat + 1) (⟨[(2, .ptr 0 0), (3, .ptr 1 0), (7, .int .i64 0)], [(0, .var 4 true (.agg [.int .i64 p_.Number, .sl none 80 true (p_.Spends.map e_api_Spend), .sl none 81 true (p_.Chains.map e_api_Chain), .sl none 5 true (p_.Escrow.map e_api_Escrow)])), (1, .var 4 true (.agg [.int .i64 q.Number, .sl none 80 true (q.Spends.map e_api_Spend), .sl none 81 true (q.Chains.map e_api_Chain), .sl none 5 true (q.Escrow.map e_api_Escrow)]))], 2⟩ : St) sbQ sbQ ⟨0, rfl, ⟨omQ, omQ⟩, (Nat.lt_succ_self _), hM⟩ ?_
              clear hM
              rintro n21 S ⟨p21, rfl, hfa21, hm21, hM⟩
              have hM0 := hM; clear hM; obtain ⟨ag21, hag21, hM⟩ := iter_step hM0 (by omega) hf21; clear hM0
              replace hfa21 := nzQ hfa21
              replace hm21 := nzQ hm21
              have ha21 : addI .i64 p21 1 = p21 + 1 := add_one omQ omQ
              refine spQA (And.intro ha5 (And.intro ha13 ha21)) ?_
              refine condC_intro (fun h22 => ?_) (fun h22 => ?_)
              · rw [if_pos h22] at hM
                refine spQA (And.intro ha5 (And.intro ha13 (And.intro ha21 h22))) ?_
                have nh22 := nzQ h22
                refine ct_draw 97 10 [85, 86, 87, 88, 89, 90, 91, 92, 93, 94] [] ([[], [0], [], [0, 1, 2], [0, 1, 2, 3], [], [5], [], [5, 6, 7], [5, 6, 7, 8]] ++ [List.range 10, List.range 11]) [] (by kernel_rfl) (by exact alQ) ?_
                refine spQA (And.intro ha5 (And.intro ha13 ha21)) ?_
                refine hbindC_intro omQ ?_
                have he23 := fun d => elt_mp (l := p_.Escrow) (f := e_api_Escrow) (i := p21) omQ d
                refine spQA (And.intro ha5 (And.intro ha13 (And.intro ha21 he23))) ?_
                refine hbindC_intro omQ ?_
                have he24 := fun d => elt_mp (l := q.Escrow) (f := e_api_Escrow) (i := p21) omQ d
                refine spQA (And.intro ha5 (And.intro ha13 (And.intro ha21 (And.intro he23 he24)))) ?_
                have hM0 := hM; clear hM; obtain ⟨x25, hx26, hM⟩ := letk_opn hM0; clear hM0
                have hcx25 := specieref36_Same_ok  (gt p_.Escrow p21) (gt q.Escrow p21) 
                rw [← hx26] at hcx25
                refine callC_give hcx25 (clQA (And.intro ha5 (And.intro ha13 (And.intro ha21 (And.intro he23 he24))))) (clQA (And.intro ha5 (And.intro ha13 (And.intro ha21 (And.intro he23 he24))))) (fun hw27 => ?_)
                replace hw27 := nzQ hw27
                refine spQA (And.intro ha5 (And.intro ha13 (And.intro ha21 (And.intro he23 he24)))) ?_
                refine condC_intro (fun h28 => ?_) (fun h28 => ?_)
                · rw [if_pos h28] at hM
                  refine spQA (And.intro ha5 (And.intro ha13 (And.intro ha21 (And.intro he23 (And.intro he24 h28))))) ?_
                  have nh28 := nzQ h28
                  subst hM
                  exact retC_view (lfQA (And.intro ha5 (And.intro ha13 (And.intro ha21 (And.intro he23 (And.intro he24 (And.intro h1 (And.intro h2 (And.intro h3 (And.intro h4 (And.intro h6 (And.intro h14 (And.intro h22 h28)))))))))))))
                · rw [if_neg (ne_true h28)] at hM
                  refine spQA (And.intro ha5 (And.intro ha13 (And.intro ha21 (And.intro he23 (And.intro he24 h28))))) ?_
                  have nh28 := nzQ h28
                  refine lp_intro (n21 - 1) (⟨[(2, .ptr 0 0), (3, .ptr 1 0), (7, .int .i64 (p21 + 1))], [(0, .var 4 true (.agg [.int .i64 p_.Number, .sl none 80 true (p_.Spends.map e_api_Spend), .sl none 81 true (p_.Chains.map e_api_Chain), .sl none 5 true (p_.Escrow.map e_api_Escrow)])), (1, .var 4 true (.agg [.int .i64 q.Number, .sl none 80 true (q.Spends.map e_api_Spend), .sl none 81 true (q.Chains.map e_api_Chain), .sl none 5 true (q.Escrow.map e_api_Escrow)]))], 2⟩ : St) (by omega) sbQ sbQ ⟨(p21 + 1), rfl, ⟨omQ, omQ⟩, omQ, iter_again hM hag21⟩
              · rw [if_neg (ne_true h22)] at hM
                refine spQA (And.intro ha5 (And.intro ha13 (And.intro ha21 h22))) ?_
                have nh22 := nzQ h22
                subst hM
                exact retC_view (lfQA (And.intro ha5 (And.intro ha13 (And.intro ha21 (And.intro h1 (And.intro h2 (And.intro h3 (And.intro h4 (And.intro h6 (And.intro h14 h22))))))))))
      · rw [if_pos h3] at hM
        refine spQA h3 ?_
        have nh3 := nzQ h3
        subst hM
        exact retC_view (lfQA (And.intro h1 (And.intro h2 h3)))
    · rw [if_pos h2] at hM
      refine spQA h2 ?_
      have nh2 := nzQ h2
      subst hM
      exact retC_view (lfQA (And.intro h1 h2))
  · rw [if_pos h1] at hM
    refine spQA h1 ?_
    have nh1 := nzQ h1
    subst hM
    exact retC_view (lfQA h1)
set_option maxHeartbeats 2000000 in
set_option maxRecDepth 100000 in
theorem specieref47_Same_ok  (a_ : S_api_Merchant) (b : S_api_Merchant) (hp0 : okQ a_.Queue) (hp1 : okQ b.Queue) : CallOk En 14 [.agg (.int .u8 (gt a_.Name 0) :: .int .u8 (gt a_.Name 1) :: .int .u8 (gt a_.Name 2) :: .int .u8 (gt a_.Name 3) :: .int .u8 (gt a_.Name 4) :: .int .u8 (gt a_.Name 5) :: .int .u8 (gt a_.Name 6) :: .int .u8 (gt a_.Name 7) :: .int .u8 (gt a_.Name 8) :: .int .u8 (gt a_.Name 9) :: .int .u8 (gt a_.Name 10) :: .int .u8 (gt a_.Name 11) :: .int .u8 (gt a_.Name 12) :: .int .u8 (gt a_.Name 13) :: .int .u8 (gt a_.Name 14) :: .int .u8 (gt a_.Name 15) :: .int .u8 (gt a_.Name 16) :: .int .u8 (gt a_.Name 17) :: .int .u8 (gt a_.Name 18) :: .int .u8 (gt a_.Name 19) :: .int .u8 (gt a_.Name 20) :: .int .u8 (gt a_.Name 21) :: .int .u8 (gt a_.Name 22) :: .int .u8 (gt a_.Name 23) :: .int .u8 (gt a_.Name 24) :: .int .u8 (gt a_.Name 25) :: .int .u8 (gt a_.Name 26) :: .int .u8 (gt a_.Name 27) :: .int .u8 (gt a_.Name 28) :: .int .u8 (gt a_.Name 29) :: .int .u8 (gt a_.Name 30) :: .int .u8 (gt a_.Name 31) :: .sl none 3 true (a_.Policy.Rules.map e_api_Rule) :: .sl none 35 true (a_.Open.map e_api_Invoice) :: .int .i64 a_.Next :: .sl none 4 true (a_.Queue.map e_api_Payment) :: .sl none 35 true (a_.Paid.map e_api_Invoice) :: .int .i64 a_.Total :: .sl none 1 false (a_.Blocked.map (V.int .i64)) :: .int .i64 a_.Now :: []), .agg (.int .u8 (gt b.Name 0) :: .int .u8 (gt b.Name 1) :: .int .u8 (gt b.Name 2) :: .int .u8 (gt b.Name 3) :: .int .u8 (gt b.Name 4) :: .int .u8 (gt b.Name 5) :: .int .u8 (gt b.Name 6) :: .int .u8 (gt b.Name 7) :: .int .u8 (gt b.Name 8) :: .int .u8 (gt b.Name 9) :: .int .u8 (gt b.Name 10) :: .int .u8 (gt b.Name 11) :: .int .u8 (gt b.Name 12) :: .int .u8 (gt b.Name 13) :: .int .u8 (gt b.Name 14) :: .int .u8 (gt b.Name 15) :: .int .u8 (gt b.Name 16) :: .int .u8 (gt b.Name 17) :: .int .u8 (gt b.Name 18) :: .int .u8 (gt b.Name 19) :: .int .u8 (gt b.Name 20) :: .int .u8 (gt b.Name 21) :: .int .u8 (gt b.Name 22) :: .int .u8 (gt b.Name 23) :: .int .u8 (gt b.Name 24) :: .int .u8 (gt b.Name 25) :: .int .u8 (gt b.Name 26) :: .int .u8 (gt b.Name 27) :: .int .u8 (gt b.Name 28) :: .int .u8 (gt b.Name 29) :: .int .u8 (gt b.Name 30) :: .int .u8 (gt b.Name 31) :: .sl none 3 true (b.Policy.Rules.map e_api_Rule) :: .sl none 35 true (b.Open.map e_api_Invoice) :: .int .i64 b.Next :: .sl none 4 true (b.Queue.map e_api_Payment) :: .sl none 35 true (b.Paid.map e_api_Invoice) :: .int .i64 b.Total :: .sl none 1 false (b.Blocked.map (V.int .i64)) :: .int .i64 b.Now :: [])] (.bool (specieref47_Same a_ b)) [] := by
  generalize hM : specieref47_Same a_ b = r
  rw [specieref47_Same.eq_1] at hM
  refine enterV En_ok En_mo noJ Try.func14 rfl Try.ntmps14 (by kernel_rfl) fun hw => ct_start ?_
  refine spQ ?_
  replace hw := nzQ hw
  refine guardC_f (fun h1 => ?_) (fun h1 => ?_)
  · have kh1 : (!(q_arr23 (a_.Name) (b.Name))) = false := h1
    rw [if_neg (ne_true kh1)] at hM
    refine spQA h1 ?_
    have nh1 := nzQ kh1
    refine guardC_f (fun h2 => ?_) (fun h2 => ?_)
    · rw [if_neg (ne_true h2)] at hM
      refine spQA h2 ?_
      have nh2 := nzQ h2
      refine guardC_f (fun h3 => ?_) (fun h3 => ?_)
      · rw [if_neg (ne_true h3)] at hM
        refine spQA h3 ?_
        have nh3 := nzQ h3
        refine guardC_f (fun h4 => ?_) (fun h4 => ?_)
        · rw [if_neg (ne_true h4)] at hM
          refine spQA h4 ?_
          have nh4 := nzQ h4
          refine guardC_f (fun h5 => ?_) (fun h5 => ?_)
          · rw [if_neg (ne_true h5)] at hM
            refine spQA h5 ?_
            have nh5 := nzQ h5
            refine guardC_f (fun h6 => ?_) (fun h6 => ?_)
            · rw [if_neg (ne_true h6)] at hM
              refine spQA h6 ?_
              have nh6 := nzQ h6
              refine guardC_f (fun h7 => ?_) (fun h7 => ?_)
              · rw [if_neg (ne_true h7)] at hM
                refine spQA h7 ?_
                have nh7 := nzQ h7
                have hM0 := hM; clear hM; obtain ⟨x8, hx9, hM⟩ := letk_opn hM0; clear hM0
                have hcx8 := specieref47_invoices_ok none none (a_.Open) (b.Open) 
                rw [← hx9] at hcx8
                refine callC_give hcx8 clQ clQ (fun hw10 => ?_)
                replace hw10 := nzQ hw10
                refine spQ ?_
                refine guardC_f (fun h11 => ?_) (fun h11 => ?_)
                · rw [if_neg (ne_true h11)] at hM
                  refine spQA h11 ?_
                  have nh11 := nzQ h11
                  have hM0 := hM; clear hM; obtain ⟨x12, hx13, hM⟩ := letk_opn hM0; clear hM0
                  have hcx12 := specieref47_invoices_ok none none (a_.Paid) (b.Paid) 
                  rw [← hx13] at hcx12
                  refine callC_give hcx12 clQ clQ (fun hw14 => ?_)
                  replace hw14 := nzQ hw14
                  refine spQ ?_
                  refine condC_intro (fun h15 => ?_) (fun h15 => ?_)
                  · rw [if_pos h15] at hM
                    refine spQA h15 ?_
                    have nh15 := nzQ h15
                    subst hM
                    exact retC_view (lfQA (And.intro h1 (And.intro h2 (And.intro h3 (And.intro h4 (And.intro h5 (And.intro h6 (And.intro h7 (And.intro h11 h15)))))))))
                  · rw [if_neg (ne_true h15)] at hM
                    refine spQA h15 ?_
                    have nh15 := nzQ h15
                    have hM0 := hM; clear hM; obtain ⟨f16, d16, hf16, hd16, hM⟩ := iter_opn hM0; clear hM0
                    refine ct_loop (fun n S => ∃ p : Int, S = (⟨[(2, .ptr 0 0), (3, .ptr 1 0), (5, .int .i64 p)], [(0, .var 40 true (.agg (.int .u8 (gt a_.Name 0) :: .int .u8 (gt a_.Name 1) :: .int .u8 (gt a_.Name 2) :: .int .u8 (gt a_.Name 3) :: .int .u8 (gt a_.Name 4) :: .int .u8 (gt a_.Name 5) :: .int .u8 (gt a_.Name 6) :: .int .u8 (gt a_.Name 7) :: .int .u8 (gt a_.Name 8) :: .int .u8 (gt a_.Name 9) :: .int .u8 (gt a_.Name 10) :: .int .u8 (gt a_.Name 11) :: .int .u8 (gt a_.Name 12) :: .int .u8 (gt a_.Name 13) :: .int .u8 (gt a_.Name 14) :: .int .u8 (gt a_.Name 15) :: .int .u8 (gt a_.Name 16) :: .int .u8 (gt a_.Name 17) :: .int .u8 (gt a_.Name 18) :: .int .u8 (gt a_.Name 19) :: .int .u8 (gt a_.Name 20) :: .int .u8 (gt a_.Name 21) :: .int .u8 (gt a_.Name 22) :: .int .u8 (gt a_.Name 23) :: .int .u8 (gt a_.Name 24) :: .int .u8 (gt a_.Name 25) :: .int .u8 (gt a_.Name 26) :: .int .u8 (gt a_.Name 27) :: .int .u8 (gt a_.Name 28) :: .int .u8 (gt a_.Name 29) :: .int .u8 (gt a_.Name 30) :: .int .u8 (gt a_.Name 31) :: .sl none 3 true (a_.Policy.Rules.map e_api_Rule) :: .sl none 35 true (a_.Open.map e_api_Invoice) :: .int .i64 a_.Next :: .sl none 4 true (a_.Queue.map e_api_Payment) :: .sl none 35 true (a_.Paid.map e_api_Invoice) :: .int .i64 a_.Total :: .sl none 1 false (a_.Blocked.map (V.int .i64)) :: .int .i64 a_.Now :: []))), (1, .var 40 true (.agg (.int .u8 (gt b.Name 0) :: .int .u8 (gt b.Name 1) :: .int .u8 (gt b.Name 2) :: .int .u8 (gt b.Name 3) :: .int .u8 (gt b.Name 4) :: .int .u8 (gt b.Name 5) :: .int .u8 (gt b.Name 6) :: .int .u8 (gt b.Name 7) :: .int .u8 (gt b.Name 8) :: .int .u8 (gt b.Name 9) :: .int .u8 (gt b.Name 10) :: .int .u8 (gt b.Name 11) :: .int .u8 (gt b.Name 12) :: .int .u8 (gt b.Name 13) :: .int .u8 (gt b.Name 14) :: .int .u8 (gt b.Name 15) :: .int .u8 (gt b.Name 16) :: .int .u8 (gt b.Name 17) :: .int .u8 (gt b.Name 18) :: .int .u8 (gt b.Name 19) :: .int .u8 (gt b.Name 20) :: .int .u8 (gt b.Name 21) :: .int .u8 (gt b.Name 22) :: .int .u8 (gt b.Name 23) :: .int .u8 (gt b.Name 24) :: .int .u8 (gt b.Name 25) :: .int .u8 (gt b.Name 26) :: .int .u8 (gt b.Name 27) :: .int .u8 (gt b.Name 28) :: .int .u8 (gt b.Name 29) :: .int .u8 (gt b.Name 30) :: .int .u8 (gt b.Name 31) :: .sl none 3 true (b.Policy.Rules.map e_api_Rule) :: .sl none 35 true (b.Open.map e_api_Invoice) :: .int .i64 b.Next :: .sl none 4 true (b.Queue.map e_api_Payment) :: .sl none 35 true (b.Paid.map e_api_Invoice) :: .int .i64 b.Total :: .sl none 1 false (b.Blocked.map (V.int .i64)) :: .int .i64 b.Now :: [])))], 2⟩ : St) ∧ ((0 ≤ p) ∧ (p ≤ (a_.Policy.Rules.length : Int))) ∧ ((a_.Policy.Rules.length : Int) - p).toNat < n ∧ iter n f16 d16 p = r) (((a_.Policy.Rules.length : Int) - 0).toNat + 1) (⟨[(2, .ptr 0 0), (3, .ptr 1 0), (5, .int .i64 0)], [(0, .var 40 true (.agg (.int .u8 (gt a_.Name 0) :: .int .u8 (gt a_.Name 1) :: .int .u8 (gt a_.Name 2) :: .int .u8 (gt a_.Name 3) :: .int .u8 (gt a_.Name 4) :: .int .u8 (gt a_.Name 5) :: .int .u8 (gt a_.Name 6) :: .int .u8 (gt a_.Name 7) :: .int .u8 (gt a_.Name 8) :: .int .u8 (gt a_.Name 9) :: .int .u8 (gt a_.Name 10) :: .int .u8 (gt a_.Name 11) :: .int .u8 (gt a_.Name 12) :: .int .u8 (gt a_.Name 13) :: .int .u8 (gt a_.Name 14) :: .int .u8 (gt a_.Name 15) :: .int .u8 (gt a_.Name 16) :: .int .u8 (gt a_.Name 17) :: .int .u8 (gt a_.Name 18) :: .int .u8 (gt a_.Name 19) :: .int .u8 (gt a_.Name 20) :: .int .u8 (gt a_.Name 21) :: .int .u8 (gt a_.Name 22) :: .int .u8 (gt a_.Name 23) :: .int .u8 (gt a_.Name 24) :: .int .u8 (gt a_.Name 25) :: .int .u8 (gt a_.Name 26) :: .int .u8 (gt a_.Name 27) :: .int .u8 (gt a_.Name 28) :: .int .u8 (gt a_.Name 29) :: .int .u8 (gt a_.Name 30) :: .int .u8 (gt a_.Name 31) :: .sl none 3 true (a_.Policy.Rules.map e_api_Rule) :: .sl none 35 true (a_.Open.map e_api_Invoice) :: .int .i64 a_.Next :: .sl none 4 true (a_.Queue.map e_api_Payment) :: .sl none 35 true (a_.Paid.map e_api_Invoice) :: .int .i64 a_.Total :: .sl none 1 false (a_.Blocked.map (V.int .i64)) :: .int .i64 a_.Now :: []))), (1, .var 40 true (.agg (.int .u8 (gt b.Name 0) :: .int .u8 (gt b.Name 1) :: .int .u8 (gt b.Name 2) :: .int .u8 (gt b.Name 3) :: .int .u8 (gt b.Name 4) :: .int .u8 (gt b.Name 5) :: .int .u8 (gt b.Name 6) :: .int .u8 (gt b.Name 7) :: .int .u8 (gt b.Name 8) :: .int .u8 (gt b.Name 9) :: .int .u8 (gt b.Name 10) :: .int .u8 (gt b.Name 11) :: .int .u8 (gt b.Name 12) :: .int .u8 (gt b.Name 13) :: .int .u8 (gt b.Name 14) :: .int .u8 (gt b.Name 15) :: .int .u8 (gt b.Name 16) :: .int .u8 (gt b.Name 17) :: .int .u8 (gt b.Name 18) :: .int .u8 (gt b.Name 19) :: .int .u8 (gt b.Name 20) :: .int .u8 (gt b.Name 21) :: .int .u8 (gt b.Name 22) :: .int .u8 (gt b.Name 23) :: .int .u8 (gt b.Name 24) :: .int .u8 (gt b.Name 25) :: .int .u8 (gt b.Name 26) :: .int .u8 (gt b.Name 27) :: .int .u8 (gt b.Name 28) :: .int .u8 (gt b.Name 29) :: .int .u8 (gt b.Name 30) :: .int .u8 (gt b.Name 31) :: .sl none 3 true (b.Policy.Rules.map e_api_Rule) :: .sl none 35 true (b.Open.map e_api_Invoice) :: .int .i64 b.Next :: .sl none 4 true (b.Queue.map e_api_Payment) :: .sl none 35 true (b.Paid.map e_api_Invoice) :: .int .i64 b.Total :: .sl none 1 false (b.Blocked.map (V.int .i64)) :: .int .i64 b.Now :: [])))], 2⟩ : St) sbQ sbQ ⟨0, rfl, ⟨omQ, omQ⟩, (Nat.lt_succ_self _), hM⟩ ?_
                    clear hM
                    rintro n16 S ⟨p16, rfl, hfa16, hm16, hM⟩
                    have hM0 := hM; clear hM; obtain ⟨ag16, hag16, hM⟩ := iter_step hM0 (by omega) hf16; clear hM0
                    replace hfa16 := nzQ hfa16
                    replace hm16 := nzQ hm16
                    have ha16 : addI .i64 p16 1 = p16 + 1 := add_one omQ omQ
                    refine spQA ha16 ?_
                    refine condC_intro (fun h17 => ?_) (fun h17 => ?_)
                    · rw [if_pos h17] at hM
                      refine spQA (And.intro ha16 h17) ?_
                      have nh17 := nzQ h17
                      refine ct_draw 137 12 [87, 88, 89, 90, 91, 92, 93, 94, 95, 96, 97, 98] [] ([[], [0], [0, 1], [], [0, 1, 2, 3], [0, 1, 2, 3, 4], [], [6], [6, 7], [], [6, 7, 8, 9], [6, 7, 8, 9, 10]] ++ [List.range 12]) [] (by kernel_rfl) (by exact alQ) ?_
                      refine spQA ha16 ?_
                      refine hbindC_intro omQ ?_
                      have he18 := fun d => elt_mp (l := a_.Policy.Rules) (f := e_api_Rule) (i := p16) omQ d
                      refine spQA (And.intro ha16 he18) ?_
                      refine hbindC_intro omQ ?_
                      have he19 := fun d => elt_mp (l := b.Policy.Rules) (f := e_api_Rule) (i := p16) omQ d
                      refine spQA (And.intro ha16 (And.intro he18 he19)) ?_
                      refine condC_intro (fun h20 => ?_) (fun h20 => ?_)
                      · have kh20 : (!(q_api_Rule (gt a_.Policy.Rules p16) (gt b.Policy.Rules p16))) = true := h20
                        rw [if_pos kh20] at hM
                        refine spQA (And.intro ha16 (And.intro he18 (And.intro he19 h20))) ?_
                        have nh20 := nzQ kh20
                        subst hM
                        exact retC_view (lfQA (And.intro ha16 (And.intro he18 (And.intro he19 (And.intro h1 (And.intro h2 (And.intro h3 (And.intro h4 (And.intro h5 (And.intro h6 (And.intro h7 (And.intro h11 (And.intro h15 (And.intro h17 h20))))))))))))))
                      · have kh20 : (!(q_api_Rule (gt a_.Policy.Rules p16) (gt b.Policy.Rules p16))) = false := h20
                        rw [if_neg (ne_true kh20)] at hM
                        refine spQA (And.intro ha16 (And.intro he18 (And.intro he19 h20))) ?_
                        have nh20 := nzQ kh20
                        refine lp_intro (n16 - 1) (⟨[(2, .ptr 0 0), (3, .ptr 1 0), (5, .int .i64 (p16 + 1))], [(0, .var 40 true (.agg (.int .u8 (gt a_.Name 0) :: .int .u8 (gt a_.Name 1) :: .int .u8 (gt a_.Name 2) :: .int .u8 (gt a_.Name 3) :: .int .u8 (gt a_.Name 4) :: .int .u8 (gt a_.Name 5) :: .int .u8 (gt a_.Name 6) :: .int .u8 (gt a_.Name 7) :: .int .u8 (gt a_.Name 8) :: .int .u8 (gt a_.Name 9) :: .int .u8 (gt a_.Name 10) :: .int .u8 (gt a_.Name 11) :: .int .u8 (gt a_.Name 12) :: .int .u8 (gt a_.Name 13) :: .int .u8 (gt a_.Name 14) :: .int .u8 (gt a_.Name 15) :: .int .u8 (gt a_.Name 16) :: .int .u8 (gt a_.Name 17) :: .int .u8 (gt a_.Name 18) :: .int .u8 (gt a_.Name 19) :: .int .u8 (gt a_.Name 20) :: .int .u8 (gt a_.Name 21) :: .int .u8 (gt a_.Name 22) :: .int .u8 (gt a_.Name 23) :: .int .u8 (gt a_.Name 24) :: .int .u8 (gt a_.Name 25) :: .int .u8 (gt a_.Name 26) :: .int .u8 (gt a_.Name 27) :: .int .u8 (gt a_.Name 28) :: .int .u8 (gt a_.Name 29) :: .int .u8 (gt a_.Name 30) :: .int .u8 (gt a_.Name 31) :: .sl none 3 true (a_.Policy.Rules.map e_api_Rule) :: .sl none 35 true (a_.Open.map e_api_Invoice) :: .int .i64 a_.Next :: .sl none 4 true (a_.Queue.map e_api_Payment) :: .sl none 35 true (a_.Paid.map e_api_Invoice) :: .int .i64 a_.Total :: .sl none 1 false (a_.Blocked.map (V.int .i64)) :: .int .i64 a_.Now :: []))), (1, .var 40 true (.agg (.int .u8 (gt b.Name 0) :: .int .u8 (gt b.Name 1) :: .int .u8 (gt b.Name 2) :: .int .u8 (gt b.Name 3) :: .int .u8 (gt b.Name 4) :: .int .u8 (gt b.Name 5) :: .int .u8 (gt b.Name 6) :: .int .u8 (gt b.Name 7) :: .int .u8 (gt b.Name 8) :: .int .u8 (gt b.Name 9) :: .int .u8 (gt b.Name 10) :: .int .u8 (gt b.Name 11) :: .int .u8 (gt b.Name 12) :: .int .u8 (gt b.Name 13) :: .int .u8 (gt b.Name 14) :: .int .u8 (gt b.Name 15) :: .int .u8 (gt b.Name 16) :: .int .u8 (gt b.Name 17) :: .int .u8 (gt b.Name 18) :: .int .u8 (gt b.Name 19) :: .int .u8 (gt b.Name 20) :: .int .u8 (gt b.Name 21) :: .int .u8 (gt b.Name 22) :: .int .u8 (gt b.Name 23) :: .int .u8 (gt b.Name 24) :: .int .u8 (gt b.Name 25) :: .int .u8 (gt b.Name 26) :: .int .u8 (gt b.Name 27) :: .int .u8 (gt b.Name 28) :: .int .u8 (gt b.Name 29) :: .int .u8 (gt b.Name 30) :: .int .u8 (gt b.Name 31) :: .sl none 3 true (b.Policy.Rules.map e_api_Rule) :: .sl none 35 true (b.Open.map e_api_Invoice) :: .int .i64 b.Next :: .sl none 4 true (b.Queue.map e_api_Payment) :: .sl none 35 true (b.Paid.map e_api_Invoice) :: .int .i64 b.Total :: .sl none 1 false (b.Blocked.map (V.int .i64)) :: .int .i64 b.Now :: [])))], 2⟩ : St) (by omega) sbQ sbQ ⟨(p16 + 1), rfl, ⟨omQ, omQ⟩, omQ, iter_again hM hag16⟩
                    · rw [if_neg (ne_true h17)] at hM
                      refine spQA (And.intro ha16 h17) ?_
                      have nh17 := nzQ h17
                      have hM0 := hM; clear hM; obtain ⟨f21, d21, hf21, hd21, hM⟩ := iter_opn hM0; clear hM0
                      refine ct_loop (fun n S => ∃ p : Int, S = (⟨[(2, .ptr 0 0), (3, .ptr 1 0), (6, .int .i64 p)], [(0, .var 40 true (.agg (.int .u8 (gt a_.Name 0) :: .int .u8 (gt a_.Name 1) :: .int .u8 (gt a_.Name 2) :: .int .u8 (gt a_.Name 3) :: .int .u8 (gt a_.Name 4) :: .int .u8 (gt a_.Name 5) :: .int .u8 (gt a_.Name 6) :: .int .u8 (gt a_.Name 7) :: .int .u8 (gt a_.Name 8) :: .int .u8 (gt a_.Name 9) :: .int .u8 (gt a_.Name 10) :: .int .u8 (gt a_.Name 11) :: .int .u8 (gt a_.Name 12) :: .int .u8 (gt a_.Name 13) :: .int .u8 (gt a_.Name 14) :: .int .u8 (gt a_.Name 15) :: .int .u8 (gt a_.Name 16) :: .int .u8 (gt a_.Name 17) :: .int .u8 (gt a_.Name 18) :: .int .u8 (gt a_.Name 19) :: .int .u8 (gt a_.Name 20) :: .int .u8 (gt a_.Name 21) :: .int .u8 (gt a_.Name 22) :: .int .u8 (gt a_.Name 23) :: .int .u8 (gt a_.Name 24) :: .int .u8 (gt a_.Name 25) :: .int .u8 (gt a_.Name 26) :: .int .u8 (gt a_.Name 27) :: .int .u8 (gt a_.Name 28) :: .int .u8 (gt a_.Name 29) :: .int .u8 (gt a_.Name 30) :: .int .u8 (gt a_.Name 31) :: .sl none 3 true (a_.Policy.Rules.map e_api_Rule) :: .sl none 35 true (a_.Open.map e_api_Invoice) :: .int .i64 a_.Next :: .sl none 4 true (a_.Queue.map e_api_Payment) :: .sl none 35 true (a_.Paid.map e_api_Invoice) :: .int .i64 a_.Total :: .sl none 1 false (a_.Blocked.map (V.int .i64)) :: .int .i64 a_.Now :: []))), (1, .var 40 true (.agg (.int .u8 (gt b.Name 0) :: .int .u8 (gt b.Name 1) :: .int .u8 (gt b.Name 2) :: .int .u8 (gt b.Name 3) :: .int .u8 (gt b.Name 4) :: .int .u8 (gt b.Name 5) :: .int .u8 (gt b.Name 6) :: .int .u8 (gt b.Name 7) :: .int .u8 (gt b.Name 8) :: .int .u8 (gt b.Name 9) :: .int .u8 (gt b.Name 10) :: .int .u8 (gt b.Name 11) :: .int .u8 (gt b.Name 12) :: .int .u8 (gt b.Name 13) :: .int .u8 (gt b.Name 14) :: .int .u8 (gt b.Name 15) :: .int .u8 (gt b.Name 16) :: .int .u8 (gt b.Name 17) :: .int .u8 (gt b.Name 18) :: .int .u8 (gt b.Name 19) :: .int .u8 (gt b.Name 20) :: .int .u8 (gt b.Name 21) :: .int .u8 (gt b.Name 22) :: .int .u8 (gt b.Name 23) :: .int .u8 (gt b.Name 24) :: .int .u8 (gt b.Name 25) :: .int .u8 (gt b.Name 26) :: .int .u8 (gt b.Name 27) :: .int .u8 (gt b.Name 28) :: .int .u8 (gt b.Name 29) :: .int .u8 (gt b.Name 30) :: .int .u8 (gt b.Name 31) :: .sl none 3 true (b.Policy.Rules.map e_api_Rule) :: .sl none 35 true (b.Open.map e_api_Invoice) :: .int .i64 b.Next :: .sl none 4 true (b.Queue.map e_api_Payment) :: .sl none 35 true (b.Paid.map e_api_Invoice) :: .int .i64 b.Total :: .sl none 1 false (b.Blocked.map (V.int .i64)) :: .int .i64 b.Now :: [])))], 2⟩ : St) ∧ ((0 ≤ p) ∧ (p ≤ (a_.Queue.length : Int))) ∧ ((a_.Queue.length : Int) - p).toNat < n ∧ iter n f21 d21 p = r) (((a_.Queue.length : Int) - 0).toNat + 1) (⟨[(2, .ptr 0 0), (3, .ptr 1 0), (6, .int .i64 0)], [(0, .var 40 true (.agg (.int .u8 (gt a_.Name 0) :: .int .u8 (gt a_.Name 1) :: .int .u8 (gt a_.Name 2) :: .int .u8 (gt a_.Name 3) :: .int .u8 (gt a_.Name 4) :: .int .u8 (gt a_.Name 5) :: .int .u8 (gt a_.Name 6) :: .int .u8 (gt a_.Name 7) :: .int .u8 (gt a_.Name 8) :: .int .u8 (gt a_.Name 9) :: .int .u8 (gt a_.Name 10) :: .int .u8 (gt a_.Name 11) :: .int .u8 (gt a_.Name 12) :: .int .u8 (gt a_.Name 13) :: .int .u8 (gt a_.Name 14) :: .int .u8 (gt a_.Name 15) :: .int .u8 (gt a_.Name 16) :: .int .u8 (gt a_.Name 17) :: .int .u8 (gt a_.Name 18) :: .int .u8 (gt a_.Name 19) :: .int .u8 (gt a_.Name 20) :: .int .u8 (gt a_.Name 21) :: .int .u8 (gt a_.Name 22) :: .int .u8 (gt a_.Name 23) :: .int .u8 (gt a_.Name 24) :: .int .u8 (gt a_.Name 25) :: .int .u8 (gt a_.Name 26) :: .int .u8 (gt a_.Name 27) :: .int .u8 (gt a_.Name 28) :: .int .u8 (gt a_.Name 29) :: .int .u8 (gt a_.Name 30) :: .int .u8 (gt a_.Name 31) :: .sl none 3 true (a_.Policy.Rules.map e_api_Rule) :: .sl none 35 true (a_.Open.map e_api_Invoice) :: .int .i64 a_.Next :: .sl none 4 true (a_.Queue.map e_api_Payment) :: .sl none 35 true (a_.Paid.map e_api_Invoice) :: .int .i64 a_.Total :: .sl none 1 false (a_.Blocked.map (V.int .i64)) :: .int .i64 a_.Now :: []))), (1, .var 40 true (.agg (.int .u8 (gt b.Name 0) :: .int .u8 (gt b.Name 1) :: .int .u8 (gt b.Name 2) :: .int .u8 (gt b.Name 3) :: .int .u8 (gt b.Name 4) :: .int .u8 (gt b.Name 5) :: .int .u8 (gt b.Name 6) :: .int .u8 (gt b.Name 7) :: .int .u8 (gt b.Name 8) :: .int .u8 (gt b.Name 9) :: .int .u8 (gt b.Name 10) :: .int .u8 (gt b.Name 11) :: .int .u8 (gt b.Name 12) :: .int .u8 (gt b.Name 13) :: .int .u8 (gt b.Name 14) :: .int .u8 (gt b.Name 15) :: .int .u8 (gt b.Name 16) :: .int .u8 (gt b.Name 17) :: .int .u8 (gt b.Name 18) :: .int .u8 (gt b.Name 19) :: .int .u8 (gt b.Name 20) :: .int .u8 (gt b.Name 21) :: .int .u8 (gt b.Name 22) :: .int .u8 (gt b.Name 23) :: .int .u8 (gt b.Name 24) :: .int .u8 (gt b.Name 25) :: .int .u8 (gt b.Name 26) :: .int .u8 (gt b.Name 27) :: .int .u8 (gt b.Name 28) :: .int .u8 (gt b.Name 29) :: .int .u8 (gt b.Name 30) :: .int .u8 (gt b.Name 31) :: .sl none 3 true (b.Policy.Rules.map e_api_Rule) :: .sl none 35 true (b.Open.map e_api_Invoice) :: .int .i64 b.Next :: .sl none 4 true (b.Queue.map e_api_Payment) :: .sl none 35 true (b.Paid.map e_api_Invoice) :: .int .i64 b.Total :: .sl none 1 false (b.Blocked.map (V.int .i64)) :: .int .i64 b.Now :: [])))], 2⟩ : St) sbQ sbQ ⟨0, rfl, ⟨omQ, omQ⟩, (Nat.lt_succ_self _), hM⟩ ?_
                      clear hM
                      rintro n21 S ⟨p21, rfl, hfa21, hm21, hM⟩
                      have hM0 := hM; clear hM; obtain ⟨ag21, hag21, hM⟩ := iter_step hM0 (by omega) hf21; clear hM0
                      replace hfa21 := nzQ hfa21
                      replace hm21 := nzQ hm21
                      have ha21 : addI .i64 p21 1 = p21 + 1 := add_one omQ omQ
                      refine spQA (And.intro ha16 ha21) ?_
                      refine condC_intro (fun h22 => ?_) (fun h22 => ?_)
                      · rw [if_pos h22] at hM
                        refine spQA (And.intro ha16 (And.intro ha21 h22)) ?_
                        have nh22 := nzQ h22
                        refine ct_draw 137 10 [107, 108, 109, 110, 111, 112, 113, 114, 115, 116] [] ([[], [0], [], [0, 1, 2], [0, 1, 2, 3], [], [5], [], [5, 6, 7], [5, 6, 7, 8]] ++ [List.range 10, List.range 11]) [] (by kernel_rfl) (by exact alQ) ?_
                        refine spQA (And.intro ha16 ha21) ?_
                        refine hbindC_intro omQ ?_
                        have he23 := fun d => elt_mp (l := a_.Queue) (f := e_api_Payment) (i := p21) omQ d
                        refine spQA (And.intro ha16 (And.intro ha21 he23)) ?_
                        refine hbindC_intro omQ ?_
                        have he24 := fun d => elt_mp (l := b.Queue) (f := e_api_Payment) (i := p21) omQ d
                        refine spQA (And.intro ha16 (And.intro ha21 (And.intro he23 he24))) ?_
                        have hM0 := hM; clear hM; obtain ⟨x25, hx26, hM⟩ := letk_opn hM0; clear hM0
                        have hcx25 := specieref38_Same_ok  (gt a_.Queue p21) (gt b.Queue p21) (by (first | exact okQ_at hp0 (by omega) | exact okQ_at hp1 (by omega))) (by (first | exact okQ_at hp0 (by omega) | exact okQ_at hp1 (by omega)))
                        rw [← hx26] at hcx25
                        refine callC_give hcx25 (clQA (And.intro ha16 (And.intro ha21 (And.intro he23 he24)))) (clQA (And.intro ha16 (And.intro ha21 (And.intro he23 he24)))) (fun hw27 => ?_)
                        replace hw27 := nzQ hw27
                        refine spQA (And.intro ha16 (And.intro ha21 (And.intro he23 he24))) ?_
                        refine condC_intro (fun h28 => ?_) (fun h28 => ?_)
                        · rw [if_pos h28] at hM
                          refine spQA (And.intro ha16 (And.intro ha21 (And.intro he23 (And.intro he24 h28)))) ?_
                          have nh28 := nzQ h28
                          subst hM
                          exact retC_view (lfQA (And.intro ha16 (And.intro ha21 (And.intro he23 (And.intro he24 (And.intro h1 (And.intro h2 (And.intro h3 (And.intro h4 (And.intro h5 (And.intro h6 (And.intro h7 (And.intro h11 (And.intro h15 (And.intro h17 (And.intro h22 h28))))))))))))))))
                        · rw [if_neg (ne_true h28)] at hM
                          refine spQA (And.intro ha16 (And.intro ha21 (And.intro he23 (And.intro he24 h28)))) ?_
                          have nh28 := nzQ h28
                          refine lp_intro (n21 - 1) (⟨[(2, .ptr 0 0), (3, .ptr 1 0), (6, .int .i64 (p21 + 1))], [(0, .var 40 true (.agg (.int .u8 (gt a_.Name 0) :: .int .u8 (gt a_.Name 1) :: .int .u8 (gt a_.Name 2) :: .int .u8 (gt a_.Name 3) :: .int .u8 (gt a_.Name 4) :: .int .u8 (gt a_.Name 5) :: .int .u8 (gt a_.Name 6) :: .int .u8 (gt a_.Name 7) :: .int .u8 (gt a_.Name 8) :: .int .u8 (gt a_.Name 9) :: .int .u8 (gt a_.Name 10) :: .int .u8 (gt a_.Name 11) :: .int .u8 (gt a_.Name 12) :: .int .u8 (gt a_.Name 13) :: .int .u8 (gt a_.Name 14) :: .int .u8 (gt a_.Name 15) :: .int .u8 (gt a_.Name 16) :: .int .u8 (gt a_.Name 17) :: .int .u8 (gt a_.Name 18) :: .int .u8 (gt a_.Name 19) :: .int .u8 (gt a_.Name 20) :: .int .u8 (gt a_.Name 21) :: .int .u8 (gt a_.Name 22) :: .int .u8 (gt a_.Name 23) :: .int .u8 (gt a_.Name 24) :: .int .u8 (gt a_.Name 25) :: .int .u8 (gt a_.Name 26) :: .int .u8 (gt a_.Name 27) :: .int .u8 (gt a_.Name 28) :: .int .u8 (gt a_.Name 29) :: .int .u8 (gt a_.Name 30) :: .int .u8 (gt a_.Name 31) :: .sl none 3 true (a_.Policy.Rules.map e_api_Rule) :: .sl none 35 true (a_.Open.map e_api_Invoice) :: .int .i64 a_.Next :: .sl none 4 true (a_.Queue.map e_api_Payment) :: .sl none 35 true (a_.Paid.map e_api_Invoice) :: .int .i64 a_.Total :: .sl none 1 false (a_.Blocked.map (V.int .i64)) :: .int .i64 a_.Now :: []))), (1, .var 40 true (.agg (.int .u8 (gt b.Name 0) :: .int .u8 (gt b.Name 1) :: .int .u8 (gt b.Name 2) :: .int .u8 (gt b.Name 3) :: .int .u8 (gt b.Name 4) :: .int .u8 (gt b.Name 5) :: .int .u8 (gt b.Name 6) :: .int .u8 (gt b.Name 7) :: .int .u8 (gt b.Name 8) :: .int .u8 (gt b.Name 9) :: .int .u8 (gt b.Name 10) :: .int .u8 (gt b.Name 11) :: .int .u8 (gt b.Name 12) :: .int .u8 (gt b.Name 13) :: .int .u8 (gt b.Name 14) :: .int .u8 (gt b.Name 15) :: .int .u8 (gt b.Name 16) :: .int .u8 (gt b.Name 17) :: .int .u8 (gt b.Name 18) :: .int .u8 (gt b.Name 19) :: .int .u8 (gt b.Name 20) :: .int .u8 (gt b.Name 21) :: .int .u8 (gt b.Name 22) :: .int .u8 (gt b.Name 23) :: .int .u8 (gt b.Name 24) :: .int .u8 (gt b.Name 25) :: .int .u8 (gt b.Name 26) :: .int .u8 (gt b.Name 27) :: .int .u8 (gt b.Name 28) :: .int .u8 (gt b.Name 29) :: .int .u8 (gt b.Name 30) :: .int .u8 (gt b.Name 31) :: .sl none 3 true (b.Policy.Rules.map e_api_Rule) :: .sl none 35 true (b.Open.map e_api_Invoice) :: .int .i64 b.Next :: .sl none 4 true (b.Queue.map e_api_Payment) :: .sl none 35 true (b.Paid.map e_api_Invoice) :: .int .i64 b.Total :: .sl none 1 false (b.Blocked.map (V.int .i64)) :: .int .i64 b.Now :: [])))], 2⟩ : St) (by omega) sbQ sbQ ⟨(p21 + 1), rfl, ⟨omQ, omQ⟩, omQ, iter_again hM hag21⟩
                      · rw [if_neg (ne_true h22)] at hM
                        refine spQA (And.intro ha16 (And.intro ha21 h22)) ?_
                        have nh22 := nzQ h22
                        have hM0 := hM; clear hM; obtain ⟨f29, d29, hf29, hd29, hM⟩ := iter_opn hM0; clear hM0
                        refine ct_loop (fun n S => ∃ p : Int, S = (⟨[(2, .ptr 0 0), (3, .ptr 1 0), (7, .int .i64 p)], [(0, .var 40 true (.agg (.int .u8 (gt a_.Name 0) :: .int .u8 (gt a_.Name 1) :: .int .u8 (gt a_.Name 2) :: .int .u8 (gt a_.Name 3) :: .int .u8 (gt a_.Name 4) :: .int .u8 (gt a_.Name 5) :: .int .u8 (gt a_.Name 6) :: .int .u8 (gt a_.Name 7) :: .int .u8 (gt a_.Name 8) :: .int .u8 (gt a_.Name 9) :: .int .u8 (gt a_.Name 10) :: .int .u8 (gt a_.Name 11) :: .int .u8 (gt a_.Name 12) :: .int .u8 (gt a_.Name 13) :: .int .u8 (gt a_.Name 14) :: .int .u8 (gt a_.Name 15) :: .int .u8 (gt a_.Name 16) :: .int .u8 (gt a_.Name 17) :: .int .u8 (gt a_.Name 18) :: .int .u8 (gt a_.Name 19) :: .int .u8 (gt a_.Name 20) :: .int .u8 (gt a_.Name 21) :: .int .u8 (gt a_.Name 22) :: .int .u8 (gt a_.Name 23) :: .int .u8 (gt a_.Name 24) :: .int .u8 (gt a_.Name 25) :: .int .u8 (gt a_.Name 26) :: .int .u8 (gt a_.Name 27) :: .int .u8 (gt a_.Name 28) :: .int .u8 (gt a_.Name 29) :: .int .u8 (gt a_.Name 30) :: .int .u8 (gt a_.Name 31) :: .sl none 3 true (a_.Policy.Rules.map e_api_Rule) :: .sl none 35 true (a_.Open.map e_api_Invoice) :: .int .i64 a_.Next :: .sl none 4 true (a_.Queue.map e_api_Payment) :: .sl none 35 true (a_.Paid.map e_api_Invoice) :: .int .i64 a_.Total :: .sl none 1 false (a_.Blocked.map (V.int .i64)) :: .int .i64 a_.Now :: []))), (1, .var 40 true (.agg (.int .u8 (gt b.Name 0) :: .int .u8 (gt b.Name 1) :: .int .u8 (gt b.Name 2) :: .int .u8 (gt b.Name 3) :: .int .u8 (gt b.Name 4) :: .int .u8 (gt b.Name 5) :: .int .u8 (gt b.Name 6) :: .int .u8 (gt b.Name 7) :: .int .u8 (gt b.Name 8) :: .int .u8 (gt b.Name 9) :: .int .u8 (gt b.Name 10) :: .int .u8 (gt b.Name 11) :: .int .u8 (gt b.Name 12) :: .int .u8 (gt b.Name 13) :: .int .u8 (gt b.Name 14) :: .int .u8 (gt b.Name 15) :: .int .u8 (gt b.Name 16) :: .int .u8 (gt b.Name 17) :: .int .u8 (gt b.Name 18) :: .int .u8 (gt b.Name 19) :: .int .u8 (gt b.Name 20) :: .int .u8 (gt b.Name 21) :: .int .u8 (gt b.Name 22) :: .int .u8 (gt b.Name 23) :: .int .u8 (gt b.Name 24) :: .int .u8 (gt b.Name 25) :: .int .u8 (gt b.Name 26) :: .int .u8 (gt b.Name 27) :: .int .u8 (gt b.Name 28) :: .int .u8 (gt b.Name 29) :: .int .u8 (gt b.Name 30) :: .int .u8 (gt b.Name 31) :: .sl none 3 true (b.Policy.Rules.map e_api_Rule) :: .sl none 35 true (b.Open.map e_api_Invoice) :: .int .i64 b.Next :: .sl none 4 true (b.Queue.map e_api_Payment) :: .sl none 35 true (b.Paid.map e_api_Invoice) :: .int .i64 b.Total :: .sl none 1 false (b.Blocked.map (V.int .i64)) :: .int .i64 b.Now :: [])))], 2⟩ : St) ∧ ((0 ≤ p) ∧ (p ≤ (a_.Blocked.length : Int))) ∧ ((a_.Blocked.length : Int) - p).toNat < n ∧ iter n f29 d29 p = r) (((a_.Blocked.length : Int) - 0).toNat + 1) (⟨[(2, .ptr 0 0), (3, .ptr 1 0), (7, .int .i64 0)], [(0, .var 40 true (.agg (.int .u8 (gt a_.Name 0) :: .int .u8 (gt a_.Name 1) :: .int .u8 (gt a_.Name 2) :: .int .u8 (gt a_.Name 3) :: .int .u8 (gt a_.Name 4) :: .int .u8 (gt a_.Name 5) :: .int .u8 (gt a_.Name 6) :: .int .u8 (gt a_.Name 7) :: .int .u8 (gt a_.Name 8) :: .int .u8 (gt a_.Name 9) :: .int .u8 (gt a_.Name 10) :: .int .u8 (gt a_.Name 11) :: .int .u8 (gt a_.Name 12) :: .int .u8 (gt a_.Name 13) :: .int .u8 (gt a_.Name 14) :: .int .u8 (gt a_.Name 15) :: .int .u8 (gt a_.Name 16) :: .int .u8 (gt a_.Name 17) :: .int .u8 (gt a_.Name 18) :: .int .u8 (gt a_.Name 19) :: .int .u8 (gt a_.Name 20) :: .int .u8 (gt a_.Name 21) :: .int .u8 (gt a_.Name 22) :: .int .u8 (gt a_.Name 23) :: .int .u8 (gt a_.Name 24) :: .int .u8 (gt a_.Name 25) :: .int .u8 (gt a_.Name 26) :: .int .u8 (gt a_.Name 27) :: .int .u8 (gt a_.Name 28) :: .int .u8 (gt a_.Name 29) :: .int .u8 (gt a_.Name 30) :: .int .u8 (gt a_.Name 31) :: .sl none 3 true (a_.Policy.Rules.map e_api_Rule) :: .sl none 35 true (a_.Open.map e_api_Invoice) :: .int .i64 a_.Next :: .sl none 4 true (a_.Queue.map e_api_Payment) :: .sl none 35 true (a_.Paid.map e_api_Invoice) :: .int .i64 a_.Total :: .sl none 1 false (a_.Blocked.map (V.int .i64)) :: .int .i64 a_.Now :: []))), (1, .var 40 true (.agg (.int .u8 (gt b.Name 0) :: .int .u8 (gt b.Name 1) :: .int .u8 (gt b.Name 2) :: .int .u8 (gt b.Name 3) :: .int .u8 (gt b.Name 4) :: .int .u8 (gt b.Name 5) :: .int .u8 (gt b.Name 6) :: .int .u8 (gt b.Name 7) :: .int .u8 (gt b.Name 8) :: .int .u8 (gt b.Name 9) :: .int .u8 (gt b.Name 10) :: .int .u8 (gt b.Name 11) :: .int .u8 (gt b.Name 12) :: .int .u8 (gt b.Name 13) :: .int .u8 (gt b.Name 14) :: .int .u8 (gt b.Name 15) :: .int .u8 (gt b.Name 16) :: .int .u8 (gt b.Name 17) :: .int .u8 (gt b.Name 18) :: .int .u8 (gt b.Name 19) :: .int .u8 (gt b.Name 20) :: .int .u8 (gt b.Name 21) :: .int .u8 (gt b.Name 22) :: .int .u8 (gt b.Name 23) :: .int .u8 (gt b.Name 24) :: .int .u8 (gt b.Name 25) :: .int .u8 (gt b.Name 26) :: .int .u8 (gt b.Name 27) :: .int .u8 (gt b.Name 28) :: .int .u8 (gt b.Name 29) :: .int .u8 (gt b.Name 30) :: .int .u8 (gt b.Name 31) :: .sl none 3 true (b.Policy.Rules.map e_api_Rule) :: .sl none 35 true (b.Open.map e_api_Invoice) :: .int .i64 b.Next :: .sl none 4 true (b.Queue.map e_api_Payment) :: .sl none 35 true (b.Paid.map e_api_Invoice) :: .int .i64 b.Total :: .sl none 1 false (b.Blocked.map (V.int .i64)) :: .int .i64 b.Now :: [])))], 2⟩ : St) sbQ sbQ ⟨0, rfl, ⟨omQ, omQ⟩, (Nat.lt_succ_self _), hM⟩ ?_
                        clear hM
                        rintro n29 S ⟨p29, rfl, hfa29, hm29, hM⟩
                        have hM0 := hM; clear hM; obtain ⟨ag29, hag29, hM⟩ := iter_step hM0 (by omega) hf29; clear hM0
                        replace hfa29 := nzQ hfa29
                        replace hm29 := nzQ hm29
                        have ha29 : addI .i64 p29 1 = p29 + 1 := add_one omQ omQ
                        refine spQA (And.intro ha16 (And.intro ha21 ha29)) ?_
                        refine condC_intro (fun h30 => ?_) (fun h30 => ?_)
                        · rw [if_pos h30] at hM
                          refine spQA (And.intro ha16 (And.intro ha21 (And.intro ha29 h30))) ?_
                          have nh30 := nzQ h30
                          refine ct_draw 137 10 [126, 127, 128, 129, 130, 131, 132, 133, 134, 135] [] ([[], [0], [], [0, 1, 2], [0, 1, 2, 3], [], [5], [], [5, 6, 7], [5, 6, 7, 8]] ++ [List.range 10]) [] (by kernel_rfl) (by exact alQ) ?_
                          refine spQA (And.intro ha16 (And.intro ha21 ha29)) ?_
                          refine hbindC_intro omQ ?_
                          have he31 := fun d => elt_mp (l := a_.Blocked) (f := (V.int .i64)) (i := p29) omQ d
                          refine spQA (And.intro ha16 (And.intro ha21 (And.intro ha29 he31))) ?_
                          refine hbindC_intro omQ ?_
                          have he32 := fun d => elt_mp (l := b.Blocked) (f := (V.int .i64)) (i := p29) omQ d
                          refine spQA (And.intro ha16 (And.intro ha21 (And.intro ha29 (And.intro he31 he32)))) ?_
                          refine condC_intro (fun h33 => ?_) (fun h33 => ?_)
                          · rw [if_pos h33] at hM
                            refine spQA (And.intro ha16 (And.intro ha21 (And.intro ha29 (And.intro he31 (And.intro he32 h33))))) ?_
                            have nh33 := nzQ h33
                            subst hM
                            exact retC_view (lfQA (And.intro ha16 (And.intro ha21 (And.intro ha29 (And.intro he31 (And.intro he32 (And.intro h1 (And.intro h2 (And.intro h3 (And.intro h4 (And.intro h5 (And.intro h6 (And.intro h7 (And.intro h11 (And.intro h15 (And.intro h17 (And.intro h22 (And.intro h30 h33))))))))))))))))))
                          · rw [if_neg (ne_true h33)] at hM
                            refine spQA (And.intro ha16 (And.intro ha21 (And.intro ha29 (And.intro he31 (And.intro he32 h33))))) ?_
                            have nh33 := nzQ h33
                            refine lp_intro (n29 - 1) (⟨[(2, .ptr 0 0), (3, .ptr 1 0), (7, .int .i64 (p29 + 1))], [(0, .var 40 true (.agg (.int .u8 (gt a_.Name 0) :: .int .u8 (gt a_.Name 1) :: .int .u8 (gt a_.Name 2) :: .int .u8 (gt a_.Name 3) :: .int .u8 (gt a_.Name 4) :: .int .u8 (gt a_.Name 5) :: .int .u8 (gt a_.Name 6) :: .int .u8 (gt a_.Name 7) :: .int .u8 (gt a_.Name 8) :: .int .u8 (gt a_.Name 9) :: .int .u8 (gt a_.Name 10) :: .int .u8 (gt a_.Name 11) :: .int .u8 (gt a_.Name 12) :: .int .u8 (gt a_.Name 13) :: .int .u8 (gt a_.Name 14) :: .int .u8 (gt a_.Name 15) :: .int .u8 (gt a_.Name 16) :: .int .u8 (gt a_.Name 17) :: .int .u8 (gt a_.Name 18) :: .int .u8 (gt a_.Name 19) :: .int .u8 (gt a_.Name 20) :: .int .u8 (gt a_.Name 21) :: .int .u8 (gt a_.Name 22) :: .int .u8 (gt a_.Name 23) :: .int .u8 (gt a_.Name 24) :: .int .u8 (gt a_.Name 25) :: .int .u8 (gt a_.Name 26) :: .int .u8 (gt a_.Name 27) :: .int .u8 (gt a_.Name 28) :: .int .u8 (gt a_.Name 29) :: .int .u8 (gt a_.Name 30) :: .int .u8 (gt a_.Name 31) :: .sl none 3 true (a_.Policy.Rules.map e_api_Rule) :: .sl none 35 true (a_.Open.map e_api_Invoice) :: .int .i64 a_.Next :: .sl none 4 true (a_.Queue.map e_api_Payment) :: .sl none 35 true (a_.Paid.map e_api_Invoice) :: .int .i64 a_.Total :: .sl none 1 false (a_.Blocked.map (V.int .i64)) :: .int .i64 a_.Now :: []))), (1, .var 40 true (.agg (.int .u8 (gt b.Name 0) :: .int .u8 (gt b.Name 1) :: .int .u8 (gt b.Name 2) :: .int .u8 (gt b.Name 3) :: .int .u8 (gt b.Name 4) :: .int .u8 (gt b.Name 5) :: .int .u8 (gt b.Name 6) :: .int .u8 (gt b.Name 7) :: .int .u8 (gt b.Name 8) :: .int .u8 (gt b.Name 9) :: .int .u8 (gt b.Name 10) :: .int .u8 (gt b.Name 11) :: .int .u8 (gt b.Name 12) :: .int .u8 (gt b.Name 13) :: .int .u8 (gt b.Name 14) :: .int .u8 (gt b.Name 15) :: .int .u8 (gt b.Name 16) :: .int .u8 (gt b.Name 17) :: .int .u8 (gt b.Name 18) :: .int .u8 (gt b.Name 19) :: .int .u8 (gt b.Name 20) :: .int .u8 (gt b.Name 21) :: .int .u8 (gt b.Name 22) :: .int .u8 (gt b.Name 23) :: .int .u8 (gt b.Name 24) :: .int .u8 (gt b.Name 25) :: .int .u8 (gt b.Name 26) :: .int .u8 (gt b.Name 27) :: .int .u8 (gt b.Name 28) :: .int .u8 (gt b.Name 29) :: .int .u8 (gt b.Name 30) :: .int .u8 (gt b.Name 31) :: .sl none 3 true (b.Policy.Rules.map e_api_Rule) :: .sl none 35 true (b.Open.map e_api_Invoice) :: .int .i64 b.Next :: .sl none 4 true (b.Queue.map e_api_Payment) :: .sl none 35 true (b.Paid.map e_api_Invoice) :: .int .i64 b.Total :: .sl none 1 false (b.Blocked.map (V.int .i64)) :: .int .i64 b.Now :: [])))], 2⟩ : St) (by omega) sbQ sbQ ⟨(p29 + 1), rfl, ⟨omQ, omQ⟩, omQ, iter_again hM hag29⟩
                        · rw [if_neg (ne_true h30)] at hM
                          refine spQA (And.intro ha16 (And.intro ha21 (And.intro ha29 h30))) ?_
                          have nh30 := nzQ h30
                          subst hM
                          exact retC_view (lfQA (And.intro ha16 (And.intro ha21 (And.intro ha29 (And.intro h1 (And.intro h2 (And.intro h3 (And.intro h4 (And.intro h5 (And.intro h6 (And.intro h7 (And.intro h11 (And.intro h15 (And.intro h17 (And.intro h22 h30)))))))))))))))
                · rw [if_pos h11] at hM
                  refine spQA h11 ?_
                  have nh11 := nzQ h11
                  subst hM
                  exact retC_view (lfQA (And.intro h1 (And.intro h2 (And.intro h3 (And.intro h4 (And.intro h5 (And.intro h6 (And.intro h7 h11))))))))
              · rw [if_pos h7] at hM
                refine spQA h7 ?_
                have nh7 := nzQ h7
                subst hM
                exact retC_view (lfQA (And.intro h1 (And.intro h2 (And.intro h3 (And.intro h4 (And.intro h5 (And.intro h6 h7)))))))
            · rw [if_pos h6] at hM
              refine spQA h6 ?_
              have nh6 := nzQ h6
              subst hM
              exact retC_view (lfQA (And.intro h1 (And.intro h2 (And.intro h3 (And.intro h4 (And.intro h5 h6))))))
          · rw [if_pos h5] at hM
            refine spQA h5 ?_
            have nh5 := nzQ h5
            subst hM
            exact retC_view (lfQA (And.intro h1 (And.intro h2 (And.intro h3 (And.intro h4 h5)))))
        · rw [if_pos h4] at hM
          refine spQA h4 ?_
          have nh4 := nzQ h4
          subst hM
          exact retC_view (lfQA (And.intro h1 (And.intro h2 (And.intro h3 h4))))
      · rw [if_pos h3] at hM
        refine spQA h3 ?_
        have nh3 := nzQ h3
        subst hM
        exact retC_view (lfQA (And.intro h1 (And.intro h2 h3)))
    · rw [if_pos h2] at hM
      refine spQA h2 ?_
      have nh2 := nzQ h2
      subst hM
      exact retC_view (lfQA (And.intro h1 h2))
  · have kh1 : (!(q_arr23 (a_.Name) (b.Name))) = true := h1
    rw [if_pos kh1] at hM
    refine spQA h1 ?_
    have nh1 := nzQ kh1
    subst hM
    exact retC_view (lfQA h1)
set_option maxHeartbeats 2000000 in
set_option maxRecDepth 100000 in
theorem specielaw47_none_ok  (m : S_api_Merchant) (hp0 : okQ m.Queue) : CallOk En 11 [.agg (.int .u8 (gt m.Name 0) :: .int .u8 (gt m.Name 1) :: .int .u8 (gt m.Name 2) :: .int .u8 (gt m.Name 3) :: .int .u8 (gt m.Name 4) :: .int .u8 (gt m.Name 5) :: .int .u8 (gt m.Name 6) :: .int .u8 (gt m.Name 7) :: .int .u8 (gt m.Name 8) :: .int .u8 (gt m.Name 9) :: .int .u8 (gt m.Name 10) :: .int .u8 (gt m.Name 11) :: .int .u8 (gt m.Name 12) :: .int .u8 (gt m.Name 13) :: .int .u8 (gt m.Name 14) :: .int .u8 (gt m.Name 15) :: .int .u8 (gt m.Name 16) :: .int .u8 (gt m.Name 17) :: .int .u8 (gt m.Name 18) :: .int .u8 (gt m.Name 19) :: .int .u8 (gt m.Name 20) :: .int .u8 (gt m.Name 21) :: .int .u8 (gt m.Name 22) :: .int .u8 (gt m.Name 23) :: .int .u8 (gt m.Name 24) :: .int .u8 (gt m.Name 25) :: .int .u8 (gt m.Name 26) :: .int .u8 (gt m.Name 27) :: .int .u8 (gt m.Name 28) :: .int .u8 (gt m.Name 29) :: .int .u8 (gt m.Name 30) :: .int .u8 (gt m.Name 31) :: .sl none 3 true (m.Policy.Rules.map e_api_Rule) :: .sl none 35 true (m.Open.map e_api_Invoice) :: .int .i64 m.Next :: .sl none 4 true (m.Queue.map e_api_Payment) :: .sl none 35 true (m.Paid.map e_api_Invoice) :: .int .i64 m.Total :: .sl none 1 false (m.Blocked.map (V.int .i64)) :: .int .i64 m.Now :: [])] (.bool (specielaw47_none m)) [] := by
  generalize hM : specielaw47_none m = r
  rw [specielaw47_none.eq_1] at hM
  refine enterV En_ok En_mo noJ Try.func11 rfl Try.ntmps11 (by kernel_rfl) fun hw => ct_start ?_
  refine spQ ?_
  replace hw := nzQ hw
  have hM0 := hM; clear hM; obtain ⟨x1, hx2, hM⟩ := letk_opn hM0; clear hM0
  have hcx1 := specieref47_Same_ok  m z_api_Merchant (by (first | exact hp0 | exact okQ_nil)) (by (first | exact hp0 | exact okQ_nil))
  rw [← hx2] at hcx1
  refine callC_give hcx1 clQ clQ (fun hw3 => ?_)
  replace hw3 := nzQ hw3
  refine spQ ?_
  subst hM
  exact retC_view lfQ
set_option maxHeartbeats 2000000 in
set_option maxRecDepth 100000 in
theorem specieref47_Hour_ok  (now : Int)  : CallOk En 36 [.int .i64 now] (.int .i64 (specieref47_Hour now)) [] := by
  generalize hM : specieref47_Hour now = r
  rw [specieref47_Hour.eq_1] at hM
  refine enterV En_ok En_mo noJ Try.func36 rfl Try.ntmps36 (by kernel_rfl) fun hw => ct_start ?_
  refine spQ ?_
  replace hw := nzQ hw
  refine bindC_intro omQ ?_
  refine spQ ?_
  refine bindC_intro omQ ?_
  refine spQ ?_
  subst hM
  exact retC_view lfQ
set_option maxHeartbeats 2000000 in
set_option maxRecDepth 100000 in
theorem specieref46_Accepts_ok  (r_ : S_api_Rule) (amount : Int) (coins : Int) (hops : Int) (hour : Int) (open_ : Int)  : CallOk En 83 [.agg [.int .i64 r_.Kind, .int .i64 r_.A, .int .i64 r_.B], .int .i64 amount, .int .i64 coins, .int .i64 hops, .int .i64 hour, .int .i64 open_] (.bool (specieref46_Accepts r_ amount coins hops hour open_)) [] := by
  generalize hM : specieref46_Accepts r_ amount coins hops hour open_ = r
  rw [specieref46_Accepts.eq_1] at hM
  refine enterV En_ok En_mo noJ Try.func83 rfl Try.ntmps83 (by kernel_rfl) fun hw => ct_start ?_
  refine spQ ?_
  replace hw := nzQ hw
  refine condC_intro (fun h1 => ?_) (fun h1 => ?_)
  · rw [if_pos h1] at hM
    refine spQA h1 ?_
    have nh1 := nzQ h1
    subst hM
    exact retC_view (lfQA h1)
  · rw [if_neg (ne_true h1)] at hM
    refine spQA h1 ?_
    have nh1 := nzQ h1
    refine condC_intro (fun h2 => ?_) (fun h2 => ?_)
    · rw [if_pos h2] at hM
      refine spQA h2 ?_
      have nh2 := nzQ h2
      subst hM
      exact retC_view (lfQA (And.intro h1 h2))
    · rw [if_neg (ne_true h2)] at hM
      refine spQA h2 ?_
      have nh2 := nzQ h2
      refine condC_intro (fun h3 => ?_) (fun h3 => ?_)
      · rw [if_pos h3] at hM
        refine spQA h3 ?_
        have nh3 := nzQ h3
        subst hM
        exact retC_view (lfQA (And.intro h1 (And.intro h2 h3)))
      · rw [if_neg (ne_true h3)] at hM
        refine spQA h3 ?_
        have nh3 := nzQ h3
        refine condC_intro (fun h4 => ?_) (fun h4 => ?_)
        · rw [if_pos h4] at hM
          refine spQA h4 ?_
          have nh4 := nzQ h4
          subst hM
          exact retC_view (lfQA (And.intro h1 (And.intro h2 (And.intro h3 h4))))
        · rw [if_neg (ne_true h4)] at hM
          refine spQA h4 ?_
          have nh4 := nzQ h4
          refine condC_intro (fun h5 => ?_) (fun h5 => ?_)
          · rw [if_pos h5] at hM
            refine spQA h5 ?_
            have nh5 := nzQ h5
            refine guardC_t (fun h6 => ?_) (fun h6 => ?_)
            · rw [if_pos h6] at hM
              refine spQA h6 ?_
              have nh6 := nzQ h6
              subst hM
              exact retC_view (lfQA (And.intro h1 (And.intro h2 (And.intro h3 (And.intro h4 (And.intro h5 h6))))))
            · rw [if_neg (ne_true h6)] at hM
              refine spQA h6 ?_
              have nh6 := nzQ h6
              subst hM
              exact retC_view (lfQA (And.intro h1 (And.intro h2 (And.intro h3 (And.intro h4 (And.intro h5 h6))))))
          · rw [if_neg (ne_true h5)] at hM
            refine spQA h5 ?_
            have nh5 := nzQ h5
            refine guardC_f (fun h7 => ?_) (fun h7 => ?_)
            · rw [if_neg (ne_true h7)] at hM
              refine spQA h7 ?_
              have nh7 := nzQ h7
              subst hM
              exact retC_view (lfQA (And.intro h1 (And.intro h2 (And.intro h3 (And.intro h4 (And.intro h5 h7))))))
            · rw [if_pos h7] at hM
              refine spQA h7 ?_
              have nh7 := nzQ h7
              subst hM
              exact retC_view (lfQA (And.intro h1 (And.intro h2 (And.intro h3 (And.intro h4 (And.intro h5 h7))))))
set_option maxHeartbeats 2000000 in
set_option maxRecDepth 100000 in
theorem specieref46_First_ok  (p_ : S_api_Policy) (amount : Int) (coins : Int) (hops : Int) (hour : Int) (open_ : Int)  : CallOk En 67 [.agg [.sl none 3 true (p_.Rules.map e_api_Rule)], .int .i64 amount, .int .i64 coins, .int .i64 hops, .int .i64 hour, .int .i64 open_] (.int .i64 (specieref46_First p_ amount coins hops hour open_)) [] := by
  generalize hM : specieref46_First p_ amount coins hops hour open_ = r
  rw [specieref46_First.eq_1] at hM
  refine enterV En_ok En_mo noJ Try.func67 rfl Try.ntmps67 (by kernel_rfl) fun hw => ct_start ?_
  refine spQ ?_
  replace hw := nzQ hw
  have hM0 := hM; clear hM; obtain ⟨f1, d1, hf1, hd1, hM⟩ := iter_opn hM0; clear hM0
  refine ct_loop (fun n S => ∃ p : Int, S = (⟨[(1, .int .i64 amount), (2, .int .i64 coins), (3, .int .i64 hops), (4, .int .i64 hour), (5, .int .i64 open_), (6, .ptr 0 0), (13, .int .i64 p)], [(0, .var 1 true (.agg [.sl none 3 true (p_.Rules.map e_api_Rule)]))], 1⟩ : St) ∧ ((0 ≤ p) ∧ (p ≤ (p_.Rules.length : Int))) ∧ ((p_.Rules.length : Int) - p).toNat < n ∧ iter n f1 d1 p = r) (((p_.Rules.length : Int) - 0).toNat + 1) (⟨[(1, .int .i64 amount), (2, .int .i64 coins), (3, .int .i64 hops), (4, .int .i64 hour), (5, .int .i64 open_), (6, .ptr 0 0), (13, .int .i64 0)], [(0, .var 1 true (.agg [.sl none 3 true (p_.Rules.map e_api_Rule)]))], 1⟩ : St) sbQ sbQ ⟨0, rfl, ⟨omQ, omQ⟩, (Nat.lt_succ_self _), hM⟩ ?_
  clear hM
  rintro n1 S ⟨p1, rfl, hfa1, hm1, hM⟩
  have hM0 := hM; clear hM; obtain ⟨ag1, hag1, hM⟩ := iter_step hM0 (by omega) hf1; clear hM0
  replace hfa1 := nzQ hfa1
  replace hm1 := nzQ hm1
  have ha1 : addI .i64 p1 1 = p1 + 1 := add_one omQ omQ
  refine spQA ha1 ?_
  refine condC_intro (fun h2 => ?_) (fun h2 => ?_)
  · rw [if_pos h2] at hM
    refine spQA (And.intro ha1 h2) ?_
    have nh2 := nzQ h2
    refine bindC_intro omQ ?_
    have he3 := fun d => elt_mp (l := p_.Rules) (f := e_api_Rule) (i := p1) omQ d
    refine spQA (And.intro ha1 he3) ?_
    have hM0 := hM; clear hM; obtain ⟨x4, hx5, hM⟩ := letk_opn hM0; clear hM0
    have hcx4 := specieref46_Accepts_ok  (gt p_.Rules p1) amount coins hops hour open_ 
    rw [← hx5] at hcx4
    refine callC_give hcx4 (clQA (And.intro ha1 he3)) (clQA (And.intro ha1 he3)) (fun hw6 => ?_)
    replace hw6 := nzQ hw6
    refine spQA (And.intro ha1 he3) ?_
    refine condC_intro (fun h7 => ?_) (fun h7 => ?_)
    · rw [if_pos h7] at hM
      refine spQA (And.intro ha1 (And.intro he3 h7)) ?_
      have nh7 := nzQ h7
      subst hM
      exact retC_view (lfQA (And.intro ha1 (And.intro he3 (And.intro h2 h7))))
    · rw [if_neg (ne_true h7)] at hM
      refine spQA (And.intro ha1 (And.intro he3 h7)) ?_
      have nh7 := nzQ h7
      refine lp_intro (n1 - 1) (⟨[(1, .int .i64 amount), (2, .int .i64 coins), (3, .int .i64 hops), (4, .int .i64 hour), (5, .int .i64 open_), (6, .ptr 0 0), (13, .int .i64 (p1 + 1))], [(0, .var 1 true (.agg [.sl none 3 true (p_.Rules.map e_api_Rule)]))], 1⟩ : St) (by omega) sbQ sbQ ⟨(p1 + 1), rfl, ⟨omQ, omQ⟩, omQ, iter_again hM hag1⟩
  · rw [if_neg (ne_true h2)] at hM
    refine spQA (And.intro ha1 h2) ?_
    have nh2 := nzQ h2
    subst hM
    exact retC_view (lfQA (And.intro ha1 h2))
set_option maxHeartbeats 2000000 in
set_option maxRecDepth 100000 in
theorem specieref46_Limit_ok  (p_ : S_api_Policy) (hour : Int) (open_ : Int)  : CallOk En 35 [.agg [.sl none 3 true (p_.Rules.map e_api_Rule)], .int .i64 hour, .int .i64 open_] (.tup [.int .i64 (specieref46_Limit p_ hour open_).1, .bool (specieref46_Limit p_ hour open_).2]) [] := by
  generalize hM : specieref46_Limit p_ hour open_ = r
  rw [specieref46_Limit.eq_1] at hM
  refine enterV En_ok En_mo [10] Try.func35 rfl Try.ntmps35 (by kernel_rfl) fun hw => ct_start ?_
  refine spQ ?_
  replace hw := nzQ hw
  have hM0 := hM; clear hM; obtain ⟨x1, hx2, hM⟩ := letk_opn hM0; clear hM0
  have hcx1 := specieref46_First_ok  p_ 0 0 0 hour open_ 
  rw [← hx2] at hcx1
  refine callC_give hcx1 clQ clQ (fun hw3 => ?_)
  replace hw3 := nzQ hw3
  refine spQ ?_
  refine condC_intro (fun h4 => ?_) (fun h4 => ?_)
  · rw [if_pos h4] at hM
    refine spQA h4 ?_
    have nh4 := nzQ h4
    subst hM
    exact retC_view (lfQA h4)
  · rw [if_neg (ne_true h4)] at hM
    refine spQA h4 ?_
    have nh4 := nzQ h4
    have hM0 := hM; clear hM; obtain ⟨f5, d5, hf5, hd5, hM⟩ := iter_opn hM0; clear hM0
    refine ct_loop (fun n S => ∃ p : Int × Int, S = (⟨[(2, .int .i64 open_), (3, .ptr 0 0), (8, .int .i64 p.1), (9, .int .i64 p.2)], [(0, .var 1 true (.agg [.sl none 3 true (p_.Rules.map e_api_Rule)]))], 1⟩ : St) ∧ ((0 ≤ p.2) ∧ (p.2 ≤ (p_.Rules.length : Int))) ∧ ((p_.Rules.length : Int) - p.2).toNat < n ∧ iter n f5 d5 p = r) (((p_.Rules.length : Int) - 0).toNat + 1) (⟨[(2, .int .i64 open_), (3, .ptr 0 0), (8, .int .i64 1099511627776), (9, .int .i64 0)], [(0, .var 1 true (.agg [.sl none 3 true (p_.Rules.map e_api_Rule)]))], 1⟩ : St) sbQ sbQ ⟨(1099511627776, 0), rfl, ⟨omQ, omQ⟩, (Nat.lt_succ_self _), hM⟩ ?_
    clear hM
    rintro n5 S ⟨p5, rfl, hfa5, hm5, hM⟩
    have hM0 := hM; clear hM; obtain ⟨ag5, hag5, hM⟩ := iter_step hM0 (by omega) hf5; clear hM0
    replace hfa5 := nzQ hfa5
    replace hm5 := nzQ hm5
    have ha5 : addI .i64 p5.2 1 = p5.2 + 1 := add_one omQ omQ
    refine spQA ha5 ?_
    refine condC_intro (fun h6 => ?_) (fun h6 => ?_)
    · rw [if_pos h6] at hM
      refine spQA (And.intro ha5 h6) ?_
      have nh6 := nzQ h6
      refine bindC_intro omQ ?_
      have he7 := fun d => elt_mp (l := p_.Rules) (f := e_api_Rule) (i := p5.2) omQ d
      refine spQA (And.intro ha5 he7) ?_
      have hM0 := hM; clear hM; obtain ⟨j8, hj8, hM⟩ := letj_opn hM0; clear hM0
      refine seqC_intro (fun S => ∃ p : Int, S = (⟨[(2, .int .i64 open_), (3, .ptr 0 0), (8, .int .i64 p), (9, .int .i64 p5.2), (10, .ptr 1 0)], [(0, .var 1 true (.agg [.sl none 3 true (p_.Rules.map e_api_Rule)])), (1, .var 3 true (.agg [.int .i64 (gt p_.Rules p5.2).Kind, .int .i64 (gt p_.Rules p5.2).A, .int .i64 (gt p_.Rules p5.2).B]))], 2⟩ : St) ∧ (True) ∧ j8 p = r) ?_ (fun hcut8 => ?_)
      · clear hM
        rintro S ⟨p8, rfl, hfa8, hM⟩
        have hM0 := hM; clear hM; have hM := letj_use hM0 hj8; clear hM0
        refine spQA (And.intro ha5 he7) ?_
        refine guardC_t (fun h9 => ?_) (fun h9 => ?_)
        · rw [if_pos h9] at hM
          refine spQA (And.intro ha5 (And.intro he7 h9)) ?_
          have nh9 := nzQ h9
          refine condC_intro (fun h10 => ?_) (fun h10 => ?_)
          · rw [if_pos h10] at hM
            refine spQA (And.intro ha5 (And.intro he7 h10)) ?_
            have nh10 := nzQ h10
            refine lp_intro (n5 - 1) (⟨[(2, .int .i64 open_), (3, .ptr 0 0), (8, .int .i64 (subI .i64 (gt p_.Rules p5.2).A open_)), (9, .int .i64 (p5.2 + 1))], [(0, .var 1 true (.agg [.sl none 3 true (p_.Rules.map e_api_Rule)]))], 1⟩ : St) (by omega) sbQ sbQ ⟨((subI .i64 (gt p_.Rules p5.2).A open_), (p5.2 + 1)), rfl, ⟨omQ, omQ⟩, omQ, iter_again hM hag5⟩
          · rw [if_neg (ne_true h10)] at hM
            refine spQA (And.intro ha5 (And.intro he7 h10)) ?_
            have nh10 := nzQ h10
            refine lp_intro (n5 - 1) (⟨[(2, .int .i64 open_), (3, .ptr 0 0), (8, .int .i64 p8), (9, .int .i64 (p5.2 + 1))], [(0, .var 1 true (.agg [.sl none 3 true (p_.Rules.map e_api_Rule)]))], 1⟩ : St) (by omega) sbQ sbQ ⟨(p8, (p5.2 + 1)), rfl, ⟨omQ, omQ⟩, omQ, iter_again hM hag5⟩
        · rw [if_neg (ne_true h9)] at hM
          refine spQA (And.intro ha5 (And.intro he7 h9)) ?_
          have nh9 := nzQ h9
          refine lp_intro (n5 - 1) (⟨[(2, .int .i64 open_), (3, .ptr 0 0), (8, .int .i64 p8), (9, .int .i64 (p5.2 + 1))], [(0, .var 1 true (.agg [.sl none 3 true (p_.Rules.map e_api_Rule)]))], 1⟩ : St) (by omega) sbQ sbQ ⟨(p8, (p5.2 + 1)), rfl, ⟨omQ, omQ⟩, omQ, iter_again hM hag5⟩
      · refine spQA (And.intro ha5 he7) ?_
        refine guardC_t (fun h11 => ?_) (fun h11 => ?_)
        · rw [if_pos h11] at hM
          refine spQA (And.intro ha5 (And.intro he7 h11)) ?_
          have nh11 := nzQ h11
          refine condC_intro (fun h12 => ?_) (fun h12 => ?_)
          · rw [if_pos h12] at hM
            refine spQA (And.intro ha5 (And.intro he7 h12)) ?_
            have nh12 := nzQ h12
            exact cut_intro (⟨[(2, .int .i64 open_), (3, .ptr 0 0), (8, .int .i64 (gt p_.Rules p5.2).A), (9, .int .i64 p5.2), (10, .ptr 1 0)], [(0, .var 1 true (.agg [.sl none 3 true (p_.Rules.map e_api_Rule)])), (1, .var 3 true (.agg [.int .i64 (gt p_.Rules p5.2).Kind, .int .i64 (gt p_.Rules p5.2).A, .int .i64 (gt p_.Rules p5.2).B]))], 2⟩ : St) sbQ sbQ (hcut8 _ ⟨(gt p_.Rules p5.2).A, rfl, trivial, hM⟩)
          · rw [if_neg (ne_true h12)] at hM
            refine spQA (And.intro ha5 (And.intro he7 h12)) ?_
            have nh12 := nzQ h12
            exact cut_intro (⟨[(2, .int .i64 open_), (3, .ptr 0 0), (8, .int .i64 p5.1), (9, .int .i64 p5.2), (10, .ptr 1 0)], [(0, .var 1 true (.agg [.sl none 3 true (p_.Rules.map e_api_Rule)])), (1, .var 3 true (.agg [.int .i64 (gt p_.Rules p5.2).Kind, .int .i64 (gt p_.Rules p5.2).A, .int .i64 (gt p_.Rules p5.2).B]))], 2⟩ : St) sbQ sbQ (hcut8 _ ⟨p5.1, rfl, trivial, hM⟩)
        · rw [if_neg (ne_true h11)] at hM
          refine spQA (And.intro ha5 (And.intro he7 h11)) ?_
          have nh11 := nzQ h11
          exact cut_intro (⟨[(2, .int .i64 open_), (3, .ptr 0 0), (8, .int .i64 p5.1), (9, .int .i64 p5.2), (10, .ptr 1 0)], [(0, .var 1 true (.agg [.sl none 3 true (p_.Rules.map e_api_Rule)])), (1, .var 3 true (.agg [.int .i64 (gt p_.Rules p5.2).Kind, .int .i64 (gt p_.Rules p5.2).A, .int .i64 (gt p_.Rules p5.2).B]))], 2⟩ : St) sbQ sbQ (hcut8 _ ⟨p5.1, rfl, trivial, hM⟩)
    · rw [if_neg (ne_true h6)] at hM
      refine spQA (And.intro ha5 h6) ?_
      have nh6 := nzQ h6
      subst hM
      exact retC_view (lfQA (And.intro ha5 (And.intro h4 h6)))
set_option maxHeartbeats 2000000 in
set_option maxRecDepth 100000 in
theorem specieref47_Copy_ok  (m : S_api_Merchant)  : CallOk En 15 [.agg (.int .u8 (gt m.Name 0) :: .int .u8 (gt m.Name 1) :: .int .u8 (gt m.Name 2) :: .int .u8 (gt m.Name 3) :: .int .u8 (gt m.Name 4) :: .int .u8 (gt m.Name 5) :: .int .u8 (gt m.Name 6) :: .int .u8 (gt m.Name 7) :: .int .u8 (gt m.Name 8) :: .int .u8 (gt m.Name 9) :: .int .u8 (gt m.Name 10) :: .int .u8 (gt m.Name 11) :: .int .u8 (gt m.Name 12) :: .int .u8 (gt m.Name 13) :: .int .u8 (gt m.Name 14) :: .int .u8 (gt m.Name 15) :: .int .u8 (gt m.Name 16) :: .int .u8 (gt m.Name 17) :: .int .u8 (gt m.Name 18) :: .int .u8 (gt m.Name 19) :: .int .u8 (gt m.Name 20) :: .int .u8 (gt m.Name 21) :: .int .u8 (gt m.Name 22) :: .int .u8 (gt m.Name 23) :: .int .u8 (gt m.Name 24) :: .int .u8 (gt m.Name 25) :: .int .u8 (gt m.Name 26) :: .int .u8 (gt m.Name 27) :: .int .u8 (gt m.Name 28) :: .int .u8 (gt m.Name 29) :: .int .u8 (gt m.Name 30) :: .int .u8 (gt m.Name 31) :: .sl none 3 true (m.Policy.Rules.map e_api_Rule) :: .sl none 35 true (m.Open.map e_api_Invoice) :: .int .i64 m.Next :: .sl none 4 true (m.Queue.map e_api_Payment) :: .sl none 35 true (m.Paid.map e_api_Invoice) :: .int .i64 m.Total :: .sl none 1 false (m.Blocked.map (V.int .i64)) :: .int .i64 m.Now :: [])] (.agg (.int .u8 (gt (specieref47_Copy m).Name 0) :: .int .u8 (gt (specieref47_Copy m).Name 1) :: .int .u8 (gt (specieref47_Copy m).Name 2) :: .int .u8 (gt (specieref47_Copy m).Name 3) :: .int .u8 (gt (specieref47_Copy m).Name 4) :: .int .u8 (gt (specieref47_Copy m).Name 5) :: .int .u8 (gt (specieref47_Copy m).Name 6) :: .int .u8 (gt (specieref47_Copy m).Name 7) :: .int .u8 (gt (specieref47_Copy m).Name 8) :: .int .u8 (gt (specieref47_Copy m).Name 9) :: .int .u8 (gt (specieref47_Copy m).Name 10) :: .int .u8 (gt (specieref47_Copy m).Name 11) :: .int .u8 (gt (specieref47_Copy m).Name 12) :: .int .u8 (gt (specieref47_Copy m).Name 13) :: .int .u8 (gt (specieref47_Copy m).Name 14) :: .int .u8 (gt (specieref47_Copy m).Name 15) :: .int .u8 (gt (specieref47_Copy m).Name 16) :: .int .u8 (gt (specieref47_Copy m).Name 17) :: .int .u8 (gt (specieref47_Copy m).Name 18) :: .int .u8 (gt (specieref47_Copy m).Name 19) :: .int .u8 (gt (specieref47_Copy m).Name 20) :: .int .u8 (gt (specieref47_Copy m).Name 21) :: .int .u8 (gt (specieref47_Copy m).Name 22) :: .int .u8 (gt (specieref47_Copy m).Name 23) :: .int .u8 (gt (specieref47_Copy m).Name 24) :: .int .u8 (gt (specieref47_Copy m).Name 25) :: .int .u8 (gt (specieref47_Copy m).Name 26) :: .int .u8 (gt (specieref47_Copy m).Name 27) :: .int .u8 (gt (specieref47_Copy m).Name 28) :: .int .u8 (gt (specieref47_Copy m).Name 29) :: .int .u8 (gt (specieref47_Copy m).Name 30) :: .int .u8 (gt (specieref47_Copy m).Name 31) :: .sl none 3 true ((specieref47_Copy m).Policy.Rules.map e_api_Rule) :: .own 0 :: .int .i64 (specieref47_Copy m).Next :: .sl none 4 true ((specieref47_Copy m).Queue.map e_api_Payment) :: .sl none 35 true ((specieref47_Copy m).Paid.map e_api_Invoice) :: .int .i64 (specieref47_Copy m).Total :: .sl none 1 false ((specieref47_Copy m).Blocked.map (V.int .i64)) :: .int .i64 (specieref47_Copy m).Now :: [])) [.own 35 35 true none ((specieref47_Copy m).Open.map e_api_Invoice)] := by
  generalize hM : specieref47_Copy m = r
  rw [specieref47_Copy.eq_1] at hM
  refine enterV En_ok En_mo noJ Try.func15 rfl Try.ntmps15 (by kernel_rfl) fun hw => ct_start ?_
  refine spQ ?_
  replace hw := nzQ hw
  refine bindC_intro omQ ?_
  refine spQ ?_
  refine bindC_intro omQ ?_
  refine spQ ?_
  refine bindC_intro omQ ?_
  refine spQ ?_
  refine bindC_intro omQ ?_
  refine spQ ?_
  subst hM
  exact retC_owns [2] (bs := [.own 35 35 true (zApp (m.Open.map e_api_Invoice)) ((([] : List S_api_Invoice) ++ m.Open).map e_api_Invoice)]) clQ (by decide) lfQ
set_option maxHeartbeats 2000000 in
set_option maxRecDepth 100000 in
theorem specieref47_Ask_ok  (m : S_api_Merchant) (amount : Int)  : CallOk En 13 [.agg (.int .u8 (gt m.Name 0) :: .int .u8 (gt m.Name 1) :: .int .u8 (gt m.Name 2) :: .int .u8 (gt m.Name 3) :: .int .u8 (gt m.Name 4) :: .int .u8 (gt m.Name 5) :: .int .u8 (gt m.Name 6) :: .int .u8 (gt m.Name 7) :: .int .u8 (gt m.Name 8) :: .int .u8 (gt m.Name 9) :: .int .u8 (gt m.Name 10) :: .int .u8 (gt m.Name 11) :: .int .u8 (gt m.Name 12) :: .int .u8 (gt m.Name 13) :: .int .u8 (gt m.Name 14) :: .int .u8 (gt m.Name 15) :: .int .u8 (gt m.Name 16) :: .int .u8 (gt m.Name 17) :: .int .u8 (gt m.Name 18) :: .int .u8 (gt m.Name 19) :: .int .u8 (gt m.Name 20) :: .int .u8 (gt m.Name 21) :: .int .u8 (gt m.Name 22) :: .int .u8 (gt m.Name 23) :: .int .u8 (gt m.Name 24) :: .int .u8 (gt m.Name 25) :: .int .u8 (gt m.Name 26) :: .int .u8 (gt m.Name 27) :: .int .u8 (gt m.Name 28) :: .int .u8 (gt m.Name 29) :: .int .u8 (gt m.Name 30) :: .int .u8 (gt m.Name 31) :: .sl none 3 true (m.Policy.Rules.map e_api_Rule) :: .sl none 35 true (m.Open.map e_api_Invoice) :: .int .i64 m.Next :: .sl none 4 true (m.Queue.map e_api_Payment) :: .sl none 35 true (m.Paid.map e_api_Invoice) :: .int .i64 m.Total :: .sl none 1 false (m.Blocked.map (V.int .i64)) :: .int .i64 m.Now :: []), .int .i64 amount] (.tup [.agg (.int .u8 (gt (specieref47_Ask m amount).1.Name 0) :: .int .u8 (gt (specieref47_Ask m amount).1.Name 1) :: .int .u8 (gt (specieref47_Ask m amount).1.Name 2) :: .int .u8 (gt (specieref47_Ask m amount).1.Name 3) :: .int .u8 (gt (specieref47_Ask m amount).1.Name 4) :: .int .u8 (gt (specieref47_Ask m amount).1.Name 5) :: .int .u8 (gt (specieref47_Ask m amount).1.Name 6) :: .int .u8 (gt (specieref47_Ask m amount).1.Name 7) :: .int .u8 (gt (specieref47_Ask m amount).1.Name 8) :: .int .u8 (gt (specieref47_Ask m amount).1.Name 9) :: .int .u8 (gt (specieref47_Ask m amount).1.Name 10) :: .int .u8 (gt (specieref47_Ask m amount).1.Name 11) :: .int .u8 (gt (specieref47_Ask m amount).1.Name 12) :: .int .u8 (gt (specieref47_Ask m amount).1.Name 13) :: .int .u8 (gt (specieref47_Ask m amount).1.Name 14) :: .int .u8 (gt (specieref47_Ask m amount).1.Name 15) :: .int .u8 (gt (specieref47_Ask m amount).1.Name 16) :: .int .u8 (gt (specieref47_Ask m amount).1.Name 17) :: .int .u8 (gt (specieref47_Ask m amount).1.Name 18) :: .int .u8 (gt (specieref47_Ask m amount).1.Name 19) :: .int .u8 (gt (specieref47_Ask m amount).1.Name 20) :: .int .u8 (gt (specieref47_Ask m amount).1.Name 21) :: .int .u8 (gt (specieref47_Ask m amount).1.Name 22) :: .int .u8 (gt (specieref47_Ask m amount).1.Name 23) :: .int .u8 (gt (specieref47_Ask m amount).1.Name 24) :: .int .u8 (gt (specieref47_Ask m amount).1.Name 25) :: .int .u8 (gt (specieref47_Ask m amount).1.Name 26) :: .int .u8 (gt (specieref47_Ask m amount).1.Name 27) :: .int .u8 (gt (specieref47_Ask m amount).1.Name 28) :: .int .u8 (gt (specieref47_Ask m amount).1.Name 29) :: .int .u8 (gt (specieref47_Ask m amount).1.Name 30) :: .int .u8 (gt (specieref47_Ask m amount).1.Name 31) :: .sl none 3 true ((specieref47_Ask m amount).1.Policy.Rules.map e_api_Rule) :: .sl none 35 true ((specieref47_Ask m amount).1.Open.map e_api_Invoice) :: .int .i64 (specieref47_Ask m amount).1.Next :: .sl none 4 true ((specieref47_Ask m amount).1.Queue.map e_api_Payment) :: .sl none 35 true ((specieref47_Ask m amount).1.Paid.map e_api_Invoice) :: .int .i64 (specieref47_Ask m amount).1.Total :: .sl none 1 false ((specieref47_Ask m amount).1.Blocked.map (V.int .i64)) :: .int .i64 (specieref47_Ask m amount).1.Now :: []), .agg (.int .u8 (gt (specieref47_Ask m amount).2.1.Payee 0) :: .int .u8 (gt (specieref47_Ask m amount).2.1.Payee 1) :: .int .u8 (gt (specieref47_Ask m amount).2.1.Payee 2) :: .int .u8 (gt (specieref47_Ask m amount).2.1.Payee 3) :: .int .u8 (gt (specieref47_Ask m amount).2.1.Payee 4) :: .int .u8 (gt (specieref47_Ask m amount).2.1.Payee 5) :: .int .u8 (gt (specieref47_Ask m amount).2.1.Payee 6) :: .int .u8 (gt (specieref47_Ask m amount).2.1.Payee 7) :: .int .u8 (gt (specieref47_Ask m amount).2.1.Payee 8) :: .int .u8 (gt (specieref47_Ask m amount).2.1.Payee 9) :: .int .u8 (gt (specieref47_Ask m amount).2.1.Payee 10) :: .int .u8 (gt (specieref47_Ask m amount).2.1.Payee 11) :: .int .u8 (gt (specieref47_Ask m amount).2.1.Payee 12) :: .int .u8 (gt (specieref47_Ask m amount).2.1.Payee 13) :: .int .u8 (gt (specieref47_Ask m amount).2.1.Payee 14) :: .int .u8 (gt (specieref47_Ask m amount).2.1.Payee 15) :: .int .u8 (gt (specieref47_Ask m amount).2.1.Payee 16) :: .int .u8 (gt (specieref47_Ask m amount).2.1.Payee 17) :: .int .u8 (gt (specieref47_Ask m amount).2.1.Payee 18) :: .int .u8 (gt (specieref47_Ask m amount).2.1.Payee 19) :: .int .u8 (gt (specieref47_Ask m amount).2.1.Payee 20) :: .int .u8 (gt (specieref47_Ask m amount).2.1.Payee 21) :: .int .u8 (gt (specieref47_Ask m amount).2.1.Payee 22) :: .int .u8 (gt (specieref47_Ask m amount).2.1.Payee 23) :: .int .u8 (gt (specieref47_Ask m amount).2.1.Payee 24) :: .int .u8 (gt (specieref47_Ask m amount).2.1.Payee 25) :: .int .u8 (gt (specieref47_Ask m amount).2.1.Payee 26) :: .int .u8 (gt (specieref47_Ask m amount).2.1.Payee 27) :: .int .u8 (gt (specieref47_Ask m amount).2.1.Payee 28) :: .int .u8 (gt (specieref47_Ask m amount).2.1.Payee 29) :: .int .u8 (gt (specieref47_Ask m amount).2.1.Payee 30) :: .int .u8 (gt (specieref47_Ask m amount).2.1.Payee 31) :: .int .i64 (specieref47_Ask m amount).2.1.Amount :: .int .i64 (specieref47_Ask m amount).2.1.Time :: .int .i64 (specieref47_Ask m amount).2.1.Number :: []), .int .i64 (specieref47_Ask m amount).2.2]) [] := by
  generalize hM : specieref47_Ask m amount = r
  rw [specieref47_Ask.eq_1] at hM
  refine enterV En_ok En_mo noJ Try.func13 rfl Try.ntmps13 (by kernel_rfl) fun hw => ct_start ?_
  refine spQ ?_
  replace hw := nzQ hw
  refine guardC_f (fun h1 => ?_) (fun h1 => ?_)
  · rw [if_neg (ne_true h1)] at hM
    refine spQA h1 ?_
    have nh1 := nzQ h1
    refine condC_intro (fun h2 => ?_) (fun h2 => ?_)
    · rw [if_pos h2] at hM
      refine spQA h2 ?_
      have nh2 := nzQ h2
      subst hM
      exact retC_view (lfQA (And.intro h1 h2))
    · rw [if_neg (ne_true h2)] at hM
      refine spQA h2 ?_
      have nh2 := nzQ h2
      refine ct_draw 72 12 [7, 19, 20, 21, 22, 23, 24, 25, 26, 27, 28, 29] [] ([[], [0], [], [2], [2, 3], [], [5], [0, 1, 2, 3, 4, 5, 6], [0, 1, 2, 3, 4, 5, 6, 7], [0, 1, 2, 3, 4, 5, 6, 7, 8], [0, 1, 2, 3, 4, 5, 6, 7, 8], [0, 1, 2, 3, 4, 5, 6, 7, 8, 9]] ++ [List.range 12]) [] (by kernel_rfl) (by exact alQ) ?_
      refine spQ ?_
      have hM0 := hM; clear hM; obtain ⟨x3, hx4, hM⟩ := letk_opn hM0; clear hM0
      have hcx3 := specieref47_Hour_ok  (m.Now) 
      rw [← hx4] at hcx3
      refine hcallC_give hcx3 clQ clQ ?_
      refine spQ ?_
      have hM0 := hM; clear hM; obtain ⟨x5, hx6, hM⟩ := letk_opn hM0; clear hM0
      have hcx5 := specieref46_Limit_ok  (m.Policy) x3 (m.Total) 
      rw [← hx6] at hcx5
      refine hcallC_give hcx5 clQ clQ ?_
      refine spQ ?_
      refine guardC_f (fun h7 => ?_) (fun h7 => ?_)
      · rw [if_neg (ne_true h7)] at hM
        refine spQA h7 ?_
        have nh7 := nzQ h7
        refine condC_intro (fun h8 => ?_) (fun h8 => ?_)
        · rw [if_pos h8] at hM
          refine spQA h8 ?_
          have nh8 := nzQ h8
          subst hM
          exact retC_view (lfQA (And.intro h1 (And.intro h2 (And.intro h7 h8))))
        · rw [if_neg (ne_true h8)] at hM
          refine spQA h8 ?_
          have nh8 := nzQ h8
          refine guardC_f (fun h9 => ?_) (fun h9 => ?_)
          · rw [if_neg (ne_true h9)] at hM
            refine spQA h9 ?_
            have nh9 := nzQ h9
            refine condC_intro (fun h10 => ?_) (fun h10 => ?_)
            · rw [if_pos h10] at hM
              refine spQA h10 ?_
              have nh10 := nzQ h10
              subst hM
              exact retC_view (lfQA (And.intro h1 (And.intro h2 (And.intro h7 (And.intro h8 (And.intro h9 h10))))))
            · rw [if_neg (ne_true h10)] at hM
              refine spQA h10 ?_
              have nh10 := nzQ h10
              have hM0 := hM; clear hM; obtain ⟨x11, hx12, hM⟩ := letk_opn hM0; clear hM0
              have hcx11 := specieref47_Copy_ok  m 
              rw [← hx12] at hcx11
              refine callC_give hcx11 clQ clQ (fun hw13 => ?_)
              replace hw13 := nzQ hw13
              refine spQ ?_
              have hq14 : x11.Open.length = m.Open.length := by rw [hx12]; rfl
              refine bindC_intro omQ ?_
              refine spQ ?_
              refine ct_draw 72 3 [70, 71] [] ([[], [], [0]] ++ [List.range 3, List.range 4]) [(2, 1)] (by kernel_rfl) (by exact alQ) ?_
              refine spQ ?_
              subst hM
              exact retC_view (lfQA (And.intro h1 (And.intro h2 (And.intro h7 (And.intro h8 (And.intro h9 h10))))))
          · rw [if_pos h9] at hM
            refine spQA h9 ?_
            have nh9 := nzQ h9
            subst hM
            exact retC_view (lfQA (And.intro h1 (And.intro h2 (And.intro h7 (And.intro h8 h9)))))
      · rw [if_pos h7] at hM
        refine spQA h7 ?_
        have nh7 := nzQ h7
        subst hM
        exact retC_view (lfQA (And.intro h1 (And.intro h2 h7)))
  · rw [if_pos h1] at hM
    refine spQA h1 ?_
    have nh1 := nzQ h1
    subst hM
    exact retC_view (lfQA h1)
set_option maxHeartbeats 2000000 in
set_option maxRecDepth 100000 in
theorem specielaw47_MerchantAsks_ok  (m : S_api_Merchant) (amount : Int)  : CallOk En 3 [.agg (.int .u8 (gt m.Name 0) :: .int .u8 (gt m.Name 1) :: .int .u8 (gt m.Name 2) :: .int .u8 (gt m.Name 3) :: .int .u8 (gt m.Name 4) :: .int .u8 (gt m.Name 5) :: .int .u8 (gt m.Name 6) :: .int .u8 (gt m.Name 7) :: .int .u8 (gt m.Name 8) :: .int .u8 (gt m.Name 9) :: .int .u8 (gt m.Name 10) :: .int .u8 (gt m.Name 11) :: .int .u8 (gt m.Name 12) :: .int .u8 (gt m.Name 13) :: .int .u8 (gt m.Name 14) :: .int .u8 (gt m.Name 15) :: .int .u8 (gt m.Name 16) :: .int .u8 (gt m.Name 17) :: .int .u8 (gt m.Name 18) :: .int .u8 (gt m.Name 19) :: .int .u8 (gt m.Name 20) :: .int .u8 (gt m.Name 21) :: .int .u8 (gt m.Name 22) :: .int .u8 (gt m.Name 23) :: .int .u8 (gt m.Name 24) :: .int .u8 (gt m.Name 25) :: .int .u8 (gt m.Name 26) :: .int .u8 (gt m.Name 27) :: .int .u8 (gt m.Name 28) :: .int .u8 (gt m.Name 29) :: .int .u8 (gt m.Name 30) :: .int .u8 (gt m.Name 31) :: .sl none 3 true (m.Policy.Rules.map e_api_Rule) :: .sl none 35 true (m.Open.map e_api_Invoice) :: .int .i64 m.Next :: .sl none 4 true (m.Queue.map e_api_Payment) :: .sl none 35 true (m.Paid.map e_api_Invoice) :: .int .i64 m.Total :: .sl none 1 false (m.Blocked.map (V.int .i64)) :: .int .i64 m.Now :: []), .int .i64 amount] (.bool (specielaw47_MerchantAsks m amount)) [] := by
  generalize hM : specielaw47_MerchantAsks m amount = r
  rw [specielaw47_MerchantAsks.eq_1] at hM
  refine enterV En_ok En_mo noJ Try.func3 rfl Try.ntmps3 (by kernel_rfl) fun hw => ct_start ?_
  refine spQ ?_
  replace hw := nzQ hw
  have hM0 := hM; clear hM; obtain ⟨x1, hx2, hM⟩ := letk_opn hM0; clear hM0
  have hcx1 := specielaw47_awake_ok   
  rw [← hx2] at hcx1
  refine callC_give hcx1 clQ clQ (fun hw3 => ?_)
  replace hw3 := nzQ hw3
  refine spQ ?_
  refine guardC_f (fun h4 => ?_) (fun h4 => ?_)
  · rw [if_neg (ne_true h4)] at hM
    refine spQA h4 ?_
    have nh4 := nzQ h4
    have hM0 := hM; clear hM; obtain ⟨x5, hx6, hM⟩ := letk_opn hM0; clear hM0
    have hcx5 := specielaw47_few_ok  m 
    rw [← hx6] at hcx5
    refine callC_give hcx5 clQ clQ (fun hw7 => ?_)
    replace hw7 := nzQ hw7
    refine spQ ?_
    refine condC_intro (fun h8 => ?_) (fun h8 => ?_)
    · rw [if_pos h8] at hM
      refine spQA h8 ?_
      have nh8 := nzQ h8
      have hM0 := hM; clear hM; obtain ⟨x9, hx10, hM⟩ := letk_opn hM0; clear hM0
      have hcx9 := specielaw47_awake_ok   
      rw [← hx10] at hcx9
      refine callC_give hcx9 clQ clQ (fun hw11 => ?_)
      replace hw11 := nzQ hw11
      refine spQ ?_
      subst hM
      exact retC_view (lfQA (And.intro h4 h8))
    · rw [if_neg (ne_true h8)] at hM
      refine spQA h8 ?_
      have nh8 := nzQ h8
      have hM0 := hM; clear hM; obtain ⟨x12, hx13, hM⟩ := letk_opn hM0; clear hM0
      have hcx12 := merchant_Ask_ok  m amount 
      rw [← hx13] at hcx12
      refine callC_give hcx12 clQ clQ (fun hw14 => ?_)
      replace hw14 := nzQ hw14
      refine spQ ?_
      have hM0 := hM; clear hM; obtain ⟨x15, hx16, hM⟩ := letk_opn hM0; clear hM0
      have hcx15 := merchant_Deposit_ok  m 
      rw [← hx16] at hcx15
      refine callC_give hcx15 clQ clQ (fun hw17 => ?_)
      replace hw17 := nzQ hw17
      refine spQ ?_
      have hM0 := hM; clear hM; obtain ⟨x18, hx19, hM⟩ := letk_opn hM0; clear hM0
      have hcx18 := specieref47_Valid_ok  m 
      rw [← hx19] at hcx18
      refine callC_give hcx18 clQ clQ (fun hw20 => ?_)
      replace hw20 := nzQ hw20
      refine spQ ?_
      refine condC_intro (fun h21 => ?_) (fun h21 => ?_)
      · rw [if_pos h21] at hM
        refine spQA h21 ?_
        have nh21 := nzQ h21
        have hM0 := hM; clear hM; obtain ⟨x22, hx23, hM⟩ := letk_opn hM0; clear hM0
        have hcx22 := specielaw47_none_ok  (x12.1) (by (have hf := few_ok (hx6.symm.trans nh8); first | exact okP_zero | exact okQ_nil | (rw [hx13]; exact okQ_Ask hf) | (rw [hx16]; exact okQ_Deposit hf) | (rw [hx16]; exact okP_Deposit hf) | (rw [hx38]; exact okQ_refAsk hf) | (rw [hx57]; exact okQ_sl hf _ _) | exact okQ_at hf (by omega)))
        rw [← hx23] at hcx22
        refine callC_give hcx22 clQ clQ (fun hw24 => ?_)
        replace hw24 := nzQ hw24
        refine spQ ?_
        refine guardC_t (fun h25 => ?_) (fun h25 => ?_)
        · subst h25
          rw [if_pos rfl] at hM
          refine spQ ?_
          refine guardC_t (fun h26 => ?_) (fun h26 => ?_)
          · have kh26 : (q_api_Invoice (x12.2.1) z_api_Invoice) = true := h26
            rw [if_pos kh26] at hM
            refine spQA h26 ?_
            have nh26 := nzQ kh26
            refine guardC_t (fun h27 => ?_) (fun h27 => ?_)
            · rw [if_pos h27] at hM
              refine spQA h27 ?_
              have nh27 := nzQ h27
              have hM0 := hM; clear hM; obtain ⟨x28, hx29, hM⟩ := letk_opn hM0; clear hM0
              have hcx28 := specielaw47_none_ok  (x15.1) (by (have hf := few_ok (hx6.symm.trans nh8); first | exact okP_zero | exact okQ_nil | (rw [hx13]; exact okQ_Ask hf) | (rw [hx16]; exact okQ_Deposit hf) | (rw [hx16]; exact okP_Deposit hf) | (rw [hx38]; exact okQ_refAsk hf) | (rw [hx57]; exact okQ_sl hf _ _) | exact okQ_at hf (by omega)))
              rw [← hx29] at hcx28
              refine callC_give hcx28 clQ clQ (fun hw30 => ?_)
              replace hw30 := nzQ hw30
              refine spQ ?_
              refine guardC_t (fun h31 => ?_) (fun h31 => ?_)
              · subst h31
                rw [if_pos rfl] at hM
                refine spQ ?_
                refine guardC_t (fun h32 => ?_) (fun h32 => ?_)
                · have kh32 : (q_api_Invoice (x15.2.1) z_api_Invoice) = true := h32
                  rw [if_pos kh32] at hM
                  refine spQA h32 ?_
                  have nh32 := nzQ kh32
                  have hM0 := hM; clear hM; obtain ⟨x33, hx34, hM⟩ := letk_opn hM0; clear hM0
                  have hcx33 := specieref38_Same_ok  (x15.2.2.1) z_api_Payment (by (have hf := few_ok (hx6.symm.trans nh8); first | exact okP_zero | exact okQ_nil | (rw [hx13]; exact okQ_Ask hf) | (rw [hx16]; exact okQ_Deposit hf) | (rw [hx16]; exact okP_Deposit hf) | (rw [hx38]; exact okQ_refAsk hf) | (rw [hx57]; exact okQ_sl hf _ _) | exact okQ_at hf (by omega))) (by (have hf := few_ok (hx6.symm.trans nh8); first | exact okP_zero | exact okQ_nil | (rw [hx13]; exact okQ_Ask hf) | (rw [hx16]; exact okQ_Deposit hf) | (rw [hx16]; exact okP_Deposit hf) | (rw [hx38]; exact okQ_refAsk hf) | (rw [hx57]; exact okQ_sl hf _ _) | exact okQ_at hf (by omega)))
                  rw [← hx34] at hcx33
                  refine callC_give hcx33 clQ clQ (fun hw35 => ?_)
                  replace hw35 := nzQ hw35
                  refine spQ ?_
                  refine guardC_t (fun h36 => ?_) (fun h36 => ?_)
                  · subst h36
                    rw [if_pos rfl] at hM
                    refine spQ ?_
                    subst hM
                    exact retC_view (lfQA (And.intro h4 (And.intro h8 (And.intro h21 (And.intro h26 (And.intro h27 h32))))))
                  · subst h36
                    rw [if_neg (by decide)] at hM
                    refine spQ ?_
                    subst hM
                    exact retC_view (lfQA (And.intro h4 (And.intro h8 (And.intro h21 (And.intro h26 (And.intro h27 h32))))))
                · have kh32 : (q_api_Invoice (x15.2.1) z_api_Invoice) = false := h32
                  rw [if_neg (ne_true kh32)] at hM
                  refine spQA h32 ?_
                  have nh32 := nzQ kh32
                  subst hM
                  exact retC_view (lfQA (And.intro h4 (And.intro h8 (And.intro h21 (And.intro h26 (And.intro h27 h32))))))
              · subst h31
                rw [if_neg (by decide)] at hM
                refine spQ ?_
                subst hM
                exact retC_view (lfQA (And.intro h4 (And.intro h8 (And.intro h21 (And.intro h26 h27)))))
            · rw [if_neg (ne_true h27)] at hM
              refine spQA h27 ?_
              have nh27 := nzQ h27
              subst hM
              exact retC_view (lfQA (And.intro h4 (And.intro h8 (And.intro h21 (And.intro h26 h27)))))
          · have kh26 : (q_api_Invoice (x12.2.1) z_api_Invoice) = false := h26
            rw [if_neg (ne_true kh26)] at hM
            refine spQA h26 ?_
            have nh26 := nzQ kh26
            subst hM
            exact retC_view (lfQA (And.intro h4 (And.intro h8 (And.intro h21 h26))))
        · subst h25
          rw [if_neg (by decide)] at hM
          refine spQ ?_
          subst hM
          exact retC_view (lfQA (And.intro h4 (And.intro h8 h21)))
      · rw [if_neg (ne_true h21)] at hM
        refine spQA h21 ?_
        have nh21 := nzQ h21
        have hM0 := hM; clear hM; obtain ⟨x37, hx38, hM⟩ := letk_opn hM0; clear hM0
        have hcx37 := specieref47_Ask_ok  m amount 
        rw [← hx38] at hcx37
        refine callC_give hcx37 clQ clQ (fun hw39 => ?_)
        replace hw39 := nzQ hw39
        refine spQ ?_
        have hM0 := hM; clear hM; obtain ⟨x40, hx41, hM⟩ := letk_opn hM0; clear hM0
        have hcx40 := specieref47_Same_ok  (x12.1) (x37.1) (by (have hf := few_ok (hx6.symm.trans nh8); first | exact okP_zero | exact okQ_nil | (rw [hx13]; exact okQ_Ask hf) | (rw [hx16]; exact okQ_Deposit hf) | (rw [hx16]; exact okP_Deposit hf) | (rw [hx38]; exact okQ_refAsk hf) | (rw [hx57]; exact okQ_sl hf _ _) | exact okQ_at hf (by omega))) (by (have hf := few_ok (hx6.symm.trans nh8); first | exact okP_zero | exact okQ_nil | (rw [hx13]; exact okQ_Ask hf) | (rw [hx16]; exact okQ_Deposit hf) | (rw [hx16]; exact okP_Deposit hf) | (rw [hx38]; exact okQ_refAsk hf) | (rw [hx57]; exact okQ_sl hf _ _) | exact okQ_at hf (by omega)))
        rw [← hx41] at hcx40
        refine callC_give hcx40 clQ clQ (fun hw42 => ?_)
        replace hw42 := nzQ hw42
        refine spQ ?_
        refine guardC_f (fun h43 => ?_) (fun h43 => ?_)
        · rw [if_neg (ne_true h43)] at hM
          refine spQA h43 ?_
          have nh43 := nzQ h43
          refine guardC_f (fun h44 => ?_) (fun h44 => ?_)
          · have kh44 : (!(q_api_Invoice (x12.2.1) (x37.2.1))) = false := h44
            rw [if_neg (ne_true kh44)] at hM
            refine spQA h44 ?_
            have nh44 := nzQ kh44
            refine condC_intro (fun h45 => ?_) (fun h45 => ?_)
            · rw [if_pos h45] at hM
              refine spQA h45 ?_
              have nh45 := nzQ h45
              subst hM
              exact retC_view (lfQA (And.intro h4 (And.intro h8 (And.intro h21 (And.intro h43 (And.intro h44 h45))))))
            · rw [if_neg (ne_true h45)] at hM
              refine spQA h45 ?_
              have nh45 := nzQ h45
              refine condC_intro (fun h46 => ?_) (fun h46 => ?_)
              · rw [if_pos h46] at hM
                refine spQA h46 ?_
                have nh46 := nzQ h46
                have hM0 := hM; clear hM; obtain ⟨x47, hx48, hM⟩ := letk_opn hM0; clear hM0
                have hcx47 := specielaw47_none_ok  (x15.1) (by (have hf := few_ok (hx6.symm.trans nh8); first | exact okP_zero | exact okQ_nil | (rw [hx13]; exact okQ_Ask hf) | (rw [hx16]; exact okQ_Deposit hf) | (rw [hx16]; exact okP_Deposit hf) | (rw [hx38]; exact okQ_refAsk hf) | (rw [hx57]; exact okQ_sl hf _ _) | exact okQ_at hf (by omega)))
                rw [← hx48] at hcx47
                refine callC_give hcx47 clQ clQ (fun hw49 => ?_)
                replace hw49 := nzQ hw49
                refine spQ ?_
                refine guardC_t (fun h50 => ?_) (fun h50 => ?_)
                · subst h50
                  rw [if_pos rfl] at hM
                  refine spQ ?_
                  refine guardC_t (fun h51 => ?_) (fun h51 => ?_)
                  · have kh51 : (q_api_Invoice (x15.2.1) z_api_Invoice) = true := h51
                    rw [if_pos kh51] at hM
                    refine spQA h51 ?_
                    have nh51 := nzQ kh51
                    have hM0 := hM; clear hM; obtain ⟨x52, hx53, hM⟩ := letk_opn hM0; clear hM0
                    have hcx52 := specieref38_Same_ok  (x15.2.2.1) z_api_Payment (by (have hf := few_ok (hx6.symm.trans nh8); first | exact okP_zero | exact okQ_nil | (rw [hx13]; exact okQ_Ask hf) | (rw [hx16]; exact okQ_Deposit hf) | (rw [hx16]; exact okP_Deposit hf) | (rw [hx38]; exact okQ_refAsk hf) | (rw [hx57]; exact okQ_sl hf _ _) | exact okQ_at hf (by omega))) (by (have hf := few_ok (hx6.symm.trans nh8); first | exact okP_zero | exact okQ_nil | (rw [hx13]; exact okQ_Ask hf) | (rw [hx16]; exact okQ_Deposit hf) | (rw [hx16]; exact okP_Deposit hf) | (rw [hx38]; exact okQ_refAsk hf) | (rw [hx57]; exact okQ_sl hf _ _) | exact okQ_at hf (by omega)))
                    rw [← hx53] at hcx52
                    refine callC_give hcx52 clQ clQ (fun hw54 => ?_)
                    replace hw54 := nzQ hw54
                    refine spQ ?_
                    refine guardC_t (fun h55 => ?_) (fun h55 => ?_)
                    · subst h55
                      rw [if_pos rfl] at hM
                      refine spQ ?_
                      subst hM
                      exact retC_view (lfQA (And.intro h4 (And.intro h8 (And.intro h21 (And.intro h43 (And.intro h44 (And.intro h45 (And.intro h46 h51))))))))
                    · subst h55
                      rw [if_neg (by decide)] at hM
                      refine spQ ?_
                      subst hM
                      exact retC_view (lfQA (And.intro h4 (And.intro h8 (And.intro h21 (And.intro h43 (And.intro h44 (And.intro h45 (And.intro h46 h51))))))))
                  · have kh51 : (q_api_Invoice (x15.2.1) z_api_Invoice) = false := h51
                    rw [if_neg (ne_true kh51)] at hM
                    refine spQA h51 ?_
                    have nh51 := nzQ kh51
                    subst hM
                    exact retC_view (lfQA (And.intro h4 (And.intro h8 (And.intro h21 (And.intro h43 (And.intro h44 (And.intro h45 (And.intro h46 h51))))))))
                · subst h50
                  rw [if_neg (by decide)] at hM
                  refine spQ ?_
                  subst hM
                  exact retC_view (lfQA (And.intro h4 (And.intro h8 (And.intro h21 (And.intro h43 (And.intro h44 (And.intro h45 h46)))))))
              · rw [if_neg (ne_true h46)] at hM
                refine spQA h46 ?_
                have nh46 := nzQ h46
                have hM0 := hM; clear hM; obtain ⟨x56, hx57, hM⟩ := letk_opn hM0; clear hM0
                have hcx56 := specieref47_Copy_ok  m 
                rw [← hx57] at hcx56
                refine callC_give hcx56 clQ clQ (fun hw58 => ?_)
                replace hw58 := nzQ hw58
                refine spQ ?_
                have hq59 : x56.Open.length = m.Open.length ∧ x56.Paid.length = m.Paid.length ∧ x56.Queue.length = m.Queue.length ∧ x56.Blocked.length = m.Blocked.length := by rw [hx57]; exact ⟨rfl, rfl, rfl, rfl⟩
                refine ct_draw 153 8 [113, 114, 115, 116, 117, 118, 119] [] ([[], [0], [0, 1], [], [3], [3, 4], [], [0, 1, 2, 3, 4, 6]] ++ [List.range 8, List.range 9]) [(7, 9)] (by kernel_rfl) (by exact alQ) ?_
                refine spQ ?_
                refine hbindC_intro (by (first | exact omQ | (clear hM; first | (have hv := refValid_len (hx19.symm.trans nh21); exact omQ')))) ?_
                refine spQ ?_
                refine hbindC_intro (by (first | exact omQ | (clear hM; first | (have hv := refValid_len (hx19.symm.trans nh21); exact omQ')))) ?_
                refine spQ ?_
                refine ct_draw 153 7 [121, 122, 123, 124, 125, 126, 127] [] ([[], [0], [], [2], [2, 3], [2, 3, 4], [2, 3, 4, 5]] ++ [List.range 7, List.range 8, List.range 9]) [] (by kernel_rfl) (by exact alQ) ?_
                refine spQ ?_
                refine hbindC_intro (by (first | exact omQ | (clear hM; first | (have hv := refValid_len (hx19.symm.trans nh21); exact omQ')))) ?_
                have he60 : ∀ d, elt (m.Paid.map e_api_Invoice) 0 d = e_api_Invoice (gt m.Paid 0) := fun d => elt_mp (l := m.Paid) (f := e_api_Invoice) (i := 0) (by (first | exact omQ | (clear hM; first | (have hv := refValid_len (hx19.symm.trans nh21); exact omQ')))) d
                refine spQA he60 ?_
                refine ct_draw 153 17 [130, 131, 132, 133, 134, 135, 136, 137, 138, 139, 140, 141, 142, 143, 144, 145, 146] [] ([[], [], [0, 1], [0, 1, 2], [0, 1, 2, 3], [0, 1, 2, 3], [0, 1, 2, 3, 5], [0, 1, 2, 3, 5, 6], [0, 1, 2, 3, 5, 6, 7], [0, 1, 2, 3, 4, 5, 6, 7, 8], [0, 1, 2, 3, 4, 5, 6, 7, 8, 9], [0, 1, 2, 3, 4, 5, 6, 7, 8, 9, 10], [0, 1, 2, 3, 4, 5, 6, 7, 8, 9, 10, 11], [0, 1, 2, 3, 4, 5, 6, 7, 8, 9, 10, 11], [0, 1, 2, 3, 4, 5, 6, 7, 8, 9, 10, 11, 13], [0, 1, 2, 3, 4, 5, 6, 7, 8, 9, 10, 11, 13, 14], [0, 1, 2, 3, 4, 5, 6, 7, 8, 9, 10, 11, 13, 14, 15]] ++ [List.range 17, List.range 18, List.range 19, List.range 20, List.range 21, List.range 22, List.range 23]) [] (by kernel_rfl) (by exact alQ) ?_
                refine spQA he60 ?_
                have hM0 := hM; clear hM; obtain ⟨x61, hx62, hM⟩ := letk_opn hM0; clear hM0
                have hcx61 := specieref47_Same_ok  (x15.1) ({ Name := x56.Name, Policy := x56.Policy, Open := x56.Open, Next := x56.Next, Queue := (sl x56.Queue 1 (x56.Queue.length : Int)), Paid := (sl x56.Paid 1 (x56.Paid.length : Int)), Total := (subI .i64 x56.Total (gt m.Paid 0).Amount), Blocked := x56.Blocked, Now := x56.Now } : S_api_Merchant) (by (have hf := few_ok (hx6.symm.trans nh8); first | exact okP_zero | exact okQ_nil | (rw [hx13]; exact okQ_Ask hf) | (rw [hx16]; exact okQ_Deposit hf) | (rw [hx16]; exact okP_Deposit hf) | (rw [hx38]; exact okQ_refAsk hf) | (rw [hx57]; exact okQ_sl hf _ _) | exact okQ_at hf (by omega))) (by (have hf := few_ok (hx6.symm.trans nh8); first | exact okP_zero | exact okQ_nil | (rw [hx13]; exact okQ_Ask hf) | (rw [hx16]; exact okQ_Deposit hf) | (rw [hx16]; exact okP_Deposit hf) | (rw [hx38]; exact okQ_refAsk hf) | (rw [hx57]; exact okQ_sl hf _ _) | exact okQ_at hf (by omega)))
                rw [← hx62] at hcx61
                refine hcallC_look hcx61 (clQA he60) (clQA he60) ?_
                refine spQA he60 ?_
                refine hguardC_t (fun h63 => ?_) (fun h63 => ?_)
                · subst h63
                  rw [if_pos rfl] at hM
                  refine spQA he60 ?_
                  refine hbindC_intro (by (first | exact omQ | (clear hM; first | (have hv := refValid_len (hx19.symm.trans nh21); exact omQ')))) ?_
                  refine spQA he60 ?_
                  refine hguardC_t (fun h64 => ?_) (fun h64 => ?_)
                  · have kh64 : (q_api_Invoice (x15.2.1) (gt m.Paid 0)) = true := h64
                    rw [if_pos kh64] at hM
                    refine spQA (And.intro he60 h64) ?_
                    have nh64 := nzQ kh64
                    refine hbindC_intro (by (first | exact omQ | (clear hM; first | (have hv := refValid_len (hx19.symm.trans nh21); exact omQ')))) ?_
                    have he65 : ∀ d, elt (m.Queue.map e_api_Payment) 0 d = e_api_Payment (gt m.Queue 0) := fun d => elt_mp (l := m.Queue) (f := e_api_Payment) (i := 0) (by (first | exact omQ | (clear hM; first | (have hv := refValid_len (hx19.symm.trans nh21); exact omQ')))) d
                    refine spQA (And.intro he60 he65) ?_
                    have hM0 := hM; clear hM; obtain ⟨x66, hx67, hM⟩ := letk_opn hM0; clear hM0
                    have hcx66 := specieref38_Same_ok  (x15.2.2.1) (gt m.Queue 0) (by (have hf := few_ok (hx6.symm.trans nh8); first | exact okP_zero | exact okQ_nil | (rw [hx13]; exact okQ_Ask hf) | (rw [hx16]; exact okQ_Deposit hf) | (rw [hx16]; exact okP_Deposit hf) | (rw [hx38]; exact okQ_refAsk hf) | (rw [hx57]; exact okQ_sl hf _ _) | exact okQ_at hf (by omega))) (by (have hf := few_ok (hx6.symm.trans nh8); first | exact okP_zero | exact okQ_nil | (rw [hx13]; exact okQ_Ask hf) | (rw [hx16]; exact okQ_Deposit hf) | (rw [hx16]; exact okP_Deposit hf) | (rw [hx38]; exact okQ_refAsk hf) | (rw [hx57]; exact okQ_sl hf _ _) | exact okQ_at hf (by omega)))
                    rw [← hx67] at hcx66
                    refine callC_give hcx66 (clQA (And.intro he60 he65)) (clQA (And.intro he60 he65)) (fun hw68 => ?_)
                    replace hw68 := nzQ hw68
                    refine spQA (And.intro he60 he65) ?_
                    refine guardC_t (fun h69 => ?_) (fun h69 => ?_)
                    · subst h69
                      rw [if_pos rfl] at hM
                      refine spQA (And.intro he60 he65) ?_
                      subst hM
                      exact retC_view (lfQA (And.intro he60 (And.intro he65 (And.intro h4 (And.intro h8 (And.intro h21 (And.intro h43 (And.intro h44 (And.intro h45 (And.intro h46 h64))))))))))
                    · subst h69
                      rw [if_neg (by decide)] at hM
                      refine spQA (And.intro he60 he65) ?_
                      subst hM
                      exact retC_view (lfQA (And.intro he60 (And.intro he65 (And.intro h4 (And.intro h8 (And.intro h21 (And.intro h43 (And.intro h44 (And.intro h45 (And.intro h46 h64))))))))))
                  · have kh64 : (q_api_Invoice (x15.2.1) (gt m.Paid 0)) = false := h64
                    rw [if_neg (ne_true kh64)] at hM
                    refine spQA (And.intro he60 h64) ?_
                    have nh64 := nzQ kh64
                    subst hM
                    exact retC_view (lfQA (And.intro he60 (And.intro h4 (And.intro h8 (And.intro h21 (And.intro h43 (And.intro h44 (And.intro h45 (And.intro h46 h64)))))))))
                · subst h63
                  rw [if_neg (by decide)] at hM
                  refine spQA he60 ?_
                  subst hM
                  exact retC_view (lfQA (And.intro he60 (And.intro h4 (And.intro h8 (And.intro h21 (And.intro h43 (And.intro h44 (And.intro h45 h46))))))))
          · have kh44 : (!(q_api_Invoice (x12.2.1) (x37.2.1))) = true := h44
            rw [if_pos kh44] at hM
            refine spQA h44 ?_
            have nh44 := nzQ kh44
            subst hM
            exact retC_view (lfQA (And.intro h4 (And.intro h8 (And.intro h21 (And.intro h43 h44)))))
        · rw [if_pos h43] at hM
          refine spQA h43 ?_
          have nh43 := nzQ h43
          subst hM
          exact retC_view (lfQA (And.intro h4 (And.intro h8 (And.intro h21 h43))))
  · rw [if_pos h4] at hM
    refine spQA h4 ?_
    have nh4 := nzQ h4
    have hM0 := hM; clear hM; obtain ⟨x70, hx71, hM⟩ := letk_opn hM0; clear hM0
    have hcx70 := specielaw47_awake_ok   
    rw [← hx71] at hcx70
    refine callC_give hcx70 clQ clQ (fun hw72 => ?_)
    replace hw72 := nzQ hw72
    refine spQ ?_
    subst hM
    exact retC_view (lfQA h4)
set_option maxHeartbeats 2000000 in
set_option maxRecDepth 100000 in
theorem merchant_Go_ok  (m : S_api_Merchant) (now : Int)  : CallOk En 18 [.agg (.int .u8 (gt m.Name 0) :: .int .u8 (gt m.Name 1) :: .int .u8 (gt m.Name 2) :: .int .u8 (gt m.Name 3) :: .int .u8 (gt m.Name 4) :: .int .u8 (gt m.Name 5) :: .int .u8 (gt m.Name 6) :: .int .u8 (gt m.Name 7) :: .int .u8 (gt m.Name 8) :: .int .u8 (gt m.Name 9) :: .int .u8 (gt m.Name 10) :: .int .u8 (gt m.Name 11) :: .int .u8 (gt m.Name 12) :: .int .u8 (gt m.Name 13) :: .int .u8 (gt m.Name 14) :: .int .u8 (gt m.Name 15) :: .int .u8 (gt m.Name 16) :: .int .u8 (gt m.Name 17) :: .int .u8 (gt m.Name 18) :: .int .u8 (gt m.Name 19) :: .int .u8 (gt m.Name 20) :: .int .u8 (gt m.Name 21) :: .int .u8 (gt m.Name 22) :: .int .u8 (gt m.Name 23) :: .int .u8 (gt m.Name 24) :: .int .u8 (gt m.Name 25) :: .int .u8 (gt m.Name 26) :: .int .u8 (gt m.Name 27) :: .int .u8 (gt m.Name 28) :: .int .u8 (gt m.Name 29) :: .int .u8 (gt m.Name 30) :: .int .u8 (gt m.Name 31) :: .sl none 3 true (m.Policy.Rules.map e_api_Rule) :: .sl none 35 true (m.Open.map e_api_Invoice) :: .int .i64 m.Next :: .sl none 4 true (m.Queue.map e_api_Payment) :: .sl none 35 true (m.Paid.map e_api_Invoice) :: .int .i64 m.Total :: .sl none 1 false (m.Blocked.map (V.int .i64)) :: .int .i64 m.Now :: []), .int .i64 now] (.tup [.agg (.int .u8 (gt (merchant_Go m now).1.Name 0) :: .int .u8 (gt (merchant_Go m now).1.Name 1) :: .int .u8 (gt (merchant_Go m now).1.Name 2) :: .int .u8 (gt (merchant_Go m now).1.Name 3) :: .int .u8 (gt (merchant_Go m now).1.Name 4) :: .int .u8 (gt (merchant_Go m now).1.Name 5) :: .int .u8 (gt (merchant_Go m now).1.Name 6) :: .int .u8 (gt (merchant_Go m now).1.Name 7) :: .int .u8 (gt (merchant_Go m now).1.Name 8) :: .int .u8 (gt (merchant_Go m now).1.Name 9) :: .int .u8 (gt (merchant_Go m now).1.Name 10) :: .int .u8 (gt (merchant_Go m now).1.Name 11) :: .int .u8 (gt (merchant_Go m now).1.Name 12) :: .int .u8 (gt (merchant_Go m now).1.Name 13) :: .int .u8 (gt (merchant_Go m now).1.Name 14) :: .int .u8 (gt (merchant_Go m now).1.Name 15) :: .int .u8 (gt (merchant_Go m now).1.Name 16) :: .int .u8 (gt (merchant_Go m now).1.Name 17) :: .int .u8 (gt (merchant_Go m now).1.Name 18) :: .int .u8 (gt (merchant_Go m now).1.Name 19) :: .int .u8 (gt (merchant_Go m now).1.Name 20) :: .int .u8 (gt (merchant_Go m now).1.Name 21) :: .int .u8 (gt (merchant_Go m now).1.Name 22) :: .int .u8 (gt (merchant_Go m now).1.Name 23) :: .int .u8 (gt (merchant_Go m now).1.Name 24) :: .int .u8 (gt (merchant_Go m now).1.Name 25) :: .int .u8 (gt (merchant_Go m now).1.Name 26) :: .int .u8 (gt (merchant_Go m now).1.Name 27) :: .int .u8 (gt (merchant_Go m now).1.Name 28) :: .int .u8 (gt (merchant_Go m now).1.Name 29) :: .int .u8 (gt (merchant_Go m now).1.Name 30) :: .int .u8 (gt (merchant_Go m now).1.Name 31) :: .sl none 3 true ((merchant_Go m now).1.Policy.Rules.map e_api_Rule) :: .sl none 35 true ((merchant_Go m now).1.Open.map e_api_Invoice) :: .int .i64 (merchant_Go m now).1.Next :: .sl none 4 true ((merchant_Go m now).1.Queue.map e_api_Payment) :: .sl none 35 true ((merchant_Go m now).1.Paid.map e_api_Invoice) :: .int .i64 (merchant_Go m now).1.Total :: .sl none 1 false ((merchant_Go m now).1.Blocked.map (V.int .i64)) :: .int .i64 (merchant_Go m now).1.Now :: []), .int .i64 (merchant_Go m now).2]) [] := by
  generalize hM : merchant_Go m now = r
  rw [merchant_Go.eq_1] at hM
  refine enterV En_ok En_mo noJ Try.func18 rfl Try.ntmps18 (by kernel_rfl) fun hw => ct_start ?_
  refine spQ ?_
  replace hw := nzQ hw
  have hM0 := hM; clear hM; obtain ⟨x1, hx2, hM⟩ := letk_opn hM0; clear hM0
  have hcx1 := merchant_Valid_ok  m 
  rw [← hx2] at hcx1
  refine callC_give hcx1 clQ clQ (fun hw3 => ?_)
  replace hw3 := nzQ hw3
  refine spQ ?_
  refine condC_intro (fun h4 => ?_) (fun h4 => ?_)
  · rw [if_pos h4] at hM
    refine spQA h4 ?_
    have nh4 := nzQ h4
    subst hM
    exact retC_view (lfQA h4)
  · rw [if_neg (ne_true h4)] at hM
    refine spQA h4 ?_
    have nh4 := nzQ h4
    refine guardC_f (fun h5 => ?_) (fun h5 => ?_)
    · rw [if_neg (ne_true h5)] at hM
      refine spQA h5 ?_
      have nh5 := nzQ h5
      refine condC_intro (fun h6 => ?_) (fun h6 => ?_)
      · rw [if_pos h6] at hM
        refine spQA h6 ?_
        have nh6 := nzQ h6
        subst hM
        exact retC_view (lfQA (And.intro h4 (And.intro h5 h6)))
      · rw [if_neg (ne_true h6)] at hM
        refine spQA h6 ?_
        have nh6 := nzQ h6
        refine condC_intro (fun h7 => ?_) (fun h7 => ?_)
        · rw [if_pos h7] at hM
          refine spQA h7 ?_
          have nh7 := nzQ h7
          subst hM
          exact retC_view (lfQA (And.intro h4 (And.intro h5 (And.intro h6 h7))))
        · rw [if_neg (ne_true h7)] at hM
          refine spQA h7 ?_
          have nh7 := nzQ h7
          have hM0 := hM; clear hM; obtain ⟨x8, hx9, hM⟩ := letk_opn hM0; clear hM0
          have hcx8 := merchant_cloned_ok  m 
          rw [← hx9] at hcx8
          refine callC_give hcx8 clQ clQ (fun hw10 => ?_)
          replace hw10 := nzQ hw10
          refine spQ ?_
          subst hM
          exact retC_view (lfQA (And.intro h4 (And.intro h5 (And.intro h6 h7))))
    · rw [if_pos h5] at hM
      refine spQA h5 ?_
      have nh5 := nzQ h5
      subst hM
      exact retC_view (lfQA (And.intro h4 h5))
set_option maxHeartbeats 2000000 in
set_option maxRecDepth 100000 in
theorem specielaw47_MerchantInvoices_ok (z2 : Option Bool) (z3 : Option Bool) (name : (List Int)) (p_ : S_api_Policy) (amounts : (List Int)) (waits : (List Int))  : CallOk En 4 [.agg (.int .u8 (gt name 0) :: .int .u8 (gt name 1) :: .int .u8 (gt name 2) :: .int .u8 (gt name 3) :: .int .u8 (gt name 4) :: .int .u8 (gt name 5) :: .int .u8 (gt name 6) :: .int .u8 (gt name 7) :: .int .u8 (gt name 8) :: .int .u8 (gt name 9) :: .int .u8 (gt name 10) :: .int .u8 (gt name 11) :: .int .u8 (gt name 12) :: .int .u8 (gt name 13) :: .int .u8 (gt name 14) :: .int .u8 (gt name 15) :: .int .u8 (gt name 16) :: .int .u8 (gt name 17) :: .int .u8 (gt name 18) :: .int .u8 (gt name 19) :: .int .u8 (gt name 20) :: .int .u8 (gt name 21) :: .int .u8 (gt name 22) :: .int .u8 (gt name 23) :: .int .u8 (gt name 24) :: .int .u8 (gt name 25) :: .int .u8 (gt name 26) :: .int .u8 (gt name 27) :: .int .u8 (gt name 28) :: .int .u8 (gt name 29) :: .int .u8 (gt name 30) :: .int .u8 (gt name 31) :: []), .agg [.sl none 3 true (p_.Rules.map e_api_Rule)], .sl z2 1 false (amounts.map (V.int .u16)), .sl z3 1 false (waits.map (V.int .u16))] (.bool (specielaw47_MerchantInvoices name p_ amounts waits)) [] := by
  generalize hM : specielaw47_MerchantInvoices name p_ amounts waits = r
  rw [specielaw47_MerchantInvoices.eq_1] at hM
  refine enterV En_ok En_mo [14] Try.func4 rfl Try.ntmps4 (by kernel_rfl) fun hw => ct_start ?_
  refine spQ ?_
  replace hw := nzQ hw
  have hM0 := hM; clear hM; obtain ⟨x1, hx2, hM⟩ := letk_opn hM0; clear hM0
  have hcx1 := specielaw47_awake_ok   
  rw [← hx2] at hcx1
  refine callC_give hcx1 clQ clQ (fun hw3 => ?_)
  replace hw3 := nzQ hw3
  refine spQ ?_
  refine guardC_f (fun h4 => ?_) (fun h4 => ?_)
  · rw [if_neg (ne_true h4)] at hM
    refine spQA h4 ?_
    have nh4 := nzQ h4
    refine guardC_f (fun h5 => ?_) (fun h5 => ?_)
    · rw [if_neg (ne_true h5)] at hM
      refine spQA h5 ?_
      have nh5 := nzQ h5
      refine guardC_f (fun h6 => ?_) (fun h6 => ?_)
      · rw [if_neg (ne_true h6)] at hM
        refine spQA h6 ?_
        have nh6 := nzQ h6
        refine condC_intro (fun h7 => ?_) (fun h7 => ?_)
        · rw [if_pos h7] at hM
          refine spQA h7 ?_
          have nh7 := nzQ h7
          have hM0 := hM; clear hM; obtain ⟨x8, hx9, hM⟩ := letk_opn hM0; clear hM0
          have hcx8 := specielaw47_awake_ok   
          rw [← hx9] at hcx8
          refine callC_give hcx8 clQ clQ (fun hw10 => ?_)
          replace hw10 := nzQ hw10
          refine spQ ?_
          subst hM
          exact retC_view (lfQA (And.intro h4 (And.intro h5 (And.intro h6 h7))))
        · rw [if_neg (ne_true h7)] at hM
          refine spQA h7 ?_
          have nh7 := nzQ h7
          have hM0 := hM; clear hM; obtain ⟨x11, hx12, hM⟩ := letk_opn hM0; clear hM0
          have hcx11 := merchant_New_ok  name p_ 
          rw [← hx12] at hcx11
          refine callC_give hcx11 clQ clQ (fun hw13 => ?_)
          replace hw13 := nzQ hw13
          refine spQ ?_
          refine condC_intro (fun h14 => ?_) (fun h14 => ?_)
          · rw [if_pos h14] at hM
            refine spQA h14 ?_
            have nh14 := nzQ h14
            refine guardC_t (fun h15 => ?_) (fun h15 => ?_)
            · rw [if_pos h15] at hM
              refine spQA h15 ?_
              have nh15 := nzQ h15
              have hM0 := hM; clear hM; obtain ⟨x16, hx17, hM⟩ := letk_opn hM0; clear hM0
              have hcx16 := policy_Valid_ok  p_ 
              rw [← hx17] at hcx16
              refine callC_give hcx16 clQ clQ (fun hw18 => ?_)
              replace hw18 := nzQ hw18
              refine spQ ?_
              subst hM
              exact retC_view (lfQA (And.intro h4 (And.intro h5 (And.intro h6 (And.intro h7 (And.intro h14 h15))))))
            · rw [if_neg (ne_true h15)] at hM
              refine spQA h15 ?_
              have nh15 := nzQ h15
              subst hM
              exact retC_view (lfQA (And.intro h4 (And.intro h5 (And.intro h6 (And.intro h7 (And.intro h14 h15))))))
          · rw [if_neg (ne_true h14)] at hM
            refine spQA h14 ?_
            have nh14 := nzQ h14
            have hM0 := hM; clear hM; obtain ⟨f19, d19, hf19, hd19, hM⟩ := iter_opn hM0; clear hM0
            refine ct_loop (fun n S => ∃ p : Int × Int × S_api_Merchant, S = (⟨[(3, .sl z3 1 false (waits.map (V.int .u16))), (4, .ptr 0 0), (5, .ptr 1 0), (9, .ptr 2 0), (11, .int .i64 p.1), (53, .sl z2 1 false (amounts.map (V.int .u16))), (54, .int .i64 (amounts.length : Int)), (55, .int .i64 p.2.1)], [(0, .var 32 true (.agg (.int .u8 (gt name 0) :: .int .u8 (gt name 1) :: .int .u8 (gt name 2) :: .int .u8 (gt name 3) :: .int .u8 (gt name 4) :: .int .u8 (gt name 5) :: .int .u8 (gt name 6) :: .int .u8 (gt name 7) :: .int .u8 (gt name 8) :: .int .u8 (gt name 9) :: .int .u8 (gt name 10) :: .int .u8 (gt name 11) :: .int .u8 (gt name 12) :: .int .u8 (gt name 13) :: .int .u8 (gt name 14) :: .int .u8 (gt name 15) :: .int .u8 (gt name 16) :: .int .u8 (gt name 17) :: .int .u8 (gt name 18) :: .int .u8 (gt name 19) :: .int .u8 (gt name 20) :: .int .u8 (gt name 21) :: .int .u8 (gt name 22) :: .int .u8 (gt name 23) :: .int .u8 (gt name 24) :: .int .u8 (gt name 25) :: .int .u8 (gt name 26) :: .int .u8 (gt name 27) :: .int .u8 (gt name 28) :: .int .u8 (gt name 29) :: .int .u8 (gt name 30) :: .int .u8 (gt name 31) :: []))), (1, .var 1 true (.agg [.sl none 3 true (p_.Rules.map e_api_Rule)])), (2, .var 40 true (.agg (.int .u8 (gt p.2.2.Name 0) :: .int .u8 (gt p.2.2.Name 1) :: .int .u8 (gt p.2.2.Name 2) :: .int .u8 (gt p.2.2.Name 3) :: .int .u8 (gt p.2.2.Name 4) :: .int .u8 (gt p.2.2.Name 5) :: .int .u8 (gt p.2.2.Name 6) :: .int .u8 (gt p.2.2.Name 7) :: .int .u8 (gt p.2.2.Name 8) :: .int .u8 (gt p.2.2.Name 9) :: .int .u8 (gt p.2.2.Name 10) :: .int .u8 (gt p.2.2.Name 11) :: .int .u8 (gt p.2.2.Name 12) :: .int .u8 (gt p.2.2.Name 13) :: .int .u8 (gt p.2.2.Name 14) :: .int .u8 (gt p.2.2.Name 15) :: .int .u8 (gt p.2.2.Name 16) :: .int .u8 (gt p.2.2.Name 17) :: .int .u8 (gt p.2.2.Name 18) :: .int .u8 (gt p.2.2.Name 19) :: .int .u8 (gt p.2.2.Name 20) :: .int .u8 (gt p.2.2.Name 21) :: .int .u8 (gt p.2.2.Name 22) :: .int .u8 (gt p.2.2.Name 23) :: .int .u8 (gt p.2.2.Name 24) :: .int .u8 (gt p.2.2.Name 25) :: .int .u8 (gt p.2.2.Name 26) :: .int .u8 (gt p.2.2.Name 27) :: .int .u8 (gt p.2.2.Name 28) :: .int .u8 (gt p.2.2.Name 29) :: .int .u8 (gt p.2.2.Name 30) :: .int .u8 (gt p.2.2.Name 31) :: .sl none 3 true (p.2.2.Policy.Rules.map e_api_Rule) :: .sl none 35 true (p.2.2.Open.map e_api_Invoice) :: .int .i64 p.2.2.Next :: .sl none 4 true (p.2.2.Queue.map e_api_Payment) :: .sl none 35 true (p.2.2.Paid.map e_api_Invoice) :: .int .i64 p.2.2.Total :: .sl none 1 false (p.2.2.Blocked.map (V.int .i64)) :: .int .i64 p.2.2.Now :: [])))], 3⟩ : St) ∧ ((0 ≤ p.2.1) ∧ (p.2.1 ≤ (amounts.length : Int))) ∧ ((amounts.length : Int) - p.2.1).toNat < n ∧ iter n f19 d19 p = r) (((amounts.length : Int) - 0).toNat + 1) (⟨[(3, .sl z3 1 false (waits.map (V.int .u16))), (4, .ptr 0 0), (5, .ptr 1 0), (9, .ptr 2 0), (11, .int .i64 0), (53, .sl z2 1 false (amounts.map (V.int .u16))), (54, .int .i64 (amounts.length : Int)), (55, .int .i64 0)], [(0, .var 32 true (.agg (.int .u8 (gt name 0) :: .int .u8 (gt name 1) :: .int .u8 (gt name 2) :: .int .u8 (gt name 3) :: .int .u8 (gt name 4) :: .int .u8 (gt name 5) :: .int .u8 (gt name 6) :: .int .u8 (gt name 7) :: .int .u8 (gt name 8) :: .int .u8 (gt name 9) :: .int .u8 (gt name 10) :: .int .u8 (gt name 11) :: .int .u8 (gt name 12) :: .int .u8 (gt name 13) :: .int .u8 (gt name 14) :: .int .u8 (gt name 15) :: .int .u8 (gt name 16) :: .int .u8 (gt name 17) :: .int .u8 (gt name 18) :: .int .u8 (gt name 19) :: .int .u8 (gt name 20) :: .int .u8 (gt name 21) :: .int .u8 (gt name 22) :: .int .u8 (gt name 23) :: .int .u8 (gt name 24) :: .int .u8 (gt name 25) :: .int .u8 (gt name 26) :: .int .u8 (gt name 27) :: .int .u8 (gt name 28) :: .int .u8 (gt name 29) :: .int .u8 (gt name 30) :: .int .u8 (gt name 31) :: []))), (1, .var 1 true (.agg [.sl none 3 true (p_.Rules.map e_api_Rule)])), (2, .var 40 true (.agg (.int .u8 (gt x11.1.Name 0) :: .int .u8 (gt x11.1.Name 1) :: .int .u8 (gt x11.1.Name 2) :: .int .u8 (gt x11.1.Name 3) :: .int .u8 (gt x11.1.Name 4) :: .int .u8 (gt x11.1.Name 5) :: .int .u8 (gt x11.1.Name 6) :: .int .u8 (gt x11.1.Name 7) :: .int .u8 (gt x11.1.Name 8) :: .int .u8 (gt x11.1.Name 9) :: .int .u8 (gt x11.1.Name 10) :: .int .u8 (gt x11.1.Name 11) :: .int .u8 (gt x11.1.Name 12) :: .int .u8 (gt x11.1.Name 13) :: .int .u8 (gt x11.1.Name 14) :: .int .u8 (gt x11.1.Name 15) :: .int .u8 (gt x11.1.Name 16) :: .int .u8 (gt x11.1.Name 17) :: .int .u8 (gt x11.1.Name 18) :: .int .u8 (gt x11.1.Name 19) :: .int .u8 (gt x11.1.Name 20) :: .int .u8 (gt x11.1.Name 21) :: .int .u8 (gt x11.1.Name 22) :: .int .u8 (gt x11.1.Name 23) :: .int .u8 (gt x11.1.Name 24) :: .int .u8 (gt x11.1.Name 25) :: .int .u8 (gt x11.1.Name 26) :: .int .u8 (gt x11.1.Name 27) :: .int .u8 (gt x11.1.Name 28) :: .int .u8 (gt x11.1.Name 29) :: .int .u8 (gt x11.1.Name 30) :: .int .u8 (gt x11.1.Name 31) :: .sl none 3 true (x11.1.Policy.Rules.map e_api_Rule) :: .sl none 35 true (x11.1.Open.map e_api_Invoice) :: .int .i64 x11.1.Next :: .sl none 4 true (x11.1.Queue.map e_api_Payment) :: .sl none 35 true (x11.1.Paid.map e_api_Invoice) :: .int .i64 x11.1.Total :: .sl none 1 false (x11.1.Blocked.map (V.int .i64)) :: .int .i64 x11.1.Now :: [])))], 3⟩ : St) sbQ sbQ ⟨(0, 0, x11.1), rfl, ⟨omQ, omQ⟩, (Nat.lt_succ_self _), hM⟩ ?_
            clear hM
            rintro n19 S ⟨p19, rfl, hfa19, hm19, hM⟩
            have hM0 := hM; clear hM; obtain ⟨ag19, hag19, hM⟩ := iter_step hM0 (by omega) hf19; clear hM0
            replace hfa19 := nzQ hfa19
            replace hm19 := nzQ hm19
            have ha19 : addI .i64 p19.2.1 1 = p19.2.1 + 1 := add_one omQ omQ
            refine spQA ha19 ?_
            refine condC_intro (fun h20 => ?_) (fun h20 => ?_)
            · rw [if_pos h20] at hM
              refine spQA (And.intro ha19 h20) ?_
              have nh20 := nzQ h20
              refine bindC_intro omQ ?_
              have he21 := fun d => elt_mp (l := amounts) (f := (V.int .u16)) (i := p19.2.1) omQ d
              refine spQA (And.intro ha19 he21) ?_
              have hM0 := hM; clear hM; obtain ⟨j22, hj22, hM⟩ := letj_opn hM0; clear hM0
              refine seqC_intro (fun S => ∃ p : S_api_Merchant, S = (⟨[(3, .sl z3 1 false (waits.map (V.int .u16))), (4, .ptr 0 0), (5, .ptr 1 0), (9, .ptr 2 0), (11, .int .i64 p19.1), (13, .int .u16 (gt amounts p19.2.1)), (53, .sl z2 1 false (amounts.map (V.int .u16))), (54, .int .i64 (amounts.length : Int)), (55, .int .i64 p19.2.1)], [(0, .var 32 true (.agg (.int .u8 (gt name 0) :: .int .u8 (gt name 1) :: .int .u8 (gt name 2) :: .int .u8 (gt name 3) :: .int .u8 (gt name 4) :: .int .u8 (gt name 5) :: .int .u8 (gt name 6) :: .int .u8 (gt name 7) :: .int .u8 (gt name 8) :: .int .u8 (gt name 9) :: .int .u8 (gt name 10) :: .int .u8 (gt name 11) :: .int .u8 (gt name 12) :: .int .u8 (gt name 13) :: .int .u8 (gt name 14) :: .int .u8 (gt name 15) :: .int .u8 (gt name 16) :: .int .u8 (gt name 17) :: .int .u8 (gt name 18) :: .int .u8 (gt name 19) :: .int .u8 (gt name 20) :: .int .u8 (gt name 21) :: .int .u8 (gt name 22) :: .int .u8 (gt name 23) :: .int .u8 (gt name 24) :: .int .u8 (gt name 25) :: .int .u8 (gt name 26) :: .int .u8 (gt name 27) :: .int .u8 (gt name 28) :: .int .u8 (gt name 29) :: .int .u8 (gt name 30) :: .int .u8 (gt name 31) :: []))), (1, .var 1 true (.agg [.sl none 3 true (p_.Rules.map e_api_Rule)])), (2, .var 40 true (.agg (.int .u8 (gt p.Name 0) :: .int .u8 (gt p.Name 1) :: .int .u8 (gt p.Name 2) :: .int .u8 (gt p.Name 3) :: .int .u8 (gt p.Name 4) :: .int .u8 (gt p.Name 5) :: .int .u8 (gt p.Name 6) :: .int .u8 (gt p.Name 7) :: .int .u8 (gt p.Name 8) :: .int .u8 (gt p.Name 9) :: .int .u8 (gt p.Name 10) :: .int .u8 (gt p.Name 11) :: .int .u8 (gt p.Name 12) :: .int .u8 (gt p.Name 13) :: .int .u8 (gt p.Name 14) :: .int .u8 (gt p.Name 15) :: .int .u8 (gt p.Name 16) :: .int .u8 (gt p.Name 17) :: .int .u8 (gt p.Name 18) :: .int .u8 (gt p.Name 19) :: .int .u8 (gt p.Name 20) :: .int .u8 (gt p.Name 21) :: .int .u8 (gt p.Name 22) :: .int .u8 (gt p.Name 23) :: .int .u8 (gt p.Name 24) :: .int .u8 (gt p.Name 25) :: .int .u8 (gt p.Name 26) :: .int .u8 (gt p.Name 27) :: .int .u8 (gt p.Name 28) :: .int .u8 (gt p.Name 29) :: .int .u8 (gt p.Name 30) :: .int .u8 (gt p.Name 31) :: .sl none 3 true (p.Policy.Rules.map e_api_Rule) :: .sl none 35 true (p.Open.map e_api_Invoice) :: .int .i64 p.Next :: .sl none 4 true (p.Queue.map e_api_Payment) :: .sl none 35 true (p.Paid.map e_api_Invoice) :: .int .i64 p.Total :: .sl none 1 false (p.Blocked.map (V.int .i64)) :: .int .i64 p.Now :: [])))], 17⟩ : St) ∧ (True) ∧ j22 p = r) ?_ (fun hcut22 => ?_)
              · clear hM
                rintro S ⟨p22, rfl, hfa22, hM⟩
                have hM0 := hM; clear hM; have hM := letj_use hM0 hj22; clear hM0
                refine spQA (And.intro ha19 he21) ?_
                have hM0 := hM; clear hM; obtain ⟨x23, hx24, hM⟩ := letk_opn hM0; clear hM0
                have hcx23 := merchant_Ask_ok  p22 (convI .i64 (gt amounts p19.2.1)) 
                rw [← hx24] at hcx23
                refine callC_give hcx23 (clQA (And.intro ha19 he21)) (clQA (And.intro ha19 he21)) (fun hw25 => ?_)
                replace hw25 := nzQ hw25
                refine spQA (And.intro ha19 he21) ?_
                refine bindC_intro omQ ?_
                refine spQA (And.intro ha19 he21) ?_
                refine bindC_intro omQ ?_
                refine spQA (And.intro ha19 he21) ?_
                have hM0 := hM; clear hM; obtain ⟨x26, hx27, hM⟩ := letk_opn hM0; clear hM0
                have hcx26 := policy_Limit_ok  p_ (remI .i64 (quoI .i64 p22.Now 3600) 24) 0 
                rw [← hx27] at hcx26
                refine callC_give hcx26 (clQA (And.intro ha19 he21)) (clQA (And.intro ha19 he21)) (fun hw28 => ?_)
                replace hw28 := nzQ hw28
                refine spQA (And.intro ha19 he21) ?_
                refine condC_intro (fun h29 => ?_) (fun h29 => ?_)
                · rw [if_pos h29] at hM
                  refine spQA (And.intro ha19 (And.intro he21 h29)) ?_
                  have nh29 := nzQ h29
                  refine condC_intro (fun h30 => ?_) (fun h30 => ?_)
                  · rw [if_pos h30] at hM
                    refine spQA (And.intro ha19 (And.intro he21 h30)) ?_
                    have nh30 := nzQ h30
                    subst hM
                    exact retC_view (lfQA (And.intro ha19 (And.intro he21 (And.intro h4 (And.intro h5 (And.intro h6 (And.intro h7 (And.intro h14 (And.intro h20 (And.intro h29 h30))))))))))
                  · rw [if_neg (ne_true h30)] at hM
                    refine spQA (And.intro ha19 (And.intro he21 h30)) ?_
                    have nh30 := nzQ h30
                    refine lp_intro (n19 - 1) (⟨[(3, .sl z3 1 false (waits.map (V.int .u16))), (4, .ptr 0 0), (5, .ptr 1 0), (9, .ptr 2 0), (11, .int .i64 p19.1), (53, .sl z2 1 false (amounts.map (V.int .u16))), (54, .int .i64 (amounts.length : Int)), (55, .int .i64 (p19.2.1 + 1))], [(0, .var 32 true (.agg (.int .u8 (gt name 0) :: .int .u8 (gt name 1) :: .int .u8 (gt name 2) :: .int .u8 (gt name 3) :: .int .u8 (gt name 4) :: .int .u8 (gt name 5) :: .int .u8 (gt name 6) :: .int .u8 (gt name 7) :: .int .u8 (gt name 8) :: .int .u8 (gt name 9) :: .int .u8 (gt name 10) :: .int .u8 (gt name 11) :: .int .u8 (gt name 12) :: .int .u8 (gt name 13) :: .int .u8 (gt name 14) :: .int .u8 (gt name 15) :: .int .u8 (gt name 16) :: .int .u8 (gt name 17) :: .int .u8 (gt name 18) :: .int .u8 (gt name 19) :: .int .u8 (gt name 20) :: .int .u8 (gt name 21) :: .int .u8 (gt name 22) :: .int .u8 (gt name 23) :: .int .u8 (gt name 24) :: .int .u8 (gt name 25) :: .int .u8 (gt name 26) :: .int .u8 (gt name 27) :: .int .u8 (gt name 28) :: .int .u8 (gt name 29) :: .int .u8 (gt name 30) :: .int .u8 (gt name 31) :: []))), (1, .var 1 true (.agg [.sl none 3 true (p_.Rules.map e_api_Rule)])), (2, .var 40 true (.agg (.int .u8 (gt p22.Name 0) :: .int .u8 (gt p22.Name 1) :: .int .u8 (gt p22.Name 2) :: .int .u8 (gt p22.Name 3) :: .int .u8 (gt p22.Name 4) :: .int .u8 (gt p22.Name 5) :: .int .u8 (gt p22.Name 6) :: .int .u8 (gt p22.Name 7) :: .int .u8 (gt p22.Name 8) :: .int .u8 (gt p22.Name 9) :: .int .u8 (gt p22.Name 10) :: .int .u8 (gt p22.Name 11) :: .int .u8 (gt p22.Name 12) :: .int .u8 (gt p22.Name 13) :: .int .u8 (gt p22.Name 14) :: .int .u8 (gt p22.Name 15) :: .int .u8 (gt p22.Name 16) :: .int .u8 (gt p22.Name 17) :: .int .u8 (gt p22.Name 18) :: .int .u8 (gt p22.Name 19) :: .int .u8 (gt p22.Name 20) :: .int .u8 (gt p22.Name 21) :: .int .u8 (gt p22.Name 22) :: .int .u8 (gt p22.Name 23) :: .int .u8 (gt p22.Name 24) :: .int .u8 (gt p22.Name 25) :: .int .u8 (gt p22.Name 26) :: .int .u8 (gt p22.Name 27) :: .int .u8 (gt p22.Name 28) :: .int .u8 (gt p22.Name 29) :: .int .u8 (gt p22.Name 30) :: .int .u8 (gt p22.Name 31) :: .sl none 3 true (p22.Policy.Rules.map e_api_Rule) :: .sl none 35 true (p22.Open.map e_api_Invoice) :: .int .i64 p22.Next :: .sl none 4 true (p22.Queue.map e_api_Payment) :: .sl none 35 true (p22.Paid.map e_api_Invoice) :: .int .i64 p22.Total :: .sl none 1 false (p22.Blocked.map (V.int .i64)) :: .int .i64 p22.Now :: [])))], 3⟩ : St) (by omega) sbQ sbQ ⟨(p19.1, (p19.2.1 + 1), p22), rfl, ⟨omQ, omQ⟩, omQ, iter_again hM hag19⟩
                · rw [if_neg (ne_true h29)] at hM
                  refine spQA (And.intro ha19 (And.intro he21 h29)) ?_
                  have nh29 := nzQ h29
                  refine guardC_f (fun h31 => ?_) (fun h31 => ?_)
                  · rw [if_neg (ne_true h31)] at hM
                    refine spQA (And.intro ha19 (And.intro he21 h31)) ?_
                    have nh31 := nzQ h31
                    refine condC_intro (fun h32 => ?_) (fun h32 => ?_)
                    · rw [if_pos h32] at hM
                      refine spQA (And.intro ha19 (And.intro he21 h32)) ?_
                      have nh32 := nzQ h32
                      refine condC_intro (fun h33 => ?_) (fun h33 => ?_)
                      · rw [if_pos h33] at hM
                        refine spQA (And.intro ha19 (And.intro he21 h33)) ?_
                        have nh33 := nzQ h33
                        subst hM
                        exact retC_view (lfQA (And.intro ha19 (And.intro he21 (And.intro h4 (And.intro h5 (And.intro h6 (And.intro h7 (And.intro h14 (And.intro h20 (And.intro h29 (And.intro h31 (And.intro h32 h33))))))))))))
                      · rw [if_neg (ne_true h33)] at hM
                        refine spQA (And.intro ha19 (And.intro he21 h33)) ?_
                        have nh33 := nzQ h33
                        refine lp_intro (n19 - 1) (⟨[(3, .sl z3 1 false (waits.map (V.int .u16))), (4, .ptr 0 0), (5, .ptr 1 0), (9, .ptr 2 0), (11, .int .i64 p19.1), (53, .sl z2 1 false (amounts.map (V.int .u16))), (54, .int .i64 (amounts.length : Int)), (55, .int .i64 (p19.2.1 + 1))], [(0, .var 32 true (.agg (.int .u8 (gt name 0) :: .int .u8 (gt name 1) :: .int .u8 (gt name 2) :: .int .u8 (gt name 3) :: .int .u8 (gt name 4) :: .int .u8 (gt name 5) :: .int .u8 (gt name 6) :: .int .u8 (gt name 7) :: .int .u8 (gt name 8) :: .int .u8 (gt name 9) :: .int .u8 (gt name 10) :: .int .u8 (gt name 11) :: .int .u8 (gt name 12) :: .int .u8 (gt name 13) :: .int .u8 (gt name 14) :: .int .u8 (gt name 15) :: .int .u8 (gt name 16) :: .int .u8 (gt name 17) :: .int .u8 (gt name 18) :: .int .u8 (gt name 19) :: .int .u8 (gt name 20) :: .int .u8 (gt name 21) :: .int .u8 (gt name 22) :: .int .u8 (gt name 23) :: .int .u8 (gt name 24) :: .int .u8 (gt name 25) :: .int .u8 (gt name 26) :: .int .u8 (gt name 27) :: .int .u8 (gt name 28) :: .int .u8 (gt name 29) :: .int .u8 (gt name 30) :: .int .u8 (gt name 31) :: []))), (1, .var 1 true (.agg [.sl none 3 true (p_.Rules.map e_api_Rule)])), (2, .var 40 true (.agg (.int .u8 (gt p22.Name 0) :: .int .u8 (gt p22.Name 1) :: .int .u8 (gt p22.Name 2) :: .int .u8 (gt p22.Name 3) :: .int .u8 (gt p22.Name 4) :: .int .u8 (gt p22.Name 5) :: .int .u8 (gt p22.Name 6) :: .int .u8 (gt p22.Name 7) :: .int .u8 (gt p22.Name 8) :: .int .u8 (gt p22.Name 9) :: .int .u8 (gt p22.Name 10) :: .int .u8 (gt p22.Name 11) :: .int .u8 (gt p22.Name 12) :: .int .u8 (gt p22.Name 13) :: .int .u8 (gt p22.Name 14) :: .int .u8 (gt p22.Name 15) :: .int .u8 (gt p22.Name 16) :: .int .u8 (gt p22.Name 17) :: .int .u8 (gt p22.Name 18) :: .int .u8 (gt p22.Name 19) :: .int .u8 (gt p22.Name 20) :: .int .u8 (gt p22.Name 21) :: .int .u8 (gt p22.Name 22) :: .int .u8 (gt p22.Name 23) :: .int .u8 (gt p22.Name 24) :: .int .u8 (gt p22.Name 25) :: .int .u8 (gt p22.Name 26) :: .int .u8 (gt p22.Name 27) :: .int .u8 (gt p22.Name 28) :: .int .u8 (gt p22.Name 29) :: .int .u8 (gt p22.Name 30) :: .int .u8 (gt p22.Name 31) :: .sl none 3 true (p22.Policy.Rules.map e_api_Rule) :: .sl none 35 true (p22.Open.map e_api_Invoice) :: .int .i64 p22.Next :: .sl none 4 true (p22.Queue.map e_api_Payment) :: .sl none 35 true (p22.Paid.map e_api_Invoice) :: .int .i64 p22.Total :: .sl none 1 false (p22.Blocked.map (V.int .i64)) :: .int .i64 p22.Now :: [])))], 3⟩ : St) (by omega) sbQ sbQ ⟨(p19.1, (p19.2.1 + 1), p22), rfl, ⟨omQ, omQ⟩, omQ, iter_again hM hag19⟩
                    · rw [if_neg (ne_true h32)] at hM
                      refine spQA (And.intro ha19 (And.intro he21 h32)) ?_
                      have nh32 := nzQ h32
                      refine guardC_f (fun h34 => ?_) (fun h34 => ?_)
                      · rw [if_neg (ne_true h34)] at hM
                        refine spQA (And.intro ha19 (And.intro he21 h34)) ?_
                        have nh34 := nzQ h34
                        refine guardC_f (fun h35 => ?_) (fun h35 => ?_)
                        · have kh35 : (!(q_api_Invoice (x23.2.1) ({ Payee := name, Amount := (convI .i64 (gt amounts p19.2.1)), Time := p22.Now, Number := p19.1 } : S_api_Invoice))) = false := h35
                          rw [if_neg (ne_true kh35)] at hM
                          refine spQA (And.intro ha19 (And.intro he21 h35)) ?_
                          have nh35 := nzQ kh35
                          have hM0 := hM; clear hM; obtain ⟨x36, hx37, hM⟩ := letk_opn hM0; clear hM0
                          have hcx36 := merchant_Valid_ok  (x23.1) 
                          rw [← hx37] at hcx36
                          refine callC_give hcx36 (clQA (And.intro ha19 he21)) (clQA (And.intro ha19 he21)) (fun hw38 => ?_)
                          replace hw38 := nzQ hw38
                          refine spQA (And.intro ha19 he21) ?_
                          refine guardC_f (fun h39 => ?_) (fun h39 => ?_)
                          · rw [if_neg (ne_true h39)] at hM
                            refine spQA (And.intro ha19 (And.intro he21 h39)) ?_
                            have nh39 := nzQ h39
                            refine condC_intro (fun h40 => ?_) (fun h40 => ?_)
                            · rw [if_pos h40] at hM
                              refine spQA (And.intro ha19 (And.intro he21 h40)) ?_
                              have nh40 := nzQ h40
                              subst hM
                              exact retC_view (lfQA (And.intro ha19 (And.intro he21 (And.intro h4 (And.intro h5 (And.intro h6 (And.intro h7 (And.intro h14 (And.intro h20 (And.intro h29 (And.intro h31 (And.intro h32 (And.intro h34 (And.intro h35 (And.intro h39 h40)))))))))))))))
                            · rw [if_neg (ne_true h40)] at hM
                              refine spQA (And.intro ha19 (And.intro he21 h40)) ?_
                              have nh40 := nzQ h40
                              refine lp_intro (n19 - 1) (⟨[(3, .sl z3 1 false (waits.map (V.int .u16))), (4, .ptr 0 0), (5, .ptr 1 0), (9, .ptr 2 0), (11, .int .i64 (addI .i64 p19.1 1)), (53, .sl z2 1 false (amounts.map (V.int .u16))), (54, .int .i64 (amounts.length : Int)), (55, .int .i64 (p19.2.1 + 1))], [(0, .var 32 true (.agg (.int .u8 (gt name 0) :: .int .u8 (gt name 1) :: .int .u8 (gt name 2) :: .int .u8 (gt name 3) :: .int .u8 (gt name 4) :: .int .u8 (gt name 5) :: .int .u8 (gt name 6) :: .int .u8 (gt name 7) :: .int .u8 (gt name 8) :: .int .u8 (gt name 9) :: .int .u8 (gt name 10) :: .int .u8 (gt name 11) :: .int .u8 (gt name 12) :: .int .u8 (gt name 13) :: .int .u8 (gt name 14) :: .int .u8 (gt name 15) :: .int .u8 (gt name 16) :: .int .u8 (gt name 17) :: .int .u8 (gt name 18) :: .int .u8 (gt name 19) :: .int .u8 (gt name 20) :: .int .u8 (gt name 21) :: .int .u8 (gt name 22) :: .int .u8 (gt name 23) :: .int .u8 (gt name 24) :: .int .u8 (gt name 25) :: .int .u8 (gt name 26) :: .int .u8 (gt name 27) :: .int .u8 (gt name 28) :: .int .u8 (gt name 29) :: .int .u8 (gt name 30) :: .int .u8 (gt name 31) :: []))), (1, .var 1 true (.agg [.sl none 3 true (p_.Rules.map e_api_Rule)])), (2, .var 40 true (.agg (.int .u8 (gt x23.1.Name 0) :: .int .u8 (gt x23.1.Name 1) :: .int .u8 (gt x23.1.Name 2) :: .int .u8 (gt x23.1.Name 3) :: .int .u8 (gt x23.1.Name 4) :: .int .u8 (gt x23.1.Name 5) :: .int .u8 (gt x23.1.Name 6) :: .int .u8 (gt x23.1.Name 7) :: .int .u8 (gt x23.1.Name 8) :: .int .u8 (gt x23.1.Name 9) :: .int .u8 (gt x23.1.Name 10) :: .int .u8 (gt x23.1.Name 11) :: .int .u8 (gt x23.1.Name 12) :: .int .u8 (gt x23.1.Name 13) :: .int .u8 (gt x23.1.Name 14) :: .int .u8 (gt x23.1.Name 15) :: .int .u8 (gt x23.1.Name 16) :: .int .u8 (gt x23.1.Name 17) :: .int .u8 (gt x23.1.Name 18) :: .int .u8 (gt x23.1.Name 19) :: .int .u8 (gt x23.1.Name 20) :: .int .u8 (gt x23.1.Name 21) :: .int .u8 (gt x23.1.Name 22) :: .int .u8 (gt x23.1.Name 23) :: .int .u8 (gt x23.1.Name 24) :: .int .u8 (gt x23.1.Name 25) :: .int .u8 (gt x23.1.Name 26) :: .int .u8 (gt x23.1.Name 27) :: .int .u8 (gt x23.1.Name 28) :: .int .u8 (gt x23.1.Name 29) :: .int .u8 (gt x23.1.Name 30) :: .int .u8 (gt x23.1.Name 31) :: .sl none 3 true (x23.1.Policy.Rules.map e_api_Rule) :: .sl none 35 true (x23.1.Open.map e_api_Invoice) :: .int .i64 x23.1.Next :: .sl none 4 true (x23.1.Queue.map e_api_Payment) :: .sl none 35 true (x23.1.Paid.map e_api_Invoice) :: .int .i64 x23.1.Total :: .sl none 1 false (x23.1.Blocked.map (V.int .i64)) :: .int .i64 x23.1.Now :: [])))], 3⟩ : St) (by omega) sbQ sbQ ⟨((addI .i64 p19.1 1), (p19.2.1 + 1), x23.1), rfl, ⟨omQ, omQ⟩, omQ, iter_again hM hag19⟩
                          · rw [if_pos h39] at hM
                            refine spQA (And.intro ha19 (And.intro he21 h39)) ?_
                            have nh39 := nzQ h39
                            subst hM
                            exact retC_view (lfQA (And.intro ha19 (And.intro he21 (And.intro h4 (And.intro h5 (And.intro h6 (And.intro h7 (And.intro h14 (And.intro h20 (And.intro h29 (And.intro h31 (And.intro h32 (And.intro h34 (And.intro h35 h39))))))))))))))
                        · have kh35 : (!(q_api_Invoice (x23.2.1) ({ Payee := name, Amount := (convI .i64 (gt amounts p19.2.1)), Time := p22.Now, Number := p19.1 } : S_api_Invoice))) = true := h35
                          rw [if_pos kh35] at hM
                          refine spQA (And.intro ha19 (And.intro he21 h35)) ?_
                          have nh35 := nzQ kh35
                          subst hM
                          exact retC_view (lfQA (And.intro ha19 (And.intro he21 (And.intro h4 (And.intro h5 (And.intro h6 (And.intro h7 (And.intro h14 (And.intro h20 (And.intro h29 (And.intro h31 (And.intro h32 (And.intro h34 h35)))))))))))))
                      · rw [if_pos h34] at hM
                        refine spQA (And.intro ha19 (And.intro he21 h34)) ?_
                        have nh34 := nzQ h34
                        subst hM
                        exact retC_view (lfQA (And.intro ha19 (And.intro he21 (And.intro h4 (And.intro h5 (And.intro h6 (And.intro h7 (And.intro h14 (And.intro h20 (And.intro h29 (And.intro h31 (And.intro h32 h34))))))))))))
                  · rw [if_pos h31] at hM
                    refine spQA (And.intro ha19 (And.intro he21 h31)) ?_
                    have nh31 := nzQ h31
                    refine condC_intro (fun h41 => ?_) (fun h41 => ?_)
                    · rw [if_pos h41] at hM
                      refine spQA (And.intro ha19 (And.intro he21 h41)) ?_
                      have nh41 := nzQ h41
                      subst hM
                      exact retC_view (lfQA (And.intro ha19 (And.intro he21 (And.intro h4 (And.intro h5 (And.intro h6 (And.intro h7 (And.intro h14 (And.intro h20 (And.intro h29 (And.intro h31 h41)))))))))))
                    · rw [if_neg (ne_true h41)] at hM
                      refine spQA (And.intro ha19 (And.intro he21 h41)) ?_
                      have nh41 := nzQ h41
                      refine lp_intro (n19 - 1) (⟨[(3, .sl z3 1 false (waits.map (V.int .u16))), (4, .ptr 0 0), (5, .ptr 1 0), (9, .ptr 2 0), (11, .int .i64 p19.1), (53, .sl z2 1 false (amounts.map (V.int .u16))), (54, .int .i64 (amounts.length : Int)), (55, .int .i64 (p19.2.1 + 1))], [(0, .var 32 true (.agg (.int .u8 (gt name 0) :: .int .u8 (gt name 1) :: .int .u8 (gt name 2) :: .int .u8 (gt name 3) :: .int .u8 (gt name 4) :: .int .u8 (gt name 5) :: .int .u8 (gt name 6) :: .int .u8 (gt name 7) :: .int .u8 (gt name 8) :: .int .u8 (gt name 9) :: .int .u8 (gt name 10) :: .int .u8 (gt name 11) :: .int .u8 (gt name 12) :: .int .u8 (gt name 13) :: .int .u8 (gt name 14) :: .int .u8 (gt name 15) :: .int .u8 (gt name 16) :: .int .u8 (gt name 17) :: .int .u8 (gt name 18) :: .int .u8 (gt name 19) :: .int .u8 (gt name 20) :: .int .u8 (gt name 21) :: .int .u8 (gt name 22) :: .int .u8 (gt name 23) :: .int .u8 (gt name 24) :: .int .u8 (gt name 25) :: .int .u8 (gt name 26) :: .int .u8 (gt name 27) :: .int .u8 (gt name 28) :: .int .u8 (gt name 29) :: .int .u8 (gt name 30) :: .int .u8 (gt name 31) :: []))), (1, .var 1 true (.agg [.sl none 3 true (p_.Rules.map e_api_Rule)])), (2, .var 40 true (.agg (.int .u8 (gt p22.Name 0) :: .int .u8 (gt p22.Name 1) :: .int .u8 (gt p22.Name 2) :: .int .u8 (gt p22.Name 3) :: .int .u8 (gt p22.Name 4) :: .int .u8 (gt p22.Name 5) :: .int .u8 (gt p22.Name 6) :: .int .u8 (gt p22.Name 7) :: .int .u8 (gt p22.Name 8) :: .int .u8 (gt p22.Name 9) :: .int .u8 (gt p22.Name 10) :: .int .u8 (gt p22.Name 11) :: .int .u8 (gt p22.Name 12) :: .int .u8 (gt p22.Name 13) :: .int .u8 (gt p22.Name 14) :: .int .u8 (gt p22.Name 15) :: .int .u8 (gt p22.Name 16) :: .int .u8 (gt p22.Name 17) :: .int .u8 (gt p22.Name 18) :: .int .u8 (gt p22.Name 19) :: .int .u8 (gt p22.Name 20) :: .int .u8 (gt p22.Name 21) :: .int .u8 (gt p22.Name 22) :: .int .u8 (gt p22.Name 23) :: .int .u8 (gt p22.Name 24) :: .int .u8 (gt p22.Name 25) :: .int .u8 (gt p22.Name 26) :: .int .u8 (gt p22.Name 27) :: .int .u8 (gt p22.Name 28) :: .int .u8 (gt p22.Name 29) :: .int .u8 (gt p22.Name 30) :: .int .u8 (gt p22.Name 31) :: .sl none 3 true (p22.Policy.Rules.map e_api_Rule) :: .sl none 35 true (p22.Open.map e_api_Invoice) :: .int .i64 p22.Next :: .sl none 4 true (p22.Queue.map e_api_Payment) :: .sl none 35 true (p22.Paid.map e_api_Invoice) :: .int .i64 p22.Total :: .sl none 1 false (p22.Blocked.map (V.int .i64)) :: .int .i64 p22.Now :: [])))], 3⟩ : St) (by omega) sbQ sbQ ⟨(p19.1, (p19.2.1 + 1), p22), rfl, ⟨omQ, omQ⟩, omQ, iter_again hM hag19⟩
              · refine spQA (And.intro ha19 he21) ?_
                refine condC_intro (fun h42 => ?_) (fun h42 => ?_)
                · rw [if_pos h42] at hM
                  refine spQA (And.intro ha19 (And.intro he21 h42)) ?_
                  have nh42 := nzQ h42
                  refine ct_draw 158 14 [64, 65, 66, 67, 68, 69, 70, 71, 72, 73, 74, 75, 76] [] ([[], [], [1], [], [], [3, 4], [3, 4, 5], [3, 4, 5, 6], [1, 2, 3, 4, 5, 6, 7], [0, 1, 2, 3, 4, 5, 6, 7, 8], [0, 1, 2, 3, 4, 5, 6, 7, 8, 9], [0, 1, 2, 3, 4, 5, 6, 7, 8, 9, 10], [0, 1, 2, 3, 4, 5, 6, 7, 8, 9, 10], [0, 1, 2, 3, 4, 5, 6, 7, 8, 9, 10, 11]] ++ [List.range 14]) [(13, 2)] (by kernel_rfl) (by exact alQ) ?_
                  refine spQA (And.intro ha19 he21) ?_
                  refine hbindC_intro omQ ?_
                  have he43 := fun d => elt_mp (l := waits) (f := (V.int .u16)) (i := p19.2.1) omQ d
                  refine spQA (And.intro ha19 (And.intro he21 he43)) ?_
                  have hM0 := hM; clear hM; obtain ⟨x44, hx45, hM⟩ := letk_opn hM0; clear hM0
                  have hcx44 := merchant_Go_ok  (p19.2.2) (addI .i64 p19.2.2.Now (convI .i64 (gt waits p19.2.1))) 
                  rw [← hx45] at hcx44
                  refine hcallC_give hcx44 (clQA (And.intro ha19 (And.intro he21 he43))) (clQA (And.intro ha19 (And.intro he21 he43))) ?_
                  refine spQA (And.intro ha19 (And.intro he21 he43)) ?_
                  refine condC_intro (fun h46 => ?_) (fun h46 => ?_)
                  · rw [if_pos h46] at hM
                    refine spQA (And.intro ha19 (And.intro he21 (And.intro he43 h46))) ?_
                    have nh46 := nzQ h46
                    subst hM
                    exact retC_view (lfQA (And.intro ha19 (And.intro he21 (And.intro he43 (And.intro h4 (And.intro h5 (And.intro h6 (And.intro h7 (And.intro h14 (And.intro h20 (And.intro h42 h46)))))))))))
                  · rw [if_neg (ne_true h46)] at hM
                    refine spQA (And.intro ha19 (And.intro he21 (And.intro he43 h46))) ?_
                    have nh46 := nzQ h46
                    exact cut_intro (⟨[(3, .sl z3 1 false (waits.map (V.int .u16))), (4, .ptr 0 0), (5, .ptr 1 0), (9, .ptr 2 0), (11, .int .i64 p19.1), (13, .int .u16 (gt amounts p19.2.1)), (53, .sl z2 1 false (amounts.map (V.int .u16))), (54, .int .i64 (amounts.length : Int)), (55, .int .i64 p19.2.1)], [(0, .var 32 true (.agg (.int .u8 (gt name 0) :: .int .u8 (gt name 1) :: .int .u8 (gt name 2) :: .int .u8 (gt name 3) :: .int .u8 (gt name 4) :: .int .u8 (gt name 5) :: .int .u8 (gt name 6) :: .int .u8 (gt name 7) :: .int .u8 (gt name 8) :: .int .u8 (gt name 9) :: .int .u8 (gt name 10) :: .int .u8 (gt name 11) :: .int .u8 (gt name 12) :: .int .u8 (gt name 13) :: .int .u8 (gt name 14) :: .int .u8 (gt name 15) :: .int .u8 (gt name 16) :: .int .u8 (gt name 17) :: .int .u8 (gt name 18) :: .int .u8 (gt name 19) :: .int .u8 (gt name 20) :: .int .u8 (gt name 21) :: .int .u8 (gt name 22) :: .int .u8 (gt name 23) :: .int .u8 (gt name 24) :: .int .u8 (gt name 25) :: .int .u8 (gt name 26) :: .int .u8 (gt name 27) :: .int .u8 (gt name 28) :: .int .u8 (gt name 29) :: .int .u8 (gt name 30) :: .int .u8 (gt name 31) :: []))), (1, .var 1 true (.agg [.sl none 3 true (p_.Rules.map e_api_Rule)])), (2, .var 40 true (.agg (.int .u8 (gt x44.1.Name 0) :: .int .u8 (gt x44.1.Name 1) :: .int .u8 (gt x44.1.Name 2) :: .int .u8 (gt x44.1.Name 3) :: .int .u8 (gt x44.1.Name 4) :: .int .u8 (gt x44.1.Name 5) :: .int .u8 (gt x44.1.Name 6) :: .int .u8 (gt x44.1.Name 7) :: .int .u8 (gt x44.1.Name 8) :: .int .u8 (gt x44.1.Name 9) :: .int .u8 (gt x44.1.Name 10) :: .int .u8 (gt x44.1.Name 11) :: .int .u8 (gt x44.1.Name 12) :: .int .u8 (gt x44.1.Name 13) :: .int .u8 (gt x44.1.Name 14) :: .int .u8 (gt x44.1.Name 15) :: .int .u8 (gt x44.1.Name 16) :: .int .u8 (gt x44.1.Name 17) :: .int .u8 (gt x44.1.Name 18) :: .int .u8 (gt x44.1.Name 19) :: .int .u8 (gt x44.1.Name 20) :: .int .u8 (gt x44.1.Name 21) :: .int .u8 (gt x44.1.Name 22) :: .int .u8 (gt x44.1.Name 23) :: .int .u8 (gt x44.1.Name 24) :: .int .u8 (gt x44.1.Name 25) :: .int .u8 (gt x44.1.Name 26) :: .int .u8 (gt x44.1.Name 27) :: .int .u8 (gt x44.1.Name 28) :: .int .u8 (gt x44.1.Name 29) :: .int .u8 (gt x44.1.Name 30) :: .int .u8 (gt x44.1.Name 31) :: .sl none 3 true (x44.1.Policy.Rules.map e_api_Rule) :: .sl none 35 true (x44.1.Open.map e_api_Invoice) :: .int .i64 x44.1.Next :: .sl none 4 true (x44.1.Queue.map e_api_Payment) :: .sl none 35 true (x44.1.Paid.map e_api_Invoice) :: .int .i64 x44.1.Total :: .sl none 1 false (x44.1.Blocked.map (V.int .i64)) :: .int .i64 x44.1.Now :: [])))], 17⟩ : St) sbQ sbQ (hcut22 _ ⟨x44.1, rfl, trivial, hM⟩)
                · rw [if_neg (ne_true h42)] at hM
                  refine spQA (And.intro ha19 (And.intro he21 h42)) ?_
                  have nh42 := nzQ h42
                  exact cut_intro (⟨[(3, .sl z3 1 false (waits.map (V.int .u16))), (4, .ptr 0 0), (5, .ptr 1 0), (9, .ptr 2 0), (11, .int .i64 p19.1), (13, .int .u16 (gt amounts p19.2.1)), (53, .sl z2 1 false (amounts.map (V.int .u16))), (54, .int .i64 (amounts.length : Int)), (55, .int .i64 p19.2.1)], [(0, .var 32 true (.agg (.int .u8 (gt name 0) :: .int .u8 (gt name 1) :: .int .u8 (gt name 2) :: .int .u8 (gt name 3) :: .int .u8 (gt name 4) :: .int .u8 (gt name 5) :: .int .u8 (gt name 6) :: .int .u8 (gt name 7) :: .int .u8 (gt name 8) :: .int .u8 (gt name 9) :: .int .u8 (gt name 10) :: .int .u8 (gt name 11) :: .int .u8 (gt name 12) :: .int .u8 (gt name 13) :: .int .u8 (gt name 14) :: .int .u8 (gt name 15) :: .int .u8 (gt name 16) :: .int .u8 (gt name 17) :: .int .u8 (gt name 18) :: .int .u8 (gt name 19) :: .int .u8 (gt name 20) :: .int .u8 (gt name 21) :: .int .u8 (gt name 22) :: .int .u8 (gt name 23) :: .int .u8 (gt name 24) :: .int .u8 (gt name 25) :: .int .u8 (gt name 26) :: .int .u8 (gt name 27) :: .int .u8 (gt name 28) :: .int .u8 (gt name 29) :: .int .u8 (gt name 30) :: .int .u8 (gt name 31) :: []))), (1, .var 1 true (.agg [.sl none 3 true (p_.Rules.map e_api_Rule)])), (2, .var 40 true (.agg (.int .u8 (gt p19.2.2.Name 0) :: .int .u8 (gt p19.2.2.Name 1) :: .int .u8 (gt p19.2.2.Name 2) :: .int .u8 (gt p19.2.2.Name 3) :: .int .u8 (gt p19.2.2.Name 4) :: .int .u8 (gt p19.2.2.Name 5) :: .int .u8 (gt p19.2.2.Name 6) :: .int .u8 (gt p19.2.2.Name 7) :: .int .u8 (gt p19.2.2.Name 8) :: .int .u8 (gt p19.2.2.Name 9) :: .int .u8 (gt p19.2.2.Name 10) :: .int .u8 (gt p19.2.2.Name 11) :: .int .u8 (gt p19.2.2.Name 12) :: .int .u8 (gt p19.2.2.Name 13) :: .int .u8 (gt p19.2.2.Name 14) :: .int .u8 (gt p19.2.2.Name 15) :: .int .u8 (gt p19.2.2.Name 16) :: .int .u8 (gt p19.2.2.Name 17) :: .int .u8 (gt p19.2.2.Name 18) :: .int .u8 (gt p19.2.2.Name 19) :: .int .u8 (gt p19.2.2.Name 20) :: .int .u8 (gt p19.2.2.Name 21) :: .int .u8 (gt p19.2.2.Name 22) :: .int .u8 (gt p19.2.2.Name 23) :: .int .u8 (gt p19.2.2.Name 24) :: .int .u8 (gt p19.2.2.Name 25) :: .int .u8 (gt p19.2.2.Name 26) :: .int .u8 (gt p19.2.2.Name 27) :: .int .u8 (gt p19.2.2.Name 28) :: .int .u8 (gt p19.2.2.Name 29) :: .int .u8 (gt p19.2.2.Name 30) :: .int .u8 (gt p19.2.2.Name 31) :: .sl none 3 true (p19.2.2.Policy.Rules.map e_api_Rule) :: .sl none 35 true (p19.2.2.Open.map e_api_Invoice) :: .int .i64 p19.2.2.Next :: .sl none 4 true (p19.2.2.Queue.map e_api_Payment) :: .sl none 35 true (p19.2.2.Paid.map e_api_Invoice) :: .int .i64 p19.2.2.Total :: .sl none 1 false (p19.2.2.Blocked.map (V.int .i64)) :: .int .i64 p19.2.2.Now :: [])))], 17⟩ : St) sbQ sbQ (hcut22 _ ⟨p19.2.2, rfl, trivial, hM⟩)
            · rw [if_neg (ne_true h20)] at hM
              refine spQA (And.intro ha19 h20) ?_
              have nh20 := nzQ h20
              refine guardC_t (fun h47 => ?_) (fun h47 => ?_)
              · rw [if_pos h47] at hM
                refine spQA (And.intro ha19 h47) ?_
                have nh47 := nzQ h47
                refine guardC_t (fun h48 => ?_) (fun h48 => ?_)
                · rw [if_pos h48] at hM
                  refine spQA (And.intro ha19 h48) ?_
                  have nh48 := nzQ h48
                  subst hM
                  exact retC_view (lfQA (And.intro ha19 (And.intro h4 (And.intro h5 (And.intro h6 (And.intro h7 (And.intro h14 (And.intro h20 (And.intro h47 h48)))))))))
                · rw [if_neg (ne_true h48)] at hM
                  refine spQA (And.intro ha19 h48) ?_
                  have nh48 := nzQ h48
                  subst hM
                  exact retC_view (lfQA (And.intro ha19 (And.intro h4 (And.intro h5 (And.intro h6 (And.intro h7 (And.intro h14 (And.intro h20 (And.intro h47 h48)))))))))
              · rw [if_neg (ne_true h47)] at hM
                refine spQA (And.intro ha19 h47) ?_
                have nh47 := nzQ h47
                subst hM
                exact retC_view (lfQA (And.intro ha19 (And.intro h4 (And.intro h5 (And.intro h6 (And.intro h7 (And.intro h14 (And.intro h20 h47))))))))
      · rw [if_pos h6] at hM
        refine spQA h6 ?_
        have nh6 := nzQ h6
        have hM0 := hM; clear hM; obtain ⟨x49, hx50, hM⟩ := letk_opn hM0; clear hM0
        have hcx49 := specielaw47_awake_ok   
        rw [← hx50] at hcx49
        refine callC_give hcx49 clQ clQ (fun hw51 => ?_)
        replace hw51 := nzQ hw51
        refine spQ ?_
        subst hM
        exact retC_view (lfQA (And.intro h4 (And.intro h5 h6)))
    · rw [if_pos h5] at hM
      refine spQA h5 ?_
      have nh5 := nzQ h5
      have hM0 := hM; clear hM; obtain ⟨x52, hx53, hM⟩ := letk_opn hM0; clear hM0
      have hcx52 := specielaw47_awake_ok   
      rw [← hx53] at hcx52
      refine callC_give hcx52 clQ clQ (fun hw54 => ?_)
      replace hw54 := nzQ hw54
      refine spQ ?_
      subst hM
      exact retC_view (lfQA (And.intro h4 h5))
  · rw [if_pos h4] at hM
    refine spQA h4 ?_
    have nh4 := nzQ h4
    have hM0 := hM; clear hM; obtain ⟨x55, hx56, hM⟩ := letk_opn hM0; clear hM0
    have hcx55 := specielaw47_awake_ok   
    rw [← hx56] at hcx55
    refine callC_give hcx55 clQ clQ (fun hw57 => ?_)
    replace hw57 := nzQ hw57
    refine spQ ?_
    subst hM
    exact retC_view (lfQA h4)
end Go.Proofs.Ytdidhdgdklkgeaa
