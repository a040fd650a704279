/- Each function computes its model (printed by program). -/
import Derived.Test.YtcbdmoihobdjaaaU1
namespace Go.Proofs.Ytcbdmoihobdjaaa
open Go.RowKit
set_option linter.unusedSimpArgs false
set_option maxHeartbeats 2000000 in
set_option maxRecDepth 100000 in
theorem escrow_FromItem_ok   (i_ : S_api_Item)  : CallOk En 67 [.agg [.int .i64 i_.Kind, .int .i64 i_.N, .sl none 1 false (i_.B.map (V.int .u8)), .sl none 4 true (i_.L.map e_api_Item)]] (.tup [.agg [.int .i64 (escrow_FromItem i_).1.E1, .int .i64 (escrow_FromItem i_).1.E2, .sl none 1 false ((escrow_FromItem i_).1.Proof.A.map (V.int .i64)), .int .i64 (escrow_FromItem i_).1.Proof.C, .sl none 1 false ((escrow_FromItem i_).1.Proof.Z.map (V.int .i64))], .int .i64 (escrow_FromItem i_).2]) [] := by
  generalize hM : escrow_FromItem i_ = r
  rw [escrow_FromItem.eq_1] at hM
  refine enterV En_ok En_mo noJ Try.func67 rfl Try.ntmps67 (by kernel_rfl) fun hw => ct_start ?_
  refine spQ ?_
  replace hw := nzQ hw
  have hM0 := hM; clear hM; obtain ⟨x1, hx2, hM⟩ := letk_opn hM0; clear hM0
  have hcx1 := encode_Valid_ok  i_ 
  rw [← hx2] at hcx1
  refine callC_give hcx1 clQ clQ (fun hw3 => ?_)
  replace hw3 := nzQ hw3
  refine spQ ?_
  refine condC_intro (fun h4 => ?_) (fun h4 => ?_)
  · rw [if_pos h4] at hM
    refine spQA h4 ?_
    have nh4 := nzQ h4
    subst hM
    exact retC_view (lfQA h4)
  · rw [if_neg (ne_true h4)] at hM
    refine spQA h4 ?_
    have nh4 := nzQ h4
    refine guardC_f (fun h5 => ?_) (fun h5 => ?_)
    · rw [if_neg (ne_true h5)] at hM
      refine spQA h5 ?_
      have nh5 := nzQ h5
      refine guardC_f (fun h6 => ?_) (fun h6 => ?_)
      · rw [if_neg (ne_true h6)] at hM
        refine spQA h6 ?_
        have nh6 := nzQ h6
        refine bindC_intro omQ ?_
        have he7 : ∀ d, elt (i_.L.map e_api_Item) 2 d = e_api_Item (gt i_.L 2) := fun d => elt_mp (l := i_.L) (f := e_api_Item) (i := 2) omQ d
        refine spQA he7 ?_
        refine condC_intro (fun h8 => ?_) (fun h8 => ?_)
        · rw [if_pos h8] at hM
          refine spQA (And.intro he7 h8) ?_
          have nh8 := nzQ h8
          subst hM
          exact retC_view (lfQA (And.intro he7 (And.intro h4 (And.intro h5 (And.intro h6 h8)))))
        · rw [if_neg (ne_true h8)] at hM
          refine spQA (And.intro he7 h8) ?_
          have nh8 := nzQ h8
          refine bindC_intro omQ ?_
          have he9 : ∀ d, elt (i_.L.map e_api_Item) 0 d = e_api_Item (gt i_.L 0) := fun d => elt_mp (l := i_.L) (f := e_api_Item) (i := 0) omQ d
          refine spQA (And.intro he7 he9) ?_
          have hM0 := hM; clear hM; obtain ⟨x10, hx11, hM⟩ := letk_opn hM0; clear hM0
          have hcx10 := encode_Numbers_ok  (gt i_.L 0) 
          rw [← hx11] at hcx10
          refine callC_give hcx10 (clQA (And.intro he7 he9)) (clQA (And.intro he7 he9)) (fun hw12 => ?_)
          replace hw12 := nzQ hw12
          refine spQA (And.intro he7 he9) ?_
          refine bindC_intro omQ ?_
          have he13 : ∀ d, elt (i_.L.map e_api_Item) 1 d = e_api_Item (gt i_.L 1) := fun d => elt_mp (l := i_.L) (f := e_api_Item) (i := 1) omQ d
          refine spQA (And.intro he7 (And.intro he9 he13)) ?_
          have hM0 := hM; clear hM; obtain ⟨x14, hx15, hM⟩ := letk_opn hM0; clear hM0
          have hcx14 := encode_Numbers_ok  (gt i_.L 1) 
          rw [← hx15] at hcx14
          refine callC_give hcx14 (clQA (And.intro he7 (And.intro he9 he13))) (clQA (And.intro he7 (And.intro he9 he13))) (fun hw16 => ?_)
          replace hw16 := nzQ hw16
          refine spQA (And.intro he7 (And.intro he9 he13)) ?_
          refine bindC_intro omQ ?_
          have he17 : ∀ d, elt (i_.L.map e_api_Item) 3 d = e_api_Item (gt i_.L 3) := fun d => elt_mp (l := i_.L) (f := e_api_Item) (i := 3) omQ d
          refine spQA (And.intro he7 (And.intro he9 (And.intro he13 he17))) ?_
          have hM0 := hM; clear hM; obtain ⟨x18, hx19, hM⟩ := letk_opn hM0; clear hM0
          have hcx18 := encode_Numbers_ok  (gt i_.L 3) 
          rw [← hx19] at hcx18
          refine callC_give hcx18 (clQA (And.intro he7 (And.intro he9 (And.intro he13 he17)))) (clQA (And.intro he7 (And.intro he9 (And.intro he13 he17)))) (fun hw20 => ?_)
          replace hw20 := nzQ hw20
          refine spQA (And.intro he7 (And.intro he9 (And.intro he13 he17))) ?_
          refine guardC_f (fun h21 => ?_) (fun h21 => ?_)
          · rw [if_neg (ne_true h21)] at hM
            refine spQA (And.intro he7 (And.intro he9 (And.intro he13 (And.intro he17 h21)))) ?_
            have nh21 := nzQ h21
            refine guardC_f (fun h22 => ?_) (fun h22 => ?_)
            · rw [if_neg (ne_true h22)] at hM
              refine spQA (And.intro he7 (And.intro he9 (And.intro he13 (And.intro he17 h22)))) ?_
              have nh22 := nzQ h22
              refine guardC_f (fun h23 => ?_) (fun h23 => ?_)
              · rw [if_neg (ne_true h23)] at hM
                refine spQA (And.intro he7 (And.intro he9 (And.intro he13 (And.intro he17 h23)))) ?_
                have nh23 := nzQ h23
                refine condC_intro (fun h24 => ?_) (fun h24 => ?_)
                · rw [if_pos h24] at hM
                  refine spQA (And.intro he7 (And.intro he9 (And.intro he13 (And.intro he17 h24)))) ?_
                  have nh24 := nzQ h24
                  subst hM
                  exact retC_view (lfQA (And.intro he7 (And.intro he9 (And.intro he13 (And.intro he17 (And.intro h4 (And.intro h5 (And.intro h6 (And.intro h8 (And.intro h21 (And.intro h22 (And.intro h23 h24))))))))))))
                · rw [if_neg (ne_true h24)] at hM
                  refine spQA (And.intro he7 (And.intro he9 (And.intro he13 (And.intro he17 h24)))) ?_
                  have nh24 := nzQ h24
                  refine ct_draw 87 14 [72, 73, 74, 75, 76, 77, 78, 79, 80, 81, 82, 83, 84, 85] [] ([[], [0], [0, 1], [], [3], [3, 4], [], [], [7], [7, 8], [7, 8, 9], [7, 8, 9, 10], [], [6, 7, 8, 9, 10, 11, 12]] ++ [List.range 14, List.range 15, List.range 16]) [] (by kernel_rfl) (by exact alQ) ?_
                  refine spQA (And.intro he7 (And.intro he9 (And.intro he13 he17))) ?_
                  refine hbindC_intro omQ ?_
                  have he25 : ∀ d, elt (x10.1.map (V.int .i64)) 0 d = (V.int .i64) (gt x10.1 0) := fun d => elt_mp (l := x10.1) (f := (V.int .i64)) (i := 0) omQ d
                  refine spQA (And.intro he7 (And.intro he9 (And.intro he13 (And.intro he17 he25)))) ?_
                  refine hbindC_intro omQ ?_
                  have he26 : ∀ d, elt (x10.1.map (V.int .i64)) 1 d = (V.int .i64) (gt x10.1 1) := fun d => elt_mp (l := x10.1) (f := (V.int .i64)) (i := 1) omQ d
                  refine spQA (And.intro he7 (And.intro he9 (And.intro he13 (And.intro he17 (And.intro he25 he26))))) ?_
                  refine hbindC_intro omQ ?_
                  refine spQA (And.intro he7 (And.intro he9 (And.intro he13 (And.intro he17 (And.intro he25 he26))))) ?_
                  subst hM
                  exact retC_view (lfQA (And.intro he7 (And.intro he9 (And.intro he13 (And.intro he17 (And.intro he25 (And.intro he26 (And.intro h4 (And.intro h5 (And.intro h6 (And.intro h8 (And.intro h21 (And.intro h22 (And.intro h23 h24))))))))))))))
              · rw [if_pos h23] at hM
                refine spQA (And.intro he7 (And.intro he9 (And.intro he13 (And.intro he17 h23)))) ?_
                have nh23 := nzQ h23
                subst hM
                exact retC_view (lfQA (And.intro he7 (And.intro he9 (And.intro he13 (And.intro he17 (And.intro h4 (And.intro h5 (And.intro h6 (And.intro h8 (And.intro h21 (And.intro h22 h23)))))))))))
            · rw [if_pos h22] at hM
              refine spQA (And.intro he7 (And.intro he9 (And.intro he13 (And.intro he17 h22)))) ?_
              have nh22 := nzQ h22
              subst hM
              exact retC_view (lfQA (And.intro he7 (And.intro he9 (And.intro he13 (And.intro he17 (And.intro h4 (And.intro h5 (And.intro h6 (And.intro h8 (And.intro h21 h22))))))))))
          · rw [if_pos h21] at hM
            refine spQA (And.intro he7 (And.intro he9 (And.intro he13 (And.intro he17 h21)))) ?_
            have nh21 := nzQ h21
            subst hM
            exact retC_view (lfQA (And.intro he7 (And.intro he9 (And.intro he13 (And.intro he17 (And.intro h4 (And.intro h5 (And.intro h6 (And.intro h8 h21)))))))))
      · rw [if_pos h6] at hM
        refine spQA h6 ?_
        have nh6 := nzQ h6
        subst hM
        exact retC_view (lfQA (And.intro h4 (And.intro h5 h6)))
    · rw [if_pos h5] at hM
      refine spQA h5 ?_
      have nh5 := nzQ h5
      subst hM
      exact retC_view (lfQA (And.intro h4 h5))
set_option maxHeartbeats 2000000 in
set_option maxRecDepth 100000 in
theorem payment_readEscrow_ok   (i_ : S_api_Item)  : CallOk En 40 [.agg [.int .i64 i_.Kind, .int .i64 i_.N, .sl none 1 false (i_.B.map (V.int .u8)), .sl none 4 true (i_.L.map e_api_Item)]] (.tup [.agg [.int .i64 (payment_readEscrow i_).1.E1, .int .i64 (payment_readEscrow i_).1.E2, .sl none 1 false ((payment_readEscrow i_).1.Proof.A.map (V.int .i64)), .int .i64 (payment_readEscrow i_).1.Proof.C, .sl none 1 false ((payment_readEscrow i_).1.Proof.Z.map (V.int .i64))], .bool (payment_readEscrow i_).2]) [] := by
  generalize hM : payment_readEscrow i_ = r
  rw [payment_readEscrow.eq_1] at hM
  refine enterV En_ok En_mo noJ Try.func40 rfl Try.ntmps40 (by kernel_rfl) fun hw => ct_start ?_
  refine spQ ?_
  replace hw := nzQ hw
  have hM0 := hM; clear hM; obtain ⟨x1, hx2, hM⟩ := letk_opn hM0; clear hM0
  have hcx1 := escrow_FromItem_ok  i_ 
  rw [← hx2] at hcx1
  refine callC_give hcx1 clQ clQ (fun hw3 => ?_)
  replace hw3 := nzQ hw3
  refine spQ ?_
  subst hM
  exact retC_view lfQ
set_option maxHeartbeats 2000000 in
set_option maxRecDepth 100000 in
theorem payment_things_api_Chain_at_payment_readChain_ok   (i_ : S_api_Item)  : CallOk En 37 [.agg [.int .i64 i_.Kind, .int .i64 i_.N, .sl none 1 false (i_.B.map (V.int .u8)), .sl none 4 true (i_.L.map e_api_Item)], .fn 38 []] (.tup [.sl none 81 true ((payment_things_api_Chain_at_payment_readChain i_).1.map e_api_Chain), .bool (payment_things_api_Chain_at_payment_readChain i_).2]) [] := by
  generalize hM : payment_things_api_Chain_at_payment_readChain i_ = r
  rw [payment_things_api_Chain_at_payment_readChain.eq_1] at hM
  refine enterV En_ok En_mo noJ Try.func37 rfl Try.ntmps37 (by kernel_rfl) fun hw => ct_start ?_
  refine spQ ?_
  replace hw := nzQ hw
  refine condC_intro (fun h1 => ?_) (fun h1 => ?_)
  · rw [if_pos h1] at hM
    refine spQA h1 ?_
    have nh1 := nzQ h1
    subst hM
    exact retC_view (lfQA h1)
  · rw [if_neg (ne_true h1)] at hM
    refine spQA h1 ?_
    have nh1 := nzQ h1
    have hM0 := hM; clear hM; obtain ⟨f2, d2, hf2, hd2, hM⟩ := iter_opn hM0; clear hM0
    refine ct_loopW (fun n S => ∃ p : Int × List S_api_Chain, S = (⟨[(1, .fn 38 []), (6, .own 1), (15, .sl none 4 true (i_.L.map e_api_Item)), (16, .int .i64 (i_.L.length : Int)), (17, .int .i64 p.1)], [(1, .own 74 81 true none (p.2.map e_api_Chain))], 2⟩ : St) ∧ ((0 ≤ p.1) ∧ (p.1 ≤ (i_.L.length : Int)) ∧ (((p.2).length : Int) ≤ p.1)) ∧ ((i_.L.length : Int) - p.1).toNat < n ∧ iter n f2 d2 p = r) (((i_.L.length : Int) - 0).toNat + 1) _ (⟨[(1, .fn 38 []), (6, .own 1), (15, .sl none 4 true (i_.L.map e_api_Item)), (16, .int .i64 (i_.L.length : Int)), (17, .int .i64 0)], [(1, .own 74 81 true none (([] : List S_api_Chain).map e_api_Chain))], 2⟩ : St) (weak_nil 6 74 rfl (by decide)) sbQ sbQ ⟨(0, ([] : List S_api_Chain)), rfl, ⟨omQ, omQ, omQ⟩, (Nat.lt_succ_self _), hM⟩ ?_
    clear hM
    rintro n2 S ⟨p2, rfl, hfa2, hm2, hM⟩
    have hM0 := hM; clear hM; obtain ⟨ag2, hag2, hM⟩ := iter_step hM0 (by omega) hf2; clear hM0
    replace hfa2 := nzQ hfa2
    replace hm2 := nzQ hm2
    have ha2 : addI .i64 p2.1 1 = p2.1 + 1 := add_one omQ omQ
    refine spQA ha2 ?_
    refine condC_intro (fun h3 => ?_) (fun h3 => ?_)
    · rw [if_pos h3] at hM
      refine spQA (And.intro ha2 h3) ?_
      have nh3 := nzQ h3
      refine bindC_intro omQ ?_
      have he4 := fun d => elt_mp (l := i_.L) (f := e_api_Item) (i := p2.1) omQ d
      refine spQA (And.intro ha2 he4) ?_
      have hM0 := hM; clear hM; obtain ⟨x5, hx6, hM⟩ := letk_opn hM0; clear hM0
      have hcx5 := payment_readChain_ok  (gt i_.L p2.1) 
      rw [← hx6] at hcx5
      refine callC_give hcx5 (clQA (And.intro ha2 he4)) (clQA (And.intro ha2 he4)) (fun hw7 => ?_)
      replace hw7 := nzQ hw7
      refine spQA (And.intro ha2 he4) ?_
      refine condC_intro (fun h8 => ?_) (fun h8 => ?_)
      · rw [if_pos h8] at hM
        refine spQA (And.intro ha2 (And.intro he4 h8)) ?_
        have nh8 := nzQ h8
        subst hM
        exact retC_view (lfQA (And.intro ha2 (And.intro he4 (And.intro h1 (And.intro h3 h8)))))
      · rw [if_neg (ne_true h8)] at hM
        refine spQA (And.intro ha2 (And.intro he4 h8)) ?_
        have nh8 := nzQ h8
        refine bindC_intro omQ ?_
        refine spQA (And.intro ha2 he4) ?_
        refine lp_intro (n2 - 1) (⟨[(1, .fn 38 []), (6, .own 1), (15, .sl none 4 true (i_.L.map e_api_Item)), (16, .int .i64 (i_.L.length : Int)), (17, .int .i64 (p2.1 + 1))], [(1, .own 74 81 true none ((p2.2 ++ ([x5.1] : List S_api_Chain)).map e_api_Chain))], 2⟩ : St) (by omega) sbQ sbQ ⟨((p2.1 + 1), (p2.2 ++ ([x5.1] : List S_api_Chain))), rfl, ⟨omQ, omQ, omQ⟩, omQ, iter_again hM hag2⟩
    · rw [if_neg (ne_true h3)] at hM
      refine spQA (And.intro ha2 h3) ?_
      have nh3 := nzQ h3
      subst hM
      exact retC_view (lfQA (And.intro ha2 (And.intro h1 h3)))
set_option maxHeartbeats 2000000 in
set_option maxRecDepth 100000 in
theorem payment_things_api_Escrow_at_payment_readEscrow_ok   (i_ : S_api_Item)  : CallOk En 39 [.agg [.int .i64 i_.Kind, .int .i64 i_.N, .sl none 1 false (i_.B.map (V.int .u8)), .sl none 4 true (i_.L.map e_api_Item)], .fn 40 []] (.tup [.sl none 5 true ((payment_things_api_Escrow_at_payment_readEscrow i_).1.map e_api_Escrow), .bool (payment_things_api_Escrow_at_payment_readEscrow i_).2]) [] := by
  generalize hM : payment_things_api_Escrow_at_payment_readEscrow i_ = r
  rw [payment_things_api_Escrow_at_payment_readEscrow.eq_1] at hM
  refine enterV En_ok En_mo noJ Try.func39 rfl Try.ntmps39 (by kernel_rfl) fun hw => ct_start ?_
  refine spQ ?_
  replace hw := nzQ hw
  refine condC_intro (fun h1 => ?_) (fun h1 => ?_)
  · rw [if_pos h1] at hM
    refine spQA h1 ?_
    have nh1 := nzQ h1
    subst hM
    exact retC_view (lfQA h1)
  · rw [if_neg (ne_true h1)] at hM
    refine spQA h1 ?_
    have nh1 := nzQ h1
    have hM0 := hM; clear hM; obtain ⟨f2, d2, hf2, hd2, hM⟩ := iter_opn hM0; clear hM0
    refine ct_loopW (fun n S => ∃ p : Int × List S_api_Escrow, S = (⟨[(1, .fn 40 []), (6, .own 1), (15, .sl none 4 true (i_.L.map e_api_Item)), (16, .int .i64 (i_.L.length : Int)), (17, .int .i64 p.1)], [(1, .own 81 5 true none (p.2.map e_api_Escrow))], 2⟩ : St) ∧ ((0 ≤ p.1) ∧ (p.1 ≤ (i_.L.length : Int)) ∧ (((p.2).length : Int) ≤ p.1)) ∧ ((i_.L.length : Int) - p.1).toNat < n ∧ iter n f2 d2 p = r) (((i_.L.length : Int) - 0).toNat + 1) _ (⟨[(1, .fn 40 []), (6, .own 1), (15, .sl none 4 true (i_.L.map e_api_Item)), (16, .int .i64 (i_.L.length : Int)), (17, .int .i64 0)], [(1, .own 81 5 true none (([] : List S_api_Escrow).map e_api_Escrow))], 2⟩ : St) (weak_nil 6 81 rfl (by decide)) sbQ sbQ ⟨(0, ([] : List S_api_Escrow)), rfl, ⟨omQ, omQ, omQ⟩, (Nat.lt_succ_self _), hM⟩ ?_
    clear hM
    rintro n2 S ⟨p2, rfl, hfa2, hm2, hM⟩
    have hM0 := hM; clear hM; obtain ⟨ag2, hag2, hM⟩ := iter_step hM0 (by omega) hf2; clear hM0
    replace hfa2 := nzQ hfa2
    replace hm2 := nzQ hm2
    have ha2 : addI .i64 p2.1 1 = p2.1 + 1 := add_one omQ omQ
    refine spQA ha2 ?_
    refine condC_intro (fun h3 => ?_) (fun h3 => ?_)
    · rw [if_pos h3] at hM
      refine spQA (And.intro ha2 h3) ?_
      have nh3 := nzQ h3
      refine bindC_intro omQ ?_
      have he4 := fun d => elt_mp (l := i_.L) (f := e_api_Item) (i := p2.1) omQ d
      refine spQA (And.intro ha2 he4) ?_
      have hM0 := hM; clear hM; obtain ⟨x5, hx6, hM⟩ := letk_opn hM0; clear hM0
      have hcx5 := payment_readEscrow_ok  (gt i_.L p2.1) 
      rw [← hx6] at hcx5
      refine callC_give hcx5 (clQA (And.intro ha2 he4)) (clQA (And.intro ha2 he4)) (fun hw7 => ?_)
      replace hw7 := nzQ hw7
      refine spQA (And.intro ha2 he4) ?_
      refine condC_intro (fun h8 => ?_) (fun h8 => ?_)
      · rw [if_pos h8] at hM
        refine spQA (And.intro ha2 (And.intro he4 h8)) ?_
        have nh8 := nzQ h8
        subst hM
        exact retC_view (lfQA (And.intro ha2 (And.intro he4 (And.intro h1 (And.intro h3 h8)))))
      · rw [if_neg (ne_true h8)] at hM
        refine spQA (And.intro ha2 (And.intro he4 h8)) ?_
        have nh8 := nzQ h8
        refine bindC_intro omQ ?_
        refine spQA (And.intro ha2 he4) ?_
        refine lp_intro (n2 - 1) (⟨[(1, .fn 40 []), (6, .own 1), (15, .sl none 4 true (i_.L.map e_api_Item)), (16, .int .i64 (i_.L.length : Int)), (17, .int .i64 (p2.1 + 1))], [(1, .own 81 5 true none ((p2.2 ++ ([x5.1] : List S_api_Escrow)).map e_api_Escrow))], 2⟩ : St) (by omega) sbQ sbQ ⟨((p2.1 + 1), (p2.2 ++ ([x5.1] : List S_api_Escrow))), rfl, ⟨omQ, omQ, omQ⟩, omQ, iter_again hM hag2⟩
    · rw [if_neg (ne_true h3)] at hM
      refine spQA (And.intro ha2 h3) ?_
      have nh3 := nzQ h3
      subst hM
      exact retC_view (lfQA (And.intro ha2 (And.intro h1 h3)))
set_option maxHeartbeats 2000000 in
set_option maxRecDepth 100000 in
theorem payment_Decode_ok  (z0 : Option Bool) (x_ : (List Int))  : CallOk En 8 [.sl z0 1 false (x_.map (V.int .u8))] (.tup [.agg [.int .i64 (payment_Decode x_).1.Number, .sl none 80 true ((payment_Decode x_).1.Spends.map e_api_Spend), .sl none 81 true ((payment_Decode x_).1.Chains.map e_api_Chain), .sl none 5 true ((payment_Decode x_).1.Escrow.map e_api_Escrow)], .int .i64 (payment_Decode x_).2]) [] := by
  generalize hM : payment_Decode x_ = r
  rw [payment_Decode.eq_1] at hM
  refine enterV En_ok En_mo noJ Try.func8 rfl Try.ntmps8 (by kernel_rfl) fun hw => ct_start ?_
  refine spQ ?_
  replace hw := nzQ hw
  have hM0 := hM; clear hM; obtain ⟨x1, hx2, hM⟩ := letk_opn hM0; clear hM0
  have hcx1 := encode_Decode_ok z0 x_ 
  rw [← hx2] at hcx1
  refine callC_give hcx1 clQ clQ (fun hw3 => ?_)
  replace hw3 := nzQ hw3
  refine spQ ?_
  refine guardC_f (fun h4 => ?_) (fun h4 => ?_)
  · rw [if_neg (ne_true h4)] at hM
    refine spQA h4 ?_
    have nh4 := nzQ h4
    refine guardC_f (fun h5 => ?_) (fun h5 => ?_)
    · rw [if_neg (ne_true h5)] at hM
      refine spQA h5 ?_
      have nh5 := nzQ h5
      refine guardC_f (fun h6 => ?_) (fun h6 => ?_)
      · rw [if_neg (ne_true h6)] at hM
        refine spQA h6 ?_
        have nh6 := nzQ h6
        refine bindC_intro omQ ?_
        have he7 : ∀ d, elt (x1.1.L.map e_api_Item) 0 d = e_api_Item (gt x1.1.L 0) := fun d => elt_mp (l := x1.1.L) (f := e_api_Item) (i := 0) omQ d
        refine spQA he7 ?_
        refine condC_intro (fun h8 => ?_) (fun h8 => ?_)
        · rw [if_pos h8] at hM
          refine spQA (And.intro he7 h8) ?_
          have nh8 := nzQ h8
          subst hM
          exact retC_view (lfQA (And.intro he7 (And.intro h4 (And.intro h5 (And.intro h6 h8)))))
        · rw [if_neg (ne_true h8)] at hM
          refine spQA (And.intro he7 h8) ?_
          have nh8 := nzQ h8
          refine bindC_intro omQ ?_
          have he9 : ∀ d, elt (x1.1.L.map e_api_Item) 1 d = e_api_Item (gt x1.1.L 1) := fun d => elt_mp (l := x1.1.L) (f := e_api_Item) (i := 1) omQ d
          refine spQA (And.intro he7 he9) ?_
          have hM0 := hM; clear hM; obtain ⟨x10, hx11, hM⟩ := letk_opn hM0; clear hM0
          have hcx10 := payment_things_api_Spend_at_payment_readSpend_ok  (gt x1.1.L 1) 
          rw [← hx11] at hcx10
          refine callC_give hcx10 (clQA (And.intro he7 he9)) (clQA (And.intro he7 he9)) (fun hw12 => ?_)
          replace hw12 := nzQ hw12
          refine spQA (And.intro he7 he9) ?_
          refine bindC_intro omQ ?_
          have he13 : ∀ d, elt (x1.1.L.map e_api_Item) 2 d = e_api_Item (gt x1.1.L 2) := fun d => elt_mp (l := x1.1.L) (f := e_api_Item) (i := 2) omQ d
          refine spQA (And.intro he7 (And.intro he9 he13)) ?_
          have hM0 := hM; clear hM; obtain ⟨x14, hx15, hM⟩ := letk_opn hM0; clear hM0
          have hcx14 := payment_things_api_Chain_at_payment_readChain_ok  (gt x1.1.L 2) 
          rw [← hx15] at hcx14
          refine callC_give hcx14 (clQA (And.intro he7 (And.intro he9 he13))) (clQA (And.intro he7 (And.intro he9 he13))) (fun hw16 => ?_)
          replace hw16 := nzQ hw16
          refine spQA (And.intro he7 (And.intro he9 he13)) ?_
          refine bindC_intro omQ ?_
          have he17 : ∀ d, elt (x1.1.L.map e_api_Item) 3 d = e_api_Item (gt x1.1.L 3) := fun d => elt_mp (l := x1.1.L) (f := e_api_Item) (i := 3) omQ d
          refine spQA (And.intro he7 (And.intro he9 (And.intro he13 he17))) ?_
          have hM0 := hM; clear hM; obtain ⟨x18, hx19, hM⟩ := letk_opn hM0; clear hM0
          have hcx18 := payment_things_api_Escrow_at_payment_readEscrow_ok  (gt x1.1.L 3) 
          rw [← hx19] at hcx18
          refine callC_give hcx18 (clQA (And.intro he7 (And.intro he9 (And.intro he13 he17)))) (clQA (And.intro he7 (And.intro he9 (And.intro he13 he17)))) (fun hw20 => ?_)
          replace hw20 := nzQ hw20
          refine spQA (And.intro he7 (And.intro he9 (And.intro he13 he17))) ?_
          refine guardC_f (fun h21 => ?_) (fun h21 => ?_)
          · rw [if_neg (ne_true h21)] at hM
            refine spQA (And.intro he7 (And.intro he9 (And.intro he13 (And.intro he17 h21)))) ?_
            have nh21 := nzQ h21
            refine guardC_f (fun h22 => ?_) (fun h22 => ?_)
            · rw [if_neg (ne_true h22)] at hM
              refine spQA (And.intro he7 (And.intro he9 (And.intro he13 (And.intro he17 h22)))) ?_
              have nh22 := nzQ h22
              refine condC_intro (fun h23 => ?_) (fun h23 => ?_)
              · rw [if_pos h23] at hM
                refine spQA (And.intro he7 (And.intro he9 (And.intro he13 (And.intro he17 h23)))) ?_
                have nh23 := nzQ h23
                subst hM
                exact retC_view (lfQA (And.intro he7 (And.intro he9 (And.intro he13 (And.intro he17 (And.intro h4 (And.intro h5 (And.intro h6 (And.intro h8 (And.intro h21 (And.intro h22 h23)))))))))))
              · rw [if_neg (ne_true h23)] at hM
                refine spQA (And.intro he7 (And.intro he9 (And.intro he13 (And.intro he17 h23)))) ?_
                have nh23 := nzQ h23
                refine bindC_intro omQ ?_
                refine spQA (And.intro he7 (And.intro he9 (And.intro he13 he17))) ?_
                subst hM
                exact retC_view (lfQA (And.intro he7 (And.intro he9 (And.intro he13 (And.intro he17 (And.intro h4 (And.intro h5 (And.intro h6 (And.intro h8 (And.intro h21 (And.intro h22 h23)))))))))))
            · rw [if_pos h22] at hM
              refine spQA (And.intro he7 (And.intro he9 (And.intro he13 (And.intro he17 h22)))) ?_
              have nh22 := nzQ h22
              subst hM
              exact retC_view (lfQA (And.intro he7 (And.intro he9 (And.intro he13 (And.intro he17 (And.intro h4 (And.intro h5 (And.intro h6 (And.intro h8 (And.intro h21 h22))))))))))
          · rw [if_pos h21] at hM
            refine spQA (And.intro he7 (And.intro he9 (And.intro he13 (And.intro he17 h21)))) ?_
            have nh21 := nzQ h21
            subst hM
            exact retC_view (lfQA (And.intro he7 (And.intro he9 (And.intro he13 (And.intro he17 (And.intro h4 (And.intro h5 (And.intro h6 (And.intro h8 h21)))))))))
      · rw [if_pos h6] at hM
        refine spQA h6 ?_
        have nh6 := nzQ h6
        subst hM
        exact retC_view (lfQA (And.intro h4 (And.intro h5 h6)))
    · rw [if_pos h5] at hM
      refine spQA h5 ?_
      have nh5 := nzQ h5
      subst hM
      exact retC_view (lfQA (And.intro h4 h5))
  · rw [if_pos h4] at hM
    refine spQA h4 ?_
    have nh4 := nzQ h4
    subst hM
    exact retC_view (lfQA h4)
set_option maxHeartbeats 2000000 in
set_option maxRecDepth 100000 in
theorem specieref27_Same_ok   (p_ : S_api_Path) (q : S_api_Path)  : CallOk En 52 [.agg [.int .i64 p_.Index, .sl none 32 true (p_.L.map e_arr45)], .agg [.int .i64 q.Index, .sl none 32 true (q.L.map e_arr45)]] (.bool (specieref27_Same p_ q)) [] := by
  generalize hM : specieref27_Same p_ q = r
  rw [specieref27_Same.eq_1] at hM
  refine enterV En_ok En_mo noJ Try.func52 rfl Try.ntmps52 (by kernel_rfl) fun hw => ct_start ?_
  refine spQ ?_
  replace hw := nzQ hw
  refine guardC_f (fun h1 => ?_) (fun h1 => ?_)
  · rw [if_neg (ne_true h1)] at hM
    refine spQA h1 ?_
    have nh1 := nzQ h1
    refine condC_intro (fun h2 => ?_) (fun h2 => ?_)
    · rw [if_pos h2] at hM
      refine spQA h2 ?_
      have nh2 := nzQ h2
      subst hM
      exact retC_view (lfQA (And.intro h1 h2))
    · rw [if_neg (ne_true h2)] at hM
      refine spQA h2 ?_
      have nh2 := nzQ h2
      have hM0 := hM; clear hM; obtain ⟨f3, d3, hf3, hd3, hM⟩ := iter_opn hM0; clear hM0
      refine ct_loop (fun n S => ∃ p : Int, S = (⟨[(2, .ptr 0 0), (3, .ptr 1 0), (5, .int .i64 p)], [(0, .var 2 true (.agg [.int .i64 p_.Index, .sl none 32 true (p_.L.map e_arr45)])), (1, .var 2 true (.agg [.int .i64 q.Index, .sl none 32 true (q.L.map e_arr45)]))], 2⟩ : St) ∧ ((0 ≤ p) ∧ (p ≤ (p_.L.length : Int))) ∧ ((p_.L.length : Int) - p).toNat < n ∧ iter n f3 d3 p = r) (((p_.L.length : Int) - 0).toNat + 1) (⟨[(2, .ptr 0 0), (3, .ptr 1 0), (5, .int .i64 0)], [(0, .var 2 true (.agg [.int .i64 p_.Index, .sl none 32 true (p_.L.map e_arr45)])), (1, .var 2 true (.agg [.int .i64 q.Index, .sl none 32 true (q.L.map e_arr45)]))], 2⟩ : St) sbQ sbQ ⟨0, rfl, ⟨omQ, omQ⟩, (Nat.lt_succ_self _), hM⟩ ?_
      clear hM
      rintro n3 S ⟨p3, rfl, hfa3, hm3, hM⟩
      have hM0 := hM; clear hM; obtain ⟨ag3, hag3, hM⟩ := iter_step hM0 (by omega) hf3; clear hM0
      replace hfa3 := nzQ hfa3
      replace hm3 := nzQ hm3
      have ha3 : addI .i64 p3 1 = p3 + 1 := add_one omQ omQ
      refine spQA ha3 ?_
      refine condC_intro (fun h4 => ?_) (fun h4 => ?_)
      · rw [if_pos h4] at hM
        refine spQA (And.intro ha3 h4) ?_
        have nh4 := nzQ h4
        refine ct_draw 38 10 [27, 28, 29, 30, 31, 32, 33, 34, 35, 36] [] ([[], [0], [], [0, 1, 2], [0, 1, 2, 3], [], [5], [], [5, 6, 7], [5, 6, 7, 8]] ++ [List.range 10]) [] (by kernel_rfl) (by exact alQ) ?_
        refine spQA ha3 ?_
        refine hbindC_intro omQ ?_
        have he5 := fun d => elt_mp (l := p_.L) (f := e_arr45) (i := p3) omQ d
        refine spQA (And.intro ha3 he5) ?_
        refine hbindC_intro omQ ?_
        have he6 := fun d => elt_mp (l := q.L) (f := e_arr45) (i := p3) omQ d
        refine spQA (And.intro ha3 (And.intro he5 he6)) ?_
        refine condC_intro (fun h7 => ?_) (fun h7 => ?_)
        · have kh7 : (!(q_arr45 (gt p_.L p3) (gt q.L p3))) = true := h7
          rw [if_pos kh7] at hM
          refine spQA (And.intro ha3 (And.intro he5 (And.intro he6 h7))) ?_
          have nh7 := nzQ kh7
          subst hM
          exact retC_view (lfQA (And.intro ha3 (And.intro he5 (And.intro he6 (And.intro h1 (And.intro h2 (And.intro h4 h7)))))))
        · have kh7 : (!(q_arr45 (gt p_.L p3) (gt q.L p3))) = false := h7
          rw [if_neg (ne_true kh7)] at hM
          refine spQA (And.intro ha3 (And.intro he5 (And.intro he6 h7))) ?_
          have nh7 := nzQ kh7
          refine lp_intro (n3 - 1) (⟨[(2, .ptr 0 0), (3, .ptr 1 0), (5, .int .i64 (p3 + 1))], [(0, .var 2 true (.agg [.int .i64 p_.Index, .sl none 32 true (p_.L.map e_arr45)])), (1, .var 2 true (.agg [.int .i64 q.Index, .sl none 32 true (q.L.map e_arr45)]))], 2⟩ : St) (by omega) sbQ sbQ ⟨(p3 + 1), rfl, ⟨omQ, omQ⟩, omQ, iter_again hM hag3⟩
      · rw [if_neg (ne_true h4)] at hM
        refine spQA (And.intro ha3 h4) ?_
        have nh4 := nzQ h4
        subst hM
        exact retC_view (lfQA (And.intro ha3 (And.intro h1 (And.intro h2 h4))))
  · rw [if_pos h1] at hM
    refine spQA h1 ?_
    have nh1 := nzQ h1
    subst hM
    exact retC_view (lfQA h1)
set_option maxHeartbeats 2000000 in
set_option maxRecDepth 100000 in
theorem specieref32_Same_ok   (a_ : S_api_Spend) (b : S_api_Spend)  : CallOk En 17 [(e_api_Spend a_), .agg (.int .i64 b.Coin.Bank :: .int .i64 b.Coin.Epoch :: .int .i64 b.Coin.Denom :: .int .i64 b.Coin.Depth :: .int .i64 b.Coin.A :: .int .u8 (gt b.Coin.Root 0) :: .int .u8 (gt b.Coin.Root 1) :: .int .u8 (gt b.Coin.Root 2) :: .int .u8 (gt b.Coin.Root 3) :: .int .u8 (gt b.Coin.Root 4) :: .int .u8 (gt b.Coin.Root 5) :: .int .u8 (gt b.Coin.Root 6) :: .int .u8 (gt b.Coin.Root 7) :: .int .u8 (gt b.Coin.Root 8) :: .int .u8 (gt b.Coin.Root 9) :: .int .u8 (gt b.Coin.Root 10) :: .int .u8 (gt b.Coin.Root 11) :: .int .u8 (gt b.Coin.Root 12) :: .int .u8 (gt b.Coin.Root 13) :: .int .u8 (gt b.Coin.Root 14) :: .int .u8 (gt b.Coin.Root 15) :: .int .u8 (gt b.Coin.Root 16) :: .int .u8 (gt b.Coin.Root 17) :: .int .u8 (gt b.Coin.Root 18) :: .int .u8 (gt b.Coin.Root 19) :: .int .u8 (gt b.Coin.Root 20) :: .int .u8 (gt b.Coin.Root 21) :: .int .u8 (gt b.Coin.Root 22) :: .int .u8 (gt b.Coin.Root 23) :: .int .u8 (gt b.Coin.Root 24) :: .int .u8 (gt b.Coin.Root 25) :: .int .u8 (gt b.Coin.Root 26) :: .int .u8 (gt b.Coin.Root 27) :: .int .u8 (gt b.Coin.Root 28) :: .int .u8 (gt b.Coin.Root 29) :: .int .u8 (gt b.Coin.Root 30) :: .int .u8 (gt b.Coin.Root 31) :: .int .i64 b.Coin.Sign.Z :: .int .i64 b.Coin.Sign.A :: .int .i64 b.Coin.Sign.B :: .int .i64 b.Coin.Sign.R :: .int .i64 b.Node.Level :: .int .i64 b.Node.Index :: .int .u8 (gt b.Context.Payee 0) :: .int .u8 (gt b.Context.Payee 1) :: .int .u8 (gt b.Context.Payee 2) :: .int .u8 (gt b.Context.Payee 3) :: .int .u8 (gt b.Context.Payee 4) :: .int .u8 (gt b.Context.Payee 5) :: .int .u8 (gt b.Context.Payee 6) :: .int .u8 (gt b.Context.Payee 7) :: .int .u8 (gt b.Context.Payee 8) :: .int .u8 (gt b.Context.Payee 9) :: .int .u8 (gt b.Context.Payee 10) :: .int .u8 (gt b.Context.Payee 11) :: .int .u8 (gt b.Context.Payee 12) :: .int .u8 (gt b.Context.Payee 13) :: .int .u8 (gt b.Context.Payee 14) :: .int .u8 (gt b.Context.Payee 15) :: .int .u8 (gt b.Context.Payee 16) :: .int .u8 (gt b.Context.Payee 17) :: .int .u8 (gt b.Context.Payee 18) :: .int .u8 (gt b.Context.Payee 19) :: .int .u8 (gt b.Context.Payee 20) :: .int .u8 (gt b.Context.Payee 21) :: .int .u8 (gt b.Context.Payee 22) :: .int .u8 (gt b.Context.Payee 23) :: .int .u8 (gt b.Context.Payee 24) :: .int .u8 (gt b.Context.Payee 25) :: .int .u8 (gt b.Context.Payee 26) :: .int .u8 (gt b.Context.Payee 27) :: .int .u8 (gt b.Context.Payee 28) :: .int .u8 (gt b.Context.Payee 29) :: .int .u8 (gt b.Context.Payee 30) :: .int .u8 (gt b.Context.Payee 31) :: .int .i64 b.Context.Time :: .int .i64 b.Context.Number :: .sl none 3 true (b.Leaves.map e_api_Leaf) :: .int .i64 b.Path.Index :: .sl none 32 true (b.Path.L.map e_arr45) :: [])] (.bool (specieref32_Same a_ b)) [] := by
  generalize hM : specieref32_Same a_ b = r
  rw [specieref32_Same.eq_1] at hM
  refine enterV En_ok En_mo noJ Try.func17 rfl Try.ntmps17 (by kernel_rfl) fun hw => ct_start ?_
  refine spQ ?_
  replace hw := nzQ hw
  refine guardC_f (fun h1 => ?_) (fun h1 => ?_)
  · have kh1 : (!(q_api_Coin (a_.Coin) (b.Coin))) = false := h1
    rw [if_neg (ne_true kh1)] at hM
    refine spQA h1 ?_
    have nh1 := nzQ kh1
    refine guardC_f (fun h2 => ?_) (fun h2 => ?_)
    · have kh2 : (!(q_api_Node (a_.Node) (b.Node))) = false := h2
      rw [if_neg (ne_true kh2)] at hM
      refine spQA h2 ?_
      have nh2 := nzQ kh2
      refine guardC_f (fun h3 => ?_) (fun h3 => ?_)
      · have kh3 : (!(q_api_Context (a_.Context) (b.Context))) = false := h3
        rw [if_neg (ne_true kh3)] at hM
        refine spQA h3 ?_
        have nh3 := nzQ kh3
        refine guardC_f (fun h4 => ?_) (fun h4 => ?_)
        · rw [if_neg (ne_true h4)] at hM
          refine spQA h4 ?_
          have nh4 := nzQ h4
          have hM0 := hM; clear hM; obtain ⟨x5, hx6, hM⟩ := letk_opn hM0; clear hM0
          have hcx5 := specieref27_Same_ok  (a_.Path) (b.Path) 
          rw [← hx6] at hcx5
          refine callC_give hcx5 clQ clQ (fun hw7 => ?_)
          replace hw7 := nzQ hw7
          refine spQ ?_
          refine condC_intro (fun h8 => ?_) (fun h8 => ?_)
          · rw [if_pos h8] at hM
            refine spQA h8 ?_
            have nh8 := nzQ h8
            subst hM
            exact retC_view (lfQA (And.intro h1 (And.intro h2 (And.intro h3 (And.intro h4 h8)))))
          · rw [if_neg (ne_true h8)] at hM
            refine spQA h8 ?_
            have nh8 := nzQ h8
            have hM0 := hM; clear hM; obtain ⟨f9, d9, hf9, hd9, hM⟩ := iter_opn hM0; clear hM0
            refine ct_loop (fun n S => ∃ p : Int, S = (⟨[(2, .ptr 0 0), (3, .ptr 1 0), (5, .int .i64 p)], [(0, .var 80 true ((e_api_Spend a_))), (1, .var 80 true (.agg (.int .i64 b.Coin.Bank :: .int .i64 b.Coin.Epoch :: .int .i64 b.Coin.Denom :: .int .i64 b.Coin.Depth :: .int .i64 b.Coin.A :: .int .u8 (gt b.Coin.Root 0) :: .int .u8 (gt b.Coin.Root 1) :: .int .u8 (gt b.Coin.Root 2) :: .int .u8 (gt b.Coin.Root 3) :: .int .u8 (gt b.Coin.Root 4) :: .int .u8 (gt b.Coin.Root 5) :: .int .u8 (gt b.Coin.Root 6) :: .int .u8 (gt b.Coin.Root 7) :: .int .u8 (gt b.Coin.Root 8) :: .int .u8 (gt b.Coin.Root 9) :: .int .u8 (gt b.Coin.Root 10) :: .int .u8 (gt b.Coin.Root 11) :: .int .u8 (gt b.Coin.Root 12) :: .int .u8 (gt b.Coin.Root 13) :: .int .u8 (gt b.Coin.Root 14) :: .int .u8 (gt b.Coin.Root 15) :: .int .u8 (gt b.Coin.Root 16) :: .int .u8 (gt b.Coin.Root 17) :: .int .u8 (gt b.Coin.Root 18) :: .int .u8 (gt b.Coin.Root 19) :: .int .u8 (gt b.Coin.Root 20) :: .int .u8 (gt b.Coin.Root 21) :: .int .u8 (gt b.Coin.Root 22) :: .int .u8 (gt b.Coin.Root 23) :: .int .u8 (gt b.Coin.Root 24) :: .int .u8 (gt b.Coin.Root 25) :: .int .u8 (gt b.Coin.Root 26) :: .int .u8 (gt b.Coin.Root 27) :: .int .u8 (gt b.Coin.Root 28) :: .int .u8 (gt b.Coin.Root 29) :: .int .u8 (gt b.Coin.Root 30) :: .int .u8 (gt b.Coin.Root 31) :: .int .i64 b.Coin.Sign.Z :: .int .i64 b.Coin.Sign.A :: .int .i64 b.Coin.Sign.B :: .int .i64 b.Coin.Sign.R :: .int .i64 b.Node.Level :: .int .i64 b.Node.Index :: .int .u8 (gt b.Context.Payee 0) :: .int .u8 (gt b.Context.Payee 1) :: .int .u8 (gt b.Context.Payee 2) :: .int .u8 (gt b.Context.Payee 3) :: .int .u8 (gt b.Context.Payee 4) :: .int .u8 (gt b.Context.Payee 5) :: .int .u8 (gt b.Context.Payee 6) :: .int .u8 (gt b.Context.Payee 7) :: .int .u8 (gt b.Context.Payee 8) :: .int .u8 (gt b.Context.Payee 9) :: .int .u8 (gt b.Context.Payee 10) :: .int .u8 (gt b.Context.Payee 11) :: .int .u8 (gt b.Context.Payee 12) :: .int .u8 (gt b.Context.Payee 13) :: .int .u8 (gt b.Context.Payee 14) :: .int .u8 (gt b.Context.Payee 15) :: .int .u8 (gt b.Context.Payee 16) :: .int .u8 (gt b.Context.Payee 17) :: .int .u8 (gt b.Context.Payee 18) :: .int .u8 (gt b.Context.Payee 19) :: .int .u8 (gt b.Context.Payee 20) :: .int .u8 (gt b.Context.Payee 21) :: .int .u8 (gt b.Context.Payee 22) :: .int .u8 (gt b.Context.Payee 23) :: .int .u8 (gt b.Context.Payee 24) :: .int .u8 (gt b.Context.Payee 25) :: .int .u8 (gt b.Context.Payee 26) :: .int .u8 (gt b.Context.Payee 27) :: .int .u8 (gt b.Context.Payee 28) :: .int .u8 (gt b.Context.Payee 29) :: .int .u8 (gt b.Context.Payee 30) :: .int .u8 (gt b.Context.Payee 31) :: .int .i64 b.Context.Time :: .int .i64 b.Context.Number :: .sl none 3 true (b.Leaves.map e_api_Leaf) :: .int .i64 b.Path.Index :: .sl none 32 true (b.Path.L.map e_arr45) :: [])))], 2⟩ : St) ∧ ((0 ≤ p) ∧ (p ≤ (a_.Leaves.length : Int))) ∧ ((a_.Leaves.length : Int) - p).toNat < n ∧ iter n f9 d9 p = r) (((a_.Leaves.length : Int) - 0).toNat + 1) (⟨[(2, .ptr 0 0), (3, .ptr 1 0), (5, .int .i64 0)], [(0, .var 80 true ((e_api_Spend a_))), (1, .var 80 true (.agg (.int .i64 b.Coin.Bank :: .int .i64 b.Coin.Epoch :: .int .i64 b.Coin.Denom :: .int .i64 b.Coin.Depth :: .int .i64 b.Coin.A :: .int .u8 (gt b.Coin.Root 0) :: .int .u8 (gt b.Coin.Root 1) :: .int .u8 (gt b.Coin.Root 2) :: .int .u8 (gt b.Coin.Root 3) :: .int .u8 (gt b.Coin.Root 4) :: .int .u8 (gt b.Coin.Root 5) :: .int .u8 (gt b.Coin.Root 6) :: .int .u8 (gt b.Coin.Root 7) :: .int .u8 (gt b.Coin.Root 8) :: .int .u8 (gt b.Coin.Root 9) :: .int .u8 (gt b.Coin.Root 10) :: .int .u8 (gt b.Coin.Root 11) :: .int .u8 (gt b.Coin.Root 12) :: .int .u8 (gt b.Coin.Root 13) :: .int .u8 (gt b.Coin.Root 14) :: .int .u8 (gt b.Coin.Root 15) :: .int .u8 (gt b.Coin.Root 16) :: .int .u8 (gt b.Coin.Root 17) :: .int .u8 (gt b.Coin.Root 18) :: .int .u8 (gt b.Coin.Root 19) :: .int .u8 (gt b.Coin.Root 20) :: .int .u8 (gt b.Coin.Root 21) :: .int .u8 (gt b.Coin.Root 22) :: .int .u8 (gt b.Coin.Root 23) :: .int .u8 (gt b.Coin.Root 24) :: .int .u8 (gt b.Coin.Root 25) :: .int .u8 (gt b.Coin.Root 26) :: .int .u8 (gt b.Coin.Root 27) :: .int .u8 (gt b.Coin.Root 28) :: .int .u8 (gt b.Coin.Root 29) :: .int .u8 (gt b.Coin.Root 30) :: .int .u8 (gt b.Coin.Root 31) :: .int .i64 b.Coin.Sign.Z :: .int .i64 b.Coin.Sign.A :: .int .i64 b.Coin.Sign.B :: .int .i64 b.Coin.Sign.R :: .int .i64 b.Node.Level :: .int .i64 b.Node.Index :: .int .u8 (gt b.Context.Payee 0) :: .int .u8 (gt b.Context.Payee 1) :: .int .u8 (gt b.Context.Payee 2) :: .int .u8 (gt b.Context.Payee 3) :: .int .u8 (gt b.Context.Payee 4) :: .int .u8 (gt b.Context.Payee 5) :: .int .u8 (gt b.Context.Payee 6) :: .int .u8 (gt b.Context.Payee 7) :: .int .u8 (gt b.Context.Payee 8) :: .int .u8 (gt b.Context.Payee 9) :: .int .u8 (gt b.Context.Payee 10) :: .int .u8 (gt b.Context.Payee 11) :: .int .u8 (gt b.Context.Payee 12) :: .int .u8 (gt b.Context.Payee 13) :: .int .u8 (gt b.Context.Payee 14) :: .int .u8 (gt b.Context.Payee 15) :: .int .u8 (gt b.Context.Payee 16) :: .int .u8 (gt b.Context.Payee 17) :: .int .u8 (gt b.Context.Payee 18) :: .int .u8 (gt b.Context.Payee 19) :: .int .u8 (gt b.Context.Payee 20) :: .int .u8 (gt b.Context.Payee 21) :: .int .u8 (gt b.Context.Payee 22) :: .int .u8 (gt b.Context.Payee 23) :: .int .u8 (gt b.Context.Payee 24) :: .int .u8 (gt b.Context.Payee 25) :: .int .u8 (gt b.Context.Payee 26) :: .int .u8 (gt b.Context.Payee 27) :: .int .u8 (gt b.Context.Payee 28) :: .int .u8 (gt b.Context.Payee 29) :: .int .u8 (gt b.Context.Payee 30) :: .int .u8 (gt b.Context.Payee 31) :: .int .i64 b.Context.Time :: .int .i64 b.Context.Number :: .sl none 3 true (b.Leaves.map e_api_Leaf) :: .int .i64 b.Path.Index :: .sl none 32 true (b.Path.L.map e_arr45) :: [])))], 2⟩ : St) sbQ sbQ ⟨0, rfl, ⟨omQ, omQ⟩, (Nat.lt_succ_self _), hM⟩ ?_
            clear hM
            rintro n9 S ⟨p9, rfl, hfa9, hm9, hM⟩
            have hM0 := hM; clear hM; obtain ⟨ag9, hag9, hM⟩ := iter_step hM0 (by omega) hf9; clear hM0
            replace hfa9 := nzQ hfa9
            replace hm9 := nzQ hm9
            have ha9 : addI .i64 p9 1 = p9 + 1 := add_one omQ omQ
            refine spQA ha9 ?_
            refine condC_intro (fun h10 => ?_) (fun h10 => ?_)
            · rw [if_pos h10] at hM
              refine spQA (And.intro ha9 h10) ?_
              have nh10 := nzQ h10
              refine ct_draw 60 10 [49, 50, 51, 52, 53, 54, 55, 56, 57, 58] [] ([[], [0], [], [0, 1, 2], [0, 1, 2, 3], [], [5], [], [5, 6, 7], [5, 6, 7, 8]] ++ [List.range 10]) [] (by kernel_rfl) (by exact alQ) ?_
              refine spQA ha9 ?_
              refine hbindC_intro omQ ?_
              have he11 := fun d => elt_mp (l := a_.Leaves) (f := e_api_Leaf) (i := p9) omQ d
              refine spQA (And.intro ha9 he11) ?_
              refine hbindC_intro omQ ?_
              have he12 := fun d => elt_mp (l := b.Leaves) (f := e_api_Leaf) (i := p9) omQ d
              refine spQA (And.intro ha9 (And.intro he11 he12)) ?_
              refine condC_intro (fun h13 => ?_) (fun h13 => ?_)
              · have kh13 : (!(q_api_Leaf (gt a_.Leaves p9) (gt b.Leaves p9))) = true := h13
                rw [if_pos kh13] at hM
                refine spQA (And.intro ha9 (And.intro he11 (And.intro he12 h13))) ?_
                have nh13 := nzQ kh13
                subst hM
                exact retC_view (lfQA (And.intro ha9 (And.intro he11 (And.intro he12 (And.intro h1 (And.intro h2 (And.intro h3 (And.intro h4 (And.intro h8 (And.intro h10 h13))))))))))
              · have kh13 : (!(q_api_Leaf (gt a_.Leaves p9) (gt b.Leaves p9))) = false := h13
                rw [if_neg (ne_true kh13)] at hM
                refine spQA (And.intro ha9 (And.intro he11 (And.intro he12 h13))) ?_
                have nh13 := nzQ kh13
                refine lp_intro (n9 - 1) (⟨[(2, .ptr 0 0), (3, .ptr 1 0), (5, .int .i64 (p9 + 1))], [(0, .var 80 true ((e_api_Spend a_))), (1, .var 80 true (.agg (.int .i64 b.Coin.Bank :: .int .i64 b.Coin.Epoch :: .int .i64 b.Coin.Denom :: .int .i64 b.Coin.Depth :: .int .i64 b.Coin.A :: .int .u8 (gt b.Coin.Root 0) :: .int .u8 (gt b.Coin.Root 1) :: .int .u8 (gt b.Coin.Root 2) :: .int .u8 (gt b.Coin.Root 3) :: .int .u8 (gt b.Coin.Root 4) :: .int .u8 (gt b.Coin.Root 5) :: .int .u8 (gt b.Coin.Root 6) :: .int .u8 (gt b.Coin.Root 7) :: .int .u8 (gt b.Coin.Root 8) :: .int .u8 (gt b.Coin.Root 9) :: .int .u8 (gt b.Coin.Root 10) :: .int .u8 (gt b.Coin.Root 11) :: .int .u8 (gt b.Coin.Root 12) :: .int .u8 (gt b.Coin.Root 13) :: .int .u8 (gt b.Coin.Root 14) :: .int .u8 (gt b.Coin.Root 15) :: .int .u8 (gt b.Coin.Root 16) :: .int .u8 (gt b.Coin.Root 17) :: .int .u8 (gt b.Coin.Root 18) :: .int .u8 (gt b.Coin.Root 19) :: .int .u8 (gt b.Coin.Root 20) :: .int .u8 (gt b.Coin.Root 21) :: .int .u8 (gt b.Coin.Root 22) :: .int .u8 (gt b.Coin.Root 23) :: .int .u8 (gt b.Coin.Root 24) :: .int .u8 (gt b.Coin.Root 25) :: .int .u8 (gt b.Coin.Root 26) :: .int .u8 (gt b.Coin.Root 27) :: .int .u8 (gt b.Coin.Root 28) :: .int .u8 (gt b.Coin.Root 29) :: .int .u8 (gt b.Coin.Root 30) :: .int .u8 (gt b.Coin.Root 31) :: .int .i64 b.Coin.Sign.Z :: .int .i64 b.Coin.Sign.A :: .int .i64 b.Coin.Sign.B :: .int .i64 b.Coin.Sign.R :: .int .i64 b.Node.Level :: .int .i64 b.Node.Index :: .int .u8 (gt b.Context.Payee 0) :: .int .u8 (gt b.Context.Payee 1) :: .int .u8 (gt b.Context.Payee 2) :: .int .u8 (gt b.Context.Payee 3) :: .int .u8 (gt b.Context.Payee 4) :: .int .u8 (gt b.Context.Payee 5) :: .int .u8 (gt b.Context.Payee 6) :: .int .u8 (gt b.Context.Payee 7) :: .int .u8 (gt b.Context.Payee 8) :: .int .u8 (gt b.Context.Payee 9) :: .int .u8 (gt b.Context.Payee 10) :: .int .u8 (gt b.Context.Payee 11) :: .int .u8 (gt b.Context.Payee 12) :: .int .u8 (gt b.Context.Payee 13) :: .int .u8 (gt b.Context.Payee 14) :: .int .u8 (gt b.Context.Payee 15) :: .int .u8 (gt b.Context.Payee 16) :: .int .u8 (gt b.Context.Payee 17) :: .int .u8 (gt b.Context.Payee 18) :: .int .u8 (gt b.Context.Payee 19) :: .int .u8 (gt b.Context.Payee 20) :: .int .u8 (gt b.Context.Payee 21) :: .int .u8 (gt b.Context.Payee 22) :: .int .u8 (gt b.Context.Payee 23) :: .int .u8 (gt b.Context.Payee 24) :: .int .u8 (gt b.Context.Payee 25) :: .int .u8 (gt b.Context.Payee 26) :: .int .u8 (gt b.Context.Payee 27) :: .int .u8 (gt b.Context.Payee 28) :: .int .u8 (gt b.Context.Payee 29) :: .int .u8 (gt b.Context.Payee 30) :: .int .u8 (gt b.Context.Payee 31) :: .int .i64 b.Context.Time :: .int .i64 b.Context.Number :: .sl none 3 true (b.Leaves.map e_api_Leaf) :: .int .i64 b.Path.Index :: .sl none 32 true (b.Path.L.map e_arr45) :: [])))], 2⟩ : St) (by omega) sbQ sbQ ⟨(p9 + 1), rfl, ⟨omQ, omQ⟩, omQ, iter_again hM hag9⟩
            · rw [if_neg (ne_true h10)] at hM
              refine spQA (And.intro ha9 h10) ?_
              have nh10 := nzQ h10
              subst hM
              exact retC_view (lfQA (And.intro ha9 (And.intro h1 (And.intro h2 (And.intro h3 (And.intro h4 (And.intro h8 h10)))))))
        · rw [if_pos h4] at hM
          refine spQA h4 ?_
          have nh4 := nzQ h4
          subst hM
          exact retC_view (lfQA (And.intro h1 (And.intro h2 (And.intro h3 h4))))
      · have kh3 : (!(q_api_Context (a_.Context) (b.Context))) = true := h3
        rw [if_pos kh3] at hM
        refine spQA h3 ?_
        have nh3 := nzQ kh3
        subst hM
        exact retC_view (lfQA (And.intro h1 (And.intro h2 h3)))
    · have kh2 : (!(q_api_Node (a_.Node) (b.Node))) = true := h2
      rw [if_pos kh2] at hM
      refine spQA h2 ?_
      have nh2 := nzQ kh2
      subst hM
      exact retC_view (lfQA (And.intro h1 h2))
  · have kh1 : (!(q_api_Coin (a_.Coin) (b.Coin))) = true := h1
    rw [if_pos kh1] at hM
    refine spQA h1 ?_
    have nh1 := nzQ kh1
    subst hM
    exact retC_view (lfQA h1)
set_option maxHeartbeats 2000000 in
set_option maxRecDepth 100000 in
theorem specieref35_Spends_ok   (h_ : S_api_Chain) (hp0 : h_.L.length ≤ 1073741823) : CallOk En 68 [(e_api_Chain h_)] (.sl none 80 true ((specieref35_Spends h_).map e_api_Spend)) [] := by
  generalize hM : specieref35_Spends h_ = r
  rw [specieref35_Spends.eq_1] at hM
  refine enterV En_ok En_mo noJ Try.func68 rfl Try.ntmps68 (by kernel_rfl) fun hw => ct_start ?_
  refine spQ ?_
  replace hw := nzQ hw
  refine bindC_intro omQ ?_
  refine spQ ?_
  subst hM
  exact retC_view lfQ
set_option maxHeartbeats 2000000 in
set_option maxRecDepth 100000 in
theorem specieref35_Same_ok   (x_ : S_api_Chain) (y : S_api_Chain) (hp0 : x_.L.length ≤ 1073741823) (hp1 : y.L.length ≤ 1073741823) : CallOk En 41 [(e_api_Chain x_), (e_api_Chain y)] (.bool (specieref35_Same x_ y)) [] := by
  generalize hM : specieref35_Same x_ y = r
  rw [specieref35_Same.eq_1] at hM
  refine enterV En_ok En_mo noJ Try.func41 rfl Try.ntmps41 (by kernel_rfl) fun hw => ct_start ?_
  refine spQ ?_
  replace hw := nzQ hw
  refine ct_draw 33 3 [8, 9, 10] [] ([[], [0], []] ++ [List.range 3, List.range 4, List.range 5]) [] (by kernel_rfl) (by exact alQ) ?_
  refine spQ ?_
  have hM0 := hM; clear hM; obtain ⟨x1, hx2, hM⟩ := letk_opn hM0; clear hM0
  have hcx1 := specieref35_Spends_ok  x_ (by (simp only [decide_eq_true_eq, decide_eq_false_iff_not, Bool.and_eq_true, Bool.or_eq_true, Bool.not_eq_true', Bool.not_eq_false', beq_iff_eq, bne_iff_ne, beq_eq_false_iff_ne, bne_eq_false_iff_eq, ne_eq, Int.not_lt, Int.not_le, gt_iff_lt, ge_iff_le, List.length_map, wfL, wfV, and_true, true_and, LEN_eq, rng_i64, rng_u64, rng_u32, rng_i32, sl_len, st_len, List.length_append, List.length_cons, List.length_nil, List.length_replicate, rep_len, rowV_len, spl_len, cutN_len, arrN_len, nat8_len, remI_nn] at *; omega))
  rw [← hx2] at hcx1
  refine hcallC_give hcx1 clQ clQ ?_
  refine spQ ?_
  have hM0 := hM; clear hM; obtain ⟨x3, hx4, hM⟩ := letk_opn hM0; clear hM0
  have hcx3 := specieref35_Spends_ok  y (by (simp only [decide_eq_true_eq, decide_eq_false_iff_not, Bool.and_eq_true, Bool.or_eq_true, Bool.not_eq_true', Bool.not_eq_false', beq_iff_eq, bne_iff_ne, beq_eq_false_iff_ne, bne_eq_false_iff_eq, ne_eq, Int.not_lt, Int.not_le, gt_iff_lt, ge_iff_le, List.length_map, wfL, wfV, and_true, true_and, LEN_eq, rng_i64, rng_u64, rng_u32, rng_i32, sl_len, st_len, List.length_append, List.length_cons, List.length_nil, List.length_replicate, rep_len, rowV_len, spl_len, cutN_len, arrN_len, nat8_len, remI_nn] at *; omega))
  rw [← hx4] at hcx3
  refine callC_give hcx3 clQ clQ (fun hw5 => ?_)
  replace hw5 := nzQ hw5
  refine spQ ?_
  refine condC_intro (fun h6 => ?_) (fun h6 => ?_)
  · rw [if_pos h6] at hM
    refine spQA h6 ?_
    have nh6 := nzQ h6
    subst hM
    exact retC_view (lfQA h6)
  · rw [if_neg (ne_true h6)] at hM
    refine spQA h6 ?_
    have nh6 := nzQ h6
    have hM0 := hM; clear hM; obtain ⟨f7, d7, hf7, hd7, hM⟩ := iter_opn hM0; clear hM0
    refine ct_loop (fun n S => ∃ p : Int, S = (⟨[(5, .sl none 80 true (x1.map e_api_Spend)), (6, .sl none 80 true (x3.map e_api_Spend)), (7, .int .i64 p)], [], 5⟩ : St) ∧ ((0 ≤ p) ∧ (p ≤ (x1.length : Int))) ∧ ((x1.length : Int) - p).toNat < n ∧ iter n f7 d7 p = r) (((x1.length : Int) - 0).toNat + 1) (⟨[(5, .sl none 80 true (x1.map e_api_Spend)), (6, .sl none 80 true (x3.map e_api_Spend)), (7, .int .i64 0)], [], 5⟩ : St) sbQ sbQ ⟨0, rfl, ⟨omQ, omQ⟩, (Nat.lt_succ_self _), hM⟩ ?_
    clear hM
    rintro n7 S ⟨p7, rfl, hfa7, hm7, hM⟩
    have hM0 := hM; clear hM; obtain ⟨ag7, hag7, hM⟩ := iter_step hM0 (by omega) hf7; clear hM0
    replace hfa7 := nzQ hfa7
    replace hm7 := nzQ hm7
    have ha7 : addI .i64 p7 1 = p7 + 1 := add_one omQ omQ
    refine spQA ha7 ?_
    refine condC_intro (fun h8 => ?_) (fun h8 => ?_)
    · rw [if_pos h8] at hM
      refine spQA (And.intro ha7 h8) ?_
      have nh8 := nzQ h8
      refine ct_draw 33 8 [23, 24, 25, 26, 27, 28, 29, 30] [] ([[], [], [0, 1], [0, 1, 2], [], [], [4, 5], [4, 5, 6]] ++ [List.range 8, List.range 9]) [] (by kernel_rfl) (by exact alQ) ?_
      refine spQA ha7 ?_
      refine hbindC_intro omQ ?_
      have he9 := fun d => elt_mp (l := x1) (f := e_api_Spend) (i := p7) omQ d
      refine spQA (And.intro ha7 he9) ?_
      refine hbindC_intro omQ ?_
      have he10 := fun d => elt_mp (l := x3) (f := e_api_Spend) (i := p7) omQ d
      refine spQA (And.intro ha7 (And.intro he9 he10)) ?_
      have hM0 := hM; clear hM; obtain ⟨x11, hx12, hM⟩ := letk_opn hM0; clear hM0
      have hcx11 := specieref32_Same_ok  (gt x1 p7) (gt x3 p7) 
      rw [← hx12] at hcx11
      refine callC_give hcx11 (clQA (And.intro ha7 (And.intro he9 he10))) (clQA (And.intro ha7 (And.intro he9 he10))) (fun hw13 => ?_)
      replace hw13 := nzQ hw13
      refine spQA (And.intro ha7 (And.intro he9 he10)) ?_
      refine condC_intro (fun h14 => ?_) (fun h14 => ?_)
      · rw [if_pos h14] at hM
        refine spQA (And.intro ha7 (And.intro he9 (And.intro he10 h14))) ?_
        have nh14 := nzQ h14
        subst hM
        exact retC_view (lfQA (And.intro ha7 (And.intro he9 (And.intro he10 (And.intro h6 (And.intro h8 h14))))))
      · rw [if_neg (ne_true h14)] at hM
        refine spQA (And.intro ha7 (And.intro he9 (And.intro he10 h14))) ?_
        have nh14 := nzQ h14
        refine lp_intro (n7 - 1) (⟨[(5, .sl none 80 true (x1.map e_api_Spend)), (6, .sl none 80 true (x3.map e_api_Spend)), (7, .int .i64 (p7 + 1))], [], 5⟩ : St) (by omega) sbQ sbQ ⟨(p7 + 1), rfl, ⟨omQ, omQ⟩, omQ, iter_again hM hag7⟩
    · rw [if_neg (ne_true h8)] at hM
      refine spQA (And.intro ha7 h8) ?_
      have nh8 := nzQ h8
      subst hM
      exact retC_view (lfQA (And.intro ha7 (And.intro h6 h8)))
set_option maxHeartbeats 2000000 in
set_option maxRecDepth 100000 in
theorem specieref17_Same_ok  (z0 : Option Bool) (z1 : Option Bool) (a_ : (List Int)) (b : (List Int))  : CallOk En 92 [.sl z0 1 false (a_.map (V.int .i64)), .sl z1 1 false (b.map (V.int .i64))] (.bool (specieref17_Same a_ b)) [] := by
  generalize hM : specieref17_Same a_ b = r
  rw [specieref17_Same.eq_1] at hM
  refine enterV En_ok En_mo noJ Try.func92 rfl Try.ntmps92 (by kernel_rfl) fun hw => ct_start ?_
  refine spQ ?_
  replace hw := nzQ hw
  refine condC_intro (fun h1 => ?_) (fun h1 => ?_)
  · rw [if_pos h1] at hM
    refine spQA h1 ?_
    have nh1 := nzQ h1
    subst hM
    exact retC_view (lfQA h1)
  · rw [if_neg (ne_true h1)] at hM
    refine spQA h1 ?_
    have nh1 := nzQ h1
    have hM0 := hM; clear hM; obtain ⟨f2, d2, hf2, hd2, hM⟩ := iter_opn hM0; clear hM0
    refine ct_loop (fun n S => ∃ p : Int, S = (⟨[(0, .sl z0 1 false (a_.map (V.int .i64))), (1, .sl z1 1 false (b.map (V.int .i64))), (5, .int .i64 p)], [], 0⟩ : St) ∧ ((0 ≤ p) ∧ (p ≤ (a_.length : Int))) ∧ ((a_.length : Int) - p).toNat < n ∧ iter n f2 d2 p = r) (((a_.length : Int) - 0).toNat + 1) (⟨[(0, .sl z0 1 false (a_.map (V.int .i64))), (1, .sl z1 1 false (b.map (V.int .i64))), (5, .int .i64 0)], [], 0⟩ : St) sbQ sbQ ⟨0, rfl, ⟨omQ, omQ⟩, (Nat.lt_succ_self _), hM⟩ ?_
    clear hM
    rintro n2 S ⟨p2, rfl, hfa2, hm2, hM⟩
    have hM0 := hM; clear hM; obtain ⟨ag2, hag2, hM⟩ := iter_step hM0 (by omega) hf2; clear hM0
    replace hfa2 := nzQ hfa2
    replace hm2 := nzQ hm2
    have ha2 : addI .i64 p2 1 = p2 + 1 := add_one omQ omQ
    refine spQA ha2 ?_
    refine condC_intro (fun h3 => ?_) (fun h3 => ?_)
    · rw [if_pos h3] at hM
      refine spQA (And.intro ha2 h3) ?_
      have nh3 := nzQ h3
      refine ct_draw 26 8 [17, 18, 19, 20, 21, 22, 23, 24] [] ([[], [], [0, 1], [0, 1, 2], [], [], [4, 5], [4, 5, 6]] ++ [List.range 8]) [] (by kernel_rfl) (by exact alQ) ?_
      refine spQA ha2 ?_
      refine hbindC_intro omQ ?_
      have he4 := fun d => elt_mp (l := a_) (f := (V.int .i64)) (i := p2) omQ d
      refine spQA (And.intro ha2 he4) ?_
      refine hbindC_intro omQ ?_
      have he5 := fun d => elt_mp (l := b) (f := (V.int .i64)) (i := p2) omQ d
      refine spQA (And.intro ha2 (And.intro he4 he5)) ?_
      refine condC_intro (fun h6 => ?_) (fun h6 => ?_)
      · rw [if_pos h6] at hM
        refine spQA (And.intro ha2 (And.intro he4 (And.intro he5 h6))) ?_
        have nh6 := nzQ h6
        subst hM
        exact retC_view (lfQA (And.intro ha2 (And.intro he4 (And.intro he5 (And.intro h1 (And.intro h3 h6))))))
      · rw [if_neg (ne_true h6)] at hM
        refine spQA (And.intro ha2 (And.intro he4 (And.intro he5 h6))) ?_
        have nh6 := nzQ h6
        refine lp_intro (n2 - 1) (⟨[(0, .sl z0 1 false (a_.map (V.int .i64))), (1, .sl z1 1 false (b.map (V.int .i64))), (5, .int .i64 (p2 + 1))], [], 0⟩ : St) (by omega) sbQ sbQ ⟨(p2 + 1), rfl, ⟨omQ, omQ⟩, omQ, iter_again hM hag2⟩
    · rw [if_neg (ne_true h3)] at hM
      refine spQA (And.intro ha2 h3) ?_
      have nh3 := nzQ h3
      subst hM
      exact retC_view (lfQA (And.intro ha2 (And.intro h1 h3)))
set_option maxHeartbeats 2000000 in
set_option maxRecDepth 100000 in
theorem specieref17_SameProof_ok   (a_ : S_api_Proof) (b : S_api_Proof)  : CallOk En 69 [.agg [.sl none 1 false (a_.A.map (V.int .i64)), .int .i64 a_.C, .sl none 1 false (a_.Z.map (V.int .i64))], .agg [.sl none 1 false (b.A.map (V.int .i64)), .int .i64 b.C, .sl none 1 false (b.Z.map (V.int .i64))]] (.bool (specieref17_SameProof a_ b)) [] := by
  generalize hM : specieref17_SameProof a_ b = r
  rw [specieref17_SameProof.eq_1] at hM
  refine enterV En_ok En_mo noJ Try.func69 rfl Try.ntmps69 (by kernel_rfl) fun hw => ct_start ?_
  refine spQ ?_
  replace hw := nzQ hw
  have hM0 := hM; clear hM; obtain ⟨x1, hx2, hM⟩ := letk_opn hM0; clear hM0
  have hcx1 := specieref17_Same_ok none none (a_.A) (b.A) 
  rw [← hx2] at hcx1
  refine callC_give hcx1 clQ clQ (fun hw3 => ?_)
  replace hw3 := nzQ hw3
  refine spQ ?_
  refine guardC_t (fun h4 => ?_) (fun h4 => ?_)
  · subst h4
    rw [if_pos rfl] at hM
    refine spQ ?_
    refine guardC_t (fun h5 => ?_) (fun h5 => ?_)
    · rw [if_pos h5] at hM
      refine spQA h5 ?_
      have nh5 := nzQ h5
      have hM0 := hM; clear hM; obtain ⟨x6, hx7, hM⟩ := letk_opn hM0; clear hM0
      have hcx6 := specieref17_Same_ok none none (a_.Z) (b.Z) 
      rw [← hx7] at hcx6
      refine callC_give hcx6 clQ clQ (fun hw8 => ?_)
      replace hw8 := nzQ hw8
      refine spQ ?_
      subst hM
      exact retC_view (lfQA h5)
    · rw [if_neg (ne_true h5)] at hM
      refine spQA h5 ?_
      have nh5 := nzQ h5
      subst hM
      exact retC_view (lfQA h5)
  · subst h4
    rw [if_neg (by decide)] at hM
    refine spQ ?_
    subst hM
    exact retC_view lfQ
set_option maxHeartbeats 2000000 in
set_option maxRecDepth 100000 in
theorem specieref36_Same_ok   (a_ : S_api_Escrow) (b : S_api_Escrow)  : CallOk En 42 [(e_api_Escrow a_), (e_api_Escrow b)] (.bool (specieref36_Same a_ b)) [] := by
  generalize hM : specieref36_Same a_ b = r
  rw [specieref36_Same.eq_1] at hM
  refine enterV En_ok En_mo noJ Try.func42 rfl Try.ntmps42 (by kernel_rfl) fun hw => ct_start ?_
  refine spQ ?_
  replace hw := nzQ hw
  refine guardC_t (fun h1 => ?_) (fun h1 => ?_)
  · rw [if_pos h1] at hM
    refine spQA h1 ?_
    have nh1 := nzQ h1
    refine guardC_t (fun h2 => ?_) (fun h2 => ?_)
    · rw [if_pos h2] at hM
      refine spQA h2 ?_
      have nh2 := nzQ h2
      have hM0 := hM; clear hM; obtain ⟨x3, hx4, hM⟩ := letk_opn hM0; clear hM0
      have hcx3 := specieref17_SameProof_ok  (a_.Proof) (b.Proof) 
      rw [← hx4] at hcx3
      refine callC_give hcx3 clQ clQ (fun hw5 => ?_)
      replace hw5 := nzQ hw5
      refine spQ ?_
      subst hM
      exact retC_view (lfQA (And.intro h1 h2))
    · rw [if_neg (ne_true h2)] at hM
      refine spQA h2 ?_
      have nh2 := nzQ h2
      subst hM
      exact retC_view (lfQA (And.intro h1 h2))
  · rw [if_neg (ne_true h1)] at hM
    refine spQA h1 ?_
    have nh1 := nzQ h1
    subst hM
    exact retC_view (lfQA h1)
set_option maxHeartbeats 2000000 in
set_option maxRecDepth 100000 in
theorem specieref38_Same_ok   (p_ : S_api_Payment) (q : S_api_Payment) (hp0 : okChains p_) (hp1 : okChains q) : CallOk En 9 [.agg [.int .i64 p_.Number, .sl none 80 true (p_.Spends.map e_api_Spend), .sl none 81 true (p_.Chains.map e_api_Chain), .sl none 5 true (p_.Escrow.map e_api_Escrow)], .agg [.int .i64 q.Number, .sl none 80 true (q.Spends.map e_api_Spend), .sl none 81 true (q.Chains.map e_api_Chain), .sl none 5 true (q.Escrow.map e_api_Escrow)]] (.bool (specieref38_Same p_ q)) [] := by
  generalize hM : specieref38_Same p_ q = r
  rw [specieref38_Same.eq_1] at hM
  refine enterV En_ok En_mo noJ Try.func9 rfl Try.ntmps9 (by kernel_rfl) fun hw => ct_start ?_
  refine spQ ?_
  replace hw := nzQ hw
  refine guardC_f (fun h1 => ?_) (fun h1 => ?_)
  · rw [if_neg (ne_true h1)] at hM
    refine spQA h1 ?_
    have nh1 := nzQ h1
    refine guardC_f (fun h2 => ?_) (fun h2 => ?_)
    · rw [if_neg (ne_true h2)] at hM
      refine spQA h2 ?_
      have nh2 := nzQ h2
      refine guardC_f (fun h3 => ?_) (fun h3 => ?_)
      · rw [if_neg (ne_true h3)] at hM
        refine spQA h3 ?_
        have nh3 := nzQ h3
        refine condC_intro (fun h4 => ?_) (fun h4 => ?_)
        · rw [if_pos h4] at hM
          refine spQA h4 ?_
          have nh4 := nzQ h4
          subst hM
          exact retC_view (lfQA (And.intro h1 (And.intro h2 (And.intro h3 h4))))
        · rw [if_neg (ne_true h4)] at hM
          refine spQA h4 ?_
          have nh4 := nzQ h4
          have hM0 := hM; clear hM; obtain ⟨f5, d5, hf5, hd5, hM⟩ := iter_opn hM0; clear hM0
          refine ct_loop (fun n S => ∃ p : Int, S = (⟨[(2, .ptr 0 0), (3, .ptr 1 0), (5, .int .i64 p)], [(0, .var 4 true (.agg [.int .i64 p_.Number, .sl none 80 true (p_.Spends.map e_api_Spend), .sl none 81 true (p_.Chains.map e_api_Chain), .sl none 5 true (p_.Escrow.map e_api_Escrow)])), (1, .var 4 true (.agg [.int .i64 q.Number, .sl none 80 true (q.Spends.map e_api_Spend), .sl none 81 true (q.Chains.map e_api_Chain), .sl none 5 true (q.Escrow.map e_api_Escrow)]))], 2⟩ : St) ∧ ((0 ≤ p) ∧ (p ≤ (p_.Spends.length : Int))) ∧ ((p_.Spends.length : Int) - p).toNat < n ∧ iter n f5 d5 p = r) (((p_.Spends.length : Int) - 0).toNat + 1) (⟨[(2, .ptr 0 0), (3, .ptr 1 0), (5, .int .i64 0)], [(0, .var 4 true (.agg [.int .i64 p_.Number, .sl none 80 true (p_.Spends.map e_api_Spend), .sl none 81 true (p_.Chains.map e_api_Chain), .sl none 5 true (p_.Escrow.map e_api_Escrow)])), (1, .var 4 true (.agg [.int .i64 q.Number, .sl none 80 true (q.Spends.map e_api_Spend), .sl none 81 true (q.Chains.map e_api_Chain), .sl none 5 true (q.Escrow.map e_api_Escrow)]))], 2⟩ : St) sbQ sbQ ⟨0, rfl, ⟨omQ, omQ⟩, (Nat.lt_succ_self _), hM⟩ ?_
          clear hM
          rintro n5 S ⟨p5, rfl, hfa5, hm5, hM⟩
          have hM0 := hM; clear hM; obtain ⟨ag5, hag5, hM⟩ := iter_step hM0 (by omega) hf5; clear hM0
          replace hfa5 := nzQ hfa5
          replace hm5 := nzQ hm5
          have ha5 : addI .i64 p5 1 = p5 + 1 := add_one omQ omQ
          refine spQA ha5 ?_
          refine condC_intro (fun h6 => ?_) (fun h6 => ?_)
          · rw [if_pos h6] at hM
            refine spQA (And.intro ha5 h6) ?_
            have nh6 := nzQ h6
            refine ct_draw 97 10 [47, 48, 49, 50, 51, 52, 53, 54, 55, 56] [] ([[], [0], [], [0, 1, 2], [0, 1, 2, 3], [], [5], [], [5, 6, 7], [5, 6, 7, 8]] ++ [List.range 10, List.range 11]) [] (by kernel_rfl) (by exact alQ) ?_
            refine spQA ha5 ?_
            refine hbindC_intro omQ ?_
            have he7 := fun d => elt_mp (l := p_.Spends) (f := e_api_Spend) (i := p5) omQ d
            refine spQA (And.intro ha5 he7) ?_
            refine hbindC_intro omQ ?_
            have he8 := fun d => elt_mp (l := q.Spends) (f := e_api_Spend) (i := p5) omQ d
            refine spQA (And.intro ha5 (And.intro he7 he8)) ?_
            have hM0 := hM; clear hM; obtain ⟨x9, hx10, hM⟩ := letk_opn hM0; clear hM0
            have hcx9 := specieref32_Same_ok  (gt p_.Spends p5) (gt q.Spends p5) 
            rw [← hx10] at hcx9
            refine callC_give hcx9 (clQA (And.intro ha5 (And.intro he7 he8))) (clQA (And.intro ha5 (And.intro he7 he8))) (fun hw11 => ?_)
            replace hw11 := nzQ hw11
            refine spQA (And.intro ha5 (And.intro he7 he8)) ?_
            refine condC_intro (fun h12 => ?_) (fun h12 => ?_)
            · rw [if_pos h12] at hM
              refine spQA (And.intro ha5 (And.intro he7 (And.intro he8 h12))) ?_
              have nh12 := nzQ h12
              subst hM
              exact retC_view (lfQA (And.intro ha5 (And.intro he7 (And.intro he8 (And.intro h1 (And.intro h2 (And.intro h3 (And.intro h4 (And.intro h6 h12)))))))))
            · rw [if_neg (ne_true h12)] at hM
              refine spQA (And.intro ha5 (And.intro he7 (And.intro he8 h12))) ?_
              have nh12 := nzQ h12
              refine lp_intro (n5 - 1) (⟨[(2, .ptr 0 0), (3, .ptr 1 0), (5, .int .i64 (p5 + 1))], [(0, .var 4 true (.agg [.int .i64 p_.Number, .sl none 80 true (p_.Spends.map e_api_Spend), .sl none 81 true (p_.Chains.map e_api_Chain), .sl none 5 true (p_.Escrow.map e_api_Escrow)])), (1, .var 4 true (.agg [.int .i64 q.Number, .sl none 80 true (q.Spends.map e_api_Spend), .sl none 81 true (q.Chains.map e_api_Chain), .sl none 5 true (q.Escrow.map e_api_Escrow)]))], 2⟩ : St) (by omega) sbQ sbQ ⟨(p5 + 1), rfl, ⟨omQ, omQ⟩, omQ, iter_again hM hag5⟩
          · rw [if_neg (ne_true h6)] at hM
            refine spQA (And.intro ha5 h6) ?_
            have nh6 := nzQ h6
            have hM0 := hM; clear hM; obtain ⟨f13, d13, hf13, hd13, hM⟩ := iter_opn hM0; clear hM0
            refine ct_loop (fun n S => ∃ p : Int, S = (⟨[(2, .ptr 0 0), (3, .ptr 1 0), (6, .int .i64 p)], [(0, .var 4 true (.agg [.int .i64 p_.Number, .sl none 80 true (p_.Spends.map e_api_Spend), .sl none 81 true (p_.Chains.map e_api_Chain), .sl none 5 true (p_.Escrow.map e_api_Escrow)])), (1, .var 4 true (.agg [.int .i64 q.Number, .sl none 80 true (q.Spends.map e_api_Spend), .sl none 81 true (q.Chains.map e_api_Chain), .sl none 5 true (q.Escrow.map e_api_Escrow)]))], 2⟩ : St) ∧ ((0 ≤ p) ∧ (p ≤ (p_.Chains.length : Int))) ∧ ((p_.Chains.length : Int) - p).toNat < n ∧ iter n f13 d13 p = r) (((p_.Chains.length : Int) - 0).toNat + 1) (⟨[(2, .ptr 0 0), (3, .ptr 1 0), (6, .int .i64 0)], [(0, .var 4 true (.agg [.int .i64 p_.Number, .sl none 80 true (p_.Spends.map e_api_Spend), .sl none 81 true (p_.Chains.map e_api_Chain), .sl none 5 true (p_.Escrow.map e_api_Escrow)])), (1, .var 4 true (.agg [.int .i64 q.Number, .sl none 80 true (q.Spends.map e_api_Spend), .sl none 81 true (q.Chains.map e_api_Chain), .sl none 5 true (q.Escrow.map e_api_Escrow)]))], 2⟩ : St) sbQ sbQ ⟨0, rfl, ⟨omQ, omQ⟩, (Nat.lt_succ_self _), hM⟩ ?_
            clear hM
            rintro n13 S ⟨p13, rfl, hfa13, hm13, hM⟩
            have hM0 := hM; clear hM; obtain ⟨ag13, hag13, hM⟩ := iter_step hM0 (by omega) hf13; clear hM0
            replace hfa13 := nzQ hfa13
            replace hm13 := nzQ hm13
            have ha13 : addI .i64 p13 1 = p13 + 1 := add_one omQ omQ
            refine spQA (And.intro ha5 ha13) ?_
            refine condC_intro (fun h14 => ?_) (fun h14 => ?_)
            · rw [if_pos h14] at hM
              refine spQA (And.intro ha5 (And.intro ha13 h14)) ?_
              have nh14 := nzQ h14
              refine ct_draw 97 10 [66, 67, 68, 69, 70, 71, 72, 73, 74, 75] [] ([[], [0], [], [0, 1, 2], [0, 1, 2, 3], [], [5], [], [5, 6, 7], [5, 6, 7, 8]] ++ [List.range 10, List.range 11]) [] (by kernel_rfl) (by exact alQ) ?_
              refine spQA (And.intro ha5 ha13) ?_
              refine hbindC_intro omQ ?_
              have he15 := fun d => elt_mp (l := p_.Chains) (f := e_api_Chain) (i := p13) omQ d
              refine spQA (And.intro ha5 (And.intro ha13 he15)) ?_
              refine hbindC_intro omQ ?_
              have he16 := fun d => elt_mp (l := q.Chains) (f := e_api_Chain) (i := p13) omQ d
              refine spQA (And.intro ha5 (And.intro ha13 (And.intro he15 he16))) ?_
              have hM0 := hM; clear hM; obtain ⟨x17, hx18, hM⟩ := letk_opn hM0; clear hM0
              have hcx17 := specieref35_Same_ok  (gt p_.Chains p13) (gt q.Chains p13) (by (first | exact hp0 _ (gt_mem (by omega)) | exact hp1 _ (gt_mem (by omega)))) (by (first | exact hp0 _ (gt_mem (by omega)) | exact hp1 _ (gt_mem (by omega))))
              rw [← hx18] at hcx17
              refine callC_give hcx17 (clQA (And.intro ha5 (And.intro ha13 (And.intro he15 he16)))) (clQA (And.intro ha5 (And.intro ha13 (And.intro he15 he16)))) (fun hw19 => ?_)
              replace hw19 := nzQ hw19
              refine spQA (And.intro ha5 (And.intro ha13 (And.intro he15 he16))) ?_
              refine condC_intro (fun h20 => ?_) (fun h20 => ?_)
              · rw [if_pos h20] at hM
                refine spQA (And.intro ha5 (And.intro ha13 (And.intro he15 (And.intro he16 h20)))) ?_
                have nh20 := nzQ h20
                subst hM
                exact retC_view (lfQA (And.intro ha5 (And.intro ha13 (And.intro he15 (And.intro he16 (And.intro h1 (And.intro h2 (And.intro h3 (And.intro h4 (And.intro h6 (And.intro h14 h20)))))))))))
              · rw [if_neg (ne_true h20)] at hM
                refine spQA (And.intro ha5 (And.intro ha13 (And.intro he15 (And.intro he16 h20)))) ?_
                have nh20 := nzQ h20
                refine lp_intro (n13 - 1) (⟨[(2, .ptr 0 0), (3, .ptr 1 0), (6, .int .i64 (p13 + 1))], [(0, .var 4 true (.agg [.int .i64 p_.Number, .sl none 80 true (p_.Spends.map e_api_Spend), .sl none 81 true (p_.Chains.map e_api_Chain), .sl none 5 true (p_.Escrow.map e_api_Escrow)])), (1, .var 4 true (.agg [.int .i64 q.Number, .sl none 80 true (q.Spends.map e_api_Spend), .sl none 81 true (q.Chains.map e_api_Chain), .sl none 5 true (q.Escrow.map e_api_Escrow)]))], 2⟩ : St) (by omega) sbQ sbQ ⟨(p13 + 1), rfl, ⟨omQ, omQ⟩, omQ, iter_again hM hag13⟩
            · rw [if_neg (ne_true h14)] at hM
              refine spQA (And.intro ha5 (And.intro ha13 h14)) ?_
              have nh14 := nzQ h14
              have hM0 := hM; clear hM; obtain ⟨f21, d21, hf21, hd21, hM⟩ := iter_opn hM0; clear hM0
              refine ct_loop (fun n S => ∃ p : Int, S = (⟨[(2, .ptr 0 0), (3, .ptr 1 0), (7, .int .i64 p)], [(0, .var 4 true (.agg [.int .i64 p_.Number, .sl none 80 true (p_.Spends.map e_api_Spend), .sl none 81 true (p_.Chains.map e_api_Chain), .sl none 5 true (p_.Escrow.map e_api_Escrow)])), (1, .var 4 true (.agg [.int .i64 q.Number, .sl none 80 true (q.Spends.map e_api_Spend), .sl none 81 true (q.Chains.map e_api_Chain), .sl none 5 true (q.Escrow.map e_api_Escrow)]))], 2⟩ : St) ∧ ((0 ≤ p) ∧ (p ≤ (p_.Escrow.length : Int))) ∧ ((p_.Escrow.length : Int) - p).toNat < n ∧ iter n f21 d21 p = r) (((p_.Escrow.length : Int) - 0).toNat + 1) (⟨[(2, .ptr 0 0), (3, .ptr 1 0), (7, .int .i64 0)], [(0, .var 4 true (.agg [.int .i64 p_.Number, .sl none 80 true (p_.Spends.map e_api_Spend), .sl none 81 true (p_.Chains.map e_api_Chain), .sl none 5 true (p_.Escrow.map e_api_Escrow)])), (1, .var 4 true (.agg [.int .i64 q.Number, .sl none 80 true (q.Spends.map e_api_Spend), .sl none 81 true (q.Chains.map e_api_Chain), .sl none 5 true (q.Escrow.map e_api_Escrow)]))], 2⟩ : St) sbQ sbQ ⟨0, rfl, ⟨omQ, omQ⟩, (Nat.lt_succ_self _), hM⟩ ?_
              clear hM
              rintro n21 S ⟨p21, rfl, hfa21, hm21, hM⟩
              have hM0 := hM; clear hM; obtain ⟨ag21, hag21, hM⟩ := iter_step hM0 (by omega) hf21; clear hM0
              replace hfa21 := nzQ hfa21
              replace hm21 := nzQ hm21
              have ha21 : addI .i64 p21 1 = p21 + 1 := add_one omQ omQ
              refine spQA (And.intro ha5 (And.intro ha13 ha21)) ?_
              refine condC_intro (fun h22 => ?_) (fun h22 => ?_)
              · rw [if_pos h22] at hM
                refine spQA (And.intro ha5 (And.intro ha13 (And.intro ha21 h22))) ?_
                have nh22 := nzQ h22
                refine ct_draw 97 10 [85, 86, 87, 88, 89, 90, 91, 92, 93, 94] [] ([[], [0], [], [0, 1, 2], [0, 1, 2, 3], [], [5], [], [5, 6, 7], [5, 6, 7, 8]] ++ [List.range 10, List.range 11]) [] (by kernel_rfl) (by exact alQ) ?_
                refine spQA (And.intro ha5 (And.intro ha13 ha21)) ?_
                refine hbindC_intro omQ ?_
                have he23 := fun d => elt_mp (l := p_.Escrow) (f := e_api_Escrow) (i := p21) omQ d
                refine spQA (And.intro ha5 (And.intro ha13 (And.intro ha21 he23))) ?_
                refine hbindC_intro omQ ?_
                have he24 := fun d => elt_mp (l := q.Escrow) (f := e_api_Escrow) (i := p21) omQ d
                refine spQA (And.intro ha5 (And.intro ha13 (And.intro ha21 (And.intro he23 he24)))) ?_
                have hM0 := hM; clear hM; obtain ⟨x25, hx26, hM⟩ := letk_opn hM0; clear hM0
                have hcx25 := specieref36_Same_ok  (gt p_.Escrow p21) (gt q.Escrow p21) 
                rw [← hx26] at hcx25
                refine callC_give hcx25 (clQA (And.intro ha5 (And.intro ha13 (And.intro ha21 (And.intro he23 he24))))) (clQA (And.intro ha5 (And.intro ha13 (And.intro ha21 (And.intro he23 he24))))) (fun hw27 => ?_)
                replace hw27 := nzQ hw27
                refine spQA (And.intro ha5 (And.intro ha13 (And.intro ha21 (And.intro he23 he24)))) ?_
                refine condC_intro (fun h28 => ?_) (fun h28 => ?_)
                · rw [if_pos h28] at hM
                  refine spQA (And.intro ha5 (And.intro ha13 (And.intro ha21 (And.intro he23 (And.intro he24 h28))))) ?_
                  have nh28 := nzQ h28
                  subst hM
                  exact retC_view (lfQA (And.intro ha5 (And.intro ha13 (And.intro ha21 (And.intro he23 (And.intro he24 (And.intro h1 (And.intro h2 (And.intro h3 (And.intro h4 (And.intro h6 (And.intro h14 (And.intro h22 h28)))))))))))))
                · rw [if_neg (ne_true h28)] at hM
                  refine spQA (And.intro ha5 (And.intro ha13 (And.intro ha21 (And.intro he23 (And.intro he24 h28))))) ?_
                  have nh28 := nzQ h28
                  refine lp_intro (n21 - 1) (⟨[(2, .ptr 0 0), (3, .ptr 1 0), (7, .int .i64 (p21 + 1))], [(0, .var 4 true (.agg [.int .i64 p_.Number, .sl none 80 true (p_.Spends.map e_api_Spend), .sl none 81 true (p_.Chains.map e_api_Chain), .sl none 5 true (p_.Escrow.map e_api_Escrow)])), (1, .var 4 true (.agg [.int .i64 q.Number, .sl none 80 true (q.Spends.map e_api_Spend), .sl none 81 true (q.Chains.map e_api_Chain), .sl none 5 true (q.Escrow.map e_api_Escrow)]))], 2⟩ : St) (by omega) sbQ sbQ ⟨(p21 + 1), rfl, ⟨omQ, omQ⟩, omQ, iter_again hM hag21⟩
              · rw [if_neg (ne_true h22)] at hM
                refine spQA (And.intro ha5 (And.intro ha13 (And.intro ha21 h22))) ?_
                have nh22 := nzQ h22
                subst hM
                exact retC_view (lfQA (And.intro ha5 (And.intro ha13 (And.intro ha21 (And.intro h1 (And.intro h2 (And.intro h3 (And.intro h4 (And.intro h6 (And.intro h14 h22))))))))))
      · rw [if_pos h3] at hM
        refine spQA h3 ?_
        have nh3 := nzQ h3
        subst hM
        exact retC_view (lfQA (And.intro h1 (And.intro h2 h3)))
    · rw [if_pos h2] at hM
      refine spQA h2 ?_
      have nh2 := nzQ h2
      subst hM
      exact retC_view (lfQA (And.intro h1 h2))
  · rw [if_pos h1] at hM
    refine spQA h1 ?_
    have nh1 := nzQ h1
    subst hM
    exact retC_view (lfQA h1)
set_option maxHeartbeats 2000000 in
set_option maxRecDepth 100000 in
theorem bytes_Equal_ok  (z0 : Option Bool) (z1 : Option Bool) (a_ : (List Int)) (b : (List Int))  : CallOk En 10 [.sl z0 1 false (a_.map (V.int .u8)), .sl z1 1 false (b.map (V.int .u8))] (.bool (bytes_Equal a_ b)) [] := by
  generalize hM : bytes_Equal a_ b = r
  rw [bytes_Equal.eq_1] at hM
  refine enterV En_ok En_mo noJ Try.func10 rfl Try.ntmps10 (by kernel_rfl) fun hw => ct_start ?_
  refine spQ ?_
  replace hw := nzQ hw
  refine bindC_intro (by (exact ⟨allU8_map, omQ⟩)) ?_
  refine spQ ?_
  refine bindC_intro (by (exact ⟨allU8_map, omQ⟩)) ?_
  refine spQ ?_
  subst hM
  exact retC_view lfQ
set_option maxHeartbeats 2000000 in
set_option maxRecDepth 100000 in
theorem specielaw38_PaymentBack_ok  (z1 : Option Bool) (p_ : S_api_Payment) (x_ : (List Int))  : CallOk En 3 [.agg [.int .i64 p_.Number, .sl none 80 true (p_.Spends.map e_api_Spend), .sl none 81 true (p_.Chains.map e_api_Chain), .sl none 5 true (p_.Escrow.map e_api_Escrow)], .sl z1 1 false (x_.map (V.int .u8))] (.bool (specielaw38_PaymentBack p_ x_)) [] := by
  generalize hM : specielaw38_PaymentBack p_ x_ = r
  rw [specielaw38_PaymentBack.eq_1] at hM
  refine enterV En_ok En_mo [10] Try.func3 rfl Try.ntmps3 (by kernel_rfl) fun hw => ct_start ?_
  refine spQ ?_
  replace hw := nzQ hw
  have hM0 := hM; clear hM; obtain ⟨x1, hx2, hM⟩ := letk_opn hM0; clear hM0
  have hcx1 := specielaw38_awake_ok   
  rw [← hx2] at hcx1
  refine callC_give hcx1 clQ clQ (fun hw3 => ?_)
  replace hw3 := nzQ hw3
  refine spQ ?_
  refine condC_intro (fun h4 => ?_) (fun h4 => ?_)
  · rw [if_pos h4] at hM
    refine spQA h4 ?_
    have nh4 := nzQ h4
    subst hM
    exact retC_view (lfQA h4)
  · rw [if_neg (ne_true h4)] at hM
    refine spQA h4 ?_
    have nh4 := nzQ h4
    have hM0 := hM; clear hM; obtain ⟨x5, hx6, hM⟩ := letk_opn hM0; clear hM0
    have hcx5 := specielaw38_great_ok  p_ 
    rw [← hx6] at hcx5
    refine callC_give hcx5 clQ clQ (fun hw7 => ?_)
    replace hw7 := nzQ hw7
    refine spQ ?_
    refine guardC_f (fun h8 => ?_) (fun h8 => ?_)
    · subst h8
      rw [if_neg (by decide)] at hM
      refine spQ ?_
      refine condC_intro (fun h9 => ?_) (fun h9 => ?_)
      · rw [if_pos h9] at hM
        refine spQA h9 ?_
        have nh9 := nzQ h9
        subst hM
        exact retC_view (lfQA (And.intro h4 h9))
      · rw [if_neg (ne_true h9)] at hM
        refine spQA h9 ?_
        have nh9 := nzQ h9
        have hM0 := hM; clear hM; obtain ⟨j10, hj10, hM⟩ := letj_opn hM0; clear hM0
        refine seqC_intro (fun S => ∃ p : Unit, S = (⟨[(1, .sl z1 1 false (x_.map (V.int .u8)))], [], 2⟩ : St) ∧ (True) ∧ j10 p = r) ?_ (fun hcut10 => ?_)
        · clear hM
          rintro S ⟨p10, rfl, hfa10, hM⟩
          have hM0 := hM; clear hM; have hM := letj_use hM0 hj10; clear hM0
          refine spQ ?_
          have hM0 := hM; clear hM; obtain ⟨x11, hx12, hM⟩ := letk_opn hM0; clear hM0
          have hcx11 := payment_Decode_ok z1 x_ 
          rw [← hx12] at hcx11
          refine callC_give hcx11 clQ clQ (fun hw13 => ?_)
          replace hw13 := nzQ hw13
          refine spQ ?_
          refine condC_intro (fun h14 => ?_) (fun h14 => ?_)
          · rw [if_pos h14] at hM
            refine spQA h14 ?_
            have nh14 := nzQ h14
            have hM0 := hM; clear hM; obtain ⟨x15, hx16, hM⟩ := letk_opn hM0; clear hM0
            have hcx15 := specieref38_Same_ok  (x11.1) z_api_Payment (by (first | exact great_chains (by assumption) | exact dec_chains (isB_wf hw.2.2) (by assumption) | exact dec_chains (by assumption) (by assumption) | exact zero_chains)) (by (first | exact great_chains (by assumption) | exact dec_chains (isB_wf hw.2.2) (by assumption) | exact dec_chains (by assumption) (by assumption) | exact zero_chains))
            rw [← hx16] at hcx15
            refine callC_give hcx15 clQ clQ (fun hw17 => ?_)
            replace hw17 := nzQ hw17
            refine spQ ?_
            subst hM
            exact retC_view (lfQA (And.intro h4 (And.intro h9 h14)))
          · rw [if_neg (ne_true h14)] at hM
            refine spQA h14 ?_
            have nh14 := nzQ h14
            have hM0 := hM; clear hM; obtain ⟨x18, hx19, hM⟩ := letk_opn hM0; clear hM0
            have hcx18 := payment_Encode_ok  (x11.1) (by (first | exact great_ok (by assumption) | exact dec_ok (isB_wf hw.2.2) (by assumption) (by assumption)))
            rw [← hx19] at hcx18
            refine callC_give hcx18 clQ clQ (fun hw20 => ?_)
            replace hw20 := nzQ hw20
            refine spQ ?_
            have hq21 := isB_wf hw20.1.2
            replace hq21 := nzQ hq21
            refine guardC_t (fun h22 => ?_) (fun h22 => ?_)
            · rw [if_pos h22] at hM
              refine spQA h22 ?_
              have nh22 := nzQ h22
              have hM0 := hM; clear hM; obtain ⟨x23, hx24, hM⟩ := letk_opn hM0; clear hM0
              have hcx23 := bytes_Equal_ok none z1 (x18.1) x_ 
              rw [← hx24] at hcx23
              refine callC_give hcx23 clQ clQ (fun hw25 => ?_)
              replace hw25 := nzQ hw25
              refine spQ ?_
              subst hM
              exact retC_view (lfQA (And.intro h4 (And.intro h9 (And.intro h14 h22))))
            · rw [if_neg (ne_true h22)] at hM
              refine spQA h22 ?_
              have nh22 := nzQ h22
              subst hM
              exact retC_view (lfQA (And.intro h4 (And.intro h9 (And.intro h14 h22))))
        · refine spQ ?_
          have hM0 := hM; clear hM; obtain ⟨x26, hx27, hM⟩ := letk_opn hM0; clear hM0
          have hcx26 := payment_Encode_ok  p_ (by (first | exact great_ok (by assumption) | exact dec_ok (isB_wf hw.2.2) (by assumption) (by assumption)))
          rw [← hx27] at hcx26
          refine callC_give hcx26 clQ clQ (fun hw28 => ?_)
          replace hw28 := nzQ hw28
          refine spQ ?_
          have hq29 := isB_wf hw28.1.2
          replace hq29 := nzQ hq29
          refine condC_intro (fun h30 => ?_) (fun h30 => ?_)
          · rw [if_pos h30] at hM
            refine spQA h30 ?_
            have nh30 := nzQ h30
            have hM0 := hM; clear hM; obtain ⟨x31, hx32, hM⟩ := letk_opn hM0; clear hM0
            have hcx31 := payment_Decode_ok none (x26.1) 
            rw [← hx32] at hcx31
            refine callC_give hcx31 clQ clQ (fun hw33 => ?_)
            replace hw33 := nzQ hw33
            refine spQ ?_
            refine guardC_f (fun h34 => ?_) (fun h34 => ?_)
            · rw [if_neg (ne_true h34)] at hM
              refine spQA h34 ?_
              have nh34 := nzQ h34
              have hM0 := hM; clear hM; obtain ⟨x35, hx36, hM⟩ := letk_opn hM0; clear hM0
              have hcx35 := specieref38_Same_ok  p_ (x31.1) (by (first | exact great_chains (by assumption) | exact dec_chains (isB_wf hw.2.2) (by assumption) | exact dec_chains (by assumption) (by assumption) | exact zero_chains)) (by (first | exact great_chains (by assumption) | exact dec_chains (isB_wf hw.2.2) (by assumption) | exact dec_chains (by assumption) (by assumption) | exact zero_chains))
              rw [← hx36] at hcx35
              refine callC_give hcx35 clQ clQ (fun hw37 => ?_)
              replace hw37 := nzQ hw37
              refine spQ ?_
              refine guardC_f (fun h38 => ?_) (fun h38 => ?_)
              · rw [if_neg (ne_true h38)] at hM
                refine spQA h38 ?_
                have nh38 := nzQ h38
                refine condC_intro (fun h39 => ?_) (fun h39 => ?_)
                · rw [if_pos h39] at hM
                  refine spQA h39 ?_
                  have nh39 := nzQ h39
                  subst hM
                  exact retC_view (lfQA (And.intro h4 (And.intro h9 (And.intro h30 (And.intro h34 (And.intro h38 h39))))))
                · rw [if_neg (ne_true h39)] at hM
                  refine spQA h39 ?_
                  have nh39 := nzQ h39
                  exact cut_intro (⟨[(1, .sl z1 1 false (x_.map (V.int .u8)))], [], 2⟩ : St) sbQ sbQ (hcut10 _ ⟨(), rfl, trivial, hM⟩)
              · rw [if_pos h38] at hM
                refine spQA h38 ?_
                have nh38 := nzQ h38
                subst hM
                exact retC_view (lfQA (And.intro h4 (And.intro h9 (And.intro h30 (And.intro h34 h38)))))
            · rw [if_pos h34] at hM
              refine spQA h34 ?_
              have nh34 := nzQ h34
              subst hM
              exact retC_view (lfQA (And.intro h4 (And.intro h9 (And.intro h30 h34))))
          · rw [if_neg (ne_true h30)] at hM
            refine spQA h30 ?_
            have nh30 := nzQ h30
            exact cut_intro (⟨[(1, .sl z1 1 false (x_.map (V.int .u8)))], [], 2⟩ : St) sbQ sbQ (hcut10 _ ⟨(), rfl, trivial, hM⟩)
    · subst h8
      rw [if_pos rfl] at hM
      refine spQ ?_
      subst hM
      exact retC_view (lfQA h4)
end Go.Proofs.Ytcbdmoihobdjaaa
