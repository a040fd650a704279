/- Texts of this proof, one after the other: U3, A1, A2, A3, L1, L2, L3. -/
import Derived.Test.YtbfeamknaiaghaaDoorZ6
import Derived.Test.YtbfeamknaiaghaaDoorZ5
import Derived.Lib.SplitLaws
import Derived.Lib.ItoaMem
set_option linter.unusedVariables false
set_option linter.unusedSimpArgs false
namespace Go.Proofs.YtbfeamknaiaghaaDoor
open Go.RowKit
set_option linter.unusedSimpArgs false
set_option maxHeartbeats 2000000 in
set_option maxRecDepth 100000 in
instance denom_Pay_ok   (l : (List S_api_Denom)) (have_ : (List Int)) (amount : Int)  : CM En (denom_Pay l have_ amount) 45 [.sl none 2 true (l.map e_api_Denom), .sl none 1 false (have_.map (V.int .i64)), .int .i64 amount] (fun y => .tup [.sl none 1 false (y.1.map (V.int .i64)), .int .i64 y.2]) (fun _ => []) := by
 refine cmQ fun r hM => ?_
 rw [denom_Pay.eq_1] at hM
 refine enterV En_ok En_mo noJ Tryd.func45 rfl Tryd.ntmps45 (by kernel_rfl) fun hw => ct_start ?_
 refine spQ ?_
 replace hw := nzQ hw
 have hM0 := hM; clear hM; obtain ⟨x1, hx2, hM⟩ := letk_opn hM0; clear hM0
 have hcx1 := cmU hx2
 refine callC_give hcx1 clQ clQ (fun hw3 => ?_)
 replace hw3 := nzQ hw3
 refine spQ ?_
 refine guardC_f (fun h4 => ?_) (fun h4 => ?_)
 ·rw [if_neg (ne_true h4)] at hM
  refine spQA h4 ?_
  have nh4 := nzQ h4
  have hM0 := hM; clear hM; obtain ⟨x5, hx6, hM⟩ := letk_opn hM0; clear hM0
  have hcx5 := cmU hx6
  refine callC_give hcx5 clQ clQ (fun hw7 => ?_)
  replace hw7 := nzQ hw7
  refine spQ ?_
  refine condC_intro (fun h8 => ?_) (fun h8 => ?_)
  ·rw [if_pos h8] at hM
   refine spQA h8 ?_
   have nh8 := nzQ h8
   subst hM
   exact retC_view (lfQA (And.intro h4 h8))
  ·rw [if_neg (ne_true h8)] at hM
   refine spQA h8 ?_
   have nh8 := nzQ h8
   refine guardC_f (fun h9 => ?_) (fun h9 => ?_)
   ·rw [if_neg (ne_true h9)] at hM
    refine spQA h9 ?_
    have nh9 := nzQ h9
    refine condC_intro (fun h10 => ?_) (fun h10 => ?_)
    ·rw [if_pos h10] at hM
     refine spQA h10 ?_
     have nh10 := nzQ h10
     subst hM
     exact retC_view (lfQA (And.intro h4 (And.intro h8 (And.intro h9 h10))))
    ·rw [if_neg (ne_true h10)] at hM
     refine spQA h10 ?_
     have nh10 := nzQ h10
     have hM0 := hM; clear hM; obtain ⟨x11, hx12, hM⟩ := letk_opn hM0; clear hM0
     have hcx11 := cmH hx12 (denom_change_ok  l have_ amount (by (first | omega | exact counted_len (hx6.symm.trans nh8) | exact (Valid_len (hx2.symm.trans nh4)).2 | exact Valid_val (hx2.symm.trans nh4) | exact counted_val (hx6.symm.trans nh8))) (by (first | omega | exact counted_len (hx6.symm.trans nh8) | exact (Valid_len (hx2.symm.trans nh4)).2 | exact Valid_val (hx2.symm.trans nh4) | exact counted_val (hx6.symm.trans nh8))) (by (first | omega | exact counted_len (hx6.symm.trans nh8) | exact (Valid_len (hx2.symm.trans nh4)).2 | exact Valid_val (hx2.symm.trans nh4) | exact counted_val (hx6.symm.trans nh8))) (by (first | omega | exact counted_len (hx6.symm.trans nh8) | exact (Valid_len (hx2.symm.trans nh4)).2 | exact Valid_val (hx2.symm.trans nh4) | exact counted_val (hx6.symm.trans nh8))) (by (first | omega | exact counted_len (hx6.symm.trans nh8) | exact (Valid_len (hx2.symm.trans nh4)).2 | exact Valid_val (hx2.symm.trans nh4) | exact counted_val (hx6.symm.trans nh8))) (by (first | omega | exact counted_len (hx6.symm.trans nh8) | exact (Valid_len (hx2.symm.trans nh4)).2 | exact Valid_val (hx2.symm.trans nh4) | exact counted_val (hx6.symm.trans nh8))))
     refine callC_give hcx11 clQ clQ (fun hw13 => ?_)
     replace hw13 := nzQ hw13
     refine spQ ?_
     have hF := (And.intro h4 (And.intro h8 (And.intro h9 h10)))
     exact auQ
   ·rw [if_pos h9] at hM
    refine spQA h9 ?_
    have nh9 := nzQ h9
    subst hM
    exact retC_view (lfQA (And.intro h4 (And.intro h8 h9)))
 ·rw [if_pos h4] at hM
  refine spQA h4 ?_
  have nh4 := nzQ h4
  subst hM
  exact retC_view (lfQA h4)
set_option maxHeartbeats 2000000 in
set_option maxRecDepth 100000 in
instance denom_Fewest_ok   (l : (List S_api_Denom)) (amount : Int)  : CM En (denom_Fewest l amount) 24 [.sl none 2 true (l.map e_api_Denom), .int .i64 amount] (fun y => .tup [.sl none 1 false (y.1.map (V.int .i64)), .int .i64 y.2]) (fun _ => []) := by
 refine cmQ fun r hM => ?_
 rw [denom_Fewest.eq_1] at hM
 refine enterV En_ok En_mo noJ Tryd.func24 rfl Tryd.ntmps24 (by kernel_rfl) fun hw => ct_start ?_
 refine spQ ?_
 replace hw := nzQ hw
 have hM0 := hM; clear hM; obtain ⟨x1, hx2, hM⟩ := letk_opn hM0; clear hM0
 have hcx1 := cmU hx2
 refine callC_give hcx1 clQ clQ (fun hw3 => ?_)
 replace hw3 := nzQ hw3
 refine spQ ?_
 refine condC_intro (fun h4 => ?_) (fun h4 => ?_)
 ·rw [if_pos h4] at hM
  refine spQA h4 ?_
  have nh4 := nzQ h4
  subst hM
  exact retC_view (lfQA h4)
 ·rw [if_neg (ne_true h4)] at hM
  refine spQA h4 ?_
  have nh4 := nzQ h4
  have hM0 := hM; clear hM; obtain ⟨x5, hx6, hM⟩ := letk_opn hM0; clear hM0
  have hcx5 := cmH hx6 (slices_Repeat_int_int_ok  ([1000] : List Int) (l.length : Int) (by (first | rfl | (have hv := Valid_len (hx2.symm.trans nh4); omega))) (by (first | rfl | (have hv := Valid_len (hx2.symm.trans nh4); omega))) (by (first | rfl | (have hv := Valid_len (hx2.symm.trans nh4); omega))))
  refine callC_giveP hcx5 (weakP_pub 0 (T := 3) (n := 1) (g := false) (z := (some false)) (l := ([1000] : List Int).map (V.int .i64)) clQ) clQ (fun hw7 => ?_)
  replace hw7 := nzQ hw7
  refine spQ ?_
  have hF := h4
  exact auQ
instance (priority := 1001) : DRD 6 26 8 [16, 17, 18, 19, 20, 21, 22, 23] [] ([[], [], [0, 1], [0, 1, 2], [], [], [4, 5], [4, 5, 6]] ++ [List.range 8]) [] := ⟨trivial⟩
set_option maxHeartbeats 2000000 in
set_option maxRecDepth 100000 in
instance slices_Equal_int_int_ok   (s1 : (List Int)) (s2 : (List Int))  : CM En (slices_Equal_int_int s1 s2) 25 [.sl none 1 false (s1.map (V.int .i64)), .sl none 1 false (s2.map (V.int .i64))] (fun y => .bool y) (fun _ => []) := by
 refine cmQ fun r hM => ?_
 rw [slices_Equal_int_int.eq_1] at hM
 refine enterV En_ok En_mo noJ Tryd.func25 rfl Tryd.ntmps25 (by kernel_rfl) fun hw => ct_start ?_
 refine spQ ?_
 replace hw := nzQ hw
 refine condC_intro (fun h1 => ?_) (fun h1 => ?_)
 ·rw [if_pos h1] at hM
  refine spQA h1 ?_
  have nh1 := nzQ h1
  subst hM
  exact retC_view (lfQA h1)
 ·rw [if_neg (ne_true h1)] at hM
  refine spQA h1 ?_
  have nh1 := nzQ h1
  have hM0 := hM; clear hM; obtain ⟨f2, d2, hf2, hd2, hM⟩ := iter_opn hM0; clear hM0
  refine ct_loop (fun n S => ∃ p : Int, S = (⟨[(0, .sl none 1 false (s1.map (V.int .i64))), (1, .sl none 1 false (s2.map (V.int .i64))), (12, .int .i64 (s1.length : Int)), (13, .int .i64 p)], [], 0⟩ : St) ∧ ((0 ≤ p) ∧ (p ≤ (s1.length : Int))) ∧ ((s1.length : Int) - p).toNat < n ∧ iter n f2 d2 p = r) (((s1.length : Int) - 0).toNat + 1) _ sbQ sbQ ⟨0, rfl, ⟨omQ, omQ⟩, (Nat.lt_succ_self _), hM⟩ ?_
  clear hM
  rintro n2 S ⟨p2, rfl, hfa2, hm2, hM⟩
  have hM0 := hM; clear hM; obtain ⟨ag2, hag2, hM⟩ := iter_step hM0 (by omega) hf2; clear hM0
  replace hfa2 := nzQ hfa2
  replace hm2 := nzQ hm2
  have ha2 : addI .i64 p2 1 = p2 + 1 := add_one omQ omQ
  refine spQA ha2 ?_
  have hF := (And.intro h1 ha2)
  exact auQ
set_option maxHeartbeats 2000000 in
set_option maxRecDepth 100000 in
instance specielaw28_awake_ok     : CM En (specielaw28_awake) 6 [] (fun y => .bool y) (fun _ => []) := by
 refine cmQ fun r hM => ?_
 rw [specielaw28_awake.eq_1] at hM
 refine enterV En_ok En_mo noJ Tryd.func6 rfl Tryd.ntmps6 (by kernel_rfl) fun hw => ct_start ?_
 refine spQ ?_
 replace hw := nzQ hw
 have hM0 := hM; clear hM; obtain ⟨x1, hx2, hM⟩ := letk_opn hM0; clear hM0
 have hcx1 := cmU hx2
 refine callC_giveP hcx1 (weakP_pub 0 (T := 64) (n := 2) (g := true) (z := (some false)) (l := ([({ Value := 1, Depth := 0 } : S_api_Denom), ({ Value := 2, Depth := 1 } : S_api_Denom), ({ Value := 5, Depth := 0 } : S_api_Denom)] : List S_api_Denom).map e_api_Denom) clQ) clQ (fun hw3 => ?_)
 replace hw3 := nzQ hw3
 refine spQ ?_
 have hM0 := hM; clear hM; obtain ⟨x4, hx5, hM⟩ := letk_opn hM0; clear hM0
 have hcx4 := cmU hx5
 refine callC_giveP hcx4 (weakP_pub 1 (T := 64) (n := 2) (g := true) (z := (some false)) (l := ([({ Value := 4, Depth := 0 } : S_api_Denom), ({ Value := 5, Depth := 0 } : S_api_Denom), ({ Value := 6, Depth := 0 } : S_api_Denom)] : List S_api_Denom).map e_api_Denom) clQ) clQ (fun hw6 => ?_)
 replace hw6 := nzQ hw6
 refine spQ ?_
 have hM0 := hM; clear hM; obtain ⟨x7, hx8, hM⟩ := letk_opn hM0; clear hM0
 have hcx7 := cmU hx8
 refine callC_giveP hcx7 (weakP_pub 2 (T := 64) (n := 2) (g := true) (z := (some false)) (l := ([({ Value := 4, Depth := 0 } : S_api_Denom), ({ Value := 5, Depth := 0 } : S_api_Denom), ({ Value := 6, Depth := 0 } : S_api_Denom)] : List S_api_Denom).map e_api_Denom) clQ) clQ (fun hw9 => ?_)
 replace hw9 := nzQ hw9
 refine spQ ?_
 have hF := trueQ
 exact auQ
set_option maxHeartbeats 2000000 in
set_option maxRecDepth 100000 in
instance specielaw28_great_ok   (l : (List S_api_Denom))  : CM En (specielaw28_great l) 7 [.sl none 2 true (l.map e_api_Denom)] (fun y => .bool y) (fun _ => []) := by
 refine cmQ fun r hM => ?_
 rw [specielaw28_great.eq_1] at hM
 refine enterV En_ok En_mo noJ Tryd.func7 rfl Tryd.ntmps7 (by kernel_rfl) fun hw => ct_start ?_
 refine spQ ?_
 replace hw := nzQ hw
 subst hM
 exact retC_view lfQ
set_option maxHeartbeats 2000000 in
set_option maxRecDepth 100000 in
instance specieref28_One_ok   (d_ : S_api_Denom)  : CM En (specieref28_One d_) 29 [.agg [.int .i64 d_.Value, .int .i64 d_.Depth]] (fun y => .bool y) (fun _ => []) := by
 refine cmQ fun r hM => ?_
 rw [specieref28_One.eq_1] at hM
 refine enterV En_ok En_mo noJ Tryd.func29 rfl Tryd.ntmps29 (by kernel_rfl) fun hw => ct_start ?_
 refine spQ ?_
 replace hw := nzQ hw
 refine condC_intro (fun h1 => ?_) (fun h1 => ?_)
 ·rw [if_pos h1] at hM
  refine spQA h1 ?_
  have nh1 := nzQ h1
  subst hM
  exact retC_view (lfQA h1)
 ·rw [if_neg (ne_true h1)] at hM
  refine spQA h1 ?_
  have nh1 := nzQ h1
  refine guardC_t (fun h2 => ?_) (fun h2 => ?_)
  ·rw [if_pos h2] at hM
   refine spQA h2 ?_
   have nh2 := nzQ h2
   refine guardC_t (fun h3 => ?_) (fun h3 => ?_)
   ·rw [if_pos h3] at hM
    refine spQA h3 ?_
    have nh3 := nzQ h3
    refine guardC_t (fun h4 => ?_) (fun h4 => ?_)
    ·rw [if_pos h4] at hM
     refine spQA h4 ?_
     have nh4 := nzQ h4
     refine guardC_t (fun h5 => ?_) (fun h5 => ?_)
     ·rw [if_pos h5] at hM
      refine spQA h5 ?_
      have nh5 := nzQ h5
      refine bindC_intro (by (exact nn_u64 _)) ?_
      refine spQ ?_
      refine bindC_intro (by (clear hM; simp only [decide_eq_true_eq] at *; rcases (show d_.Depth = 0 ∨ d_.Depth = 1 ∨ d_.Depth = 2 ∨ d_.Depth = 3 ∨ d_.Depth = 4 ∨ d_.Depth = 5 by omega) with h | h | h | h | h | h <;> rw [h] <;> decide)) ?_
      refine spQ ?_
      subst hM
      exact retC_view (lfQA (And.intro h1 (And.intro h2 (And.intro h3 (And.intro h4 h5)))))
     ·rw [if_neg (ne_true h5)] at hM
      refine spQA h5 ?_
      have nh5 := nzQ h5
      subst hM
      exact retC_view (lfQA (And.intro h1 (And.intro h2 (And.intro h3 (And.intro h4 h5)))))
    ·rw [if_neg (ne_true h4)] at hM
     refine spQA h4 ?_
     have nh4 := nzQ h4
     subst hM
     exact retC_view (lfQA (And.intro h1 (And.intro h2 (And.intro h3 h4))))
   ·rw [if_neg (ne_true h3)] at hM
    refine spQA h3 ?_
    have nh3 := nzQ h3
    subst hM
    exact retC_view (lfQA (And.intro h1 (And.intro h2 h3)))
  ·rw [if_neg (ne_true h2)] at hM
   refine spQA h2 ?_
   have nh2 := nzQ h2
   subst hM
   exact retC_view (lfQA (And.intro h1 h2))
set_option maxHeartbeats 2000000 in
set_option maxRecDepth 100000 in
instance specieref28_Valid_ok   (l : (List S_api_Denom))  : CM En (specieref28_Valid l) 9 [.sl none 2 true (l.map e_api_Denom)] (fun y => .bool y) (fun _ => []) := by
 refine cmQ fun r hM => ?_
 rw [specieref28_Valid.eq_1] at hM
 refine enterV En_ok En_mo noJ Tryd.func9 rfl Tryd.ntmps9 (by kernel_rfl) fun hw => ct_start ?_
 refine spQ ?_
 replace hw := nzQ hw
 refine guardC_f (fun h1 => ?_) (fun h1 => ?_)
 ·rw [if_neg (ne_true h1)] at hM
  refine spQA h1 ?_
  have nh1 := nzQ h1
  refine condC_intro (fun h2 => ?_) (fun h2 => ?_)
  ·rw [if_pos h2] at hM
   refine spQA h2 ?_
   have nh2 := nzQ h2
   subst hM
   exact retC_view (lfQA (And.intro h1 h2))
  ·rw [if_neg (ne_true h2)] at hM
   refine spQA h2 ?_
   have nh2 := nzQ h2
   have hM0 := hM; clear hM; obtain ⟨f3, d3, hf3, hd3, hM⟩ := iter_opn hM0; clear hM0
   refine ct_loop (fun n S => ∃ p : Int, S = (⟨[(0, .sl none 2 true (l.map e_api_Denom)), (3, .int .i64 p)], [], 0⟩ : St) ∧ ((0 ≤ p) ∧ (p ≤ (l.length : Int))) ∧ ((l.length : Int) - p).toNat < n ∧ iter n f3 d3 p = r) (((l.length : Int) - 0).toNat + 1) _ sbQ sbQ ⟨0, rfl, ⟨omQ, omQ⟩, (Nat.lt_succ_self _), hM⟩ ?_
   clear hM
   rintro n3 S ⟨p3, rfl, hfa3, hm3, hM⟩
   have hM0 := hM; clear hM; obtain ⟨ag3, hag3, hM⟩ := iter_step hM0 (by omega) hf3; clear hM0
   replace hfa3 := nzQ hfa3
   replace hm3 := nzQ hm3
   have ha3 : addI .i64 p3 1 = p3 + 1 := add_one omQ omQ
   refine spQA ha3 ?_
   refine condC_intro (fun h4 => ?_) (fun h4 => ?_)
   ·rw [if_pos h4] at hM
    refine spQA (And.intro ha3 h4) ?_
    have nh4 := nzQ h4
    refine bindC_intro omQ ?_
    have he5 := fun d => elt_mp (l := l) (f := e_api_Denom) (i := p3) omQ d
    refine spQA (And.intro ha3 he5) ?_
    have hM0 := hM; clear hM; obtain ⟨x6, hx7, hM⟩ := letk_opn hM0; clear hM0
    have hcx6 := cmU hx7
    refine callC_give hcx6 (clQA (And.intro ha3 he5)) (clQA (And.intro ha3 he5)) (fun hw8 => ?_)
    replace hw8 := nzQ hw8
    refine spQA (And.intro ha3 he5) ?_
    refine condC_intro (fun h9 => ?_) (fun h9 => ?_)
    ·rw [if_pos h9] at hM
     refine spQA (And.intro ha3 (And.intro he5 h9)) ?_
     have nh9 := nzQ h9
     subst hM
     exact retC_view (lfQA (And.intro ha3 (And.intro he5 (And.intro h1 (And.intro h2 (And.intro h4 h9))))))
    ·rw [if_neg (ne_true h9)] at hM
     refine spQA (And.intro ha3 (And.intro he5 h9)) ?_
     have nh9 := nzQ h9
     refine ct_draw 68 40 [24, 25, 26, 27, 28, 29, 30, 31, 32, 33, 34, 35, 36, 37, 38, 39, 40, 41, 42, 43, 44, 45, 46, 47, 48, 49, 50, 51, 52, 53, 54, 55, 56, 57, 58, 59, 60, 61, 62, 63] [] ([[], [0], [0, 1], [0, 1, 2], [0, 1, 2], [0, 1, 2, 3, 4], [0, 1, 2, 3, 4, 5], [0, 1, 2, 3, 4, 5, 6], [0, 1, 2], [0, 1, 2], [0, 1, 2, 9], [0, 1, 2, 8, 9, 10], [0, 1, 2, 8, 9, 10, 11], [0, 1, 2, 8, 9, 10, 11, 12], [0, 1, 2, 3, 4, 5, 6, 7, 8, 9, 10, 11, 12, 13], [0, 1, 2, 3, 4, 5, 6, 7, 8, 9, 10, 11, 12, 13, 14], [0, 1, 2, 3, 4, 5, 6, 7, 8, 9, 10, 11, 12, 13, 14, 15], [0, 1, 2, 3, 4, 5, 6, 7, 8, 9, 10, 11, 12, 13, 14, 15], [0, 1, 2, 3, 4, 5, 6, 7, 8, 9, 10, 11, 12, 13, 14, 15, 16, 17], [0, 1, 2, 3, 4, 5, 6, 7, 8, 9, 10, 11, 12, 13, 14, 15, 16, 17, 18], [0, 1, 2, 3, 4, 5, 6, 7, 8, 9, 10, 11, 12, 13, 14, 15, 16, 17, 18, 19], [0, 1, 2, 3, 4, 5, 6, 7, 8, 9, 10, 11, 12, 13, 14, 15], [0, 1, 2, 3, 4, 5, 6, 7, 8, 9, 10, 11, 12, 13, 14, 15], [0, 1, 2, 3, 4, 5, 6, 7, 8, 9, 10, 11, 12, 13, 14, 15, 22], [0, 1, 2, 3, 4, 5, 6, 7, 8, 9, 10, 11, 12, 13, 14, 15, 21, 22, 23], [0, 1, 2, 3, 4, 5, 6, 7, 8, 9, 10, 11, 12, 13, 14, 15, 21, 22, 23, 24], [0, 1, 2, 3, 4, 5, 6, 7, 8, 9, 10, 11, 12, 13, 14, 15, 21, 22, 23, 24, 25], [0, 1, 2, 3, 4, 5, 6, 7, 8, 9, 10, 11, 12, 13, 14, 15, 16, 17, 18, 19, 20, 21, 22, 23, 24, 25, 26], [0, 1, 2, 3, 4, 5, 6, 7, 8, 9, 10, 11, 12, 13, 14, 15, 16, 17, 18, 19, 20, 21, 22, 23, 24, 25, 26, 27], [0, 1, 2, 3, 4, 5, 6, 7, 8, 9, 10, 11, 12, 13, 14, 15, 16, 17, 18, 19, 20, 21, 22, 23, 24, 25, 26, 27, 28], [0, 1, 2, 3, 4, 5, 6, 7, 8, 9, 10, 11, 12, 13, 14, 15, 16, 17, 18, 19, 20, 21, 22, 23, 24, 25, 26, 27, 28], [0, 1, 2, 3, 4, 5, 6, 7, 8, 9, 10, 11, 12, 13, 14, 15, 16, 17, 18, 19, 20, 21, 22, 23, 24, 25, 26, 27, 28, 29, 30], [0, 1, 2, 3, 4, 5, 6, 7, 8, 9, 10, 11, 12, 13, 14, 15, 16, 17, 18, 19, 20, 21, 22, 23, 24, 25, 26, 27, 28, 29, 30, 31], [0, 1, 2, 3, 4, 5, 6, 7, 8, 9, 10, 11, 12, 13, 14, 15, 16, 17, 18, 19, 20, 21, 22, 23, 24, 25, 26, 27, 28, 29, 30, 31, 32], [0, 1, 2, 3, 4, 5, 6, 7, 8, 9, 10, 11, 12, 13, 14, 15, 16, 17, 18, 19, 20, 21, 22, 23, 24, 25, 26, 27, 28], [0, 1, 2, 3, 4, 5, 6, 7, 8, 9, 10, 11, 12, 13, 14, 15, 16, 17, 18, 19, 20, 21, 22, 23, 24, 25, 26, 27, 28], [0, 1, 2, 3, 4, 5, 6, 7, 8, 9, 10, 11, 12, 13, 14, 15, 16, 17, 18, 19, 20, 21, 22, 23, 24, 25, 26, 27, 28, 35], [0, 1, 2, 3, 4, 5, 6, 7, 8, 9, 10, 11, 12, 13, 14, 15, 16, 17, 18, 19, 20, 21, 22, 23, 24, 25, 26, 27, 28, 34, 35, 36], [0, 1, 2, 3, 4, 5, 6, 7, 8, 9, 10, 11, 12, 13, 14, 15, 16, 17, 18, 19, 20, 21, 22, 23, 24, 25, 26, 27, 28, 34, 35, 36, 37], [0, 1, 2, 3, 4, 5, 6, 7, 8, 9, 10, 11, 12, 13, 14, 15, 16, 17, 18, 19, 20, 21, 22, 23, 24, 25, 26, 27, 28, 34, 35, 36, 37, 38]] ++ [List.range 40, List.range 41, List.range 42, List.range 43]) [] (by kernel_rfl) (by exact alQ) ?_
     refine spQA (And.intro ha3 he5) ?_
     refine hguardC_t (fun h10 => ?_) (fun h10 => ?_)
     ·rw [if_pos h10] at hM
      refine spQA (And.intro ha3 (And.intro he5 h10)) ?_
      have nh10 := nzQ h10
      refine hbindC_intro omQ ?_
      refine spQA (And.intro ha3 he5) ?_
      have ha11 : subI .i64 p3 1 = (p3 - 1) := sub_ok omQ omQ
      try simp only [ha11]
      have hF := (And.intro h1 (And.intro h2 (And.intro ha3 (And.intro h4 (And.intro he5 (And.intro h9 (And.intro h10 ha11)))))))
      exact auQ
     ·rw [if_neg (ne_true h10)] at hM
      refine spQA (And.intro ha3 (And.intro he5 h10)) ?_
      have nh10 := nzQ h10
      refine lp_intro (n3 - 1) _ (by omega) sbQ sbQ ⟨(p3 + 1), rfl, ⟨omQ, omQ⟩, omQ, iter_again hM hag3⟩
   ·rw [if_neg (ne_true h4)] at hM
    refine spQA (And.intro ha3 h4) ?_
    have nh4 := nzQ h4
    subst hM
    exact retC_view (lfQA (And.intro ha3 (And.intro h1 (And.intro h2 h4))))
 ·rw [if_pos h1] at hM
  refine spQA h1 ?_
  have nh1 := nzQ h1
  subst hM
  exact retC_view (lfQA h1)
set_option maxHeartbeats 2000000 in
set_option maxRecDepth 100000 in
instance denom_Text_ok   (l : (List S_api_Denom))  : CM En (denom_Text l) 8 [.sl none 2 true (l.map e_api_Denom)] (fun y => .tup [.str y.1, .int .i64 y.2]) (fun _ => []) := by
 refine cmQ fun r hM => ?_
 rw [denom_Text.eq_1] at hM
 refine enterV En_ok En_mo noJ Tryd.func8 rfl Tryd.ntmps8 (by kernel_rfl) fun hw => ct_start ?_
 refine spQ ?_
 replace hw := nzQ hw
 have hM0 := hM; clear hM; obtain ⟨x1, hx2, hM⟩ := letk_opn hM0; clear hM0
 have hcx1 := cmU hx2
 refine callC_give hcx1 clQ clQ (fun hw3 => ?_)
 replace hw3 := nzQ hw3
 refine spQ ?_
 have hq4 := vlen hx2
 replace hq4 := nzQ hq4
 refine condC_intro (fun h5 => ?_) (fun h5 => ?_)
 ·rw [if_pos h5] at hM
  refine spQA h5 ?_
  have nh5 := nzQ h5
  subst hM
  exact retC_view (lfQA h5)
 ·rw [if_neg (ne_true h5)] at hM
  refine spQA h5 ?_
  have nh5 := nzQ h5
  have hM0 := hM; clear hM; obtain ⟨f6, d6, hf6, hd6, hM⟩ := iter_opn hM0; clear hM0
  refine ct_loopW (fun n S => ∃ p : Int × List (List UInt8), S = (⟨[(4, .own 0), (10, .sl none 2 true (l.map e_api_Denom)), (11, .int .i64 (l.length : Int)), (12, .int .i64 p.1)], [(0, .own 9 1 false none (p.2.map V.str))], 1⟩ : St) ∧ (((0 ≤ p.1) ∧ (p.1 ≤ (l.length : Int)) ∧ (((p.2).length : Int) ≤ p.1)) ∧ ((textLen (p.2) : Int) ≤ 43 * p.1)) ∧ ((l.length : Int) - p.1).toNat < n ∧ iter n f6 d6 p = r) (((l.length : Int) - 0).toNat + 1) _ _ (weak_nil 4 9 rfl (by decide)) sbQ sbQ ⟨(0, ([] : List (List UInt8))), rfl, ⟨⟨by (first | exact omQ | (clear hM; first | (rw [LEN_eq]; (try simp only [List.length_append, List.length_cons, List.length_nil, List.length_map]); exact omQ'))), by (first | exact omQ | (clear hM; first | (rw [LEN_eq]; (try simp only [List.length_append, List.length_cons, List.length_nil, List.length_map]); exact omQ'))), by (first | exact omQ | (clear hM; first | (rw [LEN_eq]; (try simp only [List.length_append, List.length_cons, List.length_nil, List.length_map]); exact omQ')))⟩, by (simp [textLen])⟩, (Nat.lt_succ_self _), hM⟩ ?_
  clear hM
  rintro n6 S ⟨p6, rfl, ⟨hfa6, hF5_0⟩, hm6, hM⟩
  have hM0 := hM; clear hM; obtain ⟨ag6, hag6, hM⟩ := iter_step hM0 (by omega) hf6; clear hM0
  replace hfa6 := nzQ hfa6
  replace hm6 := nzQ hm6
  have ha6 : addI .i64 p6.1 1 = p6.1 + 1 := add_one (by (first | exact omQ | (clear hM; first | (rw [LEN_eq]; (try simp only [List.length_append, List.length_cons, List.length_nil, List.length_map]); exact omQ')))) (by (first | exact omQ | (clear hM; first | (rw [LEN_eq]; (try simp only [List.length_append, List.length_cons, List.length_nil, List.length_map]); exact omQ'))))
  refine spQA ha6 ?_
  refine condC_intro (fun h7 => ?_) (fun h7 => ?_)
  ·rw [if_pos h7] at hM
   refine spQA (And.intro ha6 h7) ?_
   have nh7 := nzQ h7
   refine bindC_intro (by (first | exact omQ | (clear hM; first | (rw [LEN_eq]; (try simp only [List.length_append, List.length_cons, List.length_nil, List.length_map]); exact omQ')))) ?_
   have he8 := fun d => elt_mp (l := l) (f := e_api_Denom) (i := p6.1) (by (first | exact omQ | (clear hM; first | (rw [LEN_eq]; (try simp only [List.length_append, List.length_cons, List.length_nil, List.length_map]); exact omQ')))) d
   refine spQA (And.intro ha6 he8) ?_
   refine ct_draw 30 10 [16, 17, 18, 19, 20, 21, 22, 23, 24, 25] [] ([[], [], [1], [1, 2], [1, 2, 3], [], [5], [5, 6], [1, 2, 3, 4, 5, 6, 7], [1, 2, 3, 4, 5, 6, 7, 8]] ++ [List.range 10, List.range 11]) [] (by kernel_rfl) (by exact alQ) ?_
   refine spQA (And.intro ha6 he8) ?_
   have hM0 := hM; clear hM; obtain ⟨x9, hx10, hM⟩ := letk_opn hM0; clear hM0
   have hcx9 := cmU hx10
   refine hcallC_give hcx9 (clQA (And.intro ha6 he8)) (clQA (And.intro ha6 he8)) ?_
   refine spQA (And.intro ha6 he8) ?_
   have hq11 := itoa_len hx10 (by first | exact (wf_den hw.2 (by omega)).1 | exact (wf_den hw.2 (by omega)).2)
   replace hq11 := nzQ hq11
   refine hbindC_intro (by (first | exact omQ | (clear hM; first | (rw [LEN_eq]; (try simp only [List.length_append, List.length_cons, List.length_nil, List.length_map]); exact omQ')))) ?_
   refine spQA (And.intro ha6 he8) ?_
   have hM0 := hM; clear hM; obtain ⟨x12, hx13, hM⟩ := letk_opn hM0; clear hM0
   have hcx12 := cmU hx13
   refine hcallC_give hcx12 (clQA (And.intro ha6 he8)) (clQA (And.intro ha6 he8)) ?_
   refine spQA (And.intro ha6 he8) ?_
   have hq14 := itoa_len hx13 (by first | exact (wf_den hw.2 (by omega)).1 | exact (wf_den hw.2 (by omega)).2)
   replace hq14 := nzQ hq14
   refine hbindC_intro (by (first | exact omQ | (clear hM; first | (rw [LEN_eq]; (try simp only [List.length_append, List.length_cons, List.length_nil, List.length_map]); exact omQ')))) ?_
   refine spQA (And.intro ha6 he8) ?_
   refine bindC_intro (by (first | exact omQ | (clear hM; first | (rw [LEN_eq]; (try simp only [List.length_append, List.length_cons, List.length_nil, List.length_map]); exact omQ')))) ?_
   refine spQA (And.intro ha6 he8) ?_
   refine lp_intro (n6 - 1) _ (by omega) sbQ sbQ ⟨((p6.1 + 1), (p6.2 ++ ([((x9 ++ [47]) ++ x12)] : List (List UInt8)))), rfl, ⟨⟨by (first | exact omQ | (clear hM; first | (rw [LEN_eq]; (try simp only [List.length_append, List.length_cons, List.length_nil, List.length_map]); exact omQ'))), by (first | exact omQ | (clear hM; first | (rw [LEN_eq]; (try simp only [List.length_append, List.length_cons, List.length_nil, List.length_map]); exact omQ'))), by (first | exact omQ | (clear hM; first | (rw [LEN_eq]; (try simp only [List.length_append, List.length_cons, List.length_nil, List.length_map]); exact omQ')))⟩, by (clear hM; rw [textLen_app]; simp only [List.length_append, List.length_cons, List.length_nil]; omega)⟩, by (first | exact omQ | (clear hM; first | (rw [LEN_eq]; (try simp only [List.length_append, List.length_cons, List.length_nil, List.length_map]); exact omQ'))), iter_again hM hag6⟩
  ·rw [if_neg (ne_true h7)] at hM
   refine spQA (And.intro ha6 h7) ?_
   have nh7 := nzQ h7
   have hM0 := hM; clear hM; obtain ⟨x15, hx16, hM⟩ := letk_opn hM0; clear hM0
   have hcx15 := cmH hx16 (strings_Join_ok  (p6.2) ([32]) (by (have hv := vlen hx2 nh5; refine Nat.le_trans (join_le _ _) ?_; simp only [List.length_cons, List.length_nil]; omega)))
   refine callC_look hcx15 (clQA ha6) (clQA ha6) (fun hw17 => ?_)
   replace hw17 := nzQ hw17
   refine spQA ha6 ?_
   subst hM
   exact retC_view (lfQA (And.intro ha6 (And.intro h5 h7)))
set_option maxHeartbeats 2000000 in
set_option maxRecDepth 100000 in
instance denom_number_ok   (s : (List UInt8))  : CM En (denom_number s) 32 [.str s] (fun y => .tup [.int .i64 y.1, .bool y.2]) (fun _ => []) := by
 refine cmQ fun r hM => ?_
 rw [denom_number.eq_1] at hM
 refine enterV En_ok En_mo noJ Tryd.func32 rfl Tryd.ntmps32 (by kernel_rfl) fun hw => ct_start ?_
 refine spQ ?_
 replace hw := nzQ hw
 refine guardC_f (fun h1 => ?_) (fun h1 => ?_)
 ·rw [if_neg (ne_true h1)] at hM
  refine spQA h1 ?_
  have nh1 := nzQ h1
  refine bindC_intro (by (first | exact omQ | (clear hM; first | (have h9 := s_ne (by assumption); exact omQ')))) ?_
  refine spQ ?_
  refine guardC_t (fun h2 => ?_) (fun h2 => ?_)
  ·rw [if_pos h2] at hM
   refine spQA h2 ?_
   have nh2 := nzQ h2
   refine condC_intro (fun h3 => ?_) (fun h3 => ?_)
   ·rw [if_pos h3] at hM
    refine spQA h3 ?_
    have nh3 := nzQ h3
    subst hM
    exact retC_view (lfQA (And.intro h1 (And.intro h2 h3)))
   ·rw [if_neg (ne_true h3)] at hM
    refine spQA h3 ?_
    have nh3 := nzQ h3
    have hM0 := hM; clear hM; obtain ⟨f4, d4, hf4, hd4, hM⟩ := iter_opn hM0; clear hM0
    refine ct_loop (fun n S => ∃ p : Int × Int, S = (⟨[(0, .str s), (4, .int .i64 p.1), (19, .int .i64 (s.length : Int)), (20, .int .i64 p.2)], [], 0⟩ : St) ∧ ((0 ≤ p.2) ∧ (p.2 ≤ (s.length : Int))) ∧ ((s.length : Int) - p.2).toNat < n ∧ iter n f4 d4 p = r) (((s.length : Int) - 0).toNat + 1) _ sbQ sbQ ⟨(0, 0), rfl, ⟨by (first | exact omQ | (clear hM; first | (have h9 := s_ne (by assumption); exact omQ'))), by (first | exact omQ | (clear hM; first | (have h9 := s_ne (by assumption); exact omQ')))⟩, (Nat.lt_succ_self _), hM⟩ ?_
    clear hM
    rintro n4 S ⟨p4, rfl, hfa4, hm4, hM⟩
    have hM0 := hM; clear hM; obtain ⟨ag4, hag4, hM⟩ := iter_step hM0 (by omega) hf4; clear hM0
    replace hfa4 := nzQ hfa4
    replace hm4 := nzQ hm4
    have ha4 : addI .i64 p4.2 1 = p4.2 + 1 := add_one (by (first | exact omQ | (clear hM; first | (have h9 := s_ne (by assumption); exact omQ')))) (by (first | exact omQ | (clear hM; first | (have h9 := s_ne (by assumption); exact omQ'))))
    refine spQA ha4 ?_
    refine condC_intro (fun h5 => ?_) (fun h5 => ?_)
    ·rw [if_pos h5] at hM
     refine spQA (And.intro ha4 h5) ?_
     have nh5 := nzQ h5
     refine bindC_intro (by (first | exact omQ | (clear hM; first | (have h9 := s_ne (by assumption); exact omQ')))) ?_
     refine spQA ha4 ?_
     refine guardC_f (fun h6 => ?_) (fun h6 => ?_)
     ·rw [if_neg (ne_true h6)] at hM
      refine spQA (And.intro ha4 h6) ?_
      have nh6 := nzQ h6
      refine bindC_intro (by (first | exact omQ | (clear hM; first | (have h9 := s_ne (by assumption); exact omQ')))) ?_
      refine spQA ha4 ?_
      refine condC_intro (fun h7 => ?_) (fun h7 => ?_)
      ·rw [if_pos h7] at hM
       refine spQA (And.intro ha4 h7) ?_
       have nh7 := nzQ h7
       subst hM
       exact retC_view (lfQA (And.intro ha4 (And.intro h1 (And.intro h2 (And.intro h3 (And.intro h5 (And.intro h6 h7)))))))
      ·rw [if_neg (ne_true h7)] at hM
       refine spQA (And.intro ha4 h7) ?_
       have nh7 := nzQ h7
       refine condC_intro (fun h8 => ?_) (fun h8 => ?_)
       ·rw [if_pos h8] at hM
        refine spQA (And.intro ha4 h8) ?_
        have nh8 := nzQ h8
        refine bindC_intro (by (first | exact omQ | (clear hM; first | (have h9 := s_ne (by assumption); exact omQ')))) ?_
        refine spQA ha4 ?_
        refine condC_intro (fun h9 => ?_) (fun h9 => ?_)
        ·rw [if_pos h9] at hM
         refine spQA (And.intro ha4 h9) ?_
         have nh9 := nzQ h9
         refine lp_intro (n4 - 1) _ (by omega) sbQ sbQ ⟨((-1), (p4.2 + 1)), rfl, ⟨by (first | exact omQ | (clear hM; first | (have h9 := s_ne (by assumption); exact omQ'))), by (first | exact omQ | (clear hM; first | (have h9 := s_ne (by assumption); exact omQ')))⟩, by (first | exact omQ | (clear hM; first | (have h9 := s_ne (by assumption); exact omQ'))), iter_again hM hag4⟩
        ·rw [if_neg (ne_true h9)] at hM
         refine spQA (And.intro ha4 h9) ?_
         have nh9 := nzQ h9
         refine lp_intro (n4 - 1) _ (by omega) sbQ sbQ ⟨((addI .i64 (mulI .i64 10 p4.1) (convI .i64 (subI .u8 ((s.getD (p4.2).toNat 0).toNat : Int) 48))), (p4.2 + 1)), rfl, ⟨by (first | exact omQ | (clear hM; first | (have h9 := s_ne (by assumption); exact omQ'))), by (first | exact omQ | (clear hM; first | (have h9 := s_ne (by assumption); exact omQ')))⟩, by (first | exact omQ | (clear hM; first | (have h9 := s_ne (by assumption); exact omQ'))), iter_again hM hag4⟩
       ·rw [if_neg (ne_true h8)] at hM
        refine spQA (And.intro ha4 h8) ?_
        have nh8 := nzQ h8
        refine condC_intro (fun h10 => ?_) (fun h10 => ?_)
        ·rw [if_pos h10] at hM
         refine spQA (And.intro ha4 h10) ?_
         have nh10 := nzQ h10
         refine lp_intro (n4 - 1) _ (by omega) sbQ sbQ ⟨((-1), (p4.2 + 1)), rfl, ⟨by (first | exact omQ | (clear hM; first | (have h9 := s_ne (by assumption); exact omQ'))), by (first | exact omQ | (clear hM; first | (have h9 := s_ne (by assumption); exact omQ')))⟩, by (first | exact omQ | (clear hM; first | (have h9 := s_ne (by assumption); exact omQ'))), iter_again hM hag4⟩
        ·rw [if_neg (ne_true h10)] at hM
         refine spQA (And.intro ha4 h10) ?_
         have nh10 := nzQ h10
         refine lp_intro (n4 - 1) _ (by omega) sbQ sbQ ⟨(p4.1, (p4.2 + 1)), rfl, ⟨by (first | exact omQ | (clear hM; first | (have h9 := s_ne (by assumption); exact omQ'))), by (first | exact omQ | (clear hM; first | (have h9 := s_ne (by assumption); exact omQ')))⟩, by (first | exact omQ | (clear hM; first | (have h9 := s_ne (by assumption); exact omQ'))), iter_again hM hag4⟩
     ·rw [if_pos h6] at hM
      refine spQA (And.intro ha4 h6) ?_
      have nh6 := nzQ h6
      subst hM
      exact retC_view (lfQA (And.intro ha4 (And.intro h1 (And.intro h2 (And.intro h3 (And.intro h5 h6))))))
    ·rw [if_neg (ne_true h5)] at hM
     refine spQA (And.intro ha4 h5) ?_
     have nh5 := nzQ h5
     subst hM
     exact retC_view (lfQA (And.intro ha4 (And.intro h1 (And.intro h2 (And.intro h3 h5)))))
  ·rw [if_neg (ne_true h2)] at hM
   refine spQA h2 ?_
   have nh2 := nzQ h2
   have hM0 := hM; clear hM; obtain ⟨f11, d11, hf11, hd11, hM⟩ := iter_opn hM0; clear hM0
   refine ct_loop (fun n S => ∃ p : Int × Int, S = (⟨[(0, .str s), (4, .int .i64 p.1), (19, .int .i64 (s.length : Int)), (20, .int .i64 p.2)], [], 0⟩ : St) ∧ ((0 ≤ p.2) ∧ (p.2 ≤ (s.length : Int))) ∧ ((s.length : Int) - p.2).toNat < n ∧ iter n f11 d11 p = r) (((s.length : Int) - 0).toNat + 1) _ sbQ sbQ ⟨(0, 0), rfl, ⟨by (first | exact omQ | (clear hM; first | (have h9 := s_ne (by assumption); exact omQ'))), by (first | exact omQ | (clear hM; first | (have h9 := s_ne (by assumption); exact omQ')))⟩, (Nat.lt_succ_self _), hM⟩ ?_
   clear hM
   rintro n11 S ⟨p11, rfl, hfa11, hm11, hM⟩
   have hM0 := hM; clear hM; obtain ⟨ag11, hag11, hM⟩ := iter_step hM0 (by omega) hf11; clear hM0
   replace hfa11 := nzQ hfa11
   replace hm11 := nzQ hm11
   have ha11 : addI .i64 p11.2 1 = p11.2 + 1 := add_one (by (first | exact omQ | (clear hM; first | (have h9 := s_ne (by assumption); exact omQ')))) (by (first | exact omQ | (clear hM; first | (have h9 := s_ne (by assumption); exact omQ'))))
   refine spQA ha11 ?_
   refine condC_intro (fun h12 => ?_) (fun h12 => ?_)
   ·rw [if_pos h12] at hM
    refine spQA (And.intro ha11 h12) ?_
    have nh12 := nzQ h12
    refine bindC_intro (by (first | exact omQ | (clear hM; first | (have h9 := s_ne (by assumption); exact omQ')))) ?_
    refine spQA ha11 ?_
    refine guardC_f (fun h13 => ?_) (fun h13 => ?_)
    ·rw [if_neg (ne_true h13)] at hM
     refine spQA (And.intro ha11 h13) ?_
     have nh13 := nzQ h13
     refine bindC_intro (by (first | exact omQ | (clear hM; first | (have h9 := s_ne (by assumption); exact omQ')))) ?_
     refine spQA ha11 ?_
     refine condC_intro (fun h14 => ?_) (fun h14 => ?_)
     ·rw [if_pos h14] at hM
      refine spQA (And.intro ha11 h14) ?_
      have nh14 := nzQ h14
      subst hM
      exact retC_view (lfQA (And.intro ha11 (And.intro h1 (And.intro h2 (And.intro h12 (And.intro h13 h14))))))
     ·rw [if_neg (ne_true h14)] at hM
      refine spQA (And.intro ha11 h14) ?_
      have nh14 := nzQ h14
      refine condC_intro (fun h15 => ?_) (fun h15 => ?_)
      ·rw [if_pos h15] at hM
       refine spQA (And.intro ha11 h15) ?_
       have nh15 := nzQ h15
       refine bindC_intro (by (first | exact omQ | (clear hM; first | (have h9 := s_ne (by assumption); exact omQ')))) ?_
       refine spQA ha11 ?_
       refine condC_intro (fun h16 => ?_) (fun h16 => ?_)
       ·rw [if_pos h16] at hM
        refine spQA (And.intro ha11 h16) ?_
        have nh16 := nzQ h16
        refine lp_intro (n11 - 1) _ (by omega) sbQ sbQ ⟨((-1), (p11.2 + 1)), rfl, ⟨by (first | exact omQ | (clear hM; first | (have h9 := s_ne (by assumption); exact omQ'))), by (first | exact omQ | (clear hM; first | (have h9 := s_ne (by assumption); exact omQ')))⟩, by (first | exact omQ | (clear hM; first | (have h9 := s_ne (by assumption); exact omQ'))), iter_again hM hag11⟩
       ·rw [if_neg (ne_true h16)] at hM
        refine spQA (And.intro ha11 h16) ?_
        have nh16 := nzQ h16
        refine lp_intro (n11 - 1) _ (by omega) sbQ sbQ ⟨((addI .i64 (mulI .i64 10 p11.1) (convI .i64 (subI .u8 ((s.getD (p11.2).toNat 0).toNat : Int) 48))), (p11.2 + 1)), rfl, ⟨by (first | exact omQ | (clear hM; first | (have h9 := s_ne (by assumption); exact omQ'))), by (first | exact omQ | (clear hM; first | (have h9 := s_ne (by assumption); exact omQ')))⟩, by (first | exact omQ | (clear hM; first | (have h9 := s_ne (by assumption); exact omQ'))), iter_again hM hag11⟩
      ·rw [if_neg (ne_true h15)] at hM
       refine spQA (And.intro ha11 h15) ?_
       have nh15 := nzQ h15
       refine condC_intro (fun h17 => ?_) (fun h17 => ?_)
       ·rw [if_pos h17] at hM
        refine spQA (And.intro ha11 h17) ?_
        have nh17 := nzQ h17
        refine lp_intro (n11 - 1) _ (by omega) sbQ sbQ ⟨((-1), (p11.2 + 1)), rfl, ⟨by (first | exact omQ | (clear hM; first | (have h9 := s_ne (by assumption); exact omQ'))), by (first | exact omQ | (clear hM; first | (have h9 := s_ne (by assumption); exact omQ')))⟩, by (first | exact omQ | (clear hM; first | (have h9 := s_ne (by assumption); exact omQ'))), iter_again hM hag11⟩
       ·rw [if_neg (ne_true h17)] at hM
        refine spQA (And.intro ha11 h17) ?_
        have nh17 := nzQ h17
        refine lp_intro (n11 - 1) _ (by omega) sbQ sbQ ⟨(p11.1, (p11.2 + 1)), rfl, ⟨by (first | exact omQ | (clear hM; first | (have h9 := s_ne (by assumption); exact omQ'))), by (first | exact omQ | (clear hM; first | (have h9 := s_ne (by assumption); exact omQ')))⟩, by (first | exact omQ | (clear hM; first | (have h9 := s_ne (by assumption); exact omQ'))), iter_again hM hag11⟩
    ·rw [if_pos h13] at hM
     refine spQA (And.intro ha11 h13) ?_
     have nh13 := nzQ h13
     subst hM
     exact retC_view (lfQA (And.intro ha11 (And.intro h1 (And.intro h2 (And.intro h12 h13)))))
   ·rw [if_neg (ne_true h12)] at hM
    refine spQA (And.intro ha11 h12) ?_
    have nh12 := nzQ h12
    subst hM
    exact retC_view (lfQA (And.intro ha11 (And.intro h1 (And.intro h2 h12))))
 ·rw [if_pos h1] at hM
  refine spQA h1 ?_
  have nh1 := nzQ h1
  subst hM
  exact retC_view (lfQA h1)
set_option maxHeartbeats 2000000 in
set_option maxRecDepth 100000 in
instance denom_Parse_ok   (s : (List UInt8))  : CM En (denom_Parse s) 10 [.str s] (fun y => .tup [.sl none 2 true (y.1.map e_api_Denom), .int .i64 y.2]) (fun _ => []) := by
 refine cmQ fun r hM => ?_
 rw [denom_Parse.eq_1] at hM
 refine enterV En_ok En_mo noJ Tryd.func10 rfl Tryd.ntmps10 (by kernel_rfl) fun hw => ct_start ?_
 refine spQ ?_
 replace hw := nzQ hw
 refine condC_intro (fun h1 => ?_) (fun h1 => ?_)
 ·rw [if_pos h1] at hM
  refine spQA h1 ?_
  have nh1 := nzQ h1
  subst hM
  exact retC_view (lfQA h1)
 ·rw [if_neg (ne_true h1)] at hM
  refine spQA h1 ?_
  have nh1 := nzQ h1
  have hM0 := hM; clear hM; obtain ⟨x2, hx3, hM⟩ := letk_opn hM0; clear hM0
  have hcx2 := cmH hx3 (strings_Split_ok  s ([32]) (by (exact pfQ)) (by (exact pfQ)))
  refine callC_give hcx2 clQ clQ (fun hw4 => ?_)
  replace hw4 := nzQ hw4
  refine spQ ?_
  have hM0 := hM; clear hM; obtain ⟨f5, d5, hf5, hd5, hM⟩ := iter_opn hM0; clear hM0
  refine ct_loopW (fun n S => ∃ p : Int × List S_api_Denom, S = (⟨[(4, .own 0), (18, .sl none 1 false (x2.map V.str)), (19, .int .i64 (x2.length : Int)), (20, .int .i64 p.1)], [(0, .own 64 2 true none (p.2.map e_api_Denom))], 1⟩ : St) ∧ ((0 ≤ p.1) ∧ (p.1 ≤ (x2.length : Int)) ∧ (((p.2).length : Int) ≤ p.1)) ∧ ((x2.length : Int) - p.1).toNat < n ∧ iter n f5 d5 p = r) (((x2.length : Int) - 0).toNat + 1) _ _ (weak_nil 4 64 rfl (by decide)) sbQ sbQ ⟨(0, ([] : List S_api_Denom)), rfl, ⟨omQ, omQ, omQ⟩, (Nat.lt_succ_self _), hM⟩ ?_
  clear hM
  rintro n5 S ⟨p5, rfl, hfa5, hm5, hM⟩
  have hM0 := hM; clear hM; obtain ⟨ag5, hag5, hM⟩ := iter_step hM0 (by omega) hf5; clear hM0
  replace hfa5 := nzQ hfa5
  replace hm5 := nzQ hm5
  have ha5 : addI .i64 p5.1 1 = p5.1 + 1 := add_one omQ omQ
  refine spQA ha5 ?_
  have hF := (And.intro h1 ha5)
  exact auQ
set_option maxHeartbeats 2000000 in
set_option maxRecDepth 100000 in
theorem specieref28_decimal_ok   (n_ : Int) (hp0 : 0 ≤ n_) : CM En (specieref28_decimal n_) 33 [.int .i64 n_] (fun y => .str y) (fun _ => []) := by
 refine cmQ fun r hM => ?_
 rw [specieref28_decimal.eq_1] at hM
 refine enterV En_ok En_mo noJ Tryd.func33 rfl Tryd.ntmps33 (by kernel_rfl) fun hw => ct_start ?_
 refine spQ ?_
 replace hw := nzQ hw
 have h0_0 := log_top (n := n_) (by omega)
 have hM0 := hM; clear hM; obtain ⟨f1, d1, hf1, hd1, hM⟩ := iter_opn hM0; clear hM0
 refine ct_loop (fun n S => ∃ p : Int × List UInt8, S = (⟨[(0, .int .i64 p.1), (3, .str p.2)], [], 0⟩ : St) ∧ (((0 ≤ p.1) ∧ (p.1 ≤ n_)) ∧ ((p.1.toNat).log2 + (p.2).length ≤ 62)) ∧ p.1.toNat < n ∧ iter n f1 d1 p = r) (n_.toNat + 1) _ sbQ (by simp only [go_sem, rowV_eq, rowV_eq0, List.length_replicate, rep_len, Int.toNat_natCast, ↓reduceIte, Nat.reduceEqDiff, Nat.reduceAdd, Int.reduceAdd, Nat.reduceMul, Nat.reduceLeDiff, Nat.reduceLT, Int.reduceLE, Int.reduceLT, Int.reduceNeg, Int.reduceToNat, map_st, mtL_repE, mtL_repM, subF, subH, mtO, mtB, mt, mtL, mtL_self, mt_self, ltV, ltL, ltB, eq_self, or_true, true_or, or_self, and_self, gt_cons0, gt_conss, Int.reduceSub]) ⟨(n_, []), rfl, ⟨⟨by (first | exact omQ | (clear hM; first | (rw [LEN_eq]; (try simp only [List.length_append, List.length_cons, List.length_nil, List.length_map]); exact omQ') | (have h9 := log_step (n := n_) (by omega); exact omQ'))), by (first | exact omQ | (clear hM; first | (rw [LEN_eq]; (try simp only [List.length_append, List.length_cons, List.length_nil, List.length_map]); exact omQ') | (have h9 := log_step (n := n_) (by omega); exact omQ')))⟩, by (simp only [List.length_nil]; omega)⟩, (Nat.lt_succ_self _), hM⟩ ?_
 clear hM
 rintro n1 S ⟨p1, rfl, ⟨hfa1, hF2_0⟩, hm1, hM⟩
 have hM0 := hM; clear hM; obtain ⟨ag1, hag1, hM⟩ := iter_step hM0 (by omega) hf1; clear hM0
 replace hfa1 := nzQ hfa1
 replace hm1 := nzQ hm1
 refine spQ ?_
 refine condC_intro (fun h2 => ?_) (fun h2 => ?_)
 ·rw [if_pos h2] at hM
  refine spQA h2 ?_
  have nh2 := nzQ h2
  have ha3 : remI .i64 p1.1 10 = (p1.1 % 10) := rem_ok (by (first | exact omQ | (clear hM; first | (rw [LEN_eq]; (try simp only [List.length_append, List.length_cons, List.length_nil, List.length_map]); exact omQ') | (have h9 := log_step (n := p1.1) (by omega); exact omQ')))) (by (first | exact omQ | (clear hM; first | (rw [LEN_eq]; (try simp only [List.length_append, List.length_cons, List.length_nil, List.length_map]); exact omQ') | (have h9 := log_step (n := p1.1) (by omega); exact omQ'))))
  try simp only [ha3]
  refine bindC_intro (by (first | exact omQ | (clear hM; first | (rw [LEN_eq]; (try simp only [List.length_append, List.length_cons, List.length_nil, List.length_map]); exact omQ') | (have h9 := log_step (n := p1.1) (by omega); exact omQ')))) ?_
  refine spQA ha3 ?_
  have ha4 : addI .i64 48 (p1.1 % 10) = (48 + (p1.1 % 10)) := add_ok (by (first | exact omQ | (clear hM; first | (rw [LEN_eq]; (try simp only [List.length_append, List.length_cons, List.length_nil, List.length_map]); exact omQ') | (have h9 := log_step (n := p1.1) (by omega); exact omQ')))) (by (first | exact omQ | (clear hM; first | (rw [LEN_eq]; (try simp only [List.length_append, List.length_cons, List.length_nil, List.length_map]); exact omQ') | (have h9 := log_step (n := p1.1) (by omega); exact omQ'))))
  try simp only [ha4]
  refine bindC_intro (by (first | exact ⟨allU8_map, by (first | exact omQ | (clear hM; first | (rw [LEN_eq]; (try simp only [List.length_append, List.length_cons, List.length_nil, List.length_map]); exact omQ') | (have h9 := log_step (n := p1.1) (by omega); exact omQ')))⟩ | exact trivial | (refine ⟨?_, ?_⟩ <;> first | exact trivial | (simp only [List.length_cons, List.length_nil]; omega)))) ?_
  refine spQA (And.intro ha3 ha4) ?_
  refine bindC_intro (by (first | exact omQ | (clear hM; first | (rw [LEN_eq]; (try simp only [List.length_append, List.length_cons, List.length_nil, List.length_map]); exact omQ') | (have h9 := log_step (n := p1.1) (by omega); exact omQ')))) ?_
  refine spQA (And.intro ha3 ha4) ?_
  have ha5 : quoI .i64 p1.1 10 = (p1.1 / 10) := quo_ok (by (first | exact omQ | (clear hM; first | (rw [LEN_eq]; (try simp only [List.length_append, List.length_cons, List.length_nil, List.length_map]); exact omQ') | (have h9 := log_step (n := p1.1) (by omega); exact omQ')))) (by (first | exact omQ | (clear hM; first | (rw [LEN_eq]; (try simp only [List.length_append, List.length_cons, List.length_nil, List.length_map]); exact omQ') | (have h9 := log_step (n := p1.1) (by omega); exact omQ'))))
  try simp only [ha5]
  refine bindC_intro (by (first | exact omQ | (clear hM; first | (rw [LEN_eq]; (try simp only [List.length_append, List.length_cons, List.length_nil, List.length_map]); exact omQ') | (have h9 := log_step (n := p1.1) (by omega); exact omQ')))) ?_
  refine spQA (And.intro ha3 (And.intro ha4 ha5)) ?_
  refine lp_intro (n1 - 1) _ (by omega) sbQ sbQ ⟨((p1.1 / 10), ((([(convI .u8 (48 + (p1.1 % 10)))] : List Int).map u8N) ++ p1.2)), rfl, ⟨⟨by (first | exact omQ | (clear hM; first | (rw [LEN_eq]; (try simp only [List.length_append, List.length_cons, List.length_nil, List.length_map]); exact omQ') | (have h9 := log_step (n := (p1.1 / 10)) (by omega); exact omQ'))), by (first | exact omQ | (clear hM; first | (rw [LEN_eq]; (try simp only [List.length_append, List.length_cons, List.length_nil, List.length_map]); exact omQ') | (have h9 := log_step (n := (p1.1 / 10)) (by omega); exact omQ')))⟩, by (clear hM; have h9 := log_step (n := p1.1) (by omega); simp only [List.length_append, List.length_map, List.length_cons, List.length_nil]; omega)⟩, by (first | exact omQ | (clear hM; first | (rw [LEN_eq]; (try simp only [List.length_append, List.length_cons, List.length_nil, List.length_map]); exact omQ') | (have h9 := log_step (n := (p1.1 / 10)) (by omega); exact omQ'))), iter_again hM hag1⟩
 ·rw [if_neg (ne_true h2)] at hM
  refine spQA h2 ?_
  have nh2 := nzQ h2
  have ha6 : addI .i64 48 p1.1 = (48 + p1.1) := add_ok (by (first | exact omQ | (clear hM; first | (rw [LEN_eq]; (try simp only [List.length_append, List.length_cons, List.length_nil, List.length_map]); exact omQ') | (have h9 := log_step (n := p1.1) (by omega); exact omQ')))) (by (first | exact omQ | (clear hM; first | (rw [LEN_eq]; (try simp only [List.length_append, List.length_cons, List.length_nil, List.length_map]); exact omQ') | (have h9 := log_step (n := p1.1) (by omega); exact omQ'))))
  try simp only [ha6]
  refine bindC_intro (by (first | exact ⟨allU8_map, by (first | exact omQ | (clear hM; first | (rw [LEN_eq]; (try simp only [List.length_append, List.length_cons, List.length_nil, List.length_map]); exact omQ') | (have h9 := log_step (n := p1.1) (by omega); exact omQ')))⟩ | exact trivial | (refine ⟨?_, ?_⟩ <;> first | exact trivial | (simp only [List.length_cons, List.length_nil]; omega)))) ?_
  refine spQA ha6 ?_
  refine bindC_intro (by (first | exact omQ | (clear hM; first | (rw [LEN_eq]; (try simp only [List.length_append, List.length_cons, List.length_nil, List.length_map]); exact omQ') | (have h9 := log_step (n := p1.1) (by omega); exact omQ')))) ?_
  refine spQA ha6 ?_
  subst hM
  exact retC_view (lfQA (And.intro ha6 h2))
set_option maxHeartbeats 2000000 in
set_option maxRecDepth 100000 in
theorem specieref28_Text_ok   (l : (List S_api_Denom)) (hp0 : l.length ≤ 16) (hp1 : ∀ j : Int, 0 ≤ j → j.toNat < l.length → (0 ≤ (gt l j).Value ∧ (gt l j).Value ≤ 1099511627776) ∧ 0 ≤ (gt l j).Depth ∧ (gt l j).Depth ≤ 5) : CM En (specieref28_Text l) 11 [.sl none 2 true (l.map e_api_Denom)] (fun y => .str y) (fun _ => []) := by
 refine cmQ fun r hM => ?_
 rw [specieref28_Text.eq_1] at hM
 refine enterV En_ok En_mo [7] Tryd.func11 rfl Tryd.ntmps11 (by kernel_rfl) fun hw => ct_start ?_
 refine spQ ?_
 replace hw := nzQ hw
 have hM0 := hM; clear hM; obtain ⟨f1, d1, hf1, hd1, hM⟩ := iter_opn hM0; clear hM0
 refine ct_loop (fun n S => ∃ p : List UInt8 × Int, S = (⟨[(0, .sl none 2 true (l.map e_api_Denom)), (3, .str p.1), (4, .int .i64 p.2)], [], 0⟩ : St) ∧ ((0 ≤ p.2) ∧ (p.2 ≤ (l.length : Int)) ∧ (0 ≤ p.2) ∧ (p.2 ≤ (l.length : Int)) ∧ (((p.1).length : Int) ≤ 130 * p.2)) ∧ ((l.length : Int) - p.2).toNat < n ∧ iter n f1 d1 p = r) (((l.length : Int) - 0).toNat + 1) _ sbQ (by simp only [go_sem, rowV_eq, rowV_eq0, List.length_replicate, rep_len, Int.toNat_natCast, ↓reduceIte, Nat.reduceEqDiff, Nat.reduceAdd, Int.reduceAdd, Nat.reduceMul, Nat.reduceLeDiff, Nat.reduceLT, Int.reduceLE, Int.reduceLT, Int.reduceNeg, Int.reduceToNat, map_st, mtL_repE, mtL_repM, subF, subH, mtO, mtB, mt, mtL, mtL_self, mt_self, ltV, ltL, ltB, eq_self, or_true, true_or, or_self, and_self, gt_cons0, gt_conss, Int.reduceSub]) ⟨([], 0), rfl, ⟨by (first | exact omQ | (clear hM; first | (rw [LEN_eq]; (try simp only [List.length_append, List.length_cons, List.length_nil, List.length_map]); exact omQ'))), by (first | exact omQ | (clear hM; first | (rw [LEN_eq]; (try simp only [List.length_append, List.length_cons, List.length_nil, List.length_map]); exact omQ'))), by (first | exact omQ | (clear hM; first | (rw [LEN_eq]; (try simp only [List.length_append, List.length_cons, List.length_nil, List.length_map]); exact omQ'))), by (first | exact omQ | (clear hM; first | (rw [LEN_eq]; (try simp only [List.length_append, List.length_cons, List.length_nil, List.length_map]); exact omQ'))), by (first | exact omQ | (clear hM; first | (rw [LEN_eq]; (try simp only [List.length_append, List.length_cons, List.length_nil, List.length_map]); exact omQ')))⟩, (Nat.lt_succ_self _), hM⟩ ?_
 clear hM
 rintro n1 S ⟨p1, rfl, hfa1, hm1, hM⟩
 have hM0 := hM; clear hM; obtain ⟨ag1, hag1, hM⟩ := iter_step hM0 (by omega) hf1; clear hM0
 replace hfa1 := nzQ hfa1
 replace hm1 := nzQ hm1
 have ha1 : addI .i64 p1.2 1 = p1.2 + 1 := add_one (by (first | exact omQ | (clear hM; first | (rw [LEN_eq]; (try simp only [List.length_append, List.length_cons, List.length_nil, List.length_map]); exact omQ')))) (by (first | exact omQ | (clear hM; first | (rw [LEN_eq]; (try simp only [List.length_append, List.length_cons, List.length_nil, List.length_map]); exact omQ'))))
 refine spQA ha1 ?_
 refine condC_intro (fun h2 => ?_) (fun h2 => ?_)
 ·rw [if_pos h2] at hM
  refine spQA (And.intro ha1 h2) ?_
  have nh2 := nzQ h2
  have hM0 := hM; clear hM; obtain ⟨j3, hj3, hM⟩ := letj_opn hM0; clear hM0
  refine seqC_intro (fun S => ∃ p : List UInt8, S = (⟨[(0, .sl none 2 true (l.map e_api_Denom)), (3, .str p), (4, .int .i64 p1.2)], [], 0⟩ : St) ∧ ((((p).length : Int) ≤ ((p1.1).length : Int) + 1)) ∧ j3 p = r) ?_ (fun hcut3 => ?_)
  ·clear hM
   rintro S ⟨p3, rfl, hfa3, hM⟩
   replace hfa3 := nzQ hfa3
   have hM0 := hM; clear hM; have hM := letj_use hM0 hj3; clear hM0
   try refine spQA ha1 ?_
   refine ct_draw 32 15 [15, 16, 17, 18, 19, 20, 21, 22, 23, 24, 25, 26, 27, 28, 29] [] ([[], [], [], [1, 2], [1, 2, 3], [1, 2, 3, 4], [1, 2, 3, 4, 5], [0, 1, 2, 3, 4, 5, 6], [0, 1, 2, 3, 4, 5, 6, 7], [], [], [9, 10], [9, 10, 11], [9, 10, 11, 12], [9, 10, 11, 12, 13]] ++ [List.range 15, List.range 16]) [] (by kernel_rfl) (by exact alQ) ?_
   refine spQA ha1 ?_
   refine hbindC_intro (by (first | exact omQ | (clear hM; first | (rw [LEN_eq]; (try simp only [List.length_append, List.length_cons, List.length_nil, List.length_map]); exact omQ')))) ?_
   have he4 := fun d => elt_mp (l := l) (f := e_api_Denom) (i := p1.2) (by (first | exact omQ | (clear hM; first | (rw [LEN_eq]; (try simp only [List.length_append, List.length_cons, List.length_nil, List.length_map]); exact omQ')))) d
   refine spQA (And.intro ha1 he4) ?_
   have hM0 := hM; clear hM; obtain ⟨x5, hx6, hM⟩ := letk_opn hM0; clear hM0
   have hcx5 := cmH hx6 (specieref28_decimal_ok  ((gt l p1.2).Value) (by (have := hp1 p1.2 (by omega) (by omega); omega)))
   refine hcallC_give hcx5 (clQA (And.intro ha1 he4)) (clQA (And.intro ha1 he4)) ?_
   refine spQA (And.intro ha1 he4) ?_
   have hq7 := dec_len2 hx6 (by first | exact (hp1 p1.2 (by omega) (by omega)).1 | exact (hp1 p1.2 (by omega) (by omega)).2)
   replace hq7 := nzQ hq7
   refine hbindC_intro (by (first | exact omQ | (clear hM; first | (rw [LEN_eq]; (try simp only [List.length_append, List.length_cons, List.length_nil, List.length_map]); exact omQ')))) ?_
   refine spQA (And.intro ha1 he4) ?_
   refine hbindC_intro (by (first | exact omQ | (clear hM; first | (rw [LEN_eq]; (try simp only [List.length_append, List.length_cons, List.length_nil, List.length_map]); exact omQ')))) ?_
   refine spQA (And.intro ha1 he4) ?_
   refine hbindC_intro (by (first | exact omQ | (clear hM; first | (rw [LEN_eq]; (try simp only [List.length_append, List.length_cons, List.length_nil, List.length_map]); exact omQ')))) ?_
   refine spQA (And.intro ha1 he4) ?_
   have hM0 := hM; clear hM; obtain ⟨x8, hx9, hM⟩ := letk_opn hM0; clear hM0
   have hcx8 := cmH hx9 (specieref28_decimal_ok  ((gt l p1.2).Depth) (by (have := hp1 p1.2 (by omega) (by omega); omega)))
   refine hcallC_give hcx8 (clQA (And.intro ha1 he4)) (clQA (And.intro ha1 he4)) ?_
   refine spQA (And.intro ha1 he4) ?_
   have hq10 := dec_len2 hx9 (by first | exact (hp1 p1.2 (by omega) (by omega)).1 | exact (hp1 p1.2 (by omega) (by omega)).2)
   replace hq10 := nzQ hq10
   refine bindC_intro (by (first | exact omQ | (clear hM; first | (rw [LEN_eq]; (try simp only [List.length_append, List.length_cons, List.length_nil, List.length_map]); exact omQ')))) ?_
   refine spQA (And.intro ha1 he4) ?_
   refine lp_intro (n1 - 1) _ (by omega) sbQ sbQ ⟨((((p3 ++ x5) ++ [47]) ++ x8), (p1.2 + 1)), rfl, ⟨by (first | exact omQ | (clear hM; first | (rw [LEN_eq]; (try simp only [List.length_append, List.length_cons, List.length_nil, List.length_map]); exact omQ'))), by (first | exact omQ | (clear hM; first | (rw [LEN_eq]; (try simp only [List.length_append, List.length_cons, List.length_nil, List.length_map]); exact omQ'))), by (first | exact omQ | (clear hM; first | (rw [LEN_eq]; (try simp only [List.length_append, List.length_cons, List.length_nil, List.length_map]); exact omQ'))), by (first | exact omQ | (clear hM; first | (rw [LEN_eq]; (try simp only [List.length_append, List.length_cons, List.length_nil, List.length_map]); exact omQ'))), by (first | exact omQ | (clear hM; first | (rw [LEN_eq]; (try simp only [List.length_append, List.length_cons, List.length_nil, List.length_map]); exact omQ')))⟩, by (first | exact omQ | (clear hM; first | (rw [LEN_eq]; (try simp only [List.length_append, List.length_cons, List.length_nil, List.length_map]); exact omQ'))), iter_again hM hag1⟩
  ·refine spQA ha1 ?_
   refine condC_intro (fun h11 => ?_) (fun h11 => ?_)
   ·rw [if_pos h11] at hM
    refine spQA (And.intro ha1 h11) ?_
    have nh11 := nzQ h11
    refine bindC_intro (by (first | exact omQ | (clear hM; first | (rw [LEN_eq]; (try simp only [List.length_append, List.length_cons, List.length_nil, List.length_map]); exact omQ')))) ?_
    refine spQA ha1 ?_
    exact cut_intro _ sbQ sbQ (hcut3 _ ⟨(p1.1 ++ [32]), rfl, by (first | exact omQ | (clear hM; first | (rw [LEN_eq]; (try simp only [List.length_append, List.length_cons, List.length_nil, List.length_map]); exact omQ'))), hM⟩)
   ·rw [if_neg (ne_true h11)] at hM
    refine spQA (And.intro ha1 h11) ?_
    have nh11 := nzQ h11
    exact cut_intro _ sbQ sbQ (hcut3 _ ⟨p1.1, rfl, by (first | exact omQ | (clear hM; first | (rw [LEN_eq]; (try simp only [List.length_append, List.length_cons, List.length_nil, List.length_map]); exact omQ'))), hM⟩)
 ·rw [if_neg (ne_true h2)] at hM
  refine spQA (And.intro ha1 h2) ?_
  have nh2 := nzQ h2
  subst hM
  exact retC_view (lfQA (And.intro ha1 h2))
set_option maxHeartbeats 2000000 in
set_option maxRecDepth 100000 in
instance specieref28_number_ok   (s : (List UInt8))  : CM En (specieref28_number s) 34 [.str s] (fun y => .tup [.int .i64 y.1, .int .i64 y.2]) (fun _ => []) := by
 refine cmQ fun r hM => ?_
 rw [specieref28_number.eq_1] at hM
 refine enterV En_ok En_mo noJ Tryd.func34 rfl Tryd.ntmps34 (by kernel_rfl) fun hw => ct_start ?_
 refine spQ ?_
 replace hw := nzQ hw
 have hM0 := hM; clear hM; obtain ⟨f1, d1, hf1, hd1, hM⟩ := iter_opn hM0; clear hM0
 refine ct_loop (fun n S => ∃ p : Int × Int, S = (⟨[(0, .str s), (4, .int .i64 p.1), (5, .int .i64 p.2)], [], 0⟩ : St) ∧ ((0 ≤ p.1) ∧ (p.1 ≤ (s.length : Int))) ∧ ((s.length : Int) - p.1).toNat < n ∧ iter n f1 d1 p = r) (((s.length : Int) - 0).toNat + 1) _ sbQ sbQ ⟨(0, 0), rfl, ⟨omQ, omQ⟩, (Nat.lt_succ_self _), hM⟩ ?_
 clear hM
 rintro n1 S ⟨p1, rfl, hfa1, hm1, hM⟩
 have hM0 := hM; clear hM; obtain ⟨ag1, hag1, hM⟩ := iter_step hM0 (by omega) hf1; clear hM0
 replace hfa1 := nzQ hfa1
 replace hm1 := nzQ hm1
 refine spQ ?_
 refine guardC_t (fun h2 => ?_) (fun h2 => ?_)
 ·rw [if_pos h2] at hM
  refine spQA h2 ?_
  have nh2 := nzQ h2
  refine bindC_intro omQ ?_
  refine spQ ?_
  refine guardC_t (fun h3 => ?_) (fun h3 => ?_)
  ·rw [if_pos h3] at hM
   refine spQA h3 ?_
   have nh3 := nzQ h3
   refine bindC_intro omQ ?_
   refine spQ ?_
   refine condC_intro (fun h4 => ?_) (fun h4 => ?_)
   ·rw [if_pos h4] at hM
    refine spQA h4 ?_
    have nh4 := nzQ h4
    refine bindC_intro omQ ?_
    refine spQ ?_
    have ha5 : addI .i64 p1.1 1 = (p1.1 + 1) := add_ok omQ omQ
    try simp only [ha5]
    refine lp_intro (n1 - 1) _ (by omega) sbQ sbQ ⟨((p1.1 + 1), (minI (addI .i64 (mulI .i64 10 p1.2) (convI .i64 (subI .u8 ((s.getD (p1.1).toNat 0).toNat : Int) 48))) 1125899906842624)), rfl, ⟨omQ, omQ⟩, omQ, iter_again hM hag1⟩
   ·rw [if_neg (ne_true h4)] at hM
    refine spQA h4 ?_
    have nh4 := nzQ h4
    have hF := (And.intro h2 (And.intro h3 h4))
    exact auQ
  ·rw [if_neg (ne_true h3)] at hM
   refine spQA h3 ?_
   have nh3 := nzQ h3
   have hF := (And.intro h2 h3)
   exact auQ
 ·rw [if_neg (ne_true h2)] at hM
  refine spQA h2 ?_
  have nh2 := nzQ h2
  have hF := h2
  exact auQ
set_option maxHeartbeats 2000000 in
set_option maxRecDepth 100000 in
instance specieref28_Parse_ok   (s : (List UInt8))  : CM En (specieref28_Parse s) 13 [.str s] (fun y => .tup [.sl none 2 true (y.1.map e_api_Denom), .int .i64 y.2]) (fun _ => []) := by
 refine cmQ fun r hM => ?_
 rw [specieref28_Parse.eq_1] at hM
 refine enterV En_ok En_mo noJ Tryd.func13 rfl Tryd.ntmps13 (by kernel_rfl) fun hw => ct_start ?_
 refine spQ ?_
 replace hw := nzQ hw
 refine condC_intro (fun h1 => ?_) (fun h1 => ?_)
 ·rw [if_pos h1] at hM
  refine spQA h1 ?_
  have nh1 := nzQ h1
  subst hM
  exact retC_view (lfQA h1)
 ·rw [if_neg (ne_true h1)] at hM
  refine spQA h1 ?_
  have nh1 := nzQ h1
  have hM0 := hM; clear hM; obtain ⟨f2, d2, hf2, hd2, hM⟩ := iter_opn hM0; clear hM0
  refine ct_loopW (fun n S => ∃ p : Int × List S_api_Denom, S = (⟨[(0, .str s), (4, .own 0), (5, .int .i64 p.1)], [(0, .own 64 2 true none (p.2.map e_api_Denom))], 1⟩ : St) ∧ ((0 ≤ p.1) ∧ (p.1 ≤ (s.length : Int)) ∧ (((p.2).length : Int) ≤ p.1)) ∧ ((s.length : Int) - p.1).toNat < n ∧ iter n f2 d2 p = r) (((s.length : Int) - 0).toNat + 1) _ _ (weak_nil 4 64 rfl (by decide)) sbQ sbQ ⟨(0, ([] : List S_api_Denom)), rfl, ⟨omQ, omQ, omQ⟩, (Nat.lt_succ_self _), hM⟩ ?_
  clear hM
  rintro n2 S ⟨p2, rfl, hfa2, hm2, hM⟩
  have hM0 := hM; clear hM; obtain ⟨ag2, hag2, hM⟩ := iter_step hM0 (by omega) hf2; clear hM0
  replace hfa2 := nzQ hfa2
  replace hm2 := nzQ hm2
  refine spQ ?_
  refine bindC_intro omQ ?_
  refine spQ ?_
  have hM0 := hM; clear hM; obtain ⟨x3, hx4, hM⟩ := letk_opn hM0; clear hM0
  have hcx3 := cmU hx4
  refine callC_give hcx3 clQ clQ (fun hw5 => ?_)
  replace hw5 := nzQ hw5
  refine spQ ?_
  have hq6 := rnum_at hx4 (by omega) (by omega)
  replace hq6 := nzQ hq6
  refine guardC_f (fun h7 => ?_) (fun h7 => ?_)
  ·rw [if_neg (ne_true h7)] at hM
   refine spQA h7 ?_
   have nh7 := nzQ h7
   have ha8 : addI .i64 p2.1 x3.1 = (p2.1 + x3.1) := add_ok omQ omQ
   try simp only [ha8]
   refine guardC_f (fun h9 => ?_) (fun h9 => ?_)
   ·rw [if_neg (ne_true h9)] at hM
    refine spQA (And.intro ha8 h9) ?_
    have nh9 := nzQ h9
    refine bindC_intro omQ ?_
    refine spQA ha8 ?_
    refine condC_intro (fun h11 => ?_) (fun h11 => ?_)
    ·rw [if_pos h11] at hM
     refine spQA (And.intro ha8 h11) ?_
     have nh11 := nzQ h11
     subst hM
     exact retC_view (lfQA (And.intro ha8 (And.intro h1 (And.intro h7 (And.intro h9 h11)))))
    ·rw [if_neg (ne_true h11)] at hM
     refine spQA (And.intro ha8 h11) ?_
     have nh11 := nzQ h11
     have ha13 : addI .i64 (p2.1 + x3.1) 1 = ((p2.1 + x3.1) + 1) := add_ok omQ omQ
     try simp only [ha13]
     refine bindC_intro omQ ?_
     refine spQA (And.intro ha8 ha13) ?_
     have hM0 := hM; clear hM; obtain ⟨x14, hx15, hM⟩ := letk_opn hM0; clear hM0
     have hcx14 := cmU hx15
     refine callC_give hcx14 (clQA (And.intro ha8 ha13)) (clQA (And.intro ha8 ha13)) (fun hw16 => ?_)
     replace hw16 := nzQ hw16
     refine spQA (And.intro ha8 ha13) ?_
     have hq17 := rnum_at hx15 (by omega) (by omega)
     replace hq17 := nzQ hq17
     refine condC_intro (fun h18 => ?_) (fun h18 => ?_)
     ·rw [if_pos h18] at hM
      refine spQA (And.intro ha8 (And.intro ha13 h18)) ?_
      have nh18 := nzQ h18
      subst hM
      exact retC_view (lfQA (And.intro ha8 (And.intro ha13 (And.intro h1 (And.intro h7 (And.intro h9 (And.intro h11 h18)))))))
     ·rw [if_neg (ne_true h18)] at hM
      refine spQA (And.intro ha8 (And.intro ha13 h18)) ?_
      have nh18 := nzQ h18
      have ha19 : addI .i64 ((p2.1 + x3.1) + 1) x14.1 = (((p2.1 + x3.1) + 1) + x14.1) := add_ok omQ omQ
      try simp only [ha19]
      refine bindC_intro omQ ?_
      refine spQA (And.intro ha8 (And.intro ha13 ha19)) ?_
      refine condC_intro (fun h20 => ?_) (fun h20 => ?_)
      ·rw [if_pos h20] at hM
       refine spQA (And.intro ha8 (And.intro ha13 (And.intro ha19 h20))) ?_
       have nh20 := nzQ h20
       have hF := (And.intro h1 (And.intro h7 (And.intro ha8 (And.intro h9 (And.intro h11 (And.intro ha13 (And.intro h18 (And.intro ha19 h20))))))))
       exact auQ
      ·rw [if_neg (ne_true h20)] at hM
       refine spQA (And.intro ha8 (And.intro ha13 (And.intro ha19 h20))) ?_
       have nh20 := nzQ h20
       refine bindC_intro omQ ?_
       refine spQA (And.intro ha8 (And.intro ha13 ha19)) ?_
       refine condC_intro (fun h25 => ?_) (fun h25 => ?_)
       ·rw [if_pos h25] at hM
        refine spQA (And.intro ha8 (And.intro ha13 (And.intro ha19 h25))) ?_
        have nh25 := nzQ h25
        subst hM
        exact retC_view (lfQA (And.intro ha8 (And.intro ha13 (And.intro ha19 (And.intro h1 (And.intro h7 (And.intro h9 (And.intro h11 (And.intro h18 (And.intro h20 h25))))))))))
       ·rw [if_neg (ne_true h25)] at hM
        refine spQA (And.intro ha8 (And.intro ha13 (And.intro ha19 h25))) ?_
        have nh25 := nzQ h25
        have ha26 : addI .i64 (((p2.1 + x3.1) + 1) + x14.1) 1 = ((((p2.1 + x3.1) + 1) + x14.1) + 1) := add_ok omQ omQ
        try simp only [ha26]
        refine lp_intro (n2 - 1) _ (by omega) sbQ sbQ ⟨(((((p2.1 + x3.1) + 1) + x14.1) + 1), (p2.2 ++ ([({ Value := x3.2, Depth := x14.2 } : S_api_Denom)] : List S_api_Denom))), rfl, ⟨omQ, omQ, omQ⟩, omQ, iter_again hM hag2⟩
   ·rw [if_pos h9] at hM
    refine spQA (And.intro ha8 h9) ?_
    have nh9 := nzQ h9
    subst hM
    exact retC_view (lfQA (And.intro ha8 (And.intro h1 (And.intro h7 h9))))
  ·rw [if_pos h7] at hM
   refine spQA h7 ?_
   have nh7 := nzQ h7
   subst hM
   exact retC_view (lfQA (And.intro h1 h7))
instance (priority := 1002) : DRD 6 26 8 [17, 18, 19, 20, 21, 22, 23, 24] [] ([[], [], [0, 1], [0, 1, 2], [], [], [4, 5], [4, 5, 6]] ++ [List.range 8]) [] := ⟨trivial⟩
set_option maxHeartbeats 2000000 in
set_option maxRecDepth 100000 in
instance specieref28_Same_ok   (a_ : (List S_api_Denom)) (b : (List S_api_Denom))  : CM En (specieref28_Same a_ b) 12 [.sl none 2 true (a_.map e_api_Denom), .sl none 2 true (b.map e_api_Denom)] (fun y => .bool y) (fun _ => []) := by
 refine cmQ fun r hM => ?_
 rw [specieref28_Same.eq_1] at hM
 refine enterV En_ok En_mo noJ Tryd.func12 rfl Tryd.ntmps12 (by kernel_rfl) fun hw => ct_start ?_
 refine spQ ?_
 replace hw := nzQ hw
 refine condC_intro (fun h1 => ?_) (fun h1 => ?_)
 ·rw [if_pos h1] at hM
  refine spQA h1 ?_
  have nh1 := nzQ h1
  subst hM
  exact retC_view (lfQA h1)
 ·rw [if_neg (ne_true h1)] at hM
  refine spQA h1 ?_
  have nh1 := nzQ h1
  have hM0 := hM; clear hM; obtain ⟨f2, d2, hf2, hd2, hM⟩ := iter_opn hM0; clear hM0
  refine ct_loop (fun n S => ∃ p : Int, S = (⟨[(0, .sl none 2 true (a_.map e_api_Denom)), (1, .sl none 2 true (b.map e_api_Denom)), (5, .int .i64 p)], [], 0⟩ : St) ∧ ((0 ≤ p) ∧ (p ≤ (a_.length : Int))) ∧ ((a_.length : Int) - p).toNat < n ∧ iter n f2 d2 p = r) (((a_.length : Int) - 0).toNat + 1) _ sbQ sbQ ⟨0, rfl, ⟨omQ, omQ⟩, (Nat.lt_succ_self _), hM⟩ ?_
  clear hM
  rintro n2 S ⟨p2, rfl, hfa2, hm2, hM⟩
  have hM0 := hM; clear hM; obtain ⟨ag2, hag2, hM⟩ := iter_step hM0 (by omega) hf2; clear hM0
  replace hfa2 := nzQ hfa2
  replace hm2 := nzQ hm2
  have ha2 : addI .i64 p2 1 = p2 + 1 := add_one omQ omQ
  refine spQA ha2 ?_
  have hF := (And.intro h1 ha2)
  exact auQ
set_option maxHeartbeats 2000000 in
set_option maxRecDepth 100000 in
instance specielaw28_DenomTexts_ok   (l : (List S_api_Denom)) (s : (List UInt8))  : CM En (specielaw28_DenomTexts l s) 3 [.sl none 2 true (l.map e_api_Denom), .str s] (fun y => .bool y) (fun _ => []) := by
 refine cmQ fun r hM => ?_
 rw [specielaw28_DenomTexts.eq_1] at hM
 refine enterV En_ok En_mo [12] Tryd.func3 rfl Tryd.ntmps3 (by kernel_rfl) fun hw => ct_start ?_
 refine spQ ?_
 replace hw := nzQ hw
 have hM0 := hM; clear hM; obtain ⟨x1, hx2, hM⟩ := letk_opn hM0; clear hM0
 have hcx1 := cmU hx2
 refine callC_give hcx1 clQ clQ (fun hw3 => ?_)
 replace hw3 := nzQ hw3
 refine spQ ?_
 refine condC_intro (fun h4 => ?_) (fun h4 => ?_)
 ·rw [if_pos h4] at hM
  refine spQA h4 ?_
  have nh4 := nzQ h4
  subst hM
  exact retC_view (lfQA h4)
 ·rw [if_neg (ne_true h4)] at hM
  refine spQA h4 ?_
  have nh4 := nzQ h4
  have hM0 := hM; clear hM; obtain ⟨x5, hx6, hM⟩ := letk_opn hM0; clear hM0
  have hcx5 := cmU hx6
  refine callC_give hcx5 clQ clQ (fun hw7 => ?_)
  replace hw7 := nzQ hw7
  refine spQ ?_
  refine guardC_f (fun h8 => ?_) (fun h8 => ?_)
  ·subst h8
   rw [if_neg (by decide)] at hM
   refine spQ ?_
   refine guardC_t (fun h9 => ?_) (fun h9 => ?_)
   ·rw [if_pos h9] at hM
    refine spQA h9 ?_
    have nh9 := nzQ h9
    refine condC_intro (fun h10 => ?_) (fun h10 => ?_)
    ·rw [if_pos h10] at hM
     refine spQA h10 ?_
     have nh10 := nzQ h10
     subst hM
     exact retC_view (lfQA (And.intro h4 (And.intro h9 h10)))
    ·rw [if_neg (ne_true h10)] at hM
     refine spQA h10 ?_
     have nh10 := nzQ h10
     have hM0 := hM; clear hM; obtain ⟨x11, hx12, hM⟩ := letk_opn hM0; clear hM0
     have hcx11 := cmU hx12
     refine callC_give hcx11 clQ clQ (fun hw13 => ?_)
     replace hw13 := nzQ hw13
     refine spQ ?_
     have hM0 := hM; clear hM; obtain ⟨j14, hj14, hM⟩ := letj_opn hM0; clear hM0
     refine seqC_intro (fun S => ∃ p : Unit, S = (⟨[(1, .str s)], [], 0⟩ : St) ∧ (True) ∧ j14 p = r) ?_ (fun hcut14 => ?_)
     ·clear hM
      rintro S ⟨p14, rfl, hfa14, hM⟩
      have hM0 := hM; clear hM; have hM := letj_use hM0 hj14; clear hM0
      try refine spQ ?_
      have hF := (And.intro h4 (And.intro h9 h10))
      exact auQ
     ·refine spQ ?_
      have hM0 := hM; clear hM; obtain ⟨x31, hx32, hM⟩ := letk_opn hM0; clear hM0
      have hcx31 := cmU hx32
      refine callC_give hcx31 clQ clQ (fun hw33 => ?_)
      replace hw33 := nzQ hw33
      refine spQ ?_
      have hq34 := vR hx32
      replace hq34 := nzQ hq34
      refine condC_intro (fun h35 => ?_) (fun h35 => ?_)
      ·rw [if_pos h35] at hM
       refine spQA h35 ?_
       have nh35 := nzQ h35
       refine guardC_f (fun h36 => ?_) (fun h36 => ?_)
       ·rw [if_neg (ne_true h36)] at hM
        refine spQA h36 ?_
        have nh36 := nzQ h36
        refine condC_intro (fun h37 => ?_) (fun h37 => ?_)
        ·rw [if_pos h37] at hM
         refine spQA h37 ?_
         have nh37 := nzQ h37
         subst hM
         exact retC_view (lfQA (And.intro h4 (And.intro h9 (And.intro h10 (And.intro h35 (And.intro h36 h37))))))
        ·rw [if_neg (ne_true h37)] at hM
         refine spQA h37 ?_
         have nh37 := nzQ h37
         exact cut_intro _ sbQ sbQ (hcut14 _ ⟨(), rfl, trivial, hM⟩)
       ·rw [if_pos h36] at hM
        refine spQA h36 ?_
        have nh36 := nzQ h36
        subst hM
        exact retC_view (lfQA (And.intro h4 (And.intro h9 (And.intro h10 (And.intro h35 h36)))))
      ·rw [if_neg (ne_true h35)] at hM
       refine spQA h35 ?_
       have nh35 := nzQ h35
       have hM0 := hM; clear hM; obtain ⟨x38, hx39, hM⟩ := letk_opn hM0; clear hM0
       have hcx38 := cmU hx39
       refine callC_give hcx38 clQ clQ (fun hw40 => ?_)
       replace hw40 := nzQ hw40
       refine spQ ?_
       refine guardC_f (fun h41 => ?_) (fun h41 => ?_)
       ·rw [if_neg (ne_true h41)] at hM
        refine spQA h41 ?_
        have nh41 := nzQ h41
        have hM0 := hM; clear hM; obtain ⟨x42, hx43, hM⟩ := letk_opn hM0; clear hM0
        have hcx42 := cmH hx43 (specieref28_Text_ok  l (by (first | exact (vR hx32 nh35).1 | exact (vR hx32 nh35).2 | exact (vR hx72 nh75).1 | exact (vR hx72 nh75).2)) (by (first | exact (vR hx32 nh35).1 | exact (vR hx32 nh35).2 | exact (vR hx72 nh75).1 | exact (vR hx72 nh75).2)))
        refine callC_give hcx42 clQ clQ (fun hw44 => ?_)
        replace hw44 := nzQ hw44
        refine spQ ?_
        refine guardC_f (fun h45 => ?_) (fun h45 => ?_)
        ·rw [if_neg (ne_true h45)] at hM
         refine spQA h45 ?_
         have nh45 := nzQ h45
         refine guardC_f (fun h46 => ?_) (fun h46 => ?_)
         ·rw [if_neg (ne_true h46)] at hM
          refine spQA h46 ?_
          have nh46 := nzQ h46
          have hM0 := hM; clear hM; obtain ⟨x47, hx48, hM⟩ := letk_opn hM0; clear hM0
          have hcx47 := cmU hx48
          refine callC_give hcx47 clQ clQ (fun hw49 => ?_)
          replace hw49 := nzQ hw49
          refine spQ ?_
          refine condC_intro (fun h50 => ?_) (fun h50 => ?_)
          ·rw [if_pos h50] at hM
           refine spQA h50 ?_
           have nh50 := nzQ h50
           subst hM
           exact retC_view (lfQA (And.intro h4 (And.intro h9 (And.intro h10 (And.intro h35 (And.intro h41 (And.intro h45 (And.intro h46 h50))))))))
          ·rw [if_neg (ne_true h50)] at hM
           refine spQA h50 ?_
           have nh50 := nzQ h50
           exact cut_intro _ sbQ sbQ (hcut14 _ ⟨(), rfl, trivial, hM⟩)
         ·rw [if_pos h46] at hM
          refine spQA h46 ?_
          have nh46 := nzQ h46
          subst hM
          exact retC_view (lfQA (And.intro h4 (And.intro h9 (And.intro h10 (And.intro h35 (And.intro h41 (And.intro h45 h46)))))))
        ·rw [if_pos h45] at hM
         refine spQA h45 ?_
         have nh45 := nzQ h45
         subst hM
         exact retC_view (lfQA (And.intro h4 (And.intro h9 (And.intro h10 (And.intro h35 (And.intro h41 h45))))))
       ·rw [if_pos h41] at hM
        refine spQA h41 ?_
        have nh41 := nzQ h41
        subst hM
        exact retC_view (lfQA (And.intro h4 (And.intro h9 (And.intro h10 (And.intro h35 h41)))))
   ·rw [if_neg (ne_true h9)] at hM
    refine spQA h9 ?_
    have nh9 := nzQ h9
    have hM0 := hM; clear hM; obtain ⟨x51, hx52, hM⟩ := letk_opn hM0; clear hM0
    have hcx51 := cmU hx52
    refine callC_give hcx51 clQ clQ (fun hw53 => ?_)
    replace hw53 := nzQ hw53
    refine spQ ?_
    have hM0 := hM; clear hM; obtain ⟨j54, hj54, hM⟩ := letj_opn hM0; clear hM0
    refine seqC_intro (fun S => ∃ p : Unit, S = (⟨[(1, .str s)], [], 0⟩ : St) ∧ (True) ∧ j54 p = r) ?_ (fun hcut54 => ?_)
    ·clear hM
     rintro S ⟨p54, rfl, hfa54, hM⟩
     have hM0 := hM; clear hM; have hM := letj_use hM0 hj54; clear hM0
     try refine spQ ?_
     have hF := (And.intro h4 h9)
     exact auQ
    ·refine spQ ?_
     have hM0 := hM; clear hM; obtain ⟨x71, hx72, hM⟩ := letk_opn hM0; clear hM0
     have hcx71 := cmU hx72
     refine callC_give hcx71 clQ clQ (fun hw73 => ?_)
     replace hw73 := nzQ hw73
     refine spQ ?_
     have hq74 := vR hx72
     replace hq74 := nzQ hq74
     refine condC_intro (fun h75 => ?_) (fun h75 => ?_)
     ·rw [if_pos h75] at hM
      refine spQA h75 ?_
      have nh75 := nzQ h75
      refine guardC_f (fun h76 => ?_) (fun h76 => ?_)
      ·rw [if_neg (ne_true h76)] at hM
       refine spQA h76 ?_
       have nh76 := nzQ h76
       refine condC_intro (fun h77 => ?_) (fun h77 => ?_)
       ·rw [if_pos h77] at hM
        refine spQA h77 ?_
        have nh77 := nzQ h77
        subst hM
        exact retC_view (lfQA (And.intro h4 (And.intro h9 (And.intro h75 (And.intro h76 h77)))))
       ·rw [if_neg (ne_true h77)] at hM
        refine spQA h77 ?_
        have nh77 := nzQ h77
        exact cut_intro _ sbQ sbQ (hcut54 _ ⟨(), rfl, trivial, hM⟩)
      ·rw [if_pos h76] at hM
       refine spQA h76 ?_
       have nh76 := nzQ h76
       subst hM
       exact retC_view (lfQA (And.intro h4 (And.intro h9 (And.intro h75 h76))))
     ·rw [if_neg (ne_true h75)] at hM
      refine spQA h75 ?_
      have nh75 := nzQ h75
      have hM0 := hM; clear hM; obtain ⟨x78, hx79, hM⟩ := letk_opn hM0; clear hM0
      have hcx78 := cmU hx79
      refine callC_give hcx78 clQ clQ (fun hw80 => ?_)
      replace hw80 := nzQ hw80
      refine spQ ?_
      refine guardC_f (fun h81 => ?_) (fun h81 => ?_)
      ·rw [if_neg (ne_true h81)] at hM
       refine spQA h81 ?_
       have nh81 := nzQ h81
       have hM0 := hM; clear hM; obtain ⟨x82, hx83, hM⟩ := letk_opn hM0; clear hM0
       have hcx82 := cmH hx83 (specieref28_Text_ok  l (by (first | exact (vR hx32 nh35).1 | exact (vR hx32 nh35).2 | exact (vR hx72 nh75).1 | exact (vR hx72 nh75).2)) (by (first | exact (vR hx32 nh35).1 | exact (vR hx32 nh35).2 | exact (vR hx72 nh75).1 | exact (vR hx72 nh75).2)))
       refine callC_give hcx82 clQ clQ (fun hw84 => ?_)
       replace hw84 := nzQ hw84
       refine spQ ?_
       refine guardC_f (fun h85 => ?_) (fun h85 => ?_)
       ·rw [if_neg (ne_true h85)] at hM
        refine spQA h85 ?_
        have nh85 := nzQ h85
        refine guardC_f (fun h86 => ?_) (fun h86 => ?_)
        ·rw [if_neg (ne_true h86)] at hM
         refine spQA h86 ?_
         have nh86 := nzQ h86
         have hM0 := hM; clear hM; obtain ⟨x87, hx88, hM⟩ := letk_opn hM0; clear hM0
         have hcx87 := cmU hx88
         refine callC_give hcx87 clQ clQ (fun hw89 => ?_)
         replace hw89 := nzQ hw89
         refine spQ ?_
         refine condC_intro (fun h90 => ?_) (fun h90 => ?_)
         ·rw [if_pos h90] at hM
          refine spQA h90 ?_
          have nh90 := nzQ h90
          subst hM
          exact retC_view (lfQA (And.intro h4 (And.intro h9 (And.intro h75 (And.intro h81 (And.intro h85 (And.intro h86 h90)))))))
         ·rw [if_neg (ne_true h90)] at hM
          refine spQA h90 ?_
          have nh90 := nzQ h90
          exact cut_intro _ sbQ sbQ (hcut54 _ ⟨(), rfl, trivial, hM⟩)
        ·rw [if_pos h86] at hM
         refine spQA h86 ?_
         have nh86 := nzQ h86
         subst hM
         exact retC_view (lfQA (And.intro h4 (And.intro h9 (And.intro h75 (And.intro h81 (And.intro h85 h86))))))
       ·rw [if_pos h85] at hM
        refine spQA h85 ?_
        have nh85 := nzQ h85
        subst hM
        exact retC_view (lfQA (And.intro h4 (And.intro h9 (And.intro h75 (And.intro h81 h85)))))
      ·rw [if_pos h81] at hM
       refine spQA h81 ?_
       have nh81 := nzQ h81
       subst hM
       exact retC_view (lfQA (And.intro h4 (And.intro h9 (And.intro h75 h81))))
  ·subst h8
   rw [if_pos rfl] at hM
   refine spQ ?_
   subst hM
   exact retC_view (lfQA h4)
end Go.Proofs.YtbfeamknaiaghaaDoor
namespace Go.Proofs.YtbfeamknaiaghaaDoor
open Go.RowKit Go.Lib
theorem dig_ok {d : Nat} (h : d < 10) : (UInt8.ofNat (48 + d)).toNat = 48 + d := by
 rw [UInt8.toNat_ofNat']; omega
theorem dec_digits : ∀ (u : Nat), ∀ c ∈ decDigits u, 48 ≤ c.toNat ∧ c.toNat ≤ 57 := by
 intro u
 induction u using Nat.strongRecOn with
 | _ u ih =>
  intro c hc
  by_cases h : u < 10
  ·rw [decDigits_one h] at hc
   simp only [List.mem_cons, List.not_mem_nil, or_false] at hc
   rw [hc, dig_ok h]; omega
  ·rw [decDigits, dif_neg h] at hc
   rcases List.mem_append.1 hc with h1 | h1
   ·exact ih (u / 10) (by omega) c h1
   ·simp only [List.mem_cons, List.not_mem_nil, or_false] at h1
    rw [h1, dig_ok (by omega)]; omega
theorem dec_ne (u : Nat) : decDigits u ≠ [] := by
 intro h
 have h1 := decDigits_length u
 rw [h, List.length_nil] at h1
 by_cases hu : u < 10
 ·rw [nDigits_small hu] at h1; omega
 ·rw [nDigits_big hu] at h1; omega
def cutAll (c : UInt8) : List UInt8 → List (List UInt8)
 | [] => [[]]
 | b :: s => if b = c then [] :: cutAll c s else match cutAll c s with
  | [] => [[b]]
  | p :: ps => (b :: p) :: ps
theorem cutAll_ne (c : UInt8) : ∀ s : List UInt8, cutAll c s ≠ []
 | [] => by simp [cutAll]
 | b :: s => by
  unfold cutAll
  split
  ·simp
  ·split <;> simp
theorem join_cutAll (c : UInt8) : ∀ s : List UInt8, Lib.join (cutAll c s) [c] = s
 | [] => by simp [cutAll, join_one]
 | b :: s => by
  have ih := join_cutAll c s
  unfold cutAll
  split
  ·rename_i h
   subst h
   cases hc : cutAll b s with
   | nil => exact absurd hc (cutAll_ne b s)
   | cons p ps =>
    rw [hc] at ih
    rw [join_cons] at ih
    rw [join_cons, List.nil_append]
    simp only [joinTail, List.map_cons, List.flatten_cons, List.cons_append, List.nil_append] at ih ⊢
    rw [ih]
  ·split
   ·rename_i hc; exact absurd hc (cutAll_ne c s)
   ·rename_i p ps hc
    rw [hc, join_cons] at ih
    rw [join_cons, List.cons_append, ih]
theorem cutAll_app (c : UInt8) : ∀ (p s : List UInt8), c ∉ p → cutAll c (p ++ c :: s) = p :: cutAll c s
 | [], s, _ => by rw [List.nil_append, cutAll, if_pos rfl]
 | b :: p, s, h => by
  have hb : b ≠ c := fun e => h (by rw [e]; simp)
  rw [List.cons_append, cutAll, if_neg hb, cutAll_app c p s (fun e => h (List.mem_cons_of_mem _ e))]
theorem cutAll_one (c : UInt8) : ∀ (p : List UInt8), c ∉ p → cutAll c p = [p]
 | [], _ => rfl
 | b :: p, h => by
  have hb : b ≠ c := fun e => h (by rw [e]; simp)
  rw [cutAll, if_neg hb, cutAll_one c p (fun e => h (List.mem_cons_of_mem _ e))]
theorem cutAll_join (c : UInt8) : ∀ (p : List UInt8) (ps : List (List UInt8)), (∀ x ∈ p :: ps, c ∉ x) → cutAll c (Lib.join (p :: ps) [c]) = p :: ps
 | p, [], h => by rw [join_one, cutAll_one c p (h p (by simp))]
 | p, q :: ps, h => by
  have ih := cutAll_join c q ps (fun x hx => h x (List.mem_cons_of_mem _ hx))
  have e : Lib.join (p :: q :: ps) [c] = p ++ c :: Lib.join (q :: ps) [c] := by
   rw [join_cons, join_cons]
   simp [joinTail]
  rw [e, cutAll_app c p _ (h p (by simp)), ih]
theorem index_one (c : UInt8) : ∀ s : List UInt8, index s [c] = -1 ∧ c ∉ s ∨ ∃ p r, s = p ++ c :: r ∧ c ∉ p ∧ index s [c] = (p.length : Nat)
 | [] => .inl ⟨by simp [index], by simp⟩
 | b :: s => by
  by_cases h : b = c
  ·subst h
   exact .inr ⟨[], s, rfl, by simp, by rw [index]; simp [List.isPrefixOf]⟩
  ·have hp : ([c] : List UInt8).isPrefixOf (b :: s) = false := by simp [List.isPrefixOf, Ne.symm h]
   have hix : index (b :: s) [c] = if index s [c] == -1 then -1 else index s [c] + 1 := by rw [index, hp]; simp
   rcases index_one c s with ⟨h1, h2⟩ | ⟨p, r, h1, h2, h3⟩
   ·exact .inl ⟨by rw [hix, h1]; rfl, by simp [Ne.symm h, h2]⟩
   ·exact .inr ⟨b :: p, r, by rw [h1]; rfl, by simp [Ne.symm h, h2], by rw [hix, h3, if_neg (by simp), List.length_cons]; push_cast; rfl⟩
theorem splitK_one (c : UInt8) : ∀ (k : Nat) (s : List UInt8), s.count c ≤ k → splitK [c] 0 k s = cutAll c s
 | 0, s, h => by
  have : c ∉ s := by
   intro hm
   have := List.count_pos_iff.2 hm
   omega
  rw [cutAll_one c s this]; rfl
 | k + 1, s, h => by
  unfold splitK
  rcases index_one c s with ⟨h1, h2⟩ | ⟨p, r, h1, h2, h3⟩
  ·rw [if_pos (by rw [h1]; rfl), cutAll_one c s h2]
  ·rw [if_neg (by rw [h3]; simp), h3]
   have e1 : ((p.length : Nat) : Int).toNat = p.length := Int.toNat_natCast _
   rw [e1, h1, cutAll_app c p r h2, List.length_singleton, Nat.add_zero, List.take_left]
   have e2 : (p ++ c :: r).drop (p.length + 1) = r := by
    rw [List.drop_append]
    simp
   rw [e2, splitK_one c k r]
   rw [h1, List.count_append, List.count_cons_self] at h
   omega
theorem split_one (c : UInt8) (s : List UInt8) : strings_Split s [c] = cutAll c s := by
 unfold strings_Split
 refine splitK_one c _ s ?_
 have h := count_one c s
 have e : countB ⟨s.toArray⟩ ⟨[c].toArray⟩ = count s [c] := rfl
 rw [e, h]
 exact Nat.le_refl _
end Go.Proofs.YtbfeamknaiaghaaDoor
namespace Go.Proofs.YtbfeamknaiaghaaDoor
open Go.RowKit Go.Lib
def isD (c : UInt8) : Bool := decide (48 ≤ c.toNat) && decide (c.toNat ≤ 57)
theorem isD_iff {c : UInt8} : isD c = true ↔ 48 ≤ c.toNat ∧ c.toNat ≤ 57 := by simp [isD]
def nv (l : List UInt8) : Nat := l.foldl (fun a c => a * 10 + (c.toNat - 48)) 0
theorem nv_app (l : List UInt8) (c : UInt8) : nv (l ++ [c]) = nv l * 10 + (c.toNat - 48) := by simp [nv]
def pc (v : Nat) : Int := if v ≤ 1099511627776 then (v : Int) else -1
def rc (v : Nat) : Int := if v ≤ 1125899906842624 then (v : Int) else 1125899906842624
def gd (l : List UInt8) : Prop := l ≠ [] ∧ l.all isD = true ∧ ¬ (1 < l.length ∧ l.getD 0 0 = 48)
theorem dig_sub {c : UInt8} (h : isD c = true) : convI .i64 (subI .u8 (c.toNat : Int) 48) = ((c.toNat - 48 : Nat) : Int) := by
 rw [isD_iff] at h
 have e : subI .u8 (c.toNat : Int) 48 = ((c.toNat - 48 : Nat) : Int) := by
  unfold subI
  rw [show IntKind.wrap .u8 ((c.toNat : Int) - 48) = ((c.toNat : Int) - 48) % 256 by simp [IntKind.wrap, IntKind.bits, IntKind.signed]]
  omega
 rw [e]; exact conv_i64 (by omega) (by omega)
theorem p_step {v : Nat} {c : UInt8} (h : isD c = true) (hv : v ≤ 1099511627776) : addI .i64 (mulI .i64 10 (v : Int)) (convI .i64 (subI .u8 (c.toNat : Int) 48)) = ((v * 10 + (c.toNat - 48) : Nat) : Int) := by
 rw [dig_sub h]
 rw [isD_iff] at h
 unfold addI mulI
 rw [IntKind.wrap_i64, IntKind.wrap_i64]
 omega
theorem getD_at {s : List UInt8} {k : Nat} (h : k < s.length) : s.getD ((k : Int)).toNat 0 = s[k] := by
 rw [Int.toNat_natCast, List.getD_eq_getElem?_getD, List.getElem?_eq_getElem h]; rfl
theorem take_at {α : Type} {l : List α} {k : Nat} (h : k < l.length) : l.take (k + 1) = l.take k ++ [l[k]] := by
 rw [List.take_add_one, List.getElem?_eq_getElem h]; rfl
theorem num_loop {s : List UInt8} {F : (Int × Int → Int × Bool) → Int × Int → Int × Bool} {d : Int × Int → Int × Bool}
  (hF : ∀ ag p, F ag p = if decide (p.2 < (s.length : Int)) = true then (if decide (((s.getD (p.2).toNat 0).toNat : Int) < 48) = true then (0, false) else (if decide (((s.getD (p.2).toNat 0).toNat : Int) > 57) = true then (0, false) else (if decide (p.1 ≥ 0) = true then (if decide ((addI .i64 (mulI .i64 10 p.1) (convI .i64 (subI .u8 ((s.getD (p.2).toNat 0).toNat : Int) 48))) > 1099511627776) = true then ag ((-1), (p.2 + 1)) else ag ((addI .i64 (mulI .i64 10 p.1) (convI .i64 (subI .u8 ((s.getD (p.2).toNat 0).toNat : Int) 48))), (p.2 + 1))) else (if decide (p.1 > 1099511627776) = true then ag ((-1), (p.2 + 1)) else ag (p.1, (p.2 + 1)))))) else (p.1, true)) :
  iter (((s.length : Int) - 0).toNat + 1) F d (0, 0) = if s.all isD = true then (pc (nv s), true) else (0, false) := by
 generalize hT : (if s.all isD = true then (pc (nv s), true) else ((0 : Int), false)) = T
 refine iter_rule (P := fun p : Int × Int => ∃ k : Nat, p.2 = k ∧ k ≤ s.length ∧ (s.take k).all isD = true ∧ p.1 = pc (nv (s.take k))) (Q := fun r => r = T) (meas := fun p => ((s.length : Int) - p.2).toNat) ?_ _ _ ⟨0, rfl, Nat.zero_le _, rfl, rfl⟩ (by show ((s.length : Int) - 0).toNat < _; omega)
 rintro ag ⟨n, i⟩ ⟨k, e1, e2, e3, e4⟩ ih
 simp only at e1 e4 ih
 subst e1
 rw [hF]
 simp only
 by_cases hk : k < s.length
 ·rw [if_pos (show decide ((k : Int) < (s.length : Int)) = true by simpa using hk), getD_at hk]
  have bad : isD s[k] = false → ((0 : Int), false) = T := fun hb => by
   rw [← hT, if_neg]
   intro ha
   rw [List.all_eq_true.1 ha s[k] (List.getElem_mem hk)] at hb
   cases hb
  by_cases c1 : s[k].toNat < 48
  ·rw [if_pos (show decide ((s[k].toNat : Int) < 48) = true by simp only [decide_eq_true_eq]; omega)]
   exact bad (by unfold isD; simp; omega)
  rw [if_neg (show ¬ decide ((s[k].toNat : Int) < 48) = true by simp only [decide_eq_true_eq]; omega)]
  by_cases c2 : 57 < s[k].toNat
  ·rw [if_pos (show decide ((s[k].toNat : Int) > 57) = true by simp only [decide_eq_true_eq]; omega)]
   exact bad (by unfold isD; simp; omega)
  rw [if_neg (show ¬ decide ((s[k].toNat : Int) > 57) = true by simp only [decide_eq_true_eq]; omega)]
  have hd : isD s[k] = true := isD_iff.2 ⟨by omega, by omega⟩
  have hm : ((s.length : Int) - ((k : Int) + 1)).toNat < ((s.length : Int) - (k : Int)).toNat := by omega
  have hall : (s.take (k + 1)).all isD = true := by rw [take_at hk, List.all_append, e3]; simp [hd]
  have hnv : nv (s.take (k + 1)) = nv (s.take k) * 10 + (s[k].toNat - 48) := by rw [take_at hk, nv_app]
  by_cases hv : nv (s.take k) ≤ 1099511627776
  ·have en : n = ((nv (s.take k) : Nat) : Int) := by rw [e4]; unfold pc; rw [if_pos hv]
   rw [if_pos (show decide (n ≥ 0) = true by simp only [decide_eq_true_eq]; omega), en, p_step hd hv, ← hnv]
   by_cases c3 : nv (s.take (k + 1)) ≤ 1099511627776
   ·rw [if_neg (show ¬ decide (((nv (s.take (k + 1)) : Nat) : Int) > 1099511627776) = true by simp only [decide_eq_true_eq]; omega)]
    exact ih _ ⟨k + 1, by push_cast; rfl, by omega, hall, by unfold pc; rw [if_pos c3]⟩ hm
   ·rw [if_pos (show decide (((nv (s.take (k + 1)) : Nat) : Int) > 1099511627776) = true by simp only [decide_eq_true_eq]; omega)]
    exact ih _ ⟨k + 1, by push_cast; rfl, by omega, hall, by unfold pc; rw [if_neg c3]⟩ hm
  ·have en : n = -1 := by rw [e4]; unfold pc; rw [if_neg hv]
   rw [en, if_neg (show ¬ decide ((-1 : Int) ≥ 0) = true by decide), if_neg (show ¬ decide ((-1 : Int) > 1099511627776) = true by decide)]
   exact ih _ ⟨k + 1, by push_cast; rfl, by omega, hall, by unfold pc; rw [if_neg (by omega)]⟩ hm
 ·rw [if_neg (show ¬ decide ((k : Int) < (s.length : Int)) = true by simpa using hk)]
  have ek : k = s.length := by omega
  rw [ek, List.take_length] at e3 e4
  rw [← hT, if_pos e3, e4]
theorem head48 {s : List UInt8} : ((((s.getD 0 0).toNat : Int) == 48) = true) ↔ s.getD 0 0 = 48 := by
 rw [beq_iff_eq]
 constructor
 ·intro h
  have : (s.getD 0 0).toNat = 48 := by omega
  exact UInt8.toNat.inj (by rw [this]; rfl)
 ·intro h; rw [h]; rfl
open Classical in
theorem number_eqD (s : List UInt8) : denom_number s = if gd s then (pc (nv s), true) else (0, false) := by
 unfold denom_number
 by_cases h0 : s = []
 ·rw [if_pos (by rw [h0]; rfl), if_neg (fun h => h.1 h0)]
 rw [if_neg (show ¬ (s == []) = true by simpa using h0)]
 by_cases h1 : s.getD 0 0 = 48
 ·rw [if_pos (head48.2 h1)]
  by_cases h2 : 1 < s.length
  ·rw [if_pos (show decide ((s.length : Int) > 1) = true by simp only [decide_eq_true_eq]; omega), if_neg (fun h => h.2.2 ⟨h2, h1⟩)]
  ·rw [if_neg (show ¬ decide ((s.length : Int) > 1) = true by simp only [decide_eq_true_eq]; omega)]
   rw [num_loop (fun ag p => rfl)]
   by_cases h3 : s.all isD = true
   ·rw [if_pos h3, if_pos ⟨h0, h3, fun h => h2 h.1⟩]
   ·rw [if_neg h3, if_neg (fun h => h3 h.2.1)]
 ·rw [if_neg (fun h => h1 (head48.1 h))]
  rw [num_loop (fun ag p => rfl)]
  by_cases h3 : s.all isD = true
  ·rw [if_pos h3, if_pos ⟨h0, h3, fun h => h1 h.2⟩]
  ·rw [if_neg h3, if_neg (fun h => h3 h.2.1)]
theorem r_step {v : Nat} {c : UInt8} (h : isD c = true) : minI (addI .i64 (mulI .i64 10 (rc v)) (convI .i64 (subI .u8 (c.toNat : Int) 48))) 1125899906842624 = rc (v * 10 + (c.toNat - 48)) := by
 rw [dig_sub h]
 rw [isD_iff] at h
 unfold rc minI addI mulI
 rw [IntKind.wrap_i64, IntKind.wrap_i64]
 split <;> split <;> split <;> omega
theorem rnum_eq {a r : List UInt8} (ha : a.all isD = true) (hr : ∀ c u, r = c :: u → isD c = false) :
  specieref28_number (a ++ r) = if 1 < a.length ∧ (a ++ r).getD 0 0 = 48 then (0, 0) else ((a.length : Int), rc (nv a)) := by
 generalize hT : (if 1 < a.length ∧ (a ++ r).getD 0 0 = 48 then ((0 : Int), (0 : Int)) else ((a.length : Int), rc (nv a))) = T
 have done : ∀ n x : Int, n = (a.length : Int) → x = rc (nv a) → (if decide (n > 1) = true then (if ((((a ++ r).getD 0 0).toNat : Int) == 48) = true then ((0 : Int), (0 : Int)) else (n, x)) else (n, x)) = T := by
  intro n x hn hx
  rw [← hT, hn, hx]
  by_cases c1 : 1 < a.length
  ·rw [if_pos (show decide ((a.length : Int) > 1) = true by simp only [decide_eq_true_eq]; omega)]
   by_cases c2 : (a ++ r).getD 0 0 = 48
   ·rw [if_pos (head48.2 c2), if_pos ⟨c1, c2⟩]
   ·rw [if_neg (fun h => c2 (head48.1 h)), if_neg (fun h => c2 h.2)]
  ·rw [if_neg (show ¬ decide ((a.length : Int) > 1) = true by simp only [decide_eq_true_eq]; omega), if_neg (fun h => c1 h.1)]
 unfold specieref28_number
 refine iter_rule (P := fun p : Int × Int => ∃ k : Nat, p.1 = k ∧ k ≤ a.length ∧ p.2 = rc (nv (a.take k))) (Q := fun q => q = T) (meas := fun p => (((a ++ r).length : Int) - p.1).toNat) ?_ _ _ ⟨0, rfl, Nat.zero_le _, rfl⟩ (by show (((a ++ r).length : Int) - 0).toNat < _; omega)
 rintro ag ⟨n, x⟩ ⟨k, e1, e2, e3⟩ ih
 simp only at e1 e3 ih
 subst e1
 have hL : (a ++ r).length = a.length + r.length := List.length_append
 by_cases hk : k < (a ++ r).length
 ·rw [if_pos (show decide ((k : Int) < ((a ++ r).length : Int)) = true by simp only [decide_eq_true_eq]; omega)]
  simp only [getD_at hk]
  by_cases hka : k < a.length
  ·have hc : (a ++ r)[k] = a[k] := List.getElem_append_left hka
   have hd : isD a[k] = true := List.all_eq_true.1 ha _ (List.getElem_mem hka)
   have hd2 := isD_iff.1 hd
   rw [hc, if_pos (show decide ((a[k].toNat : Int) ≥ 48) = true by simp only [decide_eq_true_eq]; omega), if_pos (show decide ((a[k].toNat : Int) ≤ 57) = true by simp only [decide_eq_true_eq]; omega), e3, r_step hd]
   exact ih _ ⟨k + 1, by push_cast; rfl, by omega, by rw [take_at hka, nv_app]⟩ (by show (((a ++ r).length : Int) - ((k : Int) + 1)).toNat < (((a ++ r).length : Int) - (k : Int)).toNat; omega)
  ·have ek : k = a.length := by omega
   rw [ek, List.take_length] at e3
   match r, hr, hk with
   | [], _, hk => rw [List.append_nil] at hk; omega
   | c :: u, hr, hk =>
    have hc : (a ++ c :: u)[k] = c := by
     simp [ek]
    have hb := hr c u rfl
    have hb2 : ¬ (48 ≤ c.toNat ∧ c.toNat ≤ 57) := fun h => by rw [isD_iff.2 h] at hb; cases hb
    rw [hc]
    by_cases c1 : 48 ≤ c.toNat
    ·rw [if_pos (show decide ((c.toNat : Int) ≥ 48) = true by simp only [decide_eq_true_eq]; omega), if_neg (show ¬ decide ((c.toNat : Int) ≤ 57) = true by simp only [decide_eq_true_eq]; omega)]
     exact done _ _ (by rw [ek]) e3
    ·rw [if_neg (show ¬ decide ((c.toNat : Int) ≥ 48) = true by simp only [decide_eq_true_eq]; omega)]
     exact done _ _ (by rw [ek]) e3
 ·rw [if_neg (show ¬ decide ((k : Int) < ((a ++ r).length : Int)) = true by simp only [decide_eq_true_eq]; omega)]
  have ek : k = a.length := by omega
  rw [ek, List.take_length] at e3
  exact done _ _ (by rw [ek]) e3
end Go.Proofs.YtbfeamknaiaghaaDoor
namespace Go.Proofs.YtbfeamknaiaghaaDoor
open Go.RowKit Go.Lib
theorem ofNat_dig {c : UInt8} (h : isD c = true) : UInt8.ofNat (48 + (c.toNat - 48)) = c := by
 rw [isD_iff] at h
 have e : 48 + (c.toNat - 48) = c.toNat := by omega
 rw [e]
 exact UInt8.toNat.inj (by rw [UInt8.toNat_ofNat']; have := c.toNat_lt; omega)
theorem snoc_ind {α : Type} {C : List α → Prop} (h0 : C []) (h1 : ∀ l x, C l → C (l ++ [x])) (l : List α) : C l := by
 have key : ∀ n (l : List α), l.length = n → C l := by
  intro n
  induction n with
  | zero => intro l h; rw [List.length_eq_zero_iff.1 h]; exact h0
  | succ n ih =>
   intro l h
   have hl : l ≠ [] := by intro e; rw [e] at h; cases h
   rw [← List.dropLast_concat_getLast hl]
   exact h1 _ _ (ih _ (by rw [List.length_dropLast]; omega))
 exact key _ l rfl
theorem getD_app {l r : List UInt8} (h : l ≠ []) : (l ++ r).getD 0 0 = l.getD 0 0 := by
 cases l with
 | nil => exact absurd rfl h
 | cons a l => rfl
theorem nv_one {c : UInt8} : nv [c] = c.toNat - 48 := by simp [nv]
theorem dec_one {c : UInt8} (h : isD c = true) : decDigits (nv [c]) = [c] := by
 have h' := isD_iff.1 h
 rw [nv_one, decDigits_one (by omega), ofNat_dig h]
theorem dec_nv_big (a : List UInt8) : a ≠ [] → a.all isD = true → a.getD 0 0 ≠ 48 → 1 ≤ nv a ∧ decDigits (nv a) = a := by
 refine snoc_ind (C := fun a => a ≠ [] → a.all isD = true → a.getD 0 0 ≠ 48 → 1 ≤ nv a ∧ decDigits (nv a) = a) (fun h => absurd rfl h) (fun l x ih => ?_) a
 intro _ hall hh
 rw [List.all_append, Bool.and_eq_true] at hall
 have hx : isD x = true := by simpa using hall.2
 by_cases hl : l = []
 ·subst hl
  rw [List.nil_append] at hh ⊢
  refine ⟨?_, dec_one hx⟩
  rw [nv_one]
  have h' := isD_iff.1 hx
  have : x.toNat ≠ 48 := fun e => hh (UInt8.toNat.inj (by show x.toNat = _; rw [e]; rfl))
  omega
 ·rw [getD_app hl] at hh
  have ⟨h1, h2⟩ := ih hl hall.1 hh
  have h' := isD_iff.1 hx
  rw [nv_app]
  refine ⟨by omega, ?_⟩
  have e1 : (nv l * 10 + (x.toNat - 48)) / 10 = nv l := by omega
  have e2 : (nv l * 10 + (x.toNat - 48)) % 10 = x.toNat - 48 := by omega
  rw [decDigits, dif_neg (by omega), e1, e2, h2, ofNat_dig hx]
theorem dec_nv {a : List UInt8} (h : gd a) : decDigits (nv a) = a := by
 obtain ⟨h0, h1, h2⟩ := h
 match a, h0, h1, h2 with
 | [], h0, _, _ => exact absurd rfl h0
 | [c], _, h1, _ => exact dec_one (by simpa using h1)
 | c :: d :: a, h0, h1, h2 => exact (dec_nv_big _ h0 h1 (fun e => h2 ⟨by simp, e⟩)).2
theorem nv_dec : ∀ u : Nat, nv (decDigits u) = u := by
 intro u
 induction u using Nat.strongRecOn with
 | _ u ih =>
  by_cases h : u < 10
  ·rw [decDigits_one h, nv_one, dig_ok h]; omega
  ·rw [decDigits, dif_neg h, nv_app, ih (u / 10) (by omega), dig_ok (by omega)]; omega
theorem dec_head : ∀ u : Nat, 1 ≤ u → (decDigits u).getD 0 0 ≠ 48 := by
 intro u
 induction u using Nat.strongRecOn with
 | _ u ih =>
  intro h0
  by_cases h : u < 10
  ·rw [decDigits_one h]
   intro e
   have e' : (UInt8.ofNat (48 + u)).toNat = 48 := by
    have : UInt8.ofNat (48 + u) = 48 := e
    rw [this]; rfl
   rw [dig_ok h] at e'; omega
  ·rw [decDigits, dif_neg h, getD_app (dec_ne _)]
   exact ih (u / 10) (by omega) (by omega)
theorem gd_dec (u : Nat) : gd (decDigits u) := by
 refine ⟨dec_ne u, List.all_eq_true.2 fun c hc => isD_iff.2 (dec_digits u c hc), fun h => ?_⟩
 by_cases hu : u < 10
 ·rw [decDigits_one hu] at h
  have := h.1
  simp at this
 ·exact dec_head u (by omega) h.2
theorem itoa_dec {n : Int} (h0 : 0 ≤ n) : strconv_Itoa n = decDigits n.toNat := by
 obtain ⟨u, rfl⟩ := Int.eq_ofNat_of_zero_le h0
 unfold strconv_Itoa
 rw [itoa_nonneg, Int.toNat_natCast]
theorem decimal_dec {n : Int} (h0 : 0 ≤ n) : specieref28_decimal n = decDigits n.toNat := by
 unfold specieref28_decimal
 refine iter_rule (P := fun p : Int × List UInt8 => 0 ≤ p.1 ∧ decDigits p.1.toNat ++ p.2 = decDigits n.toNat) (Q := fun r : List UInt8 => r = decDigits n.toNat) (meas := fun p => p.1.toNat) ?_ _ _ ⟨h0, List.append_nil _⟩ (by show n.toNat < n.toNat + 1; omega)
 rintro ag ⟨m, x⟩ ⟨hm, hx⟩ ih
 simp only at hm hx ih ⊢
 have one : ∀ k : Int, 0 ≤ k → k < 10 → ([convI .u8 (48 + k)] : List Int).map u8N = [UInt8.ofNat (48 + k.toNat)] := by
  intro k g0 g1
  have e : convI .u8 (48 + k) = 48 + k := by
   unfold convI
   rw [show IntKind.wrap .u8 (48 + k) = (48 + k) % 256 by simp [IntKind.wrap, IntKind.bits, IntKind.signed]]
   omega
  rw [e]
  show [u8N (48 + k)] = _
  unfold u8N
  congr 2
  omega
 by_cases h : m ≥ 10
 ·rw [if_pos (by simpa using h)]
  refine ih _ ⟨by show 0 ≤ m / 10; omega, ?_⟩ (by show (m / 10).toNat < m.toNat; omega)
  show decDigits (m / 10).toNat ++ (_ ++ x) = _
  rw [one _ (by omega) (by omega), ← hx, ← List.append_assoc]
  congr 1
  rw [decDigits.eq_1 m.toNat, dif_neg (by omega)]
  have e1 : (m / 10).toNat = m.toNat / 10 := by omega
  have e2 : (m % 10).toNat = m.toNat % 10 := by omega
  rw [e1, e2]
 ·rw [if_neg (by simpa using h), one _ hm (by omega), ← hx, decDigits_one (by omega)]
end Go.Proofs.YtbfeamknaiaghaaDoor
namespace Go.Proofs.YtbfeamknaiaghaaDoor
open Go.RowKit Go.Lib
theorem letk_go {α β : Type} {a : α} {f : α → β} {r : β} (h : ∀ x, x = a → f x = r) : letk a f = r := h a rfl
theorem awake_true : specielaw28_awake = true := by kernel_rfl
open Classical in
noncomputable def sp (w : List UInt8) : Option (List UInt8 × List UInt8) :=
 if (strings_Cut w [47]).2.2 = true then (if gd (strings_Cut w [47]).1 then (if gd (strings_Cut w [47]).2.1 then some ((strings_Cut w [47]).1, (strings_Cut w [47]).2.1) else none) else none) else none
noncomputable def spAll : List (List UInt8) → Option (List (List UInt8 × List UInt8))
 | [] => some []
 | w :: ws => match sp w with
  | none => none
  | some p => match spAll ws with
   | none => none
   | some ps => some (p :: ps)
theorem isD47 : isD 47 = false := by decide
theorem isD32 : isD 32 = false := by decide
theorem gd_no {a : List UInt8} (h : gd a) {c : UInt8} (hc : isD c = false) : c ∉ a := by
 intro hm
 have := List.all_eq_true.1 h.2.1 c hm
 rw [hc] at this; cases this
theorem cut_at {a b : List UInt8} (h : (47 : UInt8) ∉ a) : strings_Cut (a ++ 47 :: b) [47] = (a, b, true) := by
 unfold strings_Cut Lib.cut
 rcases index_one 47 (a ++ 47 :: b) with ⟨_, h2⟩ | ⟨p, r, h1, h2, h3⟩
 ·exact absurd (by simp) h2
 ·have e : a = p ∧ b = r := by
   have h4 : cutAll 47 (a ++ 47 :: b) = a :: cutAll 47 b := cutAll_app 47 a b h
   have h5 : cutAll 47 (a ++ 47 :: b) = p :: cutAll 47 r := by rw [h1, cutAll_app 47 p r h2]
   have h6 : a = p := (List.cons.inj (h4.symm.trans h5)).1
   subst h6
   exact ⟨rfl, (List.cons.inj (List.append_cancel_left h1)).2⟩
  obtain ⟨rfl, rfl⟩ := e
  rw [if_pos (by rw [h3]; omega), h3, Int.toNat_natCast, List.take_left, List.length_singleton, List.drop_append]
  simp
theorem cut_found {w : List UInt8} (h : (strings_Cut w [47]).2.2 = true) : w = (strings_Cut w [47]).1 ++ 47 :: (strings_Cut w [47]).2.1 := by
 rcases index_one 47 w with ⟨h1, h2⟩ | ⟨p, r, h1, h2, h3⟩
 ·unfold strings_Cut Lib.cut at h
  rw [if_neg (by rw [h1]; decide)] at h
  cases h
 ·rw [h1, cut_at h2]
theorem sp_iff {w a b : List UInt8} : sp w = some (a, b) ↔ w = a ++ 47 :: b ∧ gd a ∧ gd b := by
 constructor
 ·intro h
  unfold sp at h
  split at h
  ·rename_i h1
   split at h
   ·rename_i h2
    split at h
    ·rename_i h3
     have e := Prod.mk.inj (Option.some.inj h)
     have := cut_found h1
     rw [e.1, e.2] at this
     rw [e.1] at h2
     rw [e.2] at h3
     exact ⟨this, h2, h3⟩
    ·cases h
   ·cases h
  ·cases h
 ·rintro ⟨rfl, h1, h2⟩
  unfold sp
  rw [cut_at (gd_no h1 isD47)]
  rw [if_pos rfl, if_pos h1, if_pos h2]
def pcd (p : List UInt8 × List UInt8) : S_api_Denom := { Value := pc (nv p.1), Depth := pc (nv p.2) }
def rcd (p : List UInt8 × List UInt8) : S_api_Denom := { Value := rc (nv p.1), Depth := rc (nv p.2) }
def finP (L : List S_api_Denom) : List S_api_Denom × Int := if denom_Valid L = true then (L, 0) else ([], 1)
noncomputable def outP (f : List UInt8 × List UInt8 → S_api_Denom) (acc : List S_api_Denom) (ws : List (List UInt8)) : List S_api_Denom × Int :=
 match spAll ws with
 | none => ([], 3)
 | some ps => finP (acc ++ ps.map f)
theorem outP_nil {f : List UInt8 × List UInt8 → S_api_Denom} {acc : List S_api_Denom} : outP f acc [] = finP acc := by
 simp [outP, spAll]
theorem outP_bad {f : List UInt8 × List UInt8 → S_api_Denom} {acc : List S_api_Denom} {w : List UInt8} {ws : List (List UInt8)} (h : sp w = none) : outP f acc (w :: ws) = ([], 3) := by
 simp [outP, spAll, h]
theorem outP_cons {f : List UInt8 × List UInt8 → S_api_Denom} {acc : List S_api_Denom} {w : List UInt8} {ws : List (List UInt8)} {p : List UInt8 × List UInt8} (h : sp w = some p) : outP f acc (w :: ws) = outP f (acc ++ [f p]) ws := by
 unfold outP
 simp only [spAll, h]
 cases spAll ws with
 | none => rfl
 | some ps => simp
theorem drop_gt {α : Type} [Inhabited α] {l : List α} {k : Nat} (h : k < l.length) : l.drop k = gt l (k : Int) :: l.drop (k + 1) := by
 rw [List.drop_eq_getElem_cons h, gt_nat, List.getD_eq_getElem?_getD, List.getElem?_eq_getElem h]; rfl
open Classical in
theorem parse_eq {s : List UInt8} (hs : s.length ≤ 16384) : denom_Parse s = outP pcd [] (cutAll 32 s) := by
 unfold denom_Parse
 rw [if_neg (show ¬ decide ((s.length : Int) > 16384) = true by simp only [decide_eq_true_eq]; omega)]
 refine letk_go fun x2 h2 => ?_
 rw [split_one] at h2
 rw [← h2]
 generalize hT : outP pcd [] x2 = T
 refine iter_rule (P := fun p : Int × List S_api_Denom => ∃ k : Nat, p.1 = k ∧ k ≤ x2.length ∧ outP pcd p.2 (x2.drop k) = T) (Q := fun r => r = T) (meas := fun p => ((x2.length : Int) - p.1).toNat) ?_ _ _ ⟨0, rfl, Nat.zero_le _, hT⟩ (by show ((x2.length : Int) - 0).toNat < _; omega)
 rintro ag ⟨i, acc⟩ ⟨k, e1, e2, e3⟩ ih
 simp only at e1 e3 ih
 subst e1
 by_cases hi : (k : Int) < (x2.length : Int)
 ·rw [if_pos (by simpa using hi)]
  have hk : k < x2.length := by omega
  rw [drop_gt hk] at e3
  refine letk_go fun x8 h8 => letk_go fun x11 h11 => letk_go fun x14 h14 => ?_
  simp only at h8 h11 h14
  rw [number_eqD] at h11 h14
  generalize gt x2 (k : Int) = w at h8 e3
  subst h8
  by_cases c1 : (strings_Cut w [47]).2.2 = true
  ·rw [if_neg (by rw [c1]; decide)]
   by_cases c2 : gd (strings_Cut w [47]).1
   ·rw [if_pos c2] at h11
    rw [if_neg (by rw [h11]; exact Bool.false_ne_true)]
    by_cases c3 : gd (strings_Cut w [47]).2.1
    ·rw [if_pos c3] at h14
     rw [if_neg (by rw [h14]; exact Bool.false_ne_true)]
     have hsp : sp w = some ((strings_Cut w [47]).1, (strings_Cut w [47]).2.1) := by
      unfold sp
      rw [if_pos c1, if_pos c2, if_pos c3]
     rw [outP_cons hsp] at e3
     refine ih _ ⟨k + 1, by push_cast; rfl, hk, ?_⟩ (by show ((x2.length : Int) - ((k : Int) + 1)).toNat < ((x2.length : Int) - (k : Int)).toNat; omega)
     rw [h11, h14]
     exact e3
    ·rw [if_neg c3] at h14
     rw [if_pos (by rw [h14]; rfl)]
     rw [outP_bad (by unfold sp; rw [if_pos c1, if_pos c2, if_neg c3])] at e3
     exact e3
   ·rw [if_neg c2] at h11
    rw [if_pos (by rw [h11]; rfl)]
    rw [outP_bad (by unfold sp; rw [if_pos c1, if_neg c2])] at e3
    exact e3
  ·rw [if_pos (by rw [Bool.not_eq_true] at c1; rw [c1]; rfl)]
   rw [outP_bad (by unfold sp; rw [if_neg c1])] at e3
   exact e3
 ·rw [if_neg (by simpa using hi)]
  refine letk_go fun x20 h20 => ?_
  have ek : k = x2.length := by omega
  rw [ek, List.drop_length, outP_nil] at e3
  rw [← e3, h20]
  unfold finP
  simp only
  by_cases hv : denom_Valid acc = true
  ·rw [if_neg (by rw [hv]; decide), if_pos hv]
  ·rw [if_pos (by rw [Bool.not_eq_true] at hv; rw [hv]; rfl), if_neg hv]
end Go.Proofs.YtbfeamknaiaghaaDoor
namespace Go.Proofs.YtbfeamknaiaghaaDoor
open Go.RowKit Go.Lib
theorem spn : ∀ t : List UInt8, ∃ a r, t = a ++ r ∧ a.all isD = true ∧ ∀ c u, r = c :: u → isD c = false
 | [] => ⟨[], [], rfl, rfl, fun c u h => by cases h⟩
 | b :: t => by
  by_cases hb : isD b = true
  ·obtain ⟨a, r, h1, h2, h3⟩ := spn t
   exact ⟨b :: a, r, by rw [h1]; rfl, by simp [hb, h2], h3⟩
  ·exact ⟨[], b :: t, rfl, rfl, fun c u h => by rw [← (List.cons.inj h).1]; simpa using hb⟩
theorem spl_uniq : ∀ (a a' r r' : List UInt8), a ++ r = a' ++ r' → a.all isD = true → a'.all isD = true → (∀ c u, r = c :: u → isD c = false) → (∀ c u, r' = c :: u → isD c = false) → a = a' ∧ r = r'
 | [], [], r, r', h, _, _, _, _ => ⟨rfl, h⟩
 | [], b :: a', r, r', h, _, h2, h3, _ => by
  have := h3 b (a' ++ r') h
  simp [this] at h2
 | b :: a, [], r, r', h, h1, _, _, h4 => by
  have := h4 b (a ++ r) h.symm
  simp [this] at h1
 | b :: a, b' :: a', r, r', h, h1, h2, h3, h4 => by
  have e := List.cons.inj h
  have ih := spl_uniq a a' r r' e.2 (by simp at h1; simpa using h1.2) (by simp at h2; simpa using h2.2) h3 h4
  exact ⟨by rw [e.1, ih.1], ih.2⟩
theorem first_piece (c : UInt8) : ∀ t : List UInt8, ∃ w ws, cutAll c t = w :: ws ∧ ((t = w ∧ ws = []) ∨ ∃ u, t = w ++ c :: u ∧ ws = cutAll c u)
 | [] => ⟨[], [], rfl, .inl ⟨rfl, rfl⟩⟩
 | b :: t => by
  by_cases hb : b = c
  ·subst hb
   exact ⟨[], cutAll b t, by rw [cutAll, if_pos rfl], .inr ⟨t, rfl, rfl⟩⟩
  ·obtain ⟨w, ws, h1, h2⟩ := first_piece c t
   refine ⟨b :: w, ws, by rw [cutAll, if_neg hb, h1], ?_⟩
   rcases h2 with ⟨h2, h3⟩ | ⟨u, h2, h3⟩
   ·exact .inl ⟨by rw [h2], h3⟩
   ·exact .inr ⟨u, by rw [h2]; rfl, h3⟩
theorem no32 {a b : List UInt8} (h1 : gd a) (h2 : gd b) : (32 : UInt8) ∉ a ++ 47 :: b := by
 intro h
 rcases List.mem_append.1 h with h | h
 ·exact gd_no h1 isD32 h
 ·rcases List.mem_cons.1 h with h | h
  ·exact absurd h (by decide)
  ·exact gd_no h2 isD32 h
theorem out_bad {f : List UInt8 × List UInt8 → S_api_Denom} {acc : List S_api_Denom} {t : List UInt8} (h : ∀ a b r, t = a ++ 47 :: (b ++ r) → gd a → gd b → (r = [] ∨ ∃ u, r = 32 :: u) → False) : outP f acc (cutAll 32 t) = ([], 3) := by
 obtain ⟨w, ws, h1, h2⟩ := first_piece 32 t
 rw [h1]
 refine outP_bad ?_
 cases hw : sp w with
 | none => rfl
 | some p =>
  obtain ⟨a, b⟩ := p
  obtain ⟨e, ga, gb⟩ := sp_iff.1 hw
  rcases h2 with ⟨h2, _⟩ | ⟨u, h2, _⟩
  ·exact (h a b [] (by rw [h2, e, List.append_nil]) ga gb (.inl rfl)).elim
  ·exact (h a b (32 :: u) (by rw [h2, e]; simp) ga gb (.inr ⟨u, rfl⟩)).elim
theorem out_end {f : List UInt8 × List UInt8 → S_api_Denom} {acc : List S_api_Denom} {a b : List UInt8} (h1 : gd a) (h2 : gd b) : outP f acc (cutAll 32 (a ++ 47 :: b)) = finP (acc ++ [f (a, b)]) := by
 rw [cutAll_one 32 _ (no32 h1 h2), outP_cons (sp_iff.2 ⟨rfl, h1, h2⟩), outP_nil]
theorem out_next {f : List UInt8 × List UInt8 → S_api_Denom} {acc : List S_api_Denom} {a b u : List UInt8} (h1 : gd a) (h2 : gd b) : outP f acc (cutAll 32 (a ++ 47 :: (b ++ 32 :: u))) = outP f (acc ++ [f (a, b)]) (cutAll 32 u) := by
 have e : a ++ 47 :: (b ++ 32 :: u) = (a ++ 47 :: b) ++ 32 :: u := by simp
 rw [e, cutAll_app 32 _ u (no32 h1 h2), outP_cons (sp_iff.2 ⟨rfl, h1, h2⟩)]
theorem rnum_gd {a r : List UInt8} (ha : a.all isD = true) (hr : ∀ c u, r = c :: u → isD c = false) :
  (gd a ∧ specieref28_number (a ++ r) = ((a.length : Int), rc (nv a)) ∧ 0 < a.length) ∨ (¬ gd a ∧ (specieref28_number (a ++ r)).1 = 0) := by
 rw [rnum_eq ha hr]
 by_cases h0 : a = []
 ·subst h0
  refine .inr ⟨fun h => h.1 rfl, ?_⟩
  rw [if_neg (by rintro ⟨h, _⟩; simp at h)]; rfl
 ·rw [getD_app h0]
  by_cases h1 : 1 < a.length ∧ a.getD 0 0 = 48
  ·exact .inr ⟨fun h => h.2.2 h1, by rw [if_pos h1]⟩
  ·exact .inl ⟨⟨h0, ha, h1⟩, by rw [if_neg h1], List.length_pos_iff.2 h0⟩
theorem arg_drop {s : List UInt8} {k : Int} : (s.drop k.toNat).take ((s.length : Int).toNat - k.toNat) = s.drop k.toNat :=
 List.take_of_length_le (by rw [List.length_drop]; omega)
theorem byte_ne {c : UInt8} {n : Nat} (hn : n < 256) : (((c.toNat : Int) != (n : Int)) = true) ↔ c ≠ UInt8.ofNat n := by
 rw [bne_iff_ne]
 constructor
 ·intro h e; apply h; rw [e, UInt8.toNat_ofNat']; omega
 ·intro h e
  exact h (UInt8.toNat.inj (by rw [UInt8.toNat_ofNat']; omega))
theorem getD_drop {s : List UInt8} {k j : Nat} {c : UInt8} {a u : List UInt8} (h : s.drop k = a ++ c :: u) (hj : j = k + a.length) : s.getD j 0 = c := by
 subst hj
 have : (s.drop k).getD a.length 0 = c := by rw [h]; simp [List.getD_eq_getElem?_getD]
 rw [← this]
 simp [List.getD_eq_getElem?_getD, List.getElem?_drop]
theorem drop_drop2 {s : List UInt8} {k j : Nat} {a u : List UInt8} (h : s.drop k = a ++ u) (hj : j = k + a.length) : s.drop j = u := by
 subst hj
 rw [← List.drop_drop, h, List.drop_left]
theorem len_drop {s : List UInt8} {k : Nat} {t : List UInt8} (h : s.drop k = t) (hk : k ≤ s.length) : s.length = k + t.length := by
 rw [← h, List.length_drop]; omega
theorem rparse_eq {s : List UInt8} (hs : s.length ≤ 16384) : specieref28_Parse s = outP rcd [] (cutAll 32 s) := by
 unfold specieref28_Parse
 rw [if_neg (show ¬ decide ((s.length : Int) > 16384) = true by simp only [decide_eq_true_eq]; omega)]
 generalize hT : outP rcd [] (cutAll 32 s) = T
 refine iter_rule (P := fun p : Int × List S_api_Denom => ∃ k : Nat, p.1 = k ∧ k ≤ s.length ∧ outP rcd p.2 (cutAll 32 (s.drop k)) = T) (Q := fun r => r = T) (meas := fun p => ((s.length : Int) - p.1).toNat) ?_ _ _ ⟨0, rfl, Nat.zero_le _, hT⟩ (by show ((s.length : Int) - 0).toNat < _; omega)
 rintro ag ⟨i, acc⟩ ⟨k, e1, e2, e3⟩ ih
 simp only at e1 e3 ih
 subst e1
 refine letk_go fun x3 h3 => ?_
 simp only at h3 ⊢
 rw [arg_drop, Int.toNat_natCast] at h3
 obtain ⟨a, r, ht, ha, hr⟩ := spn (s.drop k)
 have bad : (∀ b r2, gd a → r = 47 :: (b ++ r2) → gd b → (r2 = [] ∨ ∃ u, r2 = 32 :: u) → False) → (([] : List S_api_Denom), (3 : Int)) = T := by
  intro hb
  rw [← e3]
  refine (out_bad fun a' b' r2 h ga gb h2 => ?_).symm
  rw [ht] at h
  have e := spl_uniq a a' r (47 :: (b' ++ r2)) h ha ga.2.1 hr (fun c u hc => by rw [← (List.cons.inj hc).1]; exact isD47)
  exact hb b' r2 (e.1 ▸ ga) e.2 gb h2
 rw [ht] at h3
 have hl := len_drop ht e2
 rw [List.length_append] at hl
 rcases rnum_gd ha hr with ⟨ga, hn, hp⟩ | ⟨ga, hn⟩
 ·rw [hn] at h3
  subst h3
  rw [if_neg (show ¬ (((a.length : Int), rc (nv a)).1 == 0) = true by show ¬ ((a.length : Int) == 0) = true; rw [beq_iff_eq]; omega)]
  simp only
  match r, hr, ht, hl, bad with
  | [], _, _, hl, bad =>
   rw [if_pos (show decide ((k : Int) + (a.length : Int) ≥ (s.length : Int)) = true by simp only [decide_eq_true_eq]; simp at hl; omega)]
   exact bad (fun b r2 _ h => by cases h)
  | c :: r, hr, ht, hl, bad =>
   rw [List.length_cons] at hl
   rw [if_neg (show ¬ decide ((k : Int) + (a.length : Int) ≥ (s.length : Int)) = true by simp only [decide_eq_true_eq]; omega)]
   have t1 : ((k : Int) + (a.length : Int)).toNat = k + a.length := by omega
   rw [t1, getD_drop ht rfl]
   by_cases hc : c = 47
   ·subst hc
    rw [if_neg (show ¬ (((((47 : UInt8).toNat : Nat) : Int) != 47) = true) by decide)]
    refine letk_go fun x14 h14 => ?_
    rw [arg_drop] at h14
    have t2 : ((k : Int) + (a.length : Int) + 1).toNat = k + (a ++ [47]).length := by rw [List.length_append, List.length_singleton]; omega
    have ht' : s.drop k = (a ++ [47]) ++ r := by rw [ht]; simp
    rw [t2, drop_drop2 ht' rfl] at h14
    obtain ⟨b, q, hr2, hb, hq⟩ := spn r
    subst hr2
    have bad2 : (gd b → (q = [] ∨ ∃ u, q = 32 :: u) → False) → (([] : List S_api_Denom), (3 : Int)) = T := by
     intro hx
     refine bad fun b' r2 _ h gb h2 => ?_
     have e := spl_uniq b b' q r2 (List.cons.inj h).2 hb gb.2.1 hq (fun c u hc => by
      rcases h2 with h2 | ⟨u', h2⟩
      ·rw [h2] at hc; cases hc
      ·rw [h2] at hc; rw [← (List.cons.inj hc).1]; exact isD32)
     exact hx (e.1 ▸ gb) (e.2 ▸ h2)
    rw [List.length_append] at hl
    rcases rnum_gd hb hq with ⟨gb, hn2, hp2⟩ | ⟨gb, hn2⟩
    ·rw [hn2] at h14
     subst h14
     rw [if_neg (show ¬ (((b.length : Int), rc (nv b)).1 == 0) = true by show ¬ ((b.length : Int) == 0) = true; rw [beq_iff_eq]; omega)]
     simp only
     match q, hq, ht, ht', hl, bad2 with
     | [], _, ht, _, hl, _ =>
      rw [if_pos (show ((k : Int) + (a.length : Int) + 1 + (b.length : Int) == (s.length : Int)) = true by rw [beq_iff_eq]; simp at hl; omega)]
      rw [ht, List.append_nil, out_end ga gb] at e3
      refine letk_go fun x21 h21 => ?_
      rw [← e3, h21, ← Valid_eq]
      unfold finP rcd
      by_cases hv : denom_Valid (acc ++ [{ Value := rc (nv a), Depth := rc (nv b) }]) = true
      ·rw [if_neg (by rw [hv]; decide), if_pos hv]
      ·rw [if_pos (by rw [Bool.not_eq_true] at hv; rw [hv]; rfl), if_neg hv]
     | d :: q, hq, ht, ht', hl, bad2 =>
      rw [List.length_cons] at hl
      rw [if_neg (show ¬ ((k : Int) + (a.length : Int) + 1 + (b.length : Int) == (s.length : Int)) = true by rw [beq_iff_eq]; omega)]
      have t3 : ((k : Int) + (a.length : Int) + 1 + (b.length : Int)).toNat = k + (a ++ 47 :: b).length := by rw [List.length_append, List.length_cons]; omega
      have ht2 : s.drop k = (a ++ 47 :: b) ++ d :: q := by rw [ht]; simp
      rw [t3, getD_drop ht2 rfl]
      by_cases hd : d = 32
      ·subst hd
       rw [if_neg (show ¬ (((((32 : UInt8).toNat : Nat) : Int) != 32) = true) by decide)]
       rw [ht, out_next ga gb] at e3
       have ht3 : s.drop k = ((a ++ 47 :: b) ++ [32]) ++ q := by rw [ht]; simp
       have hL : (a ++ 47 :: b ++ [32]).length = a.length + b.length + 2 := by simp; omega
       refine ih _ ⟨k + ((a ++ 47 :: b) ++ [32]).length, ?_, ?_, ?_⟩ ?_
       ·show (k : Int) + (a.length : Int) + 1 + (b.length : Int) + 1 = _
        rw [hL]; push_cast; omega
       ·rw [hL]; omega
       ·rw [drop_drop2 ht3 rfl]
        exact e3
       ·show ((s.length : Int) - ((k : Int) + (a.length : Int) + 1 + (b.length : Int) + 1)).toNat < ((s.length : Int) - (k : Int)).toNat
        omega
      ·rw [if_pos (show ((d.toNat : Int) != 32) = true from (byte_ne (n := 32) (by decide)).2 hd)]
       exact bad2 fun _ h => by
        rcases h with h | ⟨u, h⟩
        ·cases h
        ·exact hd (List.cons.inj h).1
    ·rw [← h14] at hn2
     rw [if_pos (by rw [hn2]; rfl)]
     exact bad2 fun g _ => gb g
   ·rw [if_pos (show ((c.toNat : Int) != 47) = true from (byte_ne (n := 47) (by decide)).2 hc)]
    exact bad fun b r2 _ h => absurd (List.cons.inj h).1 hc
 ·rw [← h3] at hn
  rw [if_pos (by rw [hn]; rfl)]
  exact bad fun b r2 g => absurd g ga
end Go.Proofs.YtbfeamknaiaghaaDoor
namespace Go.Proofs.YtbfeamknaiaghaaDoor
open Go.RowKit Go.Lib
theorem Valid_mem {l : List S_api_Denom} (h : denom_Valid l = true) : ∀ d ∈ l, 0 ≤ d.Value ∧ d.Value ≤ 1099511627776 ∧ 0 ≤ d.Depth ∧ d.Depth ≤ 5 := by
 intro d hd
 obtain ⟨i, hi, rfl⟩ := List.mem_iff_getElem.1 hd
 have h1 := (Valid_iff.1 h).2.2 (i : Int) (by omega) (by omega)
 simp only [Bool.and_eq_true] at h1
 have h2 := single_spec h1.1
 have e : gt l (i : Int) = l[i] := by
  rw [gt_nat, List.getD_eq_getElem?_getD, List.getElem?_eq_getElem hi]; rfl
 rw [e] at h2
 exact h2
theorem pc_nn {v : Nat} (h : 0 ≤ pc v) : pc v = rc v ∧ pc v = (v : Int) := by
 unfold pc rc at *
 split at h
 ·rename_i h1
  rw [if_pos h1, if_pos (by omega)]; exact ⟨rfl, rfl⟩
 ·omega
theorem rc_le {v : Nat} (h : rc v ≤ 1099511627776) : pc v = rc v := by
 unfold pc rc at *
 split at h
 ·rename_i h1
  rw [if_pos h1, if_pos (by omega)]
 ·omega
theorem lists_p {ps : List (List UInt8 × List UInt8)} (h : denom_Valid (ps.map pcd) = true) : ps.map pcd = ps.map rcd := by
 refine List.map_congr_left fun p hp => ?_
 have h1 := Valid_mem h (pcd p) (List.mem_map_of_mem hp)
 have e1 := (pc_nn h1.1).1
 have e2 := (pc_nn h1.2.2.1).1
 unfold pcd rcd
 rw [e1, e2]
theorem lists_r {ps : List (List UInt8 × List UInt8)} (h : denom_Valid (ps.map rcd) = true) : ps.map pcd = ps.map rcd := by
 refine List.map_congr_left fun p hp => ?_
 have h1 := Valid_mem h (rcd p) (List.mem_map_of_mem hp)
 have e1 := rc_le h1.2.1
 have e2 := rc_le (v := nv p.2) (Int.le_trans h1.2.2.2 (by decide))
 unfold pcd rcd
 rw [e1, e2]
theorem outs_eq (ws : List (List UInt8)) : outP pcd [] ws = outP rcd [] ws := by
 unfold outP
 cases spAll ws with
 | none => rfl
 | some ps =>
  simp only [List.nil_append]
  by_cases h1 : denom_Valid (ps.map pcd) = true
  ·rw [lists_p h1]
  ·by_cases h2 : denom_Valid (ps.map rcd) = true
   ·rw [lists_r h2]
   ·unfold finP
    rw [if_neg h1, if_neg h2]
theorem parses_eq (s : List UInt8) : denom_Parse s = specieref28_Parse s := by
 by_cases hs : s.length ≤ 16384
 ·rw [parse_eq hs, rparse_eq hs, outs_eq]
 ·unfold denom_Parse specieref28_Parse
  rw [if_pos (show decide ((s.length : Int) > 16384) = true by simp only [decide_eq_true_eq]; omega), if_pos (show decide ((s.length : Int) > 16384) = true by simp only [decide_eq_true_eq]; omega)]
theorem q_self (d : S_api_Denom) : q_api_Denom d d = true := by
 unfold q_api_Denom; simp
theorem Same_self (a : List S_api_Denom) : specieref28_Same a a = true := by
 unfold specieref28_Same
 rw [if_neg (by simp)]
 refine iter_rule (P := fun _ : Int => True) (Q := fun r => r = true) (meas := fun p => ((a.length : Int) - p).toNat) ?_ _ _ trivial (by show ((a.length : Int) - 0).toNat < _; omega)
 rintro ag p _ ih
 by_cases h : p < (a.length : Int)
 ·rw [if_pos (by simpa using h), q_self, if_neg (by decide)]
  exact ih _ trivial (by show ((a.length : Int) - (p + 1)).toNat < ((a.length : Int) - p).toNat; omega)
 ·rw [if_neg (by simpa using h)]
def ctx (d : S_api_Denom) : List UInt8 := (strconv_Itoa d.Value ++ [47]) ++ strconv_Itoa d.Depth
def txt (l : List S_api_Denom) : List UInt8 := Lib.join (l.map ctx) [32]
theorem take_gt {α : Type} [Inhabited α] {l : List α} {k : Nat} (h : k < l.length) : l.take (k + 1) = l.take k ++ [gt l (k : Int)] := by
 rw [List.take_add_one, gt_nat, List.getD_eq_getElem?_getD, List.getElem?_eq_getElem h]; rfl
theorem text_bad {l : List S_api_Denom} (h : denom_Valid l = false) : denom_Text l = ([], 1) := by
 unfold denom_Text
 refine letk_go fun x1 h1 => ?_
 rw [if_pos (by rw [h1, h]; rfl)]
theorem text_eq {l : List S_api_Denom} (h : denom_Valid l = true) : denom_Text l = (txt l, 0) := by
 unfold denom_Text
 refine letk_go fun x1 h1 => ?_
 rw [if_neg (by rw [h1, h]; decide)]
 refine iter_rule (P := fun p : Int × List (List UInt8) => ∃ k : Nat, p.1 = k ∧ k ≤ l.length ∧ p.2 = (l.take k).map ctx) (Q := fun r => r = (txt l, 0)) (meas := fun p => ((l.length : Int) - p.1).toNat) ?_ _ _ ⟨0, rfl, Nat.zero_le _, rfl⟩ (by show ((l.length : Int) - 0).toNat < _; omega)
 rintro ag ⟨i, acc⟩ ⟨k, e1, e2, e3⟩ ih
 simp only at e1 e3 ih
 subst e1
 by_cases hi : (k : Int) < (l.length : Int)
 ·rw [if_pos (by simpa using hi)]
  refine letk_go fun x9 h9 => letk_go fun x12 h12 => ?_
  refine ih _ ⟨k + 1, by push_cast; rfl, by omega, ?_⟩ (by show ((l.length : Int) - ((k : Int) + 1)).toNat < ((l.length : Int) - (k : Int)).toNat; omega)
  rw [take_gt (by omega), List.map_append, e3, h9, h12]
  rfl
 ·rw [if_neg (by simpa using hi)]
  refine letk_go fun x15 h15 => ?_
  have ek : k = l.length := by omega
  rw [ek, List.take_length] at e3
  rw [h15, e3]
  rfl
theorem join_snoc {xs : List (List UInt8)} {x sep : List UInt8} (h : xs ≠ []) : Lib.join (xs ++ [x]) sep = Lib.join xs sep ++ sep ++ x := by
 cases xs with
 | nil => exact absurd rfl h
 | cons y ys =>
  rw [List.cons_append, join_cons, join_cons]
  simp [joinTail]
theorem rtext_eq {l : List S_api_Denom} (h : denom_Valid l = true) : specieref28_Text l = txt l := by
 have hm := Valid_mem h
 unfold specieref28_Text
 refine iter_rule (P := fun p : List UInt8 × Int => ∃ k : Nat, p.2 = k ∧ k ≤ l.length ∧ p.1 = txt (l.take k)) (Q := fun r => r = txt l) (meas := fun p => ((l.length : Int) - p.2).toNat) ?_ _ _ ⟨0, rfl, Nat.zero_le _, rfl⟩ (by show ((l.length : Int) - 0).toNat < _; omega)
 rintro ag ⟨acc, i⟩ ⟨k, e1, e2, e3⟩ ih
 simp only at e1 e3 ih
 subst e1
 by_cases hi : (k : Int) < (l.length : Int)
 ·rw [if_pos (by simpa using hi)]
  have hd := hm (gt l (k : Int)) (gt_mem (by omega))
  have d1 : specieref28_decimal (gt l (k : Int)).Value = strconv_Itoa (gt l (k : Int)).Value := by rw [decimal_dec hd.1, itoa_dec hd.1]
  have d2 : specieref28_decimal (gt l (k : Int)).Depth = strconv_Itoa (gt l (k : Int)).Depth := by rw [decimal_dec hd.2.2.1, itoa_dec hd.2.2.1]
  have hm1 : ((l.length : Int) - ((k : Int) + 1)).toNat < ((l.length : Int) - (k : Int)).toNat := by omega
  simp only [letj, letk, d1, d2]
  by_cases h0 : (k : Int) > 0
  ·rw [if_pos (by simpa using h0)]
   refine ih _ ⟨k + 1, by push_cast; rfl, by omega, ?_⟩ hm1
   show (acc ++ [32] ++ _ ++ [47]) ++ _ = _
   unfold txt
   rw [take_gt (by omega), List.map_append]
   show _ = Lib.join ((l.take k).map ctx ++ [ctx (gt l (k : Int))]) [32]
   rw [join_snoc (by intro h1; have h2 := congrArg List.length h1; rw [List.length_map, List.length_take, List.length_nil] at h2; omega), e3]
   simp [txt, ctx]
  ·rw [if_neg (by simpa using h0)]
   refine ih _ ⟨k + 1, by push_cast; rfl, by omega, ?_⟩ hm1
   have ek : k = 0 := by omega
   subst ek
   show (acc ++ _ ++ [47]) ++ _ = _
   unfold txt
   rw [take_gt (by omega), List.map_append, e3]
   show _ = Lib.join [ctx (gt l ((0 : Nat) : Int))] [32]
   rw [join_one]
   simp [txt, ctx, join_nil]
 ·rw [if_neg (by simpa using hi)]
  have ek : k = l.length := by omega
  rw [ek, List.take_length] at e3
  exact e3
def itp (d : S_api_Denom) : List UInt8 × List UInt8 := (strconv_Itoa d.Value, strconv_Itoa d.Depth)
theorem gd_itoa {n : Int} (h : 0 ≤ n) : gd (strconv_Itoa n) := by rw [itoa_dec h]; exact gd_dec _
theorem pc_itoa {n : Int} (h : 0 ≤ n) (h1 : n ≤ 1099511627776) : pc (nv (strconv_Itoa n)) = n := by
 rw [itoa_dec h, nv_dec]
 unfold pc
 rw [if_pos (by omega)]; omega
theorem sp_ctx {d : S_api_Denom} (h : 0 ≤ d.Value ∧ d.Value ≤ 1099511627776 ∧ 0 ≤ d.Depth ∧ d.Depth ≤ 5) : sp (ctx d) = some (itp d) :=
 sp_iff.2 ⟨by simp [ctx], gd_itoa h.1, gd_itoa h.2.2.1⟩
theorem spAll_ctx : ∀ l : List S_api_Denom, (∀ d ∈ l, 0 ≤ d.Value ∧ d.Value ≤ 1099511627776 ∧ 0 ≤ d.Depth ∧ d.Depth ≤ 5) → spAll (l.map ctx) = some (l.map itp)
 | [], _ => rfl
 | d :: l, h => by
  simp only [List.map_cons, spAll, sp_ctx (h d (by simp)), spAll_ctx l (fun x hx => h x (by simp [hx]))]
theorem pcd_itp : ∀ l : List S_api_Denom, (∀ d ∈ l, 0 ≤ d.Value ∧ d.Value ≤ 1099511627776 ∧ 0 ≤ d.Depth ∧ d.Depth ≤ 5) → (l.map itp).map pcd = l
 | [], _ => rfl
 | d :: l, h => by
  have hd := h d (by simp)
  have e : pcd (itp d) = d := by
   unfold pcd itp
   rw [pc_itoa hd.1 hd.2.1, pc_itoa hd.2.2.1 (Int.le_trans hd.2.2.2 (by decide))]
  rw [List.map_cons, List.map_cons, e, pcd_itp l (fun x hx => h x (by simp [hx]))]
theorem textLen_le : ∀ L : List (List UInt8), (∀ x ∈ L, x.length ≤ 43) → textLen L ≤ 43 * L.length
 | [], _ => Nat.zero_le _
 | x :: L, h => by
  have ih := textLen_le L (fun y hy => h y (by simp [hy]))
  have h1 := h x (by simp)
  simp only [textLen, List.map_cons, List.sum_cons, List.length_cons] at ih ⊢
  omega
theorem txt_parse {l : List S_api_Denom} (h : denom_Valid l = true) : denom_Parse (txt l) = (l, 0) := by
 have hm := Valid_mem h
 have hl := Valid_len h
 have h43 : ∀ x ∈ l.map ctx, x.length ≤ 43 := by
  intro x hx
  obtain ⟨d, hd, rfl⟩ := List.mem_map.1 hx
  have hd := hm d hd
  have h1 := itoa_len (n := d.Value) rfl (by omega)
  have h2 := itoa_len (n := d.Depth) rfl (by omega)
  simp only [ctx, List.length_append, List.length_singleton]
  omega
 have hlen : (txt l).length ≤ 16384 := by
  have h1 := join_le (l.map ctx) [32]
  have h2 := textLen_le _ h43
  rw [List.length_map] at h1 h2
  simp only [List.length_singleton] at h1
  unfold txt
  omega
 rw [parse_eq hlen]
 have hc : cutAll 32 (txt l) = l.map ctx := by
  unfold txt
  have h32 : ∀ x ∈ l.map ctx, (32 : UInt8) ∉ x := by
   intro x hx
   obtain ⟨d, hd, rfl⟩ := List.mem_map.1 hx
   have hd := hm d hd
   have := no32 (gd_itoa hd.1) (gd_itoa hd.2.2.1)
   simpa [ctx] using this
  cases hL : l.map ctx with
  | nil =>
   have := congrArg List.length hL
   simp at this
   rw [this] at hl
   simp at hl
  | cons p ps =>
   rw [hL] at h32
   exact cutAll_join 32 p ps h32
 rw [hc]
 unfold outP
 rw [spAll_ctx l hm]
 simp only [List.nil_append, pcd_itp l hm]
 unfold finP
 rw [if_pos h]
theorem spAll_back : ∀ (ws : List (List UInt8)) (ps : List (List UInt8 × List UInt8)), spAll ws = some ps → ws = ps.map (fun p => p.1 ++ 47 :: p.2) ∧ ∀ p ∈ ps, gd p.1 ∧ gd p.2
 | [], ps, h => by
  unfold spAll at h
  cases h
  exact ⟨rfl, fun p hp => by cases hp⟩
 | w :: ws, ps, h => by
  unfold spAll at h
  cases hw : sp w with
  | none => rw [hw] at h; cases h
  | some p =>
   cases hs : spAll ws with
   | none => rw [hw, hs] at h; cases h
   | some qs =>
    rw [hw, hs] at h
    have e := Option.some.inj h
    subst e
    have ih := spAll_back ws qs hs
    have hp := sp_iff.1 (show sp w = some (p.1, p.2) from hw)
    refine ⟨by rw [List.map_cons, ← ih.1, ← hp.1], fun q hq => ?_⟩
    rcases List.mem_cons.1 hq with rfl | hq
    ·exact hp.2
    ·exact ih.2 q hq
theorem parse_txt {s : List UInt8} {L : List S_api_Denom} (h : denom_Parse s = (L, 0)) : denom_Text L = (s, 0) := by
 by_cases hs : s.length ≤ 16384
 ·rw [parse_eq hs] at h
  unfold outP at h
  cases hq : spAll (cutAll 32 s) with
  | none => rw [hq] at h; simp at h
  | some ps =>
   rw [hq] at h
   simp only [List.nil_append] at h
   unfold finP at h
   by_cases hv : denom_Valid (ps.map pcd) = true
   ·rw [if_pos hv] at h
    have e := (Prod.mk.inj h).1
    subst e
    rw [text_eq hv]
    have hm := Valid_mem hv
    have hb := spAll_back _ _ hq
    have key : (ps.map pcd).map ctx = cutAll 32 s := by
     rw [hb.1, List.map_map]
     refine List.map_congr_left fun p hp => ?_
     have h1 := hm (pcd p) (List.mem_map_of_mem hp)
     have g := hb.2 p hp
     have e1 := (pc_nn h1.1).2
     have e2 := (pc_nn h1.2.2.1).2
     show (strconv_Itoa (pc (nv p.1)) ++ [47]) ++ strconv_Itoa (pc (nv p.2)) = _
     rw [e1, e2, itoa_dec (by omega), itoa_dec (by omega), Int.toNat_natCast, Int.toNat_natCast, dec_nv g.1, dec_nv g.2]
     simp
    unfold txt
    rw [key, join_cutAll]
   ·rw [if_neg hv] at h; simp at h
 ·unfold denom_Parse at h
  rw [if_pos (show decide ((s.length : Int) > 16384) = true by simp only [decide_eq_true_eq]; omega)] at h
  simp at h
theorem specielaw28_DenomTexts_true (l : List S_api_Denom) (s : List UInt8) : specielaw28_DenomTexts l s = true := by
 have hS := Same_self
 obtain ⟨L, c, hP⟩ : ∃ L c, denom_Parse s = (L, c) := ⟨_, _, rfl⟩
 have hT : c = 0 → denom_Text L = (s, 0) := fun h => parse_txt (by rw [hP, h])
 unfold specielaw28_DenomTexts
 simp only [letk, letj, awake_true, ← parses_eq, ← Valid_eq, hP, hS, Bool.not_true, Bool.false_eq_true, if_false, bne_self_eq_false]
 by_cases hc : c = 0
 ·have hT := hT hc
  by_cases hv : denom_Valid l = true
  ·simp [hv, text_eq hv, rtext_eq hv, txt_parse hv, hS, hc, hT]
  ·rw [Bool.not_eq_true] at hv
   simp [hv, text_bad hv, hc, hT]
 ·by_cases hv : denom_Valid l = true
  ·simp [hv, text_eq hv, rtext_eq hv, txt_parse hv, hS, hc]
  ·rw [Bool.not_eq_true] at hv
   simp [hv, text_bad hv, hc]
end Go.Proofs.YtbfeamknaiaghaaDoor
