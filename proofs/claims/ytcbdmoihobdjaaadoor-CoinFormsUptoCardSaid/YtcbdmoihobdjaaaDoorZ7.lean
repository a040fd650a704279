/- Texts of this proof, one after the other: U2, S1, S2, S3, S4, L1, L2. -/
import Derived.Test.YtcbdmoihobdjaaaDoorZ6
import Derived.Test.YtcbdmoihobdjaaaDoorZ5
import Derived.KernelRfl
set_option linter.unusedVariables false
set_option linter.unusedSimpArgs false
namespace Go.Proofs.YtcbdmoihobdjaaaDoor
open Go.RowKit
set_option linter.unusedSimpArgs false
set_option maxHeartbeats 2000000 in
set_option maxRecDepth 100000 in
instance specieref31_Numbers_ok   (i_ : S_api_Item) (n_ : Int)  : CM En (specieref31_Numbers i_ n_) 36 [.agg [.int .i64 i_.Kind, .int .i64 i_.N, .sl none 1 false (i_.B.map (V.int .u8)), .sl none 4 true (i_.L.map e_api_Item)], .int .i64 n_] (fun y => .tup [.sl none 1 false (y.1.map (V.int .i64)), .bool y.2]) (fun _ => []) := by
 refine cmQ fun r hM => ?_
 rw [specieref31_Numbers.eq_1] at hM
 refine enterV En_ok En_mo noJ Tryd.func36 rfl Tryd.ntmps36 (by kernel_rfl) fun hw => ct_start ?_
 refine spQ ?_
 replace hw := nzQ hw
 refine guardC_f (fun h1 => ?_) (fun h1 => ?_)
 ·rw [if_neg (ne_true h1)] at hM
  refine spQA h1 ?_
  have nh1 := nzQ h1
  try have hr2 := mpQ nh1
  refine condC_intro (fun h3 => ?_) (fun h3 => ?_)
  ·rw [if_pos h3] at hM
   refine spQA h3 ?_
   have nh3 := nzQ h3
   try have hr4 := mpQ nh3
   subst hM
   exact retC_view (lfQA (And.intro h1 h3))
  ·rw [if_neg (ne_true h3)] at hM
   refine spQA h3 ?_
   have nh3 := nzQ h3
   try have hr5 := mpQ nh3
   have hM0 := hM; clear hM; obtain ⟨f6, d6, hf6, hd6, hM⟩ := iter_opn hM0; clear hM0
   refine ct_loopW (fun n S => ∃ p : Int × List Int, S = (⟨[(1, .int .i64 n_), (2, .ptr 0 0), (6, .own 1), (7, .int .i64 p.1)], [(0, .var 4 true (.agg [.int .i64 i_.Kind, .int .i64 i_.N, .sl none 1 false (i_.B.map (V.int .u8)), .sl none 4 true (i_.L.map e_api_Item)])), (1, .own 3 1 false none (p.2.map (V.int .i64)))], 2⟩ : St) ∧ ((0 ≤ p.1) ∧ (p.1 ≤ n_) ∧ (((p.2).length : Int) ≤ p.1)) ∧ (n_ - p.1).toNat < n ∧ iter n f6 d6 p = r) ((n_ - 0).toNat + 1) _ _ (weak_nil 6 3 rfl (by decide)) sbQ sbQ ⟨(0, ([] : List Int)), rfl, ⟨omQ, omQ, omQ⟩, (Nat.lt_succ_self _), hM⟩ ?_
   clear hM
   rintro n6 S ⟨p6, rfl, hfa6, hm6, hM⟩
   have hM0 := hM; clear hM; obtain ⟨ag6, hag6, hM⟩ := iter_step hM0 (by omega) hf6; clear hM0
   replace hfa6 := nzQ hfa6
   replace hm6 := nzQ hm6
   have ha6 : addI .i64 p6.1 1 = p6.1 + 1 := add_one omQ omQ
   refine spQA ha6 ?_
   have hF := (And.intro h1 (And.intro h3 ha6))
   exact auQ
 ·rw [if_pos h1] at hM
  refine spQA h1 ?_
  have nh1 := nzQ h1
  try have hr14 := mpQ nh1
  subst hM
  exact retC_view (lfQA h1)
set_option maxHeartbeats 2000000 in
set_option maxRecDepth 100000 in
instance specieref31_Hash_ok   (i_ : S_api_Item)  : CM En (specieref31_Hash i_) 35 [.agg [.int .i64 i_.Kind, .int .i64 i_.N, .sl none 1 false (i_.B.map (V.int .u8)), .sl none 4 true (i_.L.map e_api_Item)]] (fun y => .tup [(e_arr23 y.1), .bool y.2]) (fun _ => []) := by
 refine cmQ fun r hM => ?_
 rw [specieref31_Hash.eq_1] at hM
 refine enterV En_ok En_mo noJ Tryd.func35 rfl Tryd.ntmps35 (by kernel_rfl) fun hw => ct_start ?_
 refine spQ ?_
 replace hw := nzQ hw
 refine guardC_f (fun h1 => ?_) (fun h1 => ?_)
 ·rw [if_neg (ne_true h1)] at hM
  refine spQA h1 ?_
  have nh1 := nzQ h1
  try have hr2 := mpQ nh1
  refine condC_intro (fun h3 => ?_) (fun h3 => ?_)
  ·rw [if_pos h3] at hM
   refine spQA h3 ?_
   have nh3 := nzQ h3
   try have hr4 := mpQ nh3
   subst hM
   exact retC_view (lfQA (And.intro h1 h3))
  ·rw [if_neg (ne_true h3)] at hM
   refine spQA h3 ?_
   have nh3 := nzQ h3
   try have hr5 := mpQ nh3
   have hM0 := hM; clear hM; obtain ⟨f6, d6, hf6, hd6, hM⟩ := iter_opn hM0; clear hM0
   refine ct_loop (fun n S => ∃ p : Int × (List Int), S = (⟨[(1, .ptr 0 0), (2, .ptr 1 0), (4, .ptr 2 0), (5, .int .i64 p.1)], [(0, .var 4 true (.agg [.int .i64 i_.Kind, .int .i64 i_.N, .sl none 1 false (i_.B.map (V.int .u8)), .sl none 4 true (i_.L.map e_api_Item)])), (1, .var 32 true (zv_23)), (2, .var 32 true ((e_arr23 p.2)))], 3⟩ : St) ∧ ((0 ≤ p.1) ∧ (p.1 ≤ 32)) ∧ ((32 : Int) - p.1).toNat < n ∧ iter n f6 d6 p = r) (((32 : Int) - 0).toNat + 1) _ sbQ (by simp only [go_sem, rowV_eq, rowV_eq0, List.length_replicate, rep_len, Int.toNat_natCast, ↓reduceIte, Nat.reduceEqDiff, Nat.reduceAdd, Int.reduceAdd, Nat.reduceMul, Nat.reduceLeDiff, Nat.reduceLT, Int.reduceLE, Int.reduceLT, Int.reduceNeg, Int.reduceToNat, map_st, mtL_repE, mtL_repM, subF, subH, mtO, mtB, mt, mtL, mtL_self, mt_self, ltV, ltL, ltB, eq_self, or_true, true_or, or_self, and_self, gt_cons0, gt_conss, Int.reduceSub]) ⟨(0, [0, 0, 0, 0, 0, 0, 0, 0, 0, 0, 0, 0, 0, 0, 0, 0, 0, 0, 0, 0, 0, 0, 0, 0, 0, 0, 0, 0, 0, 0, 0, 0]), rfl, ⟨omQ, omQ⟩, (Nat.lt_succ_self _), hM⟩ ?_
   clear hM
   rintro n6 S ⟨p6, rfl, hfa6, hm6, hM⟩
   have hM0 := hM; clear hM; obtain ⟨ag6, hag6, hM⟩ := iter_step hM0 (by omega) hf6; clear hM0
   replace hfa6 := nzQ hfa6
   replace hm6 := nzQ hm6
   have ha6 : addI .i64 p6.1 1 = p6.1 + 1 := add_one omQ omQ
   refine spQA ha6 ?_
   refine condC_intro (fun h7 => ?_) (fun h7 => ?_)
   ·rw [if_pos h7] at hM
    refine spQA (And.intro ha6 h7) ?_
    have nh7 := nzQ h7
    try have hr8 := mpQ nh7
    refine bindC_intro omQ ?_
    have he9 := fun d => elt_mp (l := i_.B) (f := (V.int .u8)) (i := p6.1) omQ d
    refine spQA (And.intro ha6 he9) ?_
    refine bindC_intro omQ ?_
    have he10 : ((p6.1).toNat * 1 + 1 ≤ 32) = True := eq_true omQ
    refine spQA (And.intro ha6 (And.intro he9 he10)) ?_
    have he11 := arr_put (f := (V.int .u8)) (l := (arrN 32 p6.2)) (n := 32) (i := p6.1) (v := (gt i_.B p6.1)) arrN_len omQ
    replace he11 := spR he11
    refine spQA (And.intro ha6 (And.intro he9 (And.intro he10 he11))) ?_
    refine lp_intro (n6 - 1) _ (by omega) sbQ (by simp only [go_sem, rowV_eq, rowV_eq0, List.length_replicate, rep_len, Int.toNat_natCast, ↓reduceIte, Nat.reduceEqDiff, Nat.reduceAdd, Int.reduceAdd, Nat.reduceMul, Nat.reduceLeDiff, Nat.reduceLT, Int.reduceLE, Int.reduceLT, Int.reduceNeg, Int.reduceToNat, map_st, mtL_repE, mtL_repM, subF, subH, mtO, mtB, mt, mtL, mtL_self, mt_self, ltV, ltL, ltB, eq_self, or_true, true_or, or_self, and_self, gt_cons0, gt_conss, Int.reduceSub]) ⟨((p6.1 + 1), (arrN 32 (st (arrN 32 p6.2) p6.1 (gt i_.B p6.1)))), rfl, ⟨omQ, omQ⟩, omQ, iter_again hM hag6⟩
   ·rw [if_neg (ne_true h7)] at hM
    refine spQA (And.intro ha6 h7) ?_
    have nh7 := nzQ h7
    try have hr12 := mpQ nh7
    subst hM
    exact retC_view (lfQA (And.intro ha6 (And.intro h1 (And.intro h3 h7))))
 ·rw [if_pos h1] at hM
  refine spQA h1 ?_
  have nh1 := nzQ h1
  try have hr13 := mpQ nh1
  subst hM
  exact retC_view (lfQA h1)
instance (priority := 1010) : DRD 12 81 29 [51, 52, 53, 54, 55, 56, 57, 58, 59, 60, 61, 62, 63, 64, 65, 66, 67, 68, 69, 70, 71, 72, 73, 74, 75, 76, 77, 78, 79] [] ([[], [0], [0, 1], [], [3], [3, 4], [], [6], [6, 7], [], [9], [9, 10], [], [12], [12, 13], [], [], [16], [16, 17], [], [19], [19, 20], [], [22], [22, 23], [], [25], [25, 26], [16, 17, 18, 19, 20, 21, 22, 23, 24, 25, 26, 27]] ++ [List.range 29, List.range 30, List.range 31]) [] := ⟨trivial⟩
set_option maxHeartbeats 2000000 in
set_option maxRecDepth 100000 in
instance specieref31_FromItem_ok   (i_ : S_api_Item)  : CM En (specieref31_FromItem i_) 26 [.agg [.int .i64 i_.Kind, .int .i64 i_.N, .sl none 1 false (i_.B.map (V.int .u8)), .sl none 4 true (i_.L.map e_api_Item)]] (fun y => .tup [(e_api_Coin y.1), .bool y.2]) (fun _ => []) := by
 refine cmQ fun r hM => ?_
 rw [specieref31_FromItem.eq_1] at hM
 refine enterV En_ok En_mo noJ Tryd.func26 rfl Tryd.ntmps26 (by kernel_rfl) fun hw => ct_start ?_
 refine spQ ?_
 replace hw := nzQ hw
 have hF := trueQ
 exact auQ
set_option maxHeartbeats 2000000 in
set_option maxRecDepth 100000 in
instance specielaw31_CoinForms_ok   (c : S_api_Coin) (i_ : S_api_Item)  : CM En (specielaw31_CoinForms c i_) 4 [(e_api_Coin c), .agg [.int .i64 i_.Kind, .int .i64 i_.N, .sl none 1 false (i_.B.map (V.int .u8)), .sl none 4 true (i_.L.map e_api_Item)]] (fun y => .bool y) (fun _ => []) := by
 refine cmQ fun r hM => ?_
 rw [specielaw31_CoinForms.eq_1] at hM
 refine enterV En_ok En_mo noJ Tryd.func4 rfl Tryd.ntmps4 (by kernel_rfl) fun hw => ct_start ?_
 refine spQ ?_
 replace hw := nzQ hw
 have hM0 := hM; clear hM; obtain ⟨x1, hx2, hM⟩ := letk_opn hM0; clear hM0
 have hcx1 := cmU hx2
 refine callC_give hcx1 clQ clQ (fun hw3 => ?_)
 replace hw3 := nzQ hw3
 refine spQ ?_
 refine guardC_f (fun h4 => ?_) (fun h4 => ?_)
 ·rw [if_neg (ne_true h4)] at hM
  refine spQA h4 ?_
  have nh4 := nzQ h4
  try have hr5 := mpQ nh4
  have hM0 := hM; clear hM; obtain ⟨x6, hx7, hM⟩ := letk_opn hM0; clear hM0
  have hcx6 := countM_ok  i_ 101 
  rw [← hx7] at hcx6
  refine callC_give hcx6 clQ clQ (fun hw8 => ?_)
  replace hw8 := nzQ hw8
  refine spQ ?_
  refine condC_intro (fun h9 => ?_) (fun h9 => ?_)
  ·rw [if_pos h9] at hM
   refine spQA h9 ?_
   have nh9 := nzQ h9
   try have hr10 := mpQ nh9
   have hF := (And.intro h4 h9)
   exact auQ
  ·rw [if_neg (ne_true h9)] at hM
   refine spQA h9 ?_
   have nh9 := nzQ h9
   try have hr14 := mpQ nh9
   refine ct_draw 66 10 [17, 18, 19, 20, 21, 22, 23, 24, 25, 26] [] ([[], [0], [], [2], [0, 1, 2, 3], [0, 1, 2, 3, 4], [0, 1, 2, 3, 4, 5], [0, 1, 2, 3, 4, 5, 6], [0, 1, 2, 3, 4, 5, 6, 7], [0, 1, 2, 3, 4, 5, 6]] ++ [List.range 10, List.range 11, List.range 12]) [] (by kernel_rfl) (by exact alQ) ?_
   refine spQ ?_
   have hM0 := hM; clear hM; obtain ⟨x15, hx16, hM⟩ := letk_opn hM0; clear hM0
   have hcx15 := cmU hx16
   refine hcallC_give hcx15 clQ clQ ?_
   refine spQ ?_
   have hM0 := hM; clear hM; obtain ⟨x17, hx18, hM⟩ := letk_opn hM0; clear hM0
   have hcx17 := cmU hx18
   refine hcallC_give hcx17 clQ clQ ?_
   refine spQ ?_
   have hM0 := hM; clear hM; obtain ⟨x19, hx20, hM⟩ := letk_opn hM0; clear hM0
   have hcx19 := sameM_ok  x15 x17 
   rw [← hx20] at hcx19
   refine hcallC_give hcx19 clQ clQ ?_
   refine spQ ?_
   have hF := (And.intro h4 h9)
   exact auQ
 ·rw [if_pos h4] at hM
  refine spQA h4 ?_
  have nh4 := nzQ h4
  try have hr56 := mpQ nh4
  have hF := h4
  exact auQ
set_option maxHeartbeats 2000000 in
set_option maxRecDepth 100000 in
instance specieref07_value_ok   (b : (List Int))  : CM En (specieref07_value b) 80 [.sl none 1 false (b.map (V.int .u8))] (fun y => .int .u64 y) (fun _ => []) := by
 refine cmQ fun r hM => ?_
 rw [specieref07_value.eq_1] at hM
 refine enterV En_ok En_mo noJ Tryd.func80 rfl Tryd.ntmps80 (by kernel_rfl) fun hw => ct_start ?_
 refine spQ ?_
 replace hw := nzQ hw
 have hM0 := hM; clear hM; obtain ⟨f1, d1, hf1, hd1, hM⟩ := iter_opn hM0; clear hM0
 refine ct_loop (fun n S => ∃ p : Int × Int, S = (⟨[(0, .sl none 1 false (b.map (V.int .u8))), (3, .int .u64 p.1), (4, .int .i64 p.2)], [], 0⟩ : St) ∧ ((0 ≤ p.2) ∧ (p.2 ≤ (b.length : Int))) ∧ ((b.length : Int) - p.2).toNat < n ∧ iter n f1 d1 p = r) (((b.length : Int) - 0).toNat + 1) _ sbQ sbQ ⟨(0, 0), rfl, ⟨omQ, omQ⟩, (Nat.lt_succ_self _), hM⟩ ?_
 clear hM
 rintro n1 S ⟨p1, rfl, hfa1, hm1, hM⟩
 have hM0 := hM; clear hM; obtain ⟨ag1, hag1, hM⟩ := iter_step hM0 (by omega) hf1; clear hM0
 replace hfa1 := nzQ hfa1
 replace hm1 := nzQ hm1
 have ha1 : addI .i64 p1.2 1 = p1.2 + 1 := add_one omQ omQ
 refine spQA ha1 ?_
 have hF := ha1
 exact auQ
instance (priority := 1012) : DRD 16 119 11 [78, 79, 80, 81, 82, 83, 84, 85, 86, 87] [] ([[], [], [], [], [2, 3], [1, 2, 3, 4], [0, 1, 2, 3, 4, 5], [], [], [7, 8], [0, 1, 2, 3, 4, 5, 6]] ++ [List.range 11, List.range 12]) [(5, 2), (10, 0)] := ⟨trivial⟩
set_option maxHeartbeats 2000000 in
set_option maxRecDepth 100000 in
theorem specieref07_read_ok (N : Nat) (ih : ∀ (z0 : Option Bool) (b : (List Int)) (within : Int), (0 ≤ within) → (within ≤ 8) → (isB b) → (8 - within).toNat < N → CallOk En 60 [.sl z0 1 false (b.map (V.int .u8)), .int .i64 within] (.tup [.agg [.int .i64 (rreadM b within).1.Kind, .int .i64 (rreadM b within).1.N, .sl none 1 false ((rreadM b within).1.B.map (V.int .u8)), .sl none 4 true ((rreadM b within).1.L.map e_api_Item)], .sl none 1 false ((rreadM b within).2.1.map (V.int .u8)), .int .i64 (rreadM b within).2.2]) []) (z0 : Option Bool) (b : (List Int)) (within : Int) (hp0 : 0 ≤ within) (hp1 : within ≤ 8) (hp2 : isB b) (hp_ : (8 - within).toNat < N + 1) : CallOk En 60 [.sl z0 1 false (b.map (V.int .u8)), .int .i64 within] (.tup [.agg [.int .i64 (specieref07_read b within).1.Kind, .int .i64 (specieref07_read b within).1.N, .sl none 1 false ((specieref07_read b within).1.B.map (V.int .u8)), .sl none 4 true ((specieref07_read b within).1.L.map e_api_Item)], .sl none 1 false ((specieref07_read b within).2.1.map (V.int .u8)), .int .i64 (specieref07_read b within).2.2]) [] := by
 generalize hM : specieref07_read b within = r
 rw [specieref07_read.eq_1] at hM
 refine enterV En_ok En_mo [11] Tryd.func60 rfl Tryd.ntmps60 (by kernel_rfl) fun hw => ct_start ?_
 refine spQ ?_
 replace hw := nzQ hw
 refine condC_intro (fun h1 => ?_) (fun h1 => ?_)
 ·rw [if_pos h1] at hM
  refine spQA h1 ?_
  have nh1 := nzQ h1
  try have hr2 := mpQ nh1
  subst hM
  exact retC_view (lfQA h1)
 ·rw [if_neg (ne_true h1)] at hM
  refine spQA h1 ?_
  have nh1 := nzQ h1
  try have hr3 := mpQ nh1
  refine bindC_intro omQ ?_
  have he4 : ∀ d, elt (b.map (V.int .u8)) 0 d = (V.int .u8) (gt b 0) := fun d => elt_mp (l := b) (f := (V.int .u8)) (i := 0) omQ d
  refine spQA he4 ?_
  refine bindC_intro omQ ?_
  refine spQA he4 ?_
  have hM0 := hM; clear hM; obtain ⟨j5, hj5, hM⟩ := letj_opn hM0; clear hM0
  refine seqC_intro (fun S => ∃ p : Unit, S = (⟨[(0, .sl none 1 false ((sl b 1 (b.length : Int)).map (V.int .u8))), (1, .int .i64 within), (4, .ptr 0 0), (7, .int .i64 (convI .i64 (gt b 0)))], [(0, .var 4 true (.agg [.int .i64 0, .int .i64 0, .sl (some true) 1 false [], .sl (some true) 4 true []]))], 1⟩ : St) ∧ ((2 ≤ (convI .i64 (gt b 0))) ∧ ((convI .i64 (gt b 0)) ≤ 3) ∧ ((convI .i64 (gt b 0)) ≠ 3 ∨ within ≠ 8) ∧ (4 ≤ (((sl b 1 (b.length : Int))).length : Int))) ∧ j5 p = r) ?_ (fun hcut5 => ?_)
  ·clear hM
   rintro S ⟨p5, rfl, hfa5, hM⟩
   replace hfa5 := nzQ hfa5
   have hM0 := hM; clear hM; have hM := letj_use hM0 hj5; clear hM0
   refine spQA he4 ?_
   refine bindC_intro omQ ?_
   refine spQA he4 ?_
   have hM0 := hM; clear hM; obtain ⟨x6, hx7, hM⟩ := letk_opn hM0; clear hM0
   have hcx6 := cmU hx7
   refine callC_give hcx6 (clQA he4) (clQA he4) (fun hw8 => ?_)
   replace hw8 := nzQ hw8
   refine spQA he4 ?_
   have hq9 := value_fact hx7 (isB_sl (isB_sl hp2))
   replace hq9 := nzQ hq9
   refine bindC_intro omQ ?_
   refine spQA he4 ?_
   refine condC_intro (fun h10 => ?_) (fun h10 => ?_)
   ·rw [if_pos h10] at hM
    refine spQA (And.intro he4 h10) ?_
    have nh10 := nzQ h10
    try have hr11 := mpQ nh10
    have hF := (And.intro h1 (And.intro he4 h10))
    exact auQ
   ·rw [if_neg (ne_true h10)] at hM
    refine spQA (And.intro he4 h10) ?_
    have nh10 := nzQ h10
    try have hr15 := mpQ nh10
    refine condC_intro (fun h16 => ?_) (fun h16 => ?_)
    ·rw [if_pos h16] at hM
     refine spQA (And.intro he4 h16) ?_
     have nh16 := nzQ h16
     try have hr17 := mpQ nh16
     subst hM
     exact retC_view (lfQA (And.intro he4 (And.intro h1 (And.intro h10 h16))))
    ·rw [if_neg (ne_true h16)] at hM
     refine spQA (And.intro he4 h16) ?_
     have nh16 := nzQ h16
     try have hr18 := mpQ nh16
     have hM0 := hM; clear hM; obtain ⟨f19, d19, hf19, hd19, hM⟩ := iter_opn hM0; clear hM0
     refine ct_loopW (fun n S => ∃ p : List Int × Int × S_api_Item × List S_api_Item, S = (⟨[(0, .sl none 1 false (p.1.map (V.int .u8))), (1, .int .i64 within), (4, .ptr 0 0), (8, .int .i64 (convI .i64 x6)), (9, .ptr 1 0), (10, .int .i64 p.2.1)], [(0, .var 4 true (.agg [.int .i64 p.2.2.1.Kind, .int .i64 p.2.2.1.N, .sl none 1 false (p.2.2.1.B.map (V.int .u8)), .sl none 4 true (p.2.2.1.L.map e_api_Item)])), (1, .var 4 true (.agg [.int .i64 (convI .i64 (gt b 0)), .int .i64 0, .sl (some true) 1 false [], .own 2])), (2, .own 53 4 true none (p.2.2.2.map e_api_Item))], 3⟩ : St) ∧ (((0 ≤ p.2.1) ∧ (p.2.1 ≤ (convI .i64 x6)) ∧ (((p.2.2.2).length : Int) ≤ p.2.1)) ∧ (isB (p.1))) ∧ ((convI .i64 x6) - p.2.1).toNat < n ∧ iter n f19 d19 p = r) (((convI .i64 x6) - 0).toNat + 1) _ _ (weak_nilV 1 3 53 rfl rfl (by decide)) sbQ (by simp only [go_sem, rowV_eq, rowV_eq0, List.length_replicate, rep_len, Int.toNat_natCast, ↓reduceIte, Nat.reduceEqDiff, Nat.reduceAdd, Int.reduceAdd, Nat.reduceMul, Nat.reduceLeDiff, Nat.reduceLT, Int.reduceLE, Int.reduceLT, Int.reduceNeg, Int.reduceToNat, map_st, mtL_repE, mtL_repM, subF, subH, mtO, mtB, mt, mtL, mtL_self, mt_self, ltV, ltL, ltB, eq_self, or_true, true_or, or_self, and_self, gt_cons0, gt_conss, Int.reduceSub]) ⟨((sl (sl b 1 (b.length : Int)) 4 ((sl b 1 (b.length : Int)).length : Int)), 0, z_api_Item, ([] : List S_api_Item)), rfl, ⟨⟨omQ, omQ, omQ⟩, by (exact isB_sl (isB_sl hp2))⟩, (Nat.lt_succ_self _), hM⟩ ?_
     clear hM
     rintro n19 S ⟨p19, rfl, ⟨hfa19, hF21_0⟩, hm19, hM⟩
     have hM0 := hM; clear hM; obtain ⟨ag19, hag19, hM⟩ := iter_step hM0 (by omega) hf19; clear hM0
     replace hfa19 := nzQ hfa19
     replace hm19 := nzQ hm19
     have ha19 : addI .i64 p19.2.1 1 = p19.2.1 + 1 := add_one omQ omQ
     refine spQA (And.intro he4 ha19) ?_
     refine condC_intro (fun h20 => ?_) (fun h20 => ?_)
     ·rw [if_pos h20] at hM
      refine spQA (And.intro he4 (And.intro ha19 h20)) ?_
      have nh20 := nzQ h20
      try have hr21 := mpQ nh20
      have ha22 : addI .i64 within 1 = (within + 1) := add_ok omQ omQ
      try simp only [ha22]
      have hM0 := hM; clear hM; obtain ⟨x23, hx24, hM⟩ := letk_opn hM0; clear hM0
      have hcx23 := ih none (p19.1) (within + 1) (by (first | assumption | omega)) (by (first | assumption | omega)) (by (first | assumption | omega)) (by omega)
      rw [← hx24] at hcx23
      refine callC_give hcx23 (clQA (And.intro he4 (And.intro ha19 ha22))) (clQA (And.intro he4 (And.intro ha19 ha22))) (fun hw25 => ?_)
      replace hw25 := nzQ hw25
      refine spQA (And.intro he4 (And.intro ha19 ha22)) ?_
      have hq26 := rread_isB hx24 (by assumption)
      replace hq26 := nzQ hq26
      refine condC_intro (fun h27 => ?_) (fun h27 => ?_)
      ·rw [if_pos h27] at hM
       refine spQA (And.intro he4 (And.intro ha19 (And.intro ha22 h27))) ?_
       have nh27 := nzQ h27
       try have hr28 := mpQ nh27
       subst hM
       exact retC_view (lfQA (And.intro he4 (And.intro ha19 (And.intro ha22 (And.intro h1 (And.intro h10 (And.intro h16 (And.intro h20 h27))))))))
      ·rw [if_neg (ne_true h27)] at hM
       refine spQA (And.intro he4 (And.intro ha19 (And.intro ha22 h27))) ?_
       have nh27 := nzQ h27
       try have hr29 := mpQ nh27
       refine bindC_intro omQ ?_
       refine spQA (And.intro he4 (And.intro ha19 ha22)) ?_
       refine lp_intro (n19 - 1) _ (by omega) sbQ sbQ ⟨(x23.2.1, (p19.2.1 + 1), p19.2.2.1, (p19.2.2.2 ++ ([x23.1] : List S_api_Item))), rfl, ⟨⟨omQ, omQ, omQ⟩, by assumption⟩, omQ, iter_again hM hag19⟩
     ·rw [if_neg (ne_true h20)] at hM
      refine spQA (And.intro he4 (And.intro ha19 h20)) ?_
      have nh20 := nzQ h20
      try have hr30 := mpQ nh20
      subst hM
      exact retC_view (lfQA (And.intro he4 (And.intro ha19 (And.intro h1 (And.intro h10 (And.intro h16 h20))))))
  ·refine spQA he4 ?_
   refine guardC_f (fun h31 => ?_) (fun h31 => ?_)
   ·rw [if_neg (ne_true h31)] at hM
    refine spQA (And.intro he4 h31) ?_
    have nh31 := nzQ h31
    try have hr32 := mpQ nh31
    refine guardC_f (fun h33 => ?_) (fun h33 => ?_)
    ·rw [if_neg (ne_true h33)] at hM
     refine spQA (And.intro he4 h33) ?_
     have nh33 := nzQ h33
     try have hr34 := mpQ nh33
     refine guardC_t (fun h35 => ?_) (fun h35 => ?_)
     ·rw [if_pos h35] at hM
      refine spQA (And.intro he4 h35) ?_
      have nh35 := nzQ h35
      try have hr36 := mpQ nh35
      refine condC_intro (fun h37 => ?_) (fun h37 => ?_)
      ·rw [if_pos h37] at hM
       refine spQA (And.intro he4 h37) ?_
       have nh37 := nzQ h37
       try have hr38 := mpQ nh37
       subst hM
       exact retC_view (lfQA (And.intro he4 (And.intro h1 (And.intro h31 (And.intro h33 (And.intro h35 h37))))))
      ·rw [if_neg (ne_true h37)] at hM
       refine spQA (And.intro he4 h37) ?_
       have nh37 := nzQ h37
       try have hr39 := mpQ nh37
       refine guardC_t (fun h40 => ?_) (fun h40 => ?_)
       ·rw [if_pos h40] at hM
        refine spQA (And.intro he4 h40) ?_
        have nh40 := nzQ h40
        try have hr41 := mpQ nh40
        refine guardC_f (fun h42 => ?_) (fun h42 => ?_)
        ·rw [if_neg (ne_true h42)] at hM
         refine spQA (And.intro he4 h42) ?_
         have nh42 := nzQ h42
         try have hr43 := mpQ nh42
         refine condC_intro (fun h44 => ?_) (fun h44 => ?_)
         ·rw [if_pos h44] at hM
          refine spQA (And.intro he4 h44) ?_
          have nh44 := nzQ h44
          try have hr45 := mpQ nh44
          subst hM
          exact retC_view (lfQA (And.intro he4 (And.intro h1 (And.intro h31 (And.intro h33 (And.intro h35 (And.intro h37 (And.intro h40 (And.intro h42 h44)))))))))
         ·rw [if_neg (ne_true h44)] at hM
          refine spQA (And.intro he4 h44) ?_
          have nh44 := nzQ h44
          try have hr46 := mpQ nh44
          refine condC_intro (fun h47 => ?_) (fun h47 => ?_)
          ·rw [if_pos h47] at hM
           refine spQA (And.intro he4 h47) ?_
           have nh47 := nzQ h47
           try have hr48 := mpQ nh47
           refine ct_draw 119 9 [57, 58, 59, 60, 61, 62, 63, 64] [] ([[], [], [1], [1, 2], [1, 2, 3], [0, 1, 2, 3, 4], [], [6], [0, 1, 2, 3, 4, 5]] ++ [List.range 9, List.range 10]) [(8, 0)] (by kernel_rfl) (by exact alQ) ?_
           refine spQA he4 ?_
           refine hbindC_intro omQ ?_
           refine spQA he4 ?_
           have hM0 := hM; clear hM; obtain ⟨x49, hx50, hM⟩ := letk_opn hM0; clear hM0
           have hcx49 := cmU hx50
           refine hcallC_give hcx49 (clQA he4) (clQA he4) ?_
           refine spQA he4 ?_
           have hq51 := value_fact hx50 (isB_sl (isB_sl hp2))
           replace hq51 := nzQ hq51
           have hF := (And.intro h1 (And.intro he4 (And.intro h31 (And.intro h33 (And.intro h35 (And.intro h37 (And.intro h40 (And.intro h42 (And.intro h44 h47)))))))))
           exact auQ
          ·rw [if_neg (ne_true h47)] at hM
           refine spQA (And.intro he4 h47) ?_
           have nh47 := nzQ h47
           try have hr52 := mpQ nh47
           exact cut_intro _ sbQ sbQ (hcut5 _ ⟨(), rfl, ⟨omQ, omQ, omQ, omQ⟩, hM⟩)
        ·rw [if_pos h42] at hM
         refine spQA (And.intro he4 h42) ?_
         have nh42 := nzQ h42
         try have hr53 := mpQ nh42
         subst hM
         exact retC_view (lfQA (And.intro he4 (And.intro h1 (And.intro h31 (And.intro h33 (And.intro h35 (And.intro h37 (And.intro h40 h42))))))))
       ·rw [if_neg (ne_true h40)] at hM
        refine spQA (And.intro he4 h40) ?_
        have nh40 := nzQ h40
        try have hr54 := mpQ nh40
        refine condC_intro (fun h55 => ?_) (fun h55 => ?_)
        ·rw [if_pos h55] at hM
         refine spQA (And.intro he4 h55) ?_
         have nh55 := nzQ h55
         try have hr56 := mpQ nh55
         subst hM
         exact retC_view (lfQA (And.intro he4 (And.intro h1 (And.intro h31 (And.intro h33 (And.intro h35 (And.intro h37 (And.intro h40 h55))))))))
        ·rw [if_neg (ne_true h55)] at hM
         refine spQA (And.intro he4 h55) ?_
         have nh55 := nzQ h55
         try have hr57 := mpQ nh55
         refine condC_intro (fun h58 => ?_) (fun h58 => ?_)
         ·rw [if_pos h58] at hM
          refine spQA (And.intro he4 h58) ?_
          have nh58 := nzQ h58
          try have hr59 := mpQ nh58
          refine ct_draw 119 9 [57, 58, 59, 60, 61, 62, 63, 64] [] ([[], [], [1], [1, 2], [1, 2, 3], [0, 1, 2, 3, 4], [], [6], [0, 1, 2, 3, 4, 5]] ++ [List.range 9, List.range 10]) [(8, 0)] (by kernel_rfl) (by exact alQ) ?_
          refine spQA he4 ?_
          refine hbindC_intro omQ ?_
          refine spQA he4 ?_
          have hM0 := hM; clear hM; obtain ⟨x60, hx61, hM⟩ := letk_opn hM0; clear hM0
          have hcx60 := cmU hx61
          refine hcallC_give hcx60 (clQA he4) (clQA he4) ?_
          refine spQA he4 ?_
          have hq62 := value_fact hx61 (isB_sl (isB_sl hp2))
          replace hq62 := nzQ hq62
          have hF := (And.intro h1 (And.intro he4 (And.intro h31 (And.intro h33 (And.intro h35 (And.intro h37 (And.intro h40 (And.intro h55 h58))))))))
          exact auQ
         ·rw [if_neg (ne_true h58)] at hM
          refine spQA (And.intro he4 h58) ?_
          have nh58 := nzQ h58
          try have hr63 := mpQ nh58
          exact cut_intro _ sbQ sbQ (hcut5 _ ⟨(), rfl, ⟨omQ, omQ, omQ, omQ⟩, hM⟩)
     ·rw [if_neg (ne_true h35)] at hM
      refine spQA (And.intro he4 h35) ?_
      have nh35 := nzQ h35
      try have hr64 := mpQ nh35
      refine guardC_t (fun h65 => ?_) (fun h65 => ?_)
      ·rw [if_pos h65] at hM
       refine spQA (And.intro he4 h65) ?_
       have nh65 := nzQ h65
       try have hr66 := mpQ nh65
       refine guardC_f (fun h67 => ?_) (fun h67 => ?_)
       ·rw [if_neg (ne_true h67)] at hM
        refine spQA (And.intro he4 h67) ?_
        have nh67 := nzQ h67
        try have hr68 := mpQ nh67
        refine condC_intro (fun h69 => ?_) (fun h69 => ?_)
        ·rw [if_pos h69] at hM
         refine spQA (And.intro he4 h69) ?_
         have nh69 := nzQ h69
         try have hr70 := mpQ nh69
         subst hM
         exact retC_view (lfQA (And.intro he4 (And.intro h1 (And.intro h31 (And.intro h33 (And.intro h35 (And.intro h65 (And.intro h67 h69))))))))
        ·rw [if_neg (ne_true h69)] at hM
         refine spQA (And.intro he4 h69) ?_
         have nh69 := nzQ h69
         try have hr71 := mpQ nh69
         refine condC_intro (fun h72 => ?_) (fun h72 => ?_)
         ·rw [if_pos h72] at hM
          refine spQA (And.intro he4 h72) ?_
          have nh72 := nzQ h72
          try have hr73 := mpQ nh72
          refine ct_draw 119 9 [57, 58, 59, 60, 61, 62, 63, 64] [] ([[], [], [1], [1, 2], [1, 2, 3], [0, 1, 2, 3, 4], [], [6], [0, 1, 2, 3, 4, 5]] ++ [List.range 9, List.range 10]) [(8, 0)] (by kernel_rfl) (by exact alQ) ?_
          refine spQA he4 ?_
          refine hbindC_intro omQ ?_
          refine spQA he4 ?_
          have hM0 := hM; clear hM; obtain ⟨x74, hx75, hM⟩ := letk_opn hM0; clear hM0
          have hcx74 := cmU hx75
          refine hcallC_give hcx74 (clQA he4) (clQA he4) ?_
          refine spQA he4 ?_
          have hq76 := value_fact hx75 (isB_sl (isB_sl hp2))
          replace hq76 := nzQ hq76
          have hF := (And.intro h1 (And.intro he4 (And.intro h31 (And.intro h33 (And.intro h35 (And.intro h65 (And.intro h67 (And.intro h69 h72))))))))
          exact auQ
         ·rw [if_neg (ne_true h72)] at hM
          refine spQA (And.intro he4 h72) ?_
          have nh72 := nzQ h72
          try have hr77 := mpQ nh72
          exact cut_intro _ sbQ sbQ (hcut5 _ ⟨(), rfl, ⟨omQ, omQ, omQ, omQ⟩, hM⟩)
       ·rw [if_pos h67] at hM
        refine spQA (And.intro he4 h67) ?_
        have nh67 := nzQ h67
        try have hr78 := mpQ nh67
        subst hM
        exact retC_view (lfQA (And.intro he4 (And.intro h1 (And.intro h31 (And.intro h33 (And.intro h35 (And.intro h65 h67)))))))
      ·rw [if_neg (ne_true h65)] at hM
       refine spQA (And.intro he4 h65) ?_
       have nh65 := nzQ h65
       try have hr79 := mpQ nh65
       refine condC_intro (fun h80 => ?_) (fun h80 => ?_)
       ·rw [if_pos h80] at hM
        refine spQA (And.intro he4 h80) ?_
        have nh80 := nzQ h80
        try have hr81 := mpQ nh80
        subst hM
        exact retC_view (lfQA (And.intro he4 (And.intro h1 (And.intro h31 (And.intro h33 (And.intro h35 (And.intro h65 h80)))))))
       ·rw [if_neg (ne_true h80)] at hM
        refine spQA (And.intro he4 h80) ?_
        have nh80 := nzQ h80
        try have hr82 := mpQ nh80
        refine condC_intro (fun h83 => ?_) (fun h83 => ?_)
        ·rw [if_pos h83] at hM
         refine spQA (And.intro he4 h83) ?_
         have nh83 := nzQ h83
         try have hr84 := mpQ nh83
         refine ct_draw 119 9 [57, 58, 59, 60, 61, 62, 63, 64] [] ([[], [], [1], [1, 2], [1, 2, 3], [0, 1, 2, 3, 4], [], [6], [0, 1, 2, 3, 4, 5]] ++ [List.range 9, List.range 10]) [(8, 0)] (by kernel_rfl) (by exact alQ) ?_
         refine spQA he4 ?_
         refine hbindC_intro omQ ?_
         refine spQA he4 ?_
         have hM0 := hM; clear hM; obtain ⟨x85, hx86, hM⟩ := letk_opn hM0; clear hM0
         have hcx85 := cmU hx86
         refine hcallC_give hcx85 (clQA he4) (clQA he4) ?_
         refine spQA he4 ?_
         have hq87 := value_fact hx86 (isB_sl (isB_sl hp2))
         replace hq87 := nzQ hq87
         have hF := (And.intro h1 (And.intro he4 (And.intro h31 (And.intro h33 (And.intro h35 (And.intro h65 (And.intro h80 h83)))))))
         exact auQ
        ·rw [if_neg (ne_true h83)] at hM
         refine spQA (And.intro he4 h83) ?_
         have nh83 := nzQ h83
         try have hr88 := mpQ nh83
         exact cut_intro _ sbQ sbQ (hcut5 _ ⟨(), rfl, ⟨omQ, omQ, omQ, omQ⟩, hM⟩)
    ·rw [if_pos h33] at hM
     refine spQA (And.intro he4 h33) ?_
     have nh33 := nzQ h33
     try have hr89 := mpQ nh33
     subst hM
     exact retC_view (lfQA (And.intro he4 (And.intro h1 (And.intro h31 h33))))
   ·rw [if_pos h31] at hM
    refine spQA (And.intro he4 h31) ?_
    have nh31 := nzQ h31
    try have hr90 := mpQ nh31
    subst hM
    exact retC_view (lfQA (And.intro he4 (And.intro h1 h31)))
end Go.Proofs.YtcbdmoihobdjaaaDoor
namespace Go.Proofs.YtcbdmoihobdjaaaDoor
open Go.RowKit
theorem iter_eq {α β R : Type} {F : (α → R) → α → R} {G : (β → R) → β → R} {x : R} (Rel : α → β → Prop)
  (h : ∀ ag bg, (∀ a b, Rel a b → ag a = bg b) → ∀ a b, Rel a b → F ag a = G bg b) : ∀ (n : Nat) (a : α) (b : β), Rel a b → iter n F (fun _ => x) a = iter n G (fun _ => x) b
 | 0, a, b, _ => rfl
 | n + 1, a, b, hr => by
  rw [iter, iter]
  exact h _ _ (fun a b hr => iter_eq Rel h n a b hr) a b hr
theorem orI_comm (k : IntKind) (a b : Int) : orI k a b = orI k b a := by unfold orI; rw [BitVec.or_comm]
theorem right_eq (x : Int) {n : Int} (h : n ∈ [(2 : Int), 3, 6, 7, 11, 13, 17, 18, 19, 22, 25]) : digest_right x n = specieref06_right x n := by
 unfold digest_right math_bits_RotateLeft32 specieref06_right
 simp only [letk]
 rw [orI_comm]
 simp only [List.mem_cons, List.not_mem_nil, or_false] at h
 rcases h with rfl | rfl | rfl | rfl | rfl | rfl | rfl | rfl | rfl | rfl | rfl <;> rfl
theorem w32 (a : Int) : IntKind.wrap .u32 a = a % 4294967296 := by simp [IntKind.wrap, IntKind.bits, IntKind.signed]
theorem or_nat (a c : Nat) (hc : c < 256) : (BitVec.ofInt 32 (((a * 256 : Nat) : Int) % 4294967296) ||| BitVec.ofInt 32 (c : Int)).toNat = (a * 256) % 4294967296 + c := by
 have e1 : (BitVec.ofInt 32 (((a * 256 : Nat) : Int) % 4294967296)).toNat = (a % 16777216) <<< 8 := by
  rw [BitVec.toNat_ofInt, Nat.shiftLeft_eq]
  omega
 have e2 : (BitVec.ofInt 32 (c : Int)).toNat = c := by rw [BitVec.toNat_ofInt]; omega
 rw [BitVec.toNat_or, e1, e2, ← Nat.shiftLeft_add_eq_or_of_lt (show c < 2 ^ 8 by omega), Nat.shiftLeft_eq]
 omega
theorem or_shl8 {x c : Int} (hx : 0 ≤ x ∧ x ≤ 4294967295) (hc : 0 ≤ c ∧ c ≤ 255) : orI .u32 (shlI .u32 x 8) (convI .u32 c) = addI .u32 (mulI .u32 x 256) (convI .u32 c) := by
 obtain ⟨a, rfl⟩ := Int.eq_ofNat_of_zero_le hx.1
 obtain ⟨d, rfl⟩ := Int.eq_ofNat_of_zero_le hc.1
 have h1 : shlI .u32 (a : Int) 8 = ((a * 256 : Nat) : Int) % 4294967296 := by
  unfold shlI; rw [w32]; simp [IntKind.bits]
 have h2 : convI .u32 (d : Int) = (d : Int) := by unfold convI; rw [w32]; omega
 have h3 : mulI .u32 (a : Int) 256 = ((a * 256 : Nat) : Int) % 4294967296 := by
  unfold mulI; rw [w32]; simp
 have h4 := or_nat a d (by omega)
 rw [h1, h2, h3]
 have key : orI .u32 (((a * 256 : Nat) : Int) % 4294967296) (d : Int) = IntKind.wrap .u32 ((BitVec.ofInt 32 (((a * 256 : Nat) : Int) % 4294967296) ||| BitVec.ofInt 32 (d : Int)).toNat : Int) := rfl
 rw [key, h4]
 unfold addI
 rw [w32, w32]
 omega
theorem st_app {q : List Int} {z : List Int} {a x : Int} {t : Int} (h : (q.length : Int) = t) : st (q ++ a :: z) t x = q ++ x :: z := by
 unfold st
 rw [show t.toNat = q.length by omega]
 simp
theorem gt_app {q z : List Int} {t : Int} (h : 0 ≤ t) (h1 : t < (q.length : Int)) : gt (q ++ z) t = gt q t := by
 unfold gt
 have : t.toNat < q.length := by omega
 simp [List.getD_eq_getElem?_getD, List.getElem?_append_left this]
theorem gt_app0 {q z : List Int} {a t : Int} (h : (q.length : Int) = t) : gt (q ++ a :: z) t = a := by
 unfold gt
 rw [show t.toNat = q.length by omega]
 simp [List.getD_eq_getElem?_getD]
theorem arr64 {l : List Int} (h : l.length = 64) : arrN 64 l = l := arrN_full h
theorem sl_get {b : List Int} {i k : Int} (h0 : 0 ≤ i) (hk : 0 ≤ k) (hk4 : k < 4) (h : i + 4 ≤ (b.length : Int)) : gt (sl b i (i + 4)) k = gt b (i + k) := by
 unfold gt sl
 have e : (i + k).toNat = i.toNat + k.toNat := by omega
 simp only [List.getD_eq_getElem?_getD]
 rw [List.getElem?_take_of_lt (by omega), List.getElem?_drop, e]
theorem gt_isB {b : List Int} (hb : ∀ x ∈ b, 0 ≤ x ∧ x ≤ 255) (i : Int) : 0 ≤ gt b i ∧ gt b i ≤ 255 := by
 unfold gt
 rw [List.getD_eq_getElem?_getD]
 cases h : b[i.toNat]? with
 | none => exact ⟨by decide, by decide⟩
 | some x => exact hb x (List.mem_of_getElem? h)
theorem words_eq {b : List Int} (hl : b.length = 64) (hb : ∀ x ∈ b, 0 ≤ x ∧ x ≤ 255) : digest_schedule b = specieref06_words b := by
 unfold digest_schedule specieref06_words
 refine iter_eq (fun (a : Int × List Int) (c : Int × List Int) => a.1 = c.1 ∧ 0 ≤ a.1 ∧ a.1 ≤ 16 ∧ (c.2.length : Int) = a.1 ∧ a.2 = c.2 ++ List.replicate (64 - a.1).toNat 0) ?_ _ _ _ ⟨rfl, by decide, by decide, rfl, rfl⟩
 rintro ag bg hag ⟨i, w⟩ ⟨i', q⟩ ⟨e1, h0, h1, h2, h3⟩
 simp only at e1 h0 h1 h2 h3
 subst e1
 subst h3
 by_cases hi : i < 16
 ·simp only [hi, decide_true, if_true]
  have hz : List.replicate (64 - i).toNat (0 : Int) = 0 :: List.replicate (63 - i).toNat 0 := by
   rw [show (64 - i).toNat = (63 - i).toNat + 1 by omega]; rfl
  have hsl : ((sl b (4 * i) (4 * i + 4)).length : Int) = 4 := by rw [sl_len]; omega
  rw [hsl, hz]
  refine iter_eq (fun (a : Int × List Int) (c : Int × Int) => a.1 = c.2 ∧ 0 ≤ a.1 ∧ a.1 ≤ 4 ∧ (0 ≤ c.1 ∧ c.1 ≤ 4294967295) ∧ a.2 = q ++ c.1 :: List.replicate (63 - i).toNat 0) ?_ _ _ _ ⟨rfl, show (0 : Int) ≤ 0 by decide, show (0 : Int) ≤ 4 by decide, show (0 : Int) ≤ 0 ∧ (0 : Int) ≤ 4294967295 by decide, rfl⟩
  rintro ag2 bg2 hag2 ⟨k, w⟩ ⟨x, k'⟩ ⟨e1, g0, g1, g2, g3⟩
  simp only at e1 g0 g1 g2 g3
  subst e1
  subst g3
  by_cases hk : k < 4
  ·simp only [hk, decide_true, if_true]
   have hlen : (q ++ x :: List.replicate (63 - i).toNat 0).length = 64 := by simp; omega
   have hg := gt_isB hb (4 * i + k)
   rw [gt_app0 h2, sl_get (by omega) g0 hk (by omega), arr64 hlen, st_app h2, arr64 (by simp; omega), or_shl8 g2 hg]
   refine hag2 _ _ ⟨rfl, by omega, by omega, ?_, rfl⟩
   have := rng_addI .u32 (mulI .u32 x 256) (convI .u32 (gt b (4 * i + k)))
   rw [rng_u32] at this
   exact this
  ·simp only [hk, decide_false, Bool.false_eq_true, if_false]
   refine hag _ _ ⟨rfl, by omega, by omega, by simp; omega, ?_⟩
   rw [show (64 - (i + 1)).toNat = (63 - i).toNat by omega]
   simp
 ·simp only [hi, decide_false, Bool.false_eq_true, if_false]
  have e16 : i = 16 := by omega
  subst e16
  refine iter_eq (fun (a : Int × List Int) (c : Int × List Int) => a.1 = c.1 ∧ 16 ≤ a.1 ∧ a.1 ≤ 64 ∧ (c.2.length : Int) = a.1 ∧ a.2 = c.2 ++ List.replicate (64 - a.1).toNat 0) ?_ _ _ _ ⟨rfl, show (16 : Int) ≤ 16 by decide, show (16 : Int) ≤ 64 by decide, h2, rfl⟩
  rintro ag2 bg2 hag2 ⟨t, w⟩ ⟨t', p⟩ ⟨e1, g0, g1, g2, g3⟩
  simp only at e1 g0 g1 g2 g3
  subst e1
  subst g3
  by_cases ht : t < 64
  ·simp only [ht, decide_true, if_true, letk]
   have hz : List.replicate (64 - t).toNat (0 : Int) = 0 :: List.replicate (63 - t).toNat 0 := by
    rw [show (64 - t).toNat = (63 - t).toNat + 1 by omega]; rfl
   rw [hz, gt_app (t := t - 15) (by omega) (by omega), gt_app (t := t - 2) (by omega) (by omega), gt_app (t := t - 16) (by omega) (by omega), gt_app (t := t - 7) (by omega) (by omega)]
   rw [right_eq _ (by decide), right_eq _ (by decide), right_eq _ (by decide), right_eq _ (by decide)]
   have hlen : ∀ y : Int, (p ++ y :: List.replicate (63 - t).toNat 0).length = 64 := fun y => by simp; omega
   rw [arr64 (hlen 0), st_app g2, arr64 (hlen _)]
   refine hag2 _ _ ⟨rfl, by omega, by omega, by simp; omega, ?_⟩
   rw [show (64 - (t + 1)).toNat = (63 - t).toNat by omega]
   simp
  ·simp only [ht, decide_false, Bool.false_eq_true, if_false]
   rw [show (64 - t).toNat = 0 by omega]
   simp
end Go.Proofs.YtcbdmoihobdjaaaDoor
namespace Go.Proofs.YtcbdmoihobdjaaaDoor
open Go.RowKit
theorem iter_rel {α β R S : Type} {F : (α → R) → α → R} {G : (β → S) → β → S} {d : α → R} {e : β → S} (Rel : α → β → Prop) (Q : R → S → Prop) (mu : α → Nat)
  (h : ∀ ag bg a b, Rel a b → (∀ a' b', Rel a' b' → mu a' < mu a → Q (ag a') (bg b')) → Q (F ag a) (G bg b)) : ∀ (n m : Nat) (a : α) (b : β), Rel a b → mu a < n → mu a < m → Q (iter n F d a) (iter m G e b)
 | 0, _, _, _, _, h1, _ => absurd h1 (Nat.not_lt_zero _)
 | _, 0, _, _, _, _, h1 => absurd h1 (Nat.not_lt_zero _)
 | n + 1, m + 1, a, b, hr, h1, h2 => by
  rw [iter, iter]
  exact h _ _ a b hr fun a' b' hr' hm => iter_rel Rel Q mu h n m a' b' hr' (by omega) (by omega)
def rnd (K : List Int → List Int) (h w : List Int) : List Int := (iter (((64 : Int) - 0).toNat + 1) (fun (ag17 : (Int × List Int) → (List Int)) (p17 : Int × List Int) => (if (decide (p17.1 < 64)) then (letk (specieref06_right (gt p17.2 4) 6) (fun (x22 : Int) => (letk (specieref06_right (gt p17.2 4) 11) (fun (x24 : Int) => (letk (specieref06_right (gt p17.2 4) 25) (fun (x26 : Int) => (letk (specieref06_right (gt p17.2 0) 2) (fun (x33 : Int) => (letk (specieref06_right (gt p17.2 0) 13) (fun (x35 : Int) => (letk (specieref06_right (gt p17.2 0) 22) (fun (x37 : Int) => (ag17 ((p17.1 + 1), ([(addI .u32 (addI .u32 (addI .u32 (addI .u32 (addI .u32 (gt p17.2 7) (xorI .u32 (xorI .u32 x22 x24) x26)) (xorI .u32 (andI .u32 (gt p17.2 4) (gt p17.2 5)) (andI .u32 (notI .u32 (gt p17.2 4)) (gt p17.2 6)))) (gt specieref06_constants p17.1)) (gt w p17.1)) (addI .u32 (xorI .u32 (xorI .u32 x33 x35) x37) (xorI .u32 (xorI .u32 (andI .u32 (gt p17.2 0) (gt p17.2 1)) (andI .u32 (gt p17.2 0) (gt p17.2 2))) (andI .u32 (gt p17.2 1) (gt p17.2 2))))), (gt p17.2 0), (gt p17.2 1), (gt p17.2 2), (addI .u32 (gt p17.2 3) (addI .u32 (addI .u32 (addI .u32 (addI .u32 (gt p17.2 7) (xorI .u32 (xorI .u32 x22 x24) x26)) (xorI .u32 (andI .u32 (gt p17.2 4) (gt p17.2 5)) (andI .u32 (notI .u32 (gt p17.2 4)) (gt p17.2 6)))) (gt specieref06_constants p17.1)) (gt w p17.1))), (gt p17.2 4), (gt p17.2 5), (gt p17.2 6)] : List Int))))))))))))))) else (iter (((8 : Int) - 0).toNat + 1) (fun (ag43 : (Int × List Int) → (List Int)) (p43 : Int × List Int) => (if (decide (p43.1 < 8)) then (ag43 ((p43.1 + 1), (st p43.2 p43.1 (addI .u32 (gt p43.2 p43.1) (gt p17.2 p43.1))))) else (K p43.2))) (fun _ => default) (0, h)))) (fun _ => default) (0, (([] : List Int) ++ h)))
theorem list8 {l : List Int} (h : l.length = 8) : l = [gt l 0, gt l 1, gt l 2, gt l 3, gt l 4, gt l 5, gt l 6, gt l 7] := by
 match l, h with
 | [a, b, c, d, e, f, g, i], _ => rfl
theorem arr8 {l : List Int} (h : l.length = 8) : arrN 8 l = l := arrN_full h
theorem kg_eq : kg_1 = specieref06_constants := rfl
theorem rnd_eq (K : List Int → List Int) {h b : List Int} (hl : h.length = 8) : rnd K h (digest_schedule b) = K (digest_mix h b) := by
 unfold rnd digest_mix
 simp only [letk]
 generalize digest_schedule b = w
 refine iter_rel (fun (a : Int × Int × Int × Int × Int × Int × Int × Int × Int) (c : Int × List Int) => a.2.2.2.2.2.2.2.2 = c.1 ∧ 0 ≤ c.1 ∧ c.1 ≤ 64 ∧ c.2 = [a.1, a.2.1, a.2.2.1, a.2.2.2.1, a.2.2.2.2.1, a.2.2.2.2.2.1, a.2.2.2.2.2.2.1, a.2.2.2.2.2.2.2.1]) (fun r s => s = K r) (fun a => (64 - a.2.2.2.2.2.2.2.2).toNat) ?_ _ _ _ _ ⟨rfl, show (0 : Int) ≤ 0 by decide, show (0 : Int) ≤ 64 by decide, list8 hl⟩ (show ((64 : Int) - 0).toNat < ((64 : Int) - 0).toNat + 1 by decide) (show ((64 : Int) - 0).toNat < ((64 : Int) - 0).toNat + 1 by decide)
 rintro ag bg ⟨a0, a1, a2, a3, a4, a5, a6, a7, t⟩ ⟨t', v⟩ ⟨e1, g0, g1, g2⟩ hag
 simp only at e1 g0 g1 g2 hag
 subst e1
 subst g2
 by_cases ht : t < 64
 ·simp only [ht, decide_true, if_true]
  rw [right_eq _ (by decide), right_eq _ (by decide), right_eq _ (by decide), right_eq _ (by decide), right_eq _ (by decide), right_eq _ (by decide), kg_eq]
  refine hag _ _ ⟨rfl, by omega, by omega, ?_⟩ (by simp only; omega)
  rfl
 ·simp only [ht, decide_false, Bool.false_eq_true, if_false]
  refine iter_rel (fun (a : Int × List Int) (c : Int × List Int) => a = c ∧ 0 ≤ a.1 ∧ a.1 ≤ 8 ∧ a.2.length = 8) (fun r s => s = K r) (fun a => (8 - a.1).toNat) ?_ _ _ _ _ ⟨rfl, show (0 : Int) ≤ 0 by decide, show (0 : Int) ≤ 8 by decide, hl⟩ (show ((8 : Int) - 0).toNat < ((8 : Int) - 0).toNat + 1 by decide) (show ((8 : Int) - 0).toNat < ((8 : Int) - 0).toNat + 1 by decide)
  rintro ag2 bg2 ⟨i, s⟩ ⟨i', s'⟩ ⟨e1, k0, k1, k2⟩ hag2
  cases e1
  simp only at k0 k1 k2 hag2
  by_cases hi : i < 8
  ·simp only [hi, decide_true, if_true]
   rw [arr8 k2, arr8 (by rw [st_len]; exact k2)]
   exact hag2 _ _ ⟨rfl, by simp only; omega, by simp only; omega, by simp only [st_len]; exact k2⟩ (by simp only; omega)
  ·simp only [hi, decide_false, Bool.false_eq_true, if_false]
end Go.Proofs.YtcbdmoihobdjaaaDoor
namespace Go.Proofs.YtcbdmoihobdjaaaDoor
open Go.RowKit
theorem isB_rep (n : Nat) : isB (List.replicate n 0) := fun x hx => by
 rw [(List.mem_replicate.1 hx).2]; decide
theorem count_eq (n : Int) : digest_count n = specieref06_bytes n := by kernel_rfl
theorem bytes_isB (n : Int) : isB (specieref06_bytes n) := by
 rw [bytes_list]
 have key : ∀ a, 0 ≤ convI .u8 a ∧ convI .u8 a ≤ 255 := fun a => by have := rng_convI .u8 a; rwa [rng_u8] at this
 intro x hx
 simp only [List.mem_cons, List.not_mem_nil, or_false] at hx
 rcases hx with rfl | rfl | rfl | rfl | rfl | rfl | rfl | rfl <;> exact key _
theorem mul8 {n : Nat} (h : n ≤ 1000000000) : mulI .u64 8 (convI .u64 (n : Int)) = mulI .i64 8 (n : Int) := by
 unfold mulI convI
 rw [w64, w64, IntKind.wrap_i64]
 omega
theorem padded_isB {b : List Int} (hb : isB b) : isB (specieref06_padded b) := by
 rw [padded_eq]
 exact isB_app (isB_app (isB_app hb (fun x hx => by simp at hx; subst hx; decide)) (isB_rep _)) (bytes_isB _)
theorem mix_len {h b : List Int} (hl : h.length = 8) : (digest_mix h b).length = 8 := by
 unfold digest_mix
 simp only [letk]
 generalize digest_schedule b = w
 refine iter_inv (fun (a : Int × Int × Int × Int × Int × Int × Int × Int × Int) => a.2.2.2.2.2.2.2.2 ≤ 64) (fun r : List Int => r.length = 8) (fun a => (64 - a.2.2.2.2.2.2.2.2).toNat) ?_ _ _ (show (0 : Int) ≤ 64 by decide) (show ((64 : Int) - 0).toNat < ((64 : Int) - 0).toNat + 1 by decide)
 rintro ag ⟨a0, a1, a2, a3, a4, a5, a6, a7, t⟩ g0 hag
 simp only at g0 hag
 by_cases ht : t < 64
 ·simp only [ht, decide_true, if_true]
  exact hag _ (by simp only; omega) (by simp only; omega)
 ·simp only [ht, decide_false, Bool.false_eq_true, if_false]
  refine iter_inv (fun (a : Int × List Int) => a.2.length = 8) (fun r : List Int => r.length = 8) (fun a => (8 - a.1).toNat) ?_ _ _ hl (show ((8 : Int) - 0).toNat < ((8 : Int) - 0).toNat + 1 by decide)
  rintro ag2 ⟨i, s⟩ k0 hag2
  simp only at k0 hag2
  by_cases hi : i < 8
  ·simp only [hi, decide_true, if_true]
   exact hag2 _ arrN_len (by simp only; omega)
  ·simp only [hi, decide_false, Bool.false_eq_true, if_false]
   exact k0
theorem sl_drop {l : List Int} {n : Nat} : sl (l.drop n) 0 64 = sl l (n : Int) ((n : Int) + 64) := by
 unfold sl
 rw [show ((n : Int) + 64).toNat - (n : Int).toNat = 64 by omega]
 simp
theorem sl_rest {l : List Int} {n : Nat} : sl (l.drop n) 64 ((l.drop n).length : Int) = l.drop (n + 64) := by
 unfold sl
 rw [show (64 : Int).toNat = 64 from rfl, List.drop_drop, List.take_of_length_le (by simp; omega)]
theorem sum_eq {b : List Int} (hb : isB b) (hl : b.length ≤ 1000000000) : digest_Sum b = specieref06_Sum b := by
 unfold digest_Sum specieref06_Sum
 simp only [letk, bytes_Clone]
 refine (pad_run (fun ag p => rfl)).trans ?_
 have hX := padded_isB hb
 have hX64 := padded_len b
 have e : (b ++ [128]) ++ List.replicate ((56 - ((b ++ [(128 : Int)]).length : Int)) % 64).toNat 0 ++ digest_count (mulI .u64 8 (convI .u64 (b.length : Int))) = specieref06_padded b := by
  rw [padded_eq, count_eq, mul8 hl]; rfl
 simp only [e]
 generalize specieref06_padded b = X at hX hX64
 refine iter_rel (fun (a : List Int × List Int) (c : Int × List Int) => ∃ n : Nat, c.1 = (n : Int) ∧ a.1 = X.drop n ∧ a.2 = c.2 ∧ c.2.length = 8 ∧ n ≤ X.length ∧ n % 64 = 0) (fun r s => r = s) (fun a => a.1.length) ?_ _ _ _ _ ⟨0, rfl, rfl, rfl, rfl, Nat.zero_le _, rfl⟩ (Nat.lt_succ_self _) (show X.length < ((X.length : Int) - 0).toNat + 1 by omega)
 rintro ag bg ⟨r, s⟩ ⟨at', s'⟩ ⟨n, rfl, rfl, rfl, g1, g2, g3⟩ hag
 simp only at g1 hag
 by_cases hn : n < X.length
 ·have c1 : ((X.drop n).length : Int) > 0 := by rw [List.length_drop]; omega
  have c2 : (n : Int) < (X.length : Int) := by omega
  have hlen : (sl X (n : Int) ((n : Int) + 64)).length = 64 := by rw [sl_len]; omega
  simp only [c1, c2, decide_true, if_true]
  rw [← words_eq hlen (isB_sl hX), sl_drop, sl_rest]
  have hrel : ∃ k : Nat, ((n : Int) + 64) = (k : Int) ∧ X.drop (n + 64) = X.drop k ∧ k ≤ X.length ∧ k % 64 = 0 := by
   generalize hk : n + 64 = k
   exact ⟨k, by omega, rfl, by omega, by omega⟩
  obtain ⟨k, k1, k2, k3, k4⟩ := hrel
  have hmu : (X.drop (n + 64)).length < (X.drop n).length := by rw [List.length_drop, List.length_drop]; omega
  have hm := mix_len (b := sl X (n : Int) ((n : Int) + 64)) g1
  have h1 := hag (X.drop (n + 64), digest_mix s (sl X (n : Int) ((n : Int) + 64))) ((n : Int) + 64, digest_mix s (sl X (n : Int) ((n : Int) + 64)))
  simp only at h1
  have h2 := h1 ⟨k, k1, k2, trivial, hm, k3, k4⟩ hmu
  refine Eq.trans h2 ?_
  exact (rnd_eq (fun z => bg ((n : Int) + 64, z)) g1).symm
 ·have c1 : ¬ ((X.drop n).length : Int) > 0 := by rw [List.length_drop]; omega
  have c2 : ¬ (n : Int) < (X.length : Int) := by omega
  simp only [c1, c2, decide_false, Bool.false_eq_true, if_false]
  show (_ : List Int) = _
  kernel_rfl
end Go.Proofs.YtcbdmoihobdjaaaDoor
namespace Go.Proofs.YtcbdmoihobdjaaaDoor
open Go.RowKit
theorem arr_range (h : List Int) : arrN 32 h = (List.range 32).map fun k : Nat => gt h (k : Int) := by kernel_rfl
theorem isB_arr {l : List Int} (h : isB l) : isB (arrN 32 l) := by
 rw [arr_range]
 intro x hx
 obtain ⟨k, _, rfl⟩ := List.mem_map.1 hx
 exact gt_isB h _
theorem isB_nat8 (t : List UInt8) : isB (nat8 t) := fun x hx => by
 obtain ⟨b, _, rfl⟩ := List.mem_map.1 hx
 have := UInt8.toNat_lt b
 omega
theorem isB_st {l : List Int} {i x : Int} (h : isB l) (hx : 0 ≤ x ∧ x ≤ 255) : isB (st l i x) := fun y hy => by
 rcases List.mem_or_eq_of_mem_set hy with h1 | h1
 ·exact h y h1
 ·rw [h1]; exact hx
theorem rsum_ok (b : List Int) : (specieref06_Sum b).length = 32 ∧ isB (specieref06_Sum b) := by
 have key : ∀ a, 0 ≤ convI .u8 a ∧ convI .u8 a ≤ 255 := fun a => by have := rng_convI .u8 a; rwa [rng_u8] at this
 unfold specieref06_Sum
 simp only [letk]
 generalize specieref06_padded b = X
 refine iter_inv (fun (_ : Int × List Int) => True) (fun r : List Int => r.length = 32 ∧ isB r) (fun a => ((X.length : Int) - a.1).toNat) ?_ _ _ trivial (show ((X.length : Int) - 0).toNat < ((X.length : Int) - 0).toNat + 1 by omega)
 rintro ag ⟨n, s⟩ _ hag
 simp only at hag
 by_cases hn : n < (X.length : Int)
 ·simp only [hn, decide_true, if_true]
  refine iter_inv (fun (_ : Int × List Int) => True) (fun r : List Int => r.length = 32 ∧ isB r) (fun a => (64 - a.1).toNat) ?_ _ _ trivial (show ((64 : Int) - 0).toNat < ((64 : Int) - 0).toNat + 1 by decide)
  rintro ag2 ⟨t, v⟩ _ hag2
  simp only at hag2
  by_cases ht : t < 64
  ·simp only [ht, decide_true, if_true]
   exact hag2 _ trivial (by simp only; omega)
  ·simp only [ht, decide_false, Bool.false_eq_true, if_false]
   refine iter_inv (fun (_ : Int × List Int) => True) (fun r : List Int => r.length = 32 ∧ isB r) (fun a => (8 - a.1).toNat) ?_ _ _ trivial (show ((8 : Int) - 0).toNat < ((8 : Int) - 0).toNat + 1 by decide)
   rintro ag3 ⟨i, h⟩ _ hag3
   simp only at hag3
   by_cases hi : i < 8
   ·simp only [hi, decide_true, if_true]
    exact hag3 _ trivial (by simp only; omega)
   ·simp only [hi, decide_false, Bool.false_eq_true, if_false]
    exact hag _ trivial (by simp only; omega)
 ·simp only [hn, decide_false, Bool.false_eq_true, if_false]
  refine iter_inv (fun (a : Int × List Int) => a.2.length = 32 ∧ isB a.2) (fun r : List Int => r.length = 32 ∧ isB r) (fun a => (32 - a.1).toNat) ?_ _ _ ⟨rfl, isB_rep 32⟩ (show ((32 : Int) - 0).toNat < ((32 : Int) - 0).toNat + 1 by decide)
  rintro ag2 ⟨t, v⟩ hv hag2
  simp only at hv hag2
  by_cases ht : t < 32
  ·simp only [ht, decide_true, if_true]
   exact hag2 _ ⟨arrN_len, isB_arr (isB_st (isB_arr hv.2) (key _))⟩ (by simp only; omega)
  ·simp only [ht, decide_false, Bool.false_eq_true, if_false]
   exact hv
theorem join_eq (b h : List Int) : specieref06_Join b h = b ++ arrN 32 h := by
 rw [arr_range]
 unfold specieref06_Join
 refine iter_inv (fun (a : Int × List Int) => ∃ k : Nat, a.1 = (k : Int) ∧ k ≤ 32 ∧ a.2 = b ++ (List.range k).map fun j : Nat => gt h (j : Int)) (fun r : List Int => r = b ++ (List.range 32).map fun k : Nat => gt h (k : Int)) (fun a => (32 - a.1).toNat) ?_ _ _ ⟨0, rfl, by decide, by simp⟩ (show ((32 : Int) - 0).toNat < ((32 : Int) - 0).toNat + 1 by decide)
 rintro ag ⟨i, q⟩ ⟨k, e1, e2, e3⟩ hag
 simp only at e1 e3 hag
 subst e1
 subst e3
 by_cases hi : k < 32
 ·have : (k : Int) < 32 := by omega
  simp only [this, decide_true, if_true]
  exact hag _ ⟨k + 1, rfl, hi, by rw [List.range_succ]; simp⟩ (by simp only; omega)
 ·have : ¬ (k : Int) < 32 := by omega
  have e : k = 32 := by omega
  simp only [this, decide_false, Bool.false_eq_true, if_false]
  rw [e]
theorem tagged_eq {tag : List UInt8} {b : List Int} (h1 : 1 ≤ tag.length) (h2 : tag.length ≤ 100) (hb : isB b) (hl : b.length ≤ 900000000) : digest_Tagged tag b = (specieref06_Tagged tag b, 0) := by
 unfold digest_Tagged specieref06_Tagged
 have c1 : ¬ (tag.length : Int) < 1 := by omega
 have c2 : ¬ (tag.length : Int) > 100 := by omega
 simp only [c1, c2, decide_false, Bool.false_eq_true, if_false, letk, bytes_Clone, join_eq, List.nil_append]
 have e1 := sum_eq (isB_nat8 tag) (by rw [nat8_len]; omega)
 obtain ⟨l1, l2⟩ := rsum_ok (nat8 tag)
 rw [e1]
 generalize specieref06_Sum (nat8 tag) = t at l1 l2
 have e2 : arrN 32 t = t := arrN_full l1
 rw [e2, sum_eq (isB_app (isB_app l2 l2) hb) (by simp only [List.length_append]; omega)]
end Go.Proofs.YtcbdmoihobdjaaaDoor
namespace Go.Proofs.YtcbdmoihobdjaaaDoor
open Go.RowKit
theorem coin_awake : specielaw31_awake = true := by decide +kernel
mutual
theorem sameM_refl : ∀ (a : S_api_Item), sameM a a = true
 | ⟨k, n, x, l⟩ => by simp [sameM, sameL_refl l]
theorem sameL_refl : ∀ (l : List S_api_Item), sameL l l = true
 | [] => by simp [sameL]
 | x :: l => by simp [sameL, sameM_refl x, sameL_refl l]
end
theorem within_coin (c : S_api_Coin) : withinM (coinI c) 8 = true := by
 simp [coinI, listI, intsI, intI, bytI, withinM, withinL]
theorem arr_gt {x y : List Int} (h : arrN 32 x = arrN 32 y) : ∀ i : Int, 0 ≤ i → i.toNat < 32 → gt x i = gt y i := fun i h0 h1 => by
 rw [← gt_arrN h0 h1, h, gt_arrN h0 h1]
theorem foldr_and {p : Nat → Bool} {R : Bool} : ∀ l : List Nat, l.foldr (fun k b => p k && b) R = (l.all p && R)
 | [] => rfl
 | a :: l => by rw [List.foldr_cons, foldr_and l, List.all_cons, Bool.and_assoc]
theorem q_coin_fold (c d : S_api_Coin) : q_api_Coin c d = (c.Bank == d.Bank && (c.Epoch == d.Epoch && (c.Denom == d.Denom && (c.Depth == d.Depth && (c.A == d.A && (List.range 32).foldr (fun (k : Nat) b => (gt c.Root (k : Int) == gt d.Root (k : Int)) && b) (c.Sign.Z == d.Sign.Z && (c.Sign.A == d.Sign.A && (c.Sign.B == d.Sign.B && c.Sign.R == d.Sign.R)))))))) := by kernel_rfl
theorem arr_all (x y : List Int) : ((List.range 32).all fun k : Nat => gt x (k : Int) == gt y (k : Int)) = true ↔ arrN 32 x = arrN 32 y := by
 rw [List.all_eq_true]
 constructor
 ·intro h
  rw [arr_range, arr_range]
  exact List.map_congr_left fun k hk => by simpa using h k hk
 ·intro h k hk
  have hk' := List.mem_range.1 hk
  have := arr_gt h (k : Int) (by omega) (by omega)
  simpa using this
theorem q_coin_iff (c d : S_api_Coin) : q_api_Coin c d = true ↔ coinI c = coinI d := by
 rw [q_coin_fold, foldr_and]
 simp only [Bool.and_eq_true, beq_iff_eq, arr_all]
 simp only [coinI, listI, intsI, intI, bytI, S_api_Item.mk.injEq, List.cons.injEq, List.map_cons, List.map_nil, true_and, and_true, and_assoc]
theorem q_arr_refl (x : List Int) : q_arr23 x x = true := by simp [q_arr23]
end Go.Proofs.YtcbdmoihobdjaaaDoor
namespace Go.Proofs.YtcbdmoihobdjaaaDoor
open Go.RowKit
theorem q_coin_refl (c : S_api_Coin) : q_api_Coin c c = true := (q_coin_iff c c).2 rfl
theorem coin_bad {i : S_api_Item} (hv : withinM i 8 = false) : coin_FromItem i = (z_api_Coin, 1) := by
 unfold coin_FromItem
 simp only [letk, valid_eq, hv, Bool.not_false, if_true]
theorem coin_err {i : S_api_Item} (hv : withinM i 8 = true) : (coin_FromItem i).2 = 0 ∨ coin_FromItem i = (z_api_Coin, 3) := by
 unfold coin_FromItem
 simp only [letk, valid_eq, hv, Bool.not_true, Bool.false_eq_true, if_false]
 repeat' split
 all_goals first | exact .inr rfl | exact .inl rfl
theorem encode_coin (c : S_api_Coin) : encode_Encode (coinI c) = (encI (coinI c), 0) := by
 have hl : (encI (coinI c)).length ≤ 900 := by
  have := encI_len (coinI c); have := hgt_coinI c; omega
 unfold encode_Encode
 simp only [letk, valid_eq, within_coin, Bool.not_true, Bool.false_eq_true, if_false]
 rcases writeM_enc (coinI c) [] 8 (within_coin c) with e | ⟨_, e2⟩
 ·rw [e]
  have : ¬ (([] ++ encI (coinI c)).length : Int) > 16384 := by rw [List.nil_append]; omega
  rw [if_neg (by simpa using this), List.nil_append]
 ·rw [List.nil_append] at e2; omega
def coinTag : List UInt8 := [115, 112, 101, 99, 105, 101, 47, 99, 111, 105, 110, 45, 105, 116, 101, 109]
theorem coin_digests {c : S_api_Coin} (hw : wfV (e_api_Coin c)) : coin_Digest c = specieref31_Digest c := by
 have hl : (encI (coinI c)).length ≤ 900 := by
  have := encI_len (coinI c); have := hgt_coinI c; omega
 have hr : specieref31_Digest c = specieref06_Tagged coinTag (encI (coinI c)) := by
  unfold specieref31_Digest
  refine letk_go fun x1 h1 => ?_
  refine letk_go fun x4 h4 => ?_
  refine letk_go fun x7 h7 => ?_
  rw [rcoin_eq] at h1
  rw [h7, h4, h1]; rfl
 rw [hr]
 unfold coin_Digest
 refine letk_go fun x1 h1 => ?_
 refine letk_go fun x4 h4 => ?_
 refine letk_go fun x7 h7 => ?_
 rw [coinItem_eq] at h1
 rw [h1, encode_coin] at h4
 have h8 : x4.1 = encI (coinI c) := by rw [h4]
 have h9 := tagged_eq (tag := coinTag) (b := encI (coinI c)) (by decide) (by decide) (encI_isB _ (ok_coin hw)) (by omega)
 rw [h8] at h7
 have h7' : x7 = digest_Tagged coinTag (encI (coinI c)) := h7
 rw [h7', h9]
theorem rvalid8 (i : S_api_Item) : specieref07_Valid i = withinM i 8 := by
 unfold specieref07_Valid
 simp only [letk, rvalidM]
 rfl
theorem specielaw31_CoinForms_true (c : S_api_Coin) (i : S_api_Item) (hw : wfL [e_api_Coin c, e_api_Item i]) : specielaw31_CoinForms c i = true := by
 simp only [wfL] at hw
 unfold specielaw31_CoinForms
 refine letk_go fun x1 h1 => ?_
 rw [coin_awake] at h1
 rw [if_neg (by rw [h1]; decide)]
 refine letk_go fun x6 h6 => ?_
 by_cases hc : decide (x6 > 100) = true
 ·rw [if_pos hc]
  refine letk_go fun x11 h11 => ?_
  rw [h11, coin_awake]
 rw [if_neg hc]
 refine letk_go fun x15 h15 => ?_
 refine letk_go fun x17 h17 => ?_
 refine letk_go fun x19 h19 => ?_
 rw [h15, h17, coinItem_eq, rcoin_eq, sameM_refl] at h19
 rw [if_neg (by rw [h19]; decide)]
 refine letk_go fun x23 h23 => ?_
 refine letk_go fun x25 h25 => ?_
 rw [if_neg (by rw [h23, h25, coin_digests hw.1, q_arr_refl]; decide)]
 refine letk_go fun x31 h31 => ?_
 refine letk_go fun x34 h34 => ?_
 rw [rvalid8] at h34
 cases hv : withinM i 8 with
 | false =>
  rw [if_pos (by rw [h34, hv]; decide), h31, coin_bad hv, if_pos (q_coin_refl _)]
  exact beq_self_eq_true (1 : Int)
 | true =>
  rw [if_neg (by rw [h34, hv]; decide)]
  refine letk_go fun x43 h43 => ?_
  rw [rCoin hv] at h43
  rcases coin_err hv with e | e
  ·rw [if_neg (by rw [h43]; simp only [e, decide_true]; decide), h43, h31, if_pos (q_coin_refl _)]
   rw [e]; exact beq_self_eq_true (0 : Int)
  ·rw [if_pos (by rw [h43]; simp only [e]; decide), h31, e, if_pos (q_coin_refl _)]
   exact beq_self_eq_true (3 : Int)
end Go.Proofs.YtcbdmoihobdjaaaDoor
