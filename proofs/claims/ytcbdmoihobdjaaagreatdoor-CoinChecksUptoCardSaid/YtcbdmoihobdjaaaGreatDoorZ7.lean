/- Texts of this proof, one after the other: U2, U3. -/
import Derived.Test.YtcbdmoihobdjaaaGreatDoorZ6
set_option linter.unusedVariables false
set_option linter.unusedSimpArgs false
namespace Go.Proofs.YtcbdmoihobdjaaaGreatDoor
open Go.RowKit
set_option linter.unusedSimpArgs false
set_option maxHeartbeats 2000000 in
set_option maxRecDepth 100000 in
theorem encode_Encode_ok   (i_ : S_api_Item) (hp0 : hgt i_ ≤ 500000000) : CM En (encode_Encode i_) 38 [.agg [.int .i64 i_.Kind, .int .i64 i_.N, .sl none 1 false (i_.B.map (V.int .u8)), .sl none 4 true (i_.L.map e_api_Item)]] (fun y => .tup [.sl none 1 false (y.1.map (V.int .u8)), .int .i64 y.2]) (fun _ => []) := by
 refine cmQ fun r hM => ?_
 rw [encode_Encode.eq_1] at hM
 refine enterV En_ok En_mo noJ Tryz.func38 rfl Tryz.ntmps38 (by kernel_rfl) fun hw => ct_start ?_
 refine spQ ?_
 replace hw := nzQ hw
 have hM0 := hM; clear hM; obtain ⟨x1, hx2, hM⟩ := letk_opn hM0; clear hM0
 have hcx1 := cmU hx2
 refine callC_give hcx1 clQ clQ (fun hw3 => ?_)
 replace hw3 := nzQ hw3
 refine spQ ?_
 refine condC_intro (fun h4 => ?_) (fun h4 => ?_)
 ·rw [if_pos h4] at hM
  refine spQA h4 ?_
  have nh4 := nzQ h4
  try have hr5 := mpQ nh4
  subst hM
  exact retC_view (lfQA h4)
 ·rw [if_neg (ne_true h4)] at hM
  refine spQA h4 ?_
  have nh4 := nzQ h4
  try have hr6 := mpQ nh4
  have hM0 := hM; clear hM; obtain ⟨x7, hx8, hM⟩ := letk_opn hM0; clear hM0
  have hcx7 := callIn_nil (pre := []) (post := [_]) (writeM_ok (some true) ([] : List Int) i_ (by (exact pfQ))) (by decide)
  rw [← hx8] at hcx7
  simp only [List.nil_append, List.cons_append] at hcx7
  refine callC_giveG hcx7 clQ (fun hw9 => ?_)
  replace hw9 := nzQ hw9
  refine spQ ?_
  have hF := h4
  exact auQ
set_option maxRecDepth 100000 in
theorem bytes_Clone_ok (z0 : Option Bool) (s : List Int) : CallOk En 111 [.sl z0 1 false (s.map (V.int .u8))] (.own 0) [.own 5 1 false none ((bytes_Clone s).map (V.int .u8))] := by
 show CallOk En 111 [.sl z0 1 false (s.map (V.int .u8))] (.own 0) [.own 5 1 false none (s.map (V.int .u8))]
 refine callOk_nil (pre := []) (post := []) (fun hl => ?_) ?_ z0
 ·have hl : s = [] := by cases s with | nil => rfl | cons a s => cases hl
  subst hl
  refine enterV En_ok En_mo noJ Tryz.func111 rfl Tryz.ntmps111 (by kernel_rfl) fun hw => ct_start ?_
  simp only [go_sem, rowV_eq, rowV_eq0, List.length_replicate, rep_len, Int.toNat_natCast, ↓reduceIte, Nat.reduceEqDiff, Nat.reduceAdd, Int.reduceAdd, Nat.reduceMul, Nat.reduceLeDiff, Nat.reduceLT, Int.reduceLE, Int.reduceLT, Int.reduceNeg, Int.reduceToNat, List.nil_append]
  exact retC_nil (by decide)
 ·refine enterV En_ok En_mo noJ Tryz.func111 rfl Tryz.ntmps111 (by kernel_rfl) fun hw => ct_start ?_
  simp only [go_sem, rowV_eq, rowV_eq0, List.length_replicate, rep_len, Int.toNat_natCast, ↓reduceIte, Nat.reduceEqDiff, Nat.reduceAdd, Int.reduceAdd, Nat.reduceMul, Nat.reduceLeDiff, Nat.reduceLT, Int.reduceLE, Int.reduceLT, Int.reduceNeg, Int.reduceToNat, List.nil_append]
  have hn : s.length ≤ 1073741824 := by have h := hw; simp only [wfL, wfV, List.nil_append, LEN_eq, List.length_map] at h; exact h.1.1
  refine bindC_intro (by first | omega | (simp only [List.length_map, List.length_nil, List.nil_append]; omega)) ?_
  refine spQ ?_
  refine retC_ownZ 0 rfl clQ
set_option maxHeartbeats 2000000 in
set_option maxRecDepth 100000 in
instance digest_count_ok   (n_ : Int)  : CM En (digest_count n_) 131 [.int .u64 n_] (fun y => .sl none 1 false (y.map (V.int .u8))) (fun _ => []) := by
 refine cmQ fun r hM => ?_
 rw [digest_count.eq_1] at hM
 refine enterV En_ok En_mo noJ Tryz.func131 rfl Tryz.ntmps131 (by kernel_rfl) fun hw => ct_start ?_
 refine spQ ?_
 replace hw := nzQ hw
 have hM0 := hM; clear hM; obtain ⟨f1, d1, hf1, hd1, hM⟩ := iter_opn hM0; clear hM0
 refine ct_loop (fun n S => ∃ p : Int × List Int, S = (⟨[(0, .int .u64 n_), (3, .own 0), (7, .int .i64 (8 : Int)), (8, .int .i64 p.1)], [(0, .own 5 1 false none (p.2.map (V.int .u8)))], 1⟩ : St) ∧ ((0 ≤ p.1) ∧ (p.1 ≤ (8 : Int)) ∧ ((p.2).length = (([(0 : Int), (0 : Int), (0 : Int), (0 : Int), (0 : Int), (0 : Int), (0 : Int), (0 : Int)] : List Int)).length)) ∧ ((8 : Int) - p.1).toNat < n ∧ iter n f1 d1 p = r) (((8 : Int) - 0).toNat + 1) _ sbQ sbQ ⟨(0, ([(0 : Int), (0 : Int), (0 : Int), (0 : Int), (0 : Int), (0 : Int), (0 : Int), (0 : Int)] : List Int)), rfl, ⟨omQ, omQ, omQ⟩, (Nat.lt_succ_self _), hM⟩ ?_
 clear hM
 rintro n1 S ⟨p1, rfl, hfa1, hm1, hM⟩
 have hM0 := hM; clear hM; obtain ⟨ag1, hag1, hM⟩ := iter_step hM0 (by omega) hf1; clear hM0
 replace hfa1 := nzQ hfa1
 replace hm1 := nzQ hm1
 have ha1 : addI .i64 p1.1 1 = p1.1 + 1 := add_one omQ omQ
 refine spQA ha1 ?_
 refine condC_intro (fun h2 => ?_) (fun h2 => ?_)
 ·rw [if_pos h2] at hM
  refine spQA (And.intro ha1 h2) ?_
  have nh2 := nzQ h2
  try have hr3 := mpQ nh2
  obtain ⟨ha4, hbha4⟩ := mul_pos_ok (a := 8) (b := p1.1) 8 8 64 omQ omQ omQ omQ (by decide) (by decide)
  try simp only [ha4]
  have ha5 : subI .i64 56 (8 * p1.1) = (56 - (8 * p1.1)) := sub_ok omQ omQ
  try simp only [ha5]
  have hF := (And.intro ha1 (And.intro h2 ha5))
  exact auQ
 ·rw [if_neg (ne_true h2)] at hM
  refine spQA (And.intro ha1 h2) ?_
  have nh2 := nzQ h2
  try have hr7 := mpQ nh2
  subst hM
  exact retC_view (lfQA (And.intro ha1 h2))
set_option maxHeartbeats 2000000 in
set_option maxRecDepth 100000 in
instance math_bits_RotateLeft32_ok   (x_ : Int) (k_ : Int)  : CM En (math_bits_RotateLeft32 x_ k_) 161 [.int .u32 x_, .int .i64 k_] (fun y => .int .u32 y) (fun _ => []) := by
 refine cmQ fun r hM => ?_
 rw [math_bits_RotateLeft32.eq_1] at hM
 refine enterV En_ok En_mo noJ Tryz.func161 rfl Tryz.ntmps161 (by kernel_rfl) fun hw => ct_start ?_
 refine spQ ?_
 replace hw := nzQ hw
 refine bindC_intro (by (exact (rng_andI .u64 _ _).1)) ?_
 refine spQ ?_
 refine bindC_intro (by (exact (rng_subI .u64 _ _).1)) ?_
 refine spQ ?_
 subst hM
 exact retC_view lfQ
set_option maxHeartbeats 2000000 in
set_option maxRecDepth 100000 in
instance digest_right_ok   (x_ : Int) (n_ : Int)  : CM En (digest_right x_ n_) 150 [.int .u32 x_, .int .i64 n_] (fun y => .int .u32 y) (fun _ => []) := by
 refine cmQ fun r hM => ?_
 rw [digest_right.eq_1] at hM
 refine enterV En_ok En_mo noJ Tryz.func150 rfl Tryz.ntmps150 (by kernel_rfl) fun hw => ct_start ?_
 refine spQ ?_
 replace hw := nzQ hw
 have hF := trueQ
 exact auQ
set_option maxHeartbeats 2000000 in
set_option maxRecDepth 100000 in
theorem digest_schedule_ok   (block : (List Int)) (hp0 : block.length = 64) : CM En (digest_schedule block) 149 [.sl none 1 false (block.map (V.int .u8))] (fun y => (e_arr164 y)) (fun _ => []) := by
 refine cmQ fun r hM => ?_
 rw [digest_schedule.eq_1] at hM
 refine enterV En_ok En_mo noJ Tryz.func149 rfl Tryz.ntmps149 (by kernel_rfl) fun hw => ct_start ?_
 refine spQ ?_
 replace hw := nzQ hw
 have hM0 := hM; clear hM; obtain ⟨f1, d1, hf1, hd1, hM⟩ := iter_opn hM0; clear hM0
 refine ct_loop (fun n S => ∃ p : Int × (List Int), S = (⟨[(0, .sl none 1 false (block.map (V.int .u8))), (2, .ptr 0 0), (3, .ptr 1 0), (12, .int .i64 p.1)], [(0, .var 64 true (zv_164)), (1, .var 64 true ((e_arr164 p.2)))], 2⟩ : St) ∧ ((0 ≤ p.1) ∧ (p.1 ≤ 16)) ∧ ((16 : Int) - p.1).toNat < n ∧ iter n f1 d1 p = r) (((16 : Int) - 0).toNat + 1) _ sbQ (by simp only [go_sem, rowV_eq, rowV_eq0, List.length_replicate, rep_len, Int.toNat_natCast, ↓reduceIte, Nat.reduceEqDiff, Nat.reduceAdd, Int.reduceAdd, Nat.reduceMul, Nat.reduceLeDiff, Nat.reduceLT, Int.reduceLE, Int.reduceLT, Int.reduceNeg, Int.reduceToNat, map_st, mtL_repE, mtL_repM, subF, subH, mtO, mtB, mt, mtL, mtL_self, mt_self, ltV, ltL, ltB, eq_self, or_true, true_or, or_self, and_self, gt_cons0, gt_conss, Int.reduceSub]) ⟨(0, [0, 0, 0, 0, 0, 0, 0, 0, 0, 0, 0, 0, 0, 0, 0, 0, 0, 0, 0, 0, 0, 0, 0, 0, 0, 0, 0, 0, 0, 0, 0, 0, 0, 0, 0, 0, 0, 0, 0, 0, 0, 0, 0, 0, 0, 0, 0, 0, 0, 0, 0, 0, 0, 0, 0, 0, 0, 0, 0, 0, 0, 0, 0, 0]), rfl, ⟨omQ, omQ⟩, (Nat.lt_succ_self _), hM⟩ ?_
 clear hM
 rintro n1 S ⟨p1, rfl, hfa1, hm1, hM⟩
 have hM0 := hM; clear hM; obtain ⟨ag1, hag1, hM⟩ := iter_step hM0 (by omega) hf1; clear hM0
 replace hfa1 := nzQ hfa1
 replace hm1 := nzQ hm1
 have ha1 : addI .i64 p1.1 1 = p1.1 + 1 := add_one omQ omQ
 refine spQA ha1 ?_
 refine condC_intro (fun h2 => ?_) (fun h2 => ?_)
 ·rw [if_pos h2] at hM
  refine spQA (And.intro ha1 h2) ?_
  have nh2 := nzQ h2
  try have hr3 := mpQ nh2
  obtain ⟨ha4, hbha4⟩ := mul_pos_ok (a := 4) (b := p1.1) 4 16 64 omQ omQ omQ omQ (by decide) (by decide)
  try simp only [ha4]
  have ha6 : addI .i64 (4 * p1.1) 4 = ((4 * p1.1) + 4) := add_ok omQ omQ
  try simp only [ha6]
  refine bindC_intro omQ ?_
  refine spQA (And.intro ha1 (And.intro ha4 ha6)) ?_
  have hM0 := hM; clear hM; obtain ⟨f7, d7, hf7, hd7, hM⟩ := iter_opn hM0; clear hM0
  refine ct_loop (fun n S => ∃ p : Int × (List Int), S = (⟨[(0, .sl none 1 false (block.map (V.int .u8))), (2, .ptr 0 0), (3, .ptr 1 0), (4, .int .i64 p1.1), (12, .int .i64 p1.1), (21, .sl none 1 false ((sl block (4 * p1.1) ((4 * p1.1) + 4)).map (V.int .u8))), (22, .int .i64 ((sl block (4 * p1.1) ((4 * p1.1) + 4)).length : Int)), (23, .int .i64 p.1)], [(0, .var 64 true (zv_164)), (1, .var 64 true ((e_arr164 p.2)))], 2⟩ : St) ∧ ((0 ≤ p.1) ∧ (p.1 ≤ ((sl block (4 * p1.1) ((4 * p1.1) + 4)).length : Int))) ∧ (((sl block (4 * p1.1) ((4 * p1.1) + 4)).length : Int) - p.1).toNat < n ∧ iter n f7 d7 p = r) ((((sl block (4 * p1.1) ((4 * p1.1) + 4)).length : Int) - 0).toNat + 1) _ sbQ sbQ ⟨(0, p1.2), rfl, ⟨omQ, omQ⟩, (Nat.lt_succ_self _), hM⟩ ?_
  clear hM
  rintro n7 S ⟨p7, rfl, hfa7, hm7, hM⟩
  have hM0 := hM; clear hM; obtain ⟨ag7, hag7, hM⟩ := iter_step hM0 (by omega) hf7; clear hM0
  replace hfa7 := nzQ hfa7
  replace hm7 := nzQ hm7
  have ha7 : addI .i64 p7.1 1 = p7.1 + 1 := add_one omQ omQ
  refine spQA (And.intro ha1 (And.intro ha4 (And.intro ha6 ha7))) ?_
  refine condC_intro (fun h8 => ?_) (fun h8 => ?_)
  ·rw [if_pos h8] at hM
   refine spQA (And.intro ha1 (And.intro ha4 (And.intro ha6 (And.intro ha7 h8)))) ?_
   have nh8 := nzQ h8
   try have hr9 := mpQ nh8
   refine bindC_intro omQ ?_
   have he10 := fun d => elt_mp (l := (sl block (4 * p1.1) ((4 * p1.1) + 4))) (f := (V.int .u8)) (i := p7.1) omQ d
   refine spQA (And.intro ha1 (And.intro ha4 (And.intro ha6 (And.intro ha7 he10)))) ?_
   refine bindC_intro omQ ?_
   have he11 : ((p1.1).toNat * 1 + 1 ≤ 64) = True := eq_true omQ
   refine spQA (And.intro ha1 (And.intro ha4 (And.intro ha6 (And.intro ha7 (And.intro he10 he11))))) ?_
   have he12 := arr_get (f := (V.int .u32)) (l := p7.2) (n := 64) (i := p1.1) omQ
   replace he12 := spR he12
   try refine spQA (And.intro ha1 (And.intro ha4 (And.intro ha6 (And.intro ha7 (And.intro he10 (And.intro he11 he12)))))) ?_
   refine bindC_intro omQ ?_
   have he13 : ((p1.1).toNat * 1 + 1 ≤ 64) = True := eq_true omQ
   refine spQA (And.intro ha1 (And.intro ha4 (And.intro ha6 (And.intro ha7 (And.intro he10 (And.intro he11 (And.intro he12 he13))))))) ?_
   have he14 := arr_put (f := (V.int .u32)) (l := (arrN 64 p7.2)) (n := 64) (i := p1.1) (v := (orI .u32 (shlI .u32 (gt p7.2 p1.1) 8) (convI .u32 (gt (sl block (4 * p1.1) ((4 * p1.1) + 4)) p7.1)))) arrN_len omQ
   replace he14 := spR he14
   refine spQA (And.intro ha1 (And.intro ha4 (And.intro ha6 (And.intro ha7 (And.intro he10 (And.intro he11 (And.intro he12 (And.intro he13 he14)))))))) ?_
   refine lp_intro (n7 - 1) _ (by omega) sbQ (by simp only [go_sem, rowV_eq, rowV_eq0, List.length_replicate, rep_len, Int.toNat_natCast, ↓reduceIte, Nat.reduceEqDiff, Nat.reduceAdd, Int.reduceAdd, Nat.reduceMul, Nat.reduceLeDiff, Nat.reduceLT, Int.reduceLE, Int.reduceLT, Int.reduceNeg, Int.reduceToNat, map_st, mtL_repE, mtL_repM, subF, subH, mtO, mtB, mt, mtL, mtL_self, mt_self, ltV, ltL, ltB, eq_self, or_true, true_or, or_self, and_self, gt_cons0, gt_conss, Int.reduceSub]) ⟨((p7.1 + 1), (arrN 64 (st (arrN 64 p7.2) p1.1 (orI .u32 (shlI .u32 (gt p7.2 p1.1) 8) (convI .u32 (gt (sl block (4 * p1.1) ((4 * p1.1) + 4)) p7.1)))))), rfl, ⟨omQ, omQ⟩, omQ, iter_again hM hag7⟩
  ·rw [if_neg (ne_true h8)] at hM
   refine spQA (And.intro ha1 (And.intro ha4 (And.intro ha6 (And.intro ha7 h8)))) ?_
   have nh8 := nzQ h8
   try have hr15 := mpQ nh8
   refine lp_intro (n1 - 1) _ (by omega) sbQ sbQ ⟨((p1.1 + 1), p7.2), rfl, ⟨omQ, omQ⟩, omQ, iter_again hM hag1⟩
 ·rw [if_neg (ne_true h2)] at hM
  refine spQA (And.intro ha1 h2) ?_
  have nh2 := nzQ h2
  try have hr16 := mpQ nh2
  have hM0 := hM; clear hM; obtain ⟨f17, d17, hf17, hd17, hM⟩ := iter_opn hM0; clear hM0
  refine ct_loop (fun n S => ∃ p : Int × (List Int), S = (⟨[(2, .ptr 0 0), (3, .ptr 1 0), (7, .int .i64 p.1)], [(0, .var 64 true (zv_164)), (1, .var 64 true ((e_arr164 p.2)))], 2⟩ : St) ∧ ((16 ≤ p.1) ∧ (p.1 ≤ 64 ∨ p.1 ≤ 16)) ∧ ((64 : Int) - p.1).toNat < n ∧ iter n f17 d17 p = r) (((64 : Int) - 16).toNat + 1) _ sbQ sbQ ⟨(16, p1.2), rfl, ⟨omQ, omQ⟩, (Nat.lt_succ_self _), hM⟩ ?_
  clear hM
  rintro n17 S ⟨p17, rfl, hfa17, hm17, hM⟩
  have hM0 := hM; clear hM; obtain ⟨ag17, hag17, hM⟩ := iter_step hM0 (by omega) hf17; clear hM0
  replace hfa17 := nzQ hfa17
  replace hm17 := nzQ hm17
  have ha17 : addI .i64 p17.1 1 = p17.1 + 1 := add_one omQ omQ
  refine spQA (And.intro ha1 ha17) ?_
  refine condC_intro (fun h18 => ?_) (fun h18 => ?_)
  ·rw [if_pos h18] at hM
   refine spQA (And.intro ha1 (And.intro ha17 h18)) ?_
   have nh18 := nzQ h18
   try have hr19 := mpQ nh18
   refine ct_draw 82 9 [8, 42, 43, 44, 45, 46, 47, 48, 49] [] ([[], [0], [0, 1], [0, 1, 2], [], [4], [4, 5], [4, 5, 6], [0, 1, 2, 3]] ++ [List.range 9]) [] (by kernel_rfl) (by exact alQ) ?_
   refine spQA (And.intro ha1 ha17) ?_
   have ha20 : subI .i64 p17.1 15 = (p17.1 - 15) := sub_ok omQ omQ
   try simp only [ha20]
   refine hbindC_intro omQ ?_
   have he21 : (((p17.1 - 15)).toNat * 1 + 1 ≤ 64) = True := eq_true omQ
   refine spQA (And.intro ha1 (And.intro ha17 (And.intro ha20 he21))) ?_
   have he22 := arr_get (f := (V.int .u32)) (l := p17.2) (n := 64) (i := (p17.1 - 15)) omQ
   replace he22 := spR he22
   try refine spQA (And.intro ha1 (And.intro ha17 (And.intro ha20 (And.intro he21 he22)))) ?_
   have ha23 : subI .i64 p17.1 2 = (p17.1 - 2) := sub_ok omQ omQ
   try simp only [ha23]
   refine hbindC_intro omQ ?_
   have he24 : (((p17.1 - 2)).toNat * 1 + 1 ≤ 64) = True := eq_true omQ
   refine spQA (And.intro ha1 (And.intro ha17 (And.intro ha20 (And.intro he21 (And.intro he22 (And.intro ha23 he24)))))) ?_
   have he25 := arr_get (f := (V.int .u32)) (l := p17.2) (n := 64) (i := (p17.1 - 2)) omQ
   replace he25 := spR he25
   try refine spQA (And.intro ha1 (And.intro ha17 (And.intro ha20 (And.intro he21 (And.intro he22 (And.intro ha23 (And.intro he24 he25))))))) ?_
   have hM0 := hM; clear hM; obtain ⟨x26, hx27, hM⟩ := letk_opn hM0; clear hM0
   have hcx26 := cmU hx27
   refine callC_give hcx26 (clQA (And.intro ha1 (And.intro ha17 (And.intro ha20 (And.intro he21 (And.intro he22 (And.intro ha23 (And.intro he24 he25)))))))) (clQA (And.intro ha1 (And.intro ha17 (And.intro ha20 (And.intro he21 (And.intro he22 (And.intro ha23 (And.intro he24 he25)))))))) (fun hw28 => ?_)
   replace hw28 := nzQ hw28
   refine spQA (And.intro ha1 (And.intro ha17 (And.intro ha20 (And.intro he21 (And.intro he22 (And.intro ha23 (And.intro he24 he25))))))) ?_
   have hM0 := hM; clear hM; obtain ⟨x29, hx30, hM⟩ := letk_opn hM0; clear hM0
   have hcx29 := cmU hx30
   refine callC_give hcx29 (clQA (And.intro ha1 (And.intro ha17 (And.intro ha20 (And.intro he21 (And.intro he22 (And.intro ha23 (And.intro he24 he25)))))))) (clQA (And.intro ha1 (And.intro ha17 (And.intro ha20 (And.intro he21 (And.intro he22 (And.intro ha23 (And.intro he24 he25)))))))) (fun hw31 => ?_)
   replace hw31 := nzQ hw31
   refine spQA (And.intro ha1 (And.intro ha17 (And.intro ha20 (And.intro he21 (And.intro he22 (And.intro ha23 (And.intro he24 he25))))))) ?_
   have hM0 := hM; clear hM; obtain ⟨x32, hx33, hM⟩ := letk_opn hM0; clear hM0
   have hcx32 := cmU hx33
   refine callC_give hcx32 (clQA (And.intro ha1 (And.intro ha17 (And.intro ha20 (And.intro he21 (And.intro he22 (And.intro ha23 (And.intro he24 he25)))))))) (clQA (And.intro ha1 (And.intro ha17 (And.intro ha20 (And.intro he21 (And.intro he22 (And.intro ha23 (And.intro he24 he25)))))))) (fun hw34 => ?_)
   replace hw34 := nzQ hw34
   refine spQA (And.intro ha1 (And.intro ha17 (And.intro ha20 (And.intro he21 (And.intro he22 (And.intro ha23 (And.intro he24 he25))))))) ?_
   have hM0 := hM; clear hM; obtain ⟨x35, hx36, hM⟩ := letk_opn hM0; clear hM0
   have hcx35 := cmU hx36
   refine callC_give hcx35 (clQA (And.intro ha1 (And.intro ha17 (And.intro ha20 (And.intro he21 (And.intro he22 (And.intro ha23 (And.intro he24 he25)))))))) (clQA (And.intro ha1 (And.intro ha17 (And.intro ha20 (And.intro he21 (And.intro he22 (And.intro ha23 (And.intro he24 he25)))))))) (fun hw37 => ?_)
   replace hw37 := nzQ hw37
   refine spQA (And.intro ha1 (And.intro ha17 (And.intro ha20 (And.intro he21 (And.intro he22 (And.intro ha23 (And.intro he24 he25))))))) ?_
   refine ct_draw 82 14 [66, 67, 68, 69, 70, 71, 72, 73, 74, 75, 76, 77, 78, 79] [] ([[], [], [1], [1, 2], [1, 2, 3], [], [1, 2, 3, 4, 5], [], [7], [7, 8], [7, 8, 9], [1, 2, 3, 4, 5, 6, 7, 8, 9, 10], [], [1, 2, 3, 4, 5, 6, 7, 8, 9, 10, 11, 12]] ++ [List.range 14, List.range 15]) [] (by kernel_rfl) (by exact alQ) ?_
   refine spQA (And.intro ha1 (And.intro ha17 (And.intro ha20 (And.intro he21 (And.intro he22 (And.intro ha23 (And.intro he24 he25))))))) ?_
   have ha38 : subI .i64 p17.1 16 = (p17.1 - 16) := sub_ok omQ omQ
   try simp only [ha38]
   refine hbindC_intro omQ ?_
   have he39 : (((p17.1 - 16)).toNat * 1 + 1 ≤ 64) = True := eq_true omQ
   refine spQA (And.intro ha1 (And.intro ha17 (And.intro ha20 (And.intro he21 (And.intro he22 (And.intro ha23 (And.intro he24 (And.intro he25 (And.intro ha38 he39))))))))) ?_
   have he40 := arr_get (f := (V.int .u32)) (l := p17.2) (n := 64) (i := (p17.1 - 16)) omQ
   replace he40 := spR he40
   try refine spQA (And.intro ha1 (And.intro ha17 (And.intro ha20 (And.intro he21 (And.intro he22 (And.intro ha23 (And.intro he24 (And.intro he25 (And.intro ha38 (And.intro he39 he40)))))))))) ?_
   have ha41 : subI .i64 p17.1 7 = (p17.1 - 7) := sub_ok omQ omQ
   try simp only [ha41]
   refine hbindC_intro omQ ?_
   have he42 : (((p17.1 - 7)).toNat * 1 + 1 ≤ 64) = True := eq_true omQ
   refine spQA (And.intro ha1 (And.intro ha17 (And.intro ha20 (And.intro he21 (And.intro he22 (And.intro ha23 (And.intro he24 (And.intro he25 (And.intro ha38 (And.intro he39 (And.intro he40 (And.intro ha41 he42)))))))))))) ?_
   have he43 := arr_get (f := (V.int .u32)) (l := p17.2) (n := 64) (i := (p17.1 - 7)) omQ
   replace he43 := spR he43
   try refine spQA (And.intro ha1 (And.intro ha17 (And.intro ha20 (And.intro he21 (And.intro he22 (And.intro ha23 (And.intro he24 (And.intro he25 (And.intro ha38 (And.intro he39 (And.intro he40 (And.intro ha41 (And.intro he42 he43))))))))))))) ?_
   refine bindC_intro omQ ?_
   have he44 : ((p17.1).toNat * 1 + 1 ≤ 64) = True := eq_true omQ
   refine spQA (And.intro ha1 (And.intro ha17 (And.intro ha20 (And.intro he21 (And.intro he22 (And.intro ha23 (And.intro he24 (And.intro he25 (And.intro ha38 (And.intro he39 (And.intro he40 (And.intro ha41 (And.intro he42 (And.intro he43 he44)))))))))))))) ?_
   have he45 := arr_put (f := (V.int .u32)) (l := (arrN 64 p17.2)) (n := 64) (i := p17.1) (v := (addI .u32 (addI .u32 (addI .u32 (gt p17.2 (p17.1 - 16)) (xorI .u32 (xorI .u32 x26 x29) (shrI .u32 (gt p17.2 (p17.1 - 15)) 3))) (gt p17.2 (p17.1 - 7))) (xorI .u32 (xorI .u32 x32 x35) (shrI .u32 (gt p17.2 (p17.1 - 2)) 10)))) arrN_len omQ
   replace he45 := spR he45
   refine spQA (And.intro ha1 (And.intro ha17 (And.intro ha20 (And.intro he21 (And.intro he22 (And.intro ha23 (And.intro he24 (And.intro he25 (And.intro ha38 (And.intro he39 (And.intro he40 (And.intro ha41 (And.intro he42 (And.intro he43 (And.intro he44 he45))))))))))))))) ?_
   refine lp_intro (n17 - 1) _ (by omega) sbQ (by simp only [go_sem, rowV_eq, rowV_eq0, List.length_replicate, rep_len, Int.toNat_natCast, ↓reduceIte, Nat.reduceEqDiff, Nat.reduceAdd, Int.reduceAdd, Nat.reduceMul, Nat.reduceLeDiff, Nat.reduceLT, Int.reduceLE, Int.reduceLT, Int.reduceNeg, Int.reduceToNat, map_st, mtL_repE, mtL_repM, subF, subH, mtO, mtB, mt, mtL, mtL_self, mt_self, ltV, ltL, ltB, eq_self, or_true, true_or, or_self, and_self, gt_cons0, gt_conss, Int.reduceSub]) ⟨((p17.1 + 1), (arrN 64 (st (arrN 64 p17.2) p17.1 (addI .u32 (addI .u32 (addI .u32 (gt p17.2 (p17.1 - 16)) (xorI .u32 (xorI .u32 x26 x29) (shrI .u32 (gt p17.2 (p17.1 - 15)) 3))) (gt p17.2 (p17.1 - 7))) (xorI .u32 (xorI .u32 x32 x35) (shrI .u32 (gt p17.2 (p17.1 - 2)) 10)))))), rfl, ⟨omQ, omQ⟩, omQ, iter_again hM hag17⟩
  ·rw [if_neg (ne_true h18)] at hM
   refine spQA (And.intro ha1 (And.intro ha17 h18)) ?_
   have nh18 := nzQ h18
   try have hr46 := mpQ nh18
   subst hM
   exact retC_view (lfQA (And.intro ha1 (And.intro ha17 (And.intro h2 h18))))
set_option maxHeartbeats 2000000 in
set_option maxRecDepth 100000 in
theorem digest_mix_ok   (state : (List Int)) (block : (List Int)) (hp0 : block.length = 64) : CM En (digest_mix state block) 132 [(e_arr147 state), .sl none 1 false (block.map (V.int .u8))] (fun y => (e_arr147 y)) (fun _ => []) := by
 refine cmQ fun r hM => ?_
 rw [digest_mix.eq_1] at hM
 refine enterV En_ok En_mo noJ Tryz.func132 rfl Tryz.ntmps132 (by kernel_rfl) fun hw => ct_start ?_
 refine spQ ?_
 replace hw := nzQ hw
 have hM0 := hM; clear hM; obtain ⟨x1, hx2, hM⟩ := letk_opn hM0; clear hM0
 have hcx1 := cmH hx2 (digest_schedule_ok  block (by (exact pfQ)))
 refine callC_give hcx1 clQ clQ (fun hw3 => ?_)
 replace hw3 := nzQ hw3
 refine spQ ?_
 refine ct_draw 121 23 [6, 7, 8, 9, 10, 11, 12, 21, 22, 23, 24, 25, 26, 27, 28, 29, 30, 31, 32, 33, 34, 35, 36] [] ([[], [0], [], [2], [], [4], [], [6], [], [8], [], [10], [], [12], [], [14], [0, 1], [2, 3], [4, 5], [6, 7], [8, 9], [10, 11], [12, 13]] ++ [List.range 23]) [] (by kernel_rfl) (by exact alQ) ?_
 refine spQ ?_
 have hM0 := hM; clear hM; obtain ⟨f4, d4, hf4, hd4, hM⟩ := iter_opn hM0; clear hM0
 refine ct_loop (fun n S => ∃ p : Int × Int × Int × Int × Int × Int × Int × Int × Int, S = (⟨[(2, .ptr 0 0), (4, .ptr 1 0), (5, .ptr 2 0), (6, .int .u32 p.1), (7, .int .u32 p.2.1), (8, .int .u32 p.2.2.1), (9, .int .u32 p.2.2.2.1), (10, .int .u32 p.2.2.2.2.1), (11, .int .u32 p.2.2.2.2.2.1), (12, .int .u32 p.2.2.2.2.2.2.1), (13, .int .u32 p.2.2.2.2.2.2.2.1), (37, .int .i64 p.2.2.2.2.2.2.2.2)], [(0, .var 8 true ((e_arr147 state))), (1, .var 8 true (zv_147)), (2, .var 64 true ((e_arr164 x1)))], 26⟩ : St) ∧ ((0 ≤ p.2.2.2.2.2.2.2.2) ∧ (p.2.2.2.2.2.2.2.2 ≤ 64)) ∧ ((64 : Int) - p.2.2.2.2.2.2.2.2).toNat < n ∧ iter n f4 d4 p = r) (((64 : Int) - 0).toNat + 1) _ sbQ sbQ ⟨((gt state 0), (gt state 1), (gt state 2), (gt state 3), (gt state 4), (gt state 5), (gt state 6), (gt state 7), 0), rfl, ⟨omQ, omQ⟩, (Nat.lt_succ_self _), hM⟩ ?_
 clear hM
 rintro n4 S ⟨p4, rfl, hfa4, hm4, hM⟩
 have hM0 := hM; clear hM; obtain ⟨ag4, hag4, hM⟩ := iter_step hM0 (by omega) hf4; clear hM0
 replace hfa4 := nzQ hfa4
 replace hm4 := nzQ hm4
 have ha4 : addI .i64 p4.2.2.2.2.2.2.2.2 1 = p4.2.2.2.2.2.2.2.2 + 1 := add_one omQ omQ
 refine spQA ha4 ?_
 refine condC_intro (fun h5 => ?_) (fun h5 => ?_)
 ·rw [if_pos h5] at hM
  refine spQA (And.intro ha4 h5) ?_
  have nh5 := nzQ h5
  try have hr6 := mpQ nh5
  refine ct_draw 121 26 [40, 41, 42, 43, 44, 45, 46, 47, 48, 49, 50, 51, 52, 53, 54, 55, 56, 57, 58, 59, 60, 61, 62, 63, 64, 65] [] ([[], [], [1], [], [3], [1, 2, 3, 4], [], [6], [1, 2, 3, 4, 5, 6, 7], [0, 1, 2, 3, 4, 5, 6, 7, 8], [], [], [10, 11], [], [13], [], [13, 14, 15], [10, 11, 12, 13, 14, 15, 16], [0, 1, 2, 3, 4, 5, 6, 7, 8, 9, 10, 11, 12, 13, 14, 15, 16, 17], [], [19], [19, 20], [0, 1, 2, 3, 4, 5, 6, 7, 8, 9, 10, 11, 12, 13, 14, 15, 16, 17, 18, 19, 20, 21], [], [23], [23, 24]] ++ [List.range 26, List.range 27]) [] (by kernel_rfl) (by exact alQ) ?_
  refine spQA ha4 ?_
  have hM0 := hM; clear hM; obtain ⟨x7, hx8, hM⟩ := letk_opn hM0; clear hM0
  have hcx7 := cmU hx8
  refine hcallC_give hcx7 (clQA ha4) (clQA ha4) ?_
  refine spQA ha4 ?_
  have hM0 := hM; clear hM; obtain ⟨x9, hx10, hM⟩ := letk_opn hM0; clear hM0
  have hcx9 := cmU hx10
  refine hcallC_give hcx9 (clQA ha4) (clQA ha4) ?_
  refine spQA ha4 ?_
  have hM0 := hM; clear hM; obtain ⟨x11, hx12, hM⟩ := letk_opn hM0; clear hM0
  have hcx11 := cmU hx12
  refine hcallC_give hcx11 (clQA ha4) (clQA ha4) ?_
  refine spQA ha4 ?_
  refine hbindC_intro omQ ?_
  refine spQA ha4 ?_
  have he13 := pp_get (f := V.int .u32) (l := kg_5) (n := 64) (i := p4.2.2.2.2.2.2.2.2) rfl omQ
  replace he13 := spR he13
  refine spQA (And.intro ha4 he13) ?_
  refine hbindC_intro omQ ?_
  have he14 : ((p4.2.2.2.2.2.2.2.2).toNat * 1 + 1 ≤ 64) = True := eq_true omQ
  refine spQA (And.intro ha4 (And.intro he13 he14)) ?_
  have he15 := arr_get (f := (V.int .u32)) (l := x1) (n := 64) (i := p4.2.2.2.2.2.2.2.2) omQ
  replace he15 := spR he15
  try refine spQA (And.intro ha4 (And.intro he13 (And.intro he14 he15))) ?_
  have hF := (And.intro ha4 (And.intro h5 (And.intro he13 (And.intro he14 he15))))
  exact auQ
 ·rw [if_neg (ne_true h5)] at hM
  refine spQA (And.intro ha4 h5) ?_
  have nh5 := nzQ h5
  try have hr25 := mpQ nh5
  have hM0 := hM; clear hM; obtain ⟨f26, d26, hf26, hd26, hM⟩ := iter_opn hM0; clear hM0
  refine ct_loop (fun n S => ∃ p : Int × (List Int), S = (⟨[(2, .ptr 0 0), (4, .ptr 1 0), (108, .agg [.int .u32 p4.1, .int .u32 p4.2.1, .int .u32 p4.2.2.1, .int .u32 p4.2.2.2.1, .int .u32 p4.2.2.2.2.1, .int .u32 p4.2.2.2.2.2.1, .int .u32 p4.2.2.2.2.2.2.1, .int .u32 p4.2.2.2.2.2.2.2.1]), (109, .int .i64 p.1)], [(0, .var 8 true ((e_arr147 p.2))), (1, .var 8 true (zv_147))], 26⟩ : St) ∧ ((0 ≤ p.1) ∧ (p.1 ≤ 8)) ∧ ((8 : Int) - p.1).toNat < n ∧ iter n f26 d26 p = r) (((8 : Int) - 0).toNat + 1) _ sbQ sbQ ⟨(0, state), rfl, ⟨omQ, omQ⟩, (Nat.lt_succ_self _), hM⟩ ?_
  clear hM
  rintro n26 S ⟨p26, rfl, hfa26, hm26, hM⟩
  have hM0 := hM; clear hM; obtain ⟨ag26, hag26, hM⟩ := iter_step hM0 (by omega) hf26; clear hM0
  replace hfa26 := nzQ hfa26
  replace hm26 := nzQ hm26
  have ha26 : addI .i64 p26.1 1 = p26.1 + 1 := add_one omQ omQ
  refine spQA (And.intro ha4 ha26) ?_
  refine condC_intro (fun h27 => ?_) (fun h27 => ?_)
  ·rw [if_pos h27] at hM
   refine spQA (And.intro ha4 (And.intro ha26 h27)) ?_
   have nh27 := nzQ h27
   try have hr28 := mpQ nh27
   have he29 := pp_get (f := (V.int .u32)) (l := ([p4.1, p4.2.1, p4.2.2.1, p4.2.2.2.1, p4.2.2.2.2.1, p4.2.2.2.2.2.1, p4.2.2.2.2.2.2.1, p4.2.2.2.2.2.2.2.1] : List Int)) (n := 8) (i := p26.1) rfl omQ
   replace he29 := spR he29
   refine spQA (And.intro ha4 (And.intro ha26 he29)) ?_
   refine bindC_intro omQ ?_
   refine spQA (And.intro ha4 (And.intro ha26 he29)) ?_
   refine bindC_intro omQ ?_
   have he30 : ((p26.1).toNat * 1 + 1 ≤ 8) = True := eq_true omQ
   refine spQA (And.intro ha4 (And.intro ha26 (And.intro he29 he30))) ?_
   have he31 := arr_get (f := (V.int .u32)) (l := p26.2) (n := 8) (i := p26.1) omQ
   replace he31 := spR he31
   try refine spQA (And.intro ha4 (And.intro ha26 (And.intro he29 (And.intro he30 he31)))) ?_
   refine bindC_intro omQ ?_
   have he32 : ((p26.1).toNat * 1 + 1 ≤ 8) = True := eq_true omQ
   refine spQA (And.intro ha4 (And.intro ha26 (And.intro he29 (And.intro he30 (And.intro he31 he32))))) ?_
   have he33 := arr_put (f := (V.int .u32)) (l := (arrN 8 p26.2)) (n := 8) (i := p26.1) (v := (addI .u32 (gt p26.2 p26.1) (gt ([p4.1, p4.2.1, p4.2.2.1, p4.2.2.2.1, p4.2.2.2.2.1, p4.2.2.2.2.2.1, p4.2.2.2.2.2.2.1, p4.2.2.2.2.2.2.2.1] : List Int) p26.1))) arrN_len omQ
   replace he33 := spR he33
   refine spQA (And.intro ha4 (And.intro ha26 (And.intro he29 (And.intro he30 (And.intro he31 (And.intro he32 he33)))))) ?_
   refine lp_intro (n26 - 1) _ (by omega) sbQ (by simp only [go_sem, rowV_eq, rowV_eq0, List.length_replicate, rep_len, Int.toNat_natCast, ↓reduceIte, Nat.reduceEqDiff, Nat.reduceAdd, Int.reduceAdd, Nat.reduceMul, Nat.reduceLeDiff, Nat.reduceLT, Int.reduceLE, Int.reduceLT, Int.reduceNeg, Int.reduceToNat, map_st, mtL_repE, mtL_repM, subF, subH, mtO, mtB, mt, mtL, mtL_self, mt_self, ltV, ltL, ltB, eq_self, or_true, true_or, or_self, and_self, gt_cons0, gt_conss, Int.reduceSub]) ⟨((p26.1 + 1), (arrN 8 (st (arrN 8 p26.2) p26.1 (addI .u32 (gt p26.2 p26.1) (gt ([p4.1, p4.2.1, p4.2.2.1, p4.2.2.2.1, p4.2.2.2.2.1, p4.2.2.2.2.2.1, p4.2.2.2.2.2.2.1, p4.2.2.2.2.2.2.2.1] : List Int) p26.1))))), rfl, ⟨omQ, omQ⟩, omQ, iter_again hM hag26⟩
  ·rw [if_neg (ne_true h27)] at hM
   refine spQA (And.intro ha4 (And.intro ha26 h27)) ?_
   have nh27 := nzQ h27
   try have hr34 := mpQ nh27
   subst hM
   exact retC_view (lfQA (And.intro ha4 (And.intro ha26 (And.intro h5 h27))))
set_option maxHeartbeats 2000000 in
set_option maxRecDepth 100000 in
theorem digest_Sum_ok   (b : (List Int)) (hp0 : b.length ≤ 1000000000) : CM En (digest_Sum b) 110 [.sl none 1 false (b.map (V.int .u8))] (fun y => (e_arr31 y)) (fun _ => []) := by
 refine cmQ fun r hM => ?_
 rw [digest_Sum.eq_1] at hM
 refine enterV En_ok En_mo [6] Tryz.func110 rfl Tryz.ntmps110 (by kernel_rfl) fun hw => ct_start ?_
 refine spQ ?_
 replace hw := nzQ hw
 have hM0 := hM; clear hM; obtain ⟨x1, hx2, hM⟩ := letk_opn hM0; clear hM0
 have hcx1 := bytes_Clone_ok none b 
 rw [← hx2] at hcx1
 refine callC_give hcx1 clQ clQ (fun hw3 => ?_)
 replace hw3 := nzQ hw3
 refine spQ ?_
 have hq4 := nzQ (cfU hx2)
 refine bindC_intro omQ ?_
 refine spQ ?_
 have hM0 := hM; clear hM; obtain ⟨f5, d5, hf5, hd5, hM⟩ := iter_opn hM0; clear hM0
 refine ct_loop (fun n S => ∃ p : List Int, S = (⟨[(0, .sl none 1 false (b.map (V.int .u8))), (2, .ptr 0 0), (3, .own 1)], [(0, .var 32 true (zv_31)), (1, .own 5 1 false none (p.map (V.int .u8)))], 3⟩ : St) ∧ ((((p).length : Int) + (56 - ((p).length : Int)) % 64 ≤ (b.length : Int) + 65)) ∧ ((56 - ((p).length : Int)) % 64).toNat < n ∧ iter n f5 d5 p = r) (((56 - (((x1 ++ ([128] : List Int))).length : Int)) % 64).toNat + 1) _ sbQ sbQ ⟨(x1 ++ ([128] : List Int)), rfl, omQ, (Nat.lt_succ_self _), hM⟩ ?_
 clear hM
 rintro n5 S ⟨p5, rfl, hfa5, hm5, hM⟩
 have hM0 := hM; clear hM; obtain ⟨ag5, hag5, hM⟩ := iter_step hM0 (by omega) hf5; clear hM0
 replace hfa5 := nzQ hfa5
 replace hm5 := nzQ hm5
 refine spQ ?_
 refine bindC_intro omQ ?_
 refine spQ ?_
 refine condC_intro (fun h6 => ?_) (fun h6 => ?_)
 ·rw [if_pos h6] at hM
  refine spQA h6 ?_
  have nh6 := nzQ h6
  try have hr7 := mpQ nh6
  have hF := h6
  exact auQ
 ·rw [if_neg (ne_true h6)] at hM
  refine spQA h6 ?_
  have nh6 := nzQ h6
  try have hr8 := mpQ nh6
  have hM0 := hM; clear hM; obtain ⟨x9, hx10, hM⟩ := letk_opn hM0; clear hM0
  have hcx9 := cmU hx10
  refine callC_give hcx9 clQ clQ (fun hw11 => ?_)
  replace hw11 := nzQ hw11
  refine spQ ?_
  have hq12 := nzQ (cfU hx10)
  refine bindC_intro omQ ?_
  refine spQ ?_
  refine seqC_pass ?_
  try refine spQ ?_
  refine cut_weakW _ (⟨[(2, .ptr 0 0), (3, .sl (zApp (x9.map (V.int .u8))) 1 false ((p5 ++ x9).map (V.int .u8))), (4, .ptr 3 0)], [(0, .var 32 true (zv_31)), (1, .pown 1 false (zApp (x9.map (V.int .u8))) ((p5 ++ x9).map (V.int .u8))), (3, .var 8 true (.agg [.int .u32 1779033703, .int .u32 3144134277, .int .u32 1013904242, .int .u32 2773480762, .int .u32 1359893119, .int .u32 2600822924, .int .u32 528734635, .int .u32 1541459225]))], 4⟩ : St) ((weak_pub (S := ⟨_, _, _⟩) 1 (T := 5) (n := 1) (g := false) (z := (zApp (x9.map (V.int .u8)))) (l := (p5 ++ x9).map (V.int .u8)) clQ).trans (weak_slot (S := ⟨_, _, _⟩) 3 1 (n := 1) (g := false) (z := (zApp (x9.map (V.int .u8)))) (l := (p5 ++ x9).map (V.int .u8)) clQ clQ)) sbQ sbQ ?_
  try refine spQ ?_
  have hM0 := hM; clear hM; obtain ⟨f13, d13, hf13, hd13, hM⟩ := iter_opn hM0; clear hM0
  refine ct_loop (fun n S => ∃ p : List Int × (List Int), S = (⟨[(2, .ptr 0 0), (3, .sl none 1 false (p.1.map (V.int .u8))), (4, .ptr 3 0)], [(0, .var 32 true (zv_31)), (3, .var 8 true ((e_arr147 p.2)))], 4⟩ : St) ∧ ((((p.1).length : Int) % 64 = 0)) ∧ (p.1).length < n ∧ iter n f13 d13 p = r) (((p5 ++ x9)).length + 1) _ sbQ (by simp only [go_sem, rowV_eq, rowV_eq0, List.length_replicate, rep_len, Int.toNat_natCast, ↓reduceIte, Nat.reduceEqDiff, Nat.reduceAdd, Int.reduceAdd, Nat.reduceMul, Nat.reduceLeDiff, Nat.reduceLT, Int.reduceLE, Int.reduceLT, Int.reduceNeg, Int.reduceToNat, map_st, mtL_repE, mtL_repM, subF, subH, mtO, mtB, mt, mtL, mtL_self, mt_self, ltV, ltL, ltB, eq_self, or_true, true_or, or_self, and_self, gt_cons0, gt_conss, Int.reduceSub]) ⟨((p5 ++ x9), [1779033703, 3144134277, 1013904242, 2773480762, 1359893119, 2600822924, 528734635, 1541459225]), rfl, omQ, (Nat.lt_succ_self _), hM⟩ ?_
  clear hM
  rintro n13 S ⟨p13, rfl, hfa13, hm13, hM⟩
  have hM0 := hM; clear hM; obtain ⟨ag13, hag13, hM⟩ := iter_step hM0 (by omega) hf13; clear hM0
  replace hfa13 := nzQ hfa13
  replace hm13 := nzQ hm13
  refine spQ ?_
  refine condC_intro (fun h14 => ?_) (fun h14 => ?_)
  ·rw [if_pos h14] at hM
   refine spQA h14 ?_
   have nh14 := nzQ h14
   try have hr15 := mpQ nh14
   refine ct_draw 59 3 [33, 34, 35] [] ([[], [], [1]] ++ [List.range 3, List.range 4]) [] (by kernel_rfl) (by exact alQ) ?_
   refine spQ ?_
   refine hbindC_intro omQ ?_
   refine spQ ?_
   have hM0 := hM; clear hM; obtain ⟨x16, hx17, hM⟩ := letk_opn hM0; clear hM0
   have hcx16 := cmH hx17 (digest_mix_ok  (p13.2) (sl p13.1 0 64) (by (exact pfQ)))
   refine callC_give hcx16 clQ clQ (fun hw18 => ?_)
   replace hw18 := nzQ hw18
   refine spQ ?_
   have hF := (And.intro h6 h14)
   exact auQ
  ·rw [if_neg (ne_true h14)] at hM
   refine spQA h14 ?_
   have nh14 := nzQ h14
   try have hr19 := mpQ nh14
   have hM0 := hM; clear hM; obtain ⟨f20, d20, hf20, hd20, hM⟩ := iter_opn hM0; clear hM0
   refine ct_loop (fun n S => ∃ p : Int × (List Int), S = (⟨[(2, .ptr 0 0), (5, .ptr 4 0), (37, (e_arr147 p13.2)), (38, .int .i64 p.1)], [(0, .var 32 true (zv_31)), (4, .var 32 true ((e_arr31 p.2)))], 5⟩ : St) ∧ ((0 ≤ p.1) ∧ (p.1 ≤ 8)) ∧ ((8 : Int) - p.1).toNat < n ∧ iter n f20 d20 p = r) (((8 : Int) - 0).toNat + 1) _ sbQ (by simp only [go_sem, rowV_eq, rowV_eq0, List.length_replicate, rep_len, Int.toNat_natCast, ↓reduceIte, Nat.reduceEqDiff, Nat.reduceAdd, Int.reduceAdd, Nat.reduceMul, Nat.reduceLeDiff, Nat.reduceLT, Int.reduceLE, Int.reduceLT, Int.reduceNeg, Int.reduceToNat, map_st, mtL_repE, mtL_repM, subF, subH, mtO, mtB, mt, mtL, mtL_self, mt_self, ltV, ltL, ltB, eq_self, or_true, true_or, or_self, and_self, gt_cons0, gt_conss, Int.reduceSub]) ⟨(0, [0, 0, 0, 0, 0, 0, 0, 0, 0, 0, 0, 0, 0, 0, 0, 0, 0, 0, 0, 0, 0, 0, 0, 0, 0, 0, 0, 0, 0, 0, 0, 0]), rfl, ⟨omQ, omQ⟩, (Nat.lt_succ_self _), hM⟩ ?_
   clear hM
   rintro n20 S ⟨p20, rfl, hfa20, hm20, hM⟩
   have hM0 := hM; clear hM; obtain ⟨ag20, hag20, hM⟩ := iter_step hM0 (by omega) hf20; clear hM0
   replace hfa20 := nzQ hfa20
   replace hm20 := nzQ hm20
   have ha20 : addI .i64 p20.1 1 = p20.1 + 1 := add_one omQ omQ
   refine spQA ha20 ?_
   refine condC_intro (fun h21 => ?_) (fun h21 => ?_)
   ·rw [if_pos h21] at hM
    refine spQA (And.intro ha20 h21) ?_
    have nh21 := nzQ h21
    try have hr22 := mpQ nh21
    have he23 := arr_get1 (f := (V.int .u32)) (l := p13.2) (n := 8) (i := p20.1) omQ
    replace he23 := spR he23
    refine spQA (And.intro ha20 he23) ?_
    refine bindC_intro omQ ?_
    refine spQA (And.intro ha20 he23) ?_
    have hM0 := hM; clear hM; obtain ⟨f24, d24, hf24, hd24, hM⟩ := iter_opn hM0; clear hM0
    refine ct_loop (fun n S => ∃ p : Int × (List Int), S = (⟨[(2, .ptr 0 0), (5, .ptr 4 0), (6, .int .i64 p20.1), (7, .int .u32 (gt p13.2 p20.1)), (37, (e_arr147 p13.2)), (38, .int .i64 p20.1), (42, .int .i64 p.1)], [(0, .var 32 true (zv_31)), (4, .var 32 true ((e_arr31 p.2)))], 5⟩ : St) ∧ ((0 ≤ p.1) ∧ (p.1 ≤ 4)) ∧ ((4 : Int) - p.1).toNat < n ∧ iter n f24 d24 p = r) (((4 : Int) - 0).toNat + 1) _ sbQ sbQ ⟨(0, p20.2), rfl, ⟨omQ, omQ⟩, (Nat.lt_succ_self _), hM⟩ ?_
    clear hM
    rintro n24 S ⟨p24, rfl, hfa24, hm24, hM⟩
    have hM0 := hM; clear hM; obtain ⟨ag24, hag24, hM⟩ := iter_step hM0 (by omega) hf24; clear hM0
    replace hfa24 := nzQ hfa24
    replace hm24 := nzQ hm24
    have ha24 : addI .i64 p24.1 1 = p24.1 + 1 := add_one omQ omQ
    refine spQA (And.intro ha20 (And.intro he23 ha24)) ?_
    refine condC_intro (fun h25 => ?_) (fun h25 => ?_)
    ·rw [if_pos h25] at hM
     refine spQA (And.intro ha20 (And.intro he23 (And.intro ha24 h25))) ?_
     have nh25 := nzQ h25
     try have hr26 := mpQ nh25
     obtain ⟨ha27, hbha27⟩ := mul_pos_ok (a := 4) (b := p20.1) 8 64 512 omQ omQ omQ omQ (by decide) (by decide)
     try simp only [ha27]
     have ha28 : addI .i64 (4 * p20.1) p24.1 = ((4 * p20.1) + p24.1) := add_ok omQ omQ
     try simp only [ha28]
     obtain ⟨ha29, hbha29⟩ := mul_pos_ok (a := 8) (b := p24.1) 8 64 512 omQ omQ omQ omQ (by decide) (by decide)
     try simp only [ha29]
     have ha30 : subI .i64 24 (8 * p24.1) = (24 - (8 * p24.1)) := sub_ok omQ omQ
     try simp only [ha30]
     refine bindC_intro omQ ?_
     refine spQA (And.intro ha20 (And.intro he23 (And.intro ha24 (And.intro ha27 (And.intro ha28 (And.intro ha29 ha30)))))) ?_
     refine bindC_intro omQ ?_
     have he31 : ((((4 * p20.1) + p24.1)).toNat * 1 + 1 ≤ 32) = True := eq_true omQ
     refine spQA (And.intro ha20 (And.intro he23 (And.intro ha24 (And.intro ha27 (And.intro ha28 (And.intro ha29 (And.intro ha30 he31))))))) ?_
     have he32 := arr_put (f := (V.int .u8)) (l := (arrN 32 p24.2)) (n := 32) (i := ((4 * p20.1) + p24.1)) (v := (convI .u8 (shrI .u32 (gt p13.2 p20.1) (24 - (8 * p24.1))))) arrN_len omQ
     replace he32 := spR he32
     refine spQA (And.intro ha20 (And.intro he23 (And.intro ha24 (And.intro ha27 (And.intro ha28 (And.intro ha29 (And.intro ha30 (And.intro he31 he32)))))))) ?_
     refine lp_intro (n24 - 1) _ (by omega) sbQ (by simp only [go_sem, rowV_eq, rowV_eq0, List.length_replicate, rep_len, Int.toNat_natCast, ↓reduceIte, Nat.reduceEqDiff, Nat.reduceAdd, Int.reduceAdd, Nat.reduceMul, Nat.reduceLeDiff, Nat.reduceLT, Int.reduceLE, Int.reduceLT, Int.reduceNeg, Int.reduceToNat, map_st, mtL_repE, mtL_repM, subF, subH, mtO, mtB, mt, mtL, mtL_self, mt_self, ltV, ltL, ltB, eq_self, or_true, true_or, or_self, and_self, gt_cons0, gt_conss, Int.reduceSub]) ⟨((p24.1 + 1), (arrN 32 (st (arrN 32 p24.2) ((4 * p20.1) + p24.1) (convI .u8 (shrI .u32 (gt p13.2 p20.1) (24 - (8 * p24.1))))))), rfl, ⟨omQ, omQ⟩, omQ, iter_again hM hag24⟩
    ·rw [if_neg (ne_true h25)] at hM
     refine spQA (And.intro ha20 (And.intro he23 (And.intro ha24 h25))) ?_
     have nh25 := nzQ h25
     try have hr33 := mpQ nh25
     refine lp_intro (n20 - 1) _ (by omega) sbQ sbQ ⟨((p20.1 + 1), p24.2), rfl, ⟨omQ, omQ⟩, omQ, iter_again hM hag20⟩
   ·rw [if_neg (ne_true h21)] at hM
    refine spQA (And.intro ha20 h21) ?_
    have nh21 := nzQ h21
    try have hr34 := mpQ nh21
    subst hM
    exact retC_view (lfQA (And.intro ha20 (And.intro h6 (And.intro h14 h21))))
set_option maxHeartbeats 2000000 in
set_option maxRecDepth 100000 in
theorem digest_Tagged_ok   (tag : (List UInt8)) (b : (List Int)) (hp0 : b.length ≤ 900000000) : CM En (digest_Tagged tag b) 83 [.str tag, .sl none 1 false (b.map (V.int .u8))] (fun y => .tup [(e_arr31 y.1), .int .i64 y.2]) (fun _ => []) := by
 refine cmQ fun r hM => ?_
 rw [digest_Tagged.eq_1] at hM
 refine enterV En_ok En_mo [4] Tryz.func83 rfl Tryz.ntmps83 (by kernel_rfl) fun hw => ct_start ?_
 refine spQ ?_
 replace hw := nzQ hw
 refine guardC_f (fun h1 => ?_) (fun h1 => ?_)
 ·rw [if_neg (ne_true h1)] at hM
  refine spQA h1 ?_
  have nh1 := nzQ h1
  try have hr2 := mpQ nh1
  refine condC_intro (fun h3 => ?_) (fun h3 => ?_)
  ·rw [if_pos h3] at hM
   refine spQA h3 ?_
   have nh3 := nzQ h3
   try have hr4 := mpQ nh3
   subst hM
   exact retC_view (lfQA (And.intro h1 h3))
  ·rw [if_neg (ne_true h3)] at hM
   refine spQA h3 ?_
   have nh3 := nzQ h3
   try have hr5 := mpQ nh3
   refine seqC_pass ?_
   try refine spQ ?_
   have hM0 := hM; clear hM; obtain ⟨x6, hx7, hM⟩ := letk_opn hM0; clear hM0
   have hcx6 := cmH hx7 (digest_Sum_ok  (nat8 tag) (by (exact pfQ)))
   refine callC_look hcx6 clQ clQ (fun hw8 => ?_)
   replace hw8 := nzQ hw8
   refine spQ ?_
   refine cut_weakW _ (⟨[(1, .sl none 1 false (b.map (V.int .u8))), (4, .ptr 0 0), (6, .ptr 2 0)], [(0, .var 32 true (zv_31)), (2, .pvar 32 true ((e_arr31 x6)))], 3⟩ : St) (weak_pubv (S := ⟨_, _, _⟩) 2 (n := 32) (g := true) (d := (e_arr31 x6)) clQ clQ) sbQ sbQ ?_
   try refine spQ ?_
   refine ct_draw 26 5 [19, 20, 21, 22, 23] [] ([[], [0], [], [0, 1, 2], []] ++ [List.range 5, List.range 6, List.range 7, List.range 8]) [(3, 4)] (by kernel_rfl) (by exact alQ) ?_
   refine spQ ?_
   have hM0 := hM; clear hM; obtain ⟨x9, hx10, hM⟩ := letk_opn hM0; clear hM0
   have hcx9 := bytes_Clone_ok (some false) (arrN 32 x6) 
   rw [← hx10] at hcx9
   refine hcallC_own hcx9 clQ clQ ?_
   refine spQ ?_
   have hq11 := nzQ (cfU hx10)
   refine hbindC_introA omQ clQ ?_
   refine spQ ?_
   refine bindC_intro omQ ?_
   refine spQ ?_
   have hM0 := hM; clear hM; obtain ⟨x12, hx13, hM⟩ := letk_opn hM0; clear hM0
   have hcx12 := cmH hx13 (digest_Sum_ok  ((x9 ++ (arrN 32 x6)) ++ b) (by (exact pfQ)))
   refine callC_look hcx12 clQ clQ (fun hw14 => ?_)
   replace hw14 := nzQ hw14
   refine spQ ?_
   subst hM
   exact retC_view (lfQA (And.intro h1 h3))
 ·rw [if_pos h1] at hM
  refine spQA h1 ?_
  have nh1 := nzQ h1
  try have hr15 := mpQ nh1
  subst hM
  exact retC_view (lfQA h1)
set_option maxHeartbeats 2000000 in
set_option maxRecDepth 100000 in
instance epoch_within_ok   (x_ : Int) (low : Int) (high : Int)  : CM En (epoch_within x_ low high) 55 [.int .i64 x_, .int .i64 low, .int .i64 high] (fun y => .bool y) (fun _ => []) := by
 refine cmQ fun r hM => ?_
 rw [epoch_within.eq_1] at hM
 refine enterV En_ok En_mo noJ Tryz.func55 rfl Tryz.ntmps55 (by kernel_rfl) fun hw => ct_start ?_
 refine spQ ?_
 replace hw := nzQ hw
 have hF := trueQ
 exact auQ
set_option maxHeartbeats 2000000 in
set_option maxRecDepth 100000 in
instance epoch_numbers_ok   (bank : Int) (epoch : Int) (from_ : Int) (until_ : Int) (final : Int)  : CM En (epoch_numbers bank epoch from_ until_ final) 54 [.int .i64 bank, .int .i64 epoch, .int .i64 from_, .int .i64 until_, .int .i64 final] (fun y => .bool y) (fun _ => []) := by
 refine cmQ fun r hM => ?_
 rw [epoch_numbers.eq_1] at hM
 refine enterV En_ok En_mo noJ Tryz.func54 rfl Tryz.ntmps54 (by kernel_rfl) fun hw => ct_start ?_
 refine spQ ?_
 replace hw := nzQ hw
 have hF := trueQ
 exact auQ
set_option maxHeartbeats 2000000 in
set_option maxRecDepth 100000 in
instance denom_single_ok   (d_ : S_api_Denom)  : CM En (denom_single d_) 91 [.agg [.int .i64 d_.Value, .int .i64 d_.Depth]] (fun y => .bool y) (fun _ => []) := by
 refine cmQ fun r hM => ?_
 rw [denom_single.eq_1] at hM
 refine enterV En_ok En_mo noJ Tryz.func91 rfl Tryz.ntmps91 (by kernel_rfl) fun hw => ct_start ?_
 refine spQ ?_
 replace hw := nzQ hw
 refine condC_intro (fun h1 => ?_) (fun h1 => ?_)
 ·have kh1 : (q_api_Denom d_ z_api_Denom) = true := h1
  rw [if_pos kh1] at hM
  refine spQA h1 ?_
  have nh1 := nzQ kh1
  try have hr2 := mpQ nh1
  subst hM
  exact retC_view (lfQA h1)
 ·have kh1 : (q_api_Denom d_ z_api_Denom) = false := h1
  rw [if_neg (ne_true kh1)] at hM
  refine spQA h1 ?_
  have nh1 := nzQ kh1
  try have hr3 := mpQ nh1
  refine ct_draw 33 24 [6, 7, 8, 9, 10, 11, 12, 13, 14, 15, 16, 17, 18, 19, 20, 21, 22, 23, 24, 25, 26, 27, 28, 29] [] ([[], [0], [0, 1], [0, 1, 2], [0, 1, 2, 3], [0, 1, 2, 3, 4], [0, 1, 2, 3, 4, 5], [0, 1, 2, 3, 4, 5, 6], [0, 1, 2, 3, 4, 5, 6, 7], [0, 1, 2, 3, 4, 5, 6, 7, 8], [0, 1, 2, 3, 4, 5, 6, 7, 8, 9], [0, 1, 2, 3, 4, 5, 6, 7, 8, 9, 10], [0, 1, 2, 3, 4, 5, 6, 7, 8, 9, 10, 11], [0, 1, 2, 3, 4, 5, 6, 7, 8, 9, 10, 11, 12], [0, 1, 2, 3, 4, 5, 6, 7, 8, 9, 10, 11, 12, 13], [0, 1, 2, 3, 4, 5, 6, 7, 8, 9, 10, 11, 12, 13, 14], [0, 1, 2, 3, 4, 5, 6, 7, 8, 9, 10, 11, 12, 13, 14, 15], [0, 1, 2, 3, 4, 5, 6, 7, 8, 9, 10, 11, 12, 13, 14, 15, 16], [0, 1, 2, 3, 4, 5, 6, 7, 8, 9, 10, 11, 12, 13, 14, 15, 16, 17], [0, 1, 2, 3, 4, 5, 6, 7, 8, 9, 10, 11, 12, 13, 14, 15, 16, 17, 18], [0, 1, 2, 3, 4, 5, 6, 7, 8, 9, 10, 11, 12, 13, 14, 15, 16, 17, 18, 19], [0, 1, 2, 3, 4, 5, 6, 7, 8, 9, 10, 11, 12, 13, 14, 15, 16, 17, 18], [0, 1, 2, 3, 4, 5, 6, 7, 8, 9, 10, 11, 12, 13, 14, 15, 16, 17, 18, 21], [0, 1, 2, 3, 4, 5, 6, 7, 8, 9, 10, 11, 12, 13, 14, 15, 16, 17, 18, 21, 22]] ++ [List.range 24, List.range 25, List.range 26, List.range 27]) [] (by kernel_rfl) (by exact alQ) ?_
  refine spQ ?_
  refine hguardC_t (fun h4 => ?_) (fun h4 => ?_)
  ·rw [if_pos h4] at hM
   refine spQA h4 ?_
   have nh4 := nzQ h4
   try have hr5 := mpQ nh4
   refine hguardC_t (fun h6 => ?_) (fun h6 => ?_)
   ·rw [if_pos h6] at hM
    refine spQA h6 ?_
    have nh6 := nzQ h6
    try have hr7 := mpQ nh6
    refine hguardC_t (fun h8 => ?_) (fun h8 => ?_)
    ·rw [if_pos h8] at hM
     refine spQA h8 ?_
     have nh8 := nzQ h8
     try have hr9 := mpQ nh8
     refine hguardC_t (fun h10 => ?_) (fun h10 => ?_)
     ·rw [if_pos h10] at hM
      refine spQA h10 ?_
      have nh10 := nzQ h10
      try have hr11 := mpQ nh10
      refine hbindC_intro omQ ?_
      refine spQ ?_
      refine bindC_intro (by (clear hM; simp only [decide_eq_true_eq] at *; rcases (show d_.Depth = 0 ∨ d_.Depth = 1 ∨ d_.Depth = 2 ∨ d_.Depth = 3 ∨ d_.Depth = 4 ∨ d_.Depth = 5 by omega) with h | h | h | h | h | h <;> rw [h] <;> decide)) ?_
      refine spQ ?_
      subst hM
      exact retC_view (lfQA (And.intro h1 (And.intro h4 (And.intro h6 (And.intro h8 h10)))))
     ·rw [if_neg (ne_true h10)] at hM
      refine spQA h10 ?_
      have nh10 := nzQ h10
      try have hr12 := mpQ nh10
      subst hM
      exact retC_view (lfQA (And.intro h1 (And.intro h4 (And.intro h6 (And.intro h8 h10)))))
    ·rw [if_neg (ne_true h8)] at hM
     refine spQA h8 ?_
     have nh8 := nzQ h8
     try have hr13 := mpQ nh8
     subst hM
     exact retC_view (lfQA (And.intro h1 (And.intro h4 (And.intro h6 h8))))
   ·rw [if_neg (ne_true h6)] at hM
    refine spQA h6 ?_
    have nh6 := nzQ h6
    try have hr14 := mpQ nh6
    subst hM
    exact retC_view (lfQA (And.intro h1 (And.intro h4 h6)))
  ·rw [if_neg (ne_true h4)] at hM
   refine spQA h4 ?_
   have nh4 := nzQ h4
   try have hr15 := mpQ nh4
   subst hM
   exact retC_view (lfQA (And.intro h1 h4))
set_option maxHeartbeats 2000000 in
set_option maxRecDepth 100000 in
instance denom_Valid_ok   (l : (List S_api_Denom))  : CM En (denom_Valid l) 56 [.sl none 2 true (l.map e_api_Denom)] (fun y => .bool y) (fun _ => []) := by
 refine cmQ fun r hM => ?_
 rw [denom_Valid.eq_1] at hM
 refine enterV En_ok En_mo noJ Tryz.func56 rfl Tryz.ntmps56 (by kernel_rfl) fun hw => ct_start ?_
 refine spQ ?_
 replace hw := nzQ hw
 refine guardC_f (fun h1 => ?_) (fun h1 => ?_)
 ·rw [if_neg (ne_true h1)] at hM
  refine spQA h1 ?_
  have nh1 := nzQ h1
  try have hr2 := mpQ nh1
  refine condC_intro (fun h3 => ?_) (fun h3 => ?_)
  ·rw [if_pos h3] at hM
   refine spQA h3 ?_
   have nh3 := nzQ h3
   try have hr4 := mpQ nh3
   subst hM
   exact retC_view (lfQA (And.intro h1 h3))
  ·rw [if_neg (ne_true h3)] at hM
   refine spQA h3 ?_
   have nh3 := nzQ h3
   try have hr5 := mpQ nh3
   have hM0 := hM; clear hM; obtain ⟨f6, d6, hf6, hd6, hM⟩ := iter_opn hM0; clear hM0
   refine ct_loop (fun n S => ∃ p : Int, S = (⟨[(0, .sl none 2 true (l.map e_api_Denom)), (13, .sl none 2 true (l.map e_api_Denom)), (14, .int .i64 (l.length : Int)), (15, .int .i64 p)], [], 0⟩ : St) ∧ ((0 ≤ p) ∧ (p ≤ (l.length : Int))) ∧ ((l.length : Int) - p).toNat < n ∧ iter n f6 d6 p = r) (((l.length : Int) - 0).toNat + 1) _ sbQ sbQ ⟨0, rfl, ⟨omQ, omQ⟩, (Nat.lt_succ_self _), hM⟩ ?_
   clear hM
   rintro n6 S ⟨p6, rfl, hfa6, hm6, hM⟩
   have hM0 := hM; clear hM; obtain ⟨ag6, hag6, hM⟩ := iter_step hM0 (by omega) hf6; clear hM0
   replace hfa6 := nzQ hfa6
   replace hm6 := nzQ hm6
   have ha6 : addI .i64 p6 1 = p6 + 1 := add_one omQ omQ
   refine spQA ha6 ?_
   refine condC_intro (fun h7 => ?_) (fun h7 => ?_)
   ·rw [if_pos h7] at hM
    refine spQA (And.intro ha6 h7) ?_
    have nh7 := nzQ h7
    try have hr8 := mpQ nh7
    refine bindC_intro omQ ?_
    have he9 := fun d => elt_mp (l := l) (f := e_api_Denom) (i := p6) omQ d
    refine spQA (And.intro ha6 he9) ?_
    have hM0 := hM; clear hM; obtain ⟨x10, hx11, hM⟩ := letk_opn hM0; clear hM0
    have hcx10 := cmU hx11
    refine callC_give hcx10 (clQA (And.intro ha6 he9)) (clQA (And.intro ha6 he9)) (fun hw12 => ?_)
    replace hw12 := nzQ hw12
    refine spQA (And.intro ha6 he9) ?_
    refine condC_intro (fun h13 => ?_) (fun h13 => ?_)
    ·rw [if_pos h13] at hM
     refine spQA (And.intro ha6 (And.intro he9 h13)) ?_
     have nh13 := nzQ h13
     try have hr14 := mpQ nh13
     subst hM
     exact retC_view (lfQA (And.intro ha6 (And.intro he9 (And.intro h1 (And.intro h3 (And.intro h7 h13))))))
    ·rw [if_neg (ne_true h13)] at hM
     refine spQA (And.intro ha6 (And.intro he9 h13)) ?_
     have nh13 := nzQ h13
     try have hr15 := mpQ nh13
     refine ct_draw 59 31 [23, 24, 25, 26, 27, 28, 29, 30, 31, 32, 33, 34, 35, 36, 37, 38, 39, 40, 41, 42, 43, 44, 45, 46, 47, 48, 49, 50, 51, 52, 53] [] ([[], [0], [0, 1], [0, 1, 2], [0, 1, 2, 3], [0, 1, 2], [0, 1, 2], [0, 1, 2, 6], [0, 1, 2, 5, 6, 7], [0, 1, 2, 5, 6, 7, 8], [0, 1, 2, 5, 6, 7, 8, 9], [0, 1, 2, 3, 4, 5, 6, 7, 8, 9, 10], [0, 1, 2, 3, 4, 5, 6, 7, 8, 9, 10, 11], [0, 1, 2, 3, 4, 5, 6, 7, 8, 9, 10, 11, 12], [0, 1, 2, 3, 4, 5, 6, 7, 8, 9, 10, 11, 12, 13], [0, 1, 2, 3, 4, 5, 6, 7, 8, 9, 10, 11, 12], [0, 1, 2, 3, 4, 5, 6, 7, 8, 9, 10, 11, 12], [0, 1, 2, 3, 4, 5, 6, 7, 8, 9, 10, 11, 12, 16], [0, 1, 2, 3, 4, 5, 6, 7, 8, 9, 10, 11, 12, 15, 16, 17], [0, 1, 2, 3, 4, 5, 6, 7, 8, 9, 10, 11, 12, 15, 16, 17, 18], [0, 1, 2, 3, 4, 5, 6, 7, 8, 9, 10, 11, 12, 15, 16, 17, 18, 19], [0, 1, 2, 3, 4, 5, 6, 7, 8, 9, 10, 11, 12, 13, 14, 15, 16, 17, 18, 19, 20], [0, 1, 2, 3, 4, 5, 6, 7, 8, 9, 10, 11, 12, 13, 14, 15, 16, 17, 18, 19, 20, 21], [0, 1, 2, 3, 4, 5, 6, 7, 8, 9, 10, 11, 12, 13, 14, 15, 16, 17, 18, 19, 20, 21, 22], [0, 1, 2, 3, 4, 5, 6, 7, 8, 9, 10, 11, 12, 13, 14, 15, 16, 17, 18, 19, 20, 21, 22, 23], [0, 1, 2, 3, 4, 5, 6, 7, 8, 9, 10, 11, 12, 13, 14, 15, 16, 17, 18, 19, 20, 21, 22], [0, 1, 2, 3, 4, 5, 6, 7, 8, 9, 10, 11, 12, 13, 14, 15, 16, 17, 18, 19, 20, 21, 22], [0, 1, 2, 3, 4, 5, 6, 7, 8, 9, 10, 11, 12, 13, 14, 15, 16, 17, 18, 19, 20, 21, 22, 26], [0, 1, 2, 3, 4, 5, 6, 7, 8, 9, 10, 11, 12, 13, 14, 15, 16, 17, 18, 19, 20, 21, 22, 25, 26, 27], [0, 1, 2, 3, 4, 5, 6, 7, 8, 9, 10, 11, 12, 13, 14, 15, 16, 17, 18, 19, 20, 21, 22, 25, 26, 27, 28], [0, 1, 2, 3, 4, 5, 6, 7, 8, 9, 10, 11, 12, 13, 14, 15, 16, 17, 18, 19, 20, 21, 22, 25, 26, 27, 28, 29]] ++ [List.range 31, List.range 32, List.range 33, List.range 34]) [] (by kernel_rfl) (by exact alQ) ?_
     refine spQA (And.intro ha6 he9) ?_
     refine hguardC_t (fun h16 => ?_) (fun h16 => ?_)
     ·rw [if_pos h16] at hM
      refine spQA (And.intro ha6 (And.intro he9 h16)) ?_
      have nh16 := nzQ h16
      try have hr17 := mpQ nh16
      have ha18 : subI .i64 p6 1 = (p6 - 1) := sub_ok omQ omQ
      try simp only [ha18]
      have hF := (And.intro h1 (And.intro h3 (And.intro ha6 (And.intro h7 (And.intro he9 (And.intro h13 (And.intro h16 ha18)))))))
      exact auQ
     ·rw [if_neg (ne_true h16)] at hM
      refine spQA (And.intro ha6 (And.intro he9 h16)) ?_
      have nh16 := nzQ h16
      try have hr31 := mpQ nh16
      refine lp_intro (n6 - 1) _ (by omega) sbQ sbQ ⟨(p6 + 1), rfl, ⟨omQ, omQ⟩, omQ, iter_again hM hag6⟩
   ·rw [if_neg (ne_true h7)] at hM
    refine spQA (And.intro ha6 h7) ?_
    have nh7 := nzQ h7
    try have hr32 := mpQ nh7
    subst hM
    exact retC_view (lfQA (And.intro ha6 (And.intro h1 (And.intro h3 h7))))
 ·rw [if_pos h1] at hM
  refine spQA h1 ?_
  have nh1 := nzQ h1
  try have hr33 := mpQ nh1
  subst hM
  exact retC_view (lfQA h1)
set_option maxHeartbeats 2000000 in
set_option maxRecDepth 100000 in
instance restrict_element_ok   (b : S_api_Bases) (x_ : Int)  : CM En (restrict_element b x_) 92 [(e_api_Bases b), .int .i64 x_] (fun y => .bool y) (fun _ => []) := by
 refine cmQ fun r hM => ?_
 rw [restrict_element.eq_1] at hM
 refine enterV En_ok En_mo noJ Tryz.func92 rfl Tryz.ntmps92 (by kernel_rfl) fun hw => ct_start ?_
 refine spQ ?_
 replace hw := nzQ hw
 have hF := trueQ
 exact auQ
set_option maxHeartbeats 2000000 in
set_option maxRecDepth 100000 in
instance restrict_message_ok   (b : S_api_Bases) (m : Int)  : CM En (restrict_message b m) 58 [(e_api_Bases b), .int .i64 m] (fun y => .bool y) (fun _ => []) := by
 refine cmQ fun r hM => ?_
 rw [restrict_message.eq_1] at hM
 refine enterV En_ok En_mo noJ Tryz.func58 rfl Tryz.ntmps58 (by kernel_rfl) fun hw => ct_start ?_
 refine spQ ?_
 replace hw := nzQ hw
 have hF := trueQ
 exact auQ
set_option maxHeartbeats 2000000 in
set_option maxRecDepth 100000 in
instance restrict_Valid_ok   (b : S_api_Bases) (k_ : S_api_BankKey)  : CM En (restrict_Valid b k_) 57 [(e_api_Bases b), .agg [.int .i64 k_.H, .int .i64 k_.H1, .int .i64 k_.H2]] (fun y => .bool y) (fun _ => []) := by
 refine cmQ fun r hM => ?_
 rw [restrict_Valid.eq_1] at hM
 refine enterV En_ok En_mo noJ Tryz.func57 rfl Tryz.ntmps57 (by kernel_rfl) fun hw => ct_start ?_
 refine spQ ?_
 replace hw := nzQ hw
 have hF := trueQ
 exact auQ
set_option maxHeartbeats 2000000 in
set_option maxRecDepth 100000 in
instance epoch_Valid_ok   (b : S_api_Bases) (r_ : S_api_KeyRecord)  : CM En (epoch_Valid b r_) 27 [(e_api_Bases b), (e_api_KeyRecord r_)] (fun y => .bool y) (fun _ => []) := by
 refine cmQ fun r hM => ?_
 rw [epoch_Valid.eq_1] at hM
 refine enterV En_ok En_mo noJ Tryz.func27 rfl Tryz.ntmps27 (by kernel_rfl) fun hw => ct_start ?_
 refine spQ ?_
 replace hw := nzQ hw
 have hF := trueQ
 exact auQ
set_option maxHeartbeats 2000000 in
set_option maxRecDepth 100000 in
instance restrict_scalar_ok   (b : S_api_Bases) (x_ : Int)  : CM En (restrict_scalar b x_) 59 [(e_api_Bases b), .int .i64 x_] (fun y => .bool y) (fun _ => []) := by
 refine cmQ fun r hM => ?_
 rw [restrict_scalar.eq_1] at hM
 refine enterV En_ok En_mo noJ Tryz.func59 rfl Tryz.ntmps59 (by kernel_rfl) fun hw => ct_start ?_
 refine spQ ?_
 replace hw := nzQ hw
 have hF := trueQ
 exact auQ
set_option maxHeartbeats 2000000 in
set_option maxRecDepth 100000 in
instance restrict_elements_ok   (b : S_api_Bases) (l : (List Int))  : CM En (restrict_elements b l) 93 [(e_api_Bases b), .sl none 1 false (l.map (V.int .i64))] (fun y => .bool y) (fun _ => []) := by
 refine cmQ fun r hM => ?_
 rw [restrict_elements.eq_1] at hM
 refine enterV En_ok En_mo noJ Tryz.func93 rfl Tryz.ntmps93 (by kernel_rfl) fun hw => ct_start ?_
 refine spQ ?_
 replace hw := nzQ hw
 have hM0 := hM; clear hM; obtain ⟨f1, d1, hf1, hd1, hM⟩ := iter_opn hM0; clear hM0
 refine ct_loop (fun n S => ∃ p : Int, S = (⟨[(2, .ptr 0 0), (7, .sl none 1 false (l.map (V.int .i64))), (8, .int .i64 (l.length : Int)), (9, .int .i64 p)], [(0, .var 6 true ((e_api_Bases b)))], 1⟩ : St) ∧ ((0 ≤ p) ∧ (p ≤ (l.length : Int))) ∧ ((l.length : Int) - p).toNat < n ∧ iter n f1 d1 p = r) (((l.length : Int) - 0).toNat + 1) _ sbQ sbQ ⟨0, rfl, ⟨omQ, omQ⟩, (Nat.lt_succ_self _), hM⟩ ?_
 clear hM
 rintro n1 S ⟨p1, rfl, hfa1, hm1, hM⟩
 have hM0 := hM; clear hM; obtain ⟨ag1, hag1, hM⟩ := iter_step hM0 (by omega) hf1; clear hM0
 replace hfa1 := nzQ hfa1
 replace hm1 := nzQ hm1
 have ha1 : addI .i64 p1 1 = p1 + 1 := add_one omQ omQ
 refine spQA ha1 ?_
 have hF := ha1
 exact auQ
set_option maxHeartbeats 2000000 in
set_option maxRecDepth 100000 in
instance restrict_number_ok   (n_ : Int)  : CM En (restrict_number n_) 94 [.int .i64 n_] (fun y => .agg [.int .i64 y.Kind, .int .i64 y.N, .sl none 1 false (y.B.map (V.int .u8)), .sl none 4 true (y.L.map e_api_Item)]) (fun _ => []) := by
 refine cmQ fun r hM => ?_
 rw [restrict_number.eq_1] at hM
 refine enterV En_ok En_mo noJ Tryz.func94 rfl Tryz.ntmps94 (by kernel_rfl) fun hw => ct_start ?_
 refine spQ ?_
 replace hw := nzQ hw
 subst hM
 exact retC_view lfQ
set_option maxHeartbeats 2000000 in
set_option maxRecDepth 100000 in
instance word_Add_ok   (a_ : Int) (b : Int) (m : Int)  : CM En (word_Add a_ b m) 115 [.int .i64 a_, .int .i64 b, .int .i64 m] (fun y => .tup [.int .i64 y.1, .int .i64 y.2]) (fun _ => []) := by
 refine cmQ fun r hM => ?_
 rw [word_Add.eq_1] at hM
 refine enterV En_ok En_mo noJ Tryz.func115 rfl Tryz.ntmps115 (by kernel_rfl) fun hw => ct_start ?_
 refine spQ ?_
 replace hw := nzQ hw
 have hF := trueQ
 exact auQ
set_option maxHeartbeats 2000000 in
set_option maxRecDepth 100000 in
instance digest_Number_ok   (h_ : (List Int)) (m : Int)  : CM En (digest_Number h_ m) 95 [(e_arr31 h_), .int .i64 m] (fun y => .tup [.int .i64 y.1, .int .i64 y.2]) (fun _ => []) := by
 refine cmQ fun r hM => ?_
 rw [digest_Number.eq_1] at hM
 refine enterV En_ok En_mo noJ Tryz.func95 rfl Tryz.ntmps95 (by kernel_rfl) fun hw => ct_start ?_
 refine spQ ?_
 replace hw := nzQ hw
 refine guardC_f (fun h1 => ?_) (fun h1 => ?_)
 ·rw [if_neg (ne_true h1)] at hM
  refine spQA h1 ?_
  have nh1 := nzQ h1
  try have hr2 := mpQ nh1
  refine condC_intro (fun h3 => ?_) (fun h3 => ?_)
  ·rw [if_pos h3] at hM
   refine spQA h3 ?_
   have nh3 := nzQ h3
   try have hr4 := mpQ nh3
   subst hM
   exact retC_view (lfQA (And.intro h1 h3))
  ·rw [if_neg (ne_true h3)] at hM
   refine spQA h3 ?_
   have nh3 := nzQ h3
   try have hr5 := mpQ nh3
   have hM0 := hM; clear hM; obtain ⟨f6, d6, hf6, hd6, hM⟩ := iter_opn hM0; clear hM0
   refine ct_loop (fun n S => ∃ p : Int × Int, S = (⟨[(1, .int .i64 m), (6, .int .i64 p.1), (15, .sl (some false) 1 false (([(gt h_ 0), (gt h_ 1), (gt h_ 2), (gt h_ 3), (gt h_ 4), (gt h_ 5), (gt h_ 6), (gt h_ 7), (gt h_ 8), (gt h_ 9), (gt h_ 10), (gt h_ 11), (gt h_ 12), (gt h_ 13), (gt h_ 14), (gt h_ 15)] : List Int).map (V.int .u8))), (16, .int .i64 (16 : Int)), (17, .int .i64 p.2)], [], 1⟩ : St) ∧ ((0 ≤ p.2) ∧ (p.2 ≤ (16 : Int))) ∧ ((16 : Int) - p.2).toNat < n ∧ iter n f6 d6 p = r) (((16 : Int) - 0).toNat + 1) _ sbQ sbQ ⟨(0, 0), rfl, ⟨omQ, omQ⟩, (Nat.lt_succ_self _), hM⟩ ?_
   clear hM
   rintro n6 S ⟨p6, rfl, hfa6, hm6, hM⟩
   have hM0 := hM; clear hM; obtain ⟨ag6, hag6, hM⟩ := iter_step hM0 (by omega) hf6; clear hM0
   replace hfa6 := nzQ hfa6
   replace hm6 := nzQ hm6
   have ha6 : addI .i64 p6.2 1 = p6.2 + 1 := add_one omQ omQ
   refine spQA ha6 ?_
   refine condC_intro (fun h7 => ?_) (fun h7 => ?_)
   ·rw [if_pos h7] at hM
    refine spQA (And.intro ha6 h7) ?_
    have nh7 := nzQ h7
    try have hr8 := mpQ nh7
    refine bindC_intro omQ ?_
    have he9 := fun d => elt_mp (l := ([(gt h_ 0), (gt h_ 1), (gt h_ 2), (gt h_ 3), (gt h_ 4), (gt h_ 5), (gt h_ 6), (gt h_ 7), (gt h_ 8), (gt h_ 9), (gt h_ 10), (gt h_ 11), (gt h_ 12), (gt h_ 13), (gt h_ 14), (gt h_ 15)] : List Int)) (f := (V.int .u8)) (i := p6.2) omQ d
    refine spQA (And.intro ha6 he9) ?_
    have hM0 := hM; clear hM; obtain ⟨f10, d10, hf10, hd10, hM⟩ := iter_opn hM0; clear hM0
    refine ct_loop (fun n S => ∃ p : Int × Int, S = (⟨[(1, .int .i64 m), (6, .int .i64 p.1), (8, .int .u8 (gt ([(gt h_ 0), (gt h_ 1), (gt h_ 2), (gt h_ 3), (gt h_ 4), (gt h_ 5), (gt h_ 6), (gt h_ 7), (gt h_ 8), (gt h_ 9), (gt h_ 10), (gt h_ 11), (gt h_ 12), (gt h_ 13), (gt h_ 14), (gt h_ 15)] : List Int) p6.2)), (15, .sl (some false) 1 false (([(gt h_ 0), (gt h_ 1), (gt h_ 2), (gt h_ 3), (gt h_ 4), (gt h_ 5), (gt h_ 6), (gt h_ 7), (gt h_ 8), (gt h_ 9), (gt h_ 10), (gt h_ 11), (gt h_ 12), (gt h_ 13), (gt h_ 14), (gt h_ 15)] : List Int).map (V.int .u8))), (16, .int .i64 (16 : Int)), (17, .int .i64 p6.2), (21, .int .i64 p.2)], [], 1⟩ : St) ∧ ((0 ≤ p.2) ∧ (p.2 ≤ 8)) ∧ ((8 : Int) - p.2).toNat < n ∧ iter n f10 d10 p = r) (((8 : Int) - 0).toNat + 1) _ sbQ sbQ ⟨(p6.1, 0), rfl, ⟨omQ, omQ⟩, (Nat.lt_succ_self _), hM⟩ ?_
    clear hM
    rintro n10 S ⟨p10, rfl, hfa10, hm10, hM⟩
    have hM0 := hM; clear hM; obtain ⟨ag10, hag10, hM⟩ := iter_step hM0 (by omega) hf10; clear hM0
    replace hfa10 := nzQ hfa10
    replace hm10 := nzQ hm10
    have ha10 : addI .i64 p10.2 1 = p10.2 + 1 := add_one omQ omQ
    refine spQA (And.intro ha6 (And.intro he9 ha10)) ?_
    have hF := (And.intro h1 (And.intro h3 (And.intro ha6 (And.intro h7 (And.intro he9 ha10)))))
    exact auQ
   ·rw [if_neg (ne_true h7)] at hM
    refine spQA (And.intro ha6 h7) ?_
    have nh7 := nzQ h7
    try have hr20 := mpQ nh7
    subst hM
    exact retC_view (lfQA (And.intro ha6 (And.intro h1 (And.intro h3 h7))))
 ·rw [if_pos h1] at hM
  refine spQA h1 ?_
  have nh1 := nzQ h1
  try have hr21 := mpQ nh1
  subst hM
  exact retC_view (lfQA h1)
set_option maxHeartbeats 2000000 in
set_option maxRecDepth 100000 in
instance restrict_Challenge_ok   (b : S_api_Bases) (pseudonym : Int) (root : (List Int)) (s : S_api_CoinSign)  : CM En (restrict_Challenge b pseudonym root s) 60 [(e_api_Bases b), .int .i64 pseudonym, (e_arr31 root), .agg [.int .i64 s.Z, .int .i64 s.A, .int .i64 s.B, .int .i64 s.R]] (fun y => .tup [.int .i64 y.1, .int .i64 y.2]) (fun _ => []) := by
 refine cmQ fun r hM => ?_
 rw [restrict_Challenge.eq_1] at hM
 refine enterV En_ok En_mo [11, 12] Tryz.func60 rfl Tryz.ntmps60 (by kernel_rfl) fun hw => ct_start ?_
 refine spQ ?_
 replace hw := nzQ hw
 have hM0 := hM; clear hM; obtain ⟨x1, hx2, hM⟩ := letk_opn hM0; clear hM0
 have hcx1 := cmU hx2
 refine callC_give hcx1 clQ clQ (fun hw3 => ?_)
 replace hw3 := nzQ hw3
 refine spQ ?_
 refine condC_intro (fun h4 => ?_) (fun h4 => ?_)
 ·rw [if_pos h4] at hM
  refine spQA h4 ?_
  have nh4 := nzQ h4
  try have hr5 := mpQ nh4
  subst hM
  exact retC_view (lfQA h4)
 ·rw [if_neg (ne_true h4)] at hM
  refine spQA h4 ?_
  have nh4 := nzQ h4
  try have hr6 := mpQ nh4
  have hM0 := hM; clear hM; obtain ⟨x7, hx8, hM⟩ := letk_opn hM0; clear hM0
  have hcx7 := cmU hx8
  refine callC_look hcx7 clQ clQ (fun hw9 => ?_)
  replace hw9 := nzQ hw9
  refine spQ ?_
  refine condC_intro (fun h10 => ?_) (fun h10 => ?_)
  ·rw [if_pos h10] at hM
   refine spQA h10 ?_
   have nh10 := nzQ h10
   try have hr11 := mpQ nh10
   subst hM
   exact retC_view (lfQA (And.intro h4 h10))
  ·rw [if_neg (ne_true h10)] at hM
   refine spQA h10 ?_
   have nh10 := nzQ h10
   try have hr12 := mpQ nh10
   refine seqC_pass ?_
   try refine spQ ?_
   have hM0 := hM; clear hM; obtain ⟨f13, d13, hf13, hd13, hM⟩ := iter_opn hM0; clear hM0
   refine ct_loopW (fun n S => ∃ p : Int × List S_api_Item, S = (⟨[(4, .ptr 0 0), (6, .ptr 1 0), (7, .ptr 2 0), (10, .ptr 4 0), (49, .own 5), (50, .int .i64 (7 : Int)), (51, .int .i64 p.1)], [(0, .var 6 true ((e_api_Bases b))), (1, .var 32 true ((e_arr31 root))), (2, .var 4 true (.agg [.int .i64 s.Z, .int .i64 s.A, .int .i64 s.B, .int .i64 s.R])), (4, .var 4 true (.agg [.int .i64 3, .int .i64 0, .sl (some true) 1 false [], .own 6])), (5, .own 3 1 false (some false) (([b.Group.P, b.Group.Q, b.Group.G, b.G1, b.G2, b.H, pseudonym] : List Int).map (V.int .i64))), (6, .own 78 4 true none (p.2.map e_api_Item))], 7⟩ : St) ∧ (((0 ≤ p.1) ∧ (p.1 ≤ (7 : Int)) ∧ (((p.2).length : Int) ≤ p.1)) ∧ (hgtL (p.2) = (p.2).length)) ∧ ((7 : Int) - p.1).toNat < n ∧ iter n f13 d13 p = r) (((7 : Int) - 0).toNat + 1) _ _ (weak_nilV 4 3 78 rfl rfl (by decide)) sbQ sbQ ⟨(0, ([] : List S_api_Item)), rfl, ⟨⟨omQ, omQ, omQ⟩, by (rfl)⟩, (Nat.lt_succ_self _), hM⟩ ?_
   clear hM
   rintro n13 S ⟨p13, rfl, ⟨hfa13, hF7_0⟩, hm13, hM⟩
   have hM0 := hM; clear hM; obtain ⟨ag13, hag13, hM⟩ := iter_step hM0 (by omega) hf13; clear hM0
   replace hfa13 := nzQ hfa13
   replace hm13 := nzQ hm13
   have ha13 : addI .i64 p13.1 1 = p13.1 + 1 := add_one omQ omQ
   refine spQA ha13 ?_
   refine condC_intro (fun h14 => ?_) (fun h14 => ?_)
   ·rw [if_pos h14] at hM
    refine spQA (And.intro ha13 h14) ?_
    have nh14 := nzQ h14
    try have hr15 := mpQ nh14
    refine bindC_intro omQ ?_
    have he16 := fun d => elt_mp (l := ([b.Group.P, b.Group.Q, b.Group.G, b.G1, b.G2, b.H, pseudonym] : List Int)) (f := (V.int .i64)) (i := p13.1) omQ d
    refine spQA (And.intro ha13 he16) ?_
    refine bindC_intro omQ ?_
    refine spQA (And.intro ha13 he16) ?_
    refine ct_draw 102 5 [55, 56, 57, 58, 59] [] ([[], [0], [], [2], [2, 3]] ++ [List.range 5, List.range 6, List.range 7]) [] (by kernel_rfl) (by exact alQ) ?_
    refine spQA (And.intro ha13 he16) ?_
    have hM0 := hM; clear hM; obtain ⟨x17, hx18, hM⟩ := letk_opn hM0; clear hM0
    have hcx17 := cmU hx18
    refine hcallC_give hcx17 (clQA (And.intro ha13 he16)) (clQA (And.intro ha13 he16)) ?_
    refine spQA (And.intro ha13 he16) ?_
    have hq19 := hgt_number hx18
    replace hq19 := nzQ hq19
    refine bindC_intro omQ ?_
    refine spQA (And.intro ha13 he16) ?_
    refine lp_intro (n13 - 1) _ (by omega) sbQ sbQ ⟨((p13.1 + 1), (p13.2 ++ ([x17] : List S_api_Item))), rfl, ⟨⟨omQ, omQ, omQ⟩, by (clear hM; simp only [hgtL_app, hgtL, List.length_append, List.length_cons, List.length_nil]; omega)⟩, omQ, iter_again hM hag13⟩
   ·rw [if_neg (ne_true h14)] at hM
    refine spQA (And.intro ha13 h14) ?_
    have nh14 := nzQ h14
    try have hr20 := mpQ nh14
    refine cut_weakW _ (⟨[(4, .ptr 0 0), (6, .ptr 1 0), (7, .ptr 2 0), (10, .ptr 4 0)], [(0, .var 6 true ((e_api_Bases b))), (1, .pvar 32 true ((e_arr31 root))), (2, .var 4 true (.agg [.int .i64 s.Z, .int .i64 s.A, .int .i64 s.B, .int .i64 s.R])), (4, .var 4 true (.agg [.int .i64 3, .int .i64 0, .sl (some true) 1 false [], .own 6])), (6, .own 78 4 true none (p13.2.map e_api_Item))], 7⟩ : St) (weak_pubv (S := ⟨_, _, _⟩) 1 (n := 32) (g := true) (d := (e_arr31 root)) (clQA ha13) (clQA ha13)) sbQ sbQ ?_
    try refine spQA ha13 ?_
    refine seqC_pass ?_
    try refine spQA ha13 ?_
    refine ct_draw 102 14 [63, 64, 65, 66, 67, 68, 69, 70, 71, 72, 73, 74, 75, 76] [] ([[], [0], [], [2], [], [4], [4, 5], [], [7], [7, 8], [], [10], [10, 11], [2, 3, 4, 5, 6, 7, 8, 9, 10, 11, 12]] ++ [List.range 14, List.range 15, List.range 16]) [] (by kernel_rfl) (by exact alQ) ?_
    refine spQA ha13 ?_
    have hM0 := hM; clear hM; obtain ⟨x21, hx22, hM⟩ := letk_opn hM0; clear hM0
    have hcx21 := cmU hx22
    refine hcallC_give hcx21 (clQA ha13) (clQA ha13) ?_
    refine spQA ha13 ?_
    have hq23 := hgt_number hx22
    replace hq23 := nzQ hq23
    have hM0 := hM; clear hM; obtain ⟨x24, hx25, hM⟩ := letk_opn hM0; clear hM0
    have hcx24 := cmU hx25
    refine hcallC_give hcx24 (clQA ha13) (clQA ha13) ?_
    refine spQA ha13 ?_
    have hq26 := hgt_number hx25
    replace hq26 := nzQ hq26
    have hM0 := hM; clear hM; obtain ⟨x27, hx28, hM⟩ := letk_opn hM0; clear hM0
    have hcx27 := cmU hx28
    refine hcallC_give hcx27 (clQA ha13) (clQA ha13) ?_
    refine spQA ha13 ?_
    have hq29 := hgt_number hx28
    replace hq29 := nzQ hq29
    refine bindC_intro omQ ?_
    refine spQA ha13 ?_
    refine cut_weak (⟨[(4, .ptr 0 0), (10, .ptr 4 0)], [(0, .var 6 true ((e_api_Bases b))), (4, .var 4 true (.agg [.int .i64 3, .int .i64 0, .sl (some true) 1 false [], .own 6])), (6, .own 78 4 true (some false) ((p13.2 ++ ([({ Kind := 2, N := 0, B := (arrN 32 root), L := ([] : List S_api_Item) } : S_api_Item), x21, x24, x27] : List S_api_Item)).map e_api_Item))], 21⟩ : St) sbQ sbQ ?_
    try refine spQA ha13 ?_
    have hM0 := hM; clear hM; obtain ⟨x30, hx31, hM⟩ := letk_opn hM0; clear hM0
    have hcx30 := cmH hx31 (encode_Encode_ok  ({ Kind := 3, N := 0, B := ([] : List Int), L := (p13.2 ++ ([({ Kind := 2, N := 0, B := (arrN 32 root), L := ([] : List S_api_Item) } : S_api_Item), x21, x24, x27] : List S_api_Item)) } : S_api_Item) (by (simp only [hgt, hgtL_app, hgtL, arrN_len, List.length_nil]; omega)))
    refine callC_giveP hcx30 (weakP_pub 6 (T := 78) (n := 4) (g := true) (z := (some false)) (l := (p13.2 ++ ([({ Kind := 2, N := 0, B := (arrN 32 root), L := ([] : List S_api_Item) } : S_api_Item), x21, x24, x27] : List S_api_Item)).map e_api_Item) (clQA ha13)) (clQA ha13) (fun hw32 => ?_)
    replace hw32 := nzQ hw32
    refine spQA ha13 ?_
    have hq33 := encode_len hx31
    replace hq33 := nzQ hq33
    refine condC_intro (fun h34 => ?_) (fun h34 => ?_)
    ·rw [if_pos h34] at hM
     refine spQA (And.intro ha13 h34) ?_
     have nh34 := nzQ h34
     try have hr35 := mpQ nh34
     subst hM
     exact retC_view (lfQA (And.intro ha13 (And.intro h4 (And.intro h10 (And.intro h14 h34)))))
    ·rw [if_neg (ne_true h34)] at hM
     refine spQA (And.intro ha13 h34) ?_
     have nh34 := nzQ h34
     try have hr36 := mpQ nh34
     have hM0 := hM; clear hM; obtain ⟨x37, hx38, hM⟩ := letk_opn hM0; clear hM0
     have hcx37 := cmH hx38 (digest_Tagged_ok  ([115, 112, 101, 99, 105, 101, 47, 99, 111, 105, 110]) (x30.1) (by (exact pfQ)))
     refine callC_give hcx37 (clQA ha13) (clQA ha13) (fun hw39 => ?_)
     replace hw39 := nzQ hw39
     refine spQA ha13 ?_
     have hF := (And.intro h4 (And.intro h10 (And.intro ha13 (And.intro h14 h34))))
     exact auQ
set_option maxHeartbeats 2000000 in
set_option maxRecDepth 100000 in
instance restrict_power_ok   (b : S_api_Bases) (x_ : Int) (e_ : Int)  : CM En (restrict_power b x_ e_) 61 [(e_api_Bases b), .int .i64 x_, .int .i64 e_] (fun y => .int .i64 y) (fun _ => []) := by
 refine cmQ fun r hM => ?_
 rw [restrict_power.eq_1] at hM
 refine enterV En_ok En_mo noJ Tryz.func61 rfl Tryz.ntmps61 (by kernel_rfl) fun hw => ct_start ?_
 refine spQ ?_
 replace hw := nzQ hw
 have hF := trueQ
 exact auQ
set_option maxHeartbeats 2000000 in
set_option maxRecDepth 100000 in
instance restrict_times_ok   (b : S_api_Bases) (x_ : Int) (y : Int)  : CM En (restrict_times b x_ y) 96 [(e_api_Bases b), .int .i64 x_, .int .i64 y] (fun y => .int .i64 y) (fun _ => []) := by
 refine cmQ fun r hM => ?_
 rw [restrict_times.eq_1] at hM
 refine enterV En_ok En_mo noJ Tryz.func96 rfl Tryz.ntmps96 (by kernel_rfl) fun hw => ct_start ?_
 refine spQ ?_
 replace hw := nzQ hw
 have hF := trueQ
 exact auQ
instance (priority := 1007) : DRD 1 21 9 [11, 12, 13, 14, 15, 16, 17, 18, 19] [] ([[], [], [], [], [1, 2, 3], [], [], [], [5, 6, 7]] ++ [List.range 9, List.range 10]) [] := ⟨trivial⟩
set_option maxHeartbeats 2000000 in
set_option maxRecDepth 100000 in
instance restrict_product_ok   (b : S_api_Bases) (x_ : Int) (e_ : Int) (y : Int) (f_ : Int)  : CM En (restrict_product b x_ e_ y f_) 62 [(e_api_Bases b), .int .i64 x_, .int .i64 e_, .int .i64 y, .int .i64 f_] (fun y => .int .i64 y) (fun _ => []) := by
 refine cmQ fun r hM => ?_
 rw [restrict_product.eq_1] at hM
 refine enterV En_ok En_mo noJ Tryz.func62 rfl Tryz.ntmps62 (by kernel_rfl) fun hw => ct_start ?_
 refine spQ ?_
 replace hw := nzQ hw
 have hF := trueQ
 exact auQ
instance (priority := 1008) : DRD 6 74 27 [44, 45, 46, 47, 48, 49, 50, 51, 52, 53, 54, 55, 56, 57, 58, 59, 60, 61, 62, 63, 64, 65, 66, 67, 68, 69, 70] [] ([[], [], [1], [1, 2], [], [4], [0, 1, 2, 3, 4, 5], [], [], [8], [], [], [11], [7, 8, 9, 10, 11, 12], [0, 1, 2, 3, 4, 5, 6, 7, 8, 9, 10, 11, 12, 13], [0, 1, 2, 3, 4, 5, 6, 7, 8, 9, 10, 11, 12, 13, 14], [0, 1, 2, 3, 4, 5, 6, 7, 8, 9, 10, 11, 12, 13, 14, 15], [0, 1, 2, 3, 4, 5, 6, 7, 8, 9, 10, 11, 12, 13, 14, 15], [0, 1, 2, 3, 4, 5, 6, 7, 8, 9, 10, 11, 12, 13, 14, 15], [0, 1, 2, 3, 4, 5, 6, 7, 8, 9, 10, 11, 12, 13, 14, 15, 18], [0, 1, 2, 3, 4, 5, 6, 7, 8, 9, 10, 11, 12, 13, 14, 15, 16, 17, 18, 19], [0, 1, 2, 3, 4, 5, 6, 7, 8, 9, 10, 11, 12, 13, 14, 15], [0, 1, 2, 3, 4, 5, 6, 7, 8, 9, 10, 11, 12, 13, 14, 15], [0, 1, 2, 3, 4, 5, 6, 7, 8, 9, 10, 11, 12, 13, 14, 15, 22], [0, 1, 2, 3, 4, 5, 6, 7, 8, 9, 10, 11, 12, 13, 14, 15], [0, 1, 2, 3, 4, 5, 6, 7, 8, 9, 10, 11, 12, 13, 14, 15], [0, 1, 2, 3, 4, 5, 6, 7, 8, 9, 10, 11, 12, 13, 14, 15, 25]] ++ [List.range 27, List.range 28, List.range 29, List.range 30]) [] := ⟨trivial⟩
set_option maxHeartbeats 2000000 in
set_option maxRecDepth 100000 in
instance restrict_Verify_ok   (b : S_api_Bases) (k_ : S_api_BankKey) (pseudonym : Int) (root : (List Int)) (s : S_api_CoinSign)  : CM En (restrict_Verify b k_ pseudonym root s) 28 [(e_api_Bases b), .agg [.int .i64 k_.H, .int .i64 k_.H1, .int .i64 k_.H2], .int .i64 pseudonym, (e_arr31 root), .agg [.int .i64 s.Z, .int .i64 s.A, .int .i64 s.B, .int .i64 s.R]] (fun y => .bool y) (fun _ => []) := by
 refine cmQ fun r hM => ?_
 rw [restrict_Verify.eq_1] at hM
 refine enterV En_ok En_mo noJ Tryz.func28 rfl Tryz.ntmps28 (by kernel_rfl) fun hw => ct_start ?_
 refine spQ ?_
 replace hw := nzQ hw
 have hF := trueQ
 exact auQ
set_option maxHeartbeats 2000000 in
set_option maxRecDepth 100000 in
instance coin_Valid_ok   (b : S_api_Bases) (r_ : S_api_KeyRecord) (c : S_api_Coin)  : CM En (coin_Valid b r_ c) 7 [(e_api_Bases b), (e_api_KeyRecord r_), (e_api_Coin c)] (fun y => .bool y) (fun _ => []) := by
 refine cmQ fun r hM => ?_
 rw [coin_Valid.eq_1] at hM
 refine enterV En_ok En_mo noJ Tryz.func7 rfl Tryz.ntmps7 (by kernel_rfl) fun hw => ct_start ?_
 refine spQ ?_
 replace hw := nzQ hw
 have hF := trueQ
 exact auQ
set_option maxHeartbeats 2000000 in
set_option maxRecDepth 100000 in
theorem specieref07_number_ok   (n_ : Int) (size : Int) (hp0 : 0 ≤ size) (hp1 : size ≤ 8) : CM En (specieref07_number n_ size) 89 [.int .u64 n_, .int .i64 size] (fun y => .sl none 1 false (y.map (V.int .u8))) (fun _ => []) := by
 refine cmQ fun r hM => ?_
 rw [specieref07_number.eq_1] at hM
 refine enterV En_ok En_mo noJ Tryz.func89 rfl Tryz.ntmps89 (by kernel_rfl) fun hw => ct_start ?_
 refine spQ ?_
 replace hw := nzQ hw
 refine bindC_intro omQ ?_
 refine spQ ?_
 have ha1 : subI .i64 size 1 = (size - 1) := sub_ok omQ omQ
 try simp only [ha1]
 have hM0 := hM; clear hM; obtain ⟨f2, d2, hf2, hd2, hM⟩ := iter_opn hM0; clear hM0
 refine ct_loop (fun n S => ∃ p : Int × Int × List Int, S = (⟨[(0, .int .u64 p.1), (5, .own 0), (6, .int .i64 p.2.1)], [(0, .own 5 1 false none (p.2.2.map (V.int .u8)))], 1⟩ : St) ∧ ((-1 ≤ p.2.1) ∧ (p.2.1 < size) ∧ (((p.2.2).length : Int) = size)) ∧ (p.2.1 + 1).toNat < n ∧ iter n f2 d2 p = r) (((size - 1) + 1).toNat + 1) _ sbQ sbQ ⟨(n_, (size - 1), (rep size.toNat (0 : Int))), rfl, ⟨omQ, omQ, omQ⟩, (Nat.lt_succ_self _), hM⟩ ?_
 clear hM
 rintro n2 S ⟨p2, rfl, hfa2, hm2, hM⟩
 have hM0 := hM; clear hM; obtain ⟨ag2, hag2, hM⟩ := iter_step hM0 (by omega) hf2; clear hM0
 replace hfa2 := nzQ hfa2
 replace hm2 := nzQ hm2
 refine spQA ha1 ?_
 refine condC_intro (fun h3 => ?_) (fun h3 => ?_)
 ·rw [if_pos h3] at hM
  refine spQA (And.intro ha1 h3) ?_
  have nh3 := nzQ h3
  try have hr4 := mpQ nh3
  refine bindC_intro omQ ?_
  refine spQA ha1 ?_
  refine bindC_intro omQ ?_
  have he5 := fun d => elt_mp (l := p2.2.2) (f := (V.int .u8)) (i := p2.2.1) omQ d
  refine spQA (And.intro ha1 he5) ?_
  refine bindC_intro omQ ?_
  refine spQA (And.intro ha1 he5) ?_
  refine bindC_intro omQ ?_
  refine spQA (And.intro ha1 he5) ?_
  have ha6 : subI .i64 p2.2.1 1 = (p2.2.1 - 1) := sub_ok omQ omQ
  try simp only [ha6]
  refine lp_intro (n2 - 1) _ (by omega) sbQ sbQ ⟨((quoI .u64 p2.1 256), (p2.2.1 - 1), (st p2.2.2 p2.2.1 (convI .u8 (remI .u64 p2.1 256)))), rfl, ⟨omQ, omQ, omQ⟩, omQ, iter_again hM hag2⟩
 ·rw [if_neg (ne_true h3)] at hM
  refine spQA (And.intro ha1 h3) ?_
  have nh3 := nzQ h3
  try have hr7 := mpQ nh3
  subst hM
  exact retC_view (lfQA (And.intro ha1 h3))
set_option maxHeartbeats 2000000 in
set_option maxRecDepth 100000 in
theorem specieref07_Encode_ok (N : Nat) (ih : ∀  (i_ : S_api_Item), (hgt i_ ≤ 50000000) → hgt i_ < N → CallOk En 50 [.agg [.int .i64 i_.Kind, .int .i64 i_.N, .sl none 1 false (i_.B.map (V.int .u8)), .sl none 4 true (i_.L.map e_api_Item)]] (.sl none 1 false ((encI i_).map (V.int .u8))) [])  (i_ : S_api_Item) (hp0 : hgt i_ ≤ 50000000) (hp_ : hgt i_ < N + 1) : CallOk En 50 [.agg [.int .i64 i_.Kind, .int .i64 i_.N, .sl none 1 false (i_.B.map (V.int .u8)), .sl none 4 true (i_.L.map e_api_Item)]] (.sl none 1 false ((specieref07_Encode i_).map (V.int .u8))) [] := by
 generalize hM : specieref07_Encode i_ = r
 rw [specieref07_Encode.eq_1] at hM
 refine enterV En_ok En_mo noJ Tryz.func50 rfl Tryz.ntmps50 (by kernel_rfl) fun hw => ct_start ?_
 refine spQ ?_
 replace hw := nzQ hw
 refine condC_intro (fun h1 => ?_) (fun h1 => ?_)
 ·rw [if_pos h1] at hM
  refine spQA h1 ?_
  have nh1 := nzQ h1
  try have hr2 := mpQ nh1
  have hM0 := hM; clear hM; obtain ⟨x3, hx4, hM⟩ := letk_opn hM0; clear hM0
  have hcx3 := cmH hx4 (specieref07_number_ok  (convI .u64 i_.N) 8 (by (exact pfQ)) (by (exact pfQ)))
  refine callC_give hcx3 clQ clQ (fun hw5 => ?_)
  replace hw5 := nzQ hw5
  refine spQ ?_
  have hq6 := rnl hx4 (by decide)
  replace hq6 := nzQ hq6
  refine bindC_intro (by (first | exact omQ | (clear hM; first | (have h9 := hgt_eq i_; exact omQ')))) ?_
  refine spQ ?_
  subst hM
  exact retC_view (lfQA h1)
 ·rw [if_neg (ne_true h1)] at hM
  refine spQA h1 ?_
  have nh1 := nzQ h1
  try have hr7 := mpQ nh1
  refine condC_intro (fun h8 => ?_) (fun h8 => ?_)
  ·rw [if_pos h8] at hM
   refine spQA h8 ?_
   have nh8 := nzQ h8
   try have hr9 := mpQ nh8
   refine ct_draw 50 9 [17, 18, 19, 20, 21, 22, 23, 24, 25] [] ([[], [], [1], [1, 2], [1, 2, 3], [1, 2, 3, 4], [0, 1, 2, 3, 4, 5], [], [7]] ++ [List.range 9, List.range 10]) [(6, 1)] (by kernel_rfl) (by exact alQ) ?_
   refine spQ ?_
   have hM0 := hM; clear hM; obtain ⟨x10, hx11, hM⟩ := letk_opn hM0; clear hM0
   have hcx10 := cmH hx11 (specieref07_number_ok  (convI .u64 (i_.B.length : Int)) 4 (by (exact pfQ)) (by (exact pfQ)))
   refine hcallC_give hcx10 clQ clQ ?_
   refine spQ ?_
   have hq12 := rnl hx11 (by decide)
   replace hq12 := nzQ hq12
   refine hbindC_introA (by (first | exact omQ | (clear hM; first | (have h9 := hgt_eq i_; exact omQ')))) clQ ?_
   refine spQ ?_
   refine bindC_intro (by (first | exact omQ | (clear hM; first | (have h9 := hgt_eq i_; exact omQ')))) ?_
   refine spQ ?_
   subst hM
   exact retC_view (lfQA (And.intro h1 h8))
  ·rw [if_neg (ne_true h8)] at hM
   refine spQA h8 ?_
   have nh8 := nzQ h8
   try have hr13 := mpQ nh8
   have hM0 := hM; clear hM; obtain ⟨x14, hx15, hM⟩ := letk_opn hM0; clear hM0
   have hcx14 := cmH hx15 (specieref07_number_ok  (convI .u64 (i_.L.length : Int)) 4 (by (exact pfQ)) (by (exact pfQ)))
   refine callC_give hcx14 clQ clQ (fun hw16 => ?_)
   replace hw16 := nzQ hw16
   refine spQ ?_
   have hq17 := rnl hx15 (by decide)
   replace hq17 := nzQ hq17
   refine bindC_intro (by (first | exact omQ | (clear hM; first | (have h9 := hgt_eq i_; exact omQ')))) ?_
   refine spQ ?_
   have hM0 := hM; clear hM; obtain ⟨f18, d18, hf18, hd18, hM⟩ := iter_opn hM0; clear hM0
   refine ct_loop (fun n S => ∃ p : Int × List Int, S = (⟨[(1, .ptr 0 0), (3, .own 1), (4, .int .i64 p.1)], [(0, .var 4 true (.agg [.int .i64 i_.Kind, .int .i64 i_.N, .sl none 1 false (i_.B.map (V.int .u8)), .sl none 4 true (i_.L.map e_api_Item)])), (1, .own 5 1 false none (p.2.map (V.int .u8)))], 2⟩ : St) ∧ (((0 ≤ p.1) ∧ (p.1 ≤ (i_.L.length : Int))) ∧ (((p.2).length : Int) + 9 * (hgtL (i_.L.drop (p.1).toNat) : Int) ≤ 9 * (hgt i_ : Int))) ∧ ((i_.L.length : Int) - p.1).toNat < n ∧ iter n f18 d18 p = r) (((i_.L.length : Int) - 0).toNat + 1) _ sbQ sbQ ⟨(0, (([3] : List Int) ++ x14)), rfl, ⟨⟨by (first | exact omQ | (clear hM; first | (have h9 := hgt_eq i_; exact omQ') | (have h9 := hgt_L (i := i_) (gt_mem (l := i_.L) (i := p18.1) (by omega)); exact omQ'))), by (first | exact omQ | (clear hM; first | (have h9 := hgt_eq i_; exact omQ') | (have h9 := hgt_L (i := i_) (gt_mem (l := i_.L) (i := p18.1) (by omega)); exact omQ')))⟩, by (have h9 := hgt_eq i_; simp only [Int.toNat_zero, List.drop_zero, List.length_append, List.length_cons, List.length_nil]; omega)⟩, (Nat.lt_succ_self _), hM⟩ ?_
   clear hM
   rintro n18 S ⟨p18, rfl, ⟨hfa18, hF8_0⟩, hm18, hM⟩
   have hM0 := hM; clear hM; obtain ⟨ag18, hag18, hM⟩ := iter_step hM0 (by omega) hf18; clear hM0
   replace hfa18 := nzQ hfa18
   replace hm18 := nzQ hm18
   have ha18 : addI .i64 p18.1 1 = p18.1 + 1 := add_one (by (first | exact omQ | (clear hM; first | (have h9 := hgt_eq i_; exact omQ') | (have h9 := hgt_L (i := i_) (gt_mem (l := i_.L) (i := p18.1) (by omega)); exact omQ')))) (by (first | exact omQ | (clear hM; first | (have h9 := hgt_eq i_; exact omQ') | (have h9 := hgt_L (i := i_) (gt_mem (l := i_.L) (i := p18.1) (by omega)); exact omQ'))))
   refine spQA ha18 ?_
   refine condC_intro (fun h19 => ?_) (fun h19 => ?_)
   ·rw [if_pos h19] at hM
    refine spQA (And.intro ha18 h19) ?_
    have nh19 := nzQ h19
    try have hr20 := mpQ nh19
    refine bindC_intro (by (first | exact omQ | (clear hM; first | (have h9 := hgt_eq i_; exact omQ') | (have h9 := hgt_L (i := i_) (gt_mem (l := i_.L) (i := p18.1) (by omega)); exact omQ')))) ?_
    have he21 := fun d => elt_mp (l := i_.L) (f := e_api_Item) (i := p18.1) (by (first | exact omQ | (clear hM; first | (have h9 := hgt_eq i_; exact omQ') | (have h9 := hgt_L (i := i_) (gt_mem (l := i_.L) (i := p18.1) (by omega)); exact omQ')))) d
    refine spQA (And.intro ha18 he21) ?_
    have hM0 := hM; clear hM; obtain ⟨x22, hx23, hM⟩ := letk_opn hM0; clear hM0
    have hcx22 := ih  (gt i_.L p18.1) (by (have h9 := hgt_L (i := i_) (gt_mem (l := i_.L) (i := p18.1) (by omega)); omega)) (by (have h9 := hgt_L (i := i_) (gt_mem (l := i_.L) (i := p18.1) (by omega)); omega))
    rw [← hx23] at hcx22
    refine callC_give hcx22 (clQA (And.intro ha18 he21)) (clQA (And.intro ha18 he21)) (fun hw24 => ?_)
    replace hw24 := nzQ hw24
    refine spQA (And.intro ha18 he21) ?_
    have hq25 := enc_after hx23
    replace hq25 := nzQ hq25
    refine bindC_intro (by (first | exact omQ | (clear hM; first | (have h9 := hgt_eq i_; exact omQ') | (have h9 := hgt_L (i := i_) (gt_mem (l := i_.L) (i := p18.1) (by omega)); exact omQ')))) ?_
    refine spQA (And.intro ha18 he21) ?_
    refine lp_intro (n18 - 1) _ (by omega) sbQ sbQ ⟨((p18.1 + 1), (p18.2 ++ x22)), rfl, ⟨⟨by (first | exact omQ | (clear hM; first | (have h9 := hgt_eq i_; exact omQ') | (have h9 := hgt_L (i := i_) (gt_mem (l := i_.L) (i := (p18.1 + 1)) (by omega)); exact omQ'))), by (first | exact omQ | (clear hM; first | (have h9 := hgt_eq i_; exact omQ') | (have h9 := hgt_L (i := i_) (gt_mem (l := i_.L) (i := (p18.1 + 1)) (by omega)); exact omQ')))⟩, by (have h9 := hgtL_drop (l := i_.L) (i := p18.1) (by omega); rw [show (((p18.1 + 1)) : Int).toNat = (p18.1).toNat + 1 by omega]; simp only [List.length_append]; omega)⟩, by (first | exact omQ | (clear hM; first | (have h9 := hgt_eq i_; exact omQ') | (have h9 := hgt_L (i := i_) (gt_mem (l := i_.L) (i := (p18.1 + 1)) (by omega)); exact omQ'))), iter_again hM hag18⟩
   ·rw [if_neg (ne_true h19)] at hM
    refine spQA (And.intro ha18 h19) ?_
    have nh19 := nzQ h19
    try have hr26 := mpQ nh19
    subst hM
    exact retC_view (lfQA (And.intro ha18 (And.intro h1 (And.intro h8 h19))))
theorem encI_okN : ∀ (N : Nat)  (i_ : S_api_Item), (hgt i_ ≤ 50000000) → hgt i_ < N → CallOk En 50 [.agg [.int .i64 i_.Kind, .int .i64 i_.N, .sl none 1 false (i_.B.map (V.int .u8)), .sl none 4 true (i_.L.map e_api_Item)]] (.sl none 1 false ((encI i_).map (V.int .u8))) [] := by
 intro N
 induction N with
 | zero => intro i_ h0 h; exact absurd h (Nat.not_lt_zero _)
 | succ N ih =>
  intro i_ h0 h
  have h9 := specieref07_Encode_ok N ih i_ h0 h
  rw [specieref07_Encode_eqM] at h9
  exact h9
theorem encI_ok  (i_ : S_api_Item) (hp0 : hgt i_ ≤ 50000000) : CallOk En 50 [.agg [.int .i64 i_.Kind, .int .i64 i_.N, .sl none 1 false (i_.B.map (V.int .u8)), .sl none 4 true (i_.L.map e_api_Item)]] (.sl none 1 false ((encI i_).map (V.int .u8))) [] :=
 encI_okN (hgt i_ + 1) i_ hp0 (Nat.lt_succ_self _)
set_option maxHeartbeats 2000000 in
set_option maxRecDepth 100000 in
instance specieref06_constants_ok     : CM En (specieref06_constants) 135 [] (fun y => .sl none 1 false (y.map (V.int .u32))) (fun _ => []) := by
 refine cmQ fun r hM => ?_
 rw [specieref06_constants.eq_1] at hM
 refine enterV En_ok En_mo noJ Tryz.func135 rfl Tryz.ntmps135 (by kernel_rfl) fun hw => ct_start ?_
 refine spQ ?_
 replace hw := nzQ hw
 subst hM
 exact retC_view lfQ
set_option maxHeartbeats 2000000 in
set_option maxRecDepth 100000 in
instance specieref06_bytes_ok   (n_ : Int)  : CM En (specieref06_bytes n_) 154 [.int .i64 n_] (fun y => .sl none 1 false (y.map (V.int .u8))) (fun _ => []) := by
 refine cmQ fun r hM => ?_
 rw [specieref06_bytes.eq_1] at hM
 refine enterV En_ok En_mo noJ Tryz.func154 rfl Tryz.ntmps154 (by kernel_rfl) fun hw => ct_start ?_
 refine spQ ?_
 replace hw := nzQ hw
 have hM0 := hM; clear hM; obtain ⟨f1, d1, hf1, hd1, hM⟩ := iter_opn hM0; clear hM0
 refine ct_loopW (fun n S => ∃ p : Int × List Int, S = (⟨[(0, .int .i64 n_), (3, .own 0), (4, .int .i64 p.1)], [(0, .own 5 1 false none (p.2.map (V.int .u8)))], 1⟩ : St) ∧ ((-1 ≤ p.1) ∧ (p.1 ≤ 7) ∧ (((p.2).length : Int) = 7 - p.1)) ∧ ((p.1 + 1) : Int).toNat < n ∧ iter n f1 d1 p = r) (((7 + 1) : Int).toNat + 1) _ _ (weak_nil 3 5 rfl (by decide)) sbQ sbQ ⟨(7, ([] : List Int)), rfl, ⟨omQ, omQ, omQ⟩, (Nat.lt_succ_self _), hM⟩ ?_
 clear hM
 rintro n1 S ⟨p1, rfl, hfa1, hm1, hM⟩
 have hM0 := hM; clear hM; obtain ⟨ag1, hag1, hM⟩ := iter_step hM0 (by omega) hf1; clear hM0
 replace hfa1 := nzQ hfa1
 replace hm1 := nzQ hm1
 refine spQ ?_
 refine condC_intro (fun h2 => ?_) (fun h2 => ?_)
 ·rw [if_pos h2] at hM
  refine spQA h2 ?_
  have nh2 := nzQ h2
  try have hr3 := mpQ nh2
  obtain ⟨ha4, hbha4⟩ := mul_pos_ok (a := 8) (b := p1.1) 8 8 64 omQ omQ omQ omQ (by decide) (by decide)
  try simp only [ha4]
  refine bindC_intro omQ ?_
  refine spQA ha4 ?_
  refine bindC_intro omQ ?_
  refine spQA ha4 ?_
  have ha5 : subI .i64 p1.1 1 = (p1.1 - 1) := sub_ok omQ omQ
  try simp only [ha5]
  refine lp_intro (n1 - 1) _ (by omega) sbQ sbQ ⟨((p1.1 - 1), (p1.2 ++ ([(convI .u8 (shrI .i64 n_ (8 * p1.1)))] : List Int))), rfl, ⟨omQ, omQ, omQ⟩, omQ, iter_again hM hag1⟩
 ·rw [if_neg (ne_true h2)] at hM
  refine spQA h2 ?_
  have nh2 := nzQ h2
  try have hr6 := mpQ nh2
  subst hM
  exact retC_view (lfQA h2)
set_option maxHeartbeats 2000000 in
set_option maxRecDepth 100000 in
theorem specieref06_padded_ok   (b : (List Int)) (hp0 : b.length ≤ 1000000000) : CM En (specieref06_padded b) 136 [.sl none 1 false (b.map (V.int .u8))] (fun y => .sl none 1 false (y.map (V.int .u8))) (fun _ => []) := by
 refine cmQ fun r hM => ?_
 rw [specieref06_padded.eq_1] at hM
 refine enterV En_ok En_mo noJ Tryz.func136 rfl Tryz.ntmps136 (by kernel_rfl) fun hw => ct_start ?_
 refine spQ ?_
 replace hw := nzQ hw
 refine bindC_intro omQ ?_
 refine spQ ?_
 refine bindC_intro omQ ?_
 refine spQ ?_
 have hM0 := hM; clear hM; obtain ⟨f1, d1, hf1, hd1, hM⟩ := iter_opn hM0; clear hM0
 refine ct_loop (fun n S => ∃ p : List Int, S = (⟨[(0, .sl none 1 false (b.map (V.int .u8))), (3, .own 0)], [(0, .own 5 1 false none (p.map (V.int .u8)))], 2⟩ : St) ∧ ((((p).length : Int) + (56 - ((p).length : Int)) % 64 ≤ (b.length : Int) + 65)) ∧ ((56 - ((p).length : Int)) % 64).toNat < n ∧ iter n f1 d1 p = r) (((56 - ((((([] : List Int) ++ b) ++ ([128] : List Int))).length : Int)) % 64).toNat + 1) _ sbQ sbQ ⟨((([] : List Int) ++ b) ++ ([128] : List Int)), rfl, omQ, (Nat.lt_succ_self _), hM⟩ ?_
 clear hM
 rintro n1 S ⟨p1, rfl, hfa1, hm1, hM⟩
 have hM0 := hM; clear hM; obtain ⟨ag1, hag1, hM⟩ := iter_step hM0 (by omega) hf1; clear hM0
 replace hfa1 := nzQ hfa1
 replace hm1 := nzQ hm1
 refine spQ ?_
 have hF := trueQ
 exact auQ
set_option maxHeartbeats 2000000 in
set_option maxRecDepth 100000 in
theorem specieref06_right_ok   (x_ : Int) (n_ : Int) (hp0 : 0 ≤ n_) (hp1 : n_ ≤ 32) : CM En (specieref06_right x_ n_) 138 [.int .u32 x_, .int .i64 n_] (fun y => .int .u32 y) (fun _ => []) := by
 refine cmQ fun r hM => ?_
 rw [specieref06_right.eq_1] at hM
 refine enterV En_ok En_mo noJ Tryz.func138 rfl Tryz.ntmps138 (by kernel_rfl) fun hw => ct_start ?_
 refine spQ ?_
 replace hw := nzQ hw
 refine ct_draw 13 7 [5, 6, 7, 8, 9, 10, 11] [] ([[], [], [0, 1], [], [], [4], [3, 4, 5]] ++ [List.range 7, List.range 8]) [] (by kernel_rfl) (by exact alQ) ?_
 refine spQ ?_
 refine hbindC_intro omQ ?_
 refine spQ ?_
 have ha1 : subI .i64 32 n_ = (32 - n_) := sub_ok omQ omQ
 try simp only [ha1]
 have hF := ha1
 exact auQ
set_option maxHeartbeats 2000000 in
set_option maxRecDepth 100000 in
theorem specieref06_words_ok   (b : (List Int)) (hp0 : b.length = 64) : CM En (specieref06_words b) 137 [.sl none 1 false (b.map (V.int .u8))] (fun y => .sl none 1 false (y.map (V.int .u32))) (fun _ => []) := by
 refine cmQ fun r hM => ?_
 rw [specieref06_words.eq_1] at hM
 refine enterV En_ok En_mo noJ Tryz.func137 rfl Tryz.ntmps137 (by kernel_rfl) fun hw => ct_start ?_
 refine spQ ?_
 replace hw := nzQ hw
 have hM0 := hM; clear hM; obtain ⟨f1, d1, hf1, hd1, hM⟩ := iter_opn hM0; clear hM0
 refine ct_loopW (fun n S => ∃ p : Int × List Int, S = (⟨[(0, .sl none 1 false (b.map (V.int .u8))), (3, .own 0), (4, .int .i64 p.1)], [(0, .own 146 1 false none (p.2.map (V.int .u32)))], 1⟩ : St) ∧ ((0 ≤ p.1) ∧ (p.1 ≤ 16) ∧ (((p.2).length : Int) = p.1) ∧ (((p.2).length : Int) ≤ p.1)) ∧ ((16 : Int) - p.1).toNat < n ∧ iter n f1 d1 p = r) (((16 : Int) - 0).toNat + 1) _ _ (weak_nil 3 146 rfl (by decide)) sbQ sbQ ⟨(0, ([] : List Int)), rfl, ⟨omQ, omQ, omQ, omQ⟩, (Nat.lt_succ_self _), hM⟩ ?_
 clear hM
 rintro n1 S ⟨p1, rfl, hfa1, hm1, hM⟩
 have hM0 := hM; clear hM; obtain ⟨ag1, hag1, hM⟩ := iter_step hM0 (by omega) hf1; clear hM0
 replace hfa1 := nzQ hfa1
 replace hm1 := nzQ hm1
 have ha1 : addI .i64 p1.1 1 = p1.1 + 1 := add_one omQ omQ
 refine spQA ha1 ?_
 refine condC_intro (fun h2 => ?_) (fun h2 => ?_)
 ·rw [if_pos h2] at hM
  refine spQA (And.intro ha1 h2) ?_
  have nh2 := nzQ h2
  try have hr3 := mpQ nh2
  have hM0 := hM; clear hM; obtain ⟨f4, d4, hf4, hd4, hM⟩ := iter_opn hM0; clear hM0
  refine ct_loop (fun n S => ∃ p : Int × Int, S = (⟨[(0, .sl none 1 false (b.map (V.int .u8))), (3, .own 0), (4, .int .i64 p1.1), (5, .int .u32 p.1), (6, .int .i64 p.2)], [(0, .own 146 1 false none (p1.2.map (V.int .u32)))], 1⟩ : St) ∧ ((0 ≤ p.2) ∧ (p.2 ≤ 4)) ∧ ((4 : Int) - p.2).toNat < n ∧ iter n f4 d4 p = r) (((4 : Int) - 0).toNat + 1) _ sbQ sbQ ⟨(0, 0), rfl, ⟨omQ, omQ⟩, (Nat.lt_succ_self _), hM⟩ ?_
  clear hM
  rintro n4 S ⟨p4, rfl, hfa4, hm4, hM⟩
  have hM0 := hM; clear hM; obtain ⟨ag4, hag4, hM⟩ := iter_step hM0 (by omega) hf4; clear hM0
  replace hfa4 := nzQ hfa4
  replace hm4 := nzQ hm4
  have ha4 : addI .i64 p4.2 1 = p4.2 + 1 := add_one omQ omQ
  refine spQA (And.intro ha1 ha4) ?_
  refine condC_intro (fun h5 => ?_) (fun h5 => ?_)
  ·rw [if_pos h5] at hM
   refine spQA (And.intro ha1 (And.intro ha4 h5)) ?_
   have nh5 := nzQ h5
   try have hr6 := mpQ nh5
   obtain ⟨ha7, hbha7⟩ := mul_pos_ok (a := 4) (b := p1.1) 4 64 256 omQ omQ omQ omQ (by decide) (by decide)
   try simp only [ha7]
   have ha8 : addI .i64 (4 * p1.1) p4.2 = ((4 * p1.1) + p4.2) := add_ok omQ omQ
   try simp only [ha8]
   have hF := (And.intro ha1 (And.intro h2 (And.intro ha4 (And.intro h5 ha8))))
   exact auQ
  ·rw [if_neg (ne_true h5)] at hM
   refine spQA (And.intro ha1 (And.intro ha4 h5)) ?_
   have nh5 := nzQ h5
   try have hr10 := mpQ nh5
   have hF := (And.intro ha1 (And.intro h2 (And.intro ha4 h5)))
   exact auQ
 ·rw [if_neg (ne_true h2)] at hM
  refine spQA (And.intro ha1 h2) ?_
  have nh2 := nzQ h2
  try have hr11 := mpQ nh2
  have hM0 := hM; clear hM; obtain ⟨f12, d12, hf12, hd12, hM⟩ := iter_opn hM0; clear hM0
  refine ct_loop (fun n S => ∃ p : Int × List Int, S = (⟨[(3, .own 0), (7, .int .i64 p.1)], [(0, .own 146 1 false none (p.2.map (V.int .u32)))], 1⟩ : St) ∧ ((16 ≤ p.1) ∧ (p.1 ≤ 64 ∨ p.1 ≤ 16) ∧ (((p.2).length : Int) = p.1)) ∧ ((64 : Int) - p.1).toNat < n ∧ iter n f12 d12 p = r) (((64 : Int) - 16).toNat + 1) _ sbQ sbQ ⟨(16, p1.2), rfl, ⟨omQ, omQ, omQ⟩, (Nat.lt_succ_self _), hM⟩ ?_
  clear hM
  rintro n12 S ⟨p12, rfl, hfa12, hm12, hM⟩
  have hM0 := hM; clear hM; obtain ⟨ag12, hag12, hM⟩ := iter_step hM0 (by omega) hf12; clear hM0
  replace hfa12 := nzQ hfa12
  replace hm12 := nzQ hm12
  have ha12 : addI .i64 p12.1 1 = p12.1 + 1 := add_one omQ omQ
  refine spQA (And.intro ha1 ha12) ?_
  refine condC_intro (fun h13 => ?_) (fun h13 => ?_)
  ·rw [if_pos h13] at hM
   refine spQA (And.intro ha1 (And.intro ha12 h13)) ?_
   have nh13 := nzQ h13
   try have hr14 := mpQ nh13
   refine ct_draw 84 11 [8, 39, 40, 41, 42, 43, 44, 45, 46, 47, 48] [] ([[], [], [1], [0, 1, 2], [0, 1, 2, 3], [], [], [6], [5, 6, 7], [5, 6, 7, 8], [0, 1, 2, 3, 4]] ++ [List.range 11]) [] (by kernel_rfl) (by exact alQ) ?_
   refine spQA (And.intro ha1 ha12) ?_
   have ha15 : subI .i64 p12.1 15 = (p12.1 - 15) := sub_ok omQ omQ
   try simp only [ha15]
   refine hbindC_intro omQ ?_
   have he16 := fun d => elt_mp (l := p12.2) (f := (V.int .u32)) (i := (p12.1 - 15)) omQ d
   refine spQA (And.intro ha1 (And.intro ha12 (And.intro ha15 he16))) ?_
   refine hbindC_intro omQ ?_
   refine spQA (And.intro ha1 (And.intro ha12 (And.intro ha15 he16))) ?_
   have ha17 : subI .i64 p12.1 2 = (p12.1 - 2) := sub_ok omQ omQ
   try simp only [ha17]
   refine hbindC_intro omQ ?_
   have he18 := fun d => elt_mp (l := p12.2) (f := (V.int .u32)) (i := (p12.1 - 2)) omQ d
   refine spQA (And.intro ha1 (And.intro ha12 (And.intro ha15 (And.intro he16 (And.intro ha17 he18))))) ?_
   refine hbindC_intro omQ ?_
   refine spQA (And.intro ha1 (And.intro ha12 (And.intro ha15 (And.intro he16 (And.intro ha17 he18))))) ?_
   have hM0 := hM; clear hM; obtain ⟨x19, hx20, hM⟩ := letk_opn hM0; clear hM0
   have hcx19 := cmH hx20 (specieref06_right_ok  (gt p12.2 (p12.1 - 15)) 7 (by (exact pfQ)) (by (exact pfQ)))
   refine callC_give hcx19 (clQA (And.intro ha1 (And.intro ha12 (And.intro ha15 (And.intro he16 (And.intro ha17 he18)))))) (clQA (And.intro ha1 (And.intro ha12 (And.intro ha15 (And.intro he16 (And.intro ha17 he18)))))) (fun hw21 => ?_)
   replace hw21 := nzQ hw21
   refine spQA (And.intro ha1 (And.intro ha12 (And.intro ha15 (And.intro he16 (And.intro ha17 he18))))) ?_
   have hM0 := hM; clear hM; obtain ⟨x22, hx23, hM⟩ := letk_opn hM0; clear hM0
   have hcx22 := cmH hx23 (specieref06_right_ok  (gt p12.2 (p12.1 - 15)) 18 (by (exact pfQ)) (by (exact pfQ)))
   refine callC_give hcx22 (clQA (And.intro ha1 (And.intro ha12 (And.intro ha15 (And.intro he16 (And.intro ha17 he18)))))) (clQA (And.intro ha1 (And.intro ha12 (And.intro ha15 (And.intro he16 (And.intro ha17 he18)))))) (fun hw24 => ?_)
   replace hw24 := nzQ hw24
   refine spQA (And.intro ha1 (And.intro ha12 (And.intro ha15 (And.intro he16 (And.intro ha17 he18))))) ?_
   have hM0 := hM; clear hM; obtain ⟨x25, hx26, hM⟩ := letk_opn hM0; clear hM0
   have hcx25 := cmH hx26 (specieref06_right_ok  (gt p12.2 (p12.1 - 2)) 17 (by (exact pfQ)) (by (exact pfQ)))
   refine callC_give hcx25 (clQA (And.intro ha1 (And.intro ha12 (And.intro ha15 (And.intro he16 (And.intro ha17 he18)))))) (clQA (And.intro ha1 (And.intro ha12 (And.intro ha15 (And.intro he16 (And.intro ha17 he18)))))) (fun hw27 => ?_)
   replace hw27 := nzQ hw27
   refine spQA (And.intro ha1 (And.intro ha12 (And.intro ha15 (And.intro he16 (And.intro ha17 he18))))) ?_
   have hM0 := hM; clear hM; obtain ⟨x28, hx29, hM⟩ := letk_opn hM0; clear hM0
   have hcx28 := cmH hx29 (specieref06_right_ok  (gt p12.2 (p12.1 - 2)) 19 (by (exact pfQ)) (by (exact pfQ)))
   refine callC_give hcx28 (clQA (And.intro ha1 (And.intro ha12 (And.intro ha15 (And.intro he16 (And.intro ha17 he18)))))) (clQA (And.intro ha1 (And.intro ha12 (And.intro ha15 (And.intro he16 (And.intro ha17 he18)))))) (fun hw30 => ?_)
   replace hw30 := nzQ hw30
   refine spQA (And.intro ha1 (And.intro ha12 (And.intro ha15 (And.intro he16 (And.intro ha17 he18))))) ?_
   refine ct_draw 84 17 [65, 66, 67, 68, 69, 70, 71, 72, 73, 74, 75, 76, 77, 78, 79, 80, 81] [] ([[], [], [], [2], [1, 2, 3], [1, 2, 3, 4], [], [1, 2, 3, 4, 5, 6], [], [], [9], [8, 9, 10], [8, 9, 10, 11], [1, 2, 3, 4, 5, 6, 7, 8, 9, 10, 11, 12], [], [1, 2, 3, 4, 5, 6, 7, 8, 9, 10, 11, 12, 13, 14], [1, 2, 3, 4, 5, 6, 7, 8, 9, 10, 11, 12, 13, 14, 15]] ++ [List.range 17, List.range 18]) [] (by kernel_rfl) (by exact alQ) ?_
   refine spQA (And.intro ha1 (And.intro ha12 (And.intro ha15 (And.intro he16 (And.intro ha17 he18))))) ?_
   have ha31 : subI .i64 p12.1 16 = (p12.1 - 16) := sub_ok omQ omQ
   try simp only [ha31]
   refine hbindC_intro omQ ?_
   have he32 := fun d => elt_mp (l := p12.2) (f := (V.int .u32)) (i := (p12.1 - 16)) omQ d
   refine spQA (And.intro ha1 (And.intro ha12 (And.intro ha15 (And.intro he16 (And.intro ha17 (And.intro he18 (And.intro ha31 he32))))))) ?_
   refine hbindC_intro omQ ?_
   refine spQA (And.intro ha1 (And.intro ha12 (And.intro ha15 (And.intro he16 (And.intro ha17 (And.intro he18 (And.intro ha31 he32))))))) ?_
   have ha33 : subI .i64 p12.1 7 = (p12.1 - 7) := sub_ok omQ omQ
   try simp only [ha33]
   have hF := (And.intro ha1 (And.intro h2 (And.intro ha12 (And.intro h13 (And.intro ha15 (And.intro he16 (And.intro ha17 (And.intro he18 (And.intro ha31 (And.intro he32 ha33))))))))))
   exact auQ
  ·rw [if_neg (ne_true h13)] at hM
   refine spQA (And.intro ha1 (And.intro ha12 h13)) ?_
   have nh13 := nzQ h13
   try have hr35 := mpQ nh13
   subst hM
   exact retC_view (lfQA (And.intro ha1 (And.intro ha12 (And.intro h2 h13))))
end Go.Proofs.YtcbdmoihobdjaaaGreatDoor
namespace Go.Proofs.YtcbdmoihobdjaaaGreatDoor
open Go.RowKit
set_option linter.unusedSimpArgs false
instance (priority := 1009) : DRD 18 182 11 [152, 153, 154, 155, 156, 157, 158, 159, 160, 161, 162] [] ([[], [], [], [], [2, 3], [2, 3, 4], [], [], [6, 7], [6, 7, 8], [2, 3, 4, 5, 6, 7, 8, 9]] ++ [List.range 11, List.range 12]) [] := ⟨trivial⟩
set_option maxHeartbeats 2000000 in
set_option maxRecDepth 100000 in
theorem specieref06_Sum_ok   (b : (List Int)) (hp0 : b.length ≤ 1000000000) : CM En (specieref06_Sum b) 113 [.sl none 1 false (b.map (V.int .u8))] (fun y => (e_arr31 y)) (fun _ => []) := by
 refine cmQ fun r hM => ?_
 rw [specieref06_Sum.eq_1] at hM
 refine enterV En_ok En_mo noJ Tryz.func113 rfl Tryz.ntmps113 (by kernel_rfl) fun hw => ct_start ?_
 refine spQ ?_
 replace hw := nzQ hw
 have hM0 := hM; clear hM; obtain ⟨x1, hx2, hM⟩ := letk_opn hM0; clear hM0
 have hcx1 := cmU hx2
 refine callC_give hcx1 clQ clQ (fun hw3 => ?_)
 replace hw3 := nzQ hw3
 refine spQ ?_
 have hq4 := nzQ (cfU hx2)
 have hM0 := hM; clear hM; obtain ⟨x5, hx6, hM⟩ := letk_opn hM0; clear hM0
 have hcx5 := cmH hx6 (specieref06_padded_ok  b (by (exact pfQ)))
 refine callC_give hcx5 clQ clQ (fun hw7 => ?_)
 replace hw7 := nzQ hw7
 refine spQ ?_
 have hq8 := nzQ (cfU hx6)
 have hM0 := hM; clear hM; obtain ⟨f9, d9, hf9, hd9, hM⟩ := iter_opn hM0; clear hM0
 refine ct_loop (fun n S => ∃ p : Int × List Int, S = (⟨[(2, .ptr 0 0), (3, .own 1), (4, .sl none 1 false (x1.map (V.int .u32))), (5, .sl none 1 false (x5.map (V.int .u8))), (6, .int .i64 p.1)], [(0, .var 32 true (zv_31)), (1, .own 146 1 false none (p.2.map (V.int .u32)))], 2⟩ : St) ∧ ((0 ≤ p.1) ∧ (p.1 ≤ (x5.length : Int)) ∧ (p.1 % 64 = 0) ∧ ((p.2).length = (([1779033703, 3144134277, 1013904242, 2773480762, 1359893119, 2600822924, 528734635, 1541459225] : List Int)).length)) ∧ ((x5.length : Int) - p.1).toNat < n ∧ iter n f9 d9 p = r) (((x5.length : Int) - 0).toNat + 1) _ sbQ sbQ ⟨(0, ([1779033703, 3144134277, 1013904242, 2773480762, 1359893119, 2600822924, 528734635, 1541459225] : List Int)), rfl, ⟨omQ, omQ, omQ, omQ⟩, (Nat.lt_succ_self _), hM⟩ ?_
 clear hM
 rintro n9 S ⟨p9, rfl, hfa9, hm9, hM⟩
 have hM0 := hM; clear hM; obtain ⟨ag9, hag9, hM⟩ := iter_step hM0 (by omega) hf9; clear hM0
 replace hfa9 := nzQ hfa9
 replace hm9 := nzQ hm9
 have ha9 : addI .i64 p9.1 1 = p9.1 + 1 := add_one omQ omQ
 refine spQA ha9 ?_
 refine condC_intro (fun h10 => ?_) (fun h10 => ?_)
 ·rw [if_pos h10] at hM
  refine spQA (And.intro ha9 h10) ?_
  have nh10 := nzQ h10
  try have hr11 := mpQ nh10
  have ha12 : addI .i64 p9.1 64 = (p9.1 + 64) := add_ok omQ omQ
  try simp only [ha12]
  refine bindC_intro omQ ?_
  refine spQA (And.intro ha9 ha12) ?_
  have hM0 := hM; clear hM; obtain ⟨x13, hx14, hM⟩ := letk_opn hM0; clear hM0
  have hcx13 := cmH hx14 (specieref06_words_ok  (sl x5 p9.1 (p9.1 + 64)) (by (exact pfQ)))
  refine callC_give hcx13 (clQA (And.intro ha9 ha12)) (clQA (And.intro ha9 ha12)) (fun hw15 => ?_)
  replace hw15 := nzQ hw15
  refine spQA (And.intro ha9 ha12) ?_
  have hq16 := nzQ (cfU hx14)
  refine bindC_intro omQ ?_
  refine spQA (And.intro ha9 ha12) ?_
  have hM0 := hM; clear hM; obtain ⟨f17, d17, hf17, hd17, hM⟩ := iter_opn hM0; clear hM0
  refine ct_loop (fun n S => ∃ p : Int × List Int, S = (⟨[(2, .ptr 0 0), (3, .own 1), (4, .sl none 1 false (x1.map (V.int .u32))), (5, .sl none 1 false (x5.map (V.int .u8))), (6, .int .i64 p9.1), (7, .sl none 1 false (x13.map (V.int .u32))), (8, .own 2), (9, .int .i64 p.1)], [(0, .var 32 true (zv_31)), (1, .own 146 1 false none (p9.2.map (V.int .u32))), (2, .own 146 1 false none (p.2.map (V.int .u32)))], 3⟩ : St) ∧ ((0 ≤ p.1) ∧ (p.1 ≤ 64) ∧ (((p.2).length : Int) = 8) ∧ ((p.2).length = ((([] : List Int) ++ p9.2)).length)) ∧ ((64 : Int) - p.1).toNat < n ∧ iter n f17 d17 p = r) (((64 : Int) - 0).toNat + 1) _ sbQ sbQ ⟨(0, (([] : List Int) ++ p9.2)), rfl, ⟨omQ, omQ, omQ, omQ⟩, (Nat.lt_succ_self _), hM⟩ ?_
  clear hM
  rintro n17 S ⟨p17, rfl, hfa17, hm17, hM⟩
  have hM0 := hM; clear hM; obtain ⟨ag17, hag17, hM⟩ := iter_step hM0 (by omega) hf17; clear hM0
  replace hfa17 := nzQ hfa17
  replace hm17 := nzQ hm17
  have ha17 : addI .i64 p17.1 1 = p17.1 + 1 := add_one omQ omQ
  refine spQA (And.intro ha9 (And.intro ha12 ha17)) ?_
  refine condC_intro (fun h18 => ?_) (fun h18 => ?_)
  ·rw [if_pos h18] at hM
   refine spQA (And.intro ha9 (And.intro ha12 (And.intro ha17 h18))) ?_
   have nh18 := nzQ h18
   try have hr19 := mpQ nh18
   refine ct_draw 182 44 [38, 39, 40, 41, 42, 43, 44, 45, 46, 47, 48, 49, 50, 51, 52, 53, 54, 55, 56, 57, 58, 59, 60, 61, 62, 63, 64, 65, 66, 67, 68, 69, 70, 71, 72, 73, 74, 75, 76, 77, 78, 79, 80, 81] [] ([[], [0], [0, 1], [], [3], [3, 4], [3, 4, 5], [], [7], [7, 8], [7, 8, 9], [3, 4, 5, 6, 7, 8, 9, 10], [], [12], [12, 13], [12, 13, 14], [3, 4, 5, 6, 7, 8, 9, 10, 11, 12, 13, 14, 15], [0, 1, 2, 3, 4, 5, 6, 7, 8, 9, 10, 11, 12, 13, 14, 15, 16], [], [18], [18, 19], [], [21], [21, 22], [18, 19, 20, 21, 22, 23], [], [25], [25, 26], [25, 26, 27], [], [29], [29, 30], [25, 26, 27, 28, 29, 30, 31], [18, 19, 20, 21, 22, 23, 24, 25, 26, 27, 28, 29, 30, 31, 32], [0, 1, 2, 3, 4, 5, 6, 7, 8, 9, 10, 11, 12, 13, 14, 15, 16, 17, 18, 19, 20, 21, 22, 23, 24, 25, 26, 27, 28, 29, 30, 31, 32, 33], [], [], [35, 36], [35, 36, 37], [0, 1, 2, 3, 4, 5, 6, 7, 8, 9, 10, 11, 12, 13, 14, 15, 16, 17, 18, 19, 20, 21, 22, 23, 24, 25, 26, 27, 28, 29, 30, 31, 32, 33, 34, 35, 36, 37, 38], [], [], [40, 41], [40, 41, 42]] ++ [List.range 44, List.range 45]) [] (by kernel_rfl) (by exact alQ) ?_
   refine spQA (And.intro ha9 (And.intro ha12 ha17)) ?_
   refine hbindC_intro omQ ?_
   have he20 : ∀ d, elt (p17.2.map (V.int .u32)) 7 d = (V.int .u32) (gt p17.2 7) := fun d => elt_mp (l := p17.2) (f := (V.int .u32)) (i := 7) omQ d
   refine spQA (And.intro ha9 (And.intro ha12 (And.intro ha17 he20))) ?_
   refine hbindC_intro omQ ?_
   refine spQA (And.intro ha9 (And.intro ha12 (And.intro ha17 he20))) ?_
   refine hbindC_intro omQ ?_
   have he21 : ∀ d, elt (p17.2.map (V.int .u32)) 4 d = (V.int .u32) (gt p17.2 4) := fun d => elt_mp (l := p17.2) (f := (V.int .u32)) (i := 4) omQ d
   refine spQA (And.intro ha9 (And.intro ha12 (And.intro ha17 (And.intro he20 he21)))) ?_
   refine hbindC_intro omQ ?_
   refine spQA (And.intro ha9 (And.intro ha12 (And.intro ha17 (And.intro he20 he21)))) ?_
   have hM0 := hM; clear hM; obtain ⟨x22, hx23, hM⟩ := letk_opn hM0; clear hM0
   have hcx22 := cmH hx23 (specieref06_right_ok  (gt p17.2 4) 6 (by (exact pfQ)) (by (exact pfQ)))
   refine hcallC_give hcx22 (clQA (And.intro ha9 (And.intro ha12 (And.intro ha17 (And.intro he20 he21))))) (clQA (And.intro ha9 (And.intro ha12 (And.intro ha17 (And.intro he20 he21))))) ?_
   refine spQA (And.intro ha9 (And.intro ha12 (And.intro ha17 (And.intro he20 he21)))) ?_
   refine hbindC_intro omQ ?_
   refine spQA (And.intro ha9 (And.intro ha12 (And.intro ha17 (And.intro he20 he21)))) ?_
   refine hbindC_intro omQ ?_
   refine spQA (And.intro ha9 (And.intro ha12 (And.intro ha17 (And.intro he20 he21)))) ?_
   have hM0 := hM; clear hM; obtain ⟨x24, hx25, hM⟩ := letk_opn hM0; clear hM0
   have hcx24 := cmH hx25 (specieref06_right_ok  (gt p17.2 4) 11 (by (exact pfQ)) (by (exact pfQ)))
   refine hcallC_give hcx24 (clQA (And.intro ha9 (And.intro ha12 (And.intro ha17 (And.intro he20 he21))))) (clQA (And.intro ha9 (And.intro ha12 (And.intro ha17 (And.intro he20 he21))))) ?_
   refine spQA (And.intro ha9 (And.intro ha12 (And.intro ha17 (And.intro he20 he21)))) ?_
   refine hbindC_intro omQ ?_
   refine spQA (And.intro ha9 (And.intro ha12 (And.intro ha17 (And.intro he20 he21)))) ?_
   refine hbindC_intro omQ ?_
   refine spQA (And.intro ha9 (And.intro ha12 (And.intro ha17 (And.intro he20 he21)))) ?_
   have hM0 := hM; clear hM; obtain ⟨x26, hx27, hM⟩ := letk_opn hM0; clear hM0
   have hcx26 := cmH hx27 (specieref06_right_ok  (gt p17.2 4) 25 (by (exact pfQ)) (by (exact pfQ)))
   refine hcallC_give hcx26 (clQA (And.intro ha9 (And.intro ha12 (And.intro ha17 (And.intro he20 he21))))) (clQA (And.intro ha9 (And.intro ha12 (And.intro ha17 (And.intro he20 he21))))) ?_
   refine spQA (And.intro ha9 (And.intro ha12 (And.intro ha17 (And.intro he20 he21)))) ?_
   refine hbindC_intro omQ ?_
   refine spQA (And.intro ha9 (And.intro ha12 (And.intro ha17 (And.intro he20 he21)))) ?_
   refine hbindC_intro omQ ?_
   refine spQA (And.intro ha9 (And.intro ha12 (And.intro ha17 (And.intro he20 he21)))) ?_
   refine hbindC_intro omQ ?_
   have he28 : ∀ d, elt (p17.2.map (V.int .u32)) 5 d = (V.int .u32) (gt p17.2 5) := fun d => elt_mp (l := p17.2) (f := (V.int .u32)) (i := 5) omQ d
   refine spQA (And.intro ha9 (And.intro ha12 (And.intro ha17 (And.intro he20 (And.intro he21 he28))))) ?_
   refine hbindC_intro omQ ?_
   refine spQA (And.intro ha9 (And.intro ha12 (And.intro ha17 (And.intro he20 (And.intro he21 he28))))) ?_
   refine hbindC_intro omQ ?_
   refine spQA (And.intro ha9 (And.intro ha12 (And.intro ha17 (And.intro he20 (And.intro he21 he28))))) ?_
   refine hbindC_intro omQ ?_
   refine spQA (And.intro ha9 (And.intro ha12 (And.intro ha17 (And.intro he20 (And.intro he21 he28))))) ?_
   refine hbindC_intro omQ ?_
   have he29 : ∀ d, elt (p17.2.map (V.int .u32)) 6 d = (V.int .u32) (gt p17.2 6) := fun d => elt_mp (l := p17.2) (f := (V.int .u32)) (i := 6) omQ d
   refine spQA (And.intro ha9 (And.intro ha12 (And.intro ha17 (And.intro he20 (And.intro he21 (And.intro he28 he29)))))) ?_
   refine hbindC_intro omQ ?_
   refine spQA (And.intro ha9 (And.intro ha12 (And.intro ha17 (And.intro he20 (And.intro he21 (And.intro he28 he29)))))) ?_
   refine hbindC_intro omQ ?_
   have he30 := fun d => elt_mp (l := x1) (f := (V.int .u32)) (i := p17.1) omQ d
   refine spQA (And.intro ha9 (And.intro ha12 (And.intro ha17 (And.intro he20 (And.intro he21 (And.intro he28 (And.intro he29 he30))))))) ?_
   refine hbindC_intro omQ ?_
   have he31 := fun d => elt_mp (l := x13) (f := (V.int .u32)) (i := p17.1) omQ d
   refine spQA (And.intro ha9 (And.intro ha12 (And.intro ha17 (And.intro he20 (And.intro he21 (And.intro he28 (And.intro he29 (And.intro he30 he31)))))))) ?_
   refine ct_draw 182 37 [83, 84, 85, 86, 87, 88, 89, 90, 91, 92, 93, 94, 95, 96, 97, 98, 99, 100, 101, 102, 103, 104, 105, 106, 107, 108, 109, 110, 111, 112, 113, 114, 115, 116, 117, 118, 119] [] ([[], [0], [0, 1], [0, 1, 2], [], [4], [4, 5], [4, 5, 6], [0, 1, 2, 3, 4, 5, 6, 7], [], [9], [9, 10], [9, 10, 11], [0, 1, 2, 3, 4, 5, 6, 7, 8, 9, 10, 11, 12], [], [14], [14, 15], [], [17], [17, 18], [14, 15, 16, 17, 18, 19], [], [21], [21, 22], [], [24], [24, 25], [21, 22, 23, 24, 25, 26], [14, 15, 16, 17, 18, 19, 20, 21, 22, 23, 24, 25, 26, 27], [], [29], [29, 30], [], [32], [32, 33], [29, 30, 31, 32, 33, 34], [14, 15, 16, 17, 18, 19, 20, 21, 22, 23, 24, 25, 26, 27, 28, 29, 30, 31, 32, 33, 34, 35]] ++ [List.range 37, List.range 38]) [] (by kernel_rfl) (by exact alQ) ?_
   refine spQA (And.intro ha9 (And.intro ha12 (And.intro ha17 (And.intro he20 (And.intro he21 (And.intro he28 (And.intro he29 (And.intro he30 he31)))))))) ?_
   refine hbindC_intro omQ ?_
   have he32 : ∀ d, elt (p17.2.map (V.int .u32)) 0 d = (V.int .u32) (gt p17.2 0) := fun d => elt_mp (l := p17.2) (f := (V.int .u32)) (i := 0) omQ d
   refine spQA (And.intro ha9 (And.intro ha12 (And.intro ha17 (And.intro he20 (And.intro he21 (And.intro he28 (And.intro he29 (And.intro he30 (And.intro he31 he32))))))))) ?_
   refine hbindC_intro omQ ?_
   refine spQA (And.intro ha9 (And.intro ha12 (And.intro ha17 (And.intro he20 (And.intro he21 (And.intro he28 (And.intro he29 (And.intro he30 (And.intro he31 he32))))))))) ?_
   have hM0 := hM; clear hM; obtain ⟨x33, hx34, hM⟩ := letk_opn hM0; clear hM0
   have hcx33 := cmH hx34 (specieref06_right_ok  (gt p17.2 0) 2 (by (exact pfQ)) (by (exact pfQ)))
   refine hcallC_give hcx33 (clQA (And.intro ha9 (And.intro ha12 (And.intro ha17 (And.intro he20 (And.intro he21 (And.intro he28 (And.intro he29 (And.intro he30 (And.intro he31 he32)))))))))) (clQA (And.intro ha9 (And.intro ha12 (And.intro ha17 (And.intro he20 (And.intro he21 (And.intro he28 (And.intro he29 (And.intro he30 (And.intro he31 he32)))))))))) ?_
   refine spQA (And.intro ha9 (And.intro ha12 (And.intro ha17 (And.intro he20 (And.intro he21 (And.intro he28 (And.intro he29 (And.intro he30 (And.intro he31 he32))))))))) ?_
   refine hbindC_intro omQ ?_
   refine spQA (And.intro ha9 (And.intro ha12 (And.intro ha17 (And.intro he20 (And.intro he21 (And.intro he28 (And.intro he29 (And.intro he30 (And.intro he31 he32))))))))) ?_
   refine hbindC_intro omQ ?_
   refine spQA (And.intro ha9 (And.intro ha12 (And.intro ha17 (And.intro he20 (And.intro he21 (And.intro he28 (And.intro he29 (And.intro he30 (And.intro he31 he32))))))))) ?_
   have hM0 := hM; clear hM; obtain ⟨x35, hx36, hM⟩ := letk_opn hM0; clear hM0
   have hcx35 := cmH hx36 (specieref06_right_ok  (gt p17.2 0) 13 (by (exact pfQ)) (by (exact pfQ)))
   refine hcallC_give hcx35 (clQA (And.intro ha9 (And.intro ha12 (And.intro ha17 (And.intro he20 (And.intro he21 (And.intro he28 (And.intro he29 (And.intro he30 (And.intro he31 he32)))))))))) (clQA (And.intro ha9 (And.intro ha12 (And.intro ha17 (And.intro he20 (And.intro he21 (And.intro he28 (And.intro he29 (And.intro he30 (And.intro he31 he32)))))))))) ?_
   refine spQA (And.intro ha9 (And.intro ha12 (And.intro ha17 (And.intro he20 (And.intro he21 (And.intro he28 (And.intro he29 (And.intro he30 (And.intro he31 he32))))))))) ?_
   refine hbindC_intro omQ ?_
   refine spQA (And.intro ha9 (And.intro ha12 (And.intro ha17 (And.intro he20 (And.intro he21 (And.intro he28 (And.intro he29 (And.intro he30 (And.intro he31 he32))))))))) ?_
   refine hbindC_intro omQ ?_
   refine spQA (And.intro ha9 (And.intro ha12 (And.intro ha17 (And.intro he20 (And.intro he21 (And.intro he28 (And.intro he29 (And.intro he30 (And.intro he31 he32))))))))) ?_
   have hM0 := hM; clear hM; obtain ⟨x37, hx38, hM⟩ := letk_opn hM0; clear hM0
   have hcx37 := cmH hx38 (specieref06_right_ok  (gt p17.2 0) 22 (by (exact pfQ)) (by (exact pfQ)))
   refine hcallC_give hcx37 (clQA (And.intro ha9 (And.intro ha12 (And.intro ha17 (And.intro he20 (And.intro he21 (And.intro he28 (And.intro he29 (And.intro he30 (And.intro he31 he32)))))))))) (clQA (And.intro ha9 (And.intro ha12 (And.intro ha17 (And.intro he20 (And.intro he21 (And.intro he28 (And.intro he29 (And.intro he30 (And.intro he31 he32)))))))))) ?_
   refine spQA (And.intro ha9 (And.intro ha12 (And.intro ha17 (And.intro he20 (And.intro he21 (And.intro he28 (And.intro he29 (And.intro he30 (And.intro he31 he32))))))))) ?_
   refine hbindC_intro omQ ?_
   refine spQA (And.intro ha9 (And.intro ha12 (And.intro ha17 (And.intro he20 (And.intro he21 (And.intro he28 (And.intro he29 (And.intro he30 (And.intro he31 he32))))))))) ?_
   refine hbindC_intro omQ ?_
   refine spQA (And.intro ha9 (And.intro ha12 (And.intro ha17 (And.intro he20 (And.intro he21 (And.intro he28 (And.intro he29 (And.intro he30 (And.intro he31 he32))))))))) ?_
   refine hbindC_intro omQ ?_
   have he39 : ∀ d, elt (p17.2.map (V.int .u32)) 1 d = (V.int .u32) (gt p17.2 1) := fun d => elt_mp (l := p17.2) (f := (V.int .u32)) (i := 1) omQ d
   refine spQA (And.intro ha9 (And.intro ha12 (And.intro ha17 (And.intro he20 (And.intro he21 (And.intro he28 (And.intro he29 (And.intro he30 (And.intro he31 (And.intro he32 he39)))))))))) ?_
   refine hbindC_intro omQ ?_
   refine spQA (And.intro ha9 (And.intro ha12 (And.intro ha17 (And.intro he20 (And.intro he21 (And.intro he28 (And.intro he29 (And.intro he30 (And.intro he31 (And.intro he32 he39)))))))))) ?_
   refine hbindC_intro omQ ?_
   refine spQA (And.intro ha9 (And.intro ha12 (And.intro ha17 (And.intro he20 (And.intro he21 (And.intro he28 (And.intro he29 (And.intro he30 (And.intro he31 (And.intro he32 he39)))))))))) ?_
   refine hbindC_intro omQ ?_
   refine spQA (And.intro ha9 (And.intro ha12 (And.intro ha17 (And.intro he20 (And.intro he21 (And.intro he28 (And.intro he29 (And.intro he30 (And.intro he31 (And.intro he32 he39)))))))))) ?_
   refine hbindC_intro omQ ?_
   have he40 : ∀ d, elt (p17.2.map (V.int .u32)) 2 d = (V.int .u32) (gt p17.2 2) := fun d => elt_mp (l := p17.2) (f := (V.int .u32)) (i := 2) omQ d
   refine spQA (And.intro ha9 (And.intro ha12 (And.intro ha17 (And.intro he20 (And.intro he21 (And.intro he28 (And.intro he29 (And.intro he30 (And.intro he31 (And.intro he32 (And.intro he39 he40))))))))))) ?_
   refine hbindC_intro omQ ?_
   refine spQA (And.intro ha9 (And.intro ha12 (And.intro ha17 (And.intro he20 (And.intro he21 (And.intro he28 (And.intro he29 (And.intro he30 (And.intro he31 (And.intro he32 (And.intro he39 he40))))))))))) ?_
   refine hbindC_intro omQ ?_
   refine spQA (And.intro ha9 (And.intro ha12 (And.intro ha17 (And.intro he20 (And.intro he21 (And.intro he28 (And.intro he29 (And.intro he30 (And.intro he31 (And.intro he32 (And.intro he39 he40))))))))))) ?_
   refine hbindC_intro omQ ?_
   refine spQA (And.intro ha9 (And.intro ha12 (And.intro ha17 (And.intro he20 (And.intro he21 (And.intro he28 (And.intro he29 (And.intro he30 (And.intro he31 (And.intro he32 (And.intro he39 he40))))))))))) ?_
   refine hbindC_intro omQ ?_
   refine spQA (And.intro ha9 (And.intro ha12 (And.intro ha17 (And.intro he20 (And.intro he21 (And.intro he28 (And.intro he29 (And.intro he30 (And.intro he31 (And.intro he32 (And.intro he39 he40))))))))))) ?_
   refine hbindC_intro omQ ?_
   refine spQA (And.intro ha9 (And.intro ha12 (And.intro ha17 (And.intro he20 (And.intro he21 (And.intro he28 (And.intro he29 (And.intro he30 (And.intro he31 (And.intro he32 (And.intro he39 he40))))))))))) ?_
   refine ct_draw 182 26 [121, 122, 123, 124, 125, 126, 127, 128, 129, 130, 131, 132, 133, 134, 135, 136, 137, 138, 139, 140, 141, 142, 143, 144, 145, 146] [] ([[], [], [0, 1], [], [3], [3, 4], [], [6], [6, 7], [], [9], [9, 10], [], [12], [12, 13], [], [12, 13, 14, 15], [], [17], [17, 18], [], [20], [20, 21], [], [23], [23, 24]] ++ [List.range 26, List.range 27]) [] (by kernel_rfl) (by exact alQ) ?_
   refine spQA (And.intro ha9 (And.intro ha12 (And.intro ha17 (And.intro he20 (And.intro he21 (And.intro he28 (And.intro he29 (And.intro he30 (And.intro he31 (And.intro he32 (And.intro he39 he40))))))))))) ?_
   refine hbindC_intro omQ ?_
   refine spQA (And.intro ha9 (And.intro ha12 (And.intro ha17 (And.intro he20 (And.intro he21 (And.intro he28 (And.intro he29 (And.intro he30 (And.intro he31 (And.intro he32 (And.intro he39 he40))))))))))) ?_
   refine hbindC_intro omQ ?_
   refine spQA (And.intro ha9 (And.intro ha12 (And.intro ha17 (And.intro he20 (And.intro he21 (And.intro he28 (And.intro he29 (And.intro he30 (And.intro he31 (And.intro he32 (And.intro he39 he40))))))))))) ?_
   refine hbindC_intro omQ ?_
   refine spQA (And.intro ha9 (And.intro ha12 (And.intro ha17 (And.intro he20 (And.intro he21 (And.intro he28 (And.intro he29 (And.intro he30 (And.intro he31 (And.intro he32 (And.intro he39 he40))))))))))) ?_
   refine hbindC_intro omQ ?_
   refine spQA (And.intro ha9 (And.intro ha12 (And.intro ha17 (And.intro he20 (And.intro he21 (And.intro he28 (And.intro he29 (And.intro he30 (And.intro he31 (And.intro he32 (And.intro he39 he40))))))))))) ?_
   refine hbindC_intro omQ ?_
   refine spQA (And.intro ha9 (And.intro ha12 (And.intro ha17 (And.intro he20 (And.intro he21 (And.intro he28 (And.intro he29 (And.intro he30 (And.intro he31 (And.intro he32 (And.intro he39 he40))))))))))) ?_
   refine hbindC_intro omQ ?_
   refine spQA (And.intro ha9 (And.intro ha12 (And.intro ha17 (And.intro he20 (And.intro he21 (And.intro he28 (And.intro he29 (And.intro he30 (And.intro he31 (And.intro he32 (And.intro he39 he40))))))))))) ?_
   refine hbindC_intro omQ ?_
   have he41 : ∀ d, elt (p17.2.map (V.int .u32)) 3 d = (V.int .u32) (gt p17.2 3) := fun d => elt_mp (l := p17.2) (f := (V.int .u32)) (i := 3) omQ d
   refine spQA (And.intro ha9 (And.intro ha12 (And.intro ha17 (And.intro he20 (And.intro he21 (And.intro he28 (And.intro he29 (And.intro he30 (And.intro he31 (And.intro he32 (And.intro he39 (And.intro he40 he41)))))))))))) ?_
   refine hbindC_intro omQ ?_
   refine spQA (And.intro ha9 (And.intro ha12 (And.intro ha17 (And.intro he20 (And.intro he21 (And.intro he28 (And.intro he29 (And.intro he30 (And.intro he31 (And.intro he32 (And.intro he39 (And.intro he40 he41)))))))))))) ?_
   refine hbindC_intro omQ ?_
   refine spQA (And.intro ha9 (And.intro ha12 (And.intro ha17 (And.intro he20 (And.intro he21 (And.intro he28 (And.intro he29 (And.intro he30 (And.intro he31 (And.intro he32 (And.intro he39 (And.intro he40 he41)))))))))))) ?_
   refine hbindC_intro omQ ?_
   refine spQA (And.intro ha9 (And.intro ha12 (And.intro ha17 (And.intro he20 (And.intro he21 (And.intro he28 (And.intro he29 (And.intro he30 (And.intro he31 (And.intro he32 (And.intro he39 (And.intro he40 he41)))))))))))) ?_
   refine hbindC_intro omQ ?_
   refine spQA (And.intro ha9 (And.intro ha12 (And.intro ha17 (And.intro he20 (And.intro he21 (And.intro he28 (And.intro he29 (And.intro he30 (And.intro he31 (And.intro he32 (And.intro he39 (And.intro he40 he41)))))))))))) ?_
   refine hbindC_intro omQ ?_
   refine spQA (And.intro ha9 (And.intro ha12 (And.intro ha17 (And.intro he20 (And.intro he21 (And.intro he28 (And.intro he29 (And.intro he30 (And.intro he31 (And.intro he32 (And.intro he39 (And.intro he40 he41)))))))))))) ?_
   refine hbindC_intro omQ ?_
   refine spQA (And.intro ha9 (And.intro ha12 (And.intro ha17 (And.intro he20 (And.intro he21 (And.intro he28 (And.intro he29 (And.intro he30 (And.intro he31 (And.intro he32 (And.intro he39 (And.intro he40 he41)))))))))))) ?_
   refine hbindC_intro omQ ?_
   refine spQA (And.intro ha9 (And.intro ha12 (And.intro ha17 (And.intro he20 (And.intro he21 (And.intro he28 (And.intro he29 (And.intro he30 (And.intro he31 (And.intro he32 (And.intro he39 (And.intro he40 he41)))))))))))) ?_
   refine lp_introW (n17 - 1) _ _ (by omega) (weak_ren (S := ⟨_, _, _⟩) 8 2 110 (T := 146) (n := 1) (g := false) (z := (some false)) (l := ([(addI .u32 (addI .u32 (addI .u32 (addI .u32 (addI .u32 (gt p17.2 7) (xorI .u32 (xorI .u32 x22 x24) x26)) (xorI .u32 (andI .u32 (gt p17.2 4) (gt p17.2 5)) (andI .u32 (notI .u32 (gt p17.2 4)) (gt p17.2 6)))) (gt x1 p17.1)) (gt x13 p17.1)) (addI .u32 (xorI .u32 (xorI .u32 x33 x35) x37) (xorI .u32 (xorI .u32 (andI .u32 (gt p17.2 0) (gt p17.2 1)) (andI .u32 (gt p17.2 0) (gt p17.2 2))) (andI .u32 (gt p17.2 1) (gt p17.2 2))))), (gt p17.2 0), (gt p17.2 1), (gt p17.2 2), (addI .u32 (gt p17.2 3) (addI .u32 (addI .u32 (addI .u32 (addI .u32 (gt p17.2 7) (xorI .u32 (xorI .u32 x22 x24) x26)) (xorI .u32 (andI .u32 (gt p17.2 4) (gt p17.2 5)) (andI .u32 (notI .u32 (gt p17.2 4)) (gt p17.2 6)))) (gt x1 p17.1)) (gt x13 p17.1))), (gt p17.2 4), (gt p17.2 5), (gt p17.2 6)] : List Int).map (V.int .u32)) (clQA (And.intro ha9 (And.intro ha12 (And.intro ha17 (And.intro he20 (And.intro he21 (And.intro he28 (And.intro he29 (And.intro he30 (And.intro he31 (And.intro he32 (And.intro he39 (And.intro he40 he41))))))))))))) (clQA (And.intro ha9 (And.intro ha12 (And.intro ha17 (And.intro he20 (And.intro he21 (And.intro he28 (And.intro he29 (And.intro he30 (And.intro he31 (And.intro he32 (And.intro he39 (And.intro he40 he41))))))))))))) (by first | decide | (dsimp only; decide)) (by decide)) sbQ sbQ ⟨((p17.1 + 1), ([(addI .u32 (addI .u32 (addI .u32 (addI .u32 (addI .u32 (gt p17.2 7) (xorI .u32 (xorI .u32 x22 x24) x26)) (xorI .u32 (andI .u32 (gt p17.2 4) (gt p17.2 5)) (andI .u32 (notI .u32 (gt p17.2 4)) (gt p17.2 6)))) (gt x1 p17.1)) (gt x13 p17.1)) (addI .u32 (xorI .u32 (xorI .u32 x33 x35) x37) (xorI .u32 (xorI .u32 (andI .u32 (gt p17.2 0) (gt p17.2 1)) (andI .u32 (gt p17.2 0) (gt p17.2 2))) (andI .u32 (gt p17.2 1) (gt p17.2 2))))), (gt p17.2 0), (gt p17.2 1), (gt p17.2 2), (addI .u32 (gt p17.2 3) (addI .u32 (addI .u32 (addI .u32 (addI .u32 (gt p17.2 7) (xorI .u32 (xorI .u32 x22 x24) x26)) (xorI .u32 (andI .u32 (gt p17.2 4) (gt p17.2 5)) (andI .u32 (notI .u32 (gt p17.2 4)) (gt p17.2 6)))) (gt x1 p17.1)) (gt x13 p17.1))), (gt p17.2 4), (gt p17.2 5), (gt p17.2 6)] : List Int)), rfl, ⟨omQ, omQ, omQ, omQ⟩, omQ, iter_again hM hag17⟩
  ·rw [if_neg (ne_true h18)] at hM
   refine spQA (And.intro ha9 (And.intro ha12 (And.intro ha17 h18))) ?_
   have nh18 := nzQ h18
   try have hr42 := mpQ nh18
   have hM0 := hM; clear hM; obtain ⟨f43, d43, hf43, hd43, hM⟩ := iter_opn hM0; clear hM0
   refine ct_loop (fun n S => ∃ p : Int × List Int, S = (⟨[(2, .ptr 0 0), (3, .own 1), (4, .sl none 1 false (x1.map (V.int .u32))), (5, .sl none 1 false (x5.map (V.int .u8))), (6, .int .i64 p9.1), (8, .own 2), (12, .int .i64 p.1)], [(0, .var 32 true (zv_31)), (1, .own 146 1 false none (p.2.map (V.int .u32))), (2, .own 146 1 false none (p17.2.map (V.int .u32)))], 3⟩ : St) ∧ ((0 ≤ p.1) ∧ (p.1 ≤ 8) ∧ ((p.2).length = (p9.2).length)) ∧ ((8 : Int) - p.1).toNat < n ∧ iter n f43 d43 p = r) (((8 : Int) - 0).toNat + 1) _ sbQ sbQ ⟨(0, p9.2), rfl, ⟨omQ, omQ, omQ⟩, (Nat.lt_succ_self _), hM⟩ ?_
   clear hM
   rintro n43 S ⟨p43, rfl, hfa43, hm43, hM⟩
   have hM0 := hM; clear hM; obtain ⟨ag43, hag43, hM⟩ := iter_step hM0 (by omega) hf43; clear hM0
   replace hfa43 := nzQ hfa43
   replace hm43 := nzQ hm43
   have ha43 : addI .i64 p43.1 1 = p43.1 + 1 := add_one omQ omQ
   refine spQA (And.intro ha9 (And.intro ha12 (And.intro ha17 ha43))) ?_
   have hF := (And.intro ha9 (And.intro h10 (And.intro ha12 (And.intro ha17 (And.intro h18 ha43)))))
   exact auQ
 ·rw [if_neg (ne_true h10)] at hM
  refine spQA (And.intro ha9 h10) ?_
  have nh10 := nzQ h10
  try have hr50 := mpQ nh10
  have hM0 := hM; clear hM; obtain ⟨f51, d51, hf51, hd51, hM⟩ := iter_opn hM0; clear hM0
  refine ct_loop (fun n S => ∃ p : Int × (List Int), S = (⟨[(2, .ptr 0 0), (3, .own 1), (13, .ptr 2 0), (14, .int .i64 p.1)], [(0, .var 32 true (zv_31)), (1, .own 146 1 false none (p9.2.map (V.int .u32))), (2, .var 32 true ((e_arr31 p.2)))], 3⟩ : St) ∧ ((0 ≤ p.1) ∧ (p.1 ≤ 32)) ∧ ((32 : Int) - p.1).toNat < n ∧ iter n f51 d51 p = r) (((32 : Int) - 0).toNat + 1) _ sbQ (by simp only [go_sem, rowV_eq, rowV_eq0, List.length_replicate, rep_len, Int.toNat_natCast, ↓reduceIte, Nat.reduceEqDiff, Nat.reduceAdd, Int.reduceAdd, Nat.reduceMul, Nat.reduceLeDiff, Nat.reduceLT, Int.reduceLE, Int.reduceLT, Int.reduceNeg, Int.reduceToNat, map_st, mtL_repE, mtL_repM, subF, subH, mtO, mtB, mt, mtL, mtL_self, mt_self, ltV, ltL, ltB, eq_self, or_true, true_or, or_self, and_self, gt_cons0, gt_conss, Int.reduceSub]) ⟨(0, [0, 0, 0, 0, 0, 0, 0, 0, 0, 0, 0, 0, 0, 0, 0, 0, 0, 0, 0, 0, 0, 0, 0, 0, 0, 0, 0, 0, 0, 0, 0, 0]), rfl, ⟨omQ, omQ⟩, (Nat.lt_succ_self _), hM⟩ ?_
  clear hM
  rintro n51 S ⟨p51, rfl, hfa51, hm51, hM⟩
  have hM0 := hM; clear hM; obtain ⟨ag51, hag51, hM⟩ := iter_step hM0 (by omega) hf51; clear hM0
  replace hfa51 := nzQ hfa51
  replace hm51 := nzQ hm51
  have ha51 : addI .i64 p51.1 1 = p51.1 + 1 := add_one omQ omQ
  refine spQA (And.intro ha9 ha51) ?_
  refine condC_intro (fun h52 => ?_) (fun h52 => ?_)
  ·rw [if_pos h52] at hM
   refine spQA (And.intro ha9 (And.intro ha51 h52)) ?_
   have nh52 := nzQ h52
   try have hr53 := mpQ nh52
   have ha54 : quoI .i64 p51.1 4 = (p51.1 / 4) := quo_ok omQ omQ
   try simp only [ha54]
   refine bindC_intro omQ ?_
   refine spQA (And.intro ha9 (And.intro ha51 ha54)) ?_
   refine bindC_intro omQ ?_
   have he55 := fun d => elt_mp (l := p9.2) (f := (V.int .u32)) (i := (p51.1 / 4)) omQ d
   refine spQA (And.intro ha9 (And.intro ha51 (And.intro ha54 he55))) ?_
   refine bindC_intro omQ ?_
   refine spQA (And.intro ha9 (And.intro ha51 (And.intro ha54 he55))) ?_
   have ha56 : remI .i64 p51.1 4 = (p51.1 % 4) := rem_ok omQ omQ
   try simp only [ha56]
   refine bindC_intro omQ ?_
   refine spQA (And.intro ha9 (And.intro ha51 (And.intro ha54 (And.intro he55 ha56)))) ?_
   obtain ⟨ha57, hbha57⟩ := mul_pos_ok (a := 8) (b := (p51.1 % 4)) 8 64 512 omQ omQ omQ omQ (by decide) (by decide)
   try simp only [ha57]
   have ha58 : subI .i64 24 (8 * (p51.1 % 4)) = (24 - (8 * (p51.1 % 4))) := sub_ok omQ omQ
   try simp only [ha58]
   refine bindC_intro omQ ?_
   refine spQA (And.intro ha9 (And.intro ha51 (And.intro ha54 (And.intro he55 (And.intro ha56 (And.intro ha57 ha58)))))) ?_
   refine bindC_intro omQ ?_
   have he59 : ((p51.1).toNat * 1 + 1 ≤ 32) = True := eq_true omQ
   refine spQA (And.intro ha9 (And.intro ha51 (And.intro ha54 (And.intro he55 (And.intro ha56 (And.intro ha57 (And.intro ha58 he59))))))) ?_
   have he60 := arr_put (f := (V.int .u8)) (l := (arrN 32 p51.2)) (n := 32) (i := p51.1) (v := (convI .u8 (shrI .u32 (gt p9.2 (p51.1 / 4)) (24 - (8 * (p51.1 % 4)))))) arrN_len omQ
   replace he60 := spR he60
   refine spQA (And.intro ha9 (And.intro ha51 (And.intro ha54 (And.intro he55 (And.intro ha56 (And.intro ha57 (And.intro ha58 (And.intro he59 he60)))))))) ?_
   refine lp_intro (n51 - 1) _ (by omega) sbQ (by simp only [go_sem, rowV_eq, rowV_eq0, List.length_replicate, rep_len, Int.toNat_natCast, ↓reduceIte, Nat.reduceEqDiff, Nat.reduceAdd, Int.reduceAdd, Nat.reduceMul, Nat.reduceLeDiff, Nat.reduceLT, Int.reduceLE, Int.reduceLT, Int.reduceNeg, Int.reduceToNat, map_st, mtL_repE, mtL_repM, subF, subH, mtO, mtB, mt, mtL, mtL_self, mt_self, ltV, ltL, ltB, eq_self, or_true, true_or, or_self, and_self, gt_cons0, gt_conss, Int.reduceSub]) ⟨((p51.1 + 1), (arrN 32 (st (arrN 32 p51.2) p51.1 (convI .u8 (shrI .u32 (gt p9.2 (p51.1 / 4)) (24 - (8 * (p51.1 % 4)))))))), rfl, ⟨omQ, omQ⟩, omQ, iter_again hM hag51⟩
  ·rw [if_neg (ne_true h52)] at hM
   refine spQA (And.intro ha9 (And.intro ha51 h52)) ?_
   have nh52 := nzQ h52
   try have hr61 := mpQ nh52
   subst hM
   exact retC_view (lfQA (And.intro ha9 (And.intro ha51 (And.intro h10 h52))))
set_option maxHeartbeats 2000000 in
set_option maxRecDepth 100000 in
theorem specieref06_Join_ok   (b : (List Int)) (h_ : (List Int)) (hp0 : b.length ≤ 1000000000) : CM En (specieref06_Join b h_) 114 [.sl none 1 false (b.map (V.int .u8)), (e_arr31 h_)] (fun _ => .own 0) (fun y => [.own 5 1 false none (y.map (V.int .u8))]) := by
 refine cmQ fun r hM => ?_
 rw [specieref06_Join.eq_1] at hM
 refine enterV En_ok En_mo noJ Tryz.func114 rfl Tryz.ntmps114 (by kernel_rfl) fun hw => ct_start ?_
 refine spQ ?_
 replace hw := nzQ hw
 refine bindC_intro omQ ?_
 refine spQ ?_
 have hM0 := hM; clear hM; obtain ⟨f1, d1, hf1, hd1, hM⟩ := iter_opn hM0; clear hM0
 refine ct_loop (fun n S => ∃ p : Int × List Int, S = (⟨[(3, .ptr 0 0), (5, .own 1), (6, .int .i64 p.1)], [(0, .var 32 true ((e_arr31 h_))), (1, .own 5 1 false none (p.2.map (V.int .u8)))], 2⟩ : St) ∧ ((0 ≤ p.1) ∧ (p.1 ≤ 32) ∧ (((p.2).length : Int) ≤ p.1 + ((([] : List Int) ++ b)).length)) ∧ ((32 : Int) - p.1).toNat < n ∧ iter n f1 d1 p = r) (((32 : Int) - 0).toNat + 1) _ sbQ sbQ ⟨(0, (([] : List Int) ++ b)), rfl, ⟨omQ, omQ, omQ⟩, (Nat.lt_succ_self _), hM⟩ ?_
 clear hM
 rintro n1 S ⟨p1, rfl, hfa1, hm1, hM⟩
 have hM0 := hM; clear hM; obtain ⟨ag1, hag1, hM⟩ := iter_step hM0 (by omega) hf1; clear hM0
 replace hfa1 := nzQ hfa1
 replace hm1 := nzQ hm1
 have ha1 : addI .i64 p1.1 1 = p1.1 + 1 := add_one omQ omQ
 refine spQA ha1 ?_
 refine condC_intro (fun h2 => ?_) (fun h2 => ?_)
 ·rw [if_pos h2] at hM
  refine spQA (And.intro ha1 h2) ?_
  have nh2 := nzQ h2
  try have hr3 := mpQ nh2
  refine bindC_intro omQ ?_
  have he4 : ((p1.1).toNat * 1 + 1 ≤ 32) = True := eq_true omQ
  refine spQA (And.intro ha1 he4) ?_
  have he5 := arr_get (f := (V.int .u8)) (l := h_) (n := 32) (i := p1.1) omQ
  replace he5 := spR he5
  try refine spQA (And.intro ha1 (And.intro he4 he5)) ?_
  have hF := (And.intro ha1 (And.intro h2 (And.intro he4 he5)))
  exact auQ
 ·rw [if_neg (ne_true h2)] at hM
  refine spQA (And.intro ha1 h2) ?_
  have nh2 := nzQ h2
  try have hr6 := mpQ nh2
  subst hM
  exact retC_owns [1] (bs := [.own 5 1 false none (p1.2.map (V.int .u8))]) (clQA ha1) (by decide) (lfQA (And.intro ha1 h2))
set_option maxHeartbeats 2000000 in
set_option maxRecDepth 100000 in
theorem specieref06_Tagged_ok   (tag : (List UInt8)) (b : (List Int)) (hp0 : b.length ≤ 900000000) (hp1 : tag.length ≤ 1000) : CM En (specieref06_Tagged tag b) 88 [.str tag, .sl none 1 false (b.map (V.int .u8))] (fun y => (e_arr31 y)) (fun _ => []) := by
 refine cmQ fun r hM => ?_
 rw [specieref06_Tagged.eq_1] at hM
 refine enterV En_ok En_mo noJ Tryz.func88 rfl Tryz.ntmps88 (by kernel_rfl) fun hw => ct_start ?_
 refine spQ ?_
 replace hw := nzQ hw
 have hM0 := hM; clear hM; obtain ⟨x1, hx2, hM⟩ := letk_opn hM0; clear hM0
 have hcx1 := cmH hx2 (specieref06_Sum_ok  (nat8 tag) (by (exact pfQ)))
 refine callC_look hcx1 clQ clQ (fun hw3 => ?_)
 replace hw3 := nzQ hw3
 refine spQ ?_
 refine ct_draw 16 5 [9, 10, 11, 12, 13] [] ([[], [0], [], [0, 1, 2], []] ++ [List.range 5, List.range 6, List.range 7]) [] (by kernel_rfl) (by exact alQ) ?_
 refine spQ ?_
 have hM0 := hM; clear hM; obtain ⟨x4, hx5, hM⟩ := letk_opn hM0; clear hM0
 have hcx4 := CallOk.pub (cmH hx5 (specieref06_Join_ok  ([] : List Int) x1 (by (exact pfQ))))
 refine hcallC_give hcx4 clQ clQ ?_
 refine spQ ?_
 have hq6 := nzQ (cfU hx5)
 have hM0 := hM; clear hM; obtain ⟨x7, hx8, hM⟩ := letk_opn hM0; clear hM0
 have hcx7 := cmH hx8 (specieref06_Join_ok  x4 x1 (by (exact pfQ)))
 refine hcallC_own hcx7 clQ clQ ?_
 refine spQ ?_
 have hq9 := nzQ (cfU hx8)
 refine bindC_intro omQ ?_
 refine spQ ?_
 have hM0 := hM; clear hM; obtain ⟨x10, hx11, hM⟩ := letk_opn hM0; clear hM0
 have hcx10 := cmH hx11 (specieref06_Sum_ok  (x7 ++ b) (by (exact pfQ)))
 refine callC_look hcx10 clQ clQ (fun hw12 => ?_)
 replace hw12 := nzQ hw12
 refine spQ ?_
 subst hM
 exact retC_view lfQ
set_option maxHeartbeats 2000000 in
set_option maxRecDepth 100000 in
theorem specieref01_Mul_ok   (a_ : Int) (b : Int) (m : Int) (hp0 : 0 ≤ a_) (hp1 : a_ < m) (hp2 : 0 ≤ b) (hp3 : m < 2305843009213693952) : CM En (specieref01_Mul a_ b m) 87 [.int .i64 a_, .int .i64 b, .int .i64 m] (fun y => .int .i64 y) (fun _ => []) := by
 refine cmQ fun r hM => ?_
 rw [specieref01_Mul.eq_1] at hM
 refine enterV En_ok En_mo noJ Tryz.func87 rfl Tryz.ntmps87 (by kernel_rfl) fun hw => ct_start ?_
 refine spQ ?_
 replace hw := nzQ hw
 refine guardC_t (fun h1 => ?_) (fun h1 => ?_)
 ·rw [if_pos h1] at hM
  refine spQA h1 ?_
  have nh1 := nzQ h1
  try have hr2 := mpQ nh1
  refine condC_intro (fun h3 => ?_) (fun h3 => ?_)
  ·rw [if_pos h3] at hM
   refine spQA h3 ?_
   have nh3 := nzQ h3
   try have hr4 := mpQ nh3
   have hF := (And.intro h1 h3)
   exact auQ
  ·rw [if_neg (ne_true h3)] at hM
   refine spQA h3 ?_
   have nh3 := nzQ h3
   try have hr5 := mpQ nh3
   have hM0 := hM; clear hM; obtain ⟨f6, d6, hf6, hd6, hM⟩ := iter_opn hM0; clear hM0
   refine ct_loop (fun n S => ∃ p : Int × Int × Int, S = (⟨[(0, .int .i64 p.1), (1, .int .i64 p.2.1), (2, .int .i64 m), (7, .int .i64 p.2.2)], [], 0⟩ : St) ∧ ((0 ≤ p.1 ∧ p.1 < m ∧ 0 ≤ p.2.1 ∧ p.2.1 ≤ b ∧ 0 ≤ p.2.2 ∧ p.2.2 < m)) ∧ p.2.1.toNat < n ∧ iter n f6 d6 p = r) (b.toNat + 1) _ sbQ sbQ ⟨(a_, b, 0), rfl, by ((try dsimp only); omega), (Nat.lt_succ_self _), hM⟩ ?_
   clear hM
   rintro n6 S ⟨p6, rfl, hF4_0, hm6, hM⟩
   have hM0 := hM; clear hM; obtain ⟨ag6, hag6, hM⟩ := iter_step hM0 (by omega) hf6; clear hM0
   replace hm6 := nzQ hm6
   refine spQ ?_
   refine condC_intro (fun h7 => ?_) (fun h7 => ?_)
   ·rw [if_pos h7] at hM
    refine spQA h7 ?_
    have nh7 := nzQ h7
    try have hr8 := mpQ nh7
    have ha9 : remI .i64 p6.2.1 2 = (p6.2.1 % 2) := rem_ok omQ omQ
    try simp only [ha9]
    refine bindC_intro omQ ?_
    refine spQA ha9 ?_
    refine condC_intro (fun h10 => ?_) (fun h10 => ?_)
    ·rw [if_pos h10] at hM
     refine spQA (And.intro ha9 h10) ?_
     have nh10 := nzQ h10
     try have hr11 := mpQ nh10
     have ha12 : addI .i64 p6.2.2 p6.1 = (p6.2.2 + p6.1) := add_ok omQ omQ
     try simp only [ha12]
     refine bindC_intro omQ ?_
     refine spQA (And.intro ha9 ha12) ?_
     have ha13 : addI .i64 p6.1 p6.1 = (p6.1 + p6.1) := add_ok omQ omQ
     try simp only [ha13]
     refine bindC_intro omQ ?_
     refine spQA (And.intro ha9 (And.intro ha12 ha13)) ?_
     have ha14 : quoI .i64 p6.2.1 2 = (p6.2.1 / 2) := quo_ok omQ omQ
     try simp only [ha14]
     refine bindC_intro omQ ?_
     refine spQA (And.intro ha9 (And.intro ha12 (And.intro ha13 ha14))) ?_
     refine lp_intro (n6 - 1) _ (by omega) sbQ sbQ ⟨((remI .i64 (p6.1 + p6.1) m), (p6.2.1 / 2), (remI .i64 (p6.2.2 + p6.1) m)), rfl, by (clear hM; have h9 := rem_rngN (a := p6.1 + p6.1) (m := m) (by omega) (by omega); have h8 := rem_rngN (a := p6.2.2 + p6.1) (m := m) (by omega) (by omega); (try dsimp only); omega), omQ, iter_again hM hag6⟩
    ·rw [if_neg (ne_true h10)] at hM
     refine spQA (And.intro ha9 h10) ?_
     have nh10 := nzQ h10
     try have hr15 := mpQ nh10
     have ha16 : addI .i64 p6.1 p6.1 = (p6.1 + p6.1) := add_ok omQ omQ
     try simp only [ha16]
     refine bindC_intro omQ ?_
     refine spQA (And.intro ha9 ha16) ?_
     have ha17 : quoI .i64 p6.2.1 2 = (p6.2.1 / 2) := quo_ok omQ omQ
     try simp only [ha17]
     refine bindC_intro omQ ?_
     refine spQA (And.intro ha9 (And.intro ha16 ha17)) ?_
     refine lp_intro (n6 - 1) _ (by omega) sbQ sbQ ⟨((remI .i64 (p6.1 + p6.1) m), (p6.2.1 / 2), p6.2.2), rfl, by (clear hM; have h9 := rem_rngN (a := p6.1 + p6.1) (m := m) (by omega) (by omega); have h8 := rem_rngN (a := p6.2.2 + p6.1) (m := m) (by omega) (by omega); (try dsimp only); omega), omQ, iter_again hM hag6⟩
   ·rw [if_neg (ne_true h7)] at hM
    refine spQA h7 ?_
    have nh7 := nzQ h7
    try have hr18 := mpQ nh7
    subst hM
    exact retC_view (lfQA (And.intro h1 (And.intro h3 h7)))
 ·rw [if_neg (ne_true h1)] at hM
  refine spQA h1 ?_
  have nh1 := nzQ h1
  try have hr19 := mpQ nh1
  have hM0 := hM; clear hM; obtain ⟨f20, d20, hf20, hd20, hM⟩ := iter_opn hM0; clear hM0
  refine ct_loop (fun n S => ∃ p : Int × Int × Int, S = (⟨[(0, .int .i64 p.1), (1, .int .i64 p.2.1), (2, .int .i64 m), (7, .int .i64 p.2.2)], [], 0⟩ : St) ∧ ((0 ≤ p.1 ∧ p.1 < m ∧ 0 ≤ p.2.1 ∧ p.2.1 ≤ b ∧ 0 ≤ p.2.2 ∧ p.2.2 < m)) ∧ p.2.1.toNat < n ∧ iter n f20 d20 p = r) (b.toNat + 1) _ sbQ sbQ ⟨(a_, b, 0), rfl, by ((try dsimp only); omega), (Nat.lt_succ_self _), hM⟩ ?_
  clear hM
  rintro n20 S ⟨p20, rfl, hF4_0, hm20, hM⟩
  have hM0 := hM; clear hM; obtain ⟨ag20, hag20, hM⟩ := iter_step hM0 (by omega) hf20; clear hM0
  replace hm20 := nzQ hm20
  refine spQ ?_
  refine condC_intro (fun h21 => ?_) (fun h21 => ?_)
  ·rw [if_pos h21] at hM
   refine spQA h21 ?_
   have nh21 := nzQ h21
   try have hr22 := mpQ nh21
   have ha23 : remI .i64 p20.2.1 2 = (p20.2.1 % 2) := rem_ok omQ omQ
   try simp only [ha23]
   refine bindC_intro omQ ?_
   refine spQA ha23 ?_
   refine condC_intro (fun h24 => ?_) (fun h24 => ?_)
   ·rw [if_pos h24] at hM
    refine spQA (And.intro ha23 h24) ?_
    have nh24 := nzQ h24
    try have hr25 := mpQ nh24
    have ha26 : addI .i64 p20.2.2 p20.1 = (p20.2.2 + p20.1) := add_ok omQ omQ
    try simp only [ha26]
    refine bindC_intro omQ ?_
    refine spQA (And.intro ha23 ha26) ?_
    have ha27 : addI .i64 p20.1 p20.1 = (p20.1 + p20.1) := add_ok omQ omQ
    try simp only [ha27]
    refine bindC_intro omQ ?_
    refine spQA (And.intro ha23 (And.intro ha26 ha27)) ?_
    have ha28 : quoI .i64 p20.2.1 2 = (p20.2.1 / 2) := quo_ok omQ omQ
    try simp only [ha28]
    refine bindC_intro omQ ?_
    refine spQA (And.intro ha23 (And.intro ha26 (And.intro ha27 ha28))) ?_
    refine lp_intro (n20 - 1) _ (by omega) sbQ sbQ ⟨((remI .i64 (p20.1 + p20.1) m), (p20.2.1 / 2), (remI .i64 (p20.2.2 + p20.1) m)), rfl, by (clear hM; have h9 := rem_rngN (a := p20.1 + p20.1) (m := m) (by omega) (by omega); have h8 := rem_rngN (a := p20.2.2 + p20.1) (m := m) (by omega) (by omega); (try dsimp only); omega), omQ, iter_again hM hag20⟩
   ·rw [if_neg (ne_true h24)] at hM
    refine spQA (And.intro ha23 h24) ?_
    have nh24 := nzQ h24
    try have hr29 := mpQ nh24
    have ha30 : addI .i64 p20.1 p20.1 = (p20.1 + p20.1) := add_ok omQ omQ
    try simp only [ha30]
    refine bindC_intro omQ ?_
    refine spQA (And.intro ha23 ha30) ?_
    have ha31 : quoI .i64 p20.2.1 2 = (p20.2.1 / 2) := quo_ok omQ omQ
    try simp only [ha31]
    refine bindC_intro omQ ?_
    refine spQA (And.intro ha23 (And.intro ha30 ha31)) ?_
    refine lp_intro (n20 - 1) _ (by omega) sbQ sbQ ⟨((remI .i64 (p20.1 + p20.1) m), (p20.2.1 / 2), p20.2.2), rfl, by (clear hM; have h9 := rem_rngN (a := p20.1 + p20.1) (m := m) (by omega) (by omega); have h8 := rem_rngN (a := p20.2.2 + p20.1) (m := m) (by omega) (by omega); (try dsimp only); omega), omQ, iter_again hM hag20⟩
  ·rw [if_neg (ne_true h21)] at hM
   refine spQA h21 ?_
   have nh21 := nzQ h21
   try have hr32 := mpQ nh21
   subst hM
   exact retC_view (lfQA (And.intro h1 h21))
set_option maxHeartbeats 2000000 in
set_option maxRecDepth 100000 in
theorem specieref01_Pow_ok   (a_ : Int) (e_ : Int) (m : Int) (hp0 : 0 ≤ a_) (hp1 : a_ < m) (hp2 : 0 ≤ e_) (hp3 : m < 2305843009213693952) : CM En (specieref01_Pow a_ e_ m) 48 [.int .i64 a_, .int .i64 e_, .int .i64 m] (fun y => .int .i64 y) (fun _ => []) := by
 refine cmQ fun r hM => ?_
 rw [specieref01_Pow.eq_1] at hM
 refine enterV En_ok En_mo noJ Tryz.func48 rfl Tryz.ntmps48 (by kernel_rfl) fun hw => ct_start ?_
 refine spQ ?_
 replace hw := nzQ hw
 have h0_0 := rem1_rng (m := m) (by omega)
 refine bindC_intro omQ ?_
 refine spQ ?_
 have hM0 := hM; clear hM; obtain ⟨f1, d1, hf1, hd1, hM⟩ := iter_opn hM0; clear hM0
 refine ct_loop (fun n S => ∃ p : Int × Int × Int, S = (⟨[(0, .int .i64 p.1), (1, .int .i64 p.2.1), (2, .int .i64 m), (7, .int .i64 p.2.2)], [], 0⟩ : St) ∧ ((0 ≤ p.1) ∧ (p.1 < m) ∧ (0 ≤ p.2.1) ∧ (p.2.1 ≤ e_) ∧ (0 ≤ p.2.2) ∧ (p.2.2 < m)) ∧ p.2.1.toNat < n ∧ iter n f1 d1 p = r) (e_.toNat + 1) _ sbQ sbQ ⟨(a_, e_, (remI .i64 1 m)), rfl, ⟨omQ, omQ, omQ, omQ, omQ, omQ⟩, (Nat.lt_succ_self _), hM⟩ ?_
 clear hM
 rintro n1 S ⟨p1, rfl, hfa1, hm1, hM⟩
 have hM0 := hM; clear hM; obtain ⟨ag1, hag1, hM⟩ := iter_step hM0 (by omega) hf1; clear hM0
 replace hfa1 := nzQ hfa1
 replace hm1 := nzQ hm1
 refine spQ ?_
 refine condC_intro (fun h2 => ?_) (fun h2 => ?_)
 ·rw [if_pos h2] at hM
  refine spQA h2 ?_
  have nh2 := nzQ h2
  try have hr3 := mpQ nh2
  have ha4 : remI .i64 p1.2.1 2 = (p1.2.1 % 2) := rem_ok omQ omQ
  try simp only [ha4]
  refine bindC_intro omQ ?_
  refine spQA ha4 ?_
  refine condC_intro (fun h5 => ?_) (fun h5 => ?_)
  ·rw [if_pos h5] at hM
   refine spQA (And.intro ha4 h5) ?_
   have nh5 := nzQ h5
   try have hr6 := mpQ nh5
   have hM0 := hM; clear hM; obtain ⟨x7, hx8, hM⟩ := letk_opn hM0; clear hM0
   have hcx7 := cmH hx8 (specieref01_Mul_ok  (p1.2.2) (p1.1) m (by (exact pfQ)) (by (exact pfQ)) (by (exact pfQ)) (by (exact pfQ)))
   refine callC_give hcx7 (clQA ha4) (clQA ha4) (fun hw9 => ?_)
   replace hw9 := nzQ hw9
   refine spQA ha4 ?_
   have hq10 := rmul_rng hx8 (by omega) (by omega) (by omega)
   replace hq10 := nzQ hq10
   have hM0 := hM; clear hM; obtain ⟨x11, hx12, hM⟩ := letk_opn hM0; clear hM0
   have hcx11 := cmH hx12 (specieref01_Mul_ok  (p1.1) (p1.1) m (by (exact pfQ)) (by (exact pfQ)) (by (exact pfQ)) (by (exact pfQ)))
   refine callC_give hcx11 (clQA ha4) (clQA ha4) (fun hw13 => ?_)
   replace hw13 := nzQ hw13
   refine spQA ha4 ?_
   have hq14 := rmul_rng hx12 (by omega) (by omega) (by omega)
   replace hq14 := nzQ hq14
   have ha15 : quoI .i64 p1.2.1 2 = (p1.2.1 / 2) := quo_ok omQ omQ
   try simp only [ha15]
   have hF := (And.intro h2 (And.intro ha4 (And.intro h5 ha15)))
   exact auQ
  ·rw [if_neg (ne_true h5)] at hM
   refine spQA (And.intro ha4 h5) ?_
   have nh5 := nzQ h5
   try have hr16 := mpQ nh5
   have hM0 := hM; clear hM; obtain ⟨x17, hx18, hM⟩ := letk_opn hM0; clear hM0
   have hcx17 := cmH hx18 (specieref01_Mul_ok  (p1.1) (p1.1) m (by (exact pfQ)) (by (exact pfQ)) (by (exact pfQ)) (by (exact pfQ)))
   refine callC_give hcx17 (clQA ha4) (clQA ha4) (fun hw19 => ?_)
   replace hw19 := nzQ hw19
   refine spQA ha4 ?_
   have hq20 := rmul_rng hx18 (by omega) (by omega) (by omega)
   replace hq20 := nzQ hq20
   have ha21 : quoI .i64 p1.2.1 2 = (p1.2.1 / 2) := quo_ok omQ omQ
   try simp only [ha21]
   have hF := (And.intro h2 (And.intro ha4 (And.intro h5 ha21)))
   exact auQ
 ·rw [if_neg (ne_true h2)] at hM
  refine spQA h2 ?_
  have nh2 := nzQ h2
  try have hr22 := mpQ nh2
  subst hM
  exact retC_view (lfQA h2)
set_option maxHeartbeats 2000000 in
set_option maxRecDepth 100000 in
theorem specieref05_strong_ok   (n_ : Int) (a_ : Int) (hp0 : 0 ≤ a_) (hp1 : a_ < n_) (hp2 : 1 < n_) (hp3 : n_ < 2305843009213693952) : CM En (specieref05_strong n_ a_) 101 [.int .i64 n_, .int .i64 a_] (fun y => .bool y) (fun _ => []) := by
 refine cmQ fun r hM => ?_
 rw [specieref05_strong.eq_1] at hM
 refine enterV En_ok En_mo noJ Tryz.func101 rfl Tryz.ntmps101 (by kernel_rfl) fun hw => ct_start ?_
 refine spQ ?_
 replace hw := nzQ hw
 have ha1 : subI .i64 n_ 1 = (n_ - 1) := sub_ok omQ omQ
 try simp only [ha1]
 have hM0 := hM; clear hM; obtain ⟨f2, d2, hf2, hd2, hM⟩ := iter_opn hM0; clear hM0
 refine ct_loop (fun n S => ∃ p : Int × Int, S = (⟨[(0, .int .i64 n_), (1, .int .i64 a_), (5, .int .i64 p.1), (6, .int .i64 p.2)], [], 0⟩ : St) ∧ ((1 ≤ p.1) ∧ (p.1 < n_) ∧ (0 ≤ p.2) ∧ (p.2 + p.1 ≤ n_)) ∧ p.1.toNat < n ∧ iter n f2 d2 p = r) ((n_ - 1).toNat + 1) _ sbQ sbQ ⟨((n_ - 1), 0), rfl, ⟨omQ, omQ, omQ, omQ⟩, (Nat.lt_succ_self _), hM⟩ ?_
 clear hM
 rintro n2 S ⟨p2, rfl, hfa2, hm2, hM⟩
 have hM0 := hM; clear hM; obtain ⟨ag2, hag2, hM⟩ := iter_step hM0 (by omega) hf2; clear hM0
 replace hfa2 := nzQ hfa2
 replace hm2 := nzQ hm2
 refine spQA ha1 ?_
 have ha3 : remI .i64 p2.1 2 = (p2.1 % 2) := rem_ok omQ omQ
 try simp only [ha3]
 refine bindC_intro omQ ?_
 refine spQA (And.intro ha1 ha3) ?_
 refine condC_intro (fun h4 => ?_) (fun h4 => ?_)
 ·rw [if_pos h4] at hM
  refine spQA (And.intro ha1 (And.intro ha3 h4)) ?_
  have nh4 := nzQ h4
  try have hr5 := mpQ nh4
  have ha6 : quoI .i64 p2.1 2 = (p2.1 / 2) := quo_ok omQ omQ
  try simp only [ha6]
  refine bindC_intro omQ ?_
  refine spQA (And.intro ha1 (And.intro ha3 ha6)) ?_
  have ha7 : addI .i64 p2.2 1 = (p2.2 + 1) := add_ok omQ omQ
  try simp only [ha7]
  refine lp_intro (n2 - 1) _ (by omega) sbQ sbQ ⟨((p2.1 / 2), (p2.2 + 1)), rfl, ⟨omQ, omQ, omQ, omQ⟩, omQ, iter_again hM hag2⟩
 ·rw [if_neg (ne_true h4)] at hM
  refine spQA (And.intro ha1 (And.intro ha3 h4)) ?_
  have nh4 := nzQ h4
  try have hr8 := mpQ nh4
  have hM0 := hM; clear hM; obtain ⟨x9, hx10, hM⟩ := letk_opn hM0; clear hM0
  have hcx9 := cmH hx10 (specieref01_Pow_ok  a_ (p2.1) n_ (by (exact pfQ)) (by (exact pfQ)) (by (exact pfQ)) (by (exact pfQ)))
  refine callC_give hcx9 (clQA (And.intro ha1 ha3)) (clQA (And.intro ha1 ha3)) (fun hw11 => ?_)
  replace hw11 := nzQ hw11
  refine spQA (And.intro ha1 ha3) ?_
  have hq12 := rpow_rng hx10 (by omega) (by omega)
  replace hq12 := nzQ hq12
  refine guardC_f (fun h13 => ?_) (fun h13 => ?_)
  ·rw [if_neg (ne_true h13)] at hM
   refine spQA (And.intro ha1 (And.intro ha3 h13)) ?_
   have nh13 := nzQ h13
   try have hr14 := mpQ nh13
   refine condC_intro (fun h16 => ?_) (fun h16 => ?_)
   ·rw [if_pos h16] at hM
    refine spQA (And.intro ha1 (And.intro ha3 h16)) ?_
    have nh16 := nzQ h16
    try have hr17 := mpQ nh16
    subst hM
    exact retC_view (lfQA (And.intro ha1 (And.intro ha3 (And.intro h4 (And.intro h13 h16)))))
   ·rw [if_neg (ne_true h16)] at hM
    refine spQA (And.intro ha1 (And.intro ha3 h16)) ?_
    have nh16 := nzQ h16
    try have hr18 := mpQ nh16
    have hM0 := hM; clear hM; obtain ⟨f19, d19, hf19, hd19, hM⟩ := iter_opn hM0; clear hM0
    refine ct_loop (fun n S => ∃ p : Int × Int, S = (⟨[(0, .int .i64 n_), (6, .int .i64 p2.2), (7, .int .i64 p.1), (8, .int .i64 p.2)], [], 0⟩ : St) ∧ ((1 ≤ p.2) ∧ (p.2 ≤ p2.2 ∨ p.2 ≤ 1) ∧ (0 ≤ p.1) ∧ (p.1 < n_)) ∧ (p2.2 - p.2).toNat < n ∧ iter n f19 d19 p = r) ((p2.2 - 1).toNat + 1) _ sbQ sbQ ⟨(x9, 1), rfl, ⟨omQ, omQ, omQ, omQ⟩, (Nat.lt_succ_self _), hM⟩ ?_
    clear hM
    rintro n19 S ⟨p19, rfl, hfa19, hm19, hM⟩
    have hM0 := hM; clear hM; obtain ⟨ag19, hag19, hM⟩ := iter_step hM0 (by omega) hf19; clear hM0
    replace hfa19 := nzQ hfa19
    replace hm19 := nzQ hm19
    have ha19 : addI .i64 p19.2 1 = p19.2 + 1 := add_one omQ omQ
    refine spQA (And.intro ha1 (And.intro ha3 ha19)) ?_
    refine condC_intro (fun h20 => ?_) (fun h20 => ?_)
    ·rw [if_pos h20] at hM
     refine spQA (And.intro ha1 (And.intro ha3 (And.intro ha19 h20))) ?_
     have nh20 := nzQ h20
     try have hr21 := mpQ nh20
     have hM0 := hM; clear hM; obtain ⟨x22, hx23, hM⟩ := letk_opn hM0; clear hM0
     have hcx22 := cmH hx23 (specieref01_Mul_ok  (p19.1) (p19.1) n_ (by (exact pfQ)) (by (exact pfQ)) (by (exact pfQ)) (by (exact pfQ)))
     refine callC_give hcx22 (clQA (And.intro ha1 (And.intro ha3 ha19))) (clQA (And.intro ha1 (And.intro ha3 ha19))) (fun hw24 => ?_)
     replace hw24 := nzQ hw24
     refine spQA (And.intro ha1 (And.intro ha3 ha19)) ?_
     have hq25 := rmul_rng hx23 (by omega) (by omega) (by omega)
     replace hq25 := nzQ hq25
     have hF := (And.intro ha1 (And.intro ha3 (And.intro h4 (And.intro h13 (And.intro h16 (And.intro ha19 h20))))))
     exact auQ
    ·rw [if_neg (ne_true h20)] at hM
     refine spQA (And.intro ha1 (And.intro ha3 (And.intro ha19 h20))) ?_
     have nh20 := nzQ h20
     try have hr30 := mpQ nh20
     subst hM
     exact retC_view (lfQA (And.intro ha1 (And.intro ha3 (And.intro ha19 (And.intro h4 (And.intro h13 (And.intro h16 h20)))))))
  ·rw [if_pos h13] at hM
   refine spQA (And.intro ha1 (And.intro ha3 h13)) ?_
   have nh13 := nzQ h13
   try have hr31 := mpQ nh13
   subst hM
   exact retC_view (lfQA (And.intro ha1 (And.intro ha3 (And.intro h4 h13))))
set_option maxHeartbeats 2000000 in
set_option maxRecDepth 100000 in
theorem specieref05_Is_ok   (n_ : Int) (hp0 : n_ < 2305843009213693952) : CM En (specieref05_Is n_) 73 [.int .i64 n_] (fun y => .bool y) (fun _ => []) := by
 refine cmQ fun r hM => ?_
 rw [specieref05_Is.eq_1] at hM
 refine enterV En_ok En_mo noJ Tryz.func73 rfl Tryz.ntmps73 (by kernel_rfl) fun hw => ct_start ?_
 refine spQ ?_
 replace hw := nzQ hw
 refine condC_intro (fun h1 => ?_) (fun h1 => ?_)
 ·rw [if_pos h1] at hM
  refine spQA h1 ?_
  have nh1 := nzQ h1
  try have hr2 := mpQ nh1
  subst hM
  exact retC_view (lfQA h1)
 ·rw [if_neg (ne_true h1)] at hM
  refine spQA h1 ?_
  have nh1 := nzQ h1
  try have hr3 := mpQ nh1
  have hM0 := hM; clear hM; obtain ⟨f4, d4, hf4, hd4, hM⟩ := iter_opn hM0; clear hM0
  refine ct_loop (fun n S => ∃ p : Int, S = (⟨[(0, .int .i64 n_), (3, .own 0), (4, .int .i64 p)], [(0, .own 3 1 false (some false) (([2, 3, 5, 7, 11, 13, 17, 19, 23, 29, 31, 37] : List Int).map (V.int .i64)))], 1⟩ : St) ∧ (((0 ≤ p) ∧ (p ≤ (12 : Int))) ∧ (NoDiv n_ p)) ∧ ((12 : Int) - p).toNat < n ∧ iter n f4 d4 p = r) (((12 : Int) - 0).toNat + 1) _ sbQ sbQ ⟨0, rfl, ⟨⟨by (first | exact omQ | (clear hM; first | (have hk := base_rng (j := p4) (by omega) (by omega); exact omQ'))), by (first | exact omQ | (clear hM; first | (have hk := base_rng (j := p4) (by omega) (by omega); exact omQ')))⟩, by (exact NoDiv_zero)⟩, (Nat.lt_succ_self _), hM⟩ ?_
  clear hM
  rintro n4 S ⟨p4, rfl, ⟨hfa4, hF5_0⟩, hm4, hM⟩
  have hM0 := hM; clear hM; obtain ⟨ag4, hag4, hM⟩ := iter_step hM0 (by omega) hf4; clear hM0
  replace hfa4 := nzQ hfa4
  replace hm4 := nzQ hm4
  have ha4 : addI .i64 p4 1 = p4 + 1 := add_one (by (first | exact omQ | (clear hM; first | (have hk := base_rng (j := p4) (by omega) (by omega); exact omQ')))) (by (first | exact omQ | (clear hM; first | (have hk := base_rng (j := p4) (by omega) (by omega); exact omQ'))))
  refine spQA ha4 ?_
  refine condC_intro (fun h5 => ?_) (fun h5 => ?_)
  ·rw [if_pos h5] at hM
   refine spQA (And.intro ha4 h5) ?_
   have nh5 := nzQ h5
   try have hr6 := mpQ nh5
   refine bindC_intro (by (first | exact omQ | (clear hM; first | (have hk := base_rng (j := p4) (by omega) (by omega); exact omQ')))) ?_
   have he7 := fun d => elt_mp (l := ([2, 3, 5, 7, 11, 13, 17, 19, 23, 29, 31, 37] : List Int)) (f := (V.int .i64)) (i := p4) (by (first | exact omQ | (clear hM; first | (have hk := base_rng (j := p4) (by omega) (by omega); exact omQ')))) d
   refine spQA (And.intro ha4 he7) ?_
   refine bindC_intro (by (first | exact omQ | (clear hM; first | (have hk := base_rng (j := p4) (by omega) (by omega); exact omQ')))) ?_
   refine spQA (And.intro ha4 he7) ?_
   refine bindC_intro (by (first | exact omQ | (clear hM; first | (have hk := base_rng (j := p4) (by omega) (by omega); exact omQ')))) ?_
   refine spQA (And.intro ha4 he7) ?_
   refine condC_intro (fun h8 => ?_) (fun h8 => ?_)
   ·rw [if_pos h8] at hM
    refine spQA (And.intro ha4 (And.intro he7 h8)) ?_
    have nh8 := nzQ h8
    try have hr9 := mpQ nh8
    refine bindC_intro (by (first | exact omQ | (clear hM; first | (have hk := base_rng (j := p4) (by omega) (by omega); exact omQ')))) ?_
    refine spQA (And.intro ha4 he7) ?_
    refine bindC_intro (by (first | exact omQ | (clear hM; first | (have hk := base_rng (j := p4) (by omega) (by omega); exact omQ')))) ?_
    refine spQA (And.intro ha4 he7) ?_
    subst hM
    exact retC_view (lfQA (And.intro ha4 (And.intro he7 (And.intro h1 (And.intro h5 h8)))))
   ·rw [if_neg (ne_true h8)] at hM
    refine spQA (And.intro ha4 (And.intro he7 h8)) ?_
    have nh8 := nzQ h8
    try have hr10 := mpQ nh8
    refine lp_intro (n4 - 1) _ (by omega) sbQ sbQ ⟨(p4 + 1), rfl, ⟨⟨by (first | exact omQ | (clear hM; first | (have hk := base_rng (j := (p4 + 1)) (by omega) (by omega); exact omQ'))), by (first | exact omQ | (clear hM; first | (have hk := base_rng (j := (p4 + 1)) (by omega) (by omega); exact omQ')))⟩, by (clear hM; exact NoDiv_stepR hF5_0 (by omega) (by omega) (by omega) (by assumption))⟩, by (first | exact omQ | (clear hM; first | (have hk := base_rng (j := (p4 + 1)) (by omega) (by omega); exact omQ'))), iter_again hM hag4⟩
  ·rw [if_neg (ne_true h5)] at hM
   refine spQA (And.intro ha4 h5) ?_
   have nh5 := nzQ h5
   try have hr11 := mpQ nh5
   refine condC_intro (fun h12 => ?_) (fun h12 => ?_)
   ·rw [if_pos h12] at hM
    refine spQA (And.intro ha4 h12) ?_
    have nh12 := nzQ h12
    try have hr13 := mpQ nh12
    exact False.elim (by (clear hM; omega))
   ·rw [if_neg (ne_true h12)] at hM
    refine spQA (And.intro ha4 h12) ?_
    have nh12 := nzQ h12
    try have hr14 := mpQ nh12
    have hM0 := hM; clear hM; obtain ⟨f15, d15, hf15, hd15, hM⟩ := iter_opn hM0; clear hM0
    refine ct_loop (fun n S => ∃ p : Int, S = (⟨[(0, .int .i64 n_), (3, .own 0), (5, .int .i64 p)], [(0, .own 3 1 false (some false) (([2, 3, 5, 7, 11, 13, 17, 19, 23, 29, 31, 37] : List Int).map (V.int .i64)))], 1⟩ : St) ∧ (((0 ≤ p) ∧ (p ≤ (12 : Int))) ∧ (37 < n_)) ∧ ((12 : Int) - p).toNat < n ∧ iter n f15 d15 p = r) (((12 : Int) - 0).toNat + 1) _ sbQ sbQ ⟨0, rfl, ⟨⟨by (first | exact omQ | (clear hM; first | (have hk := base_rng (j := p15) (by omega) (by omega); exact omQ'))), by (first | exact omQ | (clear hM; first | (have hk := base_rng (j := p15) (by omega) (by omega); exact omQ')))⟩, by (clear hM; exact NoDiv_all hF5_0 (by omega) (by omega))⟩, (Nat.lt_succ_self _), hM⟩ ?_
    clear hM
    rintro n15 S ⟨p15, rfl, ⟨hfa15, hF12_0⟩, hm15, hM⟩
    have hM0 := hM; clear hM; obtain ⟨ag15, hag15, hM⟩ := iter_step hM0 (by omega) hf15; clear hM0
    replace hfa15 := nzQ hfa15
    replace hm15 := nzQ hm15
    have ha15 : addI .i64 p15 1 = p15 + 1 := add_one (by (first | exact omQ | (clear hM; first | (have hk := base_rng (j := p15) (by omega) (by omega); exact omQ')))) (by (first | exact omQ | (clear hM; first | (have hk := base_rng (j := p15) (by omega) (by omega); exact omQ'))))
    refine spQA (And.intro ha4 ha15) ?_
    refine condC_intro (fun h16 => ?_) (fun h16 => ?_)
    ·rw [if_pos h16] at hM
     refine spQA (And.intro ha4 (And.intro ha15 h16)) ?_
     have nh16 := nzQ h16
     try have hr17 := mpQ nh16
     refine bindC_intro (by (first | exact omQ | (clear hM; first | (have hk := base_rng (j := p15) (by omega) (by omega); exact omQ')))) ?_
     have he18 := fun d => elt_mp (l := ([2, 3, 5, 7, 11, 13, 17, 19, 23, 29, 31, 37] : List Int)) (f := (V.int .i64)) (i := p15) (by (first | exact omQ | (clear hM; first | (have hk := base_rng (j := p15) (by omega) (by omega); exact omQ')))) d
     refine spQA (And.intro ha4 (And.intro ha15 he18)) ?_
     refine bindC_intro (by (first | exact omQ | (clear hM; first | (have hk := base_rng (j := p15) (by omega) (by omega); exact omQ')))) ?_
     refine spQA (And.intro ha4 (And.intro ha15 he18)) ?_
     have hM0 := hM; clear hM; obtain ⟨x19, hx20, hM⟩ := letk_opn hM0; clear hM0
     have hcx19 := cmH hx20 (specieref05_strong_ok  n_ (gt ([2, 3, 5, 7, 11, 13, 17, 19, 23, 29, 31, 37] : List Int) p15) (by (first | omega | (have hk := base_rng (j := p15) (by omega) (by omega); omega))) (by (first | omega | (have hk := base_rng (j := p15) (by omega) (by omega); omega))) (by (first | omega | (have hk := base_rng (j := p15) (by omega) (by omega); omega))) (by (first | omega | (have hk := base_rng (j := p15) (by omega) (by omega); omega))))
     refine callC_give hcx19 (clQA (And.intro ha4 (And.intro ha15 he18))) (clQA (And.intro ha4 (And.intro ha15 he18))) (fun hw21 => ?_)
     replace hw21 := nzQ hw21
     refine spQA (And.intro ha4 (And.intro ha15 he18)) ?_
     refine condC_intro (fun h22 => ?_) (fun h22 => ?_)
     ·rw [if_pos h22] at hM
      refine spQA (And.intro ha4 (And.intro ha15 (And.intro he18 h22))) ?_
      have nh22 := nzQ h22
      try have hr23 := mpQ nh22
      subst hM
      exact retC_view (lfQA (And.intro ha4 (And.intro ha15 (And.intro he18 (And.intro h1 (And.intro h5 (And.intro h12 (And.intro h16 h22))))))))
     ·rw [if_neg (ne_true h22)] at hM
      refine spQA (And.intro ha4 (And.intro ha15 (And.intro he18 h22))) ?_
      have nh22 := nzQ h22
      try have hr24 := mpQ nh22
      refine lp_intro (n15 - 1) _ (by omega) sbQ sbQ ⟨(p15 + 1), rfl, ⟨⟨by (first | exact omQ | (clear hM; first | (have hk := base_rng (j := (p15 + 1)) (by omega) (by omega); exact omQ'))), by (first | exact omQ | (clear hM; first | (have hk := base_rng (j := (p15 + 1)) (by omega) (by omega); exact omQ')))⟩, by (clear hM; exact hF12_0)⟩, by (first | exact omQ | (clear hM; first | (have hk := base_rng (j := (p15 + 1)) (by omega) (by omega); exact omQ'))), iter_again hM hag15⟩
    ·rw [if_neg (ne_true h16)] at hM
     refine spQA (And.intro ha4 (And.intro ha15 h16)) ?_
     have nh16 := nzQ h16
     try have hr25 := mpQ nh16
     subst hM
     exact retC_view (lfQA (And.intro ha4 (And.intro ha15 (And.intro h1 (And.intro h5 (And.intro h12 h16))))))
set_option maxHeartbeats 2000000 in
set_option maxRecDepth 100000 in
instance specieref10_Valid_ok   (g : S_api_Group)  : CM En (specieref10_Valid g) 31 [.agg [.int .i64 g.P, .int .i64 g.Q, .int .i64 g.G]] (fun y => .bool y) (fun _ => []) := by
 refine cmQ fun r hM => ?_
 rw [specieref10_Valid.eq_1] at hM
 refine enterV En_ok En_mo noJ Tryz.func31 rfl Tryz.ntmps31 (by kernel_rfl) fun hw => ct_start ?_
 refine spQ ?_
 replace hw := nzQ hw
 refine guardC_f (fun h1 => ?_) (fun h1 => ?_)
 ·rw [if_neg (ne_true h1)] at hM
  refine spQA h1 ?_
  have nh1 := nzQ h1
  try have hr2 := mpQ nh1
  refine guardC_f (fun h3 => ?_) (fun h3 => ?_)
  ·rw [if_neg (ne_true h3)] at hM
   refine spQA h3 ?_
   have nh3 := nzQ h3
   try have hr4 := mpQ nh3
   refine guardC_f (fun h5 => ?_) (fun h5 => ?_)
   ·rw [if_neg (ne_true h5)] at hM
    refine spQA h5 ?_
    have nh5 := nzQ h5
    try have hr6 := mpQ nh5
    refine bindC_intro omQ ?_
    refine spQ ?_
    refine guardC_f (fun h7 => ?_) (fun h7 => ?_)
    ·rw [if_neg (ne_true h7)] at hM
     refine spQA h7 ?_
     have nh7 := nzQ h7
     try have hr8 := mpQ nh7
     refine bindC_intro omQ ?_
     refine spQ ?_
     refine guardC_f (fun h9 => ?_) (fun h9 => ?_)
     ·rw [if_neg (ne_true h9)] at hM
      refine spQA h9 ?_
      have nh9 := nzQ h9
      try have hr10 := mpQ nh9
      refine guardC_f (fun h11 => ?_) (fun h11 => ?_)
      ·rw [if_neg (ne_true h11)] at hM
       refine spQA h11 ?_
       have nh11 := nzQ h11
       try have hr12 := mpQ nh11
       refine condC_intro (fun h13 => ?_) (fun h13 => ?_)
       ·rw [if_pos h13] at hM
        refine spQA h13 ?_
        have nh13 := nzQ h13
        try have hr14 := mpQ nh13
        subst hM
        exact retC_view (lfQA (And.intro h1 (And.intro h3 (And.intro h5 (And.intro h7 (And.intro h9 (And.intro h11 h13)))))))
       ·rw [if_neg (ne_true h13)] at hM
        refine spQA h13 ?_
        have nh13 := nzQ h13
        try have hr15 := mpQ nh13
        have hM0 := hM; clear hM; obtain ⟨x16, hx17, hM⟩ := letk_opn hM0; clear hM0
        have hcx16 := cmH hx17 (specieref05_Is_ok  (g.P) (by (first | omega | (refine q_le (p := g.P) ?_ ?_ ?_ ?_ <;> first | omega | assumption))))
        refine callC_give hcx16 clQ clQ (fun hw18 => ?_)
        replace hw18 := nzQ hw18
        refine spQ ?_
        refine guardC_t (fun h19 => ?_) (fun h19 => ?_)
        ·subst h19
         rw [if_pos rfl] at hM
         refine spQ ?_
         have hM0 := hM; clear hM; obtain ⟨x20, hx21, hM⟩ := letk_opn hM0; clear hM0
         have hcx20 := cmH hx21 (specieref05_Is_ok  (g.Q) (by (first | omega | (refine q_le (p := g.P) ?_ ?_ ?_ ?_ <;> first | omega | assumption))))
         refine callC_give hcx20 clQ clQ (fun hw22 => ?_)
         replace hw22 := nzQ hw22
         refine spQ ?_
         refine guardC_t (fun h23 => ?_) (fun h23 => ?_)
         ·subst h23
          rw [if_pos rfl] at hM
          refine spQ ?_
          have hM0 := hM; clear hM; obtain ⟨x24, hx25, hM⟩ := letk_opn hM0; clear hM0
          have hcx24 := cmH hx25 (specieref01_Pow_ok  (g.G) (g.Q) (g.P) (by (first | omega | assumption)) (by (first | omega | assumption)) (by (first | omega | assumption)) (by (first | omega | assumption)))
          refine callC_give hcx24 clQ clQ (fun hw26 => ?_)
          replace hw26 := nzQ hw26
          refine spQ ?_
          subst hM
          exact retC_view (lfQA (And.intro h1 (And.intro h3 (And.intro h5 (And.intro h7 (And.intro h9 (And.intro h11 h13)))))))
         ·subst h23
          rw [if_neg (by decide)] at hM
          refine spQ ?_
          subst hM
          exact retC_view (lfQA (And.intro h1 (And.intro h3 (And.intro h5 (And.intro h7 (And.intro h9 (And.intro h11 h13)))))))
        ·subst h19
         rw [if_neg (by decide)] at hM
         refine spQ ?_
         subst hM
         exact retC_view (lfQA (And.intro h1 (And.intro h3 (And.intro h5 (And.intro h7 (And.intro h9 (And.intro h11 h13)))))))
      ·rw [if_pos h11] at hM
       refine spQA h11 ?_
       have nh11 := nzQ h11
       try have hr27 := mpQ nh11
       subst hM
       exact retC_view (lfQA (And.intro h1 (And.intro h3 (And.intro h5 (And.intro h7 (And.intro h9 h11))))))
     ·rw [if_pos h9] at hM
      refine spQA h9 ?_
      have nh9 := nzQ h9
      try have hr28 := mpQ nh9
      subst hM
      exact retC_view (lfQA (And.intro h1 (And.intro h3 (And.intro h5 (And.intro h7 h9)))))
    ·rw [if_pos h7] at hM
     refine spQA h7 ?_
     have nh7 := nzQ h7
     try have hr29 := mpQ nh7
     subst hM
     exact retC_view (lfQA (And.intro h1 (And.intro h3 (And.intro h5 h7))))
   ·rw [if_pos h5] at hM
    refine spQA h5 ?_
    have nh5 := nzQ h5
    try have hr30 := mpQ nh5
    subst hM
    exact retC_view (lfQA (And.intro h1 (And.intro h3 h5)))
  ·rw [if_pos h3] at hM
   refine spQA h3 ?_
   have nh3 := nzQ h3
   try have hr31 := mpQ nh3
   subst hM
   exact retC_view (lfQA (And.intro h1 h3))
 ·rw [if_pos h1] at hM
  refine spQA h1 ?_
  have nh1 := nzQ h1
  try have hr32 := mpQ nh1
  subst hM
  exact retC_view (lfQA h1)
set_option maxHeartbeats 2000000 in
set_option maxRecDepth 100000 in
theorem specieref10_Member_ok   (g : S_api_Group) (x_ : Int) (hp0 : 3 ≤ g.Q) (hp1 : g.P < 2305843009213693952) : CM En (specieref10_Member g x_) 22 [.agg [.int .i64 g.P, .int .i64 g.Q, .int .i64 g.G], .int .i64 x_] (fun y => .bool y) (fun _ => []) := by
 refine cmQ fun r hM => ?_
 rw [specieref10_Member.eq_1] at hM
 refine enterV En_ok En_mo noJ Tryz.func22 rfl Tryz.ntmps22 (by kernel_rfl) fun hw => ct_start ?_
 refine spQ ?_
 replace hw := nzQ hw
 refine guardC_t (fun h1 => ?_) (fun h1 => ?_)
 ·rw [if_pos h1] at hM
  refine spQA h1 ?_
  have nh1 := nzQ h1
  try have hr2 := mpQ nh1
  refine guardC_t (fun h3 => ?_) (fun h3 => ?_)
  ·rw [if_pos h3] at hM
   refine spQA h3 ?_
   have nh3 := nzQ h3
   try have hr4 := mpQ nh3
   have hM0 := hM; clear hM; obtain ⟨x5, hx6, hM⟩ := letk_opn hM0; clear hM0
   have hcx5 := cmH hx6 (specieref01_Pow_ok  x_ (g.Q) (g.P) (by (exact pfQ)) (by (exact pfQ)) (by (exact pfQ)) (by (exact pfQ)))
   refine callC_give hcx5 clQ clQ (fun hw7 => ?_)
   replace hw7 := nzQ hw7
   refine spQ ?_
   subst hM
   exact retC_view (lfQA (And.intro h1 h3))
  ·rw [if_neg (ne_true h3)] at hM
   refine spQA h3 ?_
   have nh3 := nzQ h3
   try have hr8 := mpQ nh3
   subst hM
   exact retC_view (lfQA (And.intro h1 h3))
 ·rw [if_neg (ne_true h1)] at hM
  refine spQA h1 ?_
  have nh1 := nzQ h1
  try have hr9 := mpQ nh1
  subst hM
  exact retC_view (lfQA h1)
set_option maxHeartbeats 2000000 in
set_option maxRecDepth 100000 in
instance specieref11_Valid_ok   (b : S_api_Bases)  : CM En (specieref11_Valid b) 9 [(e_api_Bases b)] (fun y => .bool y) (fun _ => []) := by
 refine cmQ fun r hM => ?_
 rw [specieref11_Valid.eq_1] at hM
 refine enterV En_ok En_mo noJ Tryz.func9 rfl Tryz.ntmps9 (by kernel_rfl) fun hw => ct_start ?_
 refine spQ ?_
 replace hw := nzQ hw
 have hM0 := hM; clear hM; obtain ⟨x1, hx2, hM⟩ := letk_opn hM0; clear hM0
 have hcx1 := cmU hx2
 refine callC_give hcx1 clQ clQ (fun hw3 => ?_)
 replace hw3 := nzQ hw3
 refine spQ ?_
 have hq4 := nzQ (cfU hx2)
 refine guardC_t (fun h5 => ?_) (fun h5 => ?_)
 ·subst h5
  rw [if_pos rfl] at hM
  refine spQ ?_
  try have hr6 := mpQ (a := true = true) rfl
  refine guardC_t (fun h7 => ?_) (fun h7 => ?_)
  ·rw [if_pos h7] at hM
   refine spQA h7 ?_
   have nh7 := nzQ h7
   try have hr8 := mpQ nh7
   refine guardC_t (fun h9 => ?_) (fun h9 => ?_)
   ·rw [if_pos h9] at hM
    refine spQA h9 ?_
    have nh9 := nzQ h9
    try have hr10 := mpQ nh9
    refine guardC_t (fun h11 => ?_) (fun h11 => ?_)
    ·rw [if_pos h11] at hM
     refine spQA h11 ?_
     have nh11 := nzQ h11
     try have hr12 := mpQ nh11
     have hM0 := hM; clear hM; obtain ⟨x13, hx14, hM⟩ := letk_opn hM0; clear hM0
     have hcx13 := cmH hx14 (specieref10_Member_ok  (b.Group) (b.G1) (by (exact pfQ)) (by (exact pfQ)))
     refine callC_give hcx13 clQ clQ (fun hw15 => ?_)
     replace hw15 := nzQ hw15
     refine spQ ?_
     have hq16 := nzQ (cfU hx14)
     refine guardC_t (fun h17 => ?_) (fun h17 => ?_)
     ·subst h17
      rw [if_pos rfl] at hM
      refine spQ ?_
      try have hr18 := mpQ (a := true = true) rfl
      have hM0 := hM; clear hM; obtain ⟨x19, hx20, hM⟩ := letk_opn hM0; clear hM0
      have hcx19 := cmH hx20 (specieref10_Member_ok  (b.Group) (b.G2) (by (exact pfQ)) (by (exact pfQ)))
      refine callC_give hcx19 clQ clQ (fun hw21 => ?_)
      replace hw21 := nzQ hw21
      refine spQ ?_
      have hq22 := nzQ (cfU hx20)
      refine guardC_t (fun h23 => ?_) (fun h23 => ?_)
      ·subst h23
       rw [if_pos rfl] at hM
       refine spQ ?_
       try have hr24 := mpQ (a := true = true) rfl
       have hM0 := hM; clear hM; obtain ⟨x25, hx26, hM⟩ := letk_opn hM0; clear hM0
       have hcx25 := cmH hx26 (specieref10_Member_ok  (b.Group) (b.H) (by (exact pfQ)) (by (exact pfQ)))
       refine callC_give hcx25 clQ clQ (fun hw27 => ?_)
       replace hw27 := nzQ hw27
       refine spQ ?_
       have hq28 := nzQ (cfU hx26)
       subst hM
       exact retC_view (lfQA (And.intro h7 (And.intro h9 h11)))
      ·subst h23
       rw [if_neg (by decide)] at hM
       refine spQ ?_
       subst hM
       exact retC_view (lfQA (And.intro h7 (And.intro h9 h11)))
     ·subst h17
      rw [if_neg (by decide)] at hM
      refine spQ ?_
      subst hM
      exact retC_view (lfQA (And.intro h7 (And.intro h9 h11)))
    ·rw [if_neg (ne_true h11)] at hM
     refine spQA h11 ?_
     have nh11 := nzQ h11
     try have hr29 := mpQ nh11
     subst hM
     exact retC_view (lfQA (And.intro h7 (And.intro h9 h11)))
   ·rw [if_neg (ne_true h9)] at hM
    refine spQA h9 ?_
    have nh9 := nzQ h9
    try have hr30 := mpQ nh9
    subst hM
    exact retC_view (lfQA (And.intro h7 h9))
  ·rw [if_neg (ne_true h7)] at hM
   refine spQA h7 ?_
   have nh7 := nzQ h7
   try have hr31 := mpQ nh7
   subst hM
   exact retC_view (lfQA h7)
 ·subst h5
  rw [if_neg (by decide)] at hM
  refine spQ ?_
  subst hM
  exact retC_view lfQ
set_option maxHeartbeats 2000000 in
set_option maxRecDepth 100000 in
theorem specieref25_Message_ok   (g : S_api_Group) (m : Int) (hp0 : 3 ≤ g.Q) (hp1 : g.P < 2305843009213693952) : CM En (specieref25_Message g m) 67 [.agg [.int .i64 g.P, .int .i64 g.Q, .int .i64 g.G], .int .i64 m] (fun y => .bool y) (fun _ => []) := by
 refine cmQ fun r hM => ?_
 rw [specieref25_Message.eq_1] at hM
 refine enterV En_ok En_mo noJ Tryz.func67 rfl Tryz.ntmps67 (by kernel_rfl) fun hw => ct_start ?_
 refine spQ ?_
 replace hw := nzQ hw
 refine guardC_t (fun h1 => ?_) (fun h1 => ?_)
 ·rw [if_pos h1] at hM
  refine spQA h1 ?_
  have nh1 := nzQ h1
  try have hr2 := mpQ nh1
  have hM0 := hM; clear hM; obtain ⟨x3, hx4, hM⟩ := letk_opn hM0; clear hM0
  have hcx3 := cmH hx4 (specieref10_Member_ok  g m (by (exact pfQ)) (by (exact pfQ)))
  refine callC_give hcx3 clQ clQ (fun hw5 => ?_)
  replace hw5 := nzQ hw5
  refine spQ ?_
  have hq6 := nzQ (cfU hx4)
  subst hM
  exact retC_view (lfQA h1)
 ·rw [if_neg (ne_true h1)] at hM
  refine spQA h1 ?_
  have nh1 := nzQ h1
  try have hr7 := mpQ nh1
  subst hM
  exact retC_view (lfQA h1)
set_option maxHeartbeats 2000000 in
set_option maxRecDepth 100000 in
instance specieref25_Valid_ok   (b : S_api_Bases) (k_ : S_api_BankKey)  : CM En (specieref25_Valid b k_) 63 [(e_api_Bases b), .agg [.int .i64 k_.H, .int .i64 k_.H1, .int .i64 k_.H2]] (fun y => .bool y) (fun _ => []) := by
 refine cmQ fun r hM => ?_
 rw [specieref25_Valid.eq_1] at hM
 refine enterV En_ok En_mo noJ Tryz.func63 rfl Tryz.ntmps63 (by kernel_rfl) fun hw => ct_start ?_
 refine spQ ?_
 replace hw := nzQ hw
 have hM0 := hM; clear hM; obtain ⟨x1, hx2, hM⟩ := letk_opn hM0; clear hM0
 have hcx1 := cmU hx2
 refine callC_give hcx1 clQ clQ (fun hw3 => ?_)
 replace hw3 := nzQ hw3
 refine spQ ?_
 have hq4 := nzQ (cfU hx2)
 refine guardC_t (fun h5 => ?_) (fun h5 => ?_)
 ·subst h5
  rw [if_pos rfl] at hM
  refine spQ ?_
  try have hr6 := mpQ (a := true = true) rfl
  have hM0 := hM; clear hM; obtain ⟨x7, hx8, hM⟩ := letk_opn hM0; clear hM0
  have hcx7 := cmH hx8 (specieref25_Message_ok  (b.Group) (k_.H) (by (exact pfQ)) (by (exact pfQ)))
  refine callC_give hcx7 clQ clQ (fun hw9 => ?_)
  replace hw9 := nzQ hw9
  refine spQ ?_
  have hq10 := nzQ (cfU hx8)
  refine guardC_t (fun h11 => ?_) (fun h11 => ?_)
  ·subst h11
   rw [if_pos rfl] at hM
   refine spQ ?_
   try have hr12 := mpQ (a := true = true) rfl
   have hM0 := hM; clear hM; obtain ⟨x13, hx14, hM⟩ := letk_opn hM0; clear hM0
   have hcx13 := cmH hx14 (specieref25_Message_ok  (b.Group) (k_.H1) (by (exact pfQ)) (by (exact pfQ)))
   refine callC_give hcx13 clQ clQ (fun hw15 => ?_)
   replace hw15 := nzQ hw15
   refine spQ ?_
   have hq16 := nzQ (cfU hx14)
   refine guardC_t (fun h17 => ?_) (fun h17 => ?_)
   ·subst h17
    rw [if_pos rfl] at hM
    refine spQ ?_
    try have hr18 := mpQ (a := true = true) rfl
    have hM0 := hM; clear hM; obtain ⟨x19, hx20, hM⟩ := letk_opn hM0; clear hM0
    have hcx19 := cmH hx20 (specieref25_Message_ok  (b.Group) (k_.H2) (by (exact pfQ)) (by (exact pfQ)))
    refine callC_give hcx19 clQ clQ (fun hw21 => ?_)
    replace hw21 := nzQ hw21
    refine spQ ?_
    have hq22 := nzQ (cfU hx20)
    subst hM
    exact retC_view lfQ
   ·subst h17
    rw [if_neg (by decide)] at hM
    refine spQ ?_
    subst hM
    exact retC_view lfQ
  ·subst h11
   rw [if_neg (by decide)] at hM
   refine spQ ?_
   subst hM
   exact retC_view lfQ
 ·subst h5
  rw [if_neg (by decide)] at hM
  refine spQ ?_
  subst hM
  exact retC_view lfQ
set_option maxHeartbeats 2000000 in
set_option maxRecDepth 100000 in
instance specieref30_in_ok   (x_ : Int) (low : Int) (high : Int)  : CM En (specieref30_in x_ low high) 65 [.int .i64 x_, .int .i64 low, .int .i64 high] (fun y => .bool y) (fun _ => []) := by
 refine cmQ fun r hM => ?_
 rw [specieref30_in.eq_1] at hM
 refine enterV En_ok En_mo noJ Tryz.func65 rfl Tryz.ntmps65 (by kernel_rfl) fun hw => ct_start ?_
 refine spQ ?_
 replace hw := nzQ hw
 have hF := trueQ
 exact auQ
set_option maxHeartbeats 2000000 in
set_option maxRecDepth 100000 in
instance specieref30_Frame_ok   (bank : Int) (epoch : Int) (from_ : Int) (until_ : Int) (final : Int)  : CM En (specieref30_Frame bank epoch from_ until_ final) 64 [.int .i64 bank, .int .i64 epoch, .int .i64 from_, .int .i64 until_, .int .i64 final] (fun y => .bool y) (fun _ => []) := by
 refine cmQ fun r hM => ?_
 rw [specieref30_Frame.eq_1] at hM
 refine enterV En_ok En_mo noJ Tryz.func64 rfl Tryz.ntmps64 (by kernel_rfl) fun hw => ct_start ?_
 refine spQ ?_
 replace hw := nzQ hw
 have hF := trueQ
 exact auQ
set_option maxHeartbeats 2000000 in
set_option maxRecDepth 100000 in
instance specieref28_One_ok   (d_ : S_api_Denom)  : CM En (specieref28_One d_) 66 [.agg [.int .i64 d_.Value, .int .i64 d_.Depth]] (fun y => .bool y) (fun _ => []) := by
 refine cmQ fun r hM => ?_
 rw [specieref28_One.eq_1] at hM
 refine enterV En_ok En_mo noJ Tryz.func66 rfl Tryz.ntmps66 (by kernel_rfl) fun hw => ct_start ?_
 refine spQ ?_
 replace hw := nzQ hw
 refine condC_intro (fun h1 => ?_) (fun h1 => ?_)
 ·rw [if_pos h1] at hM
  refine spQA h1 ?_
  have nh1 := nzQ h1
  try have hr2 := mpQ nh1
  subst hM
  exact retC_view (lfQA h1)
 ·rw [if_neg (ne_true h1)] at hM
  refine spQA h1 ?_
  have nh1 := nzQ h1
  try have hr3 := mpQ nh1
  refine guardC_t (fun h4 => ?_) (fun h4 => ?_)
  ·rw [if_pos h4] at hM
   refine spQA h4 ?_
   have nh4 := nzQ h4
   try have hr5 := mpQ nh4
   refine guardC_t (fun h6 => ?_) (fun h6 => ?_)
   ·rw [if_pos h6] at hM
    refine spQA h6 ?_
    have nh6 := nzQ h6
    try have hr7 := mpQ nh6
    refine guardC_t (fun h8 => ?_) (fun h8 => ?_)
    ·rw [if_pos h8] at hM
     refine spQA h8 ?_
     have nh8 := nzQ h8
     try have hr9 := mpQ nh8
     refine guardC_t (fun h10 => ?_) (fun h10 => ?_)
     ·rw [if_pos h10] at hM
      refine spQA h10 ?_
      have nh10 := nzQ h10
      try have hr11 := mpQ nh10
      refine bindC_intro (by (exact nn_u64 _)) ?_
      refine spQ ?_
      refine bindC_intro (by (clear hM; simp only [decide_eq_true_eq] at *; rcases (show d_.Depth = 0 ∨ d_.Depth = 1 ∨ d_.Depth = 2 ∨ d_.Depth = 3 ∨ d_.Depth = 4 ∨ d_.Depth = 5 by omega) with h | h | h | h | h | h <;> rw [h] <;> decide)) ?_
      refine spQ ?_
      subst hM
      exact retC_view (lfQA (And.intro h1 (And.intro h4 (And.intro h6 (And.intro h8 h10)))))
     ·rw [if_neg (ne_true h10)] at hM
      refine spQA h10 ?_
      have nh10 := nzQ h10
      try have hr12 := mpQ nh10
      subst hM
      exact retC_view (lfQA (And.intro h1 (And.intro h4 (And.intro h6 (And.intro h8 h10)))))
    ·rw [if_neg (ne_true h8)] at hM
     refine spQA h8 ?_
     have nh8 := nzQ h8
     try have hr13 := mpQ nh8
     subst hM
     exact retC_view (lfQA (And.intro h1 (And.intro h4 (And.intro h6 h8))))
   ·rw [if_neg (ne_true h6)] at hM
    refine spQA h6 ?_
    have nh6 := nzQ h6
    try have hr14 := mpQ nh6
    subst hM
    exact retC_view (lfQA (And.intro h1 (And.intro h4 h6)))
  ·rw [if_neg (ne_true h4)] at hM
   refine spQA h4 ?_
   have nh4 := nzQ h4
   try have hr15 := mpQ nh4
   subst hM
   exact retC_view (lfQA (And.intro h1 h4))
set_option maxHeartbeats 2000000 in
set_option maxRecDepth 100000 in
instance specieref30_Valid_ok   (b : S_api_Bases) (r_ : S_api_KeyRecord)  : CM En (specieref30_Valid b r_) 29 [(e_api_Bases b), (e_api_KeyRecord r_)] (fun y => .bool y) (fun _ => []) := by
 refine cmQ fun r hM => ?_
 rw [specieref30_Valid.eq_1] at hM
 refine enterV En_ok En_mo noJ Tryz.func29 rfl Tryz.ntmps29 (by kernel_rfl) fun hw => ct_start ?_
 refine spQ ?_
 replace hw := nzQ hw
 have hF := trueQ
 exact auQ
set_option maxHeartbeats 2000000 in
set_option maxRecDepth 100000 in
theorem specieref25_elements_ok   (g : S_api_Group) (s : S_api_CoinSign) (hp0 : 3 ≤ g.Q) (hp1 : g.P < 2305843009213693952) : CM En (specieref25_elements g s) 68 [.agg [.int .i64 g.P, .int .i64 g.Q, .int .i64 g.G], .agg [.int .i64 s.Z, .int .i64 s.A, .int .i64 s.B, .int .i64 s.R]] (fun y => .bool y) (fun _ => []) := by
 refine cmQ fun r hM => ?_
 rw [specieref25_elements.eq_1] at hM
 refine enterV En_ok En_mo noJ Tryz.func68 rfl Tryz.ntmps68 (by kernel_rfl) fun hw => ct_start ?_
 refine spQ ?_
 replace hw := nzQ hw
 have hM0 := hM; clear hM; obtain ⟨x1, hx2, hM⟩ := letk_opn hM0; clear hM0
 have hcx1 := cmH hx2 (specieref10_Member_ok  g (s.Z) (by (exact pfQ)) (by (exact pfQ)))
 refine callC_give hcx1 clQ clQ (fun hw3 => ?_)
 replace hw3 := nzQ hw3
 refine spQ ?_
 have hq4 := nzQ (cfU hx2)
 refine guardC_t (fun h5 => ?_) (fun h5 => ?_)
 ·subst h5
  rw [if_pos rfl] at hM
  refine spQ ?_
  try have hr6 := mpQ (a := true = true) rfl
  have hM0 := hM; clear hM; obtain ⟨x7, hx8, hM⟩ := letk_opn hM0; clear hM0
  have hcx7 := cmH hx8 (specieref10_Member_ok  g (s.A) (by (exact pfQ)) (by (exact pfQ)))
  refine callC_give hcx7 clQ clQ (fun hw9 => ?_)
  replace hw9 := nzQ hw9
  refine spQ ?_
  have hq10 := nzQ (cfU hx8)
  refine guardC_t (fun h11 => ?_) (fun h11 => ?_)
  ·subst h11
   rw [if_pos rfl] at hM
   refine spQ ?_
   try have hr12 := mpQ (a := true = true) rfl
   have hM0 := hM; clear hM; obtain ⟨x13, hx14, hM⟩ := letk_opn hM0; clear hM0
   have hcx13 := cmH hx14 (specieref10_Member_ok  g (s.B) (by (exact pfQ)) (by (exact pfQ)))
   refine callC_give hcx13 clQ clQ (fun hw15 => ?_)
   replace hw15 := nzQ hw15
   refine spQ ?_
   have hq16 := nzQ (cfU hx14)
   subst hM
   exact retC_view lfQ
  ·subst h11
   rw [if_neg (by decide)] at hM
   refine spQ ?_
   subst hM
   exact retC_view lfQ
 ·subst h5
  rw [if_neg (by decide)] at hM
  refine spQ ?_
  subst hM
  exact retC_view lfQ
set_option maxHeartbeats 2000000 in
set_option maxRecDepth 100000 in
instance specieref25_Scalar_ok   (g : S_api_Group) (n_ : Int)  : CM En (specieref25_Scalar g n_) 69 [.agg [.int .i64 g.P, .int .i64 g.Q, .int .i64 g.G], .int .i64 n_] (fun y => .bool y) (fun _ => []) := by
 refine cmQ fun r hM => ?_
 rw [specieref25_Scalar.eq_1] at hM
 refine enterV En_ok En_mo noJ Tryz.func69 rfl Tryz.ntmps69 (by kernel_rfl) fun hw => ct_start ?_
 refine spQ ?_
 replace hw := nzQ hw
 have hF := trueQ
 exact auQ
set_option maxHeartbeats 2000000 in
set_option maxRecDepth 100000 in
instance specieref11_Numbers_ok   (b : S_api_Bases)  : CM En (specieref11_Numbers b) 97 [(e_api_Bases b)] (fun y => .sl none 1 false (y.map (V.int .i64))) (fun _ => []) := by
 refine cmQ fun r hM => ?_
 rw [specieref11_Numbers.eq_1] at hM
 refine enterV En_ok En_mo noJ Tryz.func97 rfl Tryz.ntmps97 (by kernel_rfl) fun hw => ct_start ?_
 refine spQ ?_
 replace hw := nzQ hw
 subst hM
 exact retC_view lfQ
set_option maxHeartbeats 2000000 in
set_option maxRecDepth 100000 in
instance specieref25_integer_ok   (n_ : Int)  : CM En (specieref25_integer n_) 98 [.int .i64 n_] (fun y => .agg [.int .i64 y.Kind, .int .i64 y.N, .sl none 1 false (y.B.map (V.int .u8)), .sl none 4 true (y.L.map e_api_Item)]) (fun _ => []) := by
 refine cmQ fun r hM => ?_
 rw [specieref25_integer.eq_1] at hM
 refine enterV En_ok En_mo noJ Tryz.func98 rfl Tryz.ntmps98 (by kernel_rfl) fun hw => ct_start ?_
 refine spQ ?_
 replace hw := nzQ hw
 subst hM
 exact retC_view lfQ
set_option maxHeartbeats 2000000 in
set_option maxRecDepth 100000 in
theorem specieref01_Reduce_ok   (a_ : Int) (m : Int) (hp0 : 1 ≤ m) (hp1 : m < 2305843009213693952) : CM En (specieref01_Reduce a_ m) 85 [.int .i64 a_, .int .i64 m] (fun y => .int .i64 y) (fun _ => []) := by
 refine cmQ fun r hM => ?_
 rw [specieref01_Reduce.eq_1] at hM
 refine enterV En_ok En_mo noJ Tryz.func85 rfl Tryz.ntmps85 (by kernel_rfl) fun hw => ct_start ?_
 refine spQ ?_
 replace hw := nzQ hw
 have hF := trueQ
 exact auQ
set_option maxHeartbeats 2000000 in
set_option maxRecDepth 100000 in
theorem specieref06_Number_ok   (h_ : (List Int)) (m : Int) (hp0 : 1 ≤ m) (hp1 : m < 2305843009213693952) : CM En (specieref06_Number h_ m) 99 [(e_arr31 h_), .int .i64 m] (fun y => .int .i64 y) (fun _ => []) := by
 refine cmQ fun r hM => ?_
 rw [specieref06_Number.eq_1] at hM
 refine enterV En_ok En_mo noJ Tryz.func99 rfl Tryz.ntmps99 (by kernel_rfl) fun hw => ct_start ?_
 refine spQ ?_
 replace hw := nzQ hw
 have h0_0 := rem256_rng (m := m) (by omega)
 have hM0 := hM; clear hM; obtain ⟨f1, d1, hf1, hd1, hM⟩ := iter_opn hM0; clear hM0
 refine ct_loop (fun n S => ∃ p : Int × Int, S = (⟨[(1, .int .i64 m), (2, .ptr 0 0), (5, .int .i64 p.1), (6, .int .i64 p.2)], [(0, .var 32 true ((e_arr31 h_)))], 1⟩ : St) ∧ ((0 ≤ p.2) ∧ (p.2 ≤ 16) ∧ (0 ≤ p.1) ∧ (p.1 < m)) ∧ ((16 : Int) - p.2).toNat < n ∧ iter n f1 d1 p = r) (((16 : Int) - 0).toNat + 1) _ sbQ sbQ ⟨(0, 0), rfl, ⟨by (first | exact omQ | (clear hM; first | (have h9 := byte_conv (i := p1.2) hw.1 (by omega) (by omega); exact omQ'))), by (first | exact omQ | (clear hM; first | (have h9 := byte_conv (i := p1.2) hw.1 (by omega) (by omega); exact omQ'))), by (first | exact omQ | (clear hM; first | (have h9 := byte_conv (i := p1.2) hw.1 (by omega) (by omega); exact omQ'))), by (first | exact omQ | (clear hM; first | (have h9 := byte_conv (i := p1.2) hw.1 (by omega) (by omega); exact omQ')))⟩, (Nat.lt_succ_self _), hM⟩ ?_
 clear hM
 rintro n1 S ⟨p1, rfl, hfa1, hm1, hM⟩
 have hM0 := hM; clear hM; obtain ⟨ag1, hag1, hM⟩ := iter_step hM0 (by omega) hf1; clear hM0
 replace hfa1 := nzQ hfa1
 replace hm1 := nzQ hm1
 have ha1 : addI .i64 p1.2 1 = p1.2 + 1 := add_one (by (first | exact omQ | (clear hM; first | (have h9 := byte_conv (i := p1.2) hw.1 (by omega) (by omega); exact omQ')))) (by (first | exact omQ | (clear hM; first | (have h9 := byte_conv (i := p1.2) hw.1 (by omega) (by omega); exact omQ'))))
 refine spQA ha1 ?_
 refine condC_intro (fun h2 => ?_) (fun h2 => ?_)
 ·rw [if_pos h2] at hM
  refine spQA (And.intro ha1 h2) ?_
  have nh2 := nzQ h2
  try have hr3 := mpQ nh2
  refine ct_draw 24 11 [11, 12, 13, 14, 15, 16, 17, 18, 19, 20, 21] [] ([[], [], [1], [], [0, 1, 2, 3], [], [5], [5, 6], [5, 6, 7], [0, 1, 2, 3, 4, 5, 6, 7, 8], []] ++ [List.range 11, List.range 12]) [] (by kernel_rfl) (by exact alQ) ?_
  refine spQA ha1 ?_
  refine hbindC_intro (by (first | exact omQ | (clear hM; first | (have h9 := byte_conv (i := p1.2) hw.1 (by omega) (by omega); exact omQ')))) ?_
  refine spQA ha1 ?_
  have hM0 := hM; clear hM; obtain ⟨x4, hx5, hM⟩ := letk_opn hM0; clear hM0
  have hcx4 := cmH hx5 (specieref01_Mul_ok  (p1.1) (remI .i64 256 m) m (by (exact pfQ)) (by (exact pfQ)) (by (exact pfQ)) (by (exact pfQ)))
  refine hcallC_give hcx4 (clQA ha1) (clQA ha1) ?_
  refine spQA ha1 ?_
  have hq6 := rmul_rng hx5 (by omega) (by omega) (by omega)
  replace hq6 := nzQ hq6
  refine hbindC_intro (by (first | exact omQ | (clear hM; first | (have h9 := byte_conv (i := p1.2) hw.1 (by omega) (by omega); exact omQ')))) ?_
  have he7 : ((p1.2).toNat * 1 + 1 ≤ 32) = True := eq_true (by (first | exact omQ | (clear hM; first | (have h9 := byte_conv (i := p1.2) hw.1 (by omega) (by omega); exact omQ'))))
  refine spQA (And.intro ha1 he7) ?_
  have he8 := arr_get (f := (V.int .u8)) (l := h_) (n := 32) (i := p1.2) (by (first | exact omQ | (clear hM; first | (have h9 := byte_conv (i := p1.2) hw.1 (by omega) (by omega); exact omQ'))))
  replace he8 := spR he8
  try refine spQA (And.intro ha1 (And.intro he7 he8)) ?_
  have ha9 : addI .i64 x4 (convI .i64 (gt h_ p1.2)) = (x4 + (convI .i64 (gt h_ p1.2))) := add_ok (by (first | exact omQ | (clear hM; first | (have h9 := byte_conv (i := p1.2) hw.1 (by omega) (by omega); exact omQ')))) (by (first | exact omQ | (clear hM; first | (have h9 := byte_conv (i := p1.2) hw.1 (by omega) (by omega); exact omQ'))))
  try simp only [ha9]
  have hM0 := hM; clear hM; obtain ⟨x10, hx11, hM⟩ := letk_opn hM0; clear hM0
  have hcx10 := cmH hx11 (specieref01_Reduce_ok  (x4 + (convI .i64 (gt h_ p1.2))) m (by (exact pfQ)) (by (exact pfQ)))
  refine callC_give hcx10 (clQA (And.intro ha1 (And.intro he7 (And.intro he8 ha9)))) (clQA (And.intro ha1 (And.intro he7 (And.intro he8 ha9)))) (fun hw12 => ?_)
  replace hw12 := nzQ hw12
  refine spQA (And.intro ha1 (And.intro he7 (And.intro he8 ha9))) ?_
  have hq13 := rred_rng hx11 (by omega) (by omega)
  replace hq13 := nzQ hq13
  refine lp_intro (n1 - 1) _ (by omega) sbQ sbQ ⟨(x10, (p1.2 + 1)), rfl, ⟨by (first | exact omQ | (clear hM; first | (have h9 := byte_conv (i := (p1.2 + 1)) hw.1 (by omega) (by omega); exact omQ'))), by (first | exact omQ | (clear hM; first | (have h9 := byte_conv (i := (p1.2 + 1)) hw.1 (by omega) (by omega); exact omQ'))), by (first | exact omQ | (clear hM; first | (have h9 := byte_conv (i := (p1.2 + 1)) hw.1 (by omega) (by omega); exact omQ'))), by (first | exact omQ | (clear hM; first | (have h9 := byte_conv (i := (p1.2 + 1)) hw.1 (by omega) (by omega); exact omQ')))⟩, by (first | exact omQ | (clear hM; first | (have h9 := byte_conv (i := (p1.2 + 1)) hw.1 (by omega) (by omega); exact omQ'))), iter_again hM hag1⟩
 ·rw [if_neg (ne_true h2)] at hM
  refine spQA (And.intro ha1 h2) ?_
  have nh2 := nzQ h2
  try have hr14 := mpQ nh2
  subst hM
  exact retC_view (lfQA (And.intro ha1 h2))
set_option maxHeartbeats 2000000 in
set_option maxRecDepth 100000 in
theorem specieref25_Challenge_ok   (b : S_api_Bases) (pseudonym : Int) (root : (List Int)) (s : S_api_CoinSign) (hp0 : 1 ≤ b.Group.Q) (hp1 : b.Group.Q < 2305843009213693952) : CM En (specieref25_Challenge b pseudonym root s) 70 [(e_api_Bases b), .int .i64 pseudonym, (e_arr31 root), .agg [.int .i64 s.Z, .int .i64 s.A, .int .i64 s.B, .int .i64 s.R]] (fun y => .int .i64 y) (fun _ => []) := by
 refine cmQ fun r hM => ?_
 rw [specieref25_Challenge.eq_1] at hM
 refine enterV En_ok En_mo [12, 13] Tryz.func70 rfl Tryz.ntmps70 (by kernel_rfl) fun hw => ct_start ?_
 refine spQ ?_
 replace hw := nzQ hw
 have hM0 := hM; clear hM; obtain ⟨x1, hx2, hM⟩ := letk_opn hM0; clear hM0
 have hcx1 := cmU hx2
 refine callC_give hcx1 clQ clQ (fun hw3 => ?_)
 replace hw3 := nzQ hw3
 refine spQ ?_
 have hq4 := nzQ (cfU hx2)
 have hM0 := hM; clear hM; obtain ⟨f5, d5, hf5, hd5, hM⟩ := iter_opn hM0; clear hM0
 refine ct_loopW (fun n S => ∃ p : Int × List S_api_Item, S = (⟨[(1, .int .i64 pseudonym), (4, .ptr 0 0), (6, .ptr 1 0), (7, .ptr 2 0), (9, .sl none 1 false (x1.map (V.int .i64))), (10, .ptr 3 0), (11, .int .i64 p.1)], [(0, .var 6 true ((e_api_Bases b))), (1, .var 32 true ((e_arr31 root))), (2, .var 4 true (.agg [.int .i64 s.Z, .int .i64 s.A, .int .i64 s.B, .int .i64 s.R])), (3, .var 4 true (.agg [.int .i64 3, .int .i64 0, .sl (some true) 1 false [], .own 4])), (4, .own 78 4 true none (p.2.map e_api_Item))], 5⟩ : St) ∧ (((0 ≤ p.1) ∧ (p.1 ≤ (x1.length : Int)) ∧ (((p.2).length : Int) ≤ p.1)) ∧ (hgtL (p.2) = (p.2).length)) ∧ ((x1.length : Int) - p.1).toNat < n ∧ iter n f5 d5 p = r) (((x1.length : Int) - 0).toNat + 1) _ _ (weak_nilV 3 3 78 rfl rfl (by decide)) sbQ sbQ ⟨(0, ([] : List S_api_Item)), rfl, ⟨⟨omQ, omQ, omQ⟩, by (rfl)⟩, (Nat.lt_succ_self _), hM⟩ ?_
 clear hM
 rintro n5 S ⟨p5, rfl, ⟨hfa5, hF4_0⟩, hm5, hM⟩
 have hM0 := hM; clear hM; obtain ⟨ag5, hag5, hM⟩ := iter_step hM0 (by omega) hf5; clear hM0
 replace hfa5 := nzQ hfa5
 replace hm5 := nzQ hm5
 have ha5 : addI .i64 p5.1 1 = p5.1 + 1 := add_one omQ omQ
 refine spQA ha5 ?_
 refine condC_intro (fun h6 => ?_) (fun h6 => ?_)
 ·rw [if_pos h6] at hM
  refine spQA (And.intro ha5 h6) ?_
  have nh6 := nzQ h6
  try have hr7 := mpQ nh6
  refine ct_draw 70 8 [23, 24, 25, 26, 27, 28, 29, 30] [] ([[], [0], [], [], [2, 3], [2, 3, 4], [2, 3, 4, 5], [2, 3, 4, 5, 6]] ++ [List.range 8, List.range 9, List.range 10]) [] (by kernel_rfl) (by exact alQ) ?_
  refine spQA ha5 ?_
  refine hbindC_intro omQ ?_
  have he8 := fun d => elt_mp (l := x1) (f := (V.int .i64)) (i := p5.1) omQ d
  refine spQA (And.intro ha5 he8) ?_
  have hM0 := hM; clear hM; obtain ⟨x9, hx10, hM⟩ := letk_opn hM0; clear hM0
  have hcx9 := cmU hx10
  refine hcallC_give hcx9 (clQA (And.intro ha5 he8)) (clQA (And.intro ha5 he8)) ?_
  refine spQA (And.intro ha5 he8) ?_
  have hq11 := hgt_integer hx10
  replace hq11 := nzQ hq11
  refine bindC_intro omQ ?_
  refine spQA (And.intro ha5 he8) ?_
  refine lp_intro (n5 - 1) _ (by omega) sbQ sbQ ⟨((p5.1 + 1), (p5.2 ++ ([x9] : List S_api_Item))), rfl, ⟨⟨omQ, omQ, omQ⟩, by (clear hM; simp only [hgtL_app, hgtL, List.length_append, List.length_cons, List.length_nil]; omega)⟩, omQ, iter_again hM hag5⟩
 ·rw [if_neg (ne_true h6)] at hM
  refine spQA (And.intro ha5 h6) ?_
  have nh6 := nzQ h6
  try have hr12 := mpQ nh6
  refine seqC_pass ?_
  try refine spQA ha5 ?_
  have hM0 := hM; clear hM; obtain ⟨f13, d13, hf13, hd13, hM⟩ := iter_opn hM0; clear hM0
  refine ct_loopW (fun n S => ∃ p : Int × List Int, S = (⟨[(1, .int .i64 pseudonym), (4, .ptr 0 0), (6, .ptr 1 0), (7, .ptr 2 0), (10, .ptr 3 0), (12, .ptr 5 0), (13, .int .i64 p.1)], [(0, .var 6 true ((e_api_Bases b))), (1, .var 32 true ((e_arr31 root))), (2, .var 4 true (.agg [.int .i64 s.Z, .int .i64 s.A, .int .i64 s.B, .int .i64 s.R])), (3, .var 4 true (.agg [.int .i64 3, .int .i64 0, .sl (some true) 1 false [], .own 4])), (4, .own 78 4 true none (p5.2.map e_api_Item)), (5, .var 4 true (.agg [.int .i64 2, .int .i64 0, .own 6, .sl (some true) 4 true []])), (6, .own 5 1 false none (p.2.map (V.int .u8)))], 7⟩ : St) ∧ ((0 ≤ p.1) ∧ (p.1 ≤ 32) ∧ (((p.2).length : Int) ≤ p.1)) ∧ ((32 : Int) - p.1).toNat < n ∧ iter n f13 d13 p = r) (((32 : Int) - 0).toNat + 1) _ _ (weak_nilV 5 2 5 rfl rfl (by decide)) sbQ sbQ ⟨(0, ([] : List Int)), rfl, ⟨omQ, omQ, omQ⟩, (Nat.lt_succ_self _), hM⟩ ?_
  clear hM
  rintro n13 S ⟨p13, rfl, hfa13, hm13, hM⟩
  have hM0 := hM; clear hM; obtain ⟨ag13, hag13, hM⟩ := iter_step hM0 (by omega) hf13; clear hM0
  replace hfa13 := nzQ hfa13
  replace hm13 := nzQ hm13
  have ha13 : addI .i64 p13.1 1 = p13.1 + 1 := add_one omQ omQ
  refine spQA (And.intro ha5 ha13) ?_
  refine condC_intro (fun h14 => ?_) (fun h14 => ?_)
  ·rw [if_pos h14] at hM
   refine spQA (And.intro ha5 (And.intro ha13 h14)) ?_
   have nh14 := nzQ h14
   try have hr15 := mpQ nh14
   refine ct_draw 70 6 [38, 39, 40, 41, 42, 43] [] ([[], [0], [], [2], [2, 3], [2, 3, 4]] ++ [List.range 6, List.range 7, List.range 8]) [] (by kernel_rfl) (by exact alQ) ?_
   refine spQA (And.intro ha5 ha13) ?_
   refine hbindC_intro omQ ?_
   have he16 : ((p13.1).toNat * 1 + 1 ≤ 32) = True := eq_true omQ
   refine spQA (And.intro ha5 (And.intro ha13 he16)) ?_
   have he17 := arr_get (f := (V.int .u8)) (l := root) (n := 32) (i := p13.1) omQ
   replace he17 := spR he17
   try refine spQA (And.intro ha5 (And.intro ha13 (And.intro he16 he17))) ?_
   have hF := (And.intro ha5 (And.intro h6 (And.intro ha13 (And.intro h14 (And.intro he16 he17)))))
   exact auQ
  ·rw [if_neg (ne_true h14)] at hM
   refine spQA (And.intro ha5 (And.intro ha13 h14)) ?_
   have nh14 := nzQ h14
   try have hr18 := mpQ nh14
   refine cut_weakW _ (⟨[(1, .int .i64 pseudonym), (4, .ptr 0 0), (7, .ptr 2 0), (10, .ptr 3 0), (12, .ptr 5 0)], [(0, .var 6 true ((e_api_Bases b))), (2, .var 4 true (.agg [.int .i64 s.Z, .int .i64 s.A, .int .i64 s.B, .int .i64 s.R])), (3, .var 4 true (.agg [.int .i64 3, .int .i64 0, .sl (some true) 1 false [], .own 4])), (4, .own 78 4 true none (p5.2.map e_api_Item)), (5, .var 4 true (.agg [.int .i64 2, .int .i64 0, .sl none 1 false (p13.2.map (V.int .u8)), .sl (some true) 4 true []])), (6, .pown 1 false none (p13.2.map (V.int .u8)))], 7⟩ : St) ((weak_pub (S := ⟨_, _, _⟩) 6 (T := 5) (n := 1) (g := false) (z := none) (l := p13.2.map (V.int .u8)) (clQA (And.intro ha5 ha13))).trans (weak_cell (S := ⟨_, _, _⟩) 5 2 6 (n' := 4) (n := 1) (g := false) (l := [.int .i64 2, .int .i64 0, .own 6, .sl (some true) 4 true []]) (z := none) (m := p13.2.map (V.int .u8)) (clQA (And.intro ha5 ha13)) (clQA (And.intro ha5 ha13)) rfl)) sbQ sbQ ?_
   try refine spQA (And.intro ha5 ha13) ?_
   refine seqC_pass ?_
   try refine spQA (And.intro ha5 ha13) ?_
   refine ct_draw 70 15 [46, 47, 48, 49, 50, 51, 52, 53, 54, 55, 56, 57, 58, 59, 60] [] ([[], [0], [], [2], [], [], [5], [5, 6], [], [8], [8, 9], [], [11], [11, 12], [2, 3, 4, 5, 6, 7, 8, 9, 10, 11, 12, 13]] ++ [List.range 15, List.range 16, List.range 17]) [] (by kernel_rfl) (by exact alQ) ?_
   refine spQA (And.intro ha5 ha13) ?_
   have hM0 := hM; clear hM; obtain ⟨x19, hx20, hM⟩ := letk_opn hM0; clear hM0
   have hcx19 := cmU hx20
   refine hcallC_give hcx19 (clQA (And.intro ha5 ha13)) (clQA (And.intro ha5 ha13)) ?_
   refine spQA (And.intro ha5 ha13) ?_
   have hq21 := hgt_integer hx20
   replace hq21 := nzQ hq21
   have hM0 := hM; clear hM; obtain ⟨x22, hx23, hM⟩ := letk_opn hM0; clear hM0
   have hcx22 := cmU hx23
   refine hcallC_give hcx22 (clQA (And.intro ha5 ha13)) (clQA (And.intro ha5 ha13)) ?_
   refine spQA (And.intro ha5 ha13) ?_
   have hq24 := hgt_integer hx23
   replace hq24 := nzQ hq24
   have hM0 := hM; clear hM; obtain ⟨x25, hx26, hM⟩ := letk_opn hM0; clear hM0
   have hcx25 := cmU hx26
   refine hcallC_give hcx25 (clQA (And.intro ha5 ha13)) (clQA (And.intro ha5 ha13)) ?_
   refine spQA (And.intro ha5 ha13) ?_
   have hq27 := hgt_integer hx26
   replace hq27 := nzQ hq27
   have hM0 := hM; clear hM; obtain ⟨x28, hx29, hM⟩ := letk_opn hM0; clear hM0
   have hcx28 := cmU hx29
   refine hcallC_give hcx28 (clQA (And.intro ha5 ha13)) (clQA (And.intro ha5 ha13)) ?_
   refine spQA (And.intro ha5 ha13) ?_
   have hq30 := hgt_integer hx29
   replace hq30 := nzQ hq30
   refine bindC_intro omQ ?_
   refine spQA (And.intro ha5 ha13) ?_
   refine cut_weakW _ (⟨[(4, .ptr 0 0), (10, .ptr 3 0)], [(0, .var 6 true ((e_api_Bases b))), (3, .var 4 true (.agg [.int .i64 3, .int .i64 0, .sl (some true) 1 false [], .sl (some false) 4 true ((p5.2 ++ ([x19, ({ Kind := 2, N := 0, B := p13.2, L := ([] : List S_api_Item) } : S_api_Item), x22, x25, x28] : List S_api_Item)).map e_api_Item)])), (4, .pown 4 true (some false) ((p5.2 ++ ([x19, ({ Kind := 2, N := 0, B := p13.2, L := ([] : List S_api_Item) } : S_api_Item), x22, x25, x28] : List S_api_Item)).map e_api_Item))], 22⟩ : St) ((weak_list (S := ⟨_, _, _⟩) 4 (z' := (some false)) (m := (p5.2 ++ ([x19, ({ Kind := 2, N := 0, B := p13.2, L := ([] : List S_api_Item) } : S_api_Item), x22, x25, x28] : List S_api_Item)).map e_api_Item) rfl sbQ sbQ).trans ((weak_pub (S := ⟨_, _, _⟩) 4 (T := 78) (n := 4) (g := true) (z := (some false)) (l := (p5.2 ++ ([x19, ({ Kind := 2, N := 0, B := p13.2, L := ([] : List S_api_Item) } : S_api_Item), x22, x25, x28] : List S_api_Item)).map e_api_Item) (clQA (And.intro ha5 ha13))).trans (weak_cell (S := ⟨_, _, _⟩) 3 3 4 (n' := 4) (n := 4) (g := true) (l := [.int .i64 3, .int .i64 0, .sl (some true) 1 false [], .own 4]) (z := (some false)) (m := (p5.2 ++ ([x19, ({ Kind := 2, N := 0, B := p13.2, L := ([] : List S_api_Item) } : S_api_Item), x22, x25, x28] : List S_api_Item)).map e_api_Item) (clQA (And.intro ha5 ha13)) (clQA (And.intro ha5 ha13)) rfl))) sbQ sbQ ?_
   try refine spQA (And.intro ha5 ha13) ?_
   refine ct_draw 70 6 [63, 64, 65, 66, 67, 68] [] ([[], [0], [0, 1], [], [3], [3, 4]] ++ [List.range 6, List.range 7]) [] (by kernel_rfl) (by exact alQ) ?_
   refine spQA (And.intro ha5 ha13) ?_
   have hM0 := hM; clear hM; obtain ⟨x31, hx32, hM⟩ := letk_opn hM0; clear hM0
   have hcx31 := encI_ok  ({ Kind := 3, N := 0, B := ([] : List Int), L := (p5.2 ++ ([x19, ({ Kind := 2, N := 0, B := p13.2, L := ([] : List S_api_Item) } : S_api_Item), x22, x25, x28] : List S_api_Item)) } : S_api_Item) (by (simp only [hgt, hgtL_app, hgtL, arrN_len, List.length_nil]; omega))
   rw [← hx32] at hcx31
   refine hcallC_give hcx31 (clQA (And.intro ha5 ha13)) (clQA (And.intro ha5 ha13)) ?_
   refine spQA (And.intro ha5 ha13) ?_
   have hq33 := enc_chalL hx32 (by omega) (by omega) (by omega) (by omega) (by omega) (by omega)
   replace hq33 := nzQ hq33
   have hM0 := hM; clear hM; obtain ⟨x34, hx35, hM⟩ := letk_opn hM0; clear hM0
   have hcx34 := cmH hx35 (specieref06_Tagged_ok  ([115, 112, 101, 99, 105, 101, 47, 99, 111, 105, 110]) x31 (by (first | decide | omega)) (by (first | decide | omega)))
   refine hcallC_give hcx34 (clQA (And.intro ha5 ha13)) (clQA (And.intro ha5 ha13)) ?_
   refine spQA (And.intro ha5 ha13) ?_
   have hM0 := hM; clear hM; obtain ⟨x36, hx37, hM⟩ := letk_opn hM0; clear hM0
   have hcx36 := cmH hx37 (specieref06_Number_ok  x34 (b.Group.Q) (by (exact pfQ)) (by (exact pfQ)))
   refine callC_give hcx36 (clQA (And.intro ha5 ha13)) (clQA (And.intro ha5 ha13)) (fun hw38 => ?_)
   replace hw38 := nzQ hw38
   refine spQA (And.intro ha5 ha13) ?_
   subst hM
   exact retC_view (lfQA (And.intro ha5 (And.intro ha13 (And.intro h6 h14))))
set_option maxHeartbeats 2000000 in
set_option maxRecDepth 100000 in
theorem specieref25_power_ok   (g : S_api_Group) (a_ : Int) (e_ : Int) (hp0 : 0 ≤ a_) (hp1 : a_ < g.P) (hp2 : 0 ≤ e_) (hp3 : g.P < 2305843009213693952) : CM En (specieref25_power g a_ e_) 71 [.agg [.int .i64 g.P, .int .i64 g.Q, .int .i64 g.G], .int .i64 a_, .int .i64 e_] (fun y => .int .i64 y) (fun _ => []) := by
 refine cmQ fun r hM => ?_
 rw [specieref25_power.eq_1] at hM
 refine enterV En_ok En_mo noJ Tryz.func71 rfl Tryz.ntmps71 (by kernel_rfl) fun hw => ct_start ?_
 refine spQ ?_
 replace hw := nzQ hw
 have hM0 := hM; clear hM; obtain ⟨x1, hx2, hM⟩ := letk_opn hM0; clear hM0
 have hcx1 := cmH hx2 (specieref01_Pow_ok  a_ e_ (g.P) (by (exact pfQ)) (by (exact pfQ)) (by (exact pfQ)) (by (exact pfQ)))
 refine callC_give hcx1 clQ clQ (fun hw3 => ?_)
 replace hw3 := nzQ hw3
 refine spQ ?_
 subst hM
 exact retC_view lfQ
set_option maxHeartbeats 2000000 in
set_option maxRecDepth 100000 in
theorem specieref25_times_ok   (g : S_api_Group) (a_ : Int) (b : Int) (hp0 : 0 ≤ a_) (hp1 : a_ < g.P) (hp2 : 0 ≤ b) (hp3 : g.P < 2305843009213693952) : CM En (specieref25_times g a_ b) 72 [.agg [.int .i64 g.P, .int .i64 g.Q, .int .i64 g.G], .int .i64 a_, .int .i64 b] (fun y => .int .i64 y) (fun _ => []) := by
 refine cmQ fun r hM => ?_
 rw [specieref25_times.eq_1] at hM
 refine enterV En_ok En_mo noJ Tryz.func72 rfl Tryz.ntmps72 (by kernel_rfl) fun hw => ct_start ?_
 refine spQ ?_
 replace hw := nzQ hw
 have hM0 := hM; clear hM; obtain ⟨x1, hx2, hM⟩ := letk_opn hM0; clear hM0
 have hcx1 := cmH hx2 (specieref01_Mul_ok  a_ b (g.P) (by (exact pfQ)) (by (exact pfQ)) (by (exact pfQ)) (by (exact pfQ)))
 refine callC_give hcx1 clQ clQ (fun hw3 => ?_)
 replace hw3 := nzQ hw3
 refine spQ ?_
 subst hM
 exact retC_view lfQ
end Go.Proofs.YtcbdmoihobdjaaaGreatDoor
