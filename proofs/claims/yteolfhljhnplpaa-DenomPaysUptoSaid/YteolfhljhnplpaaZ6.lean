/- Texts of this proof, one after the other: U2, L2, L3, L4, L5, L6, L7. -/
import Derived.Test.YteolfhljhnplpaaZ5
import Derived.Test.YteolfhljhnplpaaZ4
set_option linter.unusedVariables false
set_option linter.unusedSimpArgs false
namespace Go.Proofs.Yteolfhljhnplpaa
open Go.RowKit
set_option linter.unusedSimpArgs false
set_option maxHeartbeats 2000000 in
set_option maxRecDepth 100000 in
instance specieref28_coins_ok   (counts : (List Int))  : CM En (specieref28_coins counts) 25 [.sl none 1 false (counts.map (V.int .i64))] (fun y => .int .i64 y) (fun _ => []) := by
 refine cmQ fun r hM => ?_
 rw [specieref28_coins.eq_1] at hM
 refine enterV En_ok En_mo noJ Try.func25 rfl Try.ntmps25 (by kernel_rfl) fun hw => ct_start ?_
 refine spQ ?_
 replace hw := nzQ hw
 have hM0 := hM; clear hM; obtain ⟨f1, d1, hf1, hd1, hM⟩ := iter_opn hM0; clear hM0
 refine ct_loop (fun n S => ∃ p : Int × Int, S = (⟨[(0, .sl none 1 false (counts.map (V.int .i64))), (3, .int .i64 p.1), (4, .int .i64 p.2)], [], 0⟩ : St) ∧ ((0 ≤ p.2) ∧ (p.2 ≤ (counts.length : Int))) ∧ ((counts.length : Int) - p.2).toNat < n ∧ iter n f1 d1 p = r) (((counts.length : Int) - 0).toNat + 1) _ sbQ sbQ ⟨(0, 0), rfl, ⟨omQ, omQ⟩, (Nat.lt_succ_self _), hM⟩ ?_
 clear hM
 rintro n1 S ⟨p1, rfl, hfa1, hm1, hM⟩
 have hM0 := hM; clear hM; obtain ⟨ag1, hag1, hM⟩ := iter_step hM0 (by omega) hf1; clear hM0
 replace hfa1 := nzQ hfa1
 replace hm1 := nzQ hm1
 have ha1 : addI .i64 p1.2 1 = p1.2 + 1 := add_one omQ omQ
 refine spQA ha1 ?_
 have hF := ha1
 exact auQ
instance (priority := 1002) : DRD 7 41 8 [32, 33, 34, 35, 36, 37, 38, 39] [] ([[], [], [0, 1], [0, 1, 2], [], [], [4, 5], [4, 5, 6]] ++ [List.range 8, List.range 9]) [] := ⟨trivial⟩
set_option maxHeartbeats 2000000 in
set_option maxRecDepth 100000 in
theorem specieref28_Better_ok   (a_ : (List Int)) (b : (List Int)) (hp0 : a_.length = b.length) : CM En (specieref28_Better a_ b) 19 [.sl none 1 false (a_.map (V.int .i64)), .sl none 1 false (b.map (V.int .i64))] (fun y => .bool y) (fun _ => []) := by
 refine cmQ fun r hM => ?_
 rw [specieref28_Better.eq_1] at hM
 refine enterV En_ok En_mo noJ Try.func19 rfl Try.ntmps19 (by kernel_rfl) fun hw => ct_start ?_
 refine spQ ?_
 replace hw := nzQ hw
 have hM0 := hM; clear hM; obtain ⟨x1, hx2, hM⟩ := letk_opn hM0; clear hM0
 have hcx1 := cmU hx2
 refine callC_give hcx1 clQ clQ (fun hw3 => ?_)
 replace hw3 := nzQ hw3
 refine spQ ?_
 have hM0 := hM; clear hM; obtain ⟨x4, hx5, hM⟩ := letk_opn hM0; clear hM0
 have hcx4 := cmU hx5
 refine callC_give hcx4 clQ clQ (fun hw6 => ?_)
 replace hw6 := nzQ hw6
 refine spQ ?_
 refine condC_intro (fun h7 => ?_) (fun h7 => ?_)
 ·rw [if_pos h7] at hM
  refine spQA h7 ?_
  have nh7 := nzQ h7
  have hF := h7
  exact auQ
 ·rw [if_neg (ne_true h7)] at hM
  refine spQA h7 ?_
  have nh7 := nzQ h7
  have ha14 : subI .i64 (a_.length : Int) 1 = ((a_.length : Int) - 1) := sub_ok omQ omQ
  try simp only [ha14]
  have hM0 := hM; clear hM; obtain ⟨f15, d15, hf15, hd15, hM⟩ := iter_opn hM0; clear hM0
  refine ct_loop (fun n S => ∃ p : Int, S = (⟨[(0, .sl none 1 false (a_.map (V.int .i64))), (1, .sl none 1 false (b.map (V.int .i64))), (5, .int .i64 p)], [], 0⟩ : St) ∧ ((-1 ≤ p) ∧ (p ≤ (a_.length : Int) - 1)) ∧ (p + 1).toNat < n ∧ iter n f15 d15 p = r) ((((a_.length : Int) - 1) + 1).toNat + 1) _ sbQ sbQ ⟨((a_.length : Int) - 1), rfl, ⟨omQ, omQ⟩, (Nat.lt_succ_self _), hM⟩ ?_
  clear hM
  rintro n15 S ⟨p15, rfl, hfa15, hm15, hM⟩
  have hM0 := hM; clear hM; obtain ⟨ag15, hag15, hM⟩ := iter_step hM0 (by omega) hf15; clear hM0
  replace hfa15 := nzQ hfa15
  replace hm15 := nzQ hm15
  refine spQA ha14 ?_
  refine condC_intro (fun h16 => ?_) (fun h16 => ?_)
  ·rw [if_pos h16] at hM
   refine spQA (And.intro ha14 h16) ?_
   have nh16 := nzQ h16
   refine ct_draw 41 8 [23, 24, 25, 26, 27, 28, 29, 30] [] ([[], [], [0, 1], [0, 1, 2], [], [], [4, 5], [4, 5, 6]] ++ [List.range 8]) [] (by kernel_rfl) (by exact alQ) ?_
   refine spQA ha14 ?_
   refine hbindC_intro omQ ?_
   have he17 := fun d => elt_mp (l := a_) (f := (V.int .i64)) (i := p15) omQ d
   refine spQA (And.intro ha14 he17) ?_
   refine hbindC_intro omQ ?_
   have he18 := fun d => elt_mp (l := b) (f := (V.int .i64)) (i := p15) omQ d
   refine spQA (And.intro ha14 (And.intro he17 he18)) ?_
   refine condC_intro (fun h19 => ?_) (fun h19 => ?_)
   ·rw [if_pos h19] at hM
    refine spQA (And.intro ha14 (And.intro he17 (And.intro he18 h19))) ?_
    have nh19 := nzQ h19
    have hF := (And.intro h7 (And.intro ha14 (And.intro h16 (And.intro he17 (And.intro he18 h19)))))
    exact auQ
   ·rw [if_neg (ne_true h19)] at hM
    refine spQA (And.intro ha14 (And.intro he17 (And.intro he18 h19))) ?_
    have nh19 := nzQ h19
    have ha20 : subI .i64 p15 1 = (p15 - 1) := sub_ok omQ omQ
    try simp only [ha20]
    refine lp_intro (n15 - 1) _ (by omega) sbQ sbQ ⟨(p15 - 1), rfl, ⟨omQ, omQ⟩, omQ, iter_again hM hag15⟩
  ·rw [if_neg (ne_true h16)] at hM
   refine spQA (And.intro ha14 h16) ?_
   have nh16 := nzQ h16
   subst hM
   exact retC_view (lfQA (And.intro ha14 (And.intro h7 h16)))
set_option maxHeartbeats 4000000 in
set_option maxRecDepth 100000 in
theorem specieref28_Pay_ok   (l : (List S_api_Denom)) (have_ : (List Int)) (amount : Int) (hp0 : 0 ≤ amount) (hp1 : amount ≤ 1000) (hp2 : have_.length = l.length) (hp3 : 1 ≤ l.length ∧ l.length ≤ 16) (hpl : ∀ j : Int, 0 ≤ j → j.toNat < l.length → 0 ≤ (gt l j).Value ∧ (gt l j).Value ≤ 1099511627776) (hpm : ∀ j : Int, 0 ≤ j → j.toNat < have_.length → 0 ≤ gt have_ j ∧ gt have_ j ≤ 1000) : CM En (specieref28_Pay l have_ amount) 9 [.sl none 2 true (l.map e_api_Denom), .sl none 1 false (have_.map (V.int .i64)), .int .i64 amount] (fun y => .sl (some y.isEmpty) 1 false (y.map (V.int .i64))) (fun _ => []) := by
 refine cmQ fun r hM => ?_
 rw [specieref28_Pay.eq_1] at hM
 refine enterV En_ok En_mo [3, 17] Try.func9 rfl Try.ntmps9 (by kernel_rfl) fun hw => ct_start ?_
 refine spQ ?_
 replace hw := nzQ hw
 have ha1 : addI .i64 amount 1 = (amount + 1) := add_ok (by (first | exact omQ | (clear hM; first | (have hr := hF4_0.1; exact omQ') | (have hr := hF11_0.1; exact omQ')))) (by (first | exact omQ | (clear hM; first | (have hr := hF4_0.1; exact omQ') | (have hr := hF11_0.1; exact omQ'))))
 try simp only [ha1]
 refine bindC_intro (by (first | exact omQ | (clear hM; first | (have hr := hF4_0.1; exact omQ') | (have hr := hF11_0.1; exact omQ')))) ?_
 refine spQA ha1 ?_
 refine seqC_pass ?_
 try refine spQA ha1 ?_
 refine bindC_intro (by (first | exact omQ | (clear hM; first | (have hr := hF4_0.1; exact omQ') | (have hr := hF11_0.1; exact omQ')))) ?_
 refine spQA ha1 ?_
 refine bindC_intro (by (first | exact omQ | (clear hM; first | (have hr := hF4_0.1; exact omQ') | (have hr := hF11_0.1; exact omQ')))) ?_
 have he2 : ∀ d, elt ((rep (amount + 1).toNat []).map eN23) 0 d = eN23 (gt (rep (amount + 1).toNat []) 0) := fun d => elt_mp (l := (rep (amount + 1).toNat [])) (f := eN23) (i := 0) (by (first | exact omQ | (clear hM; first | (have hr := hF4_0.1; exact omQ') | (have hr := hF11_0.1; exact omQ')))) d
 refine spQA (And.intro ha1 he2) ?_
 refine bindC_intro (by (first | exact omQ | (clear hM; first | (have hr := hF4_0.1; exact omQ') | (have hr := hF11_0.1; exact omQ')))) ?_
 refine spQA (And.intro ha1 he2) ?_
 have hz3 : (rep (l.length) (0 : Int)).isEmpty = false := by (exact rep_ne (by omega))
 refine cut_weakW _ (⟨[(0, .sl none 2 true (l.map e_api_Denom)), (1, .sl none 1 false (have_.map (V.int .i64))), (2, .int .i64 amount), (7, .own 0)], [(0, .own 23 1 false none ((st (rep (amount + 1).toNat []) 0 (rep (l.length) (0 : Int))).map eN23))], 2⟩ : St) (weak_rows (T' := 23) (n' := 1) (g' := false) (z' := (some false)) (T := 3) (n := 1) (g := false) (z := (some false)) (l := (rep (l.length) (0 : Int)).map (V.int .i64)) 0 1 eN23 (rep (amount + 1).toNat []) 0 (rep (l.length) (0 : Int)) (by simp only [go_sem, rowV_eq, rowV_eq0, List.length_replicate, rep_len, Int.toNat_natCast, ↓reduceIte, Nat.reduceEqDiff, Nat.reduceAdd, Int.reduceAdd, Nat.reduceMul, Nat.reduceLeDiff, Nat.reduceLT, Int.reduceLE, Int.reduceLT, Int.reduceNeg, Int.reduceToNat, map_st, rowV, rep_map, List.isEmpty_nil, List.map_nil, Int.toNat_zero]) (by simp only [go_sem, rowV_eq, rowV_eq0, List.length_replicate, rep_len, Int.toNat_natCast, ↓reduceIte, Nat.reduceEqDiff, Nat.reduceAdd, Int.reduceAdd, Nat.reduceMul, Nat.reduceLeDiff, Nat.reduceLT, Int.reduceLE, Int.reduceLT, Int.reduceNeg, Int.reduceToNat, map_st, rep_map]) (by decide) (fun _ => by simp only [go_sem, rowV_eq, rowV_eq0, List.length_replicate, rep_len, Int.toNat_natCast, ↓reduceIte, Nat.reduceEqDiff, Nat.reduceAdd, Int.reduceAdd, Nat.reduceMul, Nat.reduceLeDiff, Nat.reduceLT, Int.reduceLE, Int.reduceLT, Int.reduceNeg, Int.reduceToNat]) (by simp only [go_sem, rowV_eq, rowV_eq0, List.length_replicate, rep_len, Int.toNat_natCast, ↓reduceIte, Nat.reduceEqDiff, Nat.reduceAdd, Int.reduceAdd, Nat.reduceMul, Nat.reduceLeDiff, Nat.reduceLT, Int.reduceLE, Int.reduceLT, Int.reduceNeg, Int.reduceToNat, hz3, mtZ, mt, mtL_self, mt_self])) (by simp only [go_sem, rowV_eq, rowV_eq0, List.length_replicate, rep_len, Int.toNat_natCast, ↓reduceIte, Nat.reduceEqDiff, Nat.reduceAdd, Int.reduceAdd, Nat.reduceMul, Nat.reduceLeDiff, Nat.reduceLT, Int.reduceLE, Int.reduceLT, Int.reduceNeg, Int.reduceToNat, List.isEmpty_nil, map_st, mtL_repE, mtL_repM, subF, subH, mtO, mtB, mt, mtL, mtL_self, mt_self, ltV, ltL, ltB, eq_self, or_true, true_or, or_self, and_self, rowV_ltE (f := eN23) (fun _ => by simp only [go_sem])]) (by simp only [go_sem, rowV_eq, rowV_eq0, List.length_replicate, rep_len, Int.toNat_natCast, ↓reduceIte, Nat.reduceEqDiff, Nat.reduceAdd, Int.reduceAdd, Nat.reduceMul, Nat.reduceLeDiff, Nat.reduceLT, Int.reduceLE, Int.reduceLT, Int.reduceNeg, Int.reduceToNat, List.isEmpty_nil, map_st, mtL_repE, mtL_repM, subF, subH, mtO, mtB, mt, mtL, mtL_self, mt_self, ltV, ltL, ltB, eq_self, or_true, true_or, or_self, and_self, rowV_ltE (f := eN23) (fun _ => by simp only [go_sem])]) ?_
 try refine spQA (And.intro ha1 he2) ?_
 have hM0 := hM; clear hM; obtain ⟨f4, d4, hf4, hd4, hM⟩ := iter_opn hM0; clear hM0
 refine ct_loop (fun n S => ∃ p : Int × List (List Int), S = (⟨[(0, .sl none 2 true (l.map e_api_Denom)), (1, .sl none 1 false (have_.map (V.int .i64))), (2, .int .i64 amount), (7, .own 0), (8, .int .i64 p.1)], [(0, .own 23 1 false none (p.2.map eN23))], 2⟩ : St) ∧ (((0 ≤ p.1) ∧ (p.1 ≤ (l.length : Int)) ∧ (0 ≤ p.1) ∧ (p.1 ≤ (l.length : Int))) ∧ (RW l.length amount p.2)) ∧ ((l.length : Int) - p.1).toNat < n ∧ iter n f4 d4 p = r) (((l.length : Int) - 0).toNat + 1) _ (by simp only [go_sem, rowV_eq, rowV_eq0, List.length_replicate, rep_len, Int.toNat_natCast, ↓reduceIte, Nat.reduceEqDiff, Nat.reduceAdd, Int.reduceAdd, Nat.reduceMul, Nat.reduceLeDiff, Nat.reduceLT, Int.reduceLE, Int.reduceLT, Int.reduceNeg, Int.reduceToNat, List.isEmpty_nil, map_st, mtL_repE, mtL_repM, subF, subH, mtO, mtB, mt, mtL, mtL_self, mt_self, ltV, ltL, ltB, eq_self, or_true, true_or, or_self, and_self, rowV_ltE (f := eN23) (fun _ => by simp only [go_sem])]) (by simp only [go_sem, rowV_eq, rowV_eq0, List.length_replicate, rep_len, Int.toNat_natCast, ↓reduceIte, Nat.reduceEqDiff, Nat.reduceAdd, Int.reduceAdd, Nat.reduceMul, Nat.reduceLeDiff, Nat.reduceLT, Int.reduceLE, Int.reduceLT, Int.reduceNeg, Int.reduceToNat, List.isEmpty_nil, map_st, mtL_repE, mtL_repM, subF, subH, mtO, mtB, mt, mtL, mtL_self, mt_self, ltV, ltL, ltB, eq_self, or_true, true_or, or_self, and_self, rowV_ltE (f := eN23) (fun _ => by simp only [go_sem])]) ⟨(0, (st (rep (amount + 1).toNat []) 0 (rep (l.length) (0 : Int)))), rfl, ⟨⟨by (first | exact omQ | (clear hM; first | (have hv := hpl p4.1 (by omega) (by omega); have hm := hpm p4.1 (by omega) (by omega); exact omQ') | (have hr := hF4_0.1; exact omQ') | (have hr := hF11_0.1; exact omQ') | (have hv := hpl p4.1 (by omega) (by omega); have hm := hpm p4.1 (by omega) (by omega); have hr := hF4_0.1; exact omQ'))), by (first | exact omQ | (clear hM; first | (have hv := hpl p4.1 (by omega) (by omega); have hm := hpm p4.1 (by omega) (by omega); exact omQ') | (have hr := hF4_0.1; exact omQ') | (have hr := hF11_0.1; exact omQ') | (have hv := hpl p4.1 (by omega) (by omega); have hm := hpm p4.1 (by omega) (by omega); have hr := hF4_0.1; exact omQ'))), by (first | exact omQ | (clear hM; first | (have hv := hpl p4.1 (by omega) (by omega); have hm := hpm p4.1 (by omega) (by omega); exact omQ') | (have hr := hF4_0.1; exact omQ') | (have hr := hF11_0.1; exact omQ') | (have hv := hpl p4.1 (by omega) (by omega); have hm := hpm p4.1 (by omega) (by omega); have hr := hF4_0.1; exact omQ'))), by (first | exact omQ | (clear hM; first | (have hv := hpl p4.1 (by omega) (by omega); have hm := hpm p4.1 (by omega) (by omega); exact omQ') | (have hr := hF4_0.1; exact omQ') | (have hr := hF11_0.1; exact omQ') | (have hv := hpl p4.1 (by omega) (by omega); have hm := hpm p4.1 (by omega) (by omega); have hr := hF4_0.1; exact omQ')))⟩, by (clear hM; exact RW.zero.set rep_len)⟩, (Nat.lt_succ_self _), hM⟩ ?_
 clear hM
 rintro n4 S ⟨p4, rfl, ⟨hfa4, hF4_0⟩, hm4, hM⟩
 have hM0 := hM; clear hM; obtain ⟨ag4, hag4, hM⟩ := iter_step hM0 (by omega) hf4; clear hM0
 replace hfa4 := nzQ hfa4
 replace hm4 := nzQ hm4
 have ha4 : addI .i64 p4.1 1 = p4.1 + 1 := add_one (by (first | exact omQ | (clear hM; first | (have hv := hpl p4.1 (by omega) (by omega); have hm := hpm p4.1 (by omega) (by omega); exact omQ') | (have hr := hF4_0.1; exact omQ') | (have hr := hF11_0.1; exact omQ') | (have hv := hpl p4.1 (by omega) (by omega); have hm := hpm p4.1 (by omega) (by omega); have hr := hF4_0.1; exact omQ')))) (by (first | exact omQ | (clear hM; first | (have hv := hpl p4.1 (by omega) (by omega); have hm := hpm p4.1 (by omega) (by omega); exact omQ') | (have hr := hF4_0.1; exact omQ') | (have hr := hF11_0.1; exact omQ') | (have hv := hpl p4.1 (by omega) (by omega); have hm := hpm p4.1 (by omega) (by omega); have hr := hF4_0.1; exact omQ'))))
 refine spQA (And.intro ha1 (And.intro he2 ha4)) ?_
 refine condC_intro (fun h5 => ?_) (fun h5 => ?_)
 ·rw [if_pos h5] at hM
  refine spQA (And.intro ha1 (And.intro he2 (And.intro ha4 h5))) ?_
  have nh5 := nzQ h5
  refine bindC_intro (by (first | exact omQ | (clear hM; first | (have hv := hpl p4.1 (by omega) (by omega); have hm := hpm p4.1 (by omega) (by omega); exact omQ') | (have hr := hF4_0.1; exact omQ') | (have hr := hF11_0.1; exact omQ') | (have hv := hpl p4.1 (by omega) (by omega); have hm := hpm p4.1 (by omega) (by omega); have hr := hF4_0.1; exact omQ')))) ?_
  refine spQA (And.intro ha1 (And.intro he2 ha4)) ?_
  have hM0 := hM; clear hM; obtain ⟨f7, d7, hf7, hd7, hM⟩ := iter_opn hM0; clear hM0
  refine ct_loop (fun n S => ∃ p : Int × List (List Int), S = (⟨[(0, .sl none 2 true (l.map e_api_Denom)), (1, .sl none 1 false (have_.map (V.int .i64))), (2, .int .i64 amount), (7, .own 0), (8, .int .i64 p4.1), (9, .own 2), (10, .int .i64 p.1)], [(0, .own 23 1 false none (p4.2.map eN23)), (2, .own 23 1 false none (p.2.map eN23))], 3⟩ : St) ∧ (((0 ≤ p.1) ∧ (p.1 ≤ amount + 1)) ∧ (RW l.length amount p.2)) ∧ (amount + 1 - p.1).toNat < n ∧ iter n f7 d7 p = r) ((amount + 1 - 0).toNat + 1) _ (by simp only [go_sem, rowV_eq, rowV_eq0, List.length_replicate, rep_len, Int.toNat_natCast, ↓reduceIte, Nat.reduceEqDiff, Nat.reduceAdd, Int.reduceAdd, Nat.reduceMul, Nat.reduceLeDiff, Nat.reduceLT, Int.reduceLE, Int.reduceLT, Int.reduceNeg, Int.reduceToNat, List.isEmpty_nil, map_st, mtL_repE, mtL_repM, subF, subH, mtO, mtB, mt, mtL, mtL_self, mt_self, ltV, ltL, ltB, eq_self, or_true, true_or, or_self, and_self, rowV_ltE (f := eN23) (fun _ => by simp only [go_sem])]) (by simp only [go_sem, rowV_eq, rowV_eq0, List.length_replicate, rep_len, Int.toNat_natCast, ↓reduceIte, Nat.reduceEqDiff, Nat.reduceAdd, Int.reduceAdd, Nat.reduceMul, Nat.reduceLeDiff, Nat.reduceLT, Int.reduceLE, Int.reduceLT, Int.reduceNeg, Int.reduceToNat, List.isEmpty_nil, map_st, mtL_repE, mtL_repM, subF, subH, mtO, mtB, mt, mtL, mtL_self, mt_self, ltV, ltL, ltB, eq_self, or_true, true_or, or_self, and_self, rowV_ltE (f := eN23) (fun _ => by simp only [go_sem])]) ⟨(0, (rep (amount + 1).toNat [])), rfl, ⟨⟨by (first | exact omQ | (clear hM; first | (have hv := hpl p4.1 (by omega) (by omega); have hm := hpm p4.1 (by omega) (by omega); exact omQ') | (have hr := hF4_0.1; exact omQ') | (have hr := hF11_0.1; exact omQ') | (have hv := hpl p4.1 (by omega) (by omega); have hm := hpm p4.1 (by omega) (by omega); have hr := hF4_0.1; exact omQ'))), by (first | exact omQ | (clear hM; first | (have hv := hpl p4.1 (by omega) (by omega); have hm := hpm p4.1 (by omega) (by omega); exact omQ') | (have hr := hF4_0.1; exact omQ') | (have hr := hF11_0.1; exact omQ') | (have hv := hpl p4.1 (by omega) (by omega); have hm := hpm p4.1 (by omega) (by omega); have hr := hF4_0.1; exact omQ')))⟩, by (clear hM; exact RW.zero)⟩, (Nat.lt_succ_self _), hM⟩ ?_
  clear hM
  rintro n7 S ⟨p7, rfl, ⟨hfa7, hF8_0⟩, hm7, hM⟩
  have hM0 := hM; clear hM; obtain ⟨ag7, hag7, hM⟩ := iter_step hM0 (by omega) hf7; clear hM0
  replace hfa7 := nzQ hfa7
  replace hm7 := nzQ hm7
  refine spQA (And.intro ha1 (And.intro he2 ha4)) ?_
  refine condC_intro (fun h8 => ?_) (fun h8 => ?_)
  ·rw [if_pos h8] at hM
   refine spQA (And.intro ha1 (And.intro he2 (And.intro ha4 h8))) ?_
   have nh8 := nzQ h8
   have hM0 := hM; clear hM; obtain ⟨f9, d9, hf9, hd9, hM⟩ := iter_opn hM0; clear hM0
   refine ct_loop (fun n S => ∃ p : Int × List (List Int), S = (⟨[(0, .sl none 2 true (l.map e_api_Denom)), (1, .sl none 1 false (have_.map (V.int .i64))), (2, .int .i64 amount), (7, .own 0), (8, .int .i64 p4.1), (9, .own 2), (10, .int .i64 p7.1), (11, .int .i64 p.1)], [(0, .own 23 1 false none (p4.2.map eN23)), (2, .own 23 1 false none (p.2.map eN23))], 3⟩ : St) ∧ (((0 ≤ p.1) ∧ (p.1 ≤ gt have_ p4.1 + 1)) ∧ (RW l.length amount p.2)) ∧ (gt have_ p4.1 + 1 - p.1).toNat < n ∧ iter n f9 d9 p = r) ((gt have_ p4.1 + 1 - 0).toNat + 1) _ (by simp only [go_sem, rowV_eq, rowV_eq0, List.length_replicate, rep_len, Int.toNat_natCast, ↓reduceIte, Nat.reduceEqDiff, Nat.reduceAdd, Int.reduceAdd, Nat.reduceMul, Nat.reduceLeDiff, Nat.reduceLT, Int.reduceLE, Int.reduceLT, Int.reduceNeg, Int.reduceToNat, List.isEmpty_nil, map_st, mtL_repE, mtL_repM, subF, subH, mtO, mtB, mt, mtL, mtL_self, mt_self, ltV, ltL, ltB, eq_self, or_true, true_or, or_self, and_self, rowV_ltE (f := eN23) (fun _ => by simp only [go_sem])]) (by simp only [go_sem, rowV_eq, rowV_eq0, List.length_replicate, rep_len, Int.toNat_natCast, ↓reduceIte, Nat.reduceEqDiff, Nat.reduceAdd, Int.reduceAdd, Nat.reduceMul, Nat.reduceLeDiff, Nat.reduceLT, Int.reduceLE, Int.reduceLT, Int.reduceNeg, Int.reduceToNat, List.isEmpty_nil, map_st, mtL_repE, mtL_repM, subF, subH, mtO, mtB, mt, mtL, mtL_self, mt_self, ltV, ltL, ltB, eq_self, or_true, true_or, or_self, and_self, rowV_ltE (f := eN23) (fun _ => by simp only [go_sem])]) ⟨(0, p7.2), rfl, ⟨⟨by (first | exact omQ | (clear hM; first | (have hv := hpl p4.1 (by omega) (by omega); have hm := hpm p4.1 (by omega) (by omega); exact omQ') | (have hr := hF4_0.1; exact omQ') | (have hr := hF11_0.1; exact omQ') | (have hv := hpl p4.1 (by omega) (by omega); have hm := hpm p4.1 (by omega) (by omega); have hr := hF4_0.1; exact omQ') | (have hv := hpl p4.1 (by omega) (by omega); have hm := hpm p4.1 (by omega) (by omega); have hq := hF4_0.2 (p7.1 - 0 * (gt l p4.1).Value) (by omega) (by omega); have he := ne_emp (l := gt p4.2 (p7.1 - 0 * (gt l p4.1).Value)) (by assumption); simp only [List.nil_append, List.length_append, List.length_nil, st_len] at *; exact omQ'))), by (first | exact omQ | (clear hM; first | (have hv := hpl p4.1 (by omega) (by omega); have hm := hpm p4.1 (by omega) (by omega); exact omQ') | (have hr := hF4_0.1; exact omQ') | (have hr := hF11_0.1; exact omQ') | (have hv := hpl p4.1 (by omega) (by omega); have hm := hpm p4.1 (by omega) (by omega); have hr := hF4_0.1; exact omQ') | (have hv := hpl p4.1 (by omega) (by omega); have hm := hpm p4.1 (by omega) (by omega); have hq := hF4_0.2 (p7.1 - 0 * (gt l p4.1).Value) (by omega) (by omega); have he := ne_emp (l := gt p4.2 (p7.1 - 0 * (gt l p4.1).Value)) (by assumption); simp only [List.nil_append, List.length_append, List.length_nil, st_len] at *; exact omQ')))⟩, by (clear hM; exact hF8_0)⟩, (Nat.lt_succ_self _), hM⟩ ?_
   clear hM
   rintro n9 S ⟨p9, rfl, ⟨hfa9, hF11_0⟩, hm9, hM⟩
   have hM0 := hM; clear hM; obtain ⟨ag9, hag9, hM⟩ := iter_step hM0 (by omega) hf9; clear hM0
   replace hfa9 := nzQ hfa9
   replace hm9 := nzQ hm9
   refine spQA (And.intro ha1 (And.intro he2 ha4)) ?_
   refine bindC_intro (by (first | exact omQ | (clear hM; first | (have hv := hpl p4.1 (by omega) (by omega); have hm := hpm p4.1 (by omega) (by omega); exact omQ') | (have hr := hF4_0.1; exact omQ') | (have hr := hF11_0.1; exact omQ') | (have hv := hpl p4.1 (by omega) (by omega); have hm := hpm p4.1 (by omega) (by omega); have hr := hF4_0.1; exact omQ') | (have hv := hpl p4.1 (by omega) (by omega); have hm := hpm p4.1 (by omega) (by omega); have hq := hF4_0.2 (p7.1 - p9.1 * (gt l p4.1).Value) (by omega) (by omega); have he := ne_emp (l := gt p4.2 (p7.1 - p9.1 * (gt l p4.1).Value)) (by assumption); simp only [List.nil_append, List.length_append, List.length_nil, st_len] at *; exact omQ')))) ?_
   have he10 := fun d => elt_mp (l := have_) (f := (V.int .i64)) (i := p4.1) (by (first | exact omQ | (clear hM; first | (have hv := hpl p4.1 (by omega) (by omega); have hm := hpm p4.1 (by omega) (by omega); exact omQ') | (have hr := hF4_0.1; exact omQ') | (have hr := hF11_0.1; exact omQ') | (have hv := hpl p4.1 (by omega) (by omega); have hm := hpm p4.1 (by omega) (by omega); have hr := hF4_0.1; exact omQ') | (have hv := hpl p4.1 (by omega) (by omega); have hm := hpm p4.1 (by omega) (by omega); have hq := hF4_0.2 (p7.1 - p9.1 * (gt l p4.1).Value) (by omega) (by omega); have he := ne_emp (l := gt p4.2 (p7.1 - p9.1 * (gt l p4.1).Value)) (by assumption); simp only [List.nil_append, List.length_append, List.length_nil, st_len] at *; exact omQ')))) d
   refine spQA (And.intro ha1 (And.intro he2 (And.intro ha4 he10))) ?_
   refine guardC_t (fun h11 => ?_) (fun h11 => ?_)
   ·rw [if_pos h11] at hM
    refine spQA (And.intro ha1 (And.intro he2 (And.intro ha4 (And.intro he10 h11)))) ?_
    have nh11 := nzQ h11
    refine bindC_intro (by (first | exact omQ | (clear hM; first | (have hv := hpl p4.1 (by omega) (by omega); have hm := hpm p4.1 (by omega) (by omega); exact omQ') | (have hr := hF4_0.1; exact omQ') | (have hr := hF11_0.1; exact omQ') | (have hv := hpl p4.1 (by omega) (by omega); have hm := hpm p4.1 (by omega) (by omega); have hr := hF4_0.1; exact omQ') | (have hv := hpl p4.1 (by omega) (by omega); have hm := hpm p4.1 (by omega) (by omega); have hq := hF4_0.2 (p7.1 - p9.1 * (gt l p4.1).Value) (by omega) (by omega); have he := ne_emp (l := gt p4.2 (p7.1 - p9.1 * (gt l p4.1).Value)) (by assumption); simp only [List.nil_append, List.length_append, List.length_nil, st_len] at *; exact omQ')))) ?_
    have he12 := fun d => elt_mp (l := l) (f := e_api_Denom) (i := p4.1) (by (first | exact omQ | (clear hM; first | (have hv := hpl p4.1 (by omega) (by omega); have hm := hpm p4.1 (by omega) (by omega); exact omQ') | (have hr := hF4_0.1; exact omQ') | (have hr := hF11_0.1; exact omQ') | (have hv := hpl p4.1 (by omega) (by omega); have hm := hpm p4.1 (by omega) (by omega); have hr := hF4_0.1; exact omQ') | (have hv := hpl p4.1 (by omega) (by omega); have hm := hpm p4.1 (by omega) (by omega); have hq := hF4_0.2 (p7.1 - p9.1 * (gt l p4.1).Value) (by omega) (by omega); have he := ne_emp (l := gt p4.2 (p7.1 - p9.1 * (gt l p4.1).Value)) (by assumption); simp only [List.nil_append, List.length_append, List.length_nil, st_len] at *; exact omQ')))) d
    refine spQA (And.intro ha1 (And.intro he2 (And.intro ha4 (And.intro he10 he12)))) ?_
    obtain ⟨ha13, hbha13⟩ := mul_pos_ok (a := p9.1) (b := (gt l p4.1).Value) 1001 1099511627776 1100611139403776 (by (first | exact omQ | (clear hM; first | (have hv := hpl p4.1 (by omega) (by omega); have hm := hpm p4.1 (by omega) (by omega); exact omQ') | (have hr := hF4_0.1; exact omQ') | (have hr := hF11_0.1; exact omQ') | (have hv := hpl p4.1 (by omega) (by omega); have hm := hpm p4.1 (by omega) (by omega); have hr := hF4_0.1; exact omQ') | (have hv := hpl p4.1 (by omega) (by omega); have hm := hpm p4.1 (by omega) (by omega); have hq := hF4_0.2 (p7.1 - p9.1 * (gt l p4.1).Value) (by omega) (by omega); have he := ne_emp (l := gt p4.2 (p7.1 - p9.1 * (gt l p4.1).Value)) (by assumption); simp only [List.nil_append, List.length_append, List.length_nil, st_len] at *; exact omQ')))) (by (first | exact omQ | (clear hM; first | (have hv := hpl p4.1 (by omega) (by omega); have hm := hpm p4.1 (by omega) (by omega); exact omQ') | (have hr := hF4_0.1; exact omQ') | (have hr := hF11_0.1; exact omQ') | (have hv := hpl p4.1 (by omega) (by omega); have hm := hpm p4.1 (by omega) (by omega); have hr := hF4_0.1; exact omQ') | (have hv := hpl p4.1 (by omega) (by omega); have hm := hpm p4.1 (by omega) (by omega); have hq := hF4_0.2 (p7.1 - p9.1 * (gt l p4.1).Value) (by omega) (by omega); have he := ne_emp (l := gt p4.2 (p7.1 - p9.1 * (gt l p4.1).Value)) (by assumption); simp only [List.nil_append, List.length_append, List.length_nil, st_len] at *; exact omQ')))) (by (first | exact omQ | (clear hM; first | (have hv := hpl p4.1 (by omega) (by omega); have hm := hpm p4.1 (by omega) (by omega); exact omQ') | (have hr := hF4_0.1; exact omQ') | (have hr := hF11_0.1; exact omQ') | (have hv := hpl p4.1 (by omega) (by omega); have hm := hpm p4.1 (by omega) (by omega); have hr := hF4_0.1; exact omQ') | (have hv := hpl p4.1 (by omega) (by omega); have hm := hpm p4.1 (by omega) (by omega); have hq := hF4_0.2 (p7.1 - p9.1 * (gt l p4.1).Value) (by omega) (by omega); have he := ne_emp (l := gt p4.2 (p7.1 - p9.1 * (gt l p4.1).Value)) (by assumption); simp only [List.nil_append, List.length_append, List.length_nil, st_len] at *; exact omQ')))) (by (first | exact omQ | (clear hM; first | (have hv := hpl p4.1 (by omega) (by omega); have hm := hpm p4.1 (by omega) (by omega); exact omQ') | (have hr := hF4_0.1; exact omQ') | (have hr := hF11_0.1; exact omQ') | (have hv := hpl p4.1 (by omega) (by omega); have hm := hpm p4.1 (by omega) (by omega); have hr := hF4_0.1; exact omQ') | (have hv := hpl p4.1 (by omega) (by omega); have hm := hpm p4.1 (by omega) (by omega); have hq := hF4_0.2 (p7.1 - p9.1 * (gt l p4.1).Value) (by omega) (by omega); have he := ne_emp (l := gt p4.2 (p7.1 - p9.1 * (gt l p4.1).Value)) (by assumption); simp only [List.nil_append, List.length_append, List.length_nil, st_len] at *; exact omQ')))) (by decide) (by decide)
    try simp only [ha13]
    refine condC_intro (fun h14 => ?_) (fun h14 => ?_)
    ·rw [if_pos h14] at hM
     refine spQA (And.intro ha1 (And.intro he2 (And.intro ha4 (And.intro he10 (And.intro he12 (And.intro ha13 h14)))))) ?_
     have nh14 := nzQ h14
     refine bindC_intro (by (first | exact omQ | (clear hM; first | (have hv := hpl p4.1 (by omega) (by omega); have hm := hpm p4.1 (by omega) (by omega); exact omQ') | (have hr := hF4_0.1; exact omQ') | (have hr := hF11_0.1; exact omQ') | (have hv := hpl p4.1 (by omega) (by omega); have hm := hpm p4.1 (by omega) (by omega); have hr := hF4_0.1; exact omQ') | (have hv := hpl p4.1 (by omega) (by omega); have hm := hpm p4.1 (by omega) (by omega); have hq := hF4_0.2 (p7.1 - p9.1 * (gt l p4.1).Value) (by omega) (by omega); have he := ne_emp (l := gt p4.2 (p7.1 - p9.1 * (gt l p4.1).Value)) (by assumption); simp only [List.nil_append, List.length_append, List.length_nil, st_len] at *; exact omQ')))) ?_
     refine spQA (And.intro ha1 (And.intro he2 (And.intro ha4 (And.intro he10 (And.intro he12 ha13))))) ?_
     have ha16 : subI .i64 p7.1 (p9.1 * (gt l p4.1).Value) = (p7.1 - (p9.1 * (gt l p4.1).Value)) := sub_ok (by (first | exact omQ | (clear hM; first | (have hv := hpl p4.1 (by omega) (by omega); have hm := hpm p4.1 (by omega) (by omega); exact omQ') | (have hr := hF4_0.1; exact omQ') | (have hr := hF11_0.1; exact omQ') | (have hv := hpl p4.1 (by omega) (by omega); have hm := hpm p4.1 (by omega) (by omega); have hr := hF4_0.1; exact omQ') | (have hv := hpl p4.1 (by omega) (by omega); have hm := hpm p4.1 (by omega) (by omega); have hq := hF4_0.2 (p7.1 - p9.1 * (gt l p4.1).Value) (by omega) (by omega); have he := ne_emp (l := gt p4.2 (p7.1 - p9.1 * (gt l p4.1).Value)) (by assumption); simp only [List.nil_append, List.length_append, List.length_nil, st_len] at *; exact omQ')))) (by (first | exact omQ | (clear hM; first | (have hv := hpl p4.1 (by omega) (by omega); have hm := hpm p4.1 (by omega) (by omega); exact omQ') | (have hr := hF4_0.1; exact omQ') | (have hr := hF11_0.1; exact omQ') | (have hv := hpl p4.1 (by omega) (by omega); have hm := hpm p4.1 (by omega) (by omega); have hr := hF4_0.1; exact omQ') | (have hv := hpl p4.1 (by omega) (by omega); have hm := hpm p4.1 (by omega) (by omega); have hq := hF4_0.2 (p7.1 - p9.1 * (gt l p4.1).Value) (by omega) (by omega); have he := ne_emp (l := gt p4.2 (p7.1 - p9.1 * (gt l p4.1).Value)) (by assumption); simp only [List.nil_append, List.length_append, List.length_nil, st_len] at *; exact omQ'))))
     try simp only [ha16]
     refine bindC_intro (by (first | exact omQ | (clear hM; first | (have hv := hpl p4.1 (by omega) (by omega); have hm := hpm p4.1 (by omega) (by omega); exact omQ') | (have hr := hF4_0.1; exact omQ') | (have hr := hF11_0.1; exact omQ') | (have hv := hpl p4.1 (by omega) (by omega); have hm := hpm p4.1 (by omega) (by omega); have hr := hF4_0.1; exact omQ') | (have hv := hpl p4.1 (by omega) (by omega); have hm := hpm p4.1 (by omega) (by omega); have hq := hF4_0.2 (p7.1 - p9.1 * (gt l p4.1).Value) (by omega) (by omega); have he := ne_emp (l := gt p4.2 (p7.1 - p9.1 * (gt l p4.1).Value)) (by assumption); simp only [List.nil_append, List.length_append, List.length_nil, st_len] at *; exact omQ')))) ?_
     have he17 := fun d => elt_mp (l := p4.2) (f := eN23) (i := (p7.1 - (p9.1 * (gt l p4.1).Value))) (by (first | exact omQ | (clear hM; first | (have hv := hpl p4.1 (by omega) (by omega); have hm := hpm p4.1 (by omega) (by omega); exact omQ') | (have hr := hF4_0.1; exact omQ') | (have hr := hF11_0.1; exact omQ') | (have hv := hpl p4.1 (by omega) (by omega); have hm := hpm p4.1 (by omega) (by omega); have hr := hF4_0.1; exact omQ') | (have hv := hpl p4.1 (by omega) (by omega); have hm := hpm p4.1 (by omega) (by omega); have hq := hF4_0.2 (p7.1 - p9.1 * (gt l p4.1).Value) (by omega) (by omega); have he := ne_emp (l := gt p4.2 (p7.1 - p9.1 * (gt l p4.1).Value)) (by assumption); simp only [List.nil_append, List.length_append, List.length_nil, st_len] at *; exact omQ')))) d
     refine spQA (And.intro ha1 (And.intro he2 (And.intro ha4 (And.intro he10 (And.intro he12 (And.intro ha13 (And.intro ha16 he17))))))) ?_
     refine bindC_intro (by (first | exact omQ | (clear hM; first | (have hv := hpl p4.1 (by omega) (by omega); have hm := hpm p4.1 (by omega) (by omega); exact omQ') | (have hr := hF4_0.1; exact omQ') | (have hr := hF11_0.1; exact omQ') | (have hv := hpl p4.1 (by omega) (by omega); have hm := hpm p4.1 (by omega) (by omega); have hr := hF4_0.1; exact omQ') | (have hv := hpl p4.1 (by omega) (by omega); have hm := hpm p4.1 (by omega) (by omega); have hq := hF4_0.2 (p7.1 - p9.1 * (gt l p4.1).Value) (by omega) (by omega); have he := ne_emp (l := gt p4.2 (p7.1 - p9.1 * (gt l p4.1).Value)) (by assumption); simp only [List.nil_append, List.length_append, List.length_nil, st_len] at *; exact omQ')))) ?_
     refine spQA (And.intro ha1 (And.intro he2 (And.intro ha4 (And.intro he10 (And.intro he12 (And.intro ha13 (And.intro ha16 he17))))))) ?_
     refine condC_intro (fun h18 => ?_) (fun h18 => ?_)
     ·rw [if_pos h18] at hM
      refine spQA (And.intro ha1 (And.intro he2 (And.intro ha4 (And.intro he10 (And.intro he12 (And.intro ha13 (And.intro ha16 (And.intro he17 h18)))))))) ?_
      have nh18 := nzQ h18
      have ha19 : addI .i64 p9.1 1 = (p9.1 + 1) := add_ok (by (first | exact omQ | (clear hM; first | (have hv := hpl p4.1 (by omega) (by omega); have hm := hpm p4.1 (by omega) (by omega); exact omQ') | (have hr := hF4_0.1; exact omQ') | (have hr := hF11_0.1; exact omQ') | (have hv := hpl p4.1 (by omega) (by omega); have hm := hpm p4.1 (by omega) (by omega); have hr := hF4_0.1; exact omQ') | (have hv := hpl p4.1 (by omega) (by omega); have hm := hpm p4.1 (by omega) (by omega); have hq := hF4_0.2 (p7.1 - p9.1 * (gt l p4.1).Value) (by omega) (by omega); have he := ne_emp (l := gt p4.2 (p7.1 - p9.1 * (gt l p4.1).Value)) (by assumption); simp only [List.nil_append, List.length_append, List.length_nil, st_len] at *; exact omQ')))) (by (first | exact omQ | (clear hM; first | (have hv := hpl p4.1 (by omega) (by omega); have hm := hpm p4.1 (by omega) (by omega); exact omQ') | (have hr := hF4_0.1; exact omQ') | (have hr := hF11_0.1; exact omQ') | (have hv := hpl p4.1 (by omega) (by omega); have hm := hpm p4.1 (by omega) (by omega); have hr := hF4_0.1; exact omQ') | (have hv := hpl p4.1 (by omega) (by omega); have hm := hpm p4.1 (by omega) (by omega); have hq := hF4_0.2 (p7.1 - p9.1 * (gt l p4.1).Value) (by omega) (by omega); have he := ne_emp (l := gt p4.2 (p7.1 - p9.1 * (gt l p4.1).Value)) (by assumption); simp only [List.nil_append, List.length_append, List.length_nil, st_len] at *; exact omQ'))))
      try simp only [ha19]
      refine lp_intro (n9 - 1) _ (by omega) (by simp only [go_sem, rowV_eq, rowV_eq0, List.length_replicate, rep_len, Int.toNat_natCast, ↓reduceIte, Nat.reduceEqDiff, Nat.reduceAdd, Int.reduceAdd, Nat.reduceMul, Nat.reduceLeDiff, Nat.reduceLT, Int.reduceLE, Int.reduceLT, Int.reduceNeg, Int.reduceToNat, List.isEmpty_nil, map_st, mtL_repE, mtL_repM, subF, subH, mtO, mtB, mt, mtL, mtL_self, mt_self, ltV, ltL, ltB, eq_self, or_true, true_or, or_self, and_self, rowV_ltE (f := eN23) (fun _ => by simp only [go_sem])]) (by simp only [go_sem, rowV_eq, rowV_eq0, List.length_replicate, rep_len, Int.toNat_natCast, ↓reduceIte, Nat.reduceEqDiff, Nat.reduceAdd, Int.reduceAdd, Nat.reduceMul, Nat.reduceLeDiff, Nat.reduceLT, Int.reduceLE, Int.reduceLT, Int.reduceNeg, Int.reduceToNat, List.isEmpty_nil, map_st, mtL_repE, mtL_repM, subF, subH, mtO, mtB, mt, mtL, mtL_self, mt_self, ltV, ltL, ltB, eq_self, or_true, true_or, or_self, and_self, rowV_ltE (f := eN23) (fun _ => by simp only [go_sem])]) ⟨((p9.1 + 1), p9.2), rfl, ⟨⟨by (first | exact omQ | (clear hM; first | (have hv := hpl p4.1 (by omega) (by omega); have hm := hpm p4.1 (by omega) (by omega); exact omQ') | (have hr := hF4_0.1; exact omQ') | (have hr := hF11_0.1; exact omQ') | (have hv := hpl p4.1 (by omega) (by omega); have hm := hpm p4.1 (by omega) (by omega); have hr := hF4_0.1; exact omQ') | (have hv := hpl p4.1 (by omega) (by omega); have hm := hpm p4.1 (by omega) (by omega); have hq := hF4_0.2 (p7.1 - (p9.1 + 1) * (gt l p4.1).Value) (by omega) (by omega); have he := ne_emp (l := gt p4.2 (p7.1 - (p9.1 + 1) * (gt l p4.1).Value)) (by assumption); simp only [List.nil_append, List.length_append, List.length_nil, st_len] at *; exact omQ'))), by (first | exact omQ | (clear hM; first | (have hv := hpl p4.1 (by omega) (by omega); have hm := hpm p4.1 (by omega) (by omega); exact omQ') | (have hr := hF4_0.1; exact omQ') | (have hr := hF11_0.1; exact omQ') | (have hv := hpl p4.1 (by omega) (by omega); have hm := hpm p4.1 (by omega) (by omega); have hr := hF4_0.1; exact omQ') | (have hv := hpl p4.1 (by omega) (by omega); have hm := hpm p4.1 (by omega) (by omega); have hq := hF4_0.2 (p7.1 - (p9.1 + 1) * (gt l p4.1).Value) (by omega) (by omega); have he := ne_emp (l := gt p4.2 (p7.1 - (p9.1 + 1) * (gt l p4.1).Value)) (by assumption); simp only [List.nil_append, List.length_append, List.length_nil, st_len] at *; exact omQ')))⟩, by (clear hM; first | exact hF11_0 | (have hv := hpl p4.1 (by omega) (by omega); have hm := hpm p4.1 (by omega) (by omega); have hq := hF4_0.2 (p7.1 - p9.1 * (gt l p4.1).Value) (by omega) (by omega); have he := ne_emp (l := gt p4.2 (p7.1 - p9.1 * (gt l p4.1).Value)) (by assumption); exact hF11_0.set (by rw [st_len]; simp only [List.nil_append]; omega)))⟩, by (first | exact omQ | (clear hM; first | (have hv := hpl p4.1 (by omega) (by omega); have hm := hpm p4.1 (by omega) (by omega); exact omQ') | (have hr := hF4_0.1; exact omQ') | (have hr := hF11_0.1; exact omQ') | (have hv := hpl p4.1 (by omega) (by omega); have hm := hpm p4.1 (by omega) (by omega); have hr := hF4_0.1; exact omQ') | (have hv := hpl p4.1 (by omega) (by omega); have hm := hpm p4.1 (by omega) (by omega); have hq := hF4_0.2 (p7.1 - (p9.1 + 1) * (gt l p4.1).Value) (by omega) (by omega); have he := ne_emp (l := gt p4.2 (p7.1 - (p9.1 + 1) * (gt l p4.1).Value)) (by assumption); simp only [List.nil_append, List.length_append, List.length_nil, st_len] at *; exact omQ'))), iter_again hM hag9⟩
     ·rw [if_neg (ne_true h18)] at hM
      refine spQA (And.intro ha1 (And.intro he2 (And.intro ha4 (And.intro he10 (And.intro he12 (And.intro ha13 (And.intro ha16 (And.intro he17 h18)))))))) ?_
      have nh18 := nzQ h18
      refine bindC_intro (by (first | exact omQ | (clear hM; first | (have hv := hpl p4.1 (by omega) (by omega); have hm := hpm p4.1 (by omega) (by omega); exact omQ') | (have hr := hF4_0.1; exact omQ') | (have hr := hF11_0.1; exact omQ') | (have hv := hpl p4.1 (by omega) (by omega); have hm := hpm p4.1 (by omega) (by omega); have hr := hF4_0.1; exact omQ') | (have hv := hpl p4.1 (by omega) (by omega); have hm := hpm p4.1 (by omega) (by omega); have hq := hF4_0.2 (p7.1 - p9.1 * (gt l p4.1).Value) (by omega) (by omega); have he := ne_emp (l := gt p4.2 (p7.1 - p9.1 * (gt l p4.1).Value)) (by assumption); simp only [List.nil_append, List.length_append, List.length_nil, st_len] at *; exact omQ')))) ?_
      refine spQA (And.intro ha1 (And.intro he2 (And.intro ha4 (And.intro he10 (And.intro he12 (And.intro ha13 (And.intro ha16 he17))))))) ?_
      refine seqC_pass ?_
      try refine spQA (And.intro ha1 (And.intro he2 (And.intro ha4 (And.intro he10 (And.intro he12 (And.intro ha13 (And.intro ha16 he17))))))) ?_
      refine bindC_intro (by (first | exact omQ | (clear hM; first | (have hv := hpl p4.1 (by omega) (by omega); have hm := hpm p4.1 (by omega) (by omega); exact omQ') | (have hr := hF4_0.1; exact omQ') | (have hr := hF11_0.1; exact omQ') | (have hv := hpl p4.1 (by omega) (by omega); have hm := hpm p4.1 (by omega) (by omega); have hr := hF4_0.1; exact omQ') | (have hv := hpl p4.1 (by omega) (by omega); have hm := hpm p4.1 (by omega) (by omega); have hq := hF4_0.2 (p7.1 - p9.1 * (gt l p4.1).Value) (by omega) (by omega); have he := ne_emp (l := gt p4.2 (p7.1 - p9.1 * (gt l p4.1).Value)) (by assumption); simp only [List.nil_append, List.length_append, List.length_nil, st_len] at *; exact omQ')))) ?_
      have he20 := fun d => elt_mp (l := (([] : List Int) ++ (gt p4.2 (p7.1 - (p9.1 * (gt l p4.1).Value))))) (f := (V.int .i64)) (i := p4.1) (by (first | exact omQ | (clear hM; first | (have hv := hpl p4.1 (by omega) (by omega); have hm := hpm p4.1 (by omega) (by omega); exact omQ') | (have hr := hF4_0.1; exact omQ') | (have hr := hF11_0.1; exact omQ') | (have hv := hpl p4.1 (by omega) (by omega); have hm := hpm p4.1 (by omega) (by omega); have hr := hF4_0.1; exact omQ') | (have hv := hpl p4.1 (by omega) (by omega); have hm := hpm p4.1 (by omega) (by omega); have hq := hF4_0.2 (p7.1 - p9.1 * (gt l p4.1).Value) (by omega) (by omega); have he := ne_emp (l := gt p4.2 (p7.1 - p9.1 * (gt l p4.1).Value)) (by assumption); simp only [List.nil_append, List.length_append, List.length_nil, st_len] at *; exact omQ')))) d
      refine spQA (And.intro ha1 (And.intro he2 (And.intro ha4 (And.intro he10 (And.intro he12 (And.intro ha13 (And.intro ha16 (And.intro he17 he20)))))))) ?_
      refine bindC_intro (by (first | exact omQ | (clear hM; first | (have hv := hpl p4.1 (by omega) (by omega); have hm := hpm p4.1 (by omega) (by omega); exact omQ') | (have hr := hF4_0.1; exact omQ') | (have hr := hF11_0.1; exact omQ') | (have hv := hpl p4.1 (by omega) (by omega); have hm := hpm p4.1 (by omega) (by omega); have hr := hF4_0.1; exact omQ') | (have hv := hpl p4.1 (by omega) (by omega); have hm := hpm p4.1 (by omega) (by omega); have hq := hF4_0.2 (p7.1 - p9.1 * (gt l p4.1).Value) (by omega) (by omega); have he := ne_emp (l := gt p4.2 (p7.1 - p9.1 * (gt l p4.1).Value)) (by assumption); simp only [List.nil_append, List.length_append, List.length_nil, st_len] at *; exact omQ')))) ?_
      refine spQA (And.intro ha1 (And.intro he2 (And.intro ha4 (And.intro he10 (And.intro he12 (And.intro ha13 (And.intro ha16 (And.intro he17 he20)))))))) ?_
      refine cut_weakW _ (⟨[(0, .sl none 2 true (l.map e_api_Denom)), (1, .sl none 1 false (have_.map (V.int .i64))), (2, .int .i64 amount), (7, .own 0), (8, .int .i64 p4.1), (9, .own 2), (10, .int .i64 p7.1), (11, .int .i64 p9.1), (13, .sl (some (st (([] : List Int) ++ (gt p4.2 (p7.1 - (p9.1 * (gt l p4.1).Value)))) p4.1 p9.1).isEmpty) 1 false ((st (([] : List Int) ++ (gt p4.2 (p7.1 - (p9.1 * (gt l p4.1).Value)))) p4.1 p9.1).map (V.int .i64)))], [(0, .own 23 1 false none (p4.2.map eN23)), (2, .own 23 1 false none (p9.2.map eN23)), (3, .pown 1 false (some (st (([] : List Int) ++ (gt p4.2 (p7.1 - (p9.1 * (gt l p4.1).Value)))) p4.1 p9.1).isEmpty) ((st (([] : List Int) ++ (gt p4.2 (p7.1 - (p9.1 * (gt l p4.1).Value)))) p4.1 p9.1).map (V.int .i64)))], 4⟩ : St) (((weak_list (S := ⟨_, _, _⟩) 3 (z' := (some (st (([] : List Int) ++ (gt p4.2 (p7.1 - (p9.1 * (gt l p4.1).Value)))) p4.1 p9.1).isEmpty)) (m := (st (([] : List Int) ++ (gt p4.2 (p7.1 - (p9.1 * (gt l p4.1).Value)))) p4.1 p9.1).map (V.int .i64)) rfl (mtZ_eq (by (clear hM; have he := ne_emp (l := gt p4.2 (p7.1 - p9.1 * (gt l p4.1).Value)) (by assumption); exact z_app he (by rw [st_len]; simp only [List.nil_append]; exact he)))) (by simp only [go_sem, rowV_eq, rowV_eq0, List.length_replicate, rep_len, Int.toNat_natCast, ↓reduceIte, Nat.reduceEqDiff, Nat.reduceAdd, Int.reduceAdd, Nat.reduceMul, Nat.reduceLeDiff, Nat.reduceLT, Int.reduceLE, Int.reduceLT, Int.reduceNeg, Int.reduceToNat, List.isEmpty_nil, map_st, mtL_repE, mtL_repM, subF, subH, mtO, mtB, mt, mtL, mtL_self, mt_self, ltV, ltL, ltB, eq_self, or_true, true_or, or_self, and_self, rowV_ltE (f := eN23) (fun _ => by simp only [go_sem])])).trans (weak_pub (S := ⟨_, _, _⟩) 3 (T := 3) (n := 1) (g := false) (z := (some (st (([] : List Int) ++ (gt p4.2 (p7.1 - (p9.1 * (gt l p4.1).Value)))) p4.1 p9.1).isEmpty)) (l := (st (([] : List Int) ++ (gt p4.2 (p7.1 - (p9.1 * (gt l p4.1).Value)))) p4.1 p9.1).map (V.int .i64)) (clQA (And.intro ha1 (And.intro he2 (And.intro ha4 (And.intro he10 (And.intro he12 (And.intro ha13 (And.intro ha16 (And.intro he17 he20))))))))))).trans (weak_slot (S := ⟨_, _, _⟩) 13 3 (n := 1) (g := false) (z := (some (st (([] : List Int) ++ (gt p4.2 (p7.1 - (p9.1 * (gt l p4.1).Value)))) p4.1 p9.1).isEmpty)) (l := (st (([] : List Int) ++ (gt p4.2 (p7.1 - (p9.1 * (gt l p4.1).Value)))) p4.1 p9.1).map (V.int .i64)) (clQA (And.intro ha1 (And.intro he2 (And.intro ha4 (And.intro he10 (And.intro he12 (And.intro ha13 (And.intro ha16 (And.intro he17 he20))))))))) (clQA (And.intro ha1 (And.intro he2 (And.intro ha4 (And.intro he10 (And.intro he12 (And.intro ha13 (And.intro ha16 (And.intro he17 he20))))))))))) (by simp only [go_sem, rowV_eq, rowV_eq0, List.length_replicate, rep_len, Int.toNat_natCast, ↓reduceIte, Nat.reduceEqDiff, Nat.reduceAdd, Int.reduceAdd, Nat.reduceMul, Nat.reduceLeDiff, Nat.reduceLT, Int.reduceLE, Int.reduceLT, Int.reduceNeg, Int.reduceToNat, List.isEmpty_nil, map_st, mtL_repE, mtL_repM, subF, subH, mtO, mtB, mt, mtL, mtL_self, mt_self, ltV, ltL, ltB, eq_self, or_true, true_or, or_self, and_self, rowV_ltE (f := eN23) (fun _ => by simp only [go_sem])]) (by simp only [go_sem, rowV_eq, rowV_eq0, List.length_replicate, rep_len, Int.toNat_natCast, ↓reduceIte, Nat.reduceEqDiff, Nat.reduceAdd, Int.reduceAdd, Nat.reduceMul, Nat.reduceLeDiff, Nat.reduceLT, Int.reduceLE, Int.reduceLT, Int.reduceNeg, Int.reduceToNat, List.isEmpty_nil, map_st, mtL_repE, mtL_repM, subF, subH, mtO, mtB, mt, mtL, mtL_self, mt_self, ltV, ltL, ltB, eq_self, or_true, true_or, or_self, and_self, rowV_ltE (f := eN23) (fun _ => by simp only [go_sem])]) ?_
      try refine spQA (And.intro ha1 (And.intro he2 (And.intro ha4 (And.intro he10 (And.intro he12 (And.intro ha13 (And.intro ha16 (And.intro he17 he20)))))))) ?_
      refine bindC_intro (by (first | exact omQ | (clear hM; first | (have hv := hpl p4.1 (by omega) (by omega); have hm := hpm p4.1 (by omega) (by omega); exact omQ') | (have hr := hF4_0.1; exact omQ') | (have hr := hF11_0.1; exact omQ') | (have hv := hpl p4.1 (by omega) (by omega); have hm := hpm p4.1 (by omega) (by omega); have hr := hF4_0.1; exact omQ') | (have hv := hpl p4.1 (by omega) (by omega); have hm := hpm p4.1 (by omega) (by omega); have hq := hF4_0.2 (p7.1 - p9.1 * (gt l p4.1).Value) (by omega) (by omega); have he := ne_emp (l := gt p4.2 (p7.1 - p9.1 * (gt l p4.1).Value)) (by assumption); simp only [List.nil_append, List.length_append, List.length_nil, st_len] at *; exact omQ')))) ?_
      have he21 := fun d => elt_mp (l := p9.2) (f := eN23) (i := p7.1) (by (first | exact omQ | (clear hM; first | (have hv := hpl p4.1 (by omega) (by omega); have hm := hpm p4.1 (by omega) (by omega); exact omQ') | (have hr := hF4_0.1; exact omQ') | (have hr := hF11_0.1; exact omQ') | (have hv := hpl p4.1 (by omega) (by omega); have hm := hpm p4.1 (by omega) (by omega); have hr := hF4_0.1; exact omQ') | (have hv := hpl p4.1 (by omega) (by omega); have hm := hpm p4.1 (by omega) (by omega); have hq := hF4_0.2 (p7.1 - p9.1 * (gt l p4.1).Value) (by omega) (by omega); have he := ne_emp (l := gt p4.2 (p7.1 - p9.1 * (gt l p4.1).Value)) (by assumption); simp only [List.nil_append, List.length_append, List.length_nil, st_len] at *; exact omQ')))) d
      refine spQA (And.intro ha1 (And.intro he2 (And.intro ha4 (And.intro he10 (And.intro he12 (And.intro ha13 (And.intro ha16 (And.intro he17 (And.intro he20 he21))))))))) ?_
      refine bindC_intro (by (first | exact omQ | (clear hM; first | (have hv := hpl p4.1 (by omega) (by omega); have hm := hpm p4.1 (by omega) (by omega); exact omQ') | (have hr := hF4_0.1; exact omQ') | (have hr := hF11_0.1; exact omQ') | (have hv := hpl p4.1 (by omega) (by omega); have hm := hpm p4.1 (by omega) (by omega); have hr := hF4_0.1; exact omQ') | (have hv := hpl p4.1 (by omega) (by omega); have hm := hpm p4.1 (by omega) (by omega); have hq := hF4_0.2 (p7.1 - p9.1 * (gt l p4.1).Value) (by omega) (by omega); have he := ne_emp (l := gt p4.2 (p7.1 - p9.1 * (gt l p4.1).Value)) (by assumption); simp only [List.nil_append, List.length_append, List.length_nil, st_len] at *; exact omQ')))) ?_
      refine spQA (And.intro ha1 (And.intro he2 (And.intro ha4 (And.intro he10 (And.intro he12 (And.intro ha13 (And.intro ha16 (And.intro he17 (And.intro he20 he21))))))))) ?_
      refine guardC_f (fun h22 => ?_) (fun h22 => ?_)
      ·rw [if_neg (ne_true h22)] at hM
       refine spQA (And.intro ha1 (And.intro he2 (And.intro ha4 (And.intro he10 (And.intro he12 (And.intro ha13 (And.intro ha16 (And.intro he17 (And.intro he20 (And.intro he21 h22)))))))))) ?_
       have nh22 := nzQ h22
       refine bindC_intro (by (first | exact omQ | (clear hM; first | (have hv := hpl p4.1 (by omega) (by omega); have hm := hpm p4.1 (by omega) (by omega); exact omQ') | (have hr := hF4_0.1; exact omQ') | (have hr := hF11_0.1; exact omQ') | (have hv := hpl p4.1 (by omega) (by omega); have hm := hpm p4.1 (by omega) (by omega); have hr := hF4_0.1; exact omQ') | (have hv := hpl p4.1 (by omega) (by omega); have hm := hpm p4.1 (by omega) (by omega); have hq := hF4_0.2 (p7.1 - p9.1 * (gt l p4.1).Value) (by omega) (by omega); have he := ne_emp (l := gt p4.2 (p7.1 - p9.1 * (gt l p4.1).Value)) (by assumption); simp only [List.nil_append, List.length_append, List.length_nil, st_len] at *; exact omQ')))) ?_
       refine spQA (And.intro ha1 (And.intro he2 (And.intro ha4 (And.intro he10 (And.intro he12 (And.intro ha13 (And.intro ha16 (And.intro he17 (And.intro he20 he21))))))))) ?_
       refine bindC_intro (by (first | exact omQ | (clear hM; first | (have hv := hpl p4.1 (by omega) (by omega); have hm := hpm p4.1 (by omega) (by omega); exact omQ') | (have hr := hF4_0.1; exact omQ') | (have hr := hF11_0.1; exact omQ') | (have hv := hpl p4.1 (by omega) (by omega); have hm := hpm p4.1 (by omega) (by omega); have hr := hF4_0.1; exact omQ') | (have hv := hpl p4.1 (by omega) (by omega); have hm := hpm p4.1 (by omega) (by omega); have hq := hF4_0.2 (p7.1 - p9.1 * (gt l p4.1).Value) (by omega) (by omega); have he := ne_emp (l := gt p4.2 (p7.1 - p9.1 * (gt l p4.1).Value)) (by assumption); simp only [List.nil_append, List.length_append, List.length_nil, st_len] at *; exact omQ')))) ?_
       refine spQA (And.intro ha1 (And.intro he2 (And.intro ha4 (And.intro he10 (And.intro he12 (And.intro ha13 (And.intro ha16 (And.intro he17 (And.intro he20 he21))))))))) ?_
       have hM0 := hM; clear hM; obtain ⟨x23, hx24, hM⟩ := letk_opn hM0; clear hM0
       have hcx23 := cmH hx24 (specieref28_Better_ok  (st (([] : List Int) ++ (gt p4.2 (p7.1 - (p9.1 * (gt l p4.1).Value)))) p4.1 p9.1) (gt p9.2 p7.1) (by (clear hM; have hv := hpl p4.1 (by omega) (by omega); have hm := hpm p4.1 (by omega) (by omega); have hq := hF4_0.2 (p7.1 - p9.1 * (gt l p4.1).Value) (by omega) (by omega); have he := ne_emp (l := gt p4.2 (p7.1 - p9.1 * (gt l p4.1).Value)) (by assumption); have hq2 := hF11_0.2 p7.1 (by omega) (by omega); have he2 := ne_emp (l := gt p9.2 p7.1) (by assumption); rw [st_len]; simp only [List.nil_append]; omega)))
       refine callC_give hcx23 (clQA (And.intro ha1 (And.intro he2 (And.intro ha4 (And.intro he10 (And.intro he12 (And.intro ha13 (And.intro ha16 (And.intro he17 (And.intro he20 he21)))))))))) (clQA (And.intro ha1 (And.intro he2 (And.intro ha4 (And.intro he10 (And.intro he12 (And.intro ha13 (And.intro ha16 (And.intro he17 (And.intro he20 he21)))))))))) (fun hw25 => ?_)
       replace hw25 := nzQ hw25
       refine spQA (And.intro ha1 (And.intro he2 (And.intro ha4 (And.intro he10 (And.intro he12 (And.intro ha13 (And.intro ha16 (And.intro he17 (And.intro he20 he21))))))))) ?_
       refine condC_intro (fun h26 => ?_) (fun h26 => ?_)
       ·subst h26
        rw [if_pos rfl] at hM
        refine spQA (And.intro ha1 (And.intro he2 (And.intro ha4 (And.intro he10 (And.intro he12 (And.intro ha13 (And.intro ha16 (And.intro he17 (And.intro he20 he21))))))))) ?_
        refine bindC_intro (by (first | exact omQ | (clear hM; first | (have hv := hpl p4.1 (by omega) (by omega); have hm := hpm p4.1 (by omega) (by omega); exact omQ') | (have hr := hF4_0.1; exact omQ') | (have hr := hF11_0.1; exact omQ') | (have hv := hpl p4.1 (by omega) (by omega); have hm := hpm p4.1 (by omega) (by omega); have hr := hF4_0.1; exact omQ') | (have hv := hpl p4.1 (by omega) (by omega); have hm := hpm p4.1 (by omega) (by omega); have hq := hF4_0.2 (p7.1 - p9.1 * (gt l p4.1).Value) (by omega) (by omega); have he := ne_emp (l := gt p4.2 (p7.1 - p9.1 * (gt l p4.1).Value)) (by assumption); simp only [List.nil_append, List.length_append, List.length_nil, st_len] at *; exact omQ')))) ?_
        refine spQA (And.intro ha1 (And.intro he2 (And.intro ha4 (And.intro he10 (And.intro he12 (And.intro ha13 (And.intro ha16 (And.intro he17 (And.intro he20 he21))))))))) ?_
        refine bindC_intro (by (first | exact omQ | (clear hM; first | (have hv := hpl p4.1 (by omega) (by omega); have hm := hpm p4.1 (by omega) (by omega); exact omQ') | (have hr := hF4_0.1; exact omQ') | (have hr := hF11_0.1; exact omQ') | (have hv := hpl p4.1 (by omega) (by omega); have hm := hpm p4.1 (by omega) (by omega); have hr := hF4_0.1; exact omQ') | (have hv := hpl p4.1 (by omega) (by omega); have hm := hpm p4.1 (by omega) (by omega); have hq := hF4_0.2 (p7.1 - p9.1 * (gt l p4.1).Value) (by omega) (by omega); have he := ne_emp (l := gt p4.2 (p7.1 - p9.1 * (gt l p4.1).Value)) (by assumption); simp only [List.nil_append, List.length_append, List.length_nil, st_len] at *; exact omQ')))) ?_
        refine spQA (And.intro ha1 (And.intro he2 (And.intro ha4 (And.intro he10 (And.intro he12 (And.intro ha13 (And.intro ha16 (And.intro he17 (And.intro he20 he21))))))))) ?_
        have ha27 : addI .i64 p9.1 1 = (p9.1 + 1) := add_ok (by (first | exact omQ | (clear hM; first | (have hv := hpl p4.1 (by omega) (by omega); have hm := hpm p4.1 (by omega) (by omega); exact omQ') | (have hr := hF4_0.1; exact omQ') | (have hr := hF11_0.1; exact omQ') | (have hv := hpl p4.1 (by omega) (by omega); have hm := hpm p4.1 (by omega) (by omega); have hr := hF4_0.1; exact omQ') | (have hv := hpl p4.1 (by omega) (by omega); have hm := hpm p4.1 (by omega) (by omega); have hq := hF4_0.2 (p7.1 - p9.1 * (gt l p4.1).Value) (by omega) (by omega); have he := ne_emp (l := gt p4.2 (p7.1 - p9.1 * (gt l p4.1).Value)) (by assumption); simp only [List.nil_append, List.length_append, List.length_nil, st_len] at *; exact omQ')))) (by (first | exact omQ | (clear hM; first | (have hv := hpl p4.1 (by omega) (by omega); have hm := hpm p4.1 (by omega) (by omega); exact omQ') | (have hr := hF4_0.1; exact omQ') | (have hr := hF11_0.1; exact omQ') | (have hv := hpl p4.1 (by omega) (by omega); have hm := hpm p4.1 (by omega) (by omega); have hr := hF4_0.1; exact omQ') | (have hv := hpl p4.1 (by omega) (by omega); have hm := hpm p4.1 (by omega) (by omega); have hq := hF4_0.2 (p7.1 - p9.1 * (gt l p4.1).Value) (by omega) (by omega); have he := ne_emp (l := gt p4.2 (p7.1 - p9.1 * (gt l p4.1).Value)) (by assumption); simp only [List.nil_append, List.length_append, List.length_nil, st_len] at *; exact omQ'))))
        try simp only [ha27]
        refine lp_intro (n9 - 1) _ (by omega) (by simp only [go_sem, rowV_eq, rowV_eq0, List.length_replicate, rep_len, Int.toNat_natCast, ↓reduceIte, Nat.reduceEqDiff, Nat.reduceAdd, Int.reduceAdd, Nat.reduceMul, Nat.reduceLeDiff, Nat.reduceLT, Int.reduceLE, Int.reduceLT, Int.reduceNeg, Int.reduceToNat, List.isEmpty_nil, map_st, mtL_repE, mtL_repM, subF, subH, mtO, mtB, mt, mtL, mtL_self, mt_self, ltV, ltL, ltB, eq_self, or_true, true_or, or_self, and_self, rowV_ltE (f := eN23) (fun _ => by simp only [go_sem])]) (by simp only [go_sem, rowV_eq, rowV_eq0, List.length_replicate, rep_len, Int.toNat_natCast, ↓reduceIte, Nat.reduceEqDiff, Nat.reduceAdd, Int.reduceAdd, Nat.reduceMul, Nat.reduceLeDiff, Nat.reduceLT, Int.reduceLE, Int.reduceLT, Int.reduceNeg, Int.reduceToNat, List.isEmpty_nil, map_st, mtL_repE, mtL_repM, subF, subH, mtO, mtB, mt, mtL, mtL_self, mt_self, ltV, ltL, ltB, eq_self, or_true, true_or, or_self, and_self, rowV_ltE (f := eN23) (fun _ => by simp only [go_sem])]) ⟨((p9.1 + 1), (st p9.2 p7.1 (st (([] : List Int) ++ (gt p4.2 (p7.1 - (p9.1 * (gt l p4.1).Value)))) p4.1 p9.1))), rfl, ⟨⟨by (first | exact omQ | (clear hM; first | (have hv := hpl p4.1 (by omega) (by omega); have hm := hpm p4.1 (by omega) (by omega); exact omQ') | (have hr := hF4_0.1; exact omQ') | (have hr := hF11_0.1; exact omQ') | (have hv := hpl p4.1 (by omega) (by omega); have hm := hpm p4.1 (by omega) (by omega); have hr := hF4_0.1; exact omQ') | (have hv := hpl p4.1 (by omega) (by omega); have hm := hpm p4.1 (by omega) (by omega); have hq := hF4_0.2 (p7.1 - (p9.1 + 1) * (gt l p4.1).Value) (by omega) (by omega); have he := ne_emp (l := gt p4.2 (p7.1 - (p9.1 + 1) * (gt l p4.1).Value)) (by assumption); simp only [List.nil_append, List.length_append, List.length_nil, st_len] at *; exact omQ'))), by (first | exact omQ | (clear hM; first | (have hv := hpl p4.1 (by omega) (by omega); have hm := hpm p4.1 (by omega) (by omega); exact omQ') | (have hr := hF4_0.1; exact omQ') | (have hr := hF11_0.1; exact omQ') | (have hv := hpl p4.1 (by omega) (by omega); have hm := hpm p4.1 (by omega) (by omega); have hr := hF4_0.1; exact omQ') | (have hv := hpl p4.1 (by omega) (by omega); have hm := hpm p4.1 (by omega) (by omega); have hq := hF4_0.2 (p7.1 - (p9.1 + 1) * (gt l p4.1).Value) (by omega) (by omega); have he := ne_emp (l := gt p4.2 (p7.1 - (p9.1 + 1) * (gt l p4.1).Value)) (by assumption); simp only [List.nil_append, List.length_append, List.length_nil, st_len] at *; exact omQ')))⟩, by (clear hM; first | exact hF11_0 | (have hv := hpl p4.1 (by omega) (by omega); have hm := hpm p4.1 (by omega) (by omega); have hq := hF4_0.2 (p7.1 - p9.1 * (gt l p4.1).Value) (by omega) (by omega); have he := ne_emp (l := gt p4.2 (p7.1 - p9.1 * (gt l p4.1).Value)) (by assumption); exact hF11_0.set (by rw [st_len]; simp only [List.nil_append]; omega)))⟩, by (first | exact omQ | (clear hM; first | (have hv := hpl p4.1 (by omega) (by omega); have hm := hpm p4.1 (by omega) (by omega); exact omQ') | (have hr := hF4_0.1; exact omQ') | (have hr := hF11_0.1; exact omQ') | (have hv := hpl p4.1 (by omega) (by omega); have hm := hpm p4.1 (by omega) (by omega); have hr := hF4_0.1; exact omQ') | (have hv := hpl p4.1 (by omega) (by omega); have hm := hpm p4.1 (by omega) (by omega); have hq := hF4_0.2 (p7.1 - (p9.1 + 1) * (gt l p4.1).Value) (by omega) (by omega); have he := ne_emp (l := gt p4.2 (p7.1 - (p9.1 + 1) * (gt l p4.1).Value)) (by assumption); simp only [List.nil_append, List.length_append, List.length_nil, st_len] at *; exact omQ'))), iter_again hM hag9⟩
       ·subst h26
        rw [if_neg (by decide)] at hM
        refine spQA (And.intro ha1 (And.intro he2 (And.intro ha4 (And.intro he10 (And.intro he12 (And.intro ha13 (And.intro ha16 (And.intro he17 (And.intro he20 he21))))))))) ?_
        have ha28 : addI .i64 p9.1 1 = (p9.1 + 1) := add_ok (by (first | exact omQ | (clear hM; first | (have hv := hpl p4.1 (by omega) (by omega); have hm := hpm p4.1 (by omega) (by omega); exact omQ') | (have hr := hF4_0.1; exact omQ') | (have hr := hF11_0.1; exact omQ') | (have hv := hpl p4.1 (by omega) (by omega); have hm := hpm p4.1 (by omega) (by omega); have hr := hF4_0.1; exact omQ') | (have hv := hpl p4.1 (by omega) (by omega); have hm := hpm p4.1 (by omega) (by omega); have hq := hF4_0.2 (p7.1 - p9.1 * (gt l p4.1).Value) (by omega) (by omega); have he := ne_emp (l := gt p4.2 (p7.1 - p9.1 * (gt l p4.1).Value)) (by assumption); simp only [List.nil_append, List.length_append, List.length_nil, st_len] at *; exact omQ')))) (by (first | exact omQ | (clear hM; first | (have hv := hpl p4.1 (by omega) (by omega); have hm := hpm p4.1 (by omega) (by omega); exact omQ') | (have hr := hF4_0.1; exact omQ') | (have hr := hF11_0.1; exact omQ') | (have hv := hpl p4.1 (by omega) (by omega); have hm := hpm p4.1 (by omega) (by omega); have hr := hF4_0.1; exact omQ') | (have hv := hpl p4.1 (by omega) (by omega); have hm := hpm p4.1 (by omega) (by omega); have hq := hF4_0.2 (p7.1 - p9.1 * (gt l p4.1).Value) (by omega) (by omega); have he := ne_emp (l := gt p4.2 (p7.1 - p9.1 * (gt l p4.1).Value)) (by assumption); simp only [List.nil_append, List.length_append, List.length_nil, st_len] at *; exact omQ'))))
        try simp only [ha28]
        refine lp_intro (n9 - 1) _ (by omega) (by simp only [go_sem, rowV_eq, rowV_eq0, List.length_replicate, rep_len, Int.toNat_natCast, ↓reduceIte, Nat.reduceEqDiff, Nat.reduceAdd, Int.reduceAdd, Nat.reduceMul, Nat.reduceLeDiff, Nat.reduceLT, Int.reduceLE, Int.reduceLT, Int.reduceNeg, Int.reduceToNat, List.isEmpty_nil, map_st, mtL_repE, mtL_repM, subF, subH, mtO, mtB, mt, mtL, mtL_self, mt_self, ltV, ltL, ltB, eq_self, or_true, true_or, or_self, and_self, rowV_ltE (f := eN23) (fun _ => by simp only [go_sem])]) (by simp only [go_sem, rowV_eq, rowV_eq0, List.length_replicate, rep_len, Int.toNat_natCast, ↓reduceIte, Nat.reduceEqDiff, Nat.reduceAdd, Int.reduceAdd, Nat.reduceMul, Nat.reduceLeDiff, Nat.reduceLT, Int.reduceLE, Int.reduceLT, Int.reduceNeg, Int.reduceToNat, List.isEmpty_nil, map_st, mtL_repE, mtL_repM, subF, subH, mtO, mtB, mt, mtL, mtL_self, mt_self, ltV, ltL, ltB, eq_self, or_true, true_or, or_self, and_self, rowV_ltE (f := eN23) (fun _ => by simp only [go_sem])]) ⟨((p9.1 + 1), p9.2), rfl, ⟨⟨by (first | exact omQ | (clear hM; first | (have hv := hpl p4.1 (by omega) (by omega); have hm := hpm p4.1 (by omega) (by omega); exact omQ') | (have hr := hF4_0.1; exact omQ') | (have hr := hF11_0.1; exact omQ') | (have hv := hpl p4.1 (by omega) (by omega); have hm := hpm p4.1 (by omega) (by omega); have hr := hF4_0.1; exact omQ') | (have hv := hpl p4.1 (by omega) (by omega); have hm := hpm p4.1 (by omega) (by omega); have hq := hF4_0.2 (p7.1 - (p9.1 + 1) * (gt l p4.1).Value) (by omega) (by omega); have he := ne_emp (l := gt p4.2 (p7.1 - (p9.1 + 1) * (gt l p4.1).Value)) (by assumption); simp only [List.nil_append, List.length_append, List.length_nil, st_len] at *; exact omQ'))), by (first | exact omQ | (clear hM; first | (have hv := hpl p4.1 (by omega) (by omega); have hm := hpm p4.1 (by omega) (by omega); exact omQ') | (have hr := hF4_0.1; exact omQ') | (have hr := hF11_0.1; exact omQ') | (have hv := hpl p4.1 (by omega) (by omega); have hm := hpm p4.1 (by omega) (by omega); have hr := hF4_0.1; exact omQ') | (have hv := hpl p4.1 (by omega) (by omega); have hm := hpm p4.1 (by omega) (by omega); have hq := hF4_0.2 (p7.1 - (p9.1 + 1) * (gt l p4.1).Value) (by omega) (by omega); have he := ne_emp (l := gt p4.2 (p7.1 - (p9.1 + 1) * (gt l p4.1).Value)) (by assumption); simp only [List.nil_append, List.length_append, List.length_nil, st_len] at *; exact omQ')))⟩, by (clear hM; first | exact hF11_0 | (have hv := hpl p4.1 (by omega) (by omega); have hm := hpm p4.1 (by omega) (by omega); have hq := hF4_0.2 (p7.1 - p9.1 * (gt l p4.1).Value) (by omega) (by omega); have he := ne_emp (l := gt p4.2 (p7.1 - p9.1 * (gt l p4.1).Value)) (by assumption); exact hF11_0.set (by rw [st_len]; simp only [List.nil_append]; omega)))⟩, by (first | exact omQ | (clear hM; first | (have hv := hpl p4.1 (by omega) (by omega); have hm := hpm p4.1 (by omega) (by omega); exact omQ') | (have hr := hF4_0.1; exact omQ') | (have hr := hF11_0.1; exact omQ') | (have hv := hpl p4.1 (by omega) (by omega); have hm := hpm p4.1 (by omega) (by omega); have hr := hF4_0.1; exact omQ') | (have hv := hpl p4.1 (by omega) (by omega); have hm := hpm p4.1 (by omega) (by omega); have hq := hF4_0.2 (p7.1 - (p9.1 + 1) * (gt l p4.1).Value) (by omega) (by omega); have he := ne_emp (l := gt p4.2 (p7.1 - (p9.1 + 1) * (gt l p4.1).Value)) (by assumption); simp only [List.nil_append, List.length_append, List.length_nil, st_len] at *; exact omQ'))), iter_again hM hag9⟩
      ·rw [if_pos h22] at hM
       refine spQA (And.intro ha1 (And.intro he2 (And.intro ha4 (And.intro he10 (And.intro he12 (And.intro ha13 (And.intro ha16 (And.intro he17 (And.intro he20 (And.intro he21 h22)))))))))) ?_
       have nh22 := nzQ h22
       refine bindC_intro (by (first | exact omQ | (clear hM; first | (have hv := hpl p4.1 (by omega) (by omega); have hm := hpm p4.1 (by omega) (by omega); exact omQ') | (have hr := hF4_0.1; exact omQ') | (have hr := hF11_0.1; exact omQ') | (have hv := hpl p4.1 (by omega) (by omega); have hm := hpm p4.1 (by omega) (by omega); have hr := hF4_0.1; exact omQ') | (have hv := hpl p4.1 (by omega) (by omega); have hm := hpm p4.1 (by omega) (by omega); have hq := hF4_0.2 (p7.1 - p9.1 * (gt l p4.1).Value) (by omega) (by omega); have he := ne_emp (l := gt p4.2 (p7.1 - p9.1 * (gt l p4.1).Value)) (by assumption); simp only [List.nil_append, List.length_append, List.length_nil, st_len] at *; exact omQ')))) ?_
       refine spQA (And.intro ha1 (And.intro he2 (And.intro ha4 (And.intro he10 (And.intro he12 (And.intro ha13 (And.intro ha16 (And.intro he17 (And.intro he20 he21))))))))) ?_
       refine bindC_intro (by (first | exact omQ | (clear hM; first | (have hv := hpl p4.1 (by omega) (by omega); have hm := hpm p4.1 (by omega) (by omega); exact omQ') | (have hr := hF4_0.1; exact omQ') | (have hr := hF11_0.1; exact omQ') | (have hv := hpl p4.1 (by omega) (by omega); have hm := hpm p4.1 (by omega) (by omega); have hr := hF4_0.1; exact omQ') | (have hv := hpl p4.1 (by omega) (by omega); have hm := hpm p4.1 (by omega) (by omega); have hq := hF4_0.2 (p7.1 - p9.1 * (gt l p4.1).Value) (by omega) (by omega); have he := ne_emp (l := gt p4.2 (p7.1 - p9.1 * (gt l p4.1).Value)) (by assumption); simp only [List.nil_append, List.length_append, List.length_nil, st_len] at *; exact omQ')))) ?_
       refine spQA (And.intro ha1 (And.intro he2 (And.intro ha4 (And.intro he10 (And.intro he12 (And.intro ha13 (And.intro ha16 (And.intro he17 (And.intro he20 he21))))))))) ?_
       have ha29 : addI .i64 p9.1 1 = (p9.1 + 1) := add_ok (by (first | exact omQ | (clear hM; first | (have hv := hpl p4.1 (by omega) (by omega); have hm := hpm p4.1 (by omega) (by omega); exact omQ') | (have hr := hF4_0.1; exact omQ') | (have hr := hF11_0.1; exact omQ') | (have hv := hpl p4.1 (by omega) (by omega); have hm := hpm p4.1 (by omega) (by omega); have hr := hF4_0.1; exact omQ') | (have hv := hpl p4.1 (by omega) (by omega); have hm := hpm p4.1 (by omega) (by omega); have hq := hF4_0.2 (p7.1 - p9.1 * (gt l p4.1).Value) (by omega) (by omega); have he := ne_emp (l := gt p4.2 (p7.1 - p9.1 * (gt l p4.1).Value)) (by assumption); simp only [List.nil_append, List.length_append, List.length_nil, st_len] at *; exact omQ')))) (by (first | exact omQ | (clear hM; first | (have hv := hpl p4.1 (by omega) (by omega); have hm := hpm p4.1 (by omega) (by omega); exact omQ') | (have hr := hF4_0.1; exact omQ') | (have hr := hF11_0.1; exact omQ') | (have hv := hpl p4.1 (by omega) (by omega); have hm := hpm p4.1 (by omega) (by omega); have hr := hF4_0.1; exact omQ') | (have hv := hpl p4.1 (by omega) (by omega); have hm := hpm p4.1 (by omega) (by omega); have hq := hF4_0.2 (p7.1 - p9.1 * (gt l p4.1).Value) (by omega) (by omega); have he := ne_emp (l := gt p4.2 (p7.1 - p9.1 * (gt l p4.1).Value)) (by assumption); simp only [List.nil_append, List.length_append, List.length_nil, st_len] at *; exact omQ'))))
       try simp only [ha29]
       refine lp_intro (n9 - 1) _ (by omega) (by simp only [go_sem, rowV_eq, rowV_eq0, List.length_replicate, rep_len, Int.toNat_natCast, ↓reduceIte, Nat.reduceEqDiff, Nat.reduceAdd, Int.reduceAdd, Nat.reduceMul, Nat.reduceLeDiff, Nat.reduceLT, Int.reduceLE, Int.reduceLT, Int.reduceNeg, Int.reduceToNat, List.isEmpty_nil, map_st, mtL_repE, mtL_repM, subF, subH, mtO, mtB, mt, mtL, mtL_self, mt_self, ltV, ltL, ltB, eq_self, or_true, true_or, or_self, and_self, rowV_ltE (f := eN23) (fun _ => by simp only [go_sem])]) (by simp only [go_sem, rowV_eq, rowV_eq0, List.length_replicate, rep_len, Int.toNat_natCast, ↓reduceIte, Nat.reduceEqDiff, Nat.reduceAdd, Int.reduceAdd, Nat.reduceMul, Nat.reduceLeDiff, Nat.reduceLT, Int.reduceLE, Int.reduceLT, Int.reduceNeg, Int.reduceToNat, List.isEmpty_nil, map_st, mtL_repE, mtL_repM, subF, subH, mtO, mtB, mt, mtL, mtL_self, mt_self, ltV, ltL, ltB, eq_self, or_true, true_or, or_self, and_self, rowV_ltE (f := eN23) (fun _ => by simp only [go_sem])]) ⟨((p9.1 + 1), (st p9.2 p7.1 (st (([] : List Int) ++ (gt p4.2 (p7.1 - (p9.1 * (gt l p4.1).Value)))) p4.1 p9.1))), rfl, ⟨⟨by (first | exact omQ | (clear hM; first | (have hv := hpl p4.1 (by omega) (by omega); have hm := hpm p4.1 (by omega) (by omega); exact omQ') | (have hr := hF4_0.1; exact omQ') | (have hr := hF11_0.1; exact omQ') | (have hv := hpl p4.1 (by omega) (by omega); have hm := hpm p4.1 (by omega) (by omega); have hr := hF4_0.1; exact omQ') | (have hv := hpl p4.1 (by omega) (by omega); have hm := hpm p4.1 (by omega) (by omega); have hq := hF4_0.2 (p7.1 - (p9.1 + 1) * (gt l p4.1).Value) (by omega) (by omega); have he := ne_emp (l := gt p4.2 (p7.1 - (p9.1 + 1) * (gt l p4.1).Value)) (by assumption); simp only [List.nil_append, List.length_append, List.length_nil, st_len] at *; exact omQ'))), by (first | exact omQ | (clear hM; first | (have hv := hpl p4.1 (by omega) (by omega); have hm := hpm p4.1 (by omega) (by omega); exact omQ') | (have hr := hF4_0.1; exact omQ') | (have hr := hF11_0.1; exact omQ') | (have hv := hpl p4.1 (by omega) (by omega); have hm := hpm p4.1 (by omega) (by omega); have hr := hF4_0.1; exact omQ') | (have hv := hpl p4.1 (by omega) (by omega); have hm := hpm p4.1 (by omega) (by omega); have hq := hF4_0.2 (p7.1 - (p9.1 + 1) * (gt l p4.1).Value) (by omega) (by omega); have he := ne_emp (l := gt p4.2 (p7.1 - (p9.1 + 1) * (gt l p4.1).Value)) (by assumption); simp only [List.nil_append, List.length_append, List.length_nil, st_len] at *; exact omQ')))⟩, by (clear hM; first | exact hF11_0 | (have hv := hpl p4.1 (by omega) (by omega); have hm := hpm p4.1 (by omega) (by omega); have hq := hF4_0.2 (p7.1 - p9.1 * (gt l p4.1).Value) (by omega) (by omega); have he := ne_emp (l := gt p4.2 (p7.1 - p9.1 * (gt l p4.1).Value)) (by assumption); exact hF11_0.set (by rw [st_len]; simp only [List.nil_append]; omega)))⟩, by (first | exact omQ | (clear hM; first | (have hv := hpl p4.1 (by omega) (by omega); have hm := hpm p4.1 (by omega) (by omega); exact omQ') | (have hr := hF4_0.1; exact omQ') | (have hr := hF11_0.1; exact omQ') | (have hv := hpl p4.1 (by omega) (by omega); have hm := hpm p4.1 (by omega) (by omega); have hr := hF4_0.1; exact omQ') | (have hv := hpl p4.1 (by omega) (by omega); have hm := hpm p4.1 (by omega) (by omega); have hq := hF4_0.2 (p7.1 - (p9.1 + 1) * (gt l p4.1).Value) (by omega) (by omega); have he := ne_emp (l := gt p4.2 (p7.1 - (p9.1 + 1) * (gt l p4.1).Value)) (by assumption); simp only [List.nil_append, List.length_append, List.length_nil, st_len] at *; exact omQ'))), iter_again hM hag9⟩
    ·rw [if_neg (ne_true h14)] at hM
     refine spQA (And.intro ha1 (And.intro he2 (And.intro ha4 (And.intro he10 (And.intro he12 (And.intro ha13 h14)))))) ?_
     have nh14 := nzQ h14
     have ha30 : addI .i64 p7.1 1 = (p7.1 + 1) := add_ok (by (first | exact omQ | (clear hM; first | (have hv := hpl p4.1 (by omega) (by omega); have hm := hpm p4.1 (by omega) (by omega); exact omQ') | (have hr := hF4_0.1; exact omQ') | (have hr := hF11_0.1; exact omQ') | (have hv := hpl p4.1 (by omega) (by omega); have hm := hpm p4.1 (by omega) (by omega); have hr := hF4_0.1; exact omQ') | (have hv := hpl p4.1 (by omega) (by omega); have hm := hpm p4.1 (by omega) (by omega); have hq := hF4_0.2 (p7.1 - p9.1 * (gt l p4.1).Value) (by omega) (by omega); have he := ne_emp (l := gt p4.2 (p7.1 - p9.1 * (gt l p4.1).Value)) (by assumption); simp only [List.nil_append, List.length_append, List.length_nil, st_len] at *; exact omQ')))) (by (first | exact omQ | (clear hM; first | (have hv := hpl p4.1 (by omega) (by omega); have hm := hpm p4.1 (by omega) (by omega); exact omQ') | (have hr := hF4_0.1; exact omQ') | (have hr := hF11_0.1; exact omQ') | (have hv := hpl p4.1 (by omega) (by omega); have hm := hpm p4.1 (by omega) (by omega); have hr := hF4_0.1; exact omQ') | (have hv := hpl p4.1 (by omega) (by omega); have hm := hpm p4.1 (by omega) (by omega); have hq := hF4_0.2 (p7.1 - p9.1 * (gt l p4.1).Value) (by omega) (by omega); have he := ne_emp (l := gt p4.2 (p7.1 - p9.1 * (gt l p4.1).Value)) (by assumption); simp only [List.nil_append, List.length_append, List.length_nil, st_len] at *; exact omQ'))))
     try simp only [ha30]
     refine lp_intro (n7 - 1) _ (by omega) (by simp only [go_sem, rowV_eq, rowV_eq0, List.length_replicate, rep_len, Int.toNat_natCast, ↓reduceIte, Nat.reduceEqDiff, Nat.reduceAdd, Int.reduceAdd, Nat.reduceMul, Nat.reduceLeDiff, Nat.reduceLT, Int.reduceLE, Int.reduceLT, Int.reduceNeg, Int.reduceToNat, List.isEmpty_nil, map_st, mtL_repE, mtL_repM, subF, subH, mtO, mtB, mt, mtL, mtL_self, mt_self, ltV, ltL, ltB, eq_self, or_true, true_or, or_self, and_self, rowV_ltE (f := eN23) (fun _ => by simp only [go_sem])]) (by simp only [go_sem, rowV_eq, rowV_eq0, List.length_replicate, rep_len, Int.toNat_natCast, ↓reduceIte, Nat.reduceEqDiff, Nat.reduceAdd, Int.reduceAdd, Nat.reduceMul, Nat.reduceLeDiff, Nat.reduceLT, Int.reduceLE, Int.reduceLT, Int.reduceNeg, Int.reduceToNat, List.isEmpty_nil, map_st, mtL_repE, mtL_repM, subF, subH, mtO, mtB, mt, mtL, mtL_self, mt_self, ltV, ltL, ltB, eq_self, or_true, true_or, or_self, and_self, rowV_ltE (f := eN23) (fun _ => by simp only [go_sem])]) ⟨((p7.1 + 1), p9.2), rfl, ⟨⟨by (first | exact omQ | (clear hM; first | (have hv := hpl p4.1 (by omega) (by omega); have hm := hpm p4.1 (by omega) (by omega); exact omQ') | (have hr := hF4_0.1; exact omQ') | (have hr := hF11_0.1; exact omQ') | (have hv := hpl p4.1 (by omega) (by omega); have hm := hpm p4.1 (by omega) (by omega); have hr := hF4_0.1; exact omQ') | (have hv := hpl p4.1 (by omega) (by omega); have hm := hpm p4.1 (by omega) (by omega); have hq := hF4_0.2 ((p7.1 + 1) - p9.1 * (gt l p4.1).Value) (by omega) (by omega); have he := ne_emp (l := gt p4.2 ((p7.1 + 1) - p9.1 * (gt l p4.1).Value)) (by assumption); simp only [List.nil_append, List.length_append, List.length_nil, st_len] at *; exact omQ'))), by (first | exact omQ | (clear hM; first | (have hv := hpl p4.1 (by omega) (by omega); have hm := hpm p4.1 (by omega) (by omega); exact omQ') | (have hr := hF4_0.1; exact omQ') | (have hr := hF11_0.1; exact omQ') | (have hv := hpl p4.1 (by omega) (by omega); have hm := hpm p4.1 (by omega) (by omega); have hr := hF4_0.1; exact omQ') | (have hv := hpl p4.1 (by omega) (by omega); have hm := hpm p4.1 (by omega) (by omega); have hq := hF4_0.2 ((p7.1 + 1) - p9.1 * (gt l p4.1).Value) (by omega) (by omega); have he := ne_emp (l := gt p4.2 ((p7.1 + 1) - p9.1 * (gt l p4.1).Value)) (by assumption); simp only [List.nil_append, List.length_append, List.length_nil, st_len] at *; exact omQ')))⟩, by (clear hM; exact hF11_0)⟩, by (first | exact omQ | (clear hM; first | (have hv := hpl p4.1 (by omega) (by omega); have hm := hpm p4.1 (by omega) (by omega); exact omQ') | (have hr := hF4_0.1; exact omQ') | (have hr := hF11_0.1; exact omQ') | (have hv := hpl p4.1 (by omega) (by omega); have hm := hpm p4.1 (by omega) (by omega); have hr := hF4_0.1; exact omQ') | (have hv := hpl p4.1 (by omega) (by omega); have hm := hpm p4.1 (by omega) (by omega); have hq := hF4_0.2 ((p7.1 + 1) - p9.1 * (gt l p4.1).Value) (by omega) (by omega); have he := ne_emp (l := gt p4.2 ((p7.1 + 1) - p9.1 * (gt l p4.1).Value)) (by assumption); simp only [List.nil_append, List.length_append, List.length_nil, st_len] at *; exact omQ'))), iter_again hM hag7⟩
   ·rw [if_neg (ne_true h11)] at hM
    refine spQA (And.intro ha1 (And.intro he2 (And.intro ha4 (And.intro he10 h11)))) ?_
    have nh11 := nzQ h11
    have ha31 : addI .i64 p7.1 1 = (p7.1 + 1) := add_ok (by (first | exact omQ | (clear hM; first | (have hv := hpl p4.1 (by omega) (by omega); have hm := hpm p4.1 (by omega) (by omega); exact omQ') | (have hr := hF4_0.1; exact omQ') | (have hr := hF11_0.1; exact omQ') | (have hv := hpl p4.1 (by omega) (by omega); have hm := hpm p4.1 (by omega) (by omega); have hr := hF4_0.1; exact omQ') | (have hv := hpl p4.1 (by omega) (by omega); have hm := hpm p4.1 (by omega) (by omega); have hq := hF4_0.2 (p7.1 - p9.1 * (gt l p4.1).Value) (by omega) (by omega); have he := ne_emp (l := gt p4.2 (p7.1 - p9.1 * (gt l p4.1).Value)) (by assumption); simp only [List.nil_append, List.length_append, List.length_nil, st_len] at *; exact omQ')))) (by (first | exact omQ | (clear hM; first | (have hv := hpl p4.1 (by omega) (by omega); have hm := hpm p4.1 (by omega) (by omega); exact omQ') | (have hr := hF4_0.1; exact omQ') | (have hr := hF11_0.1; exact omQ') | (have hv := hpl p4.1 (by omega) (by omega); have hm := hpm p4.1 (by omega) (by omega); have hr := hF4_0.1; exact omQ') | (have hv := hpl p4.1 (by omega) (by omega); have hm := hpm p4.1 (by omega) (by omega); have hq := hF4_0.2 (p7.1 - p9.1 * (gt l p4.1).Value) (by omega) (by omega); have he := ne_emp (l := gt p4.2 (p7.1 - p9.1 * (gt l p4.1).Value)) (by assumption); simp only [List.nil_append, List.length_append, List.length_nil, st_len] at *; exact omQ'))))
    try simp only [ha31]
    refine lp_intro (n7 - 1) _ (by omega) (by simp only [go_sem, rowV_eq, rowV_eq0, List.length_replicate, rep_len, Int.toNat_natCast, ↓reduceIte, Nat.reduceEqDiff, Nat.reduceAdd, Int.reduceAdd, Nat.reduceMul, Nat.reduceLeDiff, Nat.reduceLT, Int.reduceLE, Int.reduceLT, Int.reduceNeg, Int.reduceToNat, List.isEmpty_nil, map_st, mtL_repE, mtL_repM, subF, subH, mtO, mtB, mt, mtL, mtL_self, mt_self, ltV, ltL, ltB, eq_self, or_true, true_or, or_self, and_self, rowV_ltE (f := eN23) (fun _ => by simp only [go_sem])]) (by simp only [go_sem, rowV_eq, rowV_eq0, List.length_replicate, rep_len, Int.toNat_natCast, ↓reduceIte, Nat.reduceEqDiff, Nat.reduceAdd, Int.reduceAdd, Nat.reduceMul, Nat.reduceLeDiff, Nat.reduceLT, Int.reduceLE, Int.reduceLT, Int.reduceNeg, Int.reduceToNat, List.isEmpty_nil, map_st, mtL_repE, mtL_repM, subF, subH, mtO, mtB, mt, mtL, mtL_self, mt_self, ltV, ltL, ltB, eq_self, or_true, true_or, or_self, and_self, rowV_ltE (f := eN23) (fun _ => by simp only [go_sem])]) ⟨((p7.1 + 1), p9.2), rfl, ⟨⟨by (first | exact omQ | (clear hM; first | (have hv := hpl p4.1 (by omega) (by omega); have hm := hpm p4.1 (by omega) (by omega); exact omQ') | (have hr := hF4_0.1; exact omQ') | (have hr := hF11_0.1; exact omQ') | (have hv := hpl p4.1 (by omega) (by omega); have hm := hpm p4.1 (by omega) (by omega); have hr := hF4_0.1; exact omQ') | (have hv := hpl p4.1 (by omega) (by omega); have hm := hpm p4.1 (by omega) (by omega); have hq := hF4_0.2 ((p7.1 + 1) - p9.1 * (gt l p4.1).Value) (by omega) (by omega); have he := ne_emp (l := gt p4.2 ((p7.1 + 1) - p9.1 * (gt l p4.1).Value)) (by assumption); simp only [List.nil_append, List.length_append, List.length_nil, st_len] at *; exact omQ'))), by (first | exact omQ | (clear hM; first | (have hv := hpl p4.1 (by omega) (by omega); have hm := hpm p4.1 (by omega) (by omega); exact omQ') | (have hr := hF4_0.1; exact omQ') | (have hr := hF11_0.1; exact omQ') | (have hv := hpl p4.1 (by omega) (by omega); have hm := hpm p4.1 (by omega) (by omega); have hr := hF4_0.1; exact omQ') | (have hv := hpl p4.1 (by omega) (by omega); have hm := hpm p4.1 (by omega) (by omega); have hq := hF4_0.2 ((p7.1 + 1) - p9.1 * (gt l p4.1).Value) (by omega) (by omega); have he := ne_emp (l := gt p4.2 ((p7.1 + 1) - p9.1 * (gt l p4.1).Value)) (by assumption); simp only [List.nil_append, List.length_append, List.length_nil, st_len] at *; exact omQ')))⟩, by (clear hM; exact hF11_0)⟩, by (first | exact omQ | (clear hM; first | (have hv := hpl p4.1 (by omega) (by omega); have hm := hpm p4.1 (by omega) (by omega); exact omQ') | (have hr := hF4_0.1; exact omQ') | (have hr := hF11_0.1; exact omQ') | (have hv := hpl p4.1 (by omega) (by omega); have hm := hpm p4.1 (by omega) (by omega); have hr := hF4_0.1; exact omQ') | (have hv := hpl p4.1 (by omega) (by omega); have hm := hpm p4.1 (by omega) (by omega); have hq := hF4_0.2 ((p7.1 + 1) - p9.1 * (gt l p4.1).Value) (by omega) (by omega); have he := ne_emp (l := gt p4.2 ((p7.1 + 1) - p9.1 * (gt l p4.1).Value)) (by assumption); simp only [List.nil_append, List.length_append, List.length_nil, st_len] at *; exact omQ'))), iter_again hM hag7⟩
  ·rw [if_neg (ne_true h8)] at hM
   refine spQA (And.intro ha1 (And.intro he2 (And.intro ha4 h8))) ?_
   have nh8 := nzQ h8
   refine lp_introW (n4 - 1) _ _ (by omega) (weak_ren (S := ⟨_, _, _⟩) 7 0 2 (T := 23) (n := 1) (g := false) (z := none) (l := p7.2.map eN23) (clQA (And.intro ha1 (And.intro he2 ha4))) (clQA (And.intro ha1 (And.intro he2 ha4))) (by first | decide | (dsimp only; decide)) (by decide)) (by simp only [go_sem, rowV_eq, rowV_eq0, List.length_replicate, rep_len, Int.toNat_natCast, ↓reduceIte, Nat.reduceEqDiff, Nat.reduceAdd, Int.reduceAdd, Nat.reduceMul, Nat.reduceLeDiff, Nat.reduceLT, Int.reduceLE, Int.reduceLT, Int.reduceNeg, Int.reduceToNat, List.isEmpty_nil, map_st, mtL_repE, mtL_repM, subF, subH, mtO, mtB, mt, mtL, mtL_self, mt_self, ltV, ltL, ltB, eq_self, or_true, true_or, or_self, and_self, rowV_ltE (f := eN23) (fun _ => by simp only [go_sem])]) (by simp only [go_sem, rowV_eq, rowV_eq0, List.length_replicate, rep_len, Int.toNat_natCast, ↓reduceIte, Nat.reduceEqDiff, Nat.reduceAdd, Int.reduceAdd, Nat.reduceMul, Nat.reduceLeDiff, Nat.reduceLT, Int.reduceLE, Int.reduceLT, Int.reduceNeg, Int.reduceToNat, List.isEmpty_nil, map_st, mtL_repE, mtL_repM, subF, subH, mtO, mtB, mt, mtL, mtL_self, mt_self, ltV, ltL, ltB, eq_self, or_true, true_or, or_self, and_self, rowV_ltE (f := eN23) (fun _ => by simp only [go_sem])]) ⟨((p4.1 + 1), p7.2), rfl, ⟨⟨by (first | exact omQ | (clear hM; first | (have hv := hpl (p4.1 + 1) (by omega) (by omega); have hm := hpm (p4.1 + 1) (by omega) (by omega); exact omQ') | (have hr := hF4_0.1; exact omQ') | (have hr := hF11_0.1; exact omQ') | (have hv := hpl (p4.1 + 1) (by omega) (by omega); have hm := hpm (p4.1 + 1) (by omega) (by omega); have hr := hF4_0.1; exact omQ'))), by (first | exact omQ | (clear hM; first | (have hv := hpl (p4.1 + 1) (by omega) (by omega); have hm := hpm (p4.1 + 1) (by omega) (by omega); exact omQ') | (have hr := hF4_0.1; exact omQ') | (have hr := hF11_0.1; exact omQ') | (have hv := hpl (p4.1 + 1) (by omega) (by omega); have hm := hpm (p4.1 + 1) (by omega) (by omega); have hr := hF4_0.1; exact omQ'))), by (first | exact omQ | (clear hM; first | (have hv := hpl (p4.1 + 1) (by omega) (by omega); have hm := hpm (p4.1 + 1) (by omega) (by omega); exact omQ') | (have hr := hF4_0.1; exact omQ') | (have hr := hF11_0.1; exact omQ') | (have hv := hpl (p4.1 + 1) (by omega) (by omega); have hm := hpm (p4.1 + 1) (by omega) (by omega); have hr := hF4_0.1; exact omQ'))), by (first | exact omQ | (clear hM; first | (have hv := hpl (p4.1 + 1) (by omega) (by omega); have hm := hpm (p4.1 + 1) (by omega) (by omega); exact omQ') | (have hr := hF4_0.1; exact omQ') | (have hr := hF11_0.1; exact omQ') | (have hv := hpl (p4.1 + 1) (by omega) (by omega); have hm := hpm (p4.1 + 1) (by omega) (by omega); have hr := hF4_0.1; exact omQ')))⟩, by (clear hM; exact hF8_0)⟩, by (first | exact omQ | (clear hM; first | (have hv := hpl (p4.1 + 1) (by omega) (by omega); have hm := hpm (p4.1 + 1) (by omega) (by omega); exact omQ') | (have hr := hF4_0.1; exact omQ') | (have hr := hF11_0.1; exact omQ') | (have hv := hpl (p4.1 + 1) (by omega) (by omega); have hm := hpm (p4.1 + 1) (by omega) (by omega); have hr := hF4_0.1; exact omQ'))), iter_again hM hag4⟩
 ·rw [if_neg (ne_true h5)] at hM
  refine spQA (And.intro ha1 (And.intro he2 (And.intro ha4 h5))) ?_
  have nh5 := nzQ h5
  refine bindC_intro (by (first | exact omQ | (clear hM; first | (have hv := hpl p4.1 (by omega) (by omega); have hm := hpm p4.1 (by omega) (by omega); exact omQ') | (have hr := hF4_0.1; exact omQ') | (have hr := hF11_0.1; exact omQ') | (have hv := hpl p4.1 (by omega) (by omega); have hm := hpm p4.1 (by omega) (by omega); have hr := hF4_0.1; exact omQ')))) ?_
  have he32 := fun d => elt_mp (l := p4.2) (f := eN23) (i := amount) (by (first | exact omQ | (clear hM; first | (have hv := hpl p4.1 (by omega) (by omega); have hm := hpm p4.1 (by omega) (by omega); exact omQ') | (have hr := hF4_0.1; exact omQ') | (have hr := hF11_0.1; exact omQ') | (have hv := hpl p4.1 (by omega) (by omega); have hm := hpm p4.1 (by omega) (by omega); have hr := hF4_0.1; exact omQ')))) d
  refine spQA (And.intro ha1 (And.intro he2 (And.intro ha4 he32))) ?_
  refine bindC_intro (by (first | exact omQ | (clear hM; first | (have hv := hpl p4.1 (by omega) (by omega); have hm := hpm p4.1 (by omega) (by omega); exact omQ') | (have hr := hF4_0.1; exact omQ') | (have hr := hF11_0.1; exact omQ') | (have hv := hpl p4.1 (by omega) (by omega); have hm := hpm p4.1 (by omega) (by omega); have hr := hF4_0.1; exact omQ')))) ?_
  refine spQA (And.intro ha1 (And.intro he2 (And.intro ha4 he32))) ?_
  subst hM
  exact retC_view (lfQA (And.intro ha1 (And.intro he2 (And.intro ha4 (And.intro he32 h5)))))
set_option maxHeartbeats 2000000 in
set_option maxRecDepth 100000 in
theorem specielaw28_DenomPays_1_ok   (c : (List Int)) (e_ : Int) (ok : Bool) (most : (List Int)) (c0 : Int) (c1 : (List S_api_Denom)) (hp0 : ok = true → PayOk c1 most) : CM En (specielaw28_DenomPays_1 c e_ ok most c0 c1) 8 [.sl none 1 false (c.map (V.int .i64)), .int .i64 e_, .bool ok, .sl none 1 false (most.map (V.int .i64)), .pp 1 false (.int .i64 c0), .pp 1 false (.sl none 2 true (c1.map e_api_Denom))] (fun y => .bool y) (fun _ => []) := by
 refine cmQ fun r hM => ?_
 rw [specielaw28_DenomPays_1.eq_1] at hM
 refine enterV En_ok En_mo noJ Try.func8 rfl Try.ntmps8 (by kernel_rfl) fun hw => ct_start ?_
 refine spQ ?_
 replace hw := nzQ hw
 refine condC_intro (fun h1 => ?_) (fun h1 => ?_)
 ·rw [if_pos h1] at hM
  refine spQA h1 ?_
  have nh1 := nzQ h1
  have hF := h1
  exact auQ
 ·rw [if_neg (ne_true h1)] at hM
  refine spQA h1 ?_
  have nh1 := nzQ h1
  refine guardC_f (fun h3 => ?_) (fun h3 => ?_)
  ·rw [if_neg (ne_true h3)] at hM
   refine spQA h3 ?_
   have nh3 := nzQ h3
   refine condC_intro (fun h4 => ?_) (fun h4 => ?_)
   ·rw [if_pos h4] at hM
    refine spQA h4 ?_
    have nh4 := nzQ h4
    have hF := (And.intro h1 (And.intro h3 h4))
    exact auQ
   ·rw [if_neg (ne_true h4)] at hM
    refine spQA h4 ?_
    have nh4 := nzQ h4
    have hM0 := hM; clear hM; obtain ⟨x6, hx7, hM⟩ := letk_opn hM0; clear hM0
    have hcx6 := cmH hx7 (specieref28_Pay_ok  c1 most c0 (by (first | omega | exact (hp0 (by assumption)).1 | exact (hp0 (by assumption)).2.1 | exact (hp0 (by assumption)).2.2.1 | exact (hp0 (by assumption)).2.2.2)) (by (first | omega | exact (hp0 (by assumption)).1 | exact (hp0 (by assumption)).2.1 | exact (hp0 (by assumption)).2.2.1 | exact (hp0 (by assumption)).2.2.2)) (by (first | omega | exact (hp0 (by assumption)).1 | exact (hp0 (by assumption)).2.1 | exact (hp0 (by assumption)).2.2.1 | exact (hp0 (by assumption)).2.2.2)) (by (first | omega | exact (hp0 (by assumption)).1 | exact (hp0 (by assumption)).2.1 | exact (hp0 (by assumption)).2.2.1 | exact (hp0 (by assumption)).2.2.2)) (by (first | omega | exact (hp0 (by assumption)).1 | exact (hp0 (by assumption)).2.1 | exact (hp0 (by assumption)).2.2.1 | exact (hp0 (by assumption)).2.2.2)) (by (first | omega | exact (hp0 (by assumption)).1 | exact (hp0 (by assumption)).2.1 | exact (hp0 (by assumption)).2.2.1 | exact (hp0 (by assumption)).2.2.2)))
    refine callC_give hcx6 clQ clQ (fun hw8 => ?_)
    replace hw8 := nzQ hw8
    refine spQ ?_
    have hF := (And.intro h1 (And.intro h3 h4))
    exact auQ
  ·rw [if_pos h3] at hM
   refine spQA h3 ?_
   have nh3 := nzQ h3
   have hF := (And.intro h1 h3)
   exact auQ
set_option maxHeartbeats 2000000 in
set_option maxRecDepth 100000 in
instance specielaw28_one_ok   (b : Bool)  : CM En (specielaw28_one b) 13 [.bool b] (fun y => .int .i64 y) (fun _ => []) := by
 refine cmQ fun r hM => ?_
 rw [specielaw28_one.eq_1] at hM
 refine enterV En_ok En_mo noJ Try.func13 rfl Try.ntmps13 (by kernel_rfl) fun hw => ct_start ?_
 refine spQ ?_
 replace hw := nzQ hw
 have hF := trueQ
 exact auQ
set_option maxHeartbeats 2000000 in
set_option maxRecDepth 100000 in
instance specieref28_Most_ok   (l : (List S_api_Denom)) (amount : Int)  : CM En (specieref28_Most l amount) 12 [.sl none 2 true (l.map e_api_Denom), .int .i64 amount] (fun y => .sl none 1 false (y.map (V.int .i64))) (fun _ => []) := by
 refine cmQ fun r hM => ?_
 rw [specieref28_Most.eq_1] at hM
 refine enterV En_ok En_mo noJ Try.func12 rfl Try.ntmps12 (by kernel_rfl) fun hw => ct_start ?_
 refine spQ ?_
 replace hw := nzQ hw
 have hM0 := hM; clear hM; obtain ⟨f1, d1, hf1, hd1, hM⟩ := iter_opn hM0; clear hM0
 refine ct_loopW (fun n S => ∃ p : Int × List Int, S = (⟨[(0, .sl none 2 true (l.map e_api_Denom)), (1, .int .i64 amount), (5, .own 0), (6, .int .i64 p.1)], [(0, .own 3 1 false none (p.2.map (V.int .i64)))], 1⟩ : St) ∧ ((0 ≤ p.1) ∧ (p.1 ≤ (l.length : Int)) ∧ (((p.2).length : Int) ≤ p.1)) ∧ ((l.length : Int) - p.1).toNat < n ∧ iter n f1 d1 p = r) (((l.length : Int) - 0).toNat + 1) _ _ (weak_nil 5 3 rfl (by decide)) sbQ sbQ ⟨(0, ([] : List Int)), rfl, ⟨omQ, omQ, omQ⟩, (Nat.lt_succ_self _), hM⟩ ?_
 clear hM
 rintro n1 S ⟨p1, rfl, hfa1, hm1, hM⟩
 have hM0 := hM; clear hM; obtain ⟨ag1, hag1, hM⟩ := iter_step hM0 (by omega) hf1; clear hM0
 replace hfa1 := nzQ hfa1
 replace hm1 := nzQ hm1
 have ha1 : addI .i64 p1.1 1 = p1.1 + 1 := add_one omQ omQ
 refine spQA ha1 ?_
 have hF := ha1
 exact auQ
set_option maxHeartbeats 2000000 in
set_option maxRecDepth 100000 in
instance specielaw28_DenomPays_ok   (l : (List S_api_Denom)) (have_ : (List Int)) (amount : Int)  : CM En (specielaw28_DenomPays l have_ amount) 3 [.sl none 2 true (l.map e_api_Denom), .sl none 1 false (have_.map (V.int .i64)), .int .i64 amount] (fun y => .bool y) (fun _ => []) := by
 refine cmQ fun r hM => ?_
 rw [specielaw28_DenomPays.eq_1] at hM
 refine enterV En_ok En_mo noJ Try.func3 rfl Try.ntmps3 (by kernel_rfl) fun hw => ct_start ?_
 refine spQ ?_
 replace hw := nzQ hw
 have hM0 := hM; clear hM; obtain ⟨x1, hx2, hM⟩ := letk_opn hM0; clear hM0
 have hcx1 := cmU hx2
 refine callC_give hcx1 clQ clQ (fun hw3 => ?_)
 replace hw3 := nzQ hw3
 refine spQ ?_
 refine condC_intro (fun h4 => ?_) (fun h4 => ?_)
 ·rw [if_pos h4] at hM
  refine spQA h4 ?_
  have nh4 := nzQ h4
  subst hM
  exact retC_view (lfQA h4)
 ·rw [if_neg (ne_true h4)] at hM
  refine spQA h4 ?_
  have nh4 := nzQ h4
  have hM0 := hM; clear hM; obtain ⟨x5, hx6, hM⟩ := letk_opn hM0; clear hM0
  have hcx5 := cmU hx6
  refine callC_give hcx5 clQ clQ (fun hw7 => ?_)
  replace hw7 := nzQ hw7
  refine spQ ?_
  refine guardC_f (fun h8 => ?_) (fun h8 => ?_)
  ·subst h8
   rw [if_neg (by decide)] at hM
   refine spQ ?_
   refine guardC_f (fun h9 => ?_) (fun h9 => ?_)
   ·rw [if_neg (ne_true h9)] at hM
    refine spQA h9 ?_
    have nh9 := nzQ h9
    refine guardC_t (fun h10 => ?_) (fun h10 => ?_)
    ·rw [if_pos h10] at hM
     refine spQA h10 ?_
     have nh10 := nzQ h10
     refine condC_intro (fun h11 => ?_) (fun h11 => ?_)
     ·rw [if_pos h11] at hM
      refine spQA h11 ?_
      have nh11 := nzQ h11
      subst hM
      exact retC_view (lfQA (And.intro h4 (And.intro h9 (And.intro h10 h11))))
     ·rw [if_neg (ne_true h11)] at hM
      refine spQA h11 ?_
      have nh11 := nzQ h11
      have hM0 := hM; clear hM; obtain ⟨x12, hx13, hM⟩ := letk_opn hM0; clear hM0
      have hcx12 := cmU hx13
      refine callC_give hcx12 clQ clQ (fun hw14 => ?_)
      replace hw14 := nzQ hw14
      refine spQ ?_
      have hM0 := hM; clear hM; obtain ⟨x15, hx16, hM⟩ := letk_opn hM0; clear hM0
      have hcx15 := cmU hx16
      refine callC_give hcx15 clQ clQ (fun hw17 => ?_)
      replace hw17 := nzQ hw17
      refine spQ ?_
      have hM0 := hM; clear hM; obtain ⟨x18, hx19, hM⟩ := letk_opn hM0; clear hM0
      have hcx18 := cmU hx19
      refine callC_give hcx18 clQ clQ (fun hw20 => ?_)
      replace hw20 := nzQ hw20
      refine spQ ?_
      refine ct_draw 76 28 [46, 47, 48, 49, 50, 51, 52, 53, 54, 55, 56, 57, 58, 59, 60, 61, 62, 63, 64, 65, 66, 67, 68, 69, 70, 71, 72, 73] [] ([[], [], [], [], [], [], [5], [], [7], [7, 8], [5, 6, 7, 8, 9], [4, 5, 6, 7, 8, 9, 10], [], [12], [12, 13], [4, 5, 6, 7, 8, 9, 10, 11, 12, 13, 14], [0, 1, 2, 3, 4, 5, 6, 7, 8, 9, 10, 11, 12, 13, 14, 15], [0, 1, 2, 3, 4, 5, 6, 7, 8, 9, 10, 11, 12, 13, 14, 15, 16], [0, 1, 2, 3, 4, 5, 6, 7, 8, 9, 10, 11, 12, 13, 14, 15, 16, 17], [0, 1, 2, 3, 4, 5, 6, 7, 8, 9, 10, 11, 12, 13, 14, 15, 16, 17], [0, 1, 2, 3, 4, 5, 6, 7, 8, 9, 10, 11, 12, 13, 14, 15, 16, 17], [0, 1, 2, 3, 4, 5, 6, 7, 8, 9, 10, 11, 12, 13, 14, 15, 16, 17], [0, 1, 2, 3, 4, 5, 6, 7, 8, 9, 10, 11, 12, 13, 14, 15, 16, 17, 21], [0, 1, 2, 3, 4, 5, 6, 7, 8, 9, 10, 11, 12, 13, 14, 15, 16, 17, 21, 22], [0, 1, 2, 3, 4, 5, 6, 7, 8, 9, 10, 11, 12, 13, 14, 15, 16, 17, 21, 22], [0, 1, 2, 3, 4, 5, 6, 7, 8, 9, 10, 11, 12, 13, 14, 15, 16, 17, 21, 22, 23, 24], [0, 1, 2, 3, 4, 5, 6, 7, 8, 9, 10, 11, 12, 13, 14, 15, 16, 17, 21, 22, 23, 24, 25], [0, 1, 2, 3, 4, 5, 6, 7, 8, 9, 10, 11, 12, 13, 14, 15, 16, 17]] ++ [List.range 28, List.range 29, List.range 30]) [] (by kernel_rfl) (by exact alQ) ?_
      refine spQ ?_
      have hM0 := hM; clear hM; obtain ⟨x21, hx22, hM⟩ := letk_opn hM0; clear hM0
      have hcx21 := cmU hx22
      refine hcallC_give hcx21 clQ clQ ?_
      refine spQ ?_
      have hq23 := one_rng hx22
      replace hq23 := nzQ hq23
      obtain ⟨ha24, hbha24⟩ := mul_pos_ok (a := 40) (b := x21) 40 1 40 (by (first | exact omQ | (clear hM; first | (have h9 := one_min (l := l) ‹_ = specielaw28_one _›; exact omQ')))) (by (first | exact omQ | (clear hM; first | (have h9 := one_min (l := l) ‹_ = specielaw28_one _›; exact omQ')))) (by (first | exact omQ | (clear hM; first | (have h9 := one_min (l := l) ‹_ = specielaw28_one _›; exact omQ')))) (by (first | exact omQ | (clear hM; first | (have h9 := one_min (l := l) ‹_ = specielaw28_one _›; exact omQ')))) (by decide) (by decide)
      try simp only [ha24]
      refine hbindC_intro (by (first | exact omQ | (clear hM; first | (have h9 := one_min (l := l) ‹_ = specielaw28_one _›; exact omQ')))) ?_
      refine spQA ha24 ?_
      have hM0 := hM; clear hM; obtain ⟨x25, hx26, hM⟩ := letk_opn hM0; clear hM0
      have hcx25 := cmU hx26
      refine hcallC_give hcx25 (clQA ha24) (clQA ha24) ?_
      refine spQA ha24 ?_
      have hM0 := hM; clear hM; obtain ⟨x27, hx28, hM⟩ := letk_opn hM0; clear hM0
      have hcx27 := cmH hx28 (specielaw28_DenomPays_1_ok  (x12.1) (x12.2) x18 x25 amount l (by (first | exact pay_most ‹_ = specieref28_Valid _› ‹_ = specielaw28_one _› ‹_ = specieref28_Most _ _› | exact pay_have ‹_ = specieref28_Valid _› ‹_ = specieref28_Counts _ _› (by first | assumption | rfl) | (intro h; cases h))))
      refine hcallC_look hcx27 (clQA ha24) (clQA ha24) ?_
      refine spQA ha24 ?_
      refine hguardC_t (fun h29 => ?_) (fun h29 => ?_)
      ·subst h29
       rw [if_pos rfl] at hM
       refine spQA ha24 ?_
       refine hguardC_t (fun h30 => ?_) (fun h30 => ?_)
       ·subst h30
        rw [if_pos rfl] at hM
        refine spQA ha24 ?_
        have hM0 := hM; clear hM; obtain ⟨x31, hx32, hM⟩ := letk_opn hM0; clear hM0
        have hcx31 := cmU hx32
        refine hcallC_give hcx31 (clQA ha24) (clQA ha24) ?_
        refine spQA ha24 ?_
        have hM0 := hM; clear hM; obtain ⟨x33, hx34, hM⟩ := letk_opn hM0; clear hM0
        have hcx33 := cmH hx34 (specielaw28_DenomPays_1_ok  (x15.1) (x15.2) x31 have_ amount l (by (first | exact pay_most ‹_ = specieref28_Valid _› ‹_ = specielaw28_one _› ‹_ = specieref28_Most _ _› | exact pay_have ‹_ = specieref28_Valid _› ‹_ = specieref28_Counts _ _› (by first | assumption | rfl) | (intro h; cases h))))
        refine callC_look hcx33 (clQA ha24) (clQA ha24) (fun hw35 => ?_)
        replace hw35 := nzQ hw35
        refine spQA ha24 ?_
        subst hM
        exact retC_view (lfQA (And.intro ha24 (And.intro h4 (And.intro h9 (And.intro h10 h11)))))
       ·subst h30
        rw [if_neg (by decide)] at hM
        refine spQA ha24 ?_
        have hM0 := hM; clear hM; obtain ⟨x36, hx37, hM⟩ := letk_opn hM0; clear hM0
        have hcx36 := cmH hx37 (specielaw28_DenomPays_1_ok  (x15.1) (x15.2) false have_ amount l (by (first | exact pay_most ‹_ = specieref28_Valid _› ‹_ = specielaw28_one _› ‹_ = specieref28_Most _ _› | exact pay_have ‹_ = specieref28_Valid _› ‹_ = specieref28_Counts _ _› (by first | assumption | rfl) | (intro h; cases h))))
        refine callC_look hcx36 (clQA ha24) (clQA ha24) (fun hw38 => ?_)
        replace hw38 := nzQ hw38
        refine spQA ha24 ?_
        subst hM
        exact retC_view (lfQA (And.intro ha24 (And.intro h4 (And.intro h9 (And.intro h10 h11)))))
      ·subst h29
       rw [if_neg (by decide)] at hM
       refine spQA ha24 ?_
       subst hM
       exact retC_view (lfQA (And.intro ha24 (And.intro h4 (And.intro h9 (And.intro h10 h11)))))
    ·rw [if_neg (ne_true h10)] at hM
     refine spQA h10 ?_
     have nh10 := nzQ h10
     have hM0 := hM; clear hM; obtain ⟨x39, hx40, hM⟩ := letk_opn hM0; clear hM0
     have hcx39 := cmU hx40
     refine callC_give hcx39 clQ clQ (fun hw41 => ?_)
     replace hw41 := nzQ hw41
     refine spQ ?_
     have hM0 := hM; clear hM; obtain ⟨x42, hx43, hM⟩ := letk_opn hM0; clear hM0
     have hcx42 := cmU hx43
     refine callC_give hcx42 clQ clQ (fun hw44 => ?_)
     replace hw44 := nzQ hw44
     refine spQ ?_
     have hM0 := hM; clear hM; obtain ⟨x45, hx46, hM⟩ := letk_opn hM0; clear hM0
     have hcx45 := cmU hx46
     refine callC_give hcx45 clQ clQ (fun hw47 => ?_)
     replace hw47 := nzQ hw47
     refine spQ ?_
     refine ct_draw 76 28 [46, 47, 48, 49, 50, 51, 52, 53, 54, 55, 56, 57, 58, 59, 60, 61, 62, 63, 64, 65, 66, 67, 68, 69, 70, 71, 72, 73] [] ([[], [], [], [], [], [], [5], [], [7], [7, 8], [5, 6, 7, 8, 9], [4, 5, 6, 7, 8, 9, 10], [], [12], [12, 13], [4, 5, 6, 7, 8, 9, 10, 11, 12, 13, 14], [0, 1, 2, 3, 4, 5, 6, 7, 8, 9, 10, 11, 12, 13, 14, 15], [0, 1, 2, 3, 4, 5, 6, 7, 8, 9, 10, 11, 12, 13, 14, 15, 16], [0, 1, 2, 3, 4, 5, 6, 7, 8, 9, 10, 11, 12, 13, 14, 15, 16, 17], [0, 1, 2, 3, 4, 5, 6, 7, 8, 9, 10, 11, 12, 13, 14, 15, 16, 17], [0, 1, 2, 3, 4, 5, 6, 7, 8, 9, 10, 11, 12, 13, 14, 15, 16, 17], [0, 1, 2, 3, 4, 5, 6, 7, 8, 9, 10, 11, 12, 13, 14, 15, 16, 17], [0, 1, 2, 3, 4, 5, 6, 7, 8, 9, 10, 11, 12, 13, 14, 15, 16, 17, 21], [0, 1, 2, 3, 4, 5, 6, 7, 8, 9, 10, 11, 12, 13, 14, 15, 16, 17, 21, 22], [0, 1, 2, 3, 4, 5, 6, 7, 8, 9, 10, 11, 12, 13, 14, 15, 16, 17, 21, 22], [0, 1, 2, 3, 4, 5, 6, 7, 8, 9, 10, 11, 12, 13, 14, 15, 16, 17, 21, 22, 23, 24], [0, 1, 2, 3, 4, 5, 6, 7, 8, 9, 10, 11, 12, 13, 14, 15, 16, 17, 21, 22, 23, 24, 25], [0, 1, 2, 3, 4, 5, 6, 7, 8, 9, 10, 11, 12, 13, 14, 15, 16, 17]] ++ [List.range 28, List.range 29, List.range 30]) [] (by kernel_rfl) (by exact alQ) ?_
     refine spQ ?_
     have hM0 := hM; clear hM; obtain ⟨x48, hx49, hM⟩ := letk_opn hM0; clear hM0
     have hcx48 := cmU hx49
     refine hcallC_give hcx48 clQ clQ ?_
     refine spQ ?_
     have hq50 := one_rng hx49
     replace hq50 := nzQ hq50
     obtain ⟨ha51, hbha51⟩ := mul_pos_ok (a := 40) (b := x48) 40 1 40 (by (first | exact omQ | (clear hM; first | (have h9 := one_min (l := l) ‹_ = specielaw28_one _›; exact omQ')))) (by (first | exact omQ | (clear hM; first | (have h9 := one_min (l := l) ‹_ = specielaw28_one _›; exact omQ')))) (by (first | exact omQ | (clear hM; first | (have h9 := one_min (l := l) ‹_ = specielaw28_one _›; exact omQ')))) (by (first | exact omQ | (clear hM; first | (have h9 := one_min (l := l) ‹_ = specielaw28_one _›; exact omQ')))) (by decide) (by decide)
     try simp only [ha51]
     refine hbindC_intro (by (first | exact omQ | (clear hM; first | (have h9 := one_min (l := l) ‹_ = specielaw28_one _›; exact omQ')))) ?_
     refine spQA ha51 ?_
     have hM0 := hM; clear hM; obtain ⟨x52, hx53, hM⟩ := letk_opn hM0; clear hM0
     have hcx52 := cmU hx53
     refine hcallC_give hcx52 (clQA ha51) (clQA ha51) ?_
     refine spQA ha51 ?_
     have hM0 := hM; clear hM; obtain ⟨x54, hx55, hM⟩ := letk_opn hM0; clear hM0
     have hcx54 := cmH hx55 (specielaw28_DenomPays_1_ok  (x39.1) (x39.2) x45 x52 amount l (by (first | exact pay_most ‹_ = specieref28_Valid _› ‹_ = specielaw28_one _› ‹_ = specieref28_Most _ _› | exact pay_have ‹_ = specieref28_Valid _› ‹_ = specieref28_Counts _ _› (by first | assumption | rfl) | (intro h; cases h))))
     refine hcallC_look hcx54 (clQA ha51) (clQA ha51) ?_
     refine spQA ha51 ?_
     refine hguardC_t (fun h56 => ?_) (fun h56 => ?_)
     ·subst h56
      rw [if_pos rfl] at hM
      refine spQA ha51 ?_
      refine hguardC_t (fun h57 => ?_) (fun h57 => ?_)
      ·subst h57
       rw [if_pos rfl] at hM
       refine spQA ha51 ?_
       have hM0 := hM; clear hM; obtain ⟨x58, hx59, hM⟩ := letk_opn hM0; clear hM0
       have hcx58 := cmU hx59
       refine hcallC_give hcx58 (clQA ha51) (clQA ha51) ?_
       refine spQA ha51 ?_
       have hM0 := hM; clear hM; obtain ⟨x60, hx61, hM⟩ := letk_opn hM0; clear hM0
       have hcx60 := cmH hx61 (specielaw28_DenomPays_1_ok  (x42.1) (x42.2) x58 have_ amount l (by (first | exact pay_most ‹_ = specieref28_Valid _› ‹_ = specielaw28_one _› ‹_ = specieref28_Most _ _› | exact pay_have ‹_ = specieref28_Valid _› ‹_ = specieref28_Counts _ _› (by first | assumption | rfl) | (intro h; cases h))))
       refine callC_look hcx60 (clQA ha51) (clQA ha51) (fun hw62 => ?_)
       replace hw62 := nzQ hw62
       refine spQA ha51 ?_
       subst hM
       exact retC_view (lfQA (And.intro ha51 (And.intro h4 (And.intro h9 h10))))
      ·subst h57
       rw [if_neg (by decide)] at hM
       refine spQA ha51 ?_
       have hM0 := hM; clear hM; obtain ⟨x63, hx64, hM⟩ := letk_opn hM0; clear hM0
       have hcx63 := cmH hx64 (specielaw28_DenomPays_1_ok  (x42.1) (x42.2) false have_ amount l (by (first | exact pay_most ‹_ = specieref28_Valid _› ‹_ = specielaw28_one _› ‹_ = specieref28_Most _ _› | exact pay_have ‹_ = specieref28_Valid _› ‹_ = specieref28_Counts _ _› (by first | assumption | rfl) | (intro h; cases h))))
       refine callC_look hcx63 (clQA ha51) (clQA ha51) (fun hw65 => ?_)
       replace hw65 := nzQ hw65
       refine spQA ha51 ?_
       subst hM
       exact retC_view (lfQA (And.intro ha51 (And.intro h4 (And.intro h9 h10))))
     ·subst h56
      rw [if_neg (by decide)] at hM
      refine spQA ha51 ?_
      subst hM
      exact retC_view (lfQA (And.intro ha51 (And.intro h4 (And.intro h9 h10))))
   ·rw [if_pos h9] at hM
    refine spQA h9 ?_
    have nh9 := nzQ h9
    subst hM
    exact retC_view (lfQA (And.intro h4 h9))
  ·subst h8
   rw [if_pos rfl] at hM
   refine spQ ?_
   subst hM
   exact retC_view (lfQA h4)
end Go.Proofs.Yteolfhljhnplpaa
namespace Go.Proofs.Yteolfhljhnplpaa
open Go.RowKit
def sumV (c v : Nat → Int) : Nat → Int
 | 0 => 0
 | k + 1 => sumV c v k + c k * v k
def sumC (c : Nat → Int) : Nat → Int
 | 0 => 0
 | k + 1 => sumC c k + c k
def Ok (v m c : Nat → Int) (k : Nat) : Prop := ∀ j, j < k → 0 ≤ c j ∧ c j ≤ m j ∧ (v j = 0 → c j = 0)
theorem Ok.less {v m c : Nat → Int} {k : Nat} (h : Ok v m c (k + 1)) : Ok v m c k := fun j hj => h j (by omega)
theorem sumV_nn {v m c : Nat → Int} {k : Nat} (hv : ∀ j, j < k → 0 ≤ v j) (h : Ok v m c k) : 0 ≤ sumV c v k := by
 induction k with
 | zero => exact Int.le_refl _
 | succ k ih =>
  have h1 := ih (fun j hj => hv j (by omega)) h.less
  have h2 := Int.mul_nonneg (h k (by omega)).1 (hv k (by omega))
  rw [sumV]; omega
theorem sumV_congr {c c' v : Nat → Int} {k : Nat} (h : ∀ j, j < k → c j = c' j) : sumV c v k = sumV c' v k := by
 induction k with
 | zero => rfl
 | succ k ih => rw [sumV, sumV, ih (fun j hj => h j (by omega)), h k (by omega)]
theorem sumC_congr {c c' : Nat → Int} {k : Nat} (h : ∀ j, j < k → c j = c' j) : sumC c k = sumC c' k := by
 induction k with
 | zero => rfl
 | succ k ih => rw [sumC, sumC, ih (fun j hj => h j (by omega)), h k (by omega)]
theorem Ok.congr {v m c c' : Nat → Int} {k : Nat} (h : ∀ j, j < k → c j = c' j) (hc : Ok v m c k) : Ok v m c' k := fun j hj => h j hj ▸ hc j hj
def put (c : Nat → Int) (k : Nat) (x : Int) : Nat → Int := fun j => if j = k then x else c j
theorem put_lt {c : Nat → Int} {k : Nat} {x : Int} : ∀ j, j < k → c j = put c k x j := fun j hj => by simp [put, show ¬ j = k by omega]
theorem put_at {c : Nat → Int} {k : Nat} {x : Int} : put c k x k = x := by simp [put]
structure Right (v m : Nat → Int) (k : Nat) (a : Int) (w : S_denom_way) : Prop where
 sound : w.ok = true → ∃ c, Ok v m c k ∧ sumV c v k = a ∧ sumC c k = w.coins ∧ ∀ k', k = k' + 1 → c k' = w.last
 best : ∀ c, Ok v m c k → sumV c v k = a → w.ok = true ∧ (w.coins < sumC c k ∨ (w.coins = sumC c k ∧ ∀ k', k = k' + 1 → c k' ≤ w.last))
structure Part (v m : Nat → Int) (k : Nat) (a n : Int) (w : S_denom_way) : Prop where
 sound : w.ok = true → ∃ c, Ok v m c (k + 1) ∧ sumV c v (k + 1) = a ∧ sumC c (k + 1) = w.coins ∧ c k = w.last ∧ c k < n
 best : ∀ c, Ok v m c (k + 1) → sumV c v (k + 1) = a → c k < n → w.ok = true ∧ (w.coins < sumC c (k + 1) ∨ (w.coins = sumC c (k + 1) ∧ c k ≤ w.last))
variable {v m : Nat → Int} {k : Nat} {a n : Int} {w b : S_denom_way}
theorem Part.zero (h : w.ok = false) : Part v m k a 0 w :=
 ⟨fun g => (by rw [h] at g; cases g), fun c hc _ hk => by have := (hc k (by omega)).1; omega⟩
theorem Part.right (h : Part v m k a n w) (hn : ∀ c, Ok v m c (k + 1) → sumV c v (k + 1) = a → c k < n) : Right v m (k + 1) a w := by
 refine ⟨fun g => ?_, fun c hc hs => ?_⟩
 ·obtain ⟨c, h1, h2, h3, h4, _⟩ := h.sound g
  exact ⟨c, h1, h2, h3, fun k' e => by cases e; exact h4⟩
 ·obtain ⟨h1, h2⟩ := h.best c hc hs (hn c hc hs)
  refine ⟨h1, h2.imp id fun ⟨g1, g2⟩ => ⟨g1, fun k' e => by cases e; exact g2⟩⟩
theorem Part.skip (h : Part v m k a n w) (hb : Right v m k (a - n * v k) b) (ho : b.ok = false) : Part v m k a (n + 1) w := by
 refine ⟨fun g => ?_, fun c hc hs hk => ?_⟩
 ·obtain ⟨c, h1, h2, h3, h4, h5⟩ := h.sound g
  exact ⟨c, h1, h2, h3, h4, by omega⟩
 ·by_cases e : c k = n
  ·exfalso
   rw [sumV, e] at hs
   have := (hb.best c hc.less (by omega)).1
   rw [ho] at this; cases this
  ·exact h.best c hc hs (by omega)
theorem Part.keep (h : Part v m k a n w) (hb : Right v m k (a - n * v k) b) (hw : w.ok = true) (ho : b.ok = true) (hc : ¬ b.coins + n ≤ w.coins) : Part v m k a (n + 1) w := by
 refine ⟨fun g => ?_, fun c hc' hs hk => ?_⟩
 ·obtain ⟨c, h1, h2, h3, h4, h5⟩ := h.sound g
  exact ⟨c, h1, h2, h3, h4, by omega⟩
 ·by_cases e : c k = n
  ·rw [sumV, e] at hs
   obtain ⟨_, g⟩ := hb.best c hc'.less (by omega)
   refine ⟨hw, .inl ?_⟩
   rw [sumC, e]
   rcases g with g | ⟨g, _⟩ <;> omega
  ·exact h.best c hc' hs (by omega)
theorem Part.take (h : Part v m k a n w) (hb : Right v m k (a - n * v k) b) (ho : b.ok = true) (hc : w.ok = false ∨ b.coins + n ≤ w.coins) (h0 : 0 ≤ n) (h1 : n ≤ m k) (h2 : v k = 0 → n = 0) :
  Part v m k a (n + 1) ⟨true, b.coins + n, n⟩ := by
 refine ⟨fun _ => ?_, fun c hc' hs hk => ⟨rfl, ?_⟩⟩
 ·obtain ⟨c, g1, g2, g3, _⟩ := hb.sound ho
  refine ⟨put c k n, fun j hj => ?_, ?_, ?_, put_at, by rw [put_at]; omega⟩
  ·by_cases e : j = k
   ·subst e; rw [put_at]; exact ⟨h0, h1, h2⟩
   ·rw [← put_lt j (by omega)]; exact g1 j (by omega)
  ·rw [sumV, ← sumV_congr put_lt, put_at]; omega
  ·rw [sumC, ← sumC_congr put_lt, put_at]; show _ = b.coins + n; omega
 ·by_cases e : c k = n
  ·rw [sumV, e] at hs
   obtain ⟨_, g⟩ := hb.best c hc'.less (by omega)
   rw [sumC, e]
   rcases g with g | ⟨g, _⟩
   ·exact .inl (by show b.coins + n < _; omega)
   ·exact .inr ⟨by show b.coins + n = _; omega, Int.le_refl _⟩
  ·obtain ⟨g1, g2⟩ := h.best c hc' hs (by omega)
   rcases hc with hc | hc
   ·rw [hc] at g1; cases g1
   ·rcases g2 with g2 | ⟨g2, g3⟩
    ·exact .inl (by show b.coins + n < _; omega)
    ·rcases Int.lt_or_eq_of_le hc with h5 | h5
     ·exact .inl (by show b.coins + n < _; omega)
     ·exact .inr ⟨by show b.coins + n = _; omega, by show c k ≤ n; omega⟩
theorem Right.start (hw : w.ok = decide (a = 0)) (hc : w.coins = 0) : Right v m 0 a w := by
 refine ⟨fun g => ?_, fun c _ hs => ?_⟩
 ·rw [hw] at g
  exact ⟨fun _ => 0, fun j hj => by omega, by simpa [sumV] using (of_decide_eq_true g).symm, by rw [hc]; rfl, fun k' e => by cases e⟩
 ·rw [sumV] at hs
  exact ⟨by rw [hw]; exact decide_eq_true hs.symm, .inr ⟨by rw [hc]; rfl, fun k' e => by cases e⟩⟩
def lexGe (c c' : Nat → Int) : Nat → Prop
 | 0 => True
 | k + 1 => c' k < c k ∨ (c' k = c k ∧ lexGe c c' k)
theorem lexGe_congr {c d c' : Nat → Int} {k : Nat} (h : ∀ j, j < k → c j = d j) (hl : lexGe c c' k) : lexGe d c' k := by
 induction k with
 | zero => trivial
 | succ k ih =>
  rw [lexGe, ← h k (by omega)]
  exact hl.imp id fun ⟨g1, g2⟩ => ⟨g1, ih (fun j hj => h j (by omega)) g2⟩
theorem lexGe_anti {c c' : Nat → Int} {k : Nat} (h : lexGe c c' k) (h' : lexGe c' c k) : ∀ j, j < k → c j = c' j := by
 induction k with
 | zero => intro j hj; omega
 | succ k ih =>
  rw [lexGe] at h h'
  have e : c k = c' k := by rcases h with h | ⟨h, _⟩ <;> rcases h' with h' | ⟨h', _⟩ <;> omega
  intro j hj
  by_cases hk : j = k
  ·subst hk; exact e
  ·refine ih ?_ ?_ j (by omega)
   ·rcases h with h | ⟨_, h⟩
    ·omega
    ·exact h
   ·rcases h' with h' | ⟨_, h'⟩
    ·omega
    ·exact h'
structure Best (v m : Nat → Int) (k : Nat) (a : Int) (c : Nat → Int) : Prop where
 ok : Ok v m c k
 sum : sumV c v k = a
 best : ∀ c', Ok v m c' k → sumV c' v k = a → sumC c k < sumC c' k ∨ (sumC c k = sumC c' k ∧ lexGe c c' k)
theorem Best.congr {c d : Nat → Int} (h : ∀ j, j < k → c j = d j) (hb : Best v m k a c) : Best v m k a d :=
 ⟨hb.ok.congr h, by rw [← sumV_congr h]; exact hb.sum, fun c' h1 h2 => by
  rw [← sumC_congr h]
  exact (hb.best c' h1 h2).imp id fun ⟨g1, g2⟩ => ⟨g1, lexGe_congr h g2⟩⟩
theorem Best.zero {c : Nat → Int} : Best v m 0 0 c := ⟨fun j hj => by omega, rfl, fun c' _ _ => .inr ⟨rfl, trivial⟩⟩
theorem Right.down {w' : S_denom_way} (h : Right v m (k + 1) a w) (ho : w.ok = true) (h' : Right v m k (a - w.last * v k) w') : w'.ok = true ∧ w.coins = w'.coins + w.last ∧ 0 ≤ w.last ∧ w.last ≤ m k ∧ (v k = 0 → w.last = 0) := by
 obtain ⟨c, h1, h2, h3, h4⟩ := h.sound ho
 have h4 := h4 k rfl
 obtain ⟨g1, g2⟩ := h'.best c h1.less (by rw [sumV, h4] at h2; omega)
 have g3 := h1 k (by omega)
 rw [h4] at g3
 refine ⟨g1, ?_, g3⟩
 rw [sumC, h4] at h3
 obtain ⟨c', f1, f2, f3, _⟩ := h'.sound g1
 have hput : Ok v m (put c' k w.last) (k + 1) := fun j hj => by
  by_cases e : j = k
  ·subst e; rw [put_at]; exact g3
  ·rw [← put_lt j (by omega)]; exact f1 j (by omega)
 have := (h.best (put c' k w.last) hput (by rw [sumV, ← sumV_congr put_lt, put_at]; omega)).2
 rw [sumC, ← sumC_congr put_lt, put_at] at this
 rcases g2 with g2 | ⟨g2, _⟩
 ·rcases this with this | ⟨this, _⟩ <;> omega
 ·omega
theorem Best.step {c : Nat → Int} {w' : S_denom_way} (h : Right v m (k + 1) a w) (ho : w.ok = true) (h' : Right v m k (a - w.last * v k) w') (hb : Best v m k (a - w.last * v k) c) (hc : sumC c k = w'.coins) :
  Best v m (k + 1) a (put c k w.last) ∧ sumC (put c k w.last) (k + 1) = w.coins := by
 obtain ⟨_, h2, h3⟩ := h.down ho h'
 have hsc : sumC (put c k w.last) (k + 1) = w.coins := by rw [sumC, ← sumC_congr put_lt, put_at]; omega
 refine ⟨⟨fun j hj => ?_, ?_, fun c' g1 g2 => ?_⟩, hsc⟩
 ·by_cases e : j = k
  ·subst e; rw [put_at]; exact h3
  ·rw [← put_lt j (by omega)]; exact hb.ok j (by omega)
 ·rw [sumV, ← sumV_congr put_lt, put_at, hb.sum]; omega
 ·rw [hsc]
  refine (h.best c' g1 g2).2.imp id fun ⟨f1, f2⟩ => ⟨f1, ?_⟩
  have f2 := f2 k rfl
  rw [lexGe, put_at]
  rcases Int.lt_or_eq_of_le f2 with f2 | f2
  ·exact .inl f2
  ·refine .inr ⟨f2, lexGe_congr put_lt ?_⟩
   rw [sumV, f2] at g2
   rw [sumC, f2] at f1
   rcases hb.best c' g1.less (by omega) with e | ⟨_, e⟩
   ·omega
   ·exact e
end Go.Proofs.Yteolfhljhnplpaa
namespace Go.Proofs.Yteolfhljhnplpaa
open Go.RowKit
def Vl (l : List S_api_Denom) : Nat → Int := fun j => (gt l (j : Int)).Value
def Cn (c : List Int) : Nat → Int := fun j => gt c (j : Int)
def Changed (l : List S_api_Denom) (most : List Int) (amount : Int) (r : List Int × Bool) : Prop :=
 (r = ([], false) ∧ ∀ c, Ok (Vl l) (Cn most) c l.length → sumV c (Vl l) l.length ≠ amount) ∨ (r.2 = true ∧ r.1.length = l.length ∧ Best (Vl l) (Cn most) l.length amount (Cn r.1))
def Rows (l : List S_api_Denom) (most : List Int) (amount : Int) (p : Int × List (List S_denom_way)) : Prop :=
 0 ≤ p.1 ∧ p.1 ≤ l.length ∧ p.2.length = l.length + 1 ∧ ∀ k : Nat, (k : Int) ≤ p.1 → (gt p.2 (k : Int)).length = (amount + 1).toNat ∧ ∀ a, 0 ≤ a → a ≤ amount → Right (Vl l) (Cn most) k a (gt (gt p.2 (k : Int)) a)
def Row (l : List S_api_Denom) (most : List Int) (amount : Int) (k : Nat) (p : Int × List S_denom_way) : Prop :=
 0 ≤ p.1 ∧ p.1 ≤ amount + 1 ∧ p.2.length = (amount + 1).toNat ∧ (∀ a, 0 ≤ a → a < p.1 → Right (Vl l) (Cn most) (k + 1) a (gt p.2 a)) ∧ ∀ a, p.1 ≤ a → a ≤ amount → (gt p.2 a).ok = false
def Cell (l : List S_api_Denom) (most : List Int) (amount : Int) (k : Nat) (a : Int) (p : Int × List S_denom_way) : Prop :=
 0 ≤ p.1 ∧ p.1 ≤ gt most (k : Int) + 1 ∧ p.2.length = (amount + 1).toNat ∧ (∀ b, 0 ≤ b → b < a → Right (Vl l) (Cn most) (k + 1) b (gt p.2 b)) ∧ (∀ b, a + 1 ≤ b → b ≤ amount → (gt p.2 b).ok = false) ∧ Part (Vl l) (Cn most) k a p.1 (gt p.2 a)
variable {l : List S_api_Denom} {most : List Int} {amount : Int} {k : Nat} {a : Int}
theorem Cell.put {n : Int} {row : List S_denom_way} {w : S_denom_way} (h : Cell l most amount k a (n, row)) (ha0 : 0 ≤ a) (ha1 : a ≤ amount) (hn : n ≤ gt most (k : Int)) (hw : Part (Vl l) (Cn most) k a (n + 1) w) : Cell l most amount k a (n + 1, st row a w) := by
 obtain ⟨h1, h2, h3, h4, h5, h6⟩ := h
 refine ⟨by show 0 ≤ n + 1; have : 0 ≤ n := h1; omega, by show n + 1 ≤ _; omega, by show (st row a w).length = _; rw [st_len]; exact h3, fun b g0 g1 => ?_, fun b g0 g1 => ?_, ?_⟩
 ·show Right _ _ _ _ (gt (st row a w) b)
  rw [gt_st, if_neg (by omega)]; exact h4 b g0 g1
 ·show (gt (st row a w) b).ok = false
  rw [gt_st, if_neg (by omega)]; exact h5 b g0 g1
 ·show Part _ _ _ _ (n + 1) (gt (st row a w) a)
  rw [gt_st, if_pos ⟨rfl, by have : row.length = _ := h3; omega⟩]; exact hw
theorem Cell.pass {n : Int} {row : List S_denom_way} (h : Cell l most amount k a (n, row)) (hn : n ≤ gt most (k : Int)) (hw : Part (Vl l) (Cn most) k a (n + 1) (gt row a)) : Cell l most amount k a (n + 1, row) := by
 obtain ⟨h1, h2, h3, h4, h5, h6⟩ := h
 exact ⟨by show 0 ≤ n + 1; have : 0 ≤ n := h1; omega, by show n + 1 ≤ _; omega, h3, h4, h5, hw⟩
theorem Cell.done {n : Int} {row : List S_denom_way} (h : Cell l most amount k a (n, row)) (ha0 : 0 ≤ a) (ha1 : a ≤ amount) (hn : ∀ c, Ok (Vl l) (Cn most) c (k + 1) → sumV c (Vl l) (k + 1) = a → c k < n) : Row l most amount k (a + 1, row) := by
 obtain ⟨h1, h2, h3, h4, h5, h6⟩ := h
 refine ⟨by show 0 ≤ a + 1; omega, by show a + 1 ≤ _; omega, h3, fun b g0 g1 => ?_, h5⟩
 by_cases e : b = a
 ·subst e; exact h6.right hn
 ·exact h4 b g0 (by have : b < a + 1 := g1; omega)
def Way (l : List S_api_Denom) (most : List Int) (amount : Int) (ways : List (List S_denom_way)) (p : Int × Int × List Int) : Prop :=
 -1 ≤ p.2.1 ∧ p.2.1 ≤ (l.length : Int) - 1 ∧ p.2.2.length = l.length ∧ 0 ≤ p.1 ∧ p.1 ≤ amount ∧ (gt (gt ways (p.2.1 + 1)) p.1).ok = true ∧
  ∀ c, Best (Vl l) (Cn most) (p.2.1 + 1).toNat p.1 c → sumC c (p.2.1 + 1).toNat = (gt (gt ways (p.2.1 + 1)) p.1).coins → Best (Vl l) (Cn most) l.length amount (fun j => if (j : Int) < p.2.1 + 1 then c j else gt p.2.2 (j : Int))
theorem change_spec (h0 : 0 ≤ amount) (hv : ∀ j, j < l.length → 0 ≤ Vl l j) (hm : ∀ j, j < l.length → 0 ≤ Cn most j) : Changed l most amount (denom_change l most amount) := by
 unfold denom_change
 refine iter_rule (P := Rows l most amount) (meas := fun p => ((l.length : Int) - p.1).toNat) (fun ag p hp hag => ?_) _ _ ?_ (by show ((l.length : Int) - 0).toNat < _; omega)
 ·obtain ⟨i, ways⟩ := p
  obtain ⟨hi0, hi1, hlen, hrows⟩ := id hp
  simp only at hi0 hi1 hlen hrows hag ⊢
  by_cases hi : i < (l.length : Int)
  ·rw [if_pos (decide_eq_true hi)]
   obtain ⟨k, rfl⟩ : ∃ k : Nat, i = k := ⟨i.toNat, by omega⟩
   have hk : k < l.length := by omega
   obtain ⟨hr1, hr2⟩ := hrows k (Int.le_refl _)
   refine iter_rule (P := Row l most amount k) (meas := fun p => (amount + 1 - p.1).toNat) (fun ag2 p2 hp2 hag2 => ?_) _ _ ?_ (by show (amount + 1 - 0).toNat < _; omega)
   ·obtain ⟨a, row⟩ := p2
    obtain ⟨ha0, ha1, hrl, hr, hz⟩ := id hp2
    simp only at ha0 ha1 hrl hr hz hag2 ⊢
    by_cases ha : a < amount + 1
    ·rw [if_pos (decide_eq_true ha)]
     have hvk := hv k hk
     refine iter_rule (P := Cell l most amount k a) (meas := fun p => (gt most (k : Int) + 1 - p.1).toNat) (fun ag3 p3 hp3 hag3 => ?_) _ _ ?_ (by show (gt most (k : Int) + 1 - 0).toNat < _; omega)
     ·obtain ⟨n, row'⟩ := p3
      obtain ⟨hn0, hn1, hrl', hr', hz', hpt⟩ := id hp3
      simp only at hn0 hn1 hrl' hr' hz' hpt hag3 ⊢
      have out : (∀ c, Ok (Vl l) (Cn most) c (k + 1) → sumV c (Vl l) (k + 1) = a → c k < n) → Changed l most amount (ag2 (a + 1, row')) := fun h =>
       hag2 (a + 1, row') (hp3.done ha0 (by omega) h) (by show (amount + 1 - (a + 1)).toNat < (amount + 1 - a).toNat; omega)
      by_cases h1 : n ≤ gt most (k : Int)
      ·rw [if_pos (decide_eq_true h1)]
       by_cases h2 : n * (gt l (k : Int)).Value ≤ a
       ·rw [if_pos (decide_eq_true h2)]
        have hb : Right (Vl l) (Cn most) k (a - n * Vl l k) (gt (gt ways (k : Int)) (a - n * (gt l (k : Int)).Value)) := hr2 _ (by have : n * Vl l k ≤ a := h2; show 0 ≤ a - n * Vl l k; omega) (by have := Int.mul_nonneg hn0 hvk; show a - n * Vl l k ≤ _; omega)
        have body : (Vl l k = 0 → n = 0) → Changed l most amount (if (!(gt (gt ways (k : Int)) (a - (n * (gt l (k : Int)).Value))).ok) then (ag3 ((n + 1), row')) else (if (!(gt row' a).ok) then (ag3 ((n + 1), (st row' a ({ ok := true, coins := ((gt (gt ways (k : Int)) (a - (n * (gt l (k : Int)).Value))).coins + n), last := n } : S_denom_way)))) else (if (decide (((gt (gt ways (k : Int)) (a - (n * (gt l (k : Int)).Value))).coins + n) ≤ (gt row' a).coins)) then (ag3 ((n + 1), (st row' a ({ ok := true, coins := ((gt (gt ways (k : Int)) (a - (n * (gt l (k : Int)).Value))).coins + n), last := n } : S_denom_way)))) else (ag3 ((n + 1), row'))))) := by
         intro hz0
         have hmeas : (gt most (k : Int) + 1 - (n + 1)).toNat < (gt most (k : Int) + 1 - n).toNat := by omega
         cases hok : (gt (gt ways (k : Int)) (a - (n * (gt l (k : Int)).Value))).ok
         ·simp only [Bool.not_false, if_true]
          exact hag3 (n + 1, row') (hp3.pass h1 (hpt.skip hb hok)) hmeas
         ·simp only [Bool.not_true, Bool.false_eq_true, if_false]
          have take : ((gt row' a).ok = false ∨ (gt (gt ways (k : Int)) (a - (n * (gt l (k : Int)).Value))).coins + n ≤ (gt row' a).coins) → Changed l most amount (ag3 (n + 1, st row' a ⟨true, (gt (gt ways (k : Int)) (a - (n * (gt l (k : Int)).Value))).coins + n, n⟩)) := fun hc =>
           hag3 (n + 1, _) (hp3.put ha0 (by omega) h1 (hpt.take hb hok hc hn0 h1 hz0)) hmeas
          cases hok2 : (gt row' a).ok
          ·simp only [Bool.not_false, if_true]
           exact take (.inl hok2)
          ·simp only [Bool.not_true, Bool.false_eq_true, if_false]
           by_cases hc : (gt (gt ways (k : Int)) (a - (n * (gt l (k : Int)).Value))).coins + n ≤ (gt row' a).coins
           ·rw [if_pos (decide_eq_true hc)]; exact take (.inr hc)
           ·rw [if_neg (by simpa using hc)]
            exact hag3 (n + 1, row') (hp3.pass h1 (hpt.keep hb hok2 hok hc)) hmeas
        by_cases h3 : n = 0
        ·rw [if_pos (by simp [h3])]
         exact body fun _ => h3
        ·rw [if_neg (by simpa using h3)]
         by_cases h4 : (gt l (k : Int)).Value > 0
         ·rw [if_pos (decide_eq_true h4)]
          exact body fun h => by have : Vl l k > 0 := h4; omega
         ·rw [if_neg (by simpa using h4)]
          refine out fun c hc hs => ?_
          have := (hc k (by omega)).2.2 (by have : ¬ Vl l k > 0 := h4; omega)
          omega
       ·rw [if_neg (by simpa using h2)]
        refine out fun c hc hs => Int.not_le.1 fun hle => h2 ?_
        have g1 := sumV_nn (fun j hj => hv j (by omega)) hc.less
        have g2 := Int.mul_le_mul_of_nonneg_right hle hvk
        rw [sumV] at hs
        show n * Vl l k ≤ a
        omega
      ·rw [if_neg (by simpa using h1)]
       refine out fun c hc hs => ?_
       have : c k ≤ gt most (k : Int) := (hc k (by omega)).2.1
       omega
     ·refine ⟨Int.le_refl _, ?_, hrl, hr, fun b g0 g1 => hz b (by omega) g1, Part.zero (hz a (Int.le_refl _) (by omega))⟩
      have : 0 ≤ gt most (k : Int) := hm k hk
      show 0 ≤ gt most (k : Int) + 1
      omega
    ·rw [if_neg (by simpa using ha)]
     refine hag _ ⟨by show 0 ≤ (k : Int) + 1; omega, by show (k : Int) + 1 ≤ _; omega, by show (st ways ((k : Int) + 1) row).length = _; rw [st_len]; exact hlen, fun k' hk' => ?_⟩ (by show ((l.length : Int) - (k + 1)).toNat < ((l.length : Int) - k).toNat; omega)
     show (gt (st ways ((k : Int) + 1) row) (k' : Int)).length = _ ∧ _
     by_cases e : k' = k + 1
     ·subst e
      have : gt (st ways ((k : Int) + 1) row) ((k + 1 : Nat) : Int) = row := by rw [gt_st, if_pos ⟨by omega, by omega⟩]
      rw [this]
      exact ⟨hrl, fun b g0 g1 => hr b g0 (by omega)⟩
     ·have hk'' : (k' : Int) ≤ k + 1 := hk'
      have : gt (st ways ((k : Int) + 1) row) (k' : Int) = gt ways (k' : Int) := by rw [gt_st, if_neg (by omega)]
      show (gt (st ways ((k : Int) + 1) row) (k' : Int)).length = _ ∧ ∀ a, 0 ≤ a → a ≤ amount → Right _ _ _ _ (gt (gt (st ways ((k : Int) + 1) row) (k' : Int)) a)
      rw [this]
      exact hrows k' (by omega)
   ·refine ⟨Int.le_refl _, by show 0 ≤ amount + 1; omega, by show (rep _ _).length = _; rw [rep_len], fun b g0 g1 => by have : b < 0 := g1; omega, fun b g0 g1 => ?_⟩
    show (gt (rep _ z_denom_way) b).ok = false
    rw [gt_repl]; split <;> rfl
  ·rw [if_neg (by simpa using hi)]
   obtain rfl : i = (l.length : Int) := by omega
   obtain ⟨hr1, hr2⟩ := hrows l.length (Int.le_refl _)
   have hR := hr2 amount h0 (Int.le_refl _)
   cases hok : (gt (gt ways (l.length : Int)) amount).ok
   ·simp only [Bool.not_false, if_true]
    refine .inl ⟨rfl, fun c hc hs => ?_⟩
    have := (hR.best c hc hs).1
    rw [hok] at this; cases this
   ·simp only [Bool.not_true, Bool.false_eq_true, if_false]
    refine iter_rule (P := Way l most amount ways) (meas := fun p => (p.2.1 + 1).toNat) (fun ag2 p2 hp2 hag2 => ?_) _ _ ?_ (by show ((l.length : Int) - 1 + 1).toNat < _; omega)
    ·obtain ⟨am, i, out⟩ := p2
     obtain ⟨g1, g2, g3, g4, g5, g6, g7⟩ := hp2
     simp only at g1 g2 g3 g4 g5 g6 g7 hag2 ⊢
     by_cases hi0 : i ≥ 0
     ·rw [if_pos (decide_eq_true hi0)]
      obtain ⟨j, rfl⟩ : ∃ j : Nat, i = j := ⟨i.toNat, by omega⟩
      have hj : j < l.length := by omega
      have ej : ((j : Int) + 1).toNat = j + 1 := by omega
      rw [ej] at g7
      have hRj : Right (Vl l) (Cn most) (j + 1) am (gt (gt ways ((j : Int) + 1)) am) := by
       have := (hrows (j + 1) (by omega)).2 am g4 g5
       rwa [show ((j + 1 : Nat) : Int) = (j : Int) + 1 by omega] at this
      have hlast : gt (st out (j : Int) (gt (gt ways ((j : Int) + 1)) am).last) (j : Int) = (gt (gt ways ((j : Int) + 1)) am).last := by rw [gt_st, if_pos ⟨rfl, by omega⟩]
      rw [hlast]
      generalize hw : gt (gt ways ((j : Int) + 1)) am = w at *
      obtain ⟨c, f1, f2, f3, f4⟩ := hRj.sound g6
      have f4 := f4 j rfl
      have f5 := sumV_nn (fun i hi => hv i (by omega)) f1.less
      have f6 := Int.mul_nonneg (f1 j (by omega)).1 (hv j hj)
      rw [sumV, f4] at f2
      rw [f4] at f6
      have hRj' : Right (Vl l) (Cn most) j (am - w.last * Vl l j) (gt (gt ways (j : Int)) (am - w.last * Vl l j)) := (hrows j (by omega)).2 _ (by omega) (by omega)
      obtain ⟨d1, d2, d3⟩ := hRj.down g6 hRj'
      have ej' : ((j : Int) - 1 + 1) = j := by omega
      refine hag2 _ ⟨by show -1 ≤ (j : Int) - 1; omega, by show (j : Int) - 1 ≤ _; omega, by show (st out (j : Int) w.last).length = _; rw [st_len]; exact g3, by show 0 ≤ am - w.last * Vl l j; omega, by show am - w.last * Vl l j ≤ amount; omega, ?_, ?_⟩ (by show ((j : Int) - 1 + 1).toNat < ((j : Int) + 1).toNat; omega)
      ·show (gt (gt ways ((j : Int) - 1 + 1)) (am - w.last * Vl l j)).ok = true
       rw [ej']; exact d1
      ·show ∀ c, Best _ _ ((j : Int) - 1 + 1).toNat (am - w.last * Vl l j) c → sumC c ((j : Int) - 1 + 1).toNat = (gt (gt ways ((j : Int) - 1 + 1)) (am - w.last * Vl l j)).coins → Best _ _ _ _ (fun i => if (i : Int) < (j : Int) - 1 + 1 then c i else gt (st out (j : Int) w.last) (i : Int))
       rw [ej', Int.toNat_natCast]
       intro c hb hc
       obtain ⟨b1, b2⟩ := Best.step hRj g6 hRj' hb hc
       refine (g7 _ b1 b2).congr fun i hi => ?_
       show (if (i : Int) < (j : Int) + 1 then put c j w.last i else gt out (i : Int)) = _
       by_cases e : i = j
       ·subst e
        rw [if_pos (by omega), put_at]
        show _ = if (i : Int) < (i : Int) then c i else gt (st out (i : Int) w.last) (i : Int)
        rw [if_neg (by omega), hlast]
       ·show _ = if (i : Int) < (j : Int) then c i else gt (st out (j : Int) w.last) (i : Int)
        by_cases e2 : i < j
        ·rw [if_pos (by omega), if_pos (by omega), ← put_lt i e2]
        ·rw [if_neg (by omega), if_neg (by omega), gt_st, if_neg (by omega)]
     ·rw [if_neg (by simpa using hi0)]
      have ei : i = -1 := by omega
      subst ei
      obtain ⟨c, f1, f2, f3, _⟩ := ((hrows 0 (by omega)).2 am g4 g5).sound g6
      rw [sumV] at f2
      subst f2
      refine .inr ⟨rfl, g3, (g7 c Best.zero f3).congr fun i hi => ?_⟩
      show (if (i : Int) < -1 + 1 then c i else gt out (i : Int)) = gt out (i : Int)
      rw [if_neg (by omega)]
    ·refine ⟨by show -1 ≤ (l.length : Int) - 1; omega, Int.le_refl _, by show (rep _ _).length = _; rw [rep_len], h0, Int.le_refl _, ?_, ?_⟩
     ·show (gt (gt ways ((l.length : Int) - 1 + 1)) amount).ok = true
      rw [Int.sub_add_cancel]; exact hok
     ·show ∀ c, Best _ _ ((l.length : Int) - 1 + 1).toNat amount c → _ → Best _ _ _ _ (fun j => if (j : Int) < (l.length : Int) - 1 + 1 then c j else gt (rep l.length (0 : Int)) (j : Int))
      rw [Int.sub_add_cancel, Int.toNat_natCast]
      intro c hc _
      exact hc.congr fun i hi => by rw [if_pos (by omega)]
 ·refine ⟨Int.le_refl _, by show (0 : Int) ≤ _; omega, by show (st (rep _ _) _ _).length = _; rw [st_len, rep_len]; omega, fun k hk => ?_⟩
  have hk : (k : Int) ≤ 0 := hk
  obtain rfl : k = 0 := by omega
  show (gt (st (rep ((l.length : Int) + 1).toNat ([] : List S_denom_way)) 0 _) ((0 : Nat) : Int)).length = _ ∧ ∀ a, 0 ≤ a → a ≤ amount → Right _ _ _ _ (gt (gt (st (rep ((l.length : Int) + 1).toNat ([] : List S_denom_way)) 0 _) ((0 : Nat) : Int)) a)
  rw [gt_st, if_pos ⟨rfl, by rw [rep_len]; omega⟩]
  refine ⟨by rw [st_len, rep_len], fun a g0 g1 => ?_⟩
  rw [gt_st]
  by_cases e : a = 0
  ·subst e
   rw [if_pos ⟨rfl, by rw [rep_len]; omega⟩]
   exact Right.start rfl (by show (gt (rep _ z_denom_way) 0).coins = 0; rw [gt_rep0]; rfl)
  ·rw [if_neg (by omega), gt_repl]
   split <;> exact Right.start (by rw [decide_eq_false e]; rfl) rfl
end Go.Proofs.Yteolfhljhnplpaa
namespace Go.Proofs.Yteolfhljhnplpaa
open Go.RowKit
theorem repeat_all : ((List.range 17).all fun n => slices_Repeat_int_int [1000] (n : Int) == List.replicate n 1000) = true := by kernel_rfl
theorem repeat_eq {n : Nat} (h : n ≤ 16) : slices_Repeat_int_int [1000] (n : Int) = List.replicate n 1000 := by
 have := List.all_eq_true.1 repeat_all n (List.mem_range.2 (by omega))
 simpa using this
theorem gt_repli {n : Nat} {i : Int} (h : i.toNat < n) : gt (List.replicate n (1000 : Int)) i = 1000 := by
 have : gt (rep n (1000 : Int)) i = 1000 := by rw [gt_repl, if_pos h]
 exact this
def full (l : List S_api_Denom) : List Int := List.replicate l.length 1000
theorem full_counted {l : List S_api_Denom} : denom_counted l (full l) = true := by
 refine counted_iff.2 ⟨by simp [full], fun j h0 h1 => ?_⟩
 have : gt (full l) j = 1000 := gt_repli (by simp [full] at h1; omega)
 rw [this]; decide
theorem Fewest_eq {l : List S_api_Denom} {am : Int} (hv : denom_Valid l = true) : denom_Fewest l am = denom_Pay l (full l) am := by
 unfold denom_Fewest
 simp only [letk, hv, Bool.not_true, Bool.false_eq_true, if_false]
 rw [repeat_eq (Valid_len hv).2]
 rfl
theorem Pay_eq {l : List S_api_Denom} {h : List Int} {am : Int} (hv : denom_Valid l = true) (hc : denom_counted l h = true) (h0 : 0 ≤ am) (h1 : am ≤ 1000) :
  denom_Pay l h am = if !(denom_change l h am).2 then ([], 7) else ((denom_change l h am).1, 0) := by
 unfold denom_Pay
 have e1 : ¬ am < 0 := by omega
 have e2 : ¬ am > 1000 := by omega
 simp only [letk, hv, hc, e1, e2, Bool.not_true, Bool.false_eq_true, if_false, decide_false]
theorem Vl_nn {l : List S_api_Denom} (hv : denom_Valid l = true) : ∀ j, j < l.length → 0 ≤ Vl l j ∧ Vl l j ≤ 1099511627776 := fun j hj => Valid_val hv j (by omega) (by omega)
theorem Cn_nn {l : List S_api_Denom} {h : List Int} (hc : denom_counted l h = true) : ∀ j, j < l.length → 0 ≤ Cn h j ∧ Cn h j ≤ 1000 := fun j hj => counted_val hc j (by omega) (by rw [counted_len hc]; omega)
theorem Pay_spec {l : List S_api_Denom} {h : List Int} {am : Int} (hv : denom_Valid l = true) (hc : denom_counted l h = true) (h0 : 0 ≤ am) (h1 : am ≤ 1000) :
  (denom_Pay l h am = ([], 7) ∧ ∀ c, Ok (Vl l) (Cn h) c l.length → sumV c (Vl l) l.length ≠ am) ∨ ∃ c, denom_Pay l h am = (c, 0) ∧ c.length = l.length ∧ Best (Vl l) (Cn h) l.length am (Cn c) := by
 rw [Pay_eq hv hc h0 h1]
 rcases change_spec (l := l) (most := h) h0 (fun j hj => (Vl_nn hv j hj).1) (fun j hj => (Cn_nn hc j hj).1) with ⟨e, h2⟩ | ⟨e, h2, h3⟩
 ·exact .inl ⟨by rw [e]; rfl, h2⟩
 ·exact .inr ⟨_, by rw [e]; rfl, h2, h3⟩
end Go.Proofs.Yteolfhljhnplpaa
namespace Go.Proofs.Yteolfhljhnplpaa
open Go.RowKit
theorem lexGe_refl {c : Nat → Int} : ∀ k, lexGe c c k
 | 0 => trivial
 | k + 1 => .inr ⟨rfl, lexGe_refl k⟩
theorem lexGe_trans {a b c : Nat → Int} : ∀ {k : Nat}, lexGe a b k → lexGe b c k → lexGe a c k
 | 0, _, _ => trivial
 | k + 1, h, g => by
  rw [lexGe] at h g ⊢
  rcases h with h | ⟨h1, h2⟩
  ·rcases g with g | ⟨g1, _⟩
   ·exact .inl (by omega)
   ·exact .inl (by omega)
  ·rcases g with g | ⟨g1, g2⟩
   ·exact .inl (by omega)
   ·exact .inr ⟨by omega, lexGe_trans h2 g2⟩
theorem lexGe_eq {a b : Nat → Int} {k : Nat} (h : ∀ j, j < k → a j = b j) : lexGe a b k := lexGe_congr (fun j hj => (h j hj).symm) (lexGe_refl k)
theorem lexGe_at {a b : Nat → Int} {p : Nat} : ∀ {k : Nat}, (∀ j, p < j → j < k → a j = b j) → b p < a p → p < k → lexGe a b k
 | 0, _, _, h => absurd h (Nat.not_lt_zero _)
 | k + 1, h, g, hp => by
  rw [lexGe]
  by_cases e : p = k
  ·subst e; exact .inl g
  ·exact .inr ⟨(h k (by omega) (by omega)).symm, lexGe_at (fun j h1 h2 => h j h1 (by omega)) g (by omega)⟩
theorem lexGe_trim {a b : Nat → Int} {k : Nat} : ∀ d : Nat, (∀ j, k ≤ j → j < k + d → a j = b j) → lexGe a b (k + d) → lexGe a b k
 | 0, _, h => h
 | d + 1, h, g => by
  have g' : lexGe a b ((k + d) + 1) := g
  rw [lexGe] at g'
  have e := h (k + d) (by omega) (by omega)
  refine lexGe_trim d (fun j h1 h2 => h j h1 (by omega)) ?_
  rcases g' with g' | ⟨_, g'⟩
  ·omega
  ·exact g'
theorem sumC_trim {c : Nat → Int} {k : Nat} : ∀ d : Nat, (∀ j, k ≤ j → j < k + d → c j = 0) → sumC c (k + d) = sumC c k
 | 0, _ => rfl
 | d + 1, h => by
  have e : sumC c (k + d + 1) = sumC c (k + d) + c (k + d) := rfl
  show sumC c (k + d + 1) = _
  rw [e, sumC_trim d (fun j h1 h2 => h j h1 (by omega)), h (k + d) (by omega) (by omega)]
  omega
def Pre (a b : Nat → Int) (k : Nat) : Prop := sumC a k < sumC b k ∨ (sumC a k = sumC b k ∧ lexGe a b k)
theorem Pre.trans {a b c : Nat → Int} {k : Nat} (h : Pre a b k) (g : Pre b c k) : Pre a c k := by
 rcases h with h | ⟨h1, h2⟩
 ·rcases g with g | ⟨g1, _⟩
  ·exact .inl (by omega)
  ·exact .inl (by omega)
 ·rcases g with g | ⟨g1, g2⟩
  ·exact .inl (by omega)
  ·exact .inr ⟨by omega, lexGe_trans h2 g2⟩
theorem Pre.trim {a b : Nat → Int} {k L : Nat} (hk : k ≤ L) (ha : ∀ j, k ≤ j → j < L → a j = 0) (hb : ∀ j, k ≤ j → j < L → b j = 0) (h : Pre a b L) : Pre a b k := by
 obtain ⟨d, rfl⟩ : ∃ d, L = k + d := ⟨L - k, by omega⟩
 have h1 := sumC_trim d ha
 have h2 := sumC_trim d hb
 unfold Pre at h ⊢
 rw [h1, h2] at h
 exact h.imp id fun ⟨g1, g2⟩ => ⟨g1, lexGe_trim d (fun j x y => by rw [ha j x y, hb j x y]) g2⟩
theorem Pre.congr {a a' b : Nat → Int} {k : Nat} (h : ∀ j, j < k → a j = a' j) (g : Pre a b k) : Pre a' b k := by
 unfold Pre at g ⊢
 rw [← sumC_congr h]
 exact g.imp id fun ⟨g1, g2⟩ => ⟨g1, lexGe_congr h g2⟩
def Sm (c : List Int) (L : Nat) : Prop := c.length = L ∧ ∀ j, j < L → 0 ≤ Cn c j ∧ Cn c j ≤ 1000
theorem coins_eq {c : List Int} {L : Nat} (h : Sm c L) (hL : L ≤ 16) : specieref28_coins c = sumC (Cn c) L := by
 obtain ⟨h1, h2⟩ := h
 subst h1
 unfold specieref28_coins
 refine iter_rule (P := fun p : Int × Int => ∃ k : Nat, p.2 = k ∧ k ≤ c.length ∧ p.1 = sumC (Cn c) k ∧ 0 ≤ sumC (Cn c) k ∧ sumC (Cn c) k ≤ 1000 * k) (Q := fun r => r = sumC (Cn c) c.length) (meas := fun p => ((c.length : Int) - p.2).toNat) ?_ _ _ ⟨0, rfl, Nat.zero_le _, rfl, Int.le_refl _, Int.le_refl _⟩ (by show ((c.length : Int) - 0).toNat < _; omega)
 rintro ag ⟨s, i⟩ ⟨k, e1, e2, e3, e4, e5⟩ ih
 simp only at e1 e3 ih ⊢
 subst e1
 by_cases hi : k < c.length
 ·rw [if_pos (show decide ((k : Int) < (c.length : Int)) = true by simp only [decide_eq_true_eq]; omega)]
  obtain ⟨g1, g2⟩ := h2 k hi
  have e : addI .i64 s (gt c (k : Int)) = sumC (Cn c) (k + 1) := by
   rw [sumC, e3]
   show addI .i64 _ (Cn c k) = _
   exact add_ok (by omega) (by omega)
  refine ih _ ⟨k + 1, by push_cast; rfl, hi, e, ?_, ?_⟩ (by show ((c.length : Int) - ((k : Int) + 1)).toNat < ((c.length : Int) - (k : Int)).toNat; omega)
  ·rw [sumC]; omega
  ·rw [sumC]; push_cast; omega
 ·rw [if_neg (show ¬ decide ((k : Int) < (c.length : Int)) = true by simp only [decide_eq_true_eq]; omega)]
  have ek : k = c.length := by omega
  rw [e3, ek]
theorem Better_spec {a b : List Int} {L : Nat} (ha : Sm a L) (hb : Sm b L) (hL : L ≤ 16) :
  (specieref28_Better a b = true → Pre (Cn a) (Cn b) L) ∧ (specieref28_Better a b = false → Pre (Cn b) (Cn a) L) := by
 unfold specieref28_Better
 simp only [letk, coins_eq ha hL, coins_eq hb hL]
 by_cases hc : sumC (Cn a) L = sumC (Cn b) L
 ·rw [if_neg (by simpa using hc)]
  have key : ∀ r : Bool, ((r = true → lexGe (Cn a) (Cn b) L) ∧ (r = false → lexGe (Cn b) (Cn a) L)) → (r = true → Pre (Cn a) (Cn b) L) ∧ (r = false → Pre (Cn b) (Cn a) L) := fun r h => ⟨fun g => .inr ⟨hc, h.1 g⟩, fun g => .inr ⟨hc.symm, h.2 g⟩⟩
  refine key _ ?_
  have hla := ha.1
  refine iter_rule (P := fun p : Int => -1 ≤ p ∧ p ≤ (L : Int) - 1 ∧ ∀ j : Nat, p < (j : Int) → j < L → Cn a j = Cn b j) (Q := fun r : Bool => (r = true → lexGe (Cn a) (Cn b) L) ∧ (r = false → lexGe (Cn b) (Cn a) L)) (meas := fun p => (p + 1).toNat) ?_ _ _ ⟨by omega, by omega, fun j h1 h2 => by omega⟩ (by show ((a.length : Int) - 1 + 1).toNat < _; omega)
  rintro ag p ⟨h1, h2, h3⟩ ih
  by_cases hp : p ≥ 0
  ·rw [if_pos (by simpa using hp)]
   obtain ⟨k, rfl⟩ : ∃ k : Nat, p = k := ⟨p.toNat, by omega⟩
   by_cases hab : gt a (k : Int) = gt b (k : Int)
   ·rw [if_neg (by simpa using hab)]
    refine ih _ ⟨by omega, by omega, fun j g1 g2 => ?_⟩ (by show ((k : Int) - 1 + 1).toNat < ((k : Int) + 1).toNat; omega)
    by_cases e : j = k
    ·subst e; exact hab
    ·exact h3 j (by omega) g2
   ·rw [if_pos (by simpa using hab)]
    refine ⟨fun g => ?_, fun g => ?_⟩
    ·have g' : gt a (k : Int) > gt b (k : Int) := by simpa using g
     exact lexGe_at (fun j x y => h3 j (by omega) y) g' (by omega)
    ·have g' : ¬ gt a (k : Int) > gt b (k : Int) := by simpa using g
     have g2 : gt a (k : Int) < gt b (k : Int) := by omega
     exact lexGe_at (fun j x y => (h3 j (by omega) y).symm) g2 (by omega)
  ·rw [if_neg (by simpa using hp)]
   exact ⟨fun g => (by cases g), fun _ => lexGe_eq fun j hj => (h3 j (by omega) hj).symm⟩
 ·rw [if_pos (by simpa using hc)]
  refine ⟨fun g => .inl (by simpa using g), fun g => .inl ?_⟩
  have : ¬ sumC (Cn a) L < sumC (Cn b) L := by simpa using g
  omega
def RR (v m : Nat → Int) (L k : Nat) (a : Int) (row : List Int) : Prop :=
 (row.length = 0 ∧ ∀ c, Ok v m c k → sumV c v k ≠ a) ∨ (row.length = L ∧ Best v m k a (Cn row) ∧ ∀ j, k ≤ j → j < L → Cn row j = 0)
def RP (v m : Nat → Int) (L k : Nat) (a n : Int) (row : List Int) : Prop :=
 (row.length = 0 ∧ ∀ c, Ok v m c (k + 1) → sumV c v (k + 1) = a → n ≤ c k) ∨
 (row.length = L ∧ Ok v m (Cn row) (k + 1) ∧ sumV (Cn row) v (k + 1) = a ∧ (∀ j, k + 1 ≤ j → j < L → Cn row j = 0) ∧ ∀ c', Ok v m c' (k + 1) → sumV c' v (k + 1) = a → c' k < n → Pre (Cn row) c' (k + 1))
variable {v m : Nat → Int} {L k : Nat} {a n : Int} {row old : List Int}
theorem RP.zero (h : row.length = 0) : RP v m L k a 0 row := .inl ⟨h, fun c hc _ => (hc k (by omega)).1⟩
theorem RP.right (h : RP v m L k a n row) (hn : ∀ c, Ok v m c (k + 1) → sumV c v (k + 1) = a → c k < n) : RR v m L (k + 1) a row := by
 rcases h with ⟨h1, h2⟩ | ⟨h1, h2, h3, h4, h5⟩
 ·refine .inl ⟨h1, fun c hc hs => ?_⟩
  have g1 := h2 c hc hs
  have g2 := hn c hc hs
  omega
 ·exact .inr ⟨h1, ⟨h2, h3, fun c' g1 g2 => h5 c' g1 g2 (hn c' g1 g2)⟩, h4⟩
theorem sum_less {c : Nat → Int} (hs : sumV c v (k + 1) = a) (e : c k = n) : sumV c v k = a - n * v k := by rw [sumV, e] at hs; omega
theorem RP.skip (h : RP v m L k a n row) (hb : RR v m L k (a - n * v k) old) (ho : old.length = 0) (hL : 0 < L) : RP v m L k a (n + 1) row := by
 have hno : ∀ c, Ok v m c (k + 1) → sumV c v (k + 1) = a → c k ≠ n := fun c hc hs e => by
  rcases hb with ⟨_, g⟩ | ⟨g, _⟩
  ·exact g c hc.less (sum_less hs e)
  ·omega
 rcases h with ⟨h1, h2⟩ | ⟨h1, h2, h3, h4, h5⟩
 ·refine .inl ⟨h1, fun c hc hs => ?_⟩
  have g1 := h2 c hc hs
  have g2 := hno c hc hs
  omega
 ·refine .inr ⟨h1, h2, h3, h4, fun c' g1 g2 g3 => h5 c' g1 g2 ?_⟩
  have := hno c' g1 g2
  omega
theorem cn_put (hk : k < old.length) (j : Nat) : Cn (st old (k : Int) n) j = put (Cn old) k n j := by
 show gt (st old (k : Int) n) (j : Int) = _
 rw [gt_st]
 unfold put
 by_cases e : j = k
 ·subst e
  rw [if_pos ⟨rfl, by omega⟩, if_pos rfl]
 ·rw [if_neg (by omega), if_neg e]; rfl
theorem put_ne {c : Nat → Int} {x : Int} {j : Nat} (h : j ≠ k) : put c k x j = c j := by unfold put; rw [if_neg h]
theorem cand_pre {c' : Nat → Int} (hb : Best v m k (a - n * v k) (Cn old)) (hc : Ok v m c' (k + 1)) (hs : sumV c' v (k + 1) = a) (e : c' k = n) : Pre (put (Cn old) k n) c' (k + 1) := by
 have h1 := hb.best c' hc.less (sum_less hs e)
 have e1 : sumC (put (Cn old) k n) (k + 1) = sumC (Cn old) k + n := by rw [sumC, ← sumC_congr put_lt, put_at]
 have e2 : sumC c' (k + 1) = sumC c' k + n := by rw [sumC, e]
 unfold Pre
 rw [e1, e2]
 rcases h1 with h1 | ⟨h1, h2⟩
 ·exact .inl (by omega)
 ·refine .inr ⟨by omega, ?_⟩
  rw [lexGe, put_at]
  exact .inr ⟨e, lexGe_congr put_lt h2⟩
theorem cand_ok (hb : Best v m k (a - n * v k) (Cn old)) (h0 : 0 ≤ n) (h1 : n ≤ m k) (h2 : v k = 0 → n = 0) : Ok v m (put (Cn old) k n) (k + 1) ∧ sumV (put (Cn old) k n) v (k + 1) = a := by
 refine ⟨fun j hj => ?_, ?_⟩
 ·by_cases e : j = k
  ·subst e; rw [put_at]; exact ⟨h0, h1, h2⟩
  ·rw [put_ne e]; exact hb.ok j (by omega)
 ·rw [sumV, ← sumV_congr put_lt, put_at, hb.sum]; omega
theorem RP.cand (hkL : k < L) (ho : old.length = L) (hb : Best v m k (a - n * v k) (Cn old)) (hz : ∀ j, k ≤ j → j < L → Cn old j = 0) (h0 : 0 ≤ n) (h1 : n ≤ m k) (h2 : v k = 0 → n = 0)
  (hp : ∀ c', Ok v m c' (k + 1) → sumV c' v (k + 1) = a → c' k < n → Pre (put (Cn old) k n) c' (k + 1)) : RP v m L k a (n + 1) (st old (k : Int) n) := by
 have hput : ∀ j, put (Cn old) k n j = Cn (st old (k : Int) n) j := fun j => (cn_put (by omega) j).symm
 obtain ⟨g1, g2⟩ := cand_ok hb h0 h1 h2
 refine .inr ⟨by rw [st_len]; exact ho, g1.congr (fun j _ => hput j), by rw [← sumV_congr (fun j _ => hput j)]; exact g2, fun j x y => by rw [← hput, put_ne (by omega)]; exact hz j (by omega) y, fun c' hc hs hlt => ?_⟩
 refine Pre.congr (fun j _ => hput j) ?_
 by_cases e : c' k = n
 ·exact cand_pre hb hc hs e
 ·exact hp c' hc hs (by omega)
theorem RP.keep (h : RP v m L k a n row) (hr : row.length = L) (hL : 0 < L) (hp : ∀ c', Ok v m c' (k + 1) → sumV c' v (k + 1) = a → c' k = n → Pre (Cn row) c' (k + 1)) : RP v m L k a (n + 1) row := by
 rcases h with ⟨h1, _⟩ | ⟨h1, h2, h3, h4, h5⟩
 ·omega
 ·refine .inr ⟨h1, h2, h3, h4, fun c' g1 g2 g3 => ?_⟩
  by_cases e : c' k = n
  ·exact hp c' g1 g2 e
  ·exact h5 c' g1 g2 (by omega)
end Go.Proofs.Yteolfhljhnplpaa
namespace Go.Proofs.Yteolfhljhnplpaa
open Go.RowKit
variable {l : List S_api_Denom} {most : List Int} {amount : Int} {k : Nat} {a : Int}
def RRows (l : List S_api_Denom) (most : List Int) (amount : Int) (p : Int × List (List Int)) : Prop :=
 0 ≤ p.1 ∧ p.1 ≤ l.length ∧ p.2.length = (amount + 1).toNat ∧ ∀ a, 0 ≤ a → a ≤ amount → RR (Vl l) (Cn most) l.length p.1.toNat a (gt p.2 a)
def RRow (l : List S_api_Denom) (most : List Int) (amount : Int) (k : Nat) (p : Int × List (List Int)) : Prop :=
 0 ≤ p.1 ∧ p.1 ≤ amount + 1 ∧ p.2.length = (amount + 1).toNat ∧ (∀ a, 0 ≤ a → a < p.1 → RR (Vl l) (Cn most) l.length (k + 1) a (gt p.2 a)) ∧ ∀ a, p.1 ≤ a → a ≤ amount → (gt p.2 a).length = 0
def RCell (l : List S_api_Denom) (most : List Int) (amount : Int) (k : Nat) (a : Int) (p : Int × List (List Int)) : Prop :=
 0 ≤ p.1 ∧ p.1 ≤ gt most (k : Int) + 1 ∧ p.2.length = (amount + 1).toNat ∧ (∀ b, 0 ≤ b → b < a → RR (Vl l) (Cn most) l.length (k + 1) b (gt p.2 b)) ∧ (∀ b, a + 1 ≤ b → b ≤ amount → (gt p.2 b).length = 0) ∧ RP (Vl l) (Cn most) l.length k a p.1 (gt p.2 a)
theorem RCell.put {n : Int} {tab : List (List Int)} {w : List Int} (h : RCell l most amount k a (n, tab)) (ha0 : 0 ≤ a) (ha1 : a ≤ amount) (hn : n ≤ gt most (k : Int)) (hw : RP (Vl l) (Cn most) l.length k a (n + 1) w) : RCell l most amount k a (n + 1, st tab a w) := by
 obtain ⟨h1, h2, h3, h4, h5, h6⟩ := h
 refine ⟨by show 0 ≤ n + 1; have : 0 ≤ n := h1; omega, by show n + 1 ≤ _; omega, by show (st tab a w).length = _; rw [st_len]; exact h3, fun b g0 g1 => ?_, fun b g0 g1 => ?_, ?_⟩
 ·show RR _ _ _ _ _ (gt (st tab a w) b)
  rw [gt_st, if_neg (by omega)]; exact h4 b g0 g1
 ·show (gt (st tab a w) b).length = 0
  rw [gt_st, if_neg (by omega)]; exact h5 b g0 g1
 ·show RP _ _ _ _ _ (n + 1) (gt (st tab a w) a)
  rw [gt_st, if_pos ⟨rfl, by have : tab.length = _ := h3; omega⟩]; exact hw
theorem RCell.pass {n : Int} {tab : List (List Int)} (h : RCell l most amount k a (n, tab)) (hn : n ≤ gt most (k : Int)) (hw : RP (Vl l) (Cn most) l.length k a (n + 1) (gt tab a)) : RCell l most amount k a (n + 1, tab) := by
 obtain ⟨h1, h2, h3, h4, h5, h6⟩ := h
 exact ⟨by show 0 ≤ n + 1; have : 0 ≤ n := h1; omega, by show n + 1 ≤ _; omega, h3, h4, h5, hw⟩
theorem RCell.done {n : Int} {tab : List (List Int)} (h : RCell l most amount k a (n, tab)) (ha0 : 0 ≤ a) (ha1 : a ≤ amount) (hn : ∀ c, Ok (Vl l) (Cn most) c (k + 1) → sumV c (Vl l) (k + 1) = a → c k < n) : RRow l most amount k (a + 1, tab) := by
 obtain ⟨h1, h2, h3, h4, h5, h6⟩ := h
 refine ⟨by show 0 ≤ a + 1; omega, by show a + 1 ≤ _; omega, h3, fun b g0 g1 => ?_, h5⟩
 by_cases e : b = a
 ·subst e; exact h6.right hn
 ·exact h4 b g0 (by have : b < a + 1 := g1; omega)
theorem emp_iff {x : List Int} : x.isEmpty = true ↔ x.length = 0 := by cases x <;> simp
theorem sm_cand {L : Nat} {v m : Nat → Int} {n b : Int} {old : List Int} (hkL : k < L) (hm : ∀ j, j < L → 0 ≤ m j ∧ m j ≤ 1000) (ho : old.length = L) (hb : Best v m k b (Cn old)) (hz : ∀ j, k ≤ j → j < L → Cn old j = 0) (h0 : 0 ≤ n) (h1 : n ≤ m k) : Sm (st old (k : Int) n) L := by
 refine ⟨by rw [st_len]; exact ho, fun j hj => ?_⟩
 rw [cn_put (by omega)]
 by_cases e : j = k
 ·subst e; rw [put_at]; have := hm j hj; omega
 ·rw [put_ne e]
  by_cases e2 : j < k
  ·have := hb.ok j e2
   have := hm j hj
   omega
  ·rw [hz j (by omega) hj]; omega
theorem sm_row {L : Nat} {v m : Nat → Int} {n : Int} {row : List Int} (hm : ∀ j, j < L → 0 ≤ m j ∧ m j ≤ 1000) (h : RP v m L k a n row) (hr : row.length ≠ 0) : Sm row L := by
 rcases h with ⟨h1, _⟩ | ⟨h1, h2, h3, h4, h5⟩
 ·exact absurd h1 hr
 ·refine ⟨h1, fun j hj => ?_⟩
  by_cases e2 : j < k + 1
  ·have := h2 j e2
   have := hm j hj
   omega
  ·rw [h4 j (by omega) hj]; omega
theorem row_zero {L : Nat} {v m : Nat → Int} {n : Int} {row : List Int} (h : RP v m L k a n row) (hr : row.length ≠ 0) : ∀ j, k + 1 ≤ j → j < L → Cn row j = 0 := by
 rcases h with ⟨h1, _⟩ | ⟨h1, h2, h3, h4, h5⟩
 ·exact absurd h1 hr
 ·exact h4
theorem cand_zero {L : Nat} {n : Int} {old : List Int} (hkL : k < L) (ho : old.length = L) (hz : ∀ j, k ≤ j → j < L → Cn old j = 0) : ∀ j, k + 1 ≤ j → j < L → Cn (st old (k : Int) n) j = 0 := fun j h1 h2 => by
 rw [cn_put (by omega), put_ne (by omega)]; exact hz j (by omega) h2
theorem RP.step {L : Nat} {v m : Nat → Int} {n : Int} {row old : List Int} (hkL : k < L) (hL : L ≤ 16) (hm : ∀ j, j < L → 0 ≤ m j ∧ m j ≤ 1000) (h : RP v m L k a n row) (ho : old.length ≠ 0) (hb : RR v m L k (a - n * v k) old) (h0 : 0 ≤ n) (h1 : n ≤ m k) :
  (row.length = 0 → RP v m L k a (n + 1) (st old (k : Int) n)) ∧
  (row.length ≠ 0 → specieref28_Better (st old (k : Int) n) row = true → RP v m L k a (n + 1) (st old (k : Int) n)) ∧
  (row.length ≠ 0 → specieref28_Better (st old (k : Int) n) row = false → RP v m L k a (n + 1) row) := by
 rcases hb with ⟨g, _⟩ | ⟨hol, hbest, hz⟩
 ·exact absurd g ho
 have blank : v k = 0 → n ≠ 0 → row.length ≠ 0 ∧ (specieref28_Better (st old (k : Int) n) row = true → False) := fun hv hn => by
  have hb0 : Best v m k (a - 0 * v k) (Cn old) := by
   have e : a - 0 * v k = a - n * v k := by rw [hv, Int.mul_zero, Int.mul_zero]
   rw [e]; exact hbest
  obtain ⟨g1, g2⟩ := cand_ok hb0 (Int.le_refl 0) (hm k hkL).1 (fun _ => rfl)
  have hr : row.length ≠ 0 := fun e => by
   rcases h with ⟨_, h2⟩ | ⟨h2, _⟩
   ·have := h2 _ g1 g2
    rw [put_at] at this
    omega
   ·omega
  refine ⟨hr, fun hB => ?_⟩
  have hpre := (Better_spec (sm_cand hkL hm hol hbest hz h0 h1) (sm_row hm h hr) hL).1 hB
  have hpre := hpre.trim (k := k + 1) (by omega) (cand_zero hkL hol hz) (row_zero h hr)
  rcases h with ⟨e, _⟩ | ⟨_, _, _, _, h5⟩
  ·exact hr e
  have hp2 := h5 _ g1 g2 (by rw [put_at]; omega)
  have e1 : sumC (Cn (st old (k : Int) n)) (k + 1) = sumC (Cn old) k + n := by
   rw [sumC_congr (fun j _ => cn_put (by omega) j), sumC, ← sumC_congr put_lt, put_at]
  have e2 : sumC (put (Cn old) k 0) (k + 1) = sumC (Cn old) k + 0 := by rw [sumC, ← sumC_congr put_lt, put_at]
  unfold Pre at hpre hp2
  rw [e1] at hpre
  rw [e2] at hp2
  omega
 have hv0 : row.length = 0 → v k = 0 → n = 0 := fun hr hv => Classical.byContradiction fun hn => (blank hv hn).1 hr
 refine ⟨fun hr => ?_, fun hr hB => ?_, fun hr hB => ?_⟩
 ·refine RP.cand hkL hol hbest hz h0 h1 (hv0 hr) (fun c' hc hs hlt => ?_)
  rcases h with ⟨_, h2⟩ | ⟨h2, _⟩
  ·have := h2 c' hc hs; omega
  ·omega
 ·have hnb : v k = 0 → n = 0 := fun hv => Classical.byContradiction fun hn => (blank hv hn).2 hB
  have hpre := (Better_spec (sm_cand hkL hm hol hbest hz h0 h1) (sm_row hm h hr) hL).1 hB
  have hpre := hpre.trim (k := k + 1) (by omega) (cand_zero hkL hol hz) (row_zero h hr)
  have hpre := hpre.congr (fun j _ => cn_put (n := n) (by omega) j)
  refine RP.cand hkL hol hbest hz h0 h1 hnb (fun c' hc hs hlt => ?_)
  rcases h with ⟨e, _⟩ | ⟨_, _, _, _, h5⟩
  ·exact absurd e hr
  ·exact hpre.trans (h5 c' hc hs hlt)
 ·have hrL : row.length = L := (sm_row hm h hr).1
  have hpre := (Better_spec (sm_cand hkL hm hol hbest hz h0 h1) (sm_row hm h hr) hL).2 hB
  have hpre := hpre.trim (k := k + 1) (by omega) (row_zero h hr) (cand_zero hkL hol hz)
  refine h.keep hrL (by omega) (fun c' hc hs e => ?_)
  refine hpre.trans (Pre.congr (fun j _ => (cn_put (by omega) j).symm) (cand_pre hbest hc hs e))
theorem rpay_spec (h0 : 0 ≤ amount) (hl1 : 1 ≤ l.length) (hl : l.length ≤ 16) (hv : ∀ j, j < l.length → 0 ≤ Vl l j) (hm : ∀ j, j < l.length → 0 ≤ Cn most j ∧ Cn most j ≤ 1000) :
  RR (Vl l) (Cn most) l.length l.length amount (specieref28_Pay l most amount) := by
 unfold specieref28_Pay
 refine iter_rule (P := RRows l most amount) (Q := fun r => RR (Vl l) (Cn most) l.length l.length amount r) (meas := fun p => ((l.length : Int) - p.1).toNat) (fun ag p hp hag => ?_) _ _ ?_ (by show ((l.length : Int) - 0).toNat < _; omega)
 ·obtain ⟨i, best⟩ := p
  obtain ⟨hi0, hi1, hlen, hrows⟩ := id hp
  simp only at hi0 hi1 hlen hrows hag ⊢
  by_cases hi : i < (l.length : Int)
  ·rw [if_pos (decide_eq_true hi)]
   obtain ⟨k, rfl⟩ : ∃ k : Nat, i = k := ⟨i.toNat, by omega⟩
   rw [Int.toNat_natCast] at hrows
   have hk : k < l.length := by omega
   refine iter_rule (P := RRow l most amount k) (Q := fun r => RR (Vl l) (Cn most) l.length l.length amount r) (meas := fun p => (amount + 1 - p.1).toNat) (fun ag2 p2 hp2 hag2 => ?_) _ _ ?_ (by show (amount + 1 - 0).toNat < _; omega)
   ·obtain ⟨a, tab⟩ := p2
    obtain ⟨ha0, ha1, hrl, hr, hz⟩ := id hp2
    simp only at ha0 ha1 hrl hr hz hag2 ⊢
    by_cases ha : a ≤ amount
    ·rw [if_pos (decide_eq_true ha)]
     have hvk := hv k hk
     refine iter_rule (P := RCell l most amount k a) (Q := fun r => RR (Vl l) (Cn most) l.length l.length amount r) (meas := fun p => (gt most (k : Int) + 1 - p.1).toNat) (fun ag3 p3 hp3 hag3 => ?_) _ _ ?_ (by show (gt most (k : Int) + 1 - 0).toNat < _; omega)
     ·obtain ⟨n, tab'⟩ := p3
      obtain ⟨hn0, hn1, hrl', hr', hz', hpt⟩ := id hp3
      simp only at hn0 hn1 hrl' hr' hz' hpt hag3 ⊢
      have out : (∀ c, Ok (Vl l) (Cn most) c (k + 1) → sumV c (Vl l) (k + 1) = a → c k < n) → RR (Vl l) (Cn most) l.length l.length amount (ag2 (a + 1, tab')) := fun h =>
       hag2 (a + 1, tab') (hp3.done ha0 ha h) (by show (amount + 1 - (a + 1)).toNat < (amount + 1 - a).toNat; omega)
      by_cases h1 : n ≤ gt most (k : Int)
      ·rw [if_pos (decide_eq_true h1)]
       have hmeas : (gt most (k : Int) + 1 - (n + 1)).toNat < (gt most (k : Int) + 1 - n).toNat := by omega
       by_cases h2 : n * (gt l (k : Int)).Value ≤ a
       ·rw [if_pos (decide_eq_true h2)]
        have hb : RR (Vl l) (Cn most) l.length k (a - n * Vl l k) (gt best (a - n * (gt l (k : Int)).Value)) := hrows _ (by have : n * Vl l k ≤ a := h2; show 0 ≤ a - n * Vl l k; omega) (by have := Int.mul_nonneg hn0 hvk; show a - n * Vl l k ≤ _; omega)
        generalize gt best (a - n * (gt l (k : Int)).Value) = old at hb ⊢
        have hs := fun ho => RP.step hk hl hm hpt (old := old) ho hb hn0 h1
        rw [List.nil_append]
        by_cases ho : old.length = 0
        ·rw [if_pos (emp_iff.2 ho)]
         exact hag3 (n + 1, tab') (hp3.pass h1 (hpt.skip hb ho (by omega))) hmeas
        ·rw [if_neg (fun h => ho (emp_iff.1 h))]
         obtain ⟨s1, s2, s3⟩ := hs ho
         by_cases hw : (gt tab' a).length = 0
         ·rw [if_pos (emp_iff.2 hw)]
          exact hag3 (n + 1, _) (hp3.put ha0 ha h1 (s1 hw)) hmeas
         ·rw [if_neg (fun h => hw (emp_iff.1 h))]
          simp only [letk]
          cases hB : specieref28_Better (st old (k : Int) n) (gt tab' a) with
          | true => exact hag3 (n + 1, _) (hp3.put ha0 ha h1 (s2 hw hB)) hmeas
          | false => exact hag3 (n + 1, tab') (hp3.pass h1 (s3 hw hB)) hmeas
       ·rw [if_neg (by simpa using h2)]
        refine out fun c hc hs => Int.not_le.1 fun hle => h2 ?_
        have g1 := sumV_nn (fun j hj => hv j (by omega)) hc.less
        have g2 := Int.mul_le_mul_of_nonneg_right hle hvk
        rw [sumV] at hs
        show n * Vl l k ≤ a
        omega
      ·rw [if_neg (by simpa using h1)]
       refine out fun c hc hs => ?_
       have : c k ≤ gt most (k : Int) := (hc k (by omega)).2.1
       omega
     ·refine ⟨Int.le_refl _, ?_, hrl, hr, fun b g0 g1 => hz b (by omega) g1, RP.zero (hz a (Int.le_refl _) ha)⟩
      have : 0 ≤ gt most (k : Int) := (hm k hk).1
      show 0 ≤ gt most (k : Int) + 1
      omega
    ·rw [if_neg (by simpa using ha)]
     refine hag _ ⟨by show 0 ≤ (k : Int) + 1; omega, by show (k : Int) + 1 ≤ _; omega, hrl, fun b g0 g1 => ?_⟩ (by show ((l.length : Int) - (k + 1)).toNat < ((l.length : Int) - k).toNat; omega)
     show RR _ _ _ ((k : Int) + 1).toNat b _
     rw [show ((k : Int) + 1).toNat = k + 1 by omega]
     exact hr b g0 (by omega)
   ·refine ⟨Int.le_refl _, by show 0 ≤ amount + 1; omega, by show (rep _ _).length = _; rw [rep_len], fun b g0 g1 => by have : b < 0 := g1; omega, fun b g0 g1 => ?_⟩
    show (gt (rep _ ([] : List Int)) b).length = 0
    rw [gt_repl]; split <;> rfl
  ·rw [if_neg (by simpa using hi)]
   obtain rfl : i = (l.length : Int) := by omega
   rw [Int.toNat_natCast] at hrows
   exact hrows amount h0 (Int.le_refl _)
 ·refine ⟨Int.le_refl _, by show (0 : Int) ≤ _; omega, by show (st (rep _ _) _ _).length = _; rw [st_len, rep_len], fun a g0 g1 => ?_⟩
  show RR _ _ _ 0 a (gt (st (rep (amount + 1).toNat ([] : List Int)) 0 (rep l.length (0 : Int))) a)
  rw [gt_st]
  by_cases e : a = 0
  ·subst e
   rw [if_pos ⟨rfl, by rw [rep_len]; omega⟩]
   refine .inr ⟨rep_len, Best.zero, fun j _ hj => ?_⟩
   show gt (rep l.length (0 : Int)) (j : Int) = 0
   rw [gt_repl]; split <;> rfl
  ·rw [if_neg (by omega), gt_repl]
   refine .inl ⟨by split <;> rfl, fun c _ hs => ?_⟩
   rw [sumV] at hs
   omega
end Go.Proofs.Yteolfhljhnplpaa
namespace Go.Proofs.Yteolfhljhnplpaa
open Go.RowKit
theorem awake_true : specielaw28_awake = true := by kernel_rfl
theorem Equal_refl {s : List Int} : slices_Equal_int_int s s = true := by
 unfold slices_Equal_int_int
 rw [if_neg (by simp)]
 refine iter_rule (P := fun q : Int => ∃ k : Nat, q = k ∧ k ≤ s.length) (Q := fun r => r = true) (meas := fun q => ((s.length : Int) - q).toNat) ?_ _ _ ⟨0, rfl, Nat.zero_le _⟩ (by show ((s.length : Int) - 0).toNat < _; omega)
 rintro ag i ⟨k, e1, e2⟩ ih
 subst e1
 by_cases hi : k < s.length
 ·rw [if_pos (show decide ((k : Int) < (s.length : Int)) = true by simp only [decide_eq_true_eq]; omega), if_neg (by simp)]
  exact ih _ ⟨k + 1, by push_cast; rfl, hi⟩ (by show ((s.length : Int) - ((k : Int) + 1)).toNat < ((s.length : Int) - (k : Int)).toNat; omega)
 ·rw [if_neg (show ¬ decide ((k : Int) < (s.length : Int)) = true by simp only [decide_eq_true_eq]; omega)]
theorem list_eq {a b : List Int} {L : Nat} (ha : a.length = L) (hb : b.length = L) (h : ∀ j, j < L → Cn a j = Cn b j) : a = b := by
 refine List.ext_getElem (by omega) fun j h1 h2 => ?_
 have e := h j (by omega)
 unfold Cn at e
 rw [gt_nat, gt_nat, List.getD_eq_getElem?_getD, List.getD_eq_getElem?_getD, List.getElem?_eq_getElem h1, List.getElem?_eq_getElem h2] at e
 exact e
theorem best_uniq {v m m' c c' : Nat → Int} {k : Nat} {a : Int} (h : Best v m k a c) (h' : Best v m' k a c') (h1 : Ok v m' c k) (h2 : Ok v m c' k) : ∀ j, j < k → c j = c' j := by
 have g1 := h.best c' h2 h'.sum
 have g2 := h'.best c h1 h.sum
 rcases g1 with g1 | ⟨g1, g3⟩
 ·rcases g2 with g2 | ⟨g2, _⟩ <;> omega
 ·rcases g2 with g2 | ⟨_, g4⟩
  ·omega
  ·exact lexGe_anti g3 g4
theorem check_ok {l : List S_api_Denom} {h most : List Int} {am : Int} (hv : denom_Valid l = true) (hc : denom_counted l h = true) (h0 : 0 ≤ am) (h1 : am ≤ 1000) (hm : ∀ j, j < l.length → 0 ≤ Cn most j ∧ Cn most j ≤ 1000)
  (heq : ∀ c, sumV c (Vl l) l.length = am → (Ok (Vl l) (Cn h) c l.length ↔ Ok (Vl l) (Cn most) c l.length)) :
  specielaw28_DenomPays_1 (denom_Pay l h am).1 (denom_Pay l h am).2 true most am l = true := by
 have hl := Valid_len hv
 have hR := rpay_spec (l := l) (most := most) h0 hl.1 hl.2 (fun j hj => (Vl_nn hv j hj).1) hm
 unfold specielaw28_DenomPays_1
 have e1 : ¬ am < 0 := by omega
 have e2 : ¬ am > 1000 := by omega
 simp only [letk, e1, e2, decide_false, Bool.not_true, Bool.false_eq_true, if_false]
 generalize specieref28_Pay l most am = x at hR ⊢
 rcases Pay_spec hv hc h0 h1 with ⟨e, hno⟩ | ⟨c, e, hlc, hbc⟩
 ·rw [e]
  rcases hR with ⟨hx, _⟩ | ⟨hx, hb, _⟩
  ·rw [if_pos (emp_iff.2 hx)]; rfl
  ·exact absurd hb.sum (hno _ ((heq _ hb.sum).2 hb.ok))
 ·rw [e]
  rcases hR with ⟨hx, hno⟩ | ⟨hx, hb, _⟩
  ·exact absurd hbc.sum (hno _ ((heq _ hbc.sum).1 hbc.ok))
  ·rw [if_neg (fun g => by have := emp_iff.1 g; omega)]
   have ec : c = x := list_eq hlc hx (best_uniq hbc hb ((heq _ hbc.sum).1 hbc.ok) ((heq _ hb.sum).2 hb.ok))
   rw [ec]
   simp only [Equal_refl]
   rfl
theorem term_le {v c : Nat → Int} {m : Nat → Int} : ∀ {k : Nat}, (∀ j, j < k → 0 ≤ v j) → Ok v m c k → ∀ j, j < k → c j * v j ≤ sumV c v k
 | 0, _, _, j, h => absurd h (Nat.not_lt_zero _)
 | k + 1, hv, hc, j, hj => by
  have h1 := sumV_nn (fun i hi => hv i (by omega)) hc.less
  have h2 := Int.mul_nonneg (hc k (by omega)).1 (hv k (by omega))
  rw [sumV]
  by_cases e : j = k
  ·subst e; omega
  ·have := term_le (fun i hi => hv i (by omega)) hc.less j (by omega)
   omega
theorem most_le {x a v : Int} (hv : 0 < v) (h : x * v ≤ a) (hx : 0 ≤ x) : x ≤ mostOf a v := by
 unfold mostOf
 rw [if_neg (by omega)]
 have ha : 0 ≤ a := Int.le_trans (Int.mul_nonneg hx (by omega)) h
 rw [Int.tdiv_eq_ediv_of_nonneg ha]
 exact Int.le_ediv_of_mul_le hv h
theorem full_eq {l : List S_api_Denom} {am : Int} (hv : denom_Valid l = true) (h0 : 0 ≤ am) (h1 : am ≤ 1000) : ∀ c, sumV c (Vl l) l.length = am → (Ok (Vl l) (Cn (full l)) c l.length ↔ Ok (Vl l) (Cn (specieref28_Most l am)) c l.length) := by
 intro c hs
 have hV := Vl_nn hv
 obtain ⟨_, k2⟩ := most_spec (l := l) (a := am) h0 h1 (fun j x hj => (Valid_val hv j x hj).1)
 have km : ∀ j, j < l.length → Cn (specieref28_Most l am) j = mostOf am (Vl l j) := fun j hj => k2 j (by omega) (by omega)
 have kf : ∀ j, j < l.length → Cn (full l) j = 1000 := fun j hj => gt_repli (by omega)
 constructor
 ·intro hc j hj
  obtain ⟨a1, a2, a3⟩ := hc j hj
  refine ⟨a1, ?_, a3⟩
  rw [km j hj]
  by_cases e : Vl l j = 0
  ·rw [a3 e]; exact (mostOf_rng h0 h1 (hV j hj).1).1
  ·have ht := term_le (fun i hi => (hV i hi).1) hc j hj
   rw [hs] at ht
   exact most_le (by have := (hV j hj).1; omega) ht a1
 ·intro hc j hj
  obtain ⟨a1, a2, a3⟩ := hc j hj
  refine ⟨a1, ?_, a3⟩
  rw [kf j hj]
  rw [km j hj] at a2
  have := (mostOf_rng h0 h1 (hV j hj).1).2
  omega
theorem pay_bad {l : List S_api_Denom} {h : List Int} {am : Int} (hv : denom_Valid l = false) : denom_Pay l h am = ([], 1) := by
 unfold denom_Pay; simp [letk, hv]
theorem few_bad {l : List S_api_Denom} {am : Int} (hv : denom_Valid l = false) : denom_Fewest l am = ([], 1) := by
 unfold denom_Fewest; simp [letk, hv]
theorem pay_cnt {l : List S_api_Denom} {h : List Int} {am : Int} (hv : denom_Valid l = true) (hc : denom_counted l h = false) : denom_Pay l h am = ([], 1) := by
 unfold denom_Pay; simp [letk, hv, hc]
theorem pay_out {l : List S_api_Denom} {h : List Int} {am : Int} (hv : denom_Valid l = true) (hc : denom_counted l h = true) (ha : am < 0 ∨ am > 1000) : denom_Pay l h am = ([], 2) := by
 unfold denom_Pay
 rcases ha with ha | ha
 ·simp [letk, hv, hc, ha]
 ·have : ¬ am < 0 := by omega
  simp [letk, hv, hc, ha, this]
theorem chk_bad {most : List Int} {am : Int} {l : List S_api_Denom} : specielaw28_DenomPays_1 [] 1 false most am l = true := by
 unfold specielaw28_DenomPays_1; rfl
theorem chk_out {most : List Int} {am : Int} {l : List S_api_Denom} (ha : am < 0 ∨ am > 1000) : specielaw28_DenomPays_1 [] 2 true most am l = true := by
 unfold specielaw28_DenomPays_1
 rcases ha with ha | ha
 ·simp [ha]
 ·have : ¬ am < 0 := by omega
  simp [ha, this]
theorem chk_pay {l : List S_api_Denom} {h : List Int} {am : Int} (hv : denom_Valid l = true) : specielaw28_DenomPays_1 (denom_Pay l h am).1 (denom_Pay l h am).2 (denom_counted l h) h am l = true := by
 cases hc : denom_counted l h with
 | false => rw [pay_cnt hv hc]; exact chk_bad
 | true =>
  by_cases ha : am < 0 ∨ am > 1000
  ·rw [pay_out hv hc ha]; exact chk_out ha
  ·exact check_ok hv hc (by omega) (by omega) (Cn_nn hc) (fun c _ => Iff.rfl)
theorem chk_few {l : List S_api_Denom} {am : Int} (hv : denom_Valid l = true) : specielaw28_DenomPays_1 (denom_Fewest l am).1 (denom_Fewest l am).2 true (specieref28_Most l (maxI 0 (minI am 1000))) am l = true := by
 rw [Fewest_eq hv]
 by_cases ha : am < 0 ∨ am > 1000
 ·rw [pay_out hv full_counted ha]; exact chk_out ha
 ·have e : maxI 0 (minI am 1000) = am := by
   unfold maxI minI
   split <;> split <;> omega
  rw [e]
  obtain ⟨k1, k2⟩ := most_spec (l := l) (a := am) (by omega) (by omega) (fun j x hj => (Valid_val hv j x hj).1)
  refine check_ok hv full_counted (by omega) (by omega) (fun j hj => ?_) (full_eq hv (by omega) (by omega))
  have e2 : Cn (specieref28_Most l am) j = mostOf am (Vl l j) := k2 j (by omega) (by omega)
  rw [e2]
  exact mostOf_rng (by omega) (by omega) (Vl_nn hv j hj).1
theorem specielaw28_DenomPays_true (l : List S_api_Denom) (have_ : List Int) (amount : Int) : specielaw28_DenomPays l have_ amount = true := by
 unfold specielaw28_DenomPays
 simp only [letk, letj, awake_true, ← Valid_eq, Counts_eq, Bool.not_true, Bool.false_eq_true, if_false]
 cases hv : denom_Valid l with
 | true =>
  have e : sl l 0 (minI (l.length : Int) (40 * specielaw28_one true)) = l := sl_all rfl (Valid_len hv).2
  simp only [e, chk_few hv, chk_pay hv, if_true]
  split
  ·rfl
  split
  ·rfl
  split
  ·split <;> rfl
  ·rfl
 | false =>
  simp only [few_bad hv, pay_bad hv, chk_bad, Bool.false_eq_true, if_false, if_true]
  split
  ·rfl
  split
  ·rfl
  split
  ·split <;> rfl
  ·rfl
end Go.Proofs.Yteolfhljhnplpaa
