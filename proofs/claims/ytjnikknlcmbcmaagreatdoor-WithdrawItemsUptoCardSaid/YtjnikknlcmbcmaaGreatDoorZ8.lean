/- Texts of this proof, one after the other: U2, U3. -/
import Derived.Test.YtjnikknlcmbcmaaGreatDoorZ7
set_option linter.unusedVariables false
set_option linter.unusedSimpArgs false
namespace Go.Proofs.YtjnikknlcmbcmaaGreatDoor
open Go.RowKit
set_option linter.unusedSimpArgs false
set_option maxHeartbeats 2000000 in
set_option maxRecDepth 100000 in
theorem digest_Sum_ok   (b : (List Int)) (hp0 : b.length ≤ 1000000000) : CM En (digest_Sum b) 209 [.sl none 1 false (b.map (V.int .u8))] (fun y => (e_arr40 y)) (fun _ => []) := by
 refine cmQ fun r hM => ?_
 rw [digest_Sum.eq_1] at hM
 refine enterV En_ok En_mo [6] Tryz.func209 rfl Tryz.ntmps209 (by kernel_rfl) fun hw => ct_start ?_
 refine spQ ?_
 replace hw := nzQ hw
 have hM0 := hM; clear hM; obtain ⟨x1, hx2, hM⟩ := letk_opn hM0; clear hM0
 have hcx1 := bytes_Clone_ok none b 
 rw [← hx2] at hcx1
 refine callC_give hcx1 clQ clQ (fun hw3 => ?_)
 replace hw3 := nzQ hw3
 refine spQ ?_
 have hq4 := nzQ (cfU hx2)
 refine bindC_intro omQ ?_
 refine spQ ?_
 have hM0 := hM; clear hM; obtain ⟨f5, d5, hf5, hd5, hM⟩ := iter_opn hM0; clear hM0
 refine ct_loop (fun n S => ∃ p : List Int, S = (⟨[(0, .sl none 1 false (b.map (V.int .u8))), (2, .ptr 0 0), (3, .own 1)], [(0, .var 32 true (zv_40)), (1, .own 5 1 false none (p.map (V.int .u8)))], 3⟩ : St) ∧ ((((p).length : Int) + (56 - ((p).length : Int)) % 64 ≤ (b.length : Int) + 65)) ∧ ((56 - ((p).length : Int)) % 64).toNat < n ∧ iter n f5 d5 p = r) (((56 - (((x1 ++ ([128] : List Int))).length : Int)) % 64).toNat + 1) _ sbQ sbQ ⟨(x1 ++ ([128] : List Int)), rfl, omQ, (Nat.lt_succ_self _), hM⟩ ?_
 clear hM
 rintro n5 S ⟨p5, rfl, hfa5, hm5, hM⟩
 have hM0 := hM; clear hM; obtain ⟨ag5, hag5, hM⟩ := iter_step hM0 (by omega) hf5; clear hM0
 replace hfa5 := nzQ hfa5
 replace hm5 := nzQ hm5
 refine spQ ?_
 refine bindC_intro omQ ?_
 refine spQ ?_
 refine condC_intro (fun h6 => ?_) (fun h6 => ?_)
 ·rw [if_pos h6] at hM
  refine spQA h6 ?_
  have nh6 := nzQ h6
  try have hr7 := mpQ nh6
  have hF := h6
  exact auQ
 ·rw [if_neg (ne_true h6)] at hM
  refine spQA h6 ?_
  have nh6 := nzQ h6
  try have hr8 := mpQ nh6
  have hM0 := hM; clear hM; obtain ⟨x9, hx10, hM⟩ := letk_opn hM0; clear hM0
  have hcx9 := cmU hx10
  refine callC_give hcx9 clQ clQ (fun hw11 => ?_)
  replace hw11 := nzQ hw11
  refine spQ ?_
  have hq12 := nzQ (cfU hx10)
  refine bindC_intro omQ ?_
  refine spQ ?_
  refine seqC_pass ?_
  try refine spQ ?_
  refine cut_weakW _ (⟨[(2, .ptr 0 0), (3, .sl (zApp (x9.map (V.int .u8))) 1 false ((p5 ++ x9).map (V.int .u8))), (4, .ptr 3 0)], [(0, .var 32 true (zv_40)), (1, .pown 1 false (zApp (x9.map (V.int .u8))) ((p5 ++ x9).map (V.int .u8))), (3, .var 8 true (.agg [.int .u32 1779033703, .int .u32 3144134277, .int .u32 1013904242, .int .u32 2773480762, .int .u32 1359893119, .int .u32 2600822924, .int .u32 528734635, .int .u32 1541459225]))], 4⟩ : St) ((weak_pub (S := ⟨_, _, _⟩) 1 (T := 5) (n := 1) (g := false) (z := (zApp (x9.map (V.int .u8)))) (l := (p5 ++ x9).map (V.int .u8)) clQ).trans (weak_slot (S := ⟨_, _, _⟩) 3 1 (n := 1) (g := false) (z := (zApp (x9.map (V.int .u8)))) (l := (p5 ++ x9).map (V.int .u8)) clQ clQ)) sbQ sbQ ?_
  try refine spQ ?_
  have hM0 := hM; clear hM; obtain ⟨f13, d13, hf13, hd13, hM⟩ := iter_opn hM0; clear hM0
  refine ct_loop (fun n S => ∃ p : List Int × (List Int), S = (⟨[(2, .ptr 0 0), (3, .sl none 1 false (p.1.map (V.int .u8))), (4, .ptr 3 0)], [(0, .var 32 true (zv_40)), (3, .var 8 true ((e_arr283 p.2)))], 4⟩ : St) ∧ ((((p.1).length : Int) % 64 = 0)) ∧ (p.1).length < n ∧ iter n f13 d13 p = r) (((p5 ++ x9)).length + 1) _ sbQ (by simp only [go_sem, rowV_eq, rowV_eq0, List.length_replicate, rep_len, Int.toNat_natCast, ↓reduceIte, Nat.reduceEqDiff, Nat.reduceAdd, Int.reduceAdd, Nat.reduceMul, Nat.reduceLeDiff, Nat.reduceLT, Int.reduceLE, Int.reduceLT, Int.reduceNeg, Int.reduceToNat, List.isEmpty_nil, map_st, mtL_repE, mtL_repM, subF, subH, mtO, mtB, mt, mtL, mtL_self, mt_self, ltV, ltL, ltB, eq_self, or_true, true_or, or_self, and_self, gt_cons0, gt_conss, Int.reduceSub]) ⟨((p5 ++ x9), [1779033703, 3144134277, 1013904242, 2773480762, 1359893119, 2600822924, 528734635, 1541459225]), rfl, omQ, (Nat.lt_succ_self _), hM⟩ ?_
  clear hM
  rintro n13 S ⟨p13, rfl, hfa13, hm13, hM⟩
  have hM0 := hM; clear hM; obtain ⟨ag13, hag13, hM⟩ := iter_step hM0 (by omega) hf13; clear hM0
  replace hfa13 := nzQ hfa13
  replace hm13 := nzQ hm13
  refine spQ ?_
  refine condC_intro (fun h14 => ?_) (fun h14 => ?_)
  ·rw [if_pos h14] at hM
   refine spQA h14 ?_
   have nh14 := nzQ h14
   try have hr15 := mpQ nh14
   refine ct_draw 59 3 [33, 34, 35] [] ([[], [], [1]] ++ [List.range 3, List.range 4]) [] (by kernel_rfl) (by exact alQ) ?_
   refine spQ ?_
   refine hbindC_intro omQ ?_
   refine spQ ?_
   have hM0 := hM; clear hM; obtain ⟨x16, hx17, hM⟩ := letk_opn hM0; clear hM0
   have hcx16 := cmH hx17 (digest_mix_ok  (p13.2) (sl p13.1 0 64) (by (exact pfQ)))
   refine callC_give hcx16 clQ clQ (fun hw18 => ?_)
   replace hw18 := nzQ hw18
   refine spQ ?_
   have hF := (And.intro h6 h14)
   exact auQ
  ·rw [if_neg (ne_true h14)] at hM
   refine spQA h14 ?_
   have nh14 := nzQ h14
   try have hr19 := mpQ nh14
   have hM0 := hM; clear hM; obtain ⟨f20, d20, hf20, hd20, hM⟩ := iter_opn hM0; clear hM0
   refine ct_loop (fun n S => ∃ p : Int × (List Int), S = (⟨[(2, .ptr 0 0), (5, .ptr 4 0), (37, (e_arr283 p13.2)), (38, .int .i64 p.1)], [(0, .var 32 true (zv_40)), (4, .var 32 true ((e_arr40 p.2)))], 5⟩ : St) ∧ ((0 ≤ p.1) ∧ (p.1 ≤ 8)) ∧ ((8 : Int) - p.1).toNat < n ∧ iter n f20 d20 p = r) (((8 : Int) - 0).toNat + 1) _ sbQ (by simp only [go_sem, rowV_eq, rowV_eq0, List.length_replicate, rep_len, Int.toNat_natCast, ↓reduceIte, Nat.reduceEqDiff, Nat.reduceAdd, Int.reduceAdd, Nat.reduceMul, Nat.reduceLeDiff, Nat.reduceLT, Int.reduceLE, Int.reduceLT, Int.reduceNeg, Int.reduceToNat, List.isEmpty_nil, map_st, mtL_repE, mtL_repM, subF, subH, mtO, mtB, mt, mtL, mtL_self, mt_self, ltV, ltL, ltB, eq_self, or_true, true_or, or_self, and_self, gt_cons0, gt_conss, Int.reduceSub]) ⟨(0, [0, 0, 0, 0, 0, 0, 0, 0, 0, 0, 0, 0, 0, 0, 0, 0, 0, 0, 0, 0, 0, 0, 0, 0, 0, 0, 0, 0, 0, 0, 0, 0]), rfl, ⟨omQ, omQ⟩, (Nat.lt_succ_self _), hM⟩ ?_
   clear hM
   rintro n20 S ⟨p20, rfl, hfa20, hm20, hM⟩
   have hM0 := hM; clear hM; obtain ⟨ag20, hag20, hM⟩ := iter_step hM0 (by omega) hf20; clear hM0
   replace hfa20 := nzQ hfa20
   replace hm20 := nzQ hm20
   have ha20 : addI .i64 p20.1 1 = p20.1 + 1 := add_one omQ omQ
   refine spQA ha20 ?_
   refine condC_intro (fun h21 => ?_) (fun h21 => ?_)
   ·rw [if_pos h21] at hM
    refine spQA (And.intro ha20 h21) ?_
    have nh21 := nzQ h21
    try have hr22 := mpQ nh21
    have he23 := arr_get1 (f := (V.int .u32)) (l := p13.2) (n := 8) (i := p20.1) omQ
    replace he23 := spR he23
    refine spQA (And.intro ha20 he23) ?_
    refine bindC_intro omQ ?_
    refine spQA (And.intro ha20 he23) ?_
    have hM0 := hM; clear hM; obtain ⟨f24, d24, hf24, hd24, hM⟩ := iter_opn hM0; clear hM0
    refine ct_loop (fun n S => ∃ p : Int × (List Int), S = (⟨[(2, .ptr 0 0), (5, .ptr 4 0), (6, .int .i64 p20.1), (7, .int .u32 (gt p13.2 p20.1)), (37, (e_arr283 p13.2)), (38, .int .i64 p20.1), (42, .int .i64 p.1)], [(0, .var 32 true (zv_40)), (4, .var 32 true ((e_arr40 p.2)))], 5⟩ : St) ∧ ((0 ≤ p.1) ∧ (p.1 ≤ 4)) ∧ ((4 : Int) - p.1).toNat < n ∧ iter n f24 d24 p = r) (((4 : Int) - 0).toNat + 1) _ sbQ sbQ ⟨(0, p20.2), rfl, ⟨omQ, omQ⟩, (Nat.lt_succ_self _), hM⟩ ?_
    clear hM
    rintro n24 S ⟨p24, rfl, hfa24, hm24, hM⟩
    have hM0 := hM; clear hM; obtain ⟨ag24, hag24, hM⟩ := iter_step hM0 (by omega) hf24; clear hM0
    replace hfa24 := nzQ hfa24
    replace hm24 := nzQ hm24
    have ha24 : addI .i64 p24.1 1 = p24.1 + 1 := add_one omQ omQ
    refine spQA (And.intro ha20 (And.intro he23 ha24)) ?_
    refine condC_intro (fun h25 => ?_) (fun h25 => ?_)
    ·rw [if_pos h25] at hM
     refine spQA (And.intro ha20 (And.intro he23 (And.intro ha24 h25))) ?_
     have nh25 := nzQ h25
     try have hr26 := mpQ nh25
     obtain ⟨ha27, hbha27⟩ := mul_pos_ok (a := 4) (b := p20.1) 8 64 512 omQ omQ omQ omQ (by decide) (by decide)
     try simp only [ha27]
     have ha28 : addI .i64 (4 * p20.1) p24.1 = ((4 * p20.1) + p24.1) := add_ok omQ omQ
     try simp only [ha28]
     obtain ⟨ha29, hbha29⟩ := mul_pos_ok (a := 8) (b := p24.1) 8 64 512 omQ omQ omQ omQ (by decide) (by decide)
     try simp only [ha29]
     have ha30 : subI .i64 24 (8 * p24.1) = (24 - (8 * p24.1)) := sub_ok omQ omQ
     try simp only [ha30]
     refine bindC_intro omQ ?_
     refine spQA (And.intro ha20 (And.intro he23 (And.intro ha24 (And.intro ha27 (And.intro ha28 (And.intro ha29 ha30)))))) ?_
     refine bindC_intro omQ ?_
     have he31 : ((((4 * p20.1) + p24.1)).toNat * 1 + 1 ≤ 32) = True := eq_true omQ
     refine spQA (And.intro ha20 (And.intro he23 (And.intro ha24 (And.intro ha27 (And.intro ha28 (And.intro ha29 (And.intro ha30 he31))))))) ?_
     have he32 := arr_put (f := (V.int .u8)) (l := (arrN 32 p24.2)) (n := 32) (i := ((4 * p20.1) + p24.1)) (v := (convI .u8 (shrI .u32 (gt p13.2 p20.1) (24 - (8 * p24.1))))) arrN_len omQ
     replace he32 := spR he32
     refine spQA (And.intro ha20 (And.intro he23 (And.intro ha24 (And.intro ha27 (And.intro ha28 (And.intro ha29 (And.intro ha30 (And.intro he31 he32)))))))) ?_
     refine lp_intro (n24 - 1) _ (by omega) sbQ (by simp only [go_sem, rowV_eq, rowV_eq0, List.length_replicate, rep_len, Int.toNat_natCast, ↓reduceIte, Nat.reduceEqDiff, Nat.reduceAdd, Int.reduceAdd, Nat.reduceMul, Nat.reduceLeDiff, Nat.reduceLT, Int.reduceLE, Int.reduceLT, Int.reduceNeg, Int.reduceToNat, List.isEmpty_nil, map_st, mtL_repE, mtL_repM, subF, subH, mtO, mtB, mt, mtL, mtL_self, mt_self, ltV, ltL, ltB, eq_self, or_true, true_or, or_self, and_self, gt_cons0, gt_conss, Int.reduceSub]) ⟨((p24.1 + 1), (arrN 32 (st (arrN 32 p24.2) ((4 * p20.1) + p24.1) (convI .u8 (shrI .u32 (gt p13.2 p20.1) (24 - (8 * p24.1))))))), rfl, ⟨omQ, omQ⟩, omQ, iter_again hM hag24⟩
    ·rw [if_neg (ne_true h25)] at hM
     refine spQA (And.intro ha20 (And.intro he23 (And.intro ha24 h25))) ?_
     have nh25 := nzQ h25
     try have hr33 := mpQ nh25
     refine lp_intro (n20 - 1) _ (by omega) sbQ sbQ ⟨((p20.1 + 1), p24.2), rfl, ⟨omQ, omQ⟩, omQ, iter_again hM hag20⟩
   ·rw [if_neg (ne_true h21)] at hM
    refine spQA (And.intro ha20 h21) ?_
    have nh21 := nzQ h21
    try have hr34 := mpQ nh21
    subst hM
    exact retC_view (lfQA (And.intro ha20 (And.intro h6 (And.intro h14 h21))))
set_option maxHeartbeats 2000000 in
set_option maxRecDepth 100000 in
instance draw_check_ok   (d_ : S_api_Draw) (n_ : Int) (low : Int) (high : Int)  : CM En (draw_check d_ n_ low high) 229 [(e_api_Draw d_), .int .i64 n_, .int .i64 low, .int .i64 high] (fun y => .int .i64 y) (fun _ => []) := by
 refine cmQ fun r hM => ?_
 rw [draw_check.eq_1] at hM
 refine enterV En_ok En_mo noJ Tryz.func229 rfl Tryz.ntmps229 (by kernel_rfl) fun hw => ct_start ?_
 refine spQ ?_
 replace hw := nzQ hw
 have hF := trueQ
 exact auQ
set_option maxHeartbeats 2000000 in
set_option maxRecDepth 100000 in
instance draw_position_ok   (d_ : S_api_Draw)  : CM En (draw_position d_) 286 [(e_api_Draw d_)] (fun _ => .own 0) (fun y => [.own 5 1 false none (y.map (V.int .u8))]) := by
 refine cmQ fun r hM => ?_
 rw [draw_position.eq_1] at hM
 refine enterV En_ok En_mo noJ Tryz.func286 rfl Tryz.ntmps286 (by kernel_rfl) fun hw => ct_start ?_
 refine spQ ?_
 replace hw := nzQ hw
 have hM0 := hM; clear hM; obtain ⟨f1, d1, hf1, hd1, hM⟩ := iter_opn hM0; clear hM0
 refine ct_loop (fun n S => ∃ p : Int × List Int, S = (⟨[(1, .ptr 0 0), (3, .own 1), (4, .int .i64 p.1)], [(0, .pvar 33 true ((e_api_Draw d_))), (1, .own 5 1 false none (p.2.map (V.int .u8)))], 2⟩ : St) ∧ ((-8 ≤ p.1) ∧ (p.1 ≤ 56) ∧ (8 * ((p.2).length : Int) + p.1 = 312)) ∧ ((p.1 : Int) + 8).toNat < n ∧ iter n f1 d1 p = r) (((56 : Int) + 8).toNat + 1) _ sbQ sbQ ⟨(56, (([] : List Int) ++ (arrN 32 d_.Seed))), rfl, ⟨omQ, omQ, omQ⟩, (Nat.lt_succ_self _), hM⟩ ?_
 clear hM
 rintro n1 S ⟨p1, rfl, hfa1, hm1, hM⟩
 have hM0 := hM; clear hM; obtain ⟨ag1, hag1, hM⟩ := iter_step hM0 (by omega) hf1; clear hM0
 replace hfa1 := nzQ hfa1
 replace hm1 := nzQ hm1
 refine spQ ?_
 refine condC_intro (fun h2 => ?_) (fun h2 => ?_)
 ·rw [if_pos h2] at hM
  refine spQA h2 ?_
  have nh2 := nzQ h2
  try have hr3 := mpQ nh2
  refine bindC_intro omQ ?_
  refine spQ ?_
  refine bindC_intro omQ ?_
  refine spQ ?_
  have ha4 : subI .i64 p1.1 8 = (p1.1 - 8) := sub_ok omQ omQ
  try simp only [ha4]
  refine lp_intro (n1 - 1) _ (by omega) sbQ sbQ ⟨((p1.1 - 8), (p1.2 ++ ([(convI .u8 (shrI .i64 d_.Counter p1.1))] : List Int))), rfl, ⟨omQ, omQ, omQ⟩, omQ, iter_again hM hag1⟩
 ·rw [if_neg (ne_true h2)] at hM
  refine spQA h2 ?_
  have nh2 := nzQ h2
  try have hr5 := mpQ nh2
  subst hM
  exact retC_owns [1] (bs := [.own 5 1 false none (p1.2.map (V.int .u8))]) clQ (by decide) (lfQA h2)
set_option maxHeartbeats 2000000 in
set_option maxRecDepth 100000 in
theorem draw_source_block_ok   (s_ : S_draw_source)  : CallIn En 264 [.ptr 0 0] [.var 34 true ((e_draw_source s_))] (.agg (.int .u8 (gt (draw_source_block s_).1 0) :: .int .u8 (gt (draw_source_block s_).1 1) :: .int .u8 (gt (draw_source_block s_).1 2) :: .int .u8 (gt (draw_source_block s_).1 3) :: .int .u8 (gt (draw_source_block s_).1 4) :: .int .u8 (gt (draw_source_block s_).1 5) :: .int .u8 (gt (draw_source_block s_).1 6) :: .int .u8 (gt (draw_source_block s_).1 7) :: .int .u8 (gt (draw_source_block s_).1 8) :: .int .u8 (gt (draw_source_block s_).1 9) :: .int .u8 (gt (draw_source_block s_).1 10) :: .int .u8 (gt (draw_source_block s_).1 11) :: .int .u8 (gt (draw_source_block s_).1 12) :: .int .u8 (gt (draw_source_block s_).1 13) :: .int .u8 (gt (draw_source_block s_).1 14) :: .int .u8 (gt (draw_source_block s_).1 15) :: .int .u8 (gt (draw_source_block s_).1 16) :: .int .u8 (gt (draw_source_block s_).1 17) :: .int .u8 (gt (draw_source_block s_).1 18) :: .int .u8 (gt (draw_source_block s_).1 19) :: .int .u8 (gt (draw_source_block s_).1 20) :: .int .u8 (gt (draw_source_block s_).1 21) :: .int .u8 (gt (draw_source_block s_).1 22) :: .int .u8 (gt (draw_source_block s_).1 23) :: .int .u8 (gt (draw_source_block s_).1 24) :: .int .u8 (gt (draw_source_block s_).1 25) :: .int .u8 (gt (draw_source_block s_).1 26) :: .int .u8 (gt (draw_source_block s_).1 27) :: .int .u8 (gt (draw_source_block s_).1 28) :: .int .u8 (gt (draw_source_block s_).1 29) :: .int .u8 (gt (draw_source_block s_).1 30) :: .int .u8 (gt (draw_source_block s_).1 31) :: [])) [.var 34 true (.agg (.int .u8 (gt (draw_source_block s_).2.d.Seed 0) :: .int .u8 (gt (draw_source_block s_).2.d.Seed 1) :: .int .u8 (gt (draw_source_block s_).2.d.Seed 2) :: .int .u8 (gt (draw_source_block s_).2.d.Seed 3) :: .int .u8 (gt (draw_source_block s_).2.d.Seed 4) :: .int .u8 (gt (draw_source_block s_).2.d.Seed 5) :: .int .u8 (gt (draw_source_block s_).2.d.Seed 6) :: .int .u8 (gt (draw_source_block s_).2.d.Seed 7) :: .int .u8 (gt (draw_source_block s_).2.d.Seed 8) :: .int .u8 (gt (draw_source_block s_).2.d.Seed 9) :: .int .u8 (gt (draw_source_block s_).2.d.Seed 10) :: .int .u8 (gt (draw_source_block s_).2.d.Seed 11) :: .int .u8 (gt (draw_source_block s_).2.d.Seed 12) :: .int .u8 (gt (draw_source_block s_).2.d.Seed 13) :: .int .u8 (gt (draw_source_block s_).2.d.Seed 14) :: .int .u8 (gt (draw_source_block s_).2.d.Seed 15) :: .int .u8 (gt (draw_source_block s_).2.d.Seed 16) :: .int .u8 (gt (draw_source_block s_).2.d.Seed 17) :: .int .u8 (gt (draw_source_block s_).2.d.Seed 18) :: .int .u8 (gt (draw_source_block s_).2.d.Seed 19) :: .int .u8 (gt (draw_source_block s_).2.d.Seed 20) :: .int .u8 (gt (draw_source_block s_).2.d.Seed 21) :: .int .u8 (gt (draw_source_block s_).2.d.Seed 22) :: .int .u8 (gt (draw_source_block s_).2.d.Seed 23) :: .int .u8 (gt (draw_source_block s_).2.d.Seed 24) :: .int .u8 (gt (draw_source_block s_).2.d.Seed 25) :: .int .u8 (gt (draw_source_block s_).2.d.Seed 26) :: .int .u8 (gt (draw_source_block s_).2.d.Seed 27) :: .int .u8 (gt (draw_source_block s_).2.d.Seed 28) :: .int .u8 (gt (draw_source_block s_).2.d.Seed 29) :: .int .u8 (gt (draw_source_block s_).2.d.Seed 30) :: .int .u8 (gt (draw_source_block s_).2.d.Seed 31) :: .int .i64 (draw_source_block s_).2.d.Counter :: .bool (draw_source_block s_).2.full :: []))] [] := by
 generalize hM : draw_source_block s_ = r
 rw [draw_source_block.eq_1] at hM
 refine enterI En_ok En_mo noJ Tryz.func264 rfl Tryz.ntmps264 (by kernel_rfl) rfl fun ks hw hwB => ct_start ?_
 refine spQ ?_
 replace hw := nzQ hw
 try simp only [wfBs, wfB, decide_eq_true_eq, decide_eq_false_iff_not, Bool.and_eq_true, Bool.or_eq_true, Bool.not_eq_true', Bool.not_eq_false', beq_iff_eq, bne_iff_ne, beq_eq_false_iff_ne, bne_eq_false_iff_eq, ne_eq, Int.not_lt, Int.not_le, gt_iff_lt, ge_iff_le, List.length_map, wfL, wfV, and_true, true_and, LEN_eq, rng_i64, rng_u64, rng_u32, rng_i32, sl_len, st_len, List.length_append, List.length_cons, List.length_nil, List.length_replicate, rep_len, rowV_len, spl_len, cutN_len, arrN_len, nat8_len, remI_nn] at hwB
 refine condC_intro (fun h1 => ?_) (fun h1 => ?_)
 ·rw [if_pos h1] at hM
  refine spQA h1 ?_
  have nh1 := nzQ h1
  try have hr2 := mpQ nh1
  subst hM
  exact retCI_in [0] (by simp only [go_sem, rowV_eq, rowV_eq0, List.length_replicate, rep_len, Int.toNat_natCast, ↓reduceIte, Nat.reduceEqDiff, Nat.reduceAdd, Int.reduceAdd, Nat.reduceMul, Nat.reduceLeDiff, Nat.reduceLT, Int.reduceLE, Int.reduceLT, Int.reduceNeg, Int.reduceToNat, mt, mtL, mtL_self, mt_self, mtZ, and_self, eq_self, or_true, true_or, map_st, gt_cons0, gt_conss, Int.reduceSub, or_self, h1]) (by decide) (by simp only [go_sem, rowV_eq, rowV_eq0, List.length_replicate, rep_len, Int.toNat_natCast, ↓reduceIte, Nat.reduceEqDiff, Nat.reduceAdd, Int.reduceAdd, Nat.reduceMul, Nat.reduceLeDiff, Nat.reduceLT, Int.reduceLE, Int.reduceLT, Int.reduceNeg, Int.reduceToNat, mt, mtL, mtL_self, mt_self, mtZ, and_self, eq_self, or_true, true_or, map_st, gt_cons0, gt_conss, Int.reduceSub, or_self, h1])
 ·rw [if_neg (ne_true h1)] at hM
  refine spQA h1 ?_
  have nh1 := nzQ h1
  try have hr3 := mpQ nh1
  have hM0 := hM; clear hM; obtain ⟨x4, hx5, hM⟩ := letk_opn hM0; clear hM0
  have hcx4 := cmU hx5
  refine callC_give hcx4 clQ clQ (fun hw6 => ?_)
  replace hw6 := nzQ hw6
  refine spQ ?_
  have hq7 := pos_len hx5
  replace hq7 := nzQ hq7
  have hM0 := hM; clear hM; obtain ⟨x8, hx9, hM⟩ := letk_opn hM0; clear hM0
  have hcx8 := cmH hx9 (digest_Sum_ok  x4 (by (exact pfQ)))
  refine callC_look hcx8 clQ clQ (fun hw10 => ?_)
  replace hw10 := nzQ hw10
  refine spQ ?_
  subst hM
  exact retCI_in [0] (by simp only [go_sem, rowV_eq, rowV_eq0, List.length_replicate, rep_len, Int.toNat_natCast, ↓reduceIte, Nat.reduceEqDiff, Nat.reduceAdd, Int.reduceAdd, Nat.reduceMul, Nat.reduceLeDiff, Nat.reduceLT, Int.reduceLE, Int.reduceLT, Int.reduceNeg, Int.reduceToNat, mt, mtL, mtL_self, mt_self, mtZ, and_self, eq_self, or_true, true_or, map_st, gt_cons0, gt_conss, Int.reduceSub, or_self, h1]) (by decide) (by simp only [go_sem, rowV_eq, rowV_eq0, List.length_replicate, rep_len, Int.toNat_natCast, ↓reduceIte, Nat.reduceEqDiff, Nat.reduceAdd, Int.reduceAdd, Nat.reduceMul, Nat.reduceLeDiff, Nat.reduceLT, Int.reduceLE, Int.reduceLT, Int.reduceNeg, Int.reduceToNat, mt, mtL, mtL_self, mt_self, mtZ, and_self, eq_self, or_true, true_or, map_st, gt_cons0, gt_conss, Int.reduceSub, or_self, h1])
set_option maxHeartbeats 2000000 in
set_option maxRecDepth 100000 in
instance draw_first_ok   (h_ : (List Int))  : CM En (draw_first h_) 265 [(e_arr40 h_)] (fun y => .int .u64 y) (fun _ => []) := by
 refine cmQ fun r hM => ?_
 rw [draw_first.eq_1] at hM
 refine enterV En_ok En_mo noJ Tryz.func265 rfl Tryz.ntmps265 (by kernel_rfl) fun hw => ct_start ?_
 refine spQ ?_
 replace hw := nzQ hw
 have hM0 := hM; clear hM; obtain ⟨f1, d1, hf1, hd1, hM⟩ := iter_opn hM0; clear hM0
 refine ct_loop (fun n S => ∃ p : Int × Int, S = (⟨[(3, .int .u64 p.1), (6, .sl (some false) 1 false (([(gt h_ 0), (gt h_ 1), (gt h_ 2), (gt h_ 3), (gt h_ 4), (gt h_ 5), (gt h_ 6), (gt h_ 7)] : List Int).map (V.int .u8))), (7, .int .i64 (8 : Int)), (8, .int .i64 p.2)], [], 1⟩ : St) ∧ ((0 ≤ p.2) ∧ (p.2 ≤ (8 : Int))) ∧ ((8 : Int) - p.2).toNat < n ∧ iter n f1 d1 p = r) (((8 : Int) - 0).toNat + 1) _ sbQ sbQ ⟨(0, 0), rfl, ⟨omQ, omQ⟩, (Nat.lt_succ_self _), hM⟩ ?_
 clear hM
 rintro n1 S ⟨p1, rfl, hfa1, hm1, hM⟩
 have hM0 := hM; clear hM; obtain ⟨ag1, hag1, hM⟩ := iter_step hM0 (by omega) hf1; clear hM0
 replace hfa1 := nzQ hfa1
 replace hm1 := nzQ hm1
 have ha1 : addI .i64 p1.2 1 = p1.2 + 1 := add_one omQ omQ
 refine spQA ha1 ?_
 have hF := ha1
 exact auQ
set_option maxHeartbeats 2000000 in
set_option maxRecDepth 100000 in
theorem draw_source_number_ok   (s_ : S_draw_source) (q_ : Int) (hp0 : 1 ≤ q_) (hp1 : q_ ≤ 2305843009213693951) : CallIn En 230 [.ptr 0 0, .int .i64 q_] [.var 34 true ((e_draw_source s_))] (.int .i64 (draw_source_number s_ q_).1) [.var 34 true (.agg (.int .u8 (gt (draw_source_number s_ q_).2.d.Seed 0) :: .int .u8 (gt (draw_source_number s_ q_).2.d.Seed 1) :: .int .u8 (gt (draw_source_number s_ q_).2.d.Seed 2) :: .int .u8 (gt (draw_source_number s_ q_).2.d.Seed 3) :: .int .u8 (gt (draw_source_number s_ q_).2.d.Seed 4) :: .int .u8 (gt (draw_source_number s_ q_).2.d.Seed 5) :: .int .u8 (gt (draw_source_number s_ q_).2.d.Seed 6) :: .int .u8 (gt (draw_source_number s_ q_).2.d.Seed 7) :: .int .u8 (gt (draw_source_number s_ q_).2.d.Seed 8) :: .int .u8 (gt (draw_source_number s_ q_).2.d.Seed 9) :: .int .u8 (gt (draw_source_number s_ q_).2.d.Seed 10) :: .int .u8 (gt (draw_source_number s_ q_).2.d.Seed 11) :: .int .u8 (gt (draw_source_number s_ q_).2.d.Seed 12) :: .int .u8 (gt (draw_source_number s_ q_).2.d.Seed 13) :: .int .u8 (gt (draw_source_number s_ q_).2.d.Seed 14) :: .int .u8 (gt (draw_source_number s_ q_).2.d.Seed 15) :: .int .u8 (gt (draw_source_number s_ q_).2.d.Seed 16) :: .int .u8 (gt (draw_source_number s_ q_).2.d.Seed 17) :: .int .u8 (gt (draw_source_number s_ q_).2.d.Seed 18) :: .int .u8 (gt (draw_source_number s_ q_).2.d.Seed 19) :: .int .u8 (gt (draw_source_number s_ q_).2.d.Seed 20) :: .int .u8 (gt (draw_source_number s_ q_).2.d.Seed 21) :: .int .u8 (gt (draw_source_number s_ q_).2.d.Seed 22) :: .int .u8 (gt (draw_source_number s_ q_).2.d.Seed 23) :: .int .u8 (gt (draw_source_number s_ q_).2.d.Seed 24) :: .int .u8 (gt (draw_source_number s_ q_).2.d.Seed 25) :: .int .u8 (gt (draw_source_number s_ q_).2.d.Seed 26) :: .int .u8 (gt (draw_source_number s_ q_).2.d.Seed 27) :: .int .u8 (gt (draw_source_number s_ q_).2.d.Seed 28) :: .int .u8 (gt (draw_source_number s_ q_).2.d.Seed 29) :: .int .u8 (gt (draw_source_number s_ q_).2.d.Seed 30) :: .int .u8 (gt (draw_source_number s_ q_).2.d.Seed 31) :: .int .i64 (draw_source_number s_ q_).2.d.Counter :: .bool (draw_source_number s_ q_).2.full :: []))] [] := by
 generalize hM : draw_source_number s_ q_ = r
 rw [draw_source_number.eq_1] at hM
 refine enterI En_ok En_mo noJ Tryz.func230 rfl Tryz.ntmps230 (by kernel_rfl) rfl fun ks hw hwB => ct_start ?_
 refine spQ ?_
 replace hw := nzQ hw
 try simp only [wfBs, wfB, decide_eq_true_eq, decide_eq_false_iff_not, Bool.and_eq_true, Bool.or_eq_true, Bool.not_eq_true', Bool.not_eq_false', beq_iff_eq, bne_iff_ne, beq_eq_false_iff_ne, bne_eq_false_iff_eq, ne_eq, Int.not_lt, Int.not_le, gt_iff_lt, ge_iff_le, List.length_map, wfL, wfV, and_true, true_and, LEN_eq, rng_i64, rng_u64, rng_u32, rng_i32, sl_len, st_len, List.length_append, List.length_cons, List.length_nil, List.length_replicate, rep_len, rowV_len, spl_len, cutN_len, arrN_len, nat8_len, remI_nn] at hwB
 have h0_0 := cu63 (x := q_) (by omega) (by omega)
 have hM0 := hM; clear hM; obtain ⟨x1, hx2, hM⟩ := letk_opn hM0; clear hM0
 have hcx1 := cmU hx2
 refine callC_give hcx1 clQ clQ (fun hw3 => ?_)
 replace hw3 := nzQ hw3
 refine spQ ?_
 have hq4 := len64_nn hx2
 replace hq4 := nzQ hq4
 refine bindC_intro omQ ?_
 refine spQ ?_
 have hM0 := hM; clear hM; obtain ⟨f5, d5, hf5, hd5, hM⟩ := iter_opn hM0; clear hM0
 refine ct_loop (fun n S => ∃ p : Int × Int × S_draw_source, S = (⟨[(0, .ptr 0 0), (1, .int .i64 q_), (5, .int .u64 (subI .u64 (shlI .u64 1 x1) 1)), (6, .int .u64 p.1), (14, .int .i64 p.2.1)], [(0, .lent (ks 0) 34 true ((e_draw_source p.2.2)))], 1⟩ : St) ∧ ((0 ≤ p.2.1) ∧ (p.2.1 ≤ 256)) ∧ ((256 : Int) - p.2.1).toNat < n ∧ iter n f5 d5 p = r) (((256 : Int) - 0).toNat + 1) _ sbQ sbQ ⟨(0, 0, s_), rfl, ⟨omQ, omQ⟩, (Nat.lt_succ_self _), hM⟩ ?_
 clear hM
 rintro n5 S ⟨p5, rfl, hfa5, hm5, hM⟩
 have hM0 := hM; clear hM; obtain ⟨ag5, hag5, hM⟩ := iter_step hM0 (by omega) hf5; clear hM0
 replace hfa5 := nzQ hfa5
 replace hm5 := nzQ hm5
 have ha5 : addI .i64 p5.2.1 1 = p5.2.1 + 1 := add_one omQ omQ
 refine spQA ha5 ?_
 refine condC_intro (fun h6 => ?_) (fun h6 => ?_)
 ·rw [if_pos h6] at hM
  refine spQA (And.intro ha5 h6) ?_
  have nh6 := nzQ h6
  try have hr7 := mpQ nh6
  have hM0 := hM; clear hM; obtain ⟨x8, hx9, hM⟩ := letk_opn hM0; clear hM0
  have hcx8 := draw_source_block_ok  (p5.2.2) 
  rw [← hx9] at hcx8
  refine callC_in [0] hcx8 (by decide) (by simp only [go_sem, rowV_eq, rowV_eq0, List.length_replicate, rep_len, Int.toNat_natCast, ↓reduceIte, Nat.reduceEqDiff, Nat.reduceAdd, Int.reduceAdd, Nat.reduceMul, Nat.reduceLeDiff, Nat.reduceLT, Int.reduceLE, Int.reduceLT, Int.reduceNeg, Int.reduceToNat, mt, mtL, mtL_self, mt_self, mtZ, and_self, eq_self, or_true, true_or, ha5]) (by simp only [go_sem, rowV_eq, rowV_eq0, List.length_replicate, rep_len, Int.toNat_natCast, ↓reduceIte, Nat.reduceEqDiff, Nat.reduceAdd, Int.reduceAdd, Nat.reduceMul, Nat.reduceLeDiff, Nat.reduceLT, Int.reduceLE, Int.reduceLT, Int.reduceNeg, Int.reduceToNat, mt, mtL, mtL_self, mt_self, mtZ, and_self, eq_self, or_true, true_or, ha5]) (fun hw10 => ?_)
  replace hw10 := nzQ hw10
  refine spQA ha5 ?_
  refine condC_intro (fun h11 => ?_) (fun h11 => ?_)
  ·rw [if_pos h11] at hM
   refine spQA (And.intro ha5 h11) ?_
   have nh11 := nzQ h11
   try have hr12 := mpQ nh11
   subst hM
   exact retCI_in [0] (by simp only [go_sem, rowV_eq, rowV_eq0, List.length_replicate, rep_len, Int.toNat_natCast, ↓reduceIte, Nat.reduceEqDiff, Nat.reduceAdd, Int.reduceAdd, Nat.reduceMul, Nat.reduceLeDiff, Nat.reduceLT, Int.reduceLE, Int.reduceLT, Int.reduceNeg, Int.reduceToNat, mt, mtL, mtL_self, mt_self, mtZ, and_self, eq_self, or_true, true_or, map_st, ha5, gt_cons0, gt_conss, Int.reduceSub, or_self, h6, h11]) (by decide) (by simp only [go_sem, rowV_eq, rowV_eq0, List.length_replicate, rep_len, Int.toNat_natCast, ↓reduceIte, Nat.reduceEqDiff, Nat.reduceAdd, Int.reduceAdd, Nat.reduceMul, Nat.reduceLeDiff, Nat.reduceLT, Int.reduceLE, Int.reduceLT, Int.reduceNeg, Int.reduceToNat, mt, mtL, mtL_self, mt_self, mtZ, and_self, eq_self, or_true, true_or, map_st, ha5, gt_cons0, gt_conss, Int.reduceSub, or_self, h6, h11])
  ·rw [if_neg (ne_true h11)] at hM
   refine spQA (And.intro ha5 h11) ?_
   have nh11 := nzQ h11
   try have hr13 := mpQ nh11
   have hM0 := hM; clear hM; obtain ⟨x14, hx15, hM⟩ := letk_opn hM0; clear hM0
   have hcx14 := cmU hx15
   refine callC_give hcx14 (clQA ha5) (clQA ha5) (fun hw16 => ?_)
   replace hw16 := nzQ hw16
   refine spQA ha5 ?_
   refine condC_intro (fun h17 => ?_) (fun h17 => ?_)
   ·rw [if_pos h17] at hM
    refine spQA (And.intro ha5 h17) ?_
    have nh17 := nzQ h17
    try have hr18 := mpQ nh17
    subst hM
    exact retCI_in [0] (by simp only [go_sem, rowV_eq, rowV_eq0, List.length_replicate, rep_len, Int.toNat_natCast, ↓reduceIte, Nat.reduceEqDiff, Nat.reduceAdd, Int.reduceAdd, Nat.reduceMul, Nat.reduceLeDiff, Nat.reduceLT, Int.reduceLE, Int.reduceLT, Int.reduceNeg, Int.reduceToNat, mt, mtL, mtL_self, mt_self, mtZ, and_self, eq_self, or_true, true_or, map_st, ha5, gt_cons0, gt_conss, Int.reduceSub, or_self, h6, h11, h17]) (by decide) (by simp only [go_sem, rowV_eq, rowV_eq0, List.length_replicate, rep_len, Int.toNat_natCast, ↓reduceIte, Nat.reduceEqDiff, Nat.reduceAdd, Int.reduceAdd, Nat.reduceMul, Nat.reduceLeDiff, Nat.reduceLT, Int.reduceLE, Int.reduceLT, Int.reduceNeg, Int.reduceToNat, mt, mtL, mtL_self, mt_self, mtZ, and_self, eq_self, or_true, true_or, map_st, ha5, gt_cons0, gt_conss, Int.reduceSub, or_self, h6, h11, h17])
   ·rw [if_neg (ne_true h17)] at hM
    refine spQA (And.intro ha5 h17) ?_
    have nh17 := nzQ h17
    try have hr19 := mpQ nh17
    refine lp_intro (n5 - 1) _ (by omega) sbQ sbQ ⟨((andI .u64 x14 (subI .u64 (shlI .u64 1 x1) 1)), (p5.2.1 + 1), ({ d := x8.2.d, full := false } : S_draw_source)), rfl, ⟨omQ, omQ⟩, omQ, iter_again hM hag5⟩
 ·rw [if_neg (ne_true h6)] at hM
  refine spQA (And.intro ha5 h6) ?_
  have nh6 := nzQ h6
  try have hr20 := mpQ nh6
  refine bindC_intro omQ ?_
  refine spQA ha5 ?_
  subst hM
  exact retCI_in [0] (by simp only [go_sem, rowV_eq, rowV_eq0, List.length_replicate, rep_len, Int.toNat_natCast, ↓reduceIte, Nat.reduceEqDiff, Nat.reduceAdd, Int.reduceAdd, Nat.reduceMul, Nat.reduceLeDiff, Nat.reduceLT, Int.reduceLE, Int.reduceLT, Int.reduceNeg, Int.reduceToNat, mt, mtL, mtL_self, mt_self, mtZ, and_self, eq_self, or_true, true_or, map_st, ha5, gt_cons0, gt_conss, Int.reduceSub, or_self, h6]) (by decide) (by simp only [go_sem, rowV_eq, rowV_eq0, List.length_replicate, rep_len, Int.toNat_natCast, ↓reduceIte, Nat.reduceEqDiff, Nat.reduceAdd, Int.reduceAdd, Nat.reduceMul, Nat.reduceLeDiff, Nat.reduceLT, Int.reduceLE, Int.reduceLT, Int.reduceNeg, Int.reduceToNat, mt, mtL, mtL_self, mt_self, mtZ, and_self, eq_self, or_true, true_or, map_st, ha5, gt_cons0, gt_conss, Int.reduceSub, or_self, h6])
set_option maxHeartbeats 2000000 in
set_option maxRecDepth 100000 in
instance draw_Nonzero_ok   (d_ : S_api_Draw) (q : Int)  : CM En (draw_Nonzero d_ q) 167 [(e_api_Draw d_), .int .i64 q] (fun y => .tup [(e_api_Draw y.1), .int .i64 y.2.1, .int .i64 y.2.2]) (fun _ => []) := by
 refine cmQ fun r hM => ?_
 rw [draw_Nonzero.eq_1] at hM
 refine enterV En_ok En_mo noJ Tryz.func167 rfl Tryz.ntmps167 (by kernel_rfl) fun hw => ct_start ?_
 refine spQ ?_
 replace hw := nzQ hw
 have hM0 := hM; clear hM; obtain ⟨x1, hx2, hM⟩ := letk_opn hM0; clear hM0
 have hcx1 := cmU hx2
 refine callC_give hcx1 clQ clQ (fun hw3 => ?_)
 replace hw3 := nzQ hw3
 refine spQ ?_
 have hq4 := check_rng hx2
 replace hq4 := nzQ hq4
 refine condC_intro (fun h5 => ?_) (fun h5 => ?_)
 ·rw [if_pos h5] at hM
  refine spQA h5 ?_
  have nh5 := nzQ h5
  try have hr6 := mpQ nh5
  subst hM
  exact retC_view (lfQA h5)
 ·rw [if_neg (ne_true h5)] at hM
  refine spQA h5 ?_
  have nh5 := nzQ h5
  try have hr7 := mpQ nh5
  have hM0 := hM; clear hM; obtain ⟨f8, d8, hf8, hd8, hM⟩ := iter_opn hM0; clear hM0
  refine ct_loop (fun n S => ∃ p : Int × S_api_Draw × S_draw_source, S = (⟨[(1, .int .i64 q), (4, .ptr 1 0), (8, .ptr 2 0), (20, .int .i64 p.1)], [(1, .var 33 true ((e_api_Draw p.2.1))), (2, .var 34 true ((e_draw_source p.2.2)))], 3⟩ : St) ∧ ((0 ≤ p.1) ∧ (p.1 ≤ 256)) ∧ ((256 : Int) - p.1).toNat < n ∧ iter n f8 d8 p = r) (((256 : Int) - 0).toNat + 1) _ sbQ (by simp only [go_sem, rowV_eq, rowV_eq0, List.length_replicate, rep_len, Int.toNat_natCast, ↓reduceIte, Nat.reduceEqDiff, Nat.reduceAdd, Int.reduceAdd, Nat.reduceMul, Nat.reduceLeDiff, Nat.reduceLT, Int.reduceLE, Int.reduceLT, Int.reduceNeg, Int.reduceToNat, List.isEmpty_nil, map_st, mtL_repE, mtL_repM, subF, subH, mtO, mtB, mt, mtL, mtL_self, mt_self, ltV, ltL, ltB, eq_self, or_true, true_or, or_self, and_self, gt_cons0, gt_conss, Int.reduceSub]) ⟨(0, z_api_Draw, ({ d := d_, full := false } : S_draw_source)), rfl, ⟨omQ, omQ⟩, (Nat.lt_succ_self _), hM⟩ ?_
  clear hM
  rintro n8 S ⟨p8, rfl, hfa8, hm8, hM⟩
  have hM0 := hM; clear hM; obtain ⟨ag8, hag8, hM⟩ := iter_step hM0 (by omega) hf8; clear hM0
  replace hfa8 := nzQ hfa8
  replace hm8 := nzQ hm8
  have ha8 : addI .i64 p8.1 1 = p8.1 + 1 := add_one omQ omQ
  refine spQA ha8 ?_
  refine condC_intro (fun h9 => ?_) (fun h9 => ?_)
  ·rw [if_pos h9] at hM
   refine spQA (And.intro ha8 h9) ?_
   have nh9 := nzQ h9
   try have hr10 := mpQ nh9
   have hM0 := hM; clear hM; obtain ⟨x11, hx12, hM⟩ := letk_opn hM0; clear hM0
   have hcx11 := draw_source_number_ok  (p8.2.2) q (by (exact pfQ)) (by (exact pfQ))
   rw [← hx12] at hcx11
   refine callC_in [2] hcx11 (by decide) (by simp only [go_sem, rowV_eq, rowV_eq0, List.length_replicate, rep_len, Int.toNat_natCast, ↓reduceIte, Nat.reduceEqDiff, Nat.reduceAdd, Int.reduceAdd, Nat.reduceMul, Nat.reduceLeDiff, Nat.reduceLT, Int.reduceLE, Int.reduceLT, Int.reduceNeg, Int.reduceToNat, mt, mtL, mtL_self, mt_self, mtZ, and_self, eq_self, or_true, true_or, ha8]) (by simp only [go_sem, rowV_eq, rowV_eq0, List.length_replicate, rep_len, Int.toNat_natCast, ↓reduceIte, Nat.reduceEqDiff, Nat.reduceAdd, Int.reduceAdd, Nat.reduceMul, Nat.reduceLeDiff, Nat.reduceLT, Int.reduceLE, Int.reduceLT, Int.reduceNeg, Int.reduceToNat, mt, mtL, mtL_self, mt_self, mtZ, and_self, eq_self, or_true, true_or, ha8]) (fun hw13 => ?_)
   replace hw13 := nzQ hw13
   refine spQA ha8 ?_
   have hF := (And.intro h5 (And.intro ha8 h9))
   exact auQ
  ·rw [if_neg (ne_true h9)] at hM
   refine spQA (And.intro ha8 h9) ?_
   have nh9 := nzQ h9
   try have hr20 := mpQ nh9
   subst hM
   exact retC_view (lfQA (And.intro ha8 (And.intro h5 h9)))
set_option maxHeartbeats 2000000 in
set_option maxRecDepth 100000 in
theorem draw_source_result_ok   (s_ : S_draw_source)  : CallIn En 231 [.ptr 0 0] [.var 34 true ((e_draw_source s_))] (.tup [.agg (.int .u8 (gt (draw_source_result s_).1.Seed 0) :: .int .u8 (gt (draw_source_result s_).1.Seed 1) :: .int .u8 (gt (draw_source_result s_).1.Seed 2) :: .int .u8 (gt (draw_source_result s_).1.Seed 3) :: .int .u8 (gt (draw_source_result s_).1.Seed 4) :: .int .u8 (gt (draw_source_result s_).1.Seed 5) :: .int .u8 (gt (draw_source_result s_).1.Seed 6) :: .int .u8 (gt (draw_source_result s_).1.Seed 7) :: .int .u8 (gt (draw_source_result s_).1.Seed 8) :: .int .u8 (gt (draw_source_result s_).1.Seed 9) :: .int .u8 (gt (draw_source_result s_).1.Seed 10) :: .int .u8 (gt (draw_source_result s_).1.Seed 11) :: .int .u8 (gt (draw_source_result s_).1.Seed 12) :: .int .u8 (gt (draw_source_result s_).1.Seed 13) :: .int .u8 (gt (draw_source_result s_).1.Seed 14) :: .int .u8 (gt (draw_source_result s_).1.Seed 15) :: .int .u8 (gt (draw_source_result s_).1.Seed 16) :: .int .u8 (gt (draw_source_result s_).1.Seed 17) :: .int .u8 (gt (draw_source_result s_).1.Seed 18) :: .int .u8 (gt (draw_source_result s_).1.Seed 19) :: .int .u8 (gt (draw_source_result s_).1.Seed 20) :: .int .u8 (gt (draw_source_result s_).1.Seed 21) :: .int .u8 (gt (draw_source_result s_).1.Seed 22) :: .int .u8 (gt (draw_source_result s_).1.Seed 23) :: .int .u8 (gt (draw_source_result s_).1.Seed 24) :: .int .u8 (gt (draw_source_result s_).1.Seed 25) :: .int .u8 (gt (draw_source_result s_).1.Seed 26) :: .int .u8 (gt (draw_source_result s_).1.Seed 27) :: .int .u8 (gt (draw_source_result s_).1.Seed 28) :: .int .u8 (gt (draw_source_result s_).1.Seed 29) :: .int .u8 (gt (draw_source_result s_).1.Seed 30) :: .int .u8 (gt (draw_source_result s_).1.Seed 31) :: .int .i64 (draw_source_result s_).1.Counter :: []), .int .i64 (draw_source_result s_).2.1]) [.var 34 true (.agg (.int .u8 (gt (draw_source_result s_).2.2.d.Seed 0) :: .int .u8 (gt (draw_source_result s_).2.2.d.Seed 1) :: .int .u8 (gt (draw_source_result s_).2.2.d.Seed 2) :: .int .u8 (gt (draw_source_result s_).2.2.d.Seed 3) :: .int .u8 (gt (draw_source_result s_).2.2.d.Seed 4) :: .int .u8 (gt (draw_source_result s_).2.2.d.Seed 5) :: .int .u8 (gt (draw_source_result s_).2.2.d.Seed 6) :: .int .u8 (gt (draw_source_result s_).2.2.d.Seed 7) :: .int .u8 (gt (draw_source_result s_).2.2.d.Seed 8) :: .int .u8 (gt (draw_source_result s_).2.2.d.Seed 9) :: .int .u8 (gt (draw_source_result s_).2.2.d.Seed 10) :: .int .u8 (gt (draw_source_result s_).2.2.d.Seed 11) :: .int .u8 (gt (draw_source_result s_).2.2.d.Seed 12) :: .int .u8 (gt (draw_source_result s_).2.2.d.Seed 13) :: .int .u8 (gt (draw_source_result s_).2.2.d.Seed 14) :: .int .u8 (gt (draw_source_result s_).2.2.d.Seed 15) :: .int .u8 (gt (draw_source_result s_).2.2.d.Seed 16) :: .int .u8 (gt (draw_source_result s_).2.2.d.Seed 17) :: .int .u8 (gt (draw_source_result s_).2.2.d.Seed 18) :: .int .u8 (gt (draw_source_result s_).2.2.d.Seed 19) :: .int .u8 (gt (draw_source_result s_).2.2.d.Seed 20) :: .int .u8 (gt (draw_source_result s_).2.2.d.Seed 21) :: .int .u8 (gt (draw_source_result s_).2.2.d.Seed 22) :: .int .u8 (gt (draw_source_result s_).2.2.d.Seed 23) :: .int .u8 (gt (draw_source_result s_).2.2.d.Seed 24) :: .int .u8 (gt (draw_source_result s_).2.2.d.Seed 25) :: .int .u8 (gt (draw_source_result s_).2.2.d.Seed 26) :: .int .u8 (gt (draw_source_result s_).2.2.d.Seed 27) :: .int .u8 (gt (draw_source_result s_).2.2.d.Seed 28) :: .int .u8 (gt (draw_source_result s_).2.2.d.Seed 29) :: .int .u8 (gt (draw_source_result s_).2.2.d.Seed 30) :: .int .u8 (gt (draw_source_result s_).2.2.d.Seed 31) :: .int .i64 (draw_source_result s_).2.2.d.Counter :: .bool (draw_source_result s_).2.2.full :: []))] [] := by
 generalize hM : draw_source_result s_ = r
 rw [draw_source_result.eq_1] at hM
 refine enterI En_ok En_mo noJ Tryz.func231 rfl Tryz.ntmps231 (by kernel_rfl) rfl fun ks hw hwB => ct_start ?_
 refine spQ ?_
 replace hw := nzQ hw
 try simp only [wfBs, wfB, decide_eq_true_eq, decide_eq_false_iff_not, Bool.and_eq_true, Bool.or_eq_true, Bool.not_eq_true', Bool.not_eq_false', beq_iff_eq, bne_iff_ne, beq_eq_false_iff_ne, bne_eq_false_iff_eq, ne_eq, Int.not_lt, Int.not_le, gt_iff_lt, ge_iff_le, List.length_map, wfL, wfV, and_true, true_and, LEN_eq, rng_i64, rng_u64, rng_u32, rng_i32, sl_len, st_len, List.length_append, List.length_cons, List.length_nil, List.length_replicate, rep_len, rowV_len, spl_len, cutN_len, arrN_len, nat8_len, remI_nn] at hwB
 refine condC_intro (fun h1 => ?_) (fun h1 => ?_)
 ·rw [if_pos h1] at hM
  refine spQA h1 ?_
  have nh1 := nzQ h1
  try have hr2 := mpQ nh1
  subst hM
  exact retCI_in [0] (by simp only [go_sem, rowV_eq, rowV_eq0, List.length_replicate, rep_len, Int.toNat_natCast, ↓reduceIte, Nat.reduceEqDiff, Nat.reduceAdd, Int.reduceAdd, Nat.reduceMul, Nat.reduceLeDiff, Nat.reduceLT, Int.reduceLE, Int.reduceLT, Int.reduceNeg, Int.reduceToNat, mt, mtL, mtL_self, mt_self, mtZ, and_self, eq_self, or_true, true_or, map_st, gt_cons0, gt_conss, Int.reduceSub, or_self, h1]) (by decide) (by simp only [go_sem, rowV_eq, rowV_eq0, List.length_replicate, rep_len, Int.toNat_natCast, ↓reduceIte, Nat.reduceEqDiff, Nat.reduceAdd, Int.reduceAdd, Nat.reduceMul, Nat.reduceLeDiff, Nat.reduceLT, Int.reduceLE, Int.reduceLT, Int.reduceNeg, Int.reduceToNat, mt, mtL, mtL_self, mt_self, mtZ, and_self, eq_self, or_true, true_or, map_st, gt_cons0, gt_conss, Int.reduceSub, or_self, h1])
 ·rw [if_neg (ne_true h1)] at hM
  refine spQA h1 ?_
  have nh1 := nzQ h1
  try have hr3 := mpQ nh1
  subst hM
  exact retCI_in [0] (by simp only [go_sem, rowV_eq, rowV_eq0, List.length_replicate, rep_len, Int.toNat_natCast, ↓reduceIte, Nat.reduceEqDiff, Nat.reduceAdd, Int.reduceAdd, Nat.reduceMul, Nat.reduceLeDiff, Nat.reduceLT, Int.reduceLE, Int.reduceLT, Int.reduceNeg, Int.reduceToNat, mt, mtL, mtL_self, mt_self, mtZ, and_self, eq_self, or_true, true_or, map_st, gt_cons0, gt_conss, Int.reduceSub, or_self, h1]) (by decide) (by simp only [go_sem, rowV_eq, rowV_eq0, List.length_replicate, rep_len, Int.toNat_natCast, ↓reduceIte, Nat.reduceEqDiff, Nat.reduceAdd, Int.reduceAdd, Nat.reduceMul, Nat.reduceLeDiff, Nat.reduceLT, Int.reduceLE, Int.reduceLT, Int.reduceNeg, Int.reduceToNat, mt, mtL, mtL_self, mt_self, mtZ, and_self, eq_self, or_true, true_or, map_st, gt_cons0, gt_conss, Int.reduceSub, or_self, h1])
set_option maxHeartbeats 2000000 in
set_option maxRecDepth 100000 in
instance draw_List_ok   (d_ : S_api_Draw) (q : Int) (n_ : Int)  : CM En (draw_List d_ q n_) 228 [(e_api_Draw d_), .int .i64 q, .int .i64 n_] (fun y => .tup [(e_api_Draw y.1), .sl none 1 false (y.2.1.map (V.int .i64)), .int .i64 y.2.2]) (fun _ => []) := by
 refine cmQ fun r hM => ?_
 rw [draw_List.eq_1] at hM
 refine enterV En_ok En_mo [4] Tryz.func228 rfl Tryz.ntmps228 (by kernel_rfl) fun hw => ct_start ?_
 refine spQ ?_
 replace hw := nzQ hw
 have hM0 := hM; clear hM; obtain ⟨x1, hx2, hM⟩ := letk_opn hM0; clear hM0
 have hcx1 := cmU hx2
 refine callC_give hcx1 clQ clQ (fun hw3 => ?_)
 replace hw3 := nzQ hw3
 refine spQ ?_
 have hq4 := check_rng hx2
 replace hq4 := nzQ hq4
 have hM0 := hM; clear hM; obtain ⟨j5, hj5, hM⟩ := letj_opn hM0; clear hM0
 refine seqC_intro (fun S => ∃ p : Int, S = (⟨[(1, .int .i64 q), (2, .int .i64 n_), (3, .ptr 0 0), (6, .ptr 1 0), (9, .int .i64 p)], [(0, .var 33 true ((e_api_Draw d_))), (1, .var 33 true (zv_145))], 2⟩ : St) ∧ ((p ≠ 0 ∨ (1 ≤ q ∧ q ≤ 2305843009213693951 ∧ 0 ≤ n_ ∧ n_ ≤ 1000))) ∧ j5 p = r) ?_ (fun hcut5 => ?_)
 ·clear hM
  rintro S ⟨p5, rfl, hfa5, hM⟩
  replace hfa5 := nzQ hfa5
  have hM0 := hM; clear hM; have hM := letj_use hM0 hj5; clear hM0
  try refine spQ ?_
  refine condC_intro (fun h6 => ?_) (fun h6 => ?_)
  ·rw [if_pos h6] at hM
   refine spQA h6 ?_
   have nh6 := nzQ h6
   try have hr7 := mpQ nh6
   subst hM
   exact retC_view (lfQA h6)
  ·rw [if_neg (ne_true h6)] at hM
   refine spQA h6 ?_
   have nh6 := nzQ h6
   try have hr8 := mpQ nh6
   have hM0 := hM; clear hM; obtain ⟨f9, d9, hf9, hd9, hM⟩ := iter_opn hM0; clear hM0
   refine ct_loopW (fun n S => ∃ p : Int × S_draw_source × List Int, S = (⟨[(1, .int .i64 q), (3, .ptr 0 0), (6, .ptr 1 0), (10, .ptr 2 0), (11, .own 3), (27, .int .i64 n_), (28, .int .i64 p.1)], [(0, .var 33 true ((e_api_Draw d_))), (1, .var 33 true (zv_145)), (2, .var 34 true ((e_draw_source p.2.1))), (3, .own 3 1 false none (p.2.2.map (V.int .i64)))], 4⟩ : St) ∧ ((0 ≤ p.1) ∧ (p.1 ≤ n_) ∧ (((p.2.2).length : Int) ≤ p.1)) ∧ (n_ - p.1).toNat < n ∧ iter n f9 d9 p = r) ((n_ - 0).toNat + 1) _ _ (weak_nil 11 3 rfl (by decide)) sbQ sbQ ⟨(0, ({ d := d_, full := false } : S_draw_source), ([] : List Int)), rfl, ⟨omQ, omQ, omQ⟩, (Nat.lt_succ_self _), hM⟩ ?_
   clear hM
   rintro n9 S ⟨p9, rfl, hfa9, hm9, hM⟩
   have hM0 := hM; clear hM; obtain ⟨ag9, hag9, hM⟩ := iter_step hM0 (by omega) hf9; clear hM0
   replace hfa9 := nzQ hfa9
   replace hm9 := nzQ hm9
   have ha9 : addI .i64 p9.1 1 = p9.1 + 1 := add_one omQ omQ
   refine spQA ha9 ?_
   refine condC_intro (fun h10 => ?_) (fun h10 => ?_)
   ·rw [if_pos h10] at hM
    refine spQA (And.intro ha9 h10) ?_
    have nh10 := nzQ h10
    try have hr11 := mpQ nh10
    have hM0 := hM; clear hM; obtain ⟨x12, hx13, hM⟩ := letk_opn hM0; clear hM0
    have hcx12 := draw_source_number_ok  (p9.2.1) q (by (exact pfQ)) (by (exact pfQ))
    rw [← hx13] at hcx12
    refine callC_in [2] hcx12 (by decide) (by simp only [go_sem, rowV_eq, rowV_eq0, List.length_replicate, rep_len, Int.toNat_natCast, ↓reduceIte, Nat.reduceEqDiff, Nat.reduceAdd, Int.reduceAdd, Nat.reduceMul, Nat.reduceLeDiff, Nat.reduceLT, Int.reduceLE, Int.reduceLT, Int.reduceNeg, Int.reduceToNat, mt, mtL, mtL_self, mt_self, mtZ, and_self, eq_self, or_true, true_or, ha9]) (by simp only [go_sem, rowV_eq, rowV_eq0, List.length_replicate, rep_len, Int.toNat_natCast, ↓reduceIte, Nat.reduceEqDiff, Nat.reduceAdd, Int.reduceAdd, Nat.reduceMul, Nat.reduceLeDiff, Nat.reduceLT, Int.reduceLE, Int.reduceLT, Int.reduceNeg, Int.reduceToNat, mt, mtL, mtL_self, mt_self, mtZ, and_self, eq_self, or_true, true_or, ha9]) (fun hw14 => ?_)
    replace hw14 := nzQ hw14
    refine spQA ha9 ?_
    have hF := (And.intro h6 (And.intro ha9 h10))
    exact auQ
   ·rw [if_neg (ne_true h10)] at hM
    refine spQA (And.intro ha9 h10) ?_
    have nh10 := nzQ h10
    try have hr15 := mpQ nh10
    have hM0 := hM; clear hM; obtain ⟨x16, hx17, hM⟩ := letk_opn hM0; clear hM0
    have hcx16 := draw_source_result_ok  (p9.2.1) 
    rw [← hx17] at hcx16
    refine callC_in [2] hcx16 (by decide) (by simp only [go_sem, rowV_eq, rowV_eq0, List.length_replicate, rep_len, Int.toNat_natCast, ↓reduceIte, Nat.reduceEqDiff, Nat.reduceAdd, Int.reduceAdd, Nat.reduceMul, Nat.reduceLeDiff, Nat.reduceLT, Int.reduceLE, Int.reduceLT, Int.reduceNeg, Int.reduceToNat, mt, mtL, mtL_self, mt_self, mtZ, and_self, eq_self, or_true, true_or, ha9]) (by simp only [go_sem, rowV_eq, rowV_eq0, List.length_replicate, rep_len, Int.toNat_natCast, ↓reduceIte, Nat.reduceEqDiff, Nat.reduceAdd, Int.reduceAdd, Nat.reduceMul, Nat.reduceLeDiff, Nat.reduceLT, Int.reduceLE, Int.reduceLT, Int.reduceNeg, Int.reduceToNat, mt, mtL, mtL_self, mt_self, mtZ, and_self, eq_self, or_true, true_or, ha9]) (fun hw18 => ?_)
    replace hw18 := nzQ hw18
    refine spQA ha9 ?_
    have hF := (And.intro h6 (And.intro ha9 h10))
    exact auQ
 ·refine spQ ?_
  refine condC_intro (fun h22 => ?_) (fun h22 => ?_)
  ·rw [if_pos h22] at hM
   refine spQA h22 ?_
   have nh22 := nzQ h22
   try have hr23 := mpQ nh22
   have hM0 := hM; clear hM; obtain ⟨x24, hx25, hM⟩ := letk_opn hM0; clear hM0
   have hcx24 := cmU hx25
   refine callC_give hcx24 clQ clQ (fun hw26 => ?_)
   replace hw26 := nzQ hw26
   refine spQ ?_
   have hq27 := check_rng hx25
   replace hq27 := nzQ hq27
   exact cut_intro _ sbQ sbQ (hcut5 _ ⟨x24, rfl, omQ, hM⟩)
  ·rw [if_neg (ne_true h22)] at hM
   refine spQA h22 ?_
   have nh22 := nzQ h22
   try have hr28 := mpQ nh22
   exact cut_intro _ sbQ sbQ (hcut5 _ ⟨x1, rfl, omQ, hM⟩)
instance (priority := 1004) : DRD 1 20 13 [5, 7, 8, 9, 10, 11, 12, 13, 14, 15, 16, 17, 18] [] ([[], [0], [], [2], [], [4], [2, 3, 4, 5], [], [0, 1, 2, 3, 4, 5, 6, 7], [0, 1, 2, 3, 4, 5, 6, 7, 8], [0, 1, 2, 3, 4, 5, 6, 7, 8, 9], [0, 1, 2, 3, 4, 5, 6, 7, 8, 9], [0, 1, 2, 3, 4, 5, 6, 7, 8, 9, 10]] ++ [List.range 13]) [] := ⟨trivial⟩
set_option maxHeartbeats 2000000 in
set_option maxRecDepth 100000 in
instance coin_leaf_ok   (b : S_api_Bases) (x_ : (List Int))  : CM En (coin_leaf b x_) 62 [(e_api_Bases b), .agg [.int .i64 (gt x_ 0), .int .i64 (gt x_ 1)]] (fun y => .int .i64 y) (fun _ => []) := by
 refine cmQ fun r hM => ?_
 rw [coin_leaf.eq_1] at hM
 refine enterV En_ok En_mo [1] Tryz.func62 rfl Tryz.ntmps62 (by kernel_rfl) fun hw => ct_start ?_
 refine spQ ?_
 replace hw := nzQ hw
 refine seqC_pass ?_
 try refine spQ ?_
 refine cut_weakW _ (⟨[(2, .ptr 0 0), (3, .ptr 1 0)], [(0, .var 6 true ((e_api_Bases b))), (1, .pvar 2 true (.agg [.int .i64 (gt x_ 0), .int .i64 (gt x_ 1)]))], 2⟩ : St) (weak_pubv (S := ⟨_, _, _⟩) 1 (n := 2) (g := true) (d := .agg [.int .i64 (gt x_ 0), .int .i64 (gt x_ 1)]) clQ clQ) sbQ sbQ ?_
 try refine spQ ?_
 have hF := trueQ
 exact auQ
set_option maxHeartbeats 2000000 in
set_option maxRecDepth 100000 in
instance coin_Secrets_ok   (b : S_api_Bases) (u : Int) (depth : Int) (d_ : S_api_Draw)  : CM En (coin_Secrets b u depth d_) 166 [(e_api_Bases b), .int .i64 u, .int .i64 depth, (e_api_Draw d_)] (fun y => .tup [.agg [.int .i64 y.1.U, .int .i64 y.1.S, .sl none 2 true (y.1.X.map (fun l => .agg [.int .i64 (gt l 0), .int .i64 (gt l 1)]))], (e_api_Draw y.2.1), .int .i64 y.2.2]) (fun _ => []) := by
 refine cmQ fun r hM => ?_
 rw [coin_Secrets.eq_1] at hM
 refine enterV En_ok En_mo noJ Tryz.func166 rfl Tryz.ntmps166 (by kernel_rfl) fun hw => ct_start ?_
 refine spQ ?_
 replace hw := nzQ hw
 have h0_0 := shl_dep (d := depth)
 have hM0 := hM; clear hM; obtain ⟨x1, hx2, hM⟩ := letk_opn hM0; clear hM0
 have hcx1 := cmU hx2
 refine callC_give hcx1 clQ clQ (fun hw3 => ?_)
 replace hw3 := nzQ hw3
 refine spQ ?_
 refine guardC_f (fun h4 => ?_) (fun h4 => ?_)
 ·rw [if_neg (ne_true h4)] at hM
  refine spQA h4 ?_
  have nh4 := nzQ h4
  try have hr5 := mpQ nh4
  have hM0 := hM; clear hM; obtain ⟨x6, hx7, hM⟩ := letk_opn hM0; clear hM0
  have hcx6 := cmU hx7
  refine callC_give hcx6 clQ clQ (fun hw8 => ?_)
  replace hw8 := nzQ hw8
  refine spQ ?_
  refine condC_intro (fun h9 => ?_) (fun h9 => ?_)
  ·rw [if_pos h9] at hM
   refine spQA h9 ?_
   have nh9 := nzQ h9
   try have hr10 := mpQ nh9
   subst hM
   exact retC_view (lfQA (And.intro h4 h9))
  ·rw [if_neg (ne_true h9)] at hM
   refine spQA h9 ?_
   have nh9 := nzQ h9
   try have hr11 := mpQ nh9
   have hM0 := hM; clear hM; obtain ⟨x12, hx13, hM⟩ := letk_opn hM0; clear hM0
   have hcx12 := cmU hx13
   refine callC_give hcx12 clQ clQ (fun hw14 => ?_)
   replace hw14 := nzQ hw14
   refine spQ ?_
   refine guardC_f (fun h15 => ?_) (fun h15 => ?_)
   ·rw [if_neg (ne_true h15)] at hM
    refine spQA h15 ?_
    have nh15 := nzQ h15
    try have hr16 := mpQ nh15
    have hM0 := hM; clear hM; obtain ⟨x17, hx18, hM⟩ := letk_opn hM0; clear hM0
    have hcx17 := cmU hx18
    refine callC_give hcx17 clQ clQ (fun hw19 => ?_)
    replace hw19 := nzQ hw19
    refine spQ ?_
    refine guardC_f (fun h20 => ?_) (fun h20 => ?_)
    ·rw [if_neg (ne_true h20)] at hM
     refine spQA h20 ?_
     have nh20 := nzQ h20
     try have hr21 := mpQ nh20
     refine guardC_f (fun h22 => ?_) (fun h22 => ?_)
     ·rw [if_neg (ne_true h22)] at hM
      refine spQA h22 ?_
      have nh22 := nzQ h22
      try have hr23 := mpQ nh22
      refine condC_intro (fun h24 => ?_) (fun h24 => ?_)
      ·rw [if_pos h24] at hM
       refine spQA h24 ?_
       have nh24 := nzQ h24
       try have hr25 := mpQ nh24
       subst hM
       exact retC_view (lfQA (And.intro h4 (And.intro h9 (And.intro h15 (And.intro h20 (And.intro h22 h24))))))
      ·rw [if_neg (ne_true h24)] at hM
       refine spQA h24 ?_
       have nh24 := nzQ h24
       try have hr26 := mpQ nh24
       have hM0 := hM; clear hM; obtain ⟨x27, hx28, hM⟩ := letk_opn hM0; clear hM0
       have hcx27 := cmU hx28
       refine callC_give hcx27 clQ clQ (fun hw29 => ?_)
       replace hw29 := nzQ hw29
       refine spQ ?_
       refine bindC_intro omQ ?_
       refine spQ ?_
       have hM0 := hM; clear hM; obtain ⟨f30, d30, hf30, hd30, hM⟩ := iter_opn hM0; clear hM0
       refine ct_loopW (fun n S => ∃ p : Int × Int × S_api_Draw × S_api_CoinSecret × S_api_Draw × List (List Int) × List (List Int), S = (⟨[(4, .ptr 0 0), (7, .ptr 1 0), (8, .ptr 2 0), (9, .ptr 3 0), (11, .int .i64 b.Group.Q), (13, .int .i64 p.1), (14, .ptr 4 0), (15, .own 5), (66, .int .i64 (shlI .i64 1 depth)), (67, .int .i64 p.2.1)], [(0, .var 6 true ((e_api_Bases b))), (1, .var 33 true ((e_api_Draw p.2.2.1))), (2, .var 3 true (.agg [.int .i64 p.2.2.2.1.U, .int .i64 p.2.2.2.1.S, .sl none 2 true (p.2.2.2.1.X.map (fun l => .agg [.int .i64 (gt l 0), .int .i64 (gt l 1)]))])), (3, .var 33 true ((e_api_Draw p.2.2.2.2.1))), (4, .var 3 true (.agg [.int .i64 u, .int .i64 x27.2.1, .own 6])), (5, .kset false .i64 1 p.2.2.2.2.2.1), (6, .own 57 2 true none (p.2.2.2.2.2.2.map (fun l => .agg [.int .i64 (gt l 0), .int .i64 (gt l 1)])))], 7⟩ : St) ∧ ((0 ≤ p.2.1) ∧ (p.2.1 ≤ (shlI .i64 1 depth)) ∧ (((p.2.2.2.2.2.2).length : Int) ≤ 256 * p.2.1)) ∧ ((shlI .i64 1 depth) - p.2.1).toNat < n ∧ iter n f30 d30 p = r) (((shlI .i64 1 depth) - 0).toNat + 1) _ _ (weak_nilV 4 2 57 rfl rfl (by decide)) sbQ (by simp only [go_sem, rowV_eq, rowV_eq0, List.length_replicate, rep_len, Int.toNat_natCast, ↓reduceIte, Nat.reduceEqDiff, Nat.reduceAdd, Int.reduceAdd, Nat.reduceMul, Nat.reduceLeDiff, Nat.reduceLT, Int.reduceLE, Int.reduceLT, Int.reduceNeg, Int.reduceToNat, List.isEmpty_nil, map_st, mtL_repE, mtL_repM, subF, subH, mtO, mtB, mt, mtL, mtL_self, mt_self, ltV, ltL, ltB, eq_self, or_true, true_or, or_self, and_self, gt_cons0, gt_conss, Int.reduceSub]) ⟨(x27.2.2, 0, x27.1, z_api_CoinSecret, z_api_Draw, ([] : List (List Int)), ([] : List (List Int))), rfl, ⟨omQ, omQ, omQ⟩, (Nat.lt_succ_self _), hM⟩ ?_
       clear hM
       rintro n30 S ⟨p30, rfl, hfa30, hm30, hM⟩
       have hM0 := hM; clear hM; obtain ⟨ag30, hag30, hM⟩ := iter_step hM0 (by omega) hf30; clear hM0
       replace hfa30 := nzQ hfa30
       replace hm30 := nzQ hm30
       have ha30 : addI .i64 p30.2.1 1 = p30.2.1 + 1 := add_one omQ omQ
       refine spQA ha30 ?_
       refine condC_intro (fun h31 => ?_) (fun h31 => ?_)
       ·rw [if_pos h31] at hM
        refine spQA (And.intro ha30 h31) ?_
        have nh31 := nzQ h31
        try have hr32 := mpQ nh31
        have hM0 := hM; clear hM; obtain ⟨f33, d33, hf33, hd33, hM⟩ := iter_opn hM0; clear hM0
        refine ct_loop (fun n S => ∃ p : Int × Bool × Int × S_api_Draw × List (List Int) × List (List Int), S = (⟨[(4, .ptr 0 0), (7, .ptr 1 0), (8, .ptr 2 0), (9, .ptr 3 0), (11, .int .i64 b.Group.Q), (13, .int .i64 p.1), (14, .ptr 4 0), (15, .own 5), (16, .bool p.2.1), (17, .int .i64 p.2.2.1), (66, .int .i64 (shlI .i64 1 depth)), (67, .int .i64 p30.2.1)], [(0, .var 6 true ((e_api_Bases b))), (1, .var 33 true ((e_api_Draw p.2.2.2.1))), (2, .var 3 true (.agg [.int .i64 p30.2.2.2.1.U, .int .i64 p30.2.2.2.1.S, .sl none 2 true (p30.2.2.2.1.X.map (fun l => .agg [.int .i64 (gt l 0), .int .i64 (gt l 1)]))])), (3, .var 33 true ((e_api_Draw p30.2.2.2.2.1))), (4, .var 3 true (.agg [.int .i64 u, .int .i64 x27.2.1, .own 6])), (5, .kset false .i64 1 p.2.2.2.2.1), (6, .own 57 2 true none (p.2.2.2.2.2.map (fun l => .agg [.int .i64 (gt l 0), .int .i64 (gt l 1)])))], 7⟩ : St) ∧ ((0 ≤ p.2.2.1) ∧ (p.2.2.1 ≤ 256) ∧ (((p.2.2.2.2.2).length : Int) ≤ 256 * p30.2.1 + p.2.2.1)) ∧ ((256 : Int) - p.2.2.1).toNat < n ∧ iter n f33 d33 p = r) (((256 : Int) - 0).toNat + 1) _ sbQ sbQ ⟨(p30.1, false, 0, p30.2.2.1, p30.2.2.2.2.2.1, p30.2.2.2.2.2.2), rfl, ⟨omQ, omQ, omQ⟩, (Nat.lt_succ_self _), hM⟩ ?_
        clear hM
        rintro n33 S ⟨p33, rfl, hfa33, hm33, hM⟩
        have hM0 := hM; clear hM; obtain ⟨ag33, hag33, hM⟩ := iter_step hM0 (by omega) hf33; clear hM0
        replace hfa33 := nzQ hfa33
        replace hm33 := nzQ hm33
        refine spQA ha30 ?_
        refine guardC_t (fun h34 => ?_) (fun h34 => ?_)
        ·rw [if_pos h34] at hM
         refine spQA (And.intro ha30 h34) ?_
         have nh34 := nzQ h34
         try have hr35 := mpQ nh34
         refine guardC_t (fun h36 => ?_) (fun h36 => ?_)
         ·rw [if_pos h36] at hM
          refine spQA (And.intro ha30 h36) ?_
          have nh36 := nzQ h36
          try have hr37 := mpQ nh36
          refine condC_intro (fun h38 => ?_) (fun h38 => ?_)
          ·rw [if_pos h38] at hM
           refine spQA (And.intro ha30 h38) ?_
           have nh38 := nzQ h38
           try have hr39 := mpQ nh38
           have hM0 := hM; clear hM; obtain ⟨x40, hx41, hM⟩ := letk_opn hM0; clear hM0
           have hcx40 := cmU hx41
           refine callC_give hcx40 (clQA ha30) (clQA ha30) (fun hw42 => ?_)
           replace hw42 := nzQ hw42
           refine spQA ha30 ?_
           have hq43 := list_len hx41
           replace hq43 := nzQ hq43
           refine condC_intro (fun h44 => ?_) (fun h44 => ?_)
           ·rw [if_pos h44] at hM
            refine spQA (And.intro ha30 h44) ?_
            have nh44 := nzQ h44
            try have hr45 := mpQ nh44
            try refine spQA (And.intro ha30 h36) ?_
            subst hM
            exact retC_view (lfQA (And.intro ha30 (And.intro h4 (And.intro h9 (And.intro h15 (And.intro h20 (And.intro h22 (And.intro h24 (And.intro h31 (And.intro h34 (And.intro h36 (And.intro h38 h44))))))))))))
           ·rw [if_neg (ne_true h44)] at hM
            refine spQA (And.intro ha30 h44) ?_
            have nh44 := nzQ h44
            try have hr46 := mpQ nh44
            refine ct_draw 119 8 [19, 90, 91, 92, 93, 94, 95, 96] [] ([[], [0], [0, 1], [], [3], [3, 4], [0, 1, 2, 3, 4, 5], []] ++ [List.range 8]) [] (by kernel_rfl) (by exact alQ) ?_
            refine spQA ha30 ?_
            refine hbindC_intro omQ ?_
            have he47 : ∀ d, elt (x40.2.1.map (V.int .i64)) 0 d = (V.int .i64) (gt x40.2.1 0) := fun d => elt_mp (l := x40.2.1) (f := (V.int .i64)) (i := 0) omQ d
            refine spQA (And.intro ha30 he47) ?_
            refine hbindC_intro omQ ?_
            have he48 : ∀ d, elt (x40.2.1.map (V.int .i64)) 1 d = (V.int .i64) (gt x40.2.1 1) := fun d => elt_mp (l := x40.2.1) (f := (V.int .i64)) (i := 1) omQ d
            refine spQA (And.intro ha30 (And.intro he47 he48)) ?_
            have hM0 := hM; clear hM; obtain ⟨x49, hx50, hM⟩ := letk_opn hM0; clear hM0
            have hcx49 := cmU hx50
            refine callC_give hcx49 (clQA (And.intro ha30 (And.intro he47 he48))) (clQA (And.intro ha30 (And.intro he47 he48))) (fun hw51 => ?_)
            replace hw51 := nzQ hw51
            refine spQA (And.intro ha30 (And.intro he47 he48)) ?_
            refine condC_intro (fun h52 => ?_) (fun h52 => ?_)
            ·rw [if_pos h52] at hM
             refine spQA (And.intro ha30 (And.intro he47 (And.intro he48 h52))) ?_
             have nh52 := nzQ h52
             try have hr53 := mpQ nh52
             refine bindC_intro omQ ?_
             refine spQA (And.intro ha30 (And.intro he47 he48)) ?_
             have ha54 : addI .i64 p33.2.2.1 1 = (p33.2.2.1 + 1) := add_ok omQ omQ
             try simp only [ha54]
             refine lp_intro (n33 - 1) _ (by omega) sbQ (by simp only [go_sem, rowV_eq, rowV_eq0, List.length_replicate, rep_len, Int.toNat_natCast, ↓reduceIte, Nat.reduceEqDiff, Nat.reduceAdd, Int.reduceAdd, Nat.reduceMul, Nat.reduceLeDiff, Nat.reduceLT, Int.reduceLE, Int.reduceLT, Int.reduceNeg, Int.reduceToNat, List.isEmpty_nil, map_st, mtL_repE, mtL_repM, subF, subH, mtO, mtB, mt, mtL, mtL_self, mt_self, ltV, ltL, ltB, eq_self, or_true, true_or, or_self, and_self, gt_cons0, gt_conss, Int.reduceSub]) ⟨(x40.2.2, true, (p33.2.2.1 + 1), x40.1, (addK p33.2.2.2.2.1 [x49]), (p33.2.2.2.2.2 ++ ([(arrN 2 x40.2.1)] : List (List Int)))), rfl, ⟨omQ, omQ, omQ⟩, omQ, iter_again hM hag33⟩
            ·rw [if_neg (ne_true h52)] at hM
             refine spQA (And.intro ha30 (And.intro he47 (And.intro he48 h52))) ?_
             have nh52 := nzQ h52
             try have hr55 := mpQ nh52
             have ha56 : addI .i64 p33.2.2.1 1 = (p33.2.2.1 + 1) := add_ok omQ omQ
             try simp only [ha56]
             refine lp_intro (n33 - 1) _ (by omega) sbQ sbQ ⟨(x40.2.2, p33.2.1, (p33.2.2.1 + 1), x40.1, p33.2.2.2.2.1, p33.2.2.2.2.2), rfl, ⟨omQ, omQ, omQ⟩, omQ, iter_again hM hag33⟩
          ·rw [if_neg (ne_true h38)] at hM
           refine spQA (And.intro ha30 h38) ?_
           have nh38 := nzQ h38
           try have hr57 := mpQ nh38
           try refine spQA (And.intro ha30 h36) ?_
           subst hM
           exact retC_view (lfQA (And.intro ha30 (And.intro h4 (And.intro h9 (And.intro h15 (And.intro h20 (And.intro h22 (And.intro h24 (And.intro h31 (And.intro h34 (And.intro h36 h38)))))))))))
         ·rw [if_neg (ne_true h36)] at hM
          refine spQA (And.intro ha30 h36) ?_
          have nh36 := nzQ h36
          try have hr58 := mpQ nh36
          try refine spQA (And.intro ha30 h36) ?_
          refine lp_intro (n30 - 1) _ (by omega) sbQ sbQ ⟨(p33.1, (p30.2.1 + 1), p33.2.2.2.1, p30.2.2.2.1, p30.2.2.2.2.1, p33.2.2.2.2.1, p33.2.2.2.2.2), rfl, ⟨omQ, omQ, omQ⟩, omQ, iter_again hM hag30⟩
        ·rw [if_neg (ne_true h34)] at hM
         refine spQA (And.intro ha30 h34) ?_
         have nh34 := nzQ h34
         try have hr59 := mpQ nh34
         refine condC_intro (fun h60 => ?_) (fun h60 => ?_)
         ·rw [if_pos h60] at hM
          refine spQA (And.intro ha30 h60) ?_
          have nh60 := nzQ h60
          try have hr61 := mpQ nh60
          subst hM
          exact retC_view (lfQA (And.intro ha30 (And.intro h4 (And.intro h9 (And.intro h15 (And.intro h20 (And.intro h22 (And.intro h24 (And.intro h31 (And.intro h34 h60))))))))))
         ·rw [if_neg (ne_true h60)] at hM
          refine spQA (And.intro ha30 h60) ?_
          have nh60 := nzQ h60
          try have hr62 := mpQ nh60
          refine lp_intro (n30 - 1) _ (by omega) sbQ sbQ ⟨(p33.1, (p30.2.1 + 1), p33.2.2.2.1, p30.2.2.2.1, p30.2.2.2.2.1, p33.2.2.2.2.1, p33.2.2.2.2.2), rfl, ⟨omQ, omQ, omQ⟩, omQ, iter_again hM hag30⟩
       ·rw [if_neg (ne_true h31)] at hM
        refine spQA (And.intro ha30 h31) ?_
        have nh31 := nzQ h31
        try have hr63 := mpQ nh31
        refine ct_draw 119 3 [117, 118] [] ([[], [], [0]] ++ [List.range 3, List.range 4]) [(2, 2)] (by kernel_rfl) (by exact alQ) ?_
        refine spQA ha30 ?_
        subst hM
        exact retC_view (lfQA (And.intro ha30 (And.intro h4 (And.intro h9 (And.intro h15 (And.intro h20 (And.intro h22 (And.intro h24 h31))))))))
     ·rw [if_pos h22] at hM
      refine spQA h22 ?_
      have nh22 := nzQ h22
      try have hr64 := mpQ nh22
      subst hM
      exact retC_view (lfQA (And.intro h4 (And.intro h9 (And.intro h15 (And.intro h20 h22)))))
    ·rw [if_pos h20] at hM
     refine spQA h20 ?_
     have nh20 := nzQ h20
     try have hr65 := mpQ nh20
     subst hM
     exact retC_view (lfQA (And.intro h4 (And.intro h9 (And.intro h15 h20))))
   ·rw [if_pos h15] at hM
    refine spQA h15 ?_
    have nh15 := nzQ h15
    try have hr66 := mpQ nh15
    subst hM
    exact retC_view (lfQA (And.intro h4 (And.intro h9 h15)))
 ·rw [if_pos h4] at hM
  refine spQA h4 ?_
  have nh4 := nzQ h4
  try have hr67 := mpQ nh4
  subst hM
  exact retC_view (lfQA h4)
set_option maxHeartbeats 2000000 in
set_option maxRecDepth 100000 in
instance draw_Next_ok   (d_ : S_api_Draw) (q : Int)  : CM En (draw_Next d_ q) 168 [(e_api_Draw d_), .int .i64 q] (fun y => .tup [(e_api_Draw y.1), .int .i64 y.2.1, .int .i64 y.2.2]) (fun _ => []) := by
 refine cmQ fun r hM => ?_
 rw [draw_Next.eq_1] at hM
 refine enterV En_ok En_mo noJ Tryz.func168 rfl Tryz.ntmps168 (by kernel_rfl) fun hw => ct_start ?_
 refine spQ ?_
 replace hw := nzQ hw
 have hM0 := hM; clear hM; obtain ⟨x1, hx2, hM⟩ := letk_opn hM0; clear hM0
 have hcx1 := cmU hx2
 refine callC_give hcx1 clQ clQ (fun hw3 => ?_)
 replace hw3 := nzQ hw3
 refine spQ ?_
 have hq4 := check_rng hx2
 replace hq4 := nzQ hq4
 refine condC_intro (fun h5 => ?_) (fun h5 => ?_)
 ·rw [if_pos h5] at hM
  refine spQA h5 ?_
  have nh5 := nzQ h5
  try have hr6 := mpQ nh5
  subst hM
  exact retC_view (lfQA h5)
 ·rw [if_neg (ne_true h5)] at hM
  refine spQA h5 ?_
  have nh5 := nzQ h5
  try have hr7 := mpQ nh5
  have hM0 := hM; clear hM; obtain ⟨x8, hx9, hM⟩ := letk_opn hM0; clear hM0
  have hcx8 := draw_source_number_ok  ({ d := d_, full := false } : S_draw_source) q (by (exact pfQ)) (by (exact pfQ))
  rw [← hx9] at hcx8
  refine callC_in [2] hcx8 (by decide) (by simp only [go_sem, rowV_eq, rowV_eq0, List.length_replicate, rep_len, Int.toNat_natCast, ↓reduceIte, Nat.reduceEqDiff, Nat.reduceAdd, Int.reduceAdd, Nat.reduceMul, Nat.reduceLeDiff, Nat.reduceLT, Int.reduceLE, Int.reduceLT, Int.reduceNeg, Int.reduceToNat, mt, mtL, mtL_self, mt_self, mtZ, and_self, eq_self, or_true, true_or]) (by simp only [go_sem, rowV_eq, rowV_eq0, List.length_replicate, rep_len, Int.toNat_natCast, ↓reduceIte, Nat.reduceEqDiff, Nat.reduceAdd, Int.reduceAdd, Nat.reduceMul, Nat.reduceLeDiff, Nat.reduceLT, Int.reduceLE, Int.reduceLT, Int.reduceNeg, Int.reduceToNat, mt, mtL, mtL_self, mt_self, mtZ, and_self, eq_self, or_true, true_or]) (fun hw10 => ?_)
  replace hw10 := nzQ hw10
  refine spQ ?_
  have hM0 := hM; clear hM; obtain ⟨x11, hx12, hM⟩ := letk_opn hM0; clear hM0
  have hcx11 := draw_source_result_ok  (x8.2) 
  rw [← hx12] at hcx11
  refine callC_in [2] hcx11 (by decide) (by simp only [go_sem, rowV_eq, rowV_eq0, List.length_replicate, rep_len, Int.toNat_natCast, ↓reduceIte, Nat.reduceEqDiff, Nat.reduceAdd, Int.reduceAdd, Nat.reduceMul, Nat.reduceLeDiff, Nat.reduceLT, Int.reduceLE, Int.reduceLT, Int.reduceNeg, Int.reduceToNat, mt, mtL, mtL_self, mt_self, mtZ, and_self, eq_self, or_true, true_or]) (by simp only [go_sem, rowV_eq, rowV_eq0, List.length_replicate, rep_len, Int.toNat_natCast, ↓reduceIte, Nat.reduceEqDiff, Nat.reduceAdd, Int.reduceAdd, Nat.reduceMul, Nat.reduceLeDiff, Nat.reduceLT, Int.reduceLE, Int.reduceLT, Int.reduceNeg, Int.reduceToNat, mt, mtL, mtL_self, mt_self, mtZ, and_self, eq_self, or_true, true_or]) (fun hw13 => ?_)
  replace hw13 := nzQ hw13
  refine spQ ?_
  subst hM
  exact retC_view (lfQA h5)
set_option maxHeartbeats 2000000 in
set_option maxRecDepth 100000 in
instance encode_Ints_ok   (l : (List Int))  : CM En (encode_Ints l) 118 [.sl none 1 false (l.map (V.int .i64))] (fun y => .agg [.int .i64 y.Kind, .int .i64 y.N, .sl none 1 false (y.B.map (V.int .u8)), .sl none 4 true (y.L.map e_api_Item)]) (fun _ => []) := by
 refine cmQ fun r hM => ?_
 rw [encode_Ints.eq_1] at hM
 refine enterV En_ok En_mo noJ Tryz.func118 rfl Tryz.ntmps118 (by kernel_rfl) fun hw => ct_start ?_
 refine spQ ?_
 replace hw := nzQ hw
 have hM0 := hM; clear hM; obtain ⟨f1, d1, hf1, hd1, hM⟩ := iter_opn hM0; clear hM0
 refine ct_loopW (fun n S => ∃ p : Int × List S_api_Item, S = (⟨[(2, .ptr 0 0), (3, .ptr 1 0), (7, .sl none 1 false (l.map (V.int .i64))), (8, .int .i64 (l.length : Int)), (9, .int .i64 p.1)], [(0, .var 4 true (.agg [.int .i64 0, .int .i64 0, .sl (some true) 1 false [], .sl (some true) 4 true []])), (1, .var 4 true (.agg [.int .i64 3, .int .i64 0, .sl (some true) 1 false [], .own 2])), (2, .own 90 4 true none (p.2.map e_api_Item))], 3⟩ : St) ∧ ((0 ≤ p.1) ∧ (p.1 ≤ (l.length : Int)) ∧ (((p.2).length : Int) ≤ p.1)) ∧ ((l.length : Int) - p.1).toNat < n ∧ iter n f1 d1 p = r) (((l.length : Int) - 0).toNat + 1) _ _ (weak_nilV 1 3 90 rfl rfl (by decide)) sbQ sbQ ⟨(0, ([] : List S_api_Item)), rfl, ⟨omQ, omQ, omQ⟩, (Nat.lt_succ_self _), hM⟩ ?_
 clear hM
 rintro n1 S ⟨p1, rfl, hfa1, hm1, hM⟩
 have hM0 := hM; clear hM; obtain ⟨ag1, hag1, hM⟩ := iter_step hM0 (by omega) hf1; clear hM0
 replace hfa1 := nzQ hfa1
 replace hm1 := nzQ hm1
 have ha1 : addI .i64 p1.1 1 = p1.1 + 1 := add_one omQ omQ
 refine spQA ha1 ?_
 have hF := ha1
 exact auQ
set_option maxHeartbeats 2000000 in
set_option maxRecDepth 100000 in
theorem encode_within_1_ok (N : Nat) (ih : ∀  (i_ : S_api_Item) (depth : Int), hgt i_ < N → CallOk En 192 [.agg [.int .i64 i_.Kind, .int .i64 i_.N, .sl none 1 false (i_.B.map (V.int .u8)), .sl none 4 true (i_.L.map e_api_Item)], .int .i64 depth] (.bool (withinM i_ depth)) [])  (x_ : S_api_Item) (c0 : Int) (hp0 : hgt x_ < N) (hp1 : 0 < c0) : CallOk En 243 [.agg [.int .i64 x_.Kind, .int .i64 x_.N, .sl none 1 false (x_.B.map (V.int .u8)), .sl none 4 true (x_.L.map e_api_Item)], .pp 1 false (.int .i64 c0)] (.bool (encode_within_1 x_ c0)) [] := by
 generalize hM : encode_within_1 x_ c0 = r
 rw [encode_within_1.eq_1] at hM
 refine enterV En_ok En_mo noJ Tryz.func243 rfl Tryz.ntmps243 (by kernel_rfl) fun hw => ct_start ?_
 refine spQ ?_
 replace hw := nzQ hw
 have ha1 : subI .i64 c0 1 = (c0 - 1) := sub_ok omQ omQ
 try simp only [ha1]
 have hM0 := hM; clear hM; obtain ⟨x2, hx3, hM⟩ := letk_opn hM0; clear hM0
 have hcx2 := ih  x_ (c0 - 1)  (by omega)
 rw [← hx3] at hcx2
 refine callC_give hcx2 (clQA ha1) (clQA ha1) (fun hw4 => ?_)
 replace hw4 := nzQ hw4
 refine spQA ha1 ?_
 subst hM
 exact retC_view (lfQA ha1)
set_option maxHeartbeats 2000000 in
set_option maxRecDepth 100000 in
theorem slices_IndexFunc_api_Item_api_Item_at_encode_within_1_ok (N : Nat) (ih : ∀  (i_ : S_api_Item) (depth : Int), hgt i_ < N → CallOk En 192 [.agg [.int .i64 i_.Kind, .int .i64 i_.N, .sl none 1 false (i_.B.map (V.int .u8)), .sl none 4 true (i_.L.map e_api_Item)], .int .i64 depth] (.bool (withinM i_ depth)) []) (z0 : Option Bool) (s : (List S_api_Item)) (f__c0 : Int) (hp0 : ∀ x ∈ s, hgt x < N) (hp1 : 0 < f__c0) : CallOk En 273 [.sl z0 4 true (s.map e_api_Item), .fn 243 [.pp 1 false (.int .i64 f__c0)]] (.int .i64 (slices_IndexFunc_api_Item_api_Item_at_encode_within_1 s f__c0)) [] := by
 generalize hM : slices_IndexFunc_api_Item_api_Item_at_encode_within_1 s f__c0 = r
 rw [slices_IndexFunc_api_Item_api_Item_at_encode_within_1.eq_1] at hM
 refine enterV En_ok En_mo noJ Tryz.func273 rfl Tryz.ntmps273 (by kernel_rfl) fun hw => ct_start ?_
 refine spQ ?_
 replace hw := nzQ hw
 have hM0 := hM; clear hM; obtain ⟨f1, d1, hf1, hd1, hM⟩ := iter_opn hM0; clear hM0
 refine ct_loop (fun n S => ∃ p : Int, S = (⟨[(0, .sl z0 4 true (s.map e_api_Item)), (1, .fn 243 [.pp 1 false (.int .i64 f__c0)]), (7, .int .i64 (s.length : Int)), (8, .int .i64 p)], [], 0⟩ : St) ∧ ((0 ≤ p) ∧ (p ≤ (s.length : Int))) ∧ ((s.length : Int) - p).toNat < n ∧ iter n f1 d1 p = r) (((s.length : Int) - 0).toNat + 1) _ sbQ sbQ ⟨0, rfl, ⟨omQ, omQ⟩, (Nat.lt_succ_self _), hM⟩ ?_
 clear hM
 rintro n1 S ⟨p1, rfl, hfa1, hm1, hM⟩
 have hM0 := hM; clear hM; obtain ⟨ag1, hag1, hM⟩ := iter_step hM0 (by omega) hf1; clear hM0
 replace hfa1 := nzQ hfa1
 replace hm1 := nzQ hm1
 have ha1 : addI .i64 p1 1 = p1 + 1 := add_one omQ omQ
 refine spQA ha1 ?_
 refine condC_intro (fun h2 => ?_) (fun h2 => ?_)
 ·rw [if_pos h2] at hM
  refine spQA (And.intro ha1 h2) ?_
  have nh2 := nzQ h2
  try have hr3 := mpQ nh2
  refine bindC_intro omQ ?_
  have he4 := fun d => elt_mp (l := s) (f := e_api_Item) (i := p1) omQ d
  refine spQA (And.intro ha1 he4) ?_
  have hM0 := hM; clear hM; obtain ⟨x5, hx6, hM⟩ := letk_opn hM0; clear hM0
  have hcx5 := encode_within_1_ok N ih  (gt s p1) f__c0 (by (first | exact hp1 | exact hp0 _ (gt_mem (by omega)))) (by (first | exact hp1 | exact hp0 _ (gt_mem (by omega))))
  rw [← hx6] at hcx5
  refine callC_give hcx5 (clQA (And.intro ha1 he4)) (clQA (And.intro ha1 he4)) (fun hw7 => ?_)
  replace hw7 := nzQ hw7
  refine spQA (And.intro ha1 he4) ?_
  have hF := (And.intro ha1 (And.intro h2 he4))
  exact auQ
 ·rw [if_neg (ne_true h2)] at hM
  refine spQA (And.intro ha1 h2) ?_
  have nh2 := nzQ h2
  try have hr9 := mpQ nh2
  subst hM
  exact retC_view (lfQA (And.intro ha1 h2))
set_option maxHeartbeats 2000000 in
set_option maxRecDepth 100000 in
theorem slices_ContainsFunc_api_Item_api_Item_at_encode_within_1_ok (N : Nat) (ih : ∀  (i_ : S_api_Item) (depth : Int), hgt i_ < N → CallOk En 192 [.agg [.int .i64 i_.Kind, .int .i64 i_.N, .sl none 1 false (i_.B.map (V.int .u8)), .sl none 4 true (i_.L.map e_api_Item)], .int .i64 depth] (.bool (withinM i_ depth)) []) (z0 : Option Bool) (s : (List S_api_Item)) (f__c0 : Int) (hp0 : ∀ x ∈ s, hgt x < N) (hp1 : 0 < f__c0) : CallOk En 242 [.sl z0 4 true (s.map e_api_Item), .fn 243 [.pp 1 false (.int .i64 f__c0)]] (.bool (slices_ContainsFunc_api_Item_api_Item_at_encode_within_1 s f__c0)) [] := by
 generalize hM : slices_ContainsFunc_api_Item_api_Item_at_encode_within_1 s f__c0 = r
 rw [slices_ContainsFunc_api_Item_api_Item_at_encode_within_1.eq_1] at hM
 refine enterV En_ok En_mo noJ Tryz.func242 rfl Tryz.ntmps242 (by kernel_rfl) fun hw => ct_start ?_
 refine spQ ?_
 replace hw := nzQ hw
 have hM0 := hM; clear hM; obtain ⟨x1, hx2, hM⟩ := letk_opn hM0; clear hM0
 have hcx1 := slices_IndexFunc_api_Item_api_Item_at_encode_within_1_ok N ih z0 s f__c0 (by (first | exact hp1 | exact hp0)) (by (first | exact hp1 | exact hp0))
 rw [← hx2] at hcx1
 refine callC_give hcx1 clQ clQ (fun hw3 => ?_)
 replace hw3 := nzQ hw3
 refine spQ ?_
 subst hM
 exact retC_view lfQ
set_option maxHeartbeats 2000000 in
set_option maxRecDepth 100000 in
theorem encode_within_ok (N : Nat) (ih : ∀  (i_ : S_api_Item) (depth : Int), hgt i_ < N → CallOk En 192 [.agg [.int .i64 i_.Kind, .int .i64 i_.N, .sl none 1 false (i_.B.map (V.int .u8)), .sl none 4 true (i_.L.map e_api_Item)], .int .i64 depth] (.bool (withinM i_ depth)) [])  (i_ : S_api_Item) (depth : Int) (hp_ : hgt i_ < N + 1) : CallOk En 192 [.agg [.int .i64 i_.Kind, .int .i64 i_.N, .sl none 1 false (i_.B.map (V.int .u8)), .sl none 4 true (i_.L.map e_api_Item)], .int .i64 depth] (.bool (encode_within i_ depth)) [] := by
 generalize hM : encode_within i_ depth = r
 rw [encode_within.eq_1] at hM
 refine enterV En_ok En_mo noJ Tryz.func192 rfl Tryz.ntmps192 (by kernel_rfl) fun hw => ct_start ?_
 refine spQ ?_
 replace hw := nzQ hw
 refine condC_intro (fun h1 => ?_) (fun h1 => ?_)
 ·rw [if_pos h1] at hM
  refine spQA h1 ?_
  have nh1 := nzQ h1
  try have hr2 := mpQ nh1
  have hF := h1
  exact auQ
 ·rw [if_neg (ne_true h1)] at hM
  refine spQA h1 ?_
  have nh1 := nzQ h1
  try have hr6 := mpQ nh1
  refine condC_intro (fun h7 => ?_) (fun h7 => ?_)
  ·rw [if_pos h7] at hM
   refine spQA h7 ?_
   have nh7 := nzQ h7
   try have hr8 := mpQ nh7
   have hF := (And.intro h1 h7)
   exact auQ
  ·rw [if_neg (ne_true h7)] at hM
   refine spQA h7 ?_
   have nh7 := nzQ h7
   try have hr12 := mpQ nh7
   refine condC_intro (fun h13 => ?_) (fun h13 => ?_)
   ·rw [if_pos h13] at hM
    refine spQA h13 ?_
    have nh13 := nzQ h13
    try have hr14 := mpQ nh13
    refine guardC_t (fun h15 => ?_) (fun h15 => ?_)
    ·rw [if_pos h15] at hM
     refine spQA h15 ?_
     have nh15 := nzQ h15
     try have hr16 := mpQ nh15
     refine guardC_t (fun h17 => ?_) (fun h17 => ?_)
     ·rw [if_pos h17] at hM
      refine spQA h17 ?_
      have nh17 := nzQ h17
      try have hr18 := mpQ nh17
      refine guardC_t (fun h19 => ?_) (fun h19 => ?_)
      ·rw [if_pos h19] at hM
       refine spQA h19 ?_
       have nh19 := nzQ h19
       try have hr20 := mpQ nh19
       refine guardC_t (fun h21 => ?_) (fun h21 => ?_)
       ·rw [if_pos h21] at hM
        refine spQA h21 ?_
        have nh21 := nzQ h21
        try have hr22 := mpQ nh21
        have hM0 := hM; clear hM; obtain ⟨x23, hx24, hM⟩ := letk_opn hM0; clear hM0
        have hcx23 := slices_ContainsFunc_api_Item_api_Item_at_encode_within_1_ok N ih none (i_.L) depth (by (first | omega | exact fun x hx => Nat.lt_of_lt_of_le (hgt_L hx) (Nat.lt_succ_iff.1 hp_))) (by (first | omega | exact fun x hx => Nat.lt_of_lt_of_le (hgt_L hx) (Nat.lt_succ_iff.1 hp_)))
        rw [← hx24] at hcx23
        refine callC_look hcx23 clQ clQ (fun hw25 => ?_)
        replace hw25 := nzQ hw25
        refine spQ ?_
        subst hM
        exact retC_view (lfQA (And.intro h1 (And.intro h7 (And.intro h13 (And.intro h15 (And.intro h17 (And.intro h19 h21)))))))
       ·rw [if_neg (ne_true h21)] at hM
        refine spQA h21 ?_
        have nh21 := nzQ h21
        try have hr26 := mpQ nh21
        subst hM
        exact retC_view (lfQA (And.intro h1 (And.intro h7 (And.intro h13 (And.intro h15 (And.intro h17 (And.intro h19 h21)))))))
      ·rw [if_neg (ne_true h19)] at hM
       refine spQA h19 ?_
       have nh19 := nzQ h19
       try have hr27 := mpQ nh19
       subst hM
       exact retC_view (lfQA (And.intro h1 (And.intro h7 (And.intro h13 (And.intro h15 (And.intro h17 h19))))))
     ·rw [if_neg (ne_true h17)] at hM
      refine spQA h17 ?_
      have nh17 := nzQ h17
      try have hr28 := mpQ nh17
      subst hM
      exact retC_view (lfQA (And.intro h1 (And.intro h7 (And.intro h13 (And.intro h15 h17)))))
    ·rw [if_neg (ne_true h15)] at hM
     refine spQA h15 ?_
     have nh15 := nzQ h15
     try have hr29 := mpQ nh15
     subst hM
     exact retC_view (lfQA (And.intro h1 (And.intro h7 (And.intro h13 h15))))
   ·rw [if_neg (ne_true h13)] at hM
    refine spQA h13 ?_
    have nh13 := nzQ h13
    try have hr30 := mpQ nh13
    subst hM
    exact retC_view (lfQA (And.intro h1 (And.intro h7 h13)))
theorem withinM_okN : ∀ (N : Nat)  (i_ : S_api_Item) (depth : Int), hgt i_ < N → CallOk En 192 [.agg [.int .i64 i_.Kind, .int .i64 i_.N, .sl none 1 false (i_.B.map (V.int .u8)), .sl none 4 true (i_.L.map e_api_Item)], .int .i64 depth] (.bool (withinM i_ depth)) [] := by
 intro N
 induction N with
 | zero => intro i_ depth  h; exact absurd h (Nat.not_lt_zero _)
 | succ N ih =>
  intro i_ depth  h
  have h9 := encode_within_ok N ih i_ depth  h
  rw [encode_within_eqM] at h9
  exact h9
theorem withinM_ok  (i_ : S_api_Item) (depth : Int)  : CallOk En 192 [.agg [.int .i64 i_.Kind, .int .i64 i_.N, .sl none 1 false (i_.B.map (V.int .u8)), .sl none 4 true (i_.L.map e_api_Item)], .int .i64 depth] (.bool (withinM i_ depth)) [] :=
 withinM_okN (hgt i_ + 1) i_ depth  (Nat.lt_succ_self _)
set_option maxHeartbeats 2000000 in
set_option maxRecDepth 100000 in
instance encode_Valid_ok   (i_ : S_api_Item)  : CM En (encode_Valid i_) 113 [.agg [.int .i64 i_.Kind, .int .i64 i_.N, .sl none 1 false (i_.B.map (V.int .u8)), .sl none 4 true (i_.L.map e_api_Item)]] (fun y => .bool y) (fun _ => []) := by
 refine cmQ fun r hM => ?_
 rw [encode_Valid.eq_1] at hM
 refine enterV En_ok En_mo noJ Tryz.func113 rfl Tryz.ntmps113 (by kernel_rfl) fun hw => ct_start ?_
 refine spQ ?_
 replace hw := nzQ hw
 have hM0 := hM; clear hM; obtain ⟨x1, hx2, hM⟩ := letk_opn hM0; clear hM0
 have hcx1 := withinM_ok  i_ 8 
 rw [← hx2] at hcx1
 refine callC_give hcx1 clQ clQ (fun hw3 => ?_)
 replace hw3 := nzQ hw3
 refine spQ ?_
 subst hM
 exact retC_view lfQ
set_option maxHeartbeats 2000000 in
set_option maxRecDepth 100000 in
theorem encode_number_ok  (z0 : Option Bool) (out : (List Int)) (n_ : Int) (size : Int) (hp0 : size ≤ 8) (hp1 : out.length ≤ 1000000000) (hp2 : 0 ≤ size) : CallIn En 208 [.own 0, .int .u64 n_, .int .i64 size] [.own 5 1 false z0 (out.map (V.int .u8))] (.own 0) [.own 5 1 false none ((encode_number out n_ size).map (V.int .u8))] [] := by
 generalize hM : encode_number out n_ size = r
 rw [encode_number.eq_1] at hM
 refine enterI En_ok En_mo noJ Tryz.func208 rfl Tryz.ntmps208 (by kernel_rfl) rfl fun ks hw hwB => ct_start ?_
 refine spQ ?_
 replace hw := nzQ hw
 try simp only [wfBs, wfB, decide_eq_true_eq, decide_eq_false_iff_not, Bool.and_eq_true, Bool.or_eq_true, Bool.not_eq_true', Bool.not_eq_false', beq_iff_eq, bne_iff_ne, beq_eq_false_iff_ne, bne_eq_false_iff_eq, ne_eq, Int.not_lt, Int.not_le, gt_iff_lt, ge_iff_le, List.length_map, wfL, wfV, and_true, true_and, LEN_eq, rng_i64, rng_u64, rng_u32, rng_i32, sl_len, st_len, List.length_append, List.length_cons, List.length_nil, List.length_replicate, rep_len, rowV_len, spl_len, cutN_len, arrN_len, nat8_len, remI_nn] at hwB
 have ha1 : subI .i64 size 1 = (size - 1) := sub_ok omQ omQ
 try simp only [ha1]
 have hM0 := hM; clear hM; obtain ⟨f2, d2, hf2, hd2, hM⟩ := iter_opn hM0; clear hM0
 refine ct_loop (fun n S => ∃ p : Int × List Int, S = (⟨[(0, .own 0), (1, .int .u64 n_), (7, .int .i64 p.1)], [(0, .own 5 1 false none (p.2.map (V.int .u8)))], 1⟩ : St) ∧ ((-1 ≤ p.1) ∧ (p.1 < 8) ∧ (((p.2).length : Int) + p.1 ≤ 1000000020)) ∧ (p.1 + 1).toNat < n ∧ iter n f2 d2 p = r) (((size - 1) + 1).toNat + 1) _ sbQ sbQ ⟨((size - 1), out), rfl, ⟨omQ, omQ, omQ⟩, (Nat.lt_succ_self _), hM⟩ ?_
 clear hM
 rintro n2 S ⟨p2, rfl, hfa2, hm2, hM⟩
 have hM0 := hM; clear hM; obtain ⟨ag2, hag2, hM⟩ := iter_step hM0 (by omega) hf2; clear hM0
 replace hfa2 := nzQ hfa2
 replace hm2 := nzQ hm2
 refine spQA ha1 ?_
 refine condC_intro (fun h3 => ?_) (fun h3 => ?_)
 ·rw [if_pos h3] at hM
  refine spQA (And.intro ha1 h3) ?_
  have nh3 := nzQ h3
  try have hr4 := mpQ nh3
  obtain ⟨ha5, hbha5⟩ := mul_pos_ok (a := 8) (b := p2.1) 8 8 64 omQ omQ omQ omQ (by decide) (by decide)
  try simp only [ha5]
  refine bindC_intro omQ ?_
  refine spQA (And.intro ha1 ha5) ?_
  refine bindC_intro omQ ?_
  refine spQA (And.intro ha1 ha5) ?_
  have ha6 : subI .i64 p2.1 1 = (p2.1 - 1) := sub_ok omQ omQ
  try simp only [ha6]
  refine lp_intro (n2 - 1) _ (by omega) sbQ sbQ ⟨((p2.1 - 1), (p2.2 ++ ([(convI .u8 (shrI .u64 n_ (8 * p2.1)))] : List Int))), rfl, ⟨omQ, omQ, omQ⟩, omQ, iter_again hM hag2⟩
 ·rw [if_neg (ne_true h3)] at hM
  refine spQA (And.intro ha1 h3) ?_
  have nh3 := nzQ h3
  try have hr7 := mpQ nh3
  subst hM
  exact retCI_in [0] (by simp only [go_sem, rowV_eq, rowV_eq0, List.length_replicate, rep_len, Int.toNat_natCast, ↓reduceIte, Nat.reduceEqDiff, Nat.reduceAdd, Int.reduceAdd, Nat.reduceMul, Nat.reduceLeDiff, Nat.reduceLT, Int.reduceLE, Int.reduceLT, Int.reduceNeg, Int.reduceToNat, mt, mtL, mtL_self, mt_self, mtZ, and_self, eq_self, or_true, true_or, map_st, ha1, gt_cons0, gt_conss, Int.reduceSub, or_self, h3]) (by decide) (by simp only [go_sem, rowV_eq, rowV_eq0, List.length_replicate, rep_len, Int.toNat_natCast, ↓reduceIte, Nat.reduceEqDiff, Nat.reduceAdd, Int.reduceAdd, Nat.reduceMul, Nat.reduceLeDiff, Nat.reduceLT, Int.reduceLE, Int.reduceLT, Int.reduceNeg, Int.reduceToNat, mt, mtL, mtL_self, mt_self, mtZ, and_self, eq_self, or_true, true_or, map_st, ha1, gt_cons0, gt_conss, Int.reduceSub, or_self, h3])
set_option maxHeartbeats 2000000 in
set_option maxRecDepth 100000 in
theorem encode_write_ok (N : Nat) (ih : ∀ (z0 : Option Bool) (out : (List Int)) (i_ : S_api_Item), (hgt i_ ≤ 500000000) → hgt i_ < N → CallIn En 138 [.own 0, .agg [.int .i64 i_.Kind, .int .i64 i_.N, .sl none 1 false (i_.B.map (V.int .u8)), .sl none 4 true (i_.L.map e_api_Item)]] [.own 5 1 false z0 (out.map (V.int .u8))] (.own 0) [.own 5 1 false none ((writeM out i_).map (V.int .u8))] []) (z0 : Option Bool) (out : (List Int)) (i_ : S_api_Item) (hp0 : hgt i_ ≤ 500000000) (hp_ : hgt i_ < N + 1) : CallIn En 138 [.own 0, .agg [.int .i64 i_.Kind, .int .i64 i_.N, .sl none 1 false (i_.B.map (V.int .u8)), .sl none 4 true (i_.L.map e_api_Item)]] [.own 5 1 false z0 (out.map (V.int .u8))] (.own 0) [.own 5 1 false none ((encode_write out i_).map (V.int .u8))] [] := by
 generalize hM : encode_write out i_ = r
 rw [encode_write.eq_1] at hM
 refine enterI En_ok En_mo noJ Tryz.func138 rfl Tryz.ntmps138 (by kernel_rfl) rfl fun ks hw hwB => ct_start ?_
 refine spQ ?_
 replace hw := nzQ hw
 try simp only [wfBs, wfB, decide_eq_true_eq, decide_eq_false_iff_not, Bool.and_eq_true, Bool.or_eq_true, Bool.not_eq_true', Bool.not_eq_false', beq_iff_eq, bne_iff_ne, beq_eq_false_iff_ne, bne_eq_false_iff_eq, ne_eq, Int.not_lt, Int.not_le, gt_iff_lt, ge_iff_le, List.length_map, wfL, wfV, and_true, true_and, LEN_eq, rng_i64, rng_u64, rng_u32, rng_i32, sl_len, st_len, List.length_append, List.length_cons, List.length_nil, List.length_replicate, rep_len, rowV_len, spl_len, cutN_len, arrN_len, nat8_len, remI_nn] at hwB
 refine condC_intro (fun h1 => ?_) (fun h1 => ?_)
 ·rw [if_pos h1] at hM
  refine spQA h1 ?_
  have nh1 := nzQ h1
  try have hr2 := mpQ nh1
  subst hM
  exact retCI_in [0] (by simp only [go_sem, rowV_eq, rowV_eq0, List.length_replicate, rep_len, Int.toNat_natCast, ↓reduceIte, Nat.reduceEqDiff, Nat.reduceAdd, Int.reduceAdd, Nat.reduceMul, Nat.reduceLeDiff, Nat.reduceLT, Int.reduceLE, Int.reduceLT, Int.reduceNeg, Int.reduceToNat, mt, mtL, mtL_self, mt_self, mtZ, and_self, eq_self, or_true, true_or, map_st, gt_cons0, gt_conss, Int.reduceSub, or_self, h1]) (by decide) (by simp only [go_sem, rowV_eq, rowV_eq0, List.length_replicate, rep_len, Int.toNat_natCast, ↓reduceIte, Nat.reduceEqDiff, Nat.reduceAdd, Int.reduceAdd, Nat.reduceMul, Nat.reduceLeDiff, Nat.reduceLT, Int.reduceLE, Int.reduceLT, Int.reduceNeg, Int.reduceToNat, mt, mtL, mtL_self, mt_self, mtZ, and_self, eq_self, or_true, true_or, map_st, gt_cons0, gt_conss, Int.reduceSub, or_self, h1])
 ·rw [if_neg (ne_true h1)] at hM
  refine spQA h1 ?_
  have nh1 := nzQ h1
  try have hr3 := mpQ nh1
  refine bindC_intro (by (first | exact omQ | (clear hM; first | (have h9 := hgt_eq i_; exact omQ')))) ?_
  refine spQ ?_
  refine condC_intro (fun h4 => ?_) (fun h4 => ?_)
  ·rw [if_pos h4] at hM
   refine spQA h4 ?_
   have nh4 := nzQ h4
   try have hr5 := mpQ nh4
   have hM0 := hM; clear hM; obtain ⟨x6, hx7, hM⟩ := letk_opn hM0; clear hM0
   have hcx6 := encode_number_ok (some false) (out ++ ([(convI .u8 i_.Kind)] : List Int)) (convI .u64 i_.N) 8 (by (exact pfQ)) (by (exact pfQ)) (by (exact pfQ))
   rw [← hx7] at hcx6
   refine callC_in [0] hcx6 (by decide) (by simp only [go_sem, rowV_eq, rowV_eq0, List.length_replicate, rep_len, Int.toNat_natCast, ↓reduceIte, Nat.reduceEqDiff, Nat.reduceAdd, Int.reduceAdd, Nat.reduceMul, Nat.reduceLeDiff, Nat.reduceLT, Int.reduceLE, Int.reduceLT, Int.reduceNeg, Int.reduceToNat, mt, mtL, mtL_self, mt_self, mtZ, and_self, eq_self, or_true, true_or]) (by simp only [go_sem, rowV_eq, rowV_eq0, List.length_replicate, rep_len, Int.toNat_natCast, ↓reduceIte, Nat.reduceEqDiff, Nat.reduceAdd, Int.reduceAdd, Nat.reduceMul, Nat.reduceLeDiff, Nat.reduceLT, Int.reduceLE, Int.reduceLT, Int.reduceNeg, Int.reduceToNat, mt, mtL, mtL_self, mt_self, mtZ, and_self, eq_self, or_true, true_or]) (fun hw8 => ?_)
   replace hw8 := nzQ hw8
   refine spQ ?_
   have hq9 := num_le hx7
   replace hq9 := nzQ hq9
   subst hM
   exact retCI_in [0] (by simp only [go_sem, rowV_eq, rowV_eq0, List.length_replicate, rep_len, Int.toNat_natCast, ↓reduceIte, Nat.reduceEqDiff, Nat.reduceAdd, Int.reduceAdd, Nat.reduceMul, Nat.reduceLeDiff, Nat.reduceLT, Int.reduceLE, Int.reduceLT, Int.reduceNeg, Int.reduceToNat, mt, mtL, mtL_self, mt_self, mtZ, and_self, eq_self, or_true, true_or, map_st, gt_cons0, gt_conss, Int.reduceSub, or_self, h1, h4]) (by decide) (by simp only [go_sem, rowV_eq, rowV_eq0, List.length_replicate, rep_len, Int.toNat_natCast, ↓reduceIte, Nat.reduceEqDiff, Nat.reduceAdd, Int.reduceAdd, Nat.reduceMul, Nat.reduceLeDiff, Nat.reduceLT, Int.reduceLE, Int.reduceLT, Int.reduceNeg, Int.reduceToNat, mt, mtL, mtL_self, mt_self, mtZ, and_self, eq_self, or_true, true_or, map_st, gt_cons0, gt_conss, Int.reduceSub, or_self, h1, h4])
  ·rw [if_neg (ne_true h4)] at hM
   refine spQA h4 ?_
   have nh4 := nzQ h4
   try have hr10 := mpQ nh4
   refine condC_intro (fun h11 => ?_) (fun h11 => ?_)
   ·rw [if_pos h11] at hM
    refine spQA h11 ?_
    have nh11 := nzQ h11
    try have hr12 := mpQ nh11
    refine ct_draw 55 8 [28, 29, 30, 31, 32, 33, 34, 35] [] ([[], [], [1], [1, 2], [1, 2, 3], [0, 1, 2, 3, 4], [], [6]] ++ [List.range 8, List.range 9]) [(5, 0)] (by kernel_rfl) (by exact alQ) ?_
    refine spQ ?_
    have hM0 := hM; clear hM; obtain ⟨x13, hx14, hM⟩ := letk_opn hM0; clear hM0
    have hcx13 := encode_number_ok (some false) (out ++ ([(convI .u8 i_.Kind)] : List Int)) (convI .u64 (i_.B.length : Int)) 4 (by (exact pfQ)) (by (exact pfQ)) (by (exact pfQ))
    rw [← hx14] at hcx13
    refine hcallC_kill 0 hcx13 (by simp only [go_sem, rowV_eq, rowV_eq0, List.length_replicate, rep_len, Int.toNat_natCast, ↓reduceIte, Nat.reduceEqDiff, Nat.reduceAdd, Int.reduceAdd, Nat.reduceMul, Nat.reduceLeDiff, Nat.reduceLT, Int.reduceLE, Int.reduceLT, Int.reduceNeg, Int.reduceToNat, mt, mtL, mtL_self, mt_self, mtZ, and_self, eq_self, or_true, true_or]) (by simp only [go_sem, rowV_eq, rowV_eq0, List.length_replicate, rep_len, Int.toNat_natCast, ↓reduceIte, Nat.reduceEqDiff, Nat.reduceAdd, Int.reduceAdd, Nat.reduceMul, Nat.reduceLeDiff, Nat.reduceLT, Int.reduceLE, Int.reduceLT, Int.reduceNeg, Int.reduceToNat, mt, mtL, mtL_self, mt_self, mtZ, and_self, eq_self, or_true, true_or]) (by simp only [go_sem, rowV_eq, rowV_eq0, List.length_replicate, rep_len, Int.toNat_natCast, ↓reduceIte, Nat.reduceEqDiff, Nat.reduceAdd, Int.reduceAdd, Nat.reduceMul, Nat.reduceLeDiff, Nat.reduceLT, Int.reduceLE, Int.reduceLT, Int.reduceNeg, Int.reduceToNat, mt, mtL, mtL_self, mt_self, mtZ, and_self, eq_self, or_true, true_or]) (flatL_map fun _ => (by simp only [go_sem, rowV_eq, rowV_eq0, List.length_replicate, rep_len, Int.toNat_natCast, ↓reduceIte, Nat.reduceEqDiff, Nat.reduceAdd, Int.reduceAdd, Nat.reduceMul, Nat.reduceLeDiff, Nat.reduceLT, Int.reduceLE, Int.reduceLT, Int.reduceNeg, Int.reduceToNat, mt, mtL, mtL_self, mt_self, mtZ, and_self, eq_self, or_true, true_or])) ?_
    refine spQ ?_
    have hq15 := num_le hx14
    replace hq15 := nzQ hq15
    refine bindC_intro (by (first | exact omQ | (clear hM; first | (have h9 := hgt_eq i_; exact omQ')))) ?_
    refine spQ ?_
    subst hM
    exact retCI_in [8] (by simp only [go_sem, rowV_eq, rowV_eq0, List.length_replicate, rep_len, Int.toNat_natCast, ↓reduceIte, Nat.reduceEqDiff, Nat.reduceAdd, Int.reduceAdd, Nat.reduceMul, Nat.reduceLeDiff, Nat.reduceLT, Int.reduceLE, Int.reduceLT, Int.reduceNeg, Int.reduceToNat, mt, mtL, mtL_self, mt_self, mtZ, and_self, eq_self, or_true, true_or, map_st, gt_cons0, gt_conss, Int.reduceSub, or_self, h1, h4, h11]) (by decide) (by simp only [go_sem, rowV_eq, rowV_eq0, List.length_replicate, rep_len, Int.toNat_natCast, ↓reduceIte, Nat.reduceEqDiff, Nat.reduceAdd, Int.reduceAdd, Nat.reduceMul, Nat.reduceLeDiff, Nat.reduceLT, Int.reduceLE, Int.reduceLT, Int.reduceNeg, Int.reduceToNat, mt, mtL, mtL_self, mt_self, mtZ, and_self, eq_self, or_true, true_or, map_st, gt_cons0, gt_conss, Int.reduceSub, or_self, h1, h4, h11])
   ·rw [if_neg (ne_true h11)] at hM
    refine spQA h11 ?_
    have nh11 := nzQ h11
    try have hr16 := mpQ nh11
    have hM0 := hM; clear hM; obtain ⟨x17, hx18, hM⟩ := letk_opn hM0; clear hM0
    have hcx17 := encode_number_ok (some false) (out ++ ([(convI .u8 i_.Kind)] : List Int)) (convI .u64 (i_.L.length : Int)) 4 (by (exact pfQ)) (by (exact pfQ)) (by (exact pfQ))
    rw [← hx18] at hcx17
    refine callC_in [0] hcx17 (by decide) (by simp only [go_sem, rowV_eq, rowV_eq0, List.length_replicate, rep_len, Int.toNat_natCast, ↓reduceIte, Nat.reduceEqDiff, Nat.reduceAdd, Int.reduceAdd, Nat.reduceMul, Nat.reduceLeDiff, Nat.reduceLT, Int.reduceLE, Int.reduceLT, Int.reduceNeg, Int.reduceToNat, mt, mtL, mtL_self, mt_self, mtZ, and_self, eq_self, or_true, true_or]) (by simp only [go_sem, rowV_eq, rowV_eq0, List.length_replicate, rep_len, Int.toNat_natCast, ↓reduceIte, Nat.reduceEqDiff, Nat.reduceAdd, Int.reduceAdd, Nat.reduceMul, Nat.reduceLeDiff, Nat.reduceLT, Int.reduceLE, Int.reduceLT, Int.reduceNeg, Int.reduceToNat, mt, mtL, mtL_self, mt_self, mtZ, and_self, eq_self, or_true, true_or]) (fun hw19 => ?_)
    replace hw19 := nzQ hw19
    refine spQ ?_
    have hq20 := num_le hx18
    replace hq20 := nzQ hq20
    have hM0 := hM; clear hM; obtain ⟨f21, d21, hf21, hd21, hM⟩ := iter_opn hM0; clear hM0
    refine ct_loop (fun n S => ∃ p : Int × List Int, S = (⟨[(0, .own 0), (44, .sl none 4 true (i_.L.map e_api_Item)), (45, .int .i64 (i_.L.length : Int)), (46, .int .i64 p.1)], [(0, .own 5 1 false none (p.2.map (V.int .u8)))], 3⟩ : St) ∧ ((0 ≤ p.1) ∧ (p.1 ≤ (i_.L.length : Int))) ∧ ((i_.L.length : Int) - p.1).toNat < n ∧ iter n f21 d21 p = r) (((i_.L.length : Int) - 0).toNat + 1) _ sbQ sbQ ⟨(0, x17), rfl, ⟨by (first | exact omQ | (clear hM; first | (have h9 := hgt_eq i_; exact omQ'))), by (first | exact omQ | (clear hM; first | (have h9 := hgt_eq i_; exact omQ')))⟩, (Nat.lt_succ_self _), hM⟩ ?_
    clear hM
    rintro n21 S ⟨p21, rfl, hfa21, hm21, hM⟩
    have hM0 := hM; clear hM; obtain ⟨ag21, hag21, hM⟩ := iter_step hM0 (by omega) hf21; clear hM0
    replace hfa21 := nzQ hfa21
    replace hm21 := nzQ hm21
    have ha21 : addI .i64 p21.1 1 = p21.1 + 1 := add_one (by (first | exact omQ | (clear hM; first | (have h9 := hgt_eq i_; exact omQ')))) (by (first | exact omQ | (clear hM; first | (have h9 := hgt_eq i_; exact omQ'))))
    refine spQA ha21 ?_
    refine condC_intro (fun h22 => ?_) (fun h22 => ?_)
    ·rw [if_pos h22] at hM
     refine spQA (And.intro ha21 h22) ?_
     have nh22 := nzQ h22
     try have hr23 := mpQ nh22
     refine bindC_intro (by (first | exact omQ | (clear hM; first | (have h9 := hgt_eq i_; exact omQ')))) ?_
     have he24 := fun d => elt_mp (l := i_.L) (f := e_api_Item) (i := p21.1) (by (first | exact omQ | (clear hM; first | (have h9 := hgt_eq i_; exact omQ')))) d
     refine spQA (And.intro ha21 he24) ?_
     have hM0 := hM; clear hM; obtain ⟨x25, hx26, hM⟩ := letk_opn hM0; clear hM0
     have hcx25 := ih none (p21.2) (gt i_.L p21.1) (by (have h9 := hgt_L (i := i_) (gt_mem (l := i_.L) (i := p21.1) (by omega)); omega)) (by (have h9 := hgt_L (i := i_) (gt_mem (l := i_.L) (i := p21.1) (by omega)); omega))
     rw [← hx26] at hcx25
     refine callC_in [0] hcx25 (by decide) (by simp only [go_sem, rowV_eq, rowV_eq0, List.length_replicate, rep_len, Int.toNat_natCast, ↓reduceIte, Nat.reduceEqDiff, Nat.reduceAdd, Int.reduceAdd, Nat.reduceMul, Nat.reduceLeDiff, Nat.reduceLT, Int.reduceLE, Int.reduceLT, Int.reduceNeg, Int.reduceToNat, mt, mtL, mtL_self, mt_self, mtZ, and_self, eq_self, or_true, true_or, ha21, he24]) (by simp only [go_sem, rowV_eq, rowV_eq0, List.length_replicate, rep_len, Int.toNat_natCast, ↓reduceIte, Nat.reduceEqDiff, Nat.reduceAdd, Int.reduceAdd, Nat.reduceMul, Nat.reduceLeDiff, Nat.reduceLT, Int.reduceLE, Int.reduceLT, Int.reduceNeg, Int.reduceToNat, mt, mtL, mtL_self, mt_self, mtZ, and_self, eq_self, or_true, true_or, ha21, he24]) (fun hw27 => ?_)
     replace hw27 := nzQ hw27
     refine spQA (And.intro ha21 he24) ?_
     refine lp_intro (n21 - 1) _ (by omega) sbQ sbQ ⟨((p21.1 + 1), x25), rfl, ⟨by (first | exact omQ | (clear hM; first | (have h9 := hgt_eq i_; exact omQ'))), by (first | exact omQ | (clear hM; first | (have h9 := hgt_eq i_; exact omQ')))⟩, by (first | exact omQ | (clear hM; first | (have h9 := hgt_eq i_; exact omQ'))), iter_again hM hag21⟩
    ·rw [if_neg (ne_true h22)] at hM
     refine spQA (And.intro ha21 h22) ?_
     have nh22 := nzQ h22
     try have hr28 := mpQ nh22
     subst hM
     exact retCI_in [0] (by simp only [go_sem, rowV_eq, rowV_eq0, List.length_replicate, rep_len, Int.toNat_natCast, ↓reduceIte, Nat.reduceEqDiff, Nat.reduceAdd, Int.reduceAdd, Nat.reduceMul, Nat.reduceLeDiff, Nat.reduceLT, Int.reduceLE, Int.reduceLT, Int.reduceNeg, Int.reduceToNat, mt, mtL, mtL_self, mt_self, mtZ, and_self, eq_self, or_true, true_or, map_st, ha21, gt_cons0, gt_conss, Int.reduceSub, or_self, h1, h4, h11, h22]) (by decide) (by simp only [go_sem, rowV_eq, rowV_eq0, List.length_replicate, rep_len, Int.toNat_natCast, ↓reduceIte, Nat.reduceEqDiff, Nat.reduceAdd, Int.reduceAdd, Nat.reduceMul, Nat.reduceLeDiff, Nat.reduceLT, Int.reduceLE, Int.reduceLT, Int.reduceNeg, Int.reduceToNat, mt, mtL, mtL_self, mt_self, mtZ, and_self, eq_self, or_true, true_or, map_st, ha21, gt_cons0, gt_conss, Int.reduceSub, or_self, h1, h4, h11, h22])
theorem writeM_okN : ∀ (N : Nat) (z0 : Option Bool) (out : (List Int)) (i_ : S_api_Item), (hgt i_ ≤ 500000000) → hgt i_ < N → CallIn En 138 [.own 0, .agg [.int .i64 i_.Kind, .int .i64 i_.N, .sl none 1 false (i_.B.map (V.int .u8)), .sl none 4 true (i_.L.map e_api_Item)]] [.own 5 1 false z0 (out.map (V.int .u8))] (.own 0) [.own 5 1 false none ((writeM out i_).map (V.int .u8))] [] := by
 intro N
 induction N with
 | zero => intro z0 out i_ h0 h; exact absurd h (Nat.not_lt_zero _)
 | succ N ih =>
  intro z0 out i_ h0 h
  have h9 := encode_write_ok N ih z0 out i_ h0 h
  rw [encode_write_eqM] at h9
  exact h9
theorem writeM_ok (z0 : Option Bool) (out : (List Int)) (i_ : S_api_Item) (hp0 : hgt i_ ≤ 500000000) : CallIn En 138 [.own 0, .agg [.int .i64 i_.Kind, .int .i64 i_.N, .sl none 1 false (i_.B.map (V.int .u8)), .sl none 4 true (i_.L.map e_api_Item)]] [.own 5 1 false z0 (out.map (V.int .u8))] (.own 0) [.own 5 1 false none ((writeM out i_).map (V.int .u8))] [] :=
 writeM_okN (hgt i_ + 1) z0 out i_ hp0 (Nat.lt_succ_self _)
set_option maxHeartbeats 2000000 in
set_option maxRecDepth 100000 in
theorem encode_Encode_ok   (i_ : S_api_Item) (hp0 : hgt i_ ≤ 500000000) : CM En (encode_Encode i_) 66 [.agg [.int .i64 i_.Kind, .int .i64 i_.N, .sl none 1 false (i_.B.map (V.int .u8)), .sl none 4 true (i_.L.map e_api_Item)]] (fun y => .tup [.sl none 1 false (y.1.map (V.int .u8)), .int .i64 y.2]) (fun _ => []) := by
 refine cmQ fun r hM => ?_
 rw [encode_Encode.eq_1] at hM
 refine enterV En_ok En_mo noJ Tryz.func66 rfl Tryz.ntmps66 (by kernel_rfl) fun hw => ct_start ?_
 refine spQ ?_
 replace hw := nzQ hw
 have hM0 := hM; clear hM; obtain ⟨x1, hx2, hM⟩ := letk_opn hM0; clear hM0
 have hcx1 := cmU hx2
 refine callC_give hcx1 clQ clQ (fun hw3 => ?_)
 replace hw3 := nzQ hw3
 refine spQ ?_
 refine condC_intro (fun h4 => ?_) (fun h4 => ?_)
 ·rw [if_pos h4] at hM
  refine spQA h4 ?_
  have nh4 := nzQ h4
  try have hr5 := mpQ nh4
  subst hM
  exact retC_view (lfQA h4)
 ·rw [if_neg (ne_true h4)] at hM
  refine spQA h4 ?_
  have nh4 := nzQ h4
  try have hr6 := mpQ nh4
  have hM0 := hM; clear hM; obtain ⟨x7, hx8, hM⟩ := letk_opn hM0; clear hM0
  have hcx7 := callIn_nil (pre := []) (post := [_]) (writeM_ok (some true) ([] : List Int) i_ (by (exact pfQ))) (by decide)
  rw [← hx8] at hcx7
  simp only [List.nil_append, List.cons_append] at hcx7
  refine callC_giveG hcx7 clQ (fun hw9 => ?_)
  replace hw9 := nzQ hw9
  refine spQ ?_
  have hF := h4
  exact auQ
set_option maxHeartbeats 2000000 in
set_option maxRecDepth 100000 in
theorem withdraw_message_ok   (l : (List Int)) (hp0 : l.length ≤ 1000) : CM En (withdraw_message l) 124 [.sl none 1 false (l.map (V.int .i64))] (fun y => .sl none 1 false (y.map (V.int .u8))) (fun _ => []) := by
 refine cmQ fun r hM => ?_
 rw [withdraw_message.eq_1] at hM
 refine enterV En_ok En_mo noJ Tryz.func124 rfl Tryz.ntmps124 (by kernel_rfl) fun hw => ct_start ?_
 refine spQ ?_
 replace hw := nzQ hw
 have hM0 := hM; clear hM; obtain ⟨x1, hx2, hM⟩ := letk_opn hM0; clear hM0
 have hcx1 := cmU hx2
 refine callC_give hcx1 clQ clQ (fun hw3 => ?_)
 replace hw3 := nzQ hw3
 refine spQ ?_
 have hq4 := hgt_eInts hx2
 replace hq4 := nzQ hq4
 have hM0 := hM; clear hM; obtain ⟨x5, hx6, hM⟩ := letk_opn hM0; clear hM0
 have hcx5 := cmH hx6 (encode_Encode_ok  x1 (by (exact pfQ)))
 refine callC_give hcx5 clQ clQ (fun hw7 => ?_)
 replace hw7 := nzQ hw7
 refine spQ ?_
 subst hM
 exact retC_view lfQ
set_option maxHeartbeats 2000000 in
set_option maxRecDepth 100000 in
instance withdraw_Begin_ok   (b : S_api_Bases) (r_ : S_api_KeyRecord) (u : Int) (n_ : Int) (d_ : S_api_Draw)  : CM En (withdraw_Begin b r_ u n_ d_) 90 [(e_api_Bases b), (e_api_KeyRecord r_), .int .i64 u, .int .i64 n_, (e_api_Draw d_)] (fun y => .tup [(e_api_Withdrawal y.1), .sl none 1 false (y.2.1.map (V.int .u8)), (e_api_Draw y.2.2.1), .int .i64 y.2.2.2]) (fun _ => []) := by
 refine cmQ fun r hM => ?_
 rw [withdraw_Begin.eq_1] at hM
 refine enterV En_ok En_mo noJ Tryz.func90 rfl Tryz.ntmps90 (by kernel_rfl) fun hw => ct_start ?_
 refine spQ ?_
 replace hw := nzQ hw
 have hM0 := hM; clear hM; obtain ⟨x1, hx2, hM⟩ := letk_opn hM0; clear hM0
 have hcx1 := cmU hx2
 refine callC_give hcx1 clQ clQ (fun hw3 => ?_)
 replace hw3 := nzQ hw3
 refine spQ ?_
 refine guardC_f (fun h4 => ?_) (fun h4 => ?_)
 ·rw [if_neg (ne_true h4)] at hM
  refine spQA h4 ?_
  have nh4 := nzQ h4
  try have hr5 := mpQ nh4
  have hM0 := hM; clear hM; obtain ⟨x6, hx7, hM⟩ := letk_opn hM0; clear hM0
  have hcx6 := cmU hx7
  refine callC_give hcx6 clQ clQ (fun hw8 => ?_)
  replace hw8 := nzQ hw8
  refine spQ ?_
  have hq9 := nzQ (cfU hx7)
  refine guardC_f (fun h10 => ?_) (fun h10 => ?_)
  ·rw [if_neg (ne_true h10)] at hM
   refine spQA h10 ?_
   have nh10 := nzQ h10
   try have hr11 := mpQ nh10
   have hM0 := hM; clear hM; obtain ⟨x12, hx13, hM⟩ := letk_opn hM0; clear hM0
   have hcx12 := cmU hx13
   refine callC_give hcx12 clQ clQ (fun hw14 => ?_)
   replace hw14 := nzQ hw14
   refine spQ ?_
   refine condC_intro (fun h15 => ?_) (fun h15 => ?_)
   ·rw [if_pos h15] at hM
    refine spQA h15 ?_
    have nh15 := nzQ h15
    try have hr16 := mpQ nh15
    have hF := (And.intro h4 (And.intro h10 h15))
    exact auQ
   ·rw [if_neg (ne_true h15)] at hM
    refine spQA h15 ?_
    have nh15 := nzQ h15
    try have hr20 := mpQ nh15
    have hM0 := hM; clear hM; obtain ⟨x21, hx22, hM⟩ := letk_opn hM0; clear hM0
    have hcx21 := cmU hx22
    refine callC_give hcx21 clQ clQ (fun hw23 => ?_)
    replace hw23 := nzQ hw23
    refine spQ ?_
    refine guardC_f (fun h24 => ?_) (fun h24 => ?_)
    ·rw [if_neg (ne_true h24)] at hM
     refine spQA h24 ?_
     have nh24 := nzQ h24
     try have hr25 := mpQ nh24
     have hM0 := hM; clear hM; obtain ⟨x26, hx27, hM⟩ := letk_opn hM0; clear hM0
     have hcx26 := cmU hx27
     refine callC_give hcx26 clQ clQ (fun hw28 => ?_)
     replace hw28 := nzQ hw28
     refine spQ ?_
     refine guardC_f (fun h29 => ?_) (fun h29 => ?_)
     ·rw [if_neg (ne_true h29)] at hM
      refine spQA h29 ?_
      have nh29 := nzQ h29
      try have hr30 := mpQ nh29
      have hM0 := hM; clear hM; obtain ⟨x31, hx32, hM⟩ := letk_opn hM0; clear hM0
      have hcx31 := cmU hx32
      refine callC_give hcx31 clQ clQ (fun hw33 => ?_)
      replace hw33 := nzQ hw33
      refine spQ ?_
      refine condC_intro (fun h34 => ?_) (fun h34 => ?_)
      ·rw [if_pos h34] at hM
       refine spQA h34 ?_
       have nh34 := nzQ h34
       try have hr35 := mpQ nh34
       have hF := (And.intro h4 (And.intro h10 (And.intro h15 (And.intro h24 (And.intro h29 h34)))))
       exact auQ
      ·rw [if_neg (ne_true h34)] at hM
       refine spQA h34 ?_
       have nh34 := nzQ h34
       try have hr39 := mpQ nh34
       refine ct_draw 154 16 [15, 63, 64, 65, 66, 67, 68, 69, 70, 71, 72, 73, 74, 75, 76, 77] [] ([[], [], [1], [], [3], [], [5], [], [7], [], [], [10], [], [9, 10, 11, 12], [0, 1, 2, 3, 4, 5, 6, 7, 8, 9, 10, 11, 12, 13], []] ++ [List.range 16]) [] (by kernel_rfl) (by exact alQ) ?_
       refine spQ ?_
       have hM0 := hM; clear hM; obtain ⟨x40, hx41, hM⟩ := letk_opn hM0; clear hM0
       have hcx40 := cmU hx41
       refine hcallC_give hcx40 clQ clQ ?_
       refine spQ ?_
       have hM0 := hM; clear hM; obtain ⟨x42, hx43, hM⟩ := letk_opn hM0; clear hM0
       have hcx42 := cmU hx43
       refine callC_give hcx42 clQ clQ (fun hw44 => ?_)
       replace hw44 := nzQ hw44
       refine spQ ?_
       refine condC_intro (fun h45 => ?_) (fun h45 => ?_)
       ·rw [if_pos h45] at hM
        refine spQA h45 ?_
        have nh45 := nzQ h45
        try have hr46 := mpQ nh45
        have hF := (And.intro h4 (And.intro h10 (And.intro h15 (And.intro h24 (And.intro h29 (And.intro h34 h45))))))
        exact auQ
       ·rw [if_neg (ne_true h45)] at hM
        refine spQA h45 ?_
        have nh45 := nzQ h45
        try have hr50 := mpQ nh45
        have hM0 := hM; clear hM; obtain ⟨x51, hx52, hM⟩ := letk_opn hM0; clear hM0
        have hcx51 := cmU hx52
        refine callC_give hcx51 clQ clQ (fun hw53 => ?_)
        replace hw53 := nzQ hw53
        refine spQ ?_
        refine condC_intro (fun h54 => ?_) (fun h54 => ?_)
        ·rw [if_pos h54] at hM
         refine spQA h54 ?_
         have nh54 := nzQ h54
         try have hr55 := mpQ nh54
         have hF := (And.intro h4 (And.intro h10 (And.intro h15 (And.intro h24 (And.intro h29 (And.intro h34 (And.intro h45 h54)))))))
         exact auQ
        ·rw [if_neg (ne_true h54)] at hM
         refine spQA h54 ?_
         have nh54 := nzQ h54
         try have hr59 := mpQ nh54
         have hM0 := hM; clear hM; obtain ⟨x60, hx61, hM⟩ := letk_opn hM0; clear hM0
         have hcx60 := cmU hx61
         refine callC_give hcx60 clQ clQ (fun hw62 => ?_)
         replace hw62 := nzQ hw62
         refine spQ ?_
         refine condC_intro (fun h63 => ?_) (fun h63 => ?_)
         ·rw [if_pos h63] at hM
          refine spQA h63 ?_
          have nh63 := nzQ h63
          try have hr64 := mpQ nh63
          have hF := (And.intro h4 (And.intro h10 (And.intro h15 (And.intro h24 (And.intro h29 (And.intro h34 (And.intro h45 (And.intro h54 h63))))))))
          exact auQ
         ·rw [if_neg (ne_true h63)] at hM
          refine spQA h63 ?_
          have nh63 := nzQ h63
          try have hr68 := mpQ nh63
          refine ct_draw 154 13 [11, 143, 144, 145, 146, 147, 148, 149, 150, 151, 152, 153] [] ([[], [], [], [2], [], [4], [], [6], [1, 2, 3, 4, 5, 6, 7], [1, 2, 3, 4, 5, 6, 7, 8], [], [0], [1, 2, 3, 4, 5, 6, 7, 8, 9]] ++ [List.range 13, List.range 14]) [(8, 29), (11, 3)] (by kernel_rfl) (by exact alQ) ?_
          refine spQ ?_
          have hM0 := hM; clear hM; obtain ⟨x69, hx70, hM⟩ := letk_opn hM0; clear hM0
          have hcx69 := cmH hx70 (withdraw_message_ok  ([1, n_, r_.Bank, r_.Epoch, r_.Denom] : List Int) (by (exact pfQ)))
          refine hcallC_give hcx69 clQ clQ ?_
          refine spQ ?_
          subst hM
          exact retC_view (lfQA (And.intro h4 (And.intro h10 (And.intro h15 (And.intro h24 (And.intro h29 (And.intro h34 (And.intro h45 (And.intro h54 h63)))))))))
     ·rw [if_pos h29] at hM
      refine spQA h29 ?_
      have nh29 := nzQ h29
      try have hr71 := mpQ nh29
      have hF := (And.intro h4 (And.intro h10 (And.intro h15 (And.intro h24 h29))))
      exact auQ
    ·rw [if_pos h24] at hM
     refine spQA h24 ?_
     have nh24 := nzQ h24
     try have hr75 := mpQ nh24
     have hF := (And.intro h4 (And.intro h10 (And.intro h15 h24)))
     exact auQ
  ·rw [if_pos h10] at hM
   refine spQA h10 ?_
   have nh10 := nzQ h10
   try have hr79 := mpQ nh10
   have hF := (And.intro h4 h10)
   exact auQ
 ·rw [if_pos h4] at hM
  refine spQA h4 ?_
  have nh4 := nzQ h4
  try have hr83 := mpQ nh4
  have hF := h4
  exact auQ
end Go.Proofs.YtjnikknlcmbcmaaGreatDoor
namespace Go.Proofs.YtjnikknlcmbcmaaGreatDoor
open Go.RowKit
set_option linter.unusedSimpArgs false
set_option maxHeartbeats 2000000 in
set_option maxRecDepth 100000 in
theorem encode_reader_fail_ok   (r_ : S_encode_reader) (e_ : Int)  : CallIn En 170 [.ptr 0 0, .int .i64 e_] [.var 2 true (.agg [.sl none 1 false (r_.b.map (V.int .u8)), .int .i64 r_.e])] (.tup []) [.var 2 true (.agg [.sl none 1 false ((encode_reader_fail r_ e_).b.map (V.int .u8)), .int .i64 (encode_reader_fail r_ e_).e])] [] := by
 generalize hM : encode_reader_fail r_ e_ = r
 rw [encode_reader_fail.eq_1] at hM
 refine enterI En_ok En_mo noJ Tryz.func170 rfl Tryz.ntmps170 (by kernel_rfl) rfl fun ks hw hwB => ct_start ?_
 refine spQ ?_
 replace hw := nzQ hw
 try simp only [wfBs, wfB, decide_eq_true_eq, decide_eq_false_iff_not, Bool.and_eq_true, Bool.or_eq_true, Bool.not_eq_true', Bool.not_eq_false', beq_iff_eq, bne_iff_ne, beq_eq_false_iff_ne, bne_eq_false_iff_eq, ne_eq, Int.not_lt, Int.not_le, gt_iff_lt, ge_iff_le, List.length_map, wfL, wfV, and_true, true_and, LEN_eq, rng_i64, rng_u64, rng_u32, rng_i32, sl_len, st_len, List.length_append, List.length_cons, List.length_nil, List.length_replicate, rep_len, rowV_len, spl_len, cutN_len, arrN_len, nat8_len, remI_nn] at hwB
 refine condC_intro (fun h1 => ?_) (fun h1 => ?_)
 ·rw [if_pos h1] at hM
  refine spQA h1 ?_
  have nh1 := nzQ h1
  try have hr2 := mpQ nh1
  subst hM
  exact retCI_in [0] (by simp only [go_sem, rowV_eq, rowV_eq0, List.length_replicate, rep_len, Int.toNat_natCast, ↓reduceIte, Nat.reduceEqDiff, Nat.reduceAdd, Int.reduceAdd, Nat.reduceMul, Nat.reduceLeDiff, Nat.reduceLT, Int.reduceLE, Int.reduceLT, Int.reduceNeg, Int.reduceToNat, mt, mtL, mtL_self, mt_self, mtZ, and_self, eq_self, or_true, true_or, map_st, gt_cons0, gt_conss, Int.reduceSub, or_self, h1]) (by decide) (by simp only [go_sem, rowV_eq, rowV_eq0, List.length_replicate, rep_len, Int.toNat_natCast, ↓reduceIte, Nat.reduceEqDiff, Nat.reduceAdd, Int.reduceAdd, Nat.reduceMul, Nat.reduceLeDiff, Nat.reduceLT, Int.reduceLE, Int.reduceLT, Int.reduceNeg, Int.reduceToNat, mt, mtL, mtL_self, mt_self, mtZ, and_self, eq_self, or_true, true_or, map_st, gt_cons0, gt_conss, Int.reduceSub, or_self, h1])
 ·rw [if_neg (ne_true h1)] at hM
  refine spQA h1 ?_
  have nh1 := nzQ h1
  try have hr3 := mpQ nh1
  subst hM
  exact retCI_in [0] (by simp only [go_sem, rowV_eq, rowV_eq0, List.length_replicate, rep_len, Int.toNat_natCast, ↓reduceIte, Nat.reduceEqDiff, Nat.reduceAdd, Int.reduceAdd, Nat.reduceMul, Nat.reduceLeDiff, Nat.reduceLT, Int.reduceLE, Int.reduceLT, Int.reduceNeg, Int.reduceToNat, mt, mtL, mtL_self, mt_self, mtZ, and_self, eq_self, or_true, true_or, map_st, gt_cons0, gt_conss, Int.reduceSub, or_self, h1]) (by decide) (by simp only [go_sem, rowV_eq, rowV_eq0, List.length_replicate, rep_len, Int.toNat_natCast, ↓reduceIte, Nat.reduceEqDiff, Nat.reduceAdd, Int.reduceAdd, Nat.reduceMul, Nat.reduceLeDiff, Nat.reduceLT, Int.reduceLE, Int.reduceLT, Int.reduceNeg, Int.reduceToNat, mt, mtL, mtL_self, mt_self, mtZ, and_self, eq_self, or_true, true_or, map_st, gt_cons0, gt_conss, Int.reduceSub, or_self, h1])
set_option maxHeartbeats 2000000 in
set_option maxRecDepth 100000 in
theorem encode_reader_take_ok   (r_ : S_encode_reader) (n_ : Int) (hp0 : 0 ≤ n_) : CallIn En 233 [.ptr 0 0, .int .i64 n_] [.var 2 true (.agg [.sl none 1 false (r_.b.map (V.int .u8)), .int .i64 r_.e])] (.sl none 1 false ((encode_reader_take r_ n_).1.map (V.int .u8))) [.var 2 true (.agg [.sl none 1 false ((encode_reader_take r_ n_).2.b.map (V.int .u8)), .int .i64 (encode_reader_take r_ n_).2.e])] [] := by
 generalize hM : encode_reader_take r_ n_ = r
 rw [encode_reader_take.eq_1] at hM
 refine enterI En_ok En_mo noJ Tryz.func233 rfl Tryz.ntmps233 (by kernel_rfl) rfl fun ks hw hwB => ct_start ?_
 refine spQ ?_
 replace hw := nzQ hw
 try simp only [wfBs, wfB, decide_eq_true_eq, decide_eq_false_iff_not, Bool.and_eq_true, Bool.or_eq_true, Bool.not_eq_true', Bool.not_eq_false', beq_iff_eq, bne_iff_ne, beq_eq_false_iff_ne, bne_eq_false_iff_eq, ne_eq, Int.not_lt, Int.not_le, gt_iff_lt, ge_iff_le, List.length_map, wfL, wfV, and_true, true_and, LEN_eq, rng_i64, rng_u64, rng_u32, rng_i32, sl_len, st_len, List.length_append, List.length_cons, List.length_nil, List.length_replicate, rep_len, rowV_len, spl_len, cutN_len, arrN_len, nat8_len, remI_nn] at hwB
 refine guardC_f (fun h1 => ?_) (fun h1 => ?_)
 ·rw [if_neg (ne_true h1)] at hM
  refine spQA h1 ?_
  have nh1 := nzQ h1
  try have hr2 := mpQ nh1
  refine condC_intro (fun h3 => ?_) (fun h3 => ?_)
  ·rw [if_pos h3] at hM
   refine spQA h3 ?_
   have nh3 := nzQ h3
   try have hr4 := mpQ nh3
   have hM0 := hM; clear hM; obtain ⟨x5, hx6, hM⟩ := letk_opn hM0; clear hM0
   have hcx5 := encode_reader_fail_ok  r_ 4 
   rw [← hx6] at hcx5
   refine callC_in [0] hcx5 (by decide) (by simp only [go_sem, rowV_eq, rowV_eq0, List.length_replicate, rep_len, Int.toNat_natCast, ↓reduceIte, Nat.reduceEqDiff, Nat.reduceAdd, Int.reduceAdd, Nat.reduceMul, Nat.reduceLeDiff, Nat.reduceLT, Int.reduceLE, Int.reduceLT, Int.reduceNeg, Int.reduceToNat, mt, mtL, mtL_self, mt_self, mtZ, and_self, eq_self, or_true, true_or]) (by simp only [go_sem, rowV_eq, rowV_eq0, List.length_replicate, rep_len, Int.toNat_natCast, ↓reduceIte, Nat.reduceEqDiff, Nat.reduceAdd, Int.reduceAdd, Nat.reduceMul, Nat.reduceLeDiff, Nat.reduceLT, Int.reduceLE, Int.reduceLT, Int.reduceNeg, Int.reduceToNat, mt, mtL, mtL_self, mt_self, mtZ, and_self, eq_self, or_true, true_or]) (fun hw7 => ?_)
   replace hw7 := nzQ hw7
   refine spQ ?_
   subst hM
   exact retCI_in [0] (by simp only [go_sem, rowV_eq, rowV_eq0, List.length_replicate, rep_len, Int.toNat_natCast, ↓reduceIte, Nat.reduceEqDiff, Nat.reduceAdd, Int.reduceAdd, Nat.reduceMul, Nat.reduceLeDiff, Nat.reduceLT, Int.reduceLE, Int.reduceLT, Int.reduceNeg, Int.reduceToNat, mt, mtL, mtL_self, mt_self, mtZ, and_self, eq_self, or_true, true_or, map_st, gt_cons0, gt_conss, Int.reduceSub, or_self, h1, h3]) (by decide) (by simp only [go_sem, rowV_eq, rowV_eq0, List.length_replicate, rep_len, Int.toNat_natCast, ↓reduceIte, Nat.reduceEqDiff, Nat.reduceAdd, Int.reduceAdd, Nat.reduceMul, Nat.reduceLeDiff, Nat.reduceLT, Int.reduceLE, Int.reduceLT, Int.reduceNeg, Int.reduceToNat, mt, mtL, mtL_self, mt_self, mtZ, and_self, eq_self, or_true, true_or, map_st, gt_cons0, gt_conss, Int.reduceSub, or_self, h1, h3])
  ·rw [if_neg (ne_true h3)] at hM
   refine spQA h3 ?_
   have nh3 := nzQ h3
   try have hr8 := mpQ nh3
   refine bindC_intro omQ ?_
   refine spQ ?_
   refine bindC_intro omQ ?_
   refine spQ ?_
   subst hM
   exact retCI_in [0] (by simp only [go_sem, rowV_eq, rowV_eq0, List.length_replicate, rep_len, Int.toNat_natCast, ↓reduceIte, Nat.reduceEqDiff, Nat.reduceAdd, Int.reduceAdd, Nat.reduceMul, Nat.reduceLeDiff, Nat.reduceLT, Int.reduceLE, Int.reduceLT, Int.reduceNeg, Int.reduceToNat, mt, mtL, mtL_self, mt_self, mtZ, and_self, eq_self, or_true, true_or, map_st, gt_cons0, gt_conss, Int.reduceSub, or_self, h1, h3]) (by decide) (by simp only [go_sem, rowV_eq, rowV_eq0, List.length_replicate, rep_len, Int.toNat_natCast, ↓reduceIte, Nat.reduceEqDiff, Nat.reduceAdd, Int.reduceAdd, Nat.reduceMul, Nat.reduceLeDiff, Nat.reduceLT, Int.reduceLE, Int.reduceLT, Int.reduceNeg, Int.reduceToNat, mt, mtL, mtL_self, mt_self, mtZ, and_self, eq_self, or_true, true_or, map_st, gt_cons0, gt_conss, Int.reduceSub, or_self, h1, h3])
 ·rw [if_pos h1] at hM
  refine spQA h1 ?_
  have nh1 := nzQ h1
  try have hr9 := mpQ nh1
  have hM0 := hM; clear hM; obtain ⟨x10, hx11, hM⟩ := letk_opn hM0; clear hM0
  have hcx10 := encode_reader_fail_ok  r_ 4 
  rw [← hx11] at hcx10
  refine callC_in [0] hcx10 (by decide) (by simp only [go_sem, rowV_eq, rowV_eq0, List.length_replicate, rep_len, Int.toNat_natCast, ↓reduceIte, Nat.reduceEqDiff, Nat.reduceAdd, Int.reduceAdd, Nat.reduceMul, Nat.reduceLeDiff, Nat.reduceLT, Int.reduceLE, Int.reduceLT, Int.reduceNeg, Int.reduceToNat, mt, mtL, mtL_self, mt_self, mtZ, and_self, eq_self, or_true, true_or]) (by simp only [go_sem, rowV_eq, rowV_eq0, List.length_replicate, rep_len, Int.toNat_natCast, ↓reduceIte, Nat.reduceEqDiff, Nat.reduceAdd, Int.reduceAdd, Nat.reduceMul, Nat.reduceLeDiff, Nat.reduceLT, Int.reduceLE, Int.reduceLT, Int.reduceNeg, Int.reduceToNat, mt, mtL, mtL_self, mt_self, mtZ, and_self, eq_self, or_true, true_or]) (fun hw12 => ?_)
  replace hw12 := nzQ hw12
  refine spQ ?_
  subst hM
  exact retCI_in [0] (by simp only [go_sem, rowV_eq, rowV_eq0, List.length_replicate, rep_len, Int.toNat_natCast, ↓reduceIte, Nat.reduceEqDiff, Nat.reduceAdd, Int.reduceAdd, Nat.reduceMul, Nat.reduceLeDiff, Nat.reduceLT, Int.reduceLE, Int.reduceLT, Int.reduceNeg, Int.reduceToNat, mt, mtL, mtL_self, mt_self, mtZ, and_self, eq_self, or_true, true_or, map_st, gt_cons0, gt_conss, Int.reduceSub, or_self, h1]) (by decide) (by simp only [go_sem, rowV_eq, rowV_eq0, List.length_replicate, rep_len, Int.toNat_natCast, ↓reduceIte, Nat.reduceEqDiff, Nat.reduceAdd, Int.reduceAdd, Nat.reduceMul, Nat.reduceLeDiff, Nat.reduceLT, Int.reduceLE, Int.reduceLT, Int.reduceNeg, Int.reduceToNat, mt, mtL, mtL_self, mt_self, mtZ, and_self, eq_self, or_true, true_or, map_st, gt_cons0, gt_conss, Int.reduceSub, or_self, h1])
set_option maxHeartbeats 2000000 in
set_option maxRecDepth 100000 in
theorem encode_reader_number_ok   (r_ : S_encode_reader) (size : Int) (hp0 : 0 ≤ size) : CallIn En 232 [.ptr 0 0, .int .i64 size] [.var 2 true (.agg [.sl none 1 false (r_.b.map (V.int .u8)), .int .i64 r_.e])] (.int .u64 (encode_reader_number r_ size).1) [.var 2 true (.agg [.sl none 1 false ((encode_reader_number r_ size).2.b.map (V.int .u8)), .int .i64 (encode_reader_number r_ size).2.e])] [] := by
 generalize hM : encode_reader_number r_ size = r
 rw [encode_reader_number.eq_1] at hM
 refine enterI En_ok En_mo noJ Tryz.func232 rfl Tryz.ntmps232 (by kernel_rfl) rfl fun ks hw hwB => ct_start ?_
 refine spQ ?_
 replace hw := nzQ hw
 try simp only [wfBs, wfB, decide_eq_true_eq, decide_eq_false_iff_not, Bool.and_eq_true, Bool.or_eq_true, Bool.not_eq_true', Bool.not_eq_false', beq_iff_eq, bne_iff_ne, beq_eq_false_iff_ne, bne_eq_false_iff_eq, ne_eq, Int.not_lt, Int.not_le, gt_iff_lt, ge_iff_le, List.length_map, wfL, wfV, and_true, true_and, LEN_eq, rng_i64, rng_u64, rng_u32, rng_i32, sl_len, st_len, List.length_append, List.length_cons, List.length_nil, List.length_replicate, rep_len, rowV_len, spl_len, cutN_len, arrN_len, nat8_len, remI_nn] at hwB
 have hM0 := hM; clear hM; obtain ⟨x1, hx2, hM⟩ := letk_opn hM0; clear hM0
 have hcx1 := encode_reader_take_ok  r_ size (by (exact pfQ))
 rw [← hx2] at hcx1
 refine callC_in [0] hcx1 (by decide) (by simp only [go_sem, rowV_eq, rowV_eq0, List.length_replicate, rep_len, Int.toNat_natCast, ↓reduceIte, Nat.reduceEqDiff, Nat.reduceAdd, Int.reduceAdd, Nat.reduceMul, Nat.reduceLeDiff, Nat.reduceLT, Int.reduceLE, Int.reduceLT, Int.reduceNeg, Int.reduceToNat, mt, mtL, mtL_self, mt_self, mtZ, and_self, eq_self, or_true, true_or]) (by simp only [go_sem, rowV_eq, rowV_eq0, List.length_replicate, rep_len, Int.toNat_natCast, ↓reduceIte, Nat.reduceEqDiff, Nat.reduceAdd, Int.reduceAdd, Nat.reduceMul, Nat.reduceLeDiff, Nat.reduceLT, Int.reduceLE, Int.reduceLT, Int.reduceNeg, Int.reduceToNat, mt, mtL, mtL_self, mt_self, mtZ, and_self, eq_self, or_true, true_or]) (fun hw3 => ?_)
 replace hw3 := nzQ hw3
 refine spQ ?_
 have hM0 := hM; clear hM; obtain ⟨f4, d4, hf4, hd4, hM⟩ := iter_opn hM0; clear hM0
 refine ct_loop (fun n S => ∃ p : Int × Int, S = (⟨[(0, .ptr 0 0), (5, .int .u64 p.1), (10, .sl none 1 false (x1.1.map (V.int .u8))), (11, .int .i64 (x1.1.length : Int)), (12, .int .i64 p.2)], [(0, .lent (ks 0) 2 true (.agg [.sl none 1 false (x1.2.b.map (V.int .u8)), .int .i64 x1.2.e]))], 1⟩ : St) ∧ ((0 ≤ p.2) ∧ (p.2 ≤ (x1.1.length : Int))) ∧ ((x1.1.length : Int) - p.2).toNat < n ∧ iter n f4 d4 p = r) (((x1.1.length : Int) - 0).toNat + 1) _ sbQ sbQ ⟨(0, 0), rfl, ⟨omQ, omQ⟩, (Nat.lt_succ_self _), hM⟩ ?_
 clear hM
 rintro n4 S ⟨p4, rfl, hfa4, hm4, hM⟩
 have hM0 := hM; clear hM; obtain ⟨ag4, hag4, hM⟩ := iter_step hM0 (by omega) hf4; clear hM0
 replace hfa4 := nzQ hfa4
 replace hm4 := nzQ hm4
 have ha4 : addI .i64 p4.2 1 = p4.2 + 1 := add_one omQ omQ
 refine spQA ha4 ?_
 refine condC_intro (fun h5 => ?_) (fun h5 => ?_)
 ·rw [if_pos h5] at hM
  refine spQA (And.intro ha4 h5) ?_
  have nh5 := nzQ h5
  try have hr6 := mpQ nh5
  have hF := (And.intro ha4 h5)
  exact auQ
 ·rw [if_neg (ne_true h5)] at hM
  refine spQA (And.intro ha4 h5) ?_
  have nh5 := nzQ h5
  try have hr8 := mpQ nh5
  subst hM
  exact retCI_in [0] (by simp only [go_sem, rowV_eq, rowV_eq0, List.length_replicate, rep_len, Int.toNat_natCast, ↓reduceIte, Nat.reduceEqDiff, Nat.reduceAdd, Int.reduceAdd, Nat.reduceMul, Nat.reduceLeDiff, Nat.reduceLT, Int.reduceLE, Int.reduceLT, Int.reduceNeg, Int.reduceToNat, mt, mtL, mtL_self, mt_self, mtZ, and_self, eq_self, or_true, true_or, map_st, ha4, gt_cons0, gt_conss, Int.reduceSub, or_self, h5]) (by decide) (by simp only [go_sem, rowV_eq, rowV_eq0, List.length_replicate, rep_len, Int.toNat_natCast, ↓reduceIte, Nat.reduceEqDiff, Nat.reduceAdd, Int.reduceAdd, Nat.reduceMul, Nat.reduceLeDiff, Nat.reduceLT, Int.reduceLE, Int.reduceLT, Int.reduceNeg, Int.reduceToNat, mt, mtL, mtL_self, mt_self, mtZ, and_self, eq_self, or_true, true_or, map_st, ha4, gt_cons0, gt_conss, Int.reduceSub, or_self, h5])
set_option maxHeartbeats 2000000 in
set_option maxRecDepth 100000 in
theorem encode_reader_item_ok (N : Nat) (ih : ∀  (r_ : S_encode_reader) (depth : Int), (0 ≤ depth) → (isB r_.b) → depth.toNat < N → CallIn En 169 [.ptr 0 0, .int .i64 depth] [.var 2 true (.agg [.sl none 1 false (r_.b.map (V.int .u8)), .int .i64 r_.e])] (.agg [.int .i64 (itemM r_ depth).1.Kind, .int .i64 (itemM r_ depth).1.N, .sl none 1 false ((itemM r_ depth).1.B.map (V.int .u8)), .sl none 4 true ((itemM r_ depth).1.L.map e_api_Item)]) [.var 2 true (.agg [.sl none 1 false ((itemM r_ depth).2.b.map (V.int .u8)), .int .i64 (itemM r_ depth).2.e])] [])  (r_ : S_encode_reader) (depth : Int) (hp0 : 0 ≤ depth) (hp1 : isB r_.b) (hp_ : depth.toNat < N + 1) : CallIn En 169 [.ptr 0 0, .int .i64 depth] [.var 2 true (.agg [.sl none 1 false (r_.b.map (V.int .u8)), .int .i64 r_.e])] (.agg [.int .i64 (encode_reader_item r_ depth).1.Kind, .int .i64 (encode_reader_item r_ depth).1.N, .sl none 1 false ((encode_reader_item r_ depth).1.B.map (V.int .u8)), .sl none 4 true ((encode_reader_item r_ depth).1.L.map e_api_Item)]) [.var 2 true (.agg [.sl none 1 false ((encode_reader_item r_ depth).2.b.map (V.int .u8)), .int .i64 (encode_reader_item r_ depth).2.e])] [] := by
 generalize hM : encode_reader_item r_ depth = r
 rw [encode_reader_item.eq_1] at hM
 refine enterI En_ok En_mo [5, 15] Tryz.func169 rfl Tryz.ntmps169 (by kernel_rfl) rfl fun ks hw hwB => ct_start ?_
 refine spQ ?_
 replace hw := nzQ hw
 try simp only [wfBs, wfB, decide_eq_true_eq, decide_eq_false_iff_not, Bool.and_eq_true, Bool.or_eq_true, Bool.not_eq_true', Bool.not_eq_false', beq_iff_eq, bne_iff_ne, beq_eq_false_iff_ne, bne_eq_false_iff_eq, ne_eq, Int.not_lt, Int.not_le, gt_iff_lt, ge_iff_le, List.length_map, wfL, wfV, and_true, true_and, LEN_eq, rng_i64, rng_u64, rng_u32, rng_i32, sl_len, st_len, List.length_append, List.length_cons, List.length_nil, List.length_replicate, rep_len, rowV_len, spl_len, cutN_len, arrN_len, nat8_len, remI_nn] at hwB
 have hM0 := hM; clear hM; obtain ⟨x1, hx2, hM⟩ := letk_opn hM0; clear hM0
 have hcx1 := encode_reader_number_ok  r_ 1 (by (first | assumption | omega))
 rw [← hx2] at hcx1
 refine callC_in [0] hcx1 (by decide) (by simp only [go_sem, rowV_eq, rowV_eq0, List.length_replicate, rep_len, Int.toNat_natCast, ↓reduceIte, Nat.reduceEqDiff, Nat.reduceAdd, Int.reduceAdd, Nat.reduceMul, Nat.reduceLeDiff, Nat.reduceLT, Int.reduceLE, Int.reduceLT, Int.reduceNeg, Int.reduceToNat, mt, mtL, mtL_self, mt_self, mtZ, and_self, eq_self, or_true, true_or]) (by simp only [go_sem, rowV_eq, rowV_eq0, List.length_replicate, rep_len, Int.toNat_natCast, ↓reduceIte, Nat.reduceEqDiff, Nat.reduceAdd, Int.reduceAdd, Nat.reduceMul, Nat.reduceLeDiff, Nat.reduceLT, Int.reduceLE, Int.reduceLT, Int.reduceNeg, Int.reduceToNat, mt, mtL, mtL_self, mt_self, mtZ, and_self, eq_self, or_true, true_or]) (fun hw3 => ?_)
 replace hw3 := nzQ hw3
 refine spQ ?_
 have hq4 := rnum_fact hx2 (by assumption)
 replace hq4 := nzQ hq4
 have hq5 := rnum_isB hx2 (by assumption)
 replace hq5 := nzQ hq5
 have hM0 := hM; clear hM; obtain ⟨j6, hj6, hM⟩ := letj_opn hM0; clear hM0
 refine seqC_intro (fun S => ∃ p : Unit, S = (⟨[(0, .ptr 0 0), (1, .int .i64 depth), (4, .ptr 1 0), (5, .int .i64 (convI .i64 x1.1))], [(0, .lent (ks 0) 2 true (.agg [.sl none 1 false (x1.2.b.map (V.int .u8)), .int .i64 x1.2.e])), (1, .var 4 true (.agg [.int .i64 0, .int .i64 0, .sl (some true) 1 false [], .sl (some true) 4 true []]))], 2⟩ : St) ∧ (((convI .i64 x1.1) ≠ 3 ∨ depth ≠ 0)) ∧ j6 p = r) ?_ (fun hcut6 => ?_)
 ·clear hM
  rintro S ⟨p6, rfl, hfa6, hM⟩
  replace hfa6 := nzQ hfa6
  have hM0 := hM; clear hM; have hM := letj_use hM0 hj6; clear hM0
  try refine spQ ?_
  refine condC_intro (fun h7 => ?_) (fun h7 => ?_)
  ·rw [if_pos h7] at hM
   refine spQA h7 ?_
   have nh7 := nzQ h7
   try have hr8 := mpQ nh7
   have hM0 := hM; clear hM; obtain ⟨x9, hx10, hM⟩ := letk_opn hM0; clear hM0
   have hcx9 := encode_reader_number_ok  (x1.2) 8 (by (first | assumption | omega))
   rw [← hx10] at hcx9
   refine callC_in [0] hcx9 (by decide) (by simp only [go_sem, rowV_eq, rowV_eq0, List.length_replicate, rep_len, Int.toNat_natCast, ↓reduceIte, Nat.reduceEqDiff, Nat.reduceAdd, Int.reduceAdd, Nat.reduceMul, Nat.reduceLeDiff, Nat.reduceLT, Int.reduceLE, Int.reduceLT, Int.reduceNeg, Int.reduceToNat, mt, mtL, mtL_self, mt_self, mtZ, and_self, eq_self, or_true, true_or]) (by simp only [go_sem, rowV_eq, rowV_eq0, List.length_replicate, rep_len, Int.toNat_natCast, ↓reduceIte, Nat.reduceEqDiff, Nat.reduceAdd, Int.reduceAdd, Nat.reduceMul, Nat.reduceLeDiff, Nat.reduceLT, Int.reduceLE, Int.reduceLT, Int.reduceNeg, Int.reduceToNat, mt, mtL, mtL_self, mt_self, mtZ, and_self, eq_self, or_true, true_or]) (fun hw11 => ?_)
   replace hw11 := nzQ hw11
   refine spQ ?_
   have hq12 := rnum_fact hx10 (by assumption)
   replace hq12 := nzQ hq12
   have hq13 := rnum_isB hx10 (by assumption)
   replace hq13 := nzQ hq13
   subst hM
   exact retCI_in [0] (by simp only [go_sem, rowV_eq, rowV_eq0, List.length_replicate, rep_len, Int.toNat_natCast, ↓reduceIte, Nat.reduceEqDiff, Nat.reduceAdd, Int.reduceAdd, Nat.reduceMul, Nat.reduceLeDiff, Nat.reduceLT, Int.reduceLE, Int.reduceLT, Int.reduceNeg, Int.reduceToNat, mt, mtL, mtL_self, mt_self, mtZ, and_self, eq_self, or_true, true_or, map_st, gt_cons0, gt_conss, Int.reduceSub, or_self, h7]) (by decide) (by simp only [go_sem, rowV_eq, rowV_eq0, List.length_replicate, rep_len, Int.toNat_natCast, ↓reduceIte, Nat.reduceEqDiff, Nat.reduceAdd, Int.reduceAdd, Nat.reduceMul, Nat.reduceLeDiff, Nat.reduceLT, Int.reduceLE, Int.reduceLT, Int.reduceNeg, Int.reduceToNat, mt, mtL, mtL_self, mt_self, mtZ, and_self, eq_self, or_true, true_or, map_st, gt_cons0, gt_conss, Int.reduceSub, or_self, h7])
  ·rw [if_neg (ne_true h7)] at hM
   refine spQA h7 ?_
   have nh7 := nzQ h7
   try have hr14 := mpQ nh7
   refine condC_intro (fun h15 => ?_) (fun h15 => ?_)
   ·rw [if_pos h15] at hM
    refine spQA h15 ?_
    have nh15 := nzQ h15
    try have hr16 := mpQ nh15
    have hM0 := hM; clear hM; obtain ⟨x17, hx18, hM⟩ := letk_opn hM0; clear hM0
    have hcx17 := encode_reader_number_ok  (x1.2) 4 (by (first | assumption | omega))
    rw [← hx18] at hcx17
    refine callC_in [0] hcx17 (by decide) (by simp only [go_sem, rowV_eq, rowV_eq0, List.length_replicate, rep_len, Int.toNat_natCast, ↓reduceIte, Nat.reduceEqDiff, Nat.reduceAdd, Int.reduceAdd, Nat.reduceMul, Nat.reduceLeDiff, Nat.reduceLT, Int.reduceLE, Int.reduceLT, Int.reduceNeg, Int.reduceToNat, mt, mtL, mtL_self, mt_self, mtZ, and_self, eq_self, or_true, true_or]) (by simp only [go_sem, rowV_eq, rowV_eq0, List.length_replicate, rep_len, Int.toNat_natCast, ↓reduceIte, Nat.reduceEqDiff, Nat.reduceAdd, Int.reduceAdd, Nat.reduceMul, Nat.reduceLeDiff, Nat.reduceLT, Int.reduceLE, Int.reduceLT, Int.reduceNeg, Int.reduceToNat, mt, mtL, mtL_self, mt_self, mtZ, and_self, eq_self, or_true, true_or]) (fun hw19 => ?_)
    replace hw19 := nzQ hw19
    refine spQ ?_
    have hq20 := rnum_fact hx18 (by assumption)
    replace hq20 := nzQ hq20
    have hq21 := rnum_isB hx18 (by assumption)
    replace hq21 := nzQ hq21
    have hM0 := hM; clear hM; obtain ⟨x22, hx23, hM⟩ := letk_opn hM0; clear hM0
    have hcx22 := encode_reader_take_ok  (x17.2) (convI .i64 x17.1) (by (first | assumption | omega))
    rw [← hx23] at hcx22
    refine callC_in [0] hcx22 (by decide) (by simp only [go_sem, rowV_eq, rowV_eq0, List.length_replicate, rep_len, Int.toNat_natCast, ↓reduceIte, Nat.reduceEqDiff, Nat.reduceAdd, Int.reduceAdd, Nat.reduceMul, Nat.reduceLeDiff, Nat.reduceLT, Int.reduceLE, Int.reduceLT, Int.reduceNeg, Int.reduceToNat, mt, mtL, mtL_self, mt_self, mtZ, and_self, eq_self, or_true, true_or]) (by simp only [go_sem, rowV_eq, rowV_eq0, List.length_replicate, rep_len, Int.toNat_natCast, ↓reduceIte, Nat.reduceEqDiff, Nat.reduceAdd, Int.reduceAdd, Nat.reduceMul, Nat.reduceLeDiff, Nat.reduceLT, Int.reduceLE, Int.reduceLT, Int.reduceNeg, Int.reduceToNat, mt, mtL, mtL_self, mt_self, mtZ, and_self, eq_self, or_true, true_or]) (fun hw24 => ?_)
    replace hw24 := nzQ hw24
    refine spQ ?_
    have hq25 := take_isB hx23 (by assumption)
    replace hq25 := nzQ hq25
    have hM0 := hM; clear hM; obtain ⟨x26, hx27, hM⟩ := letk_opn hM0; clear hM0
    have hcx26 := bytes_Clone_ok none (x22.1) 
    rw [← hx27] at hcx26
    refine callC_give hcx26 clQ clQ (fun hw28 => ?_)
    replace hw28 := nzQ hw28
    refine spQ ?_
    have hq29 := nzQ (cfU hx27)
    subst hM
    exact retCI_in [0] (by simp only [go_sem, rowV_eq, rowV_eq0, List.length_replicate, rep_len, Int.toNat_natCast, ↓reduceIte, Nat.reduceEqDiff, Nat.reduceAdd, Int.reduceAdd, Nat.reduceMul, Nat.reduceLeDiff, Nat.reduceLT, Int.reduceLE, Int.reduceLT, Int.reduceNeg, Int.reduceToNat, mt, mtL, mtL_self, mt_self, mtZ, and_self, eq_self, or_true, true_or, map_st, gt_cons0, gt_conss, Int.reduceSub, or_self, h7, h15]) (by decide) (by simp only [go_sem, rowV_eq, rowV_eq0, List.length_replicate, rep_len, Int.toNat_natCast, ↓reduceIte, Nat.reduceEqDiff, Nat.reduceAdd, Int.reduceAdd, Nat.reduceMul, Nat.reduceLeDiff, Nat.reduceLT, Int.reduceLE, Int.reduceLT, Int.reduceNeg, Int.reduceToNat, mt, mtL, mtL_self, mt_self, mtZ, and_self, eq_self, or_true, true_or, map_st, gt_cons0, gt_conss, Int.reduceSub, or_self, h7, h15])
   ·rw [if_neg (ne_true h15)] at hM
    refine spQA h15 ?_
    have nh15 := nzQ h15
    try have hr30 := mpQ nh15
    refine condC_intro (fun h31 => ?_) (fun h31 => ?_)
    ·rw [if_pos h31] at hM
     refine spQA h31 ?_
     have nh31 := nzQ h31
     try have hr32 := mpQ nh31
     have hM0 := hM; clear hM; obtain ⟨x33, hx34, hM⟩ := letk_opn hM0; clear hM0
     have hcx33 := encode_reader_number_ok  (x1.2) 4 (by (first | assumption | omega))
     rw [← hx34] at hcx33
     refine callC_in [0] hcx33 (by decide) (by simp only [go_sem, rowV_eq, rowV_eq0, List.length_replicate, rep_len, Int.toNat_natCast, ↓reduceIte, Nat.reduceEqDiff, Nat.reduceAdd, Int.reduceAdd, Nat.reduceMul, Nat.reduceLeDiff, Nat.reduceLT, Int.reduceLE, Int.reduceLT, Int.reduceNeg, Int.reduceToNat, mt, mtL, mtL_self, mt_self, mtZ, and_self, eq_self, or_true, true_or]) (by simp only [go_sem, rowV_eq, rowV_eq0, List.length_replicate, rep_len, Int.toNat_natCast, ↓reduceIte, Nat.reduceEqDiff, Nat.reduceAdd, Int.reduceAdd, Nat.reduceMul, Nat.reduceLeDiff, Nat.reduceLT, Int.reduceLE, Int.reduceLT, Int.reduceNeg, Int.reduceToNat, mt, mtL, mtL_self, mt_self, mtZ, and_self, eq_self, or_true, true_or]) (fun hw35 => ?_)
     replace hw35 := nzQ hw35
     refine spQ ?_
     have hq36 := rnum_fact hx34 (by assumption)
     replace hq36 := nzQ hq36
     have hq37 := rnum_isB hx34 (by assumption)
     replace hq37 := nzQ hq37
     have hM0 := hM; clear hM; obtain ⟨j38, hj38, hM⟩ := letj_opn hM0; clear hM0
     refine seqC_intro (fun S => ∃ p : S_encode_reader, S = (⟨[(0, .ptr 0 0), (1, .int .i64 depth), (4, .ptr 1 0), (6, .ptr 2 0), (7, .int .i64 (convI .i64 x33.1))], [(0, .lent (ks 0) 2 true (.agg [.sl none 1 false (p.b.map (V.int .u8)), .int .i64 p.e])), (1, .var 4 true (.agg [.int .i64 0, .int .i64 0, .sl (some true) 1 false [], .sl (some true) 4 true []])), (2, .var 4 true (.agg [.int .i64 (convI .i64 x1.1), .int .i64 0, .sl (some true) 1 false [], .sl (some true) 4 true []]))], 3⟩ : St) ∧ ((((convI .i64 x33.1) ≤ 1000 ∨ (p).e ≠ 0) ∧ (0 ≤ (convI .i64 x33.1))) ∧ (isB (p).b)) ∧ j38 p = r) ?_ (fun hcut38 => ?_)
     ·clear hM
      rintro S ⟨p38, rfl, ⟨hfa38, hF15_0⟩, hM⟩
      replace hfa38 := nzQ hfa38
      have hM0 := hM; clear hM; have hM := letj_use hM0 hj38; clear hM0
      try refine spQ ?_
      have hM0 := hM; clear hM; obtain ⟨f39, d39, hf39, hd39, hM⟩ := iter_opn hM0; clear hM0
      refine ct_loopW (fun n S => ∃ p : Int × S_encode_reader × List S_api_Item, S = (⟨[(0, .ptr 0 0), (1, .int .i64 depth), (4, .ptr 1 0), (6, .ptr 2 0), (55, .int .i64 (convI .i64 x33.1)), (56, .int .i64 p.1)], [(0, .lent (ks 0) 2 true (.agg [.sl none 1 false (p.2.1.b.map (V.int .u8)), .int .i64 p.2.1.e])), (1, .var 4 true (.agg [.int .i64 0, .int .i64 0, .sl (some true) 1 false [], .sl (some true) 4 true []])), (2, .var 4 true (.agg [.int .i64 (convI .i64 x1.1), .int .i64 0, .sl (some true) 1 false [], .own 3])), (3, .own 90 4 true none (p.2.2.map e_api_Item))], 4⟩ : St) ∧ (((0 ≤ p.1) ∧ (p.1 ≤ (convI .i64 x33.1)) ∧ ((convI .i64 x33.1) ≤ 1000 ∨ (p.2.1).e ≠ 0) ∧ (((p.2.2).length : Int) ≤ p.1)) ∧ (isB (p.2.1).b)) ∧ ((convI .i64 x33.1) - p.1).toNat < n ∧ iter n f39 d39 p = r) (((convI .i64 x33.1) - 0).toNat + 1) _ _ (weak_nilV 2 3 90 rfl rfl (by decide)) sbQ sbQ ⟨(0, p38, ([] : List S_api_Item)), rfl, ⟨⟨omQ, omQ, omQ, omQ⟩, by assumption⟩, (Nat.lt_succ_self _), hM⟩ ?_
      clear hM
      rintro n39 S ⟨p39, rfl, ⟨hfa39, hF16_0⟩, hm39, hM⟩
      have hM0 := hM; clear hM; obtain ⟨ag39, hag39, hM⟩ := iter_step hM0 (by omega) hf39; clear hM0
      replace hfa39 := nzQ hfa39
      replace hm39 := nzQ hm39
      have ha39 : addI .i64 p39.1 1 = p39.1 + 1 := add_one omQ omQ
      refine spQA ha39 ?_
      refine condC_intro (fun h40 => ?_) (fun h40 => ?_)
      ·rw [if_pos h40] at hM
       refine spQA (And.intro ha39 h40) ?_
       have nh40 := nzQ h40
       try have hr41 := mpQ nh40
       refine condC_intro (fun h42 => ?_) (fun h42 => ?_)
       ·rw [if_pos h42] at hM
        refine spQA (And.intro ha39 h42) ?_
        have nh42 := nzQ h42
        try have hr43 := mpQ nh42
        subst hM
        exact retCI_in [0] (by simp only [go_sem, rowV_eq, rowV_eq0, List.length_replicate, rep_len, Int.toNat_natCast, ↓reduceIte, Nat.reduceEqDiff, Nat.reduceAdd, Int.reduceAdd, Nat.reduceMul, Nat.reduceLeDiff, Nat.reduceLT, Int.reduceLE, Int.reduceLT, Int.reduceNeg, Int.reduceToNat, mt, mtL, mtL_self, mt_self, mtZ, and_self, eq_self, or_true, true_or, map_st, ha39, gt_cons0, gt_conss, Int.reduceSub, or_self, h7, h15, h31, h40, h42]) (by decide) (by simp only [go_sem, rowV_eq, rowV_eq0, List.length_replicate, rep_len, Int.toNat_natCast, ↓reduceIte, Nat.reduceEqDiff, Nat.reduceAdd, Int.reduceAdd, Nat.reduceMul, Nat.reduceLeDiff, Nat.reduceLT, Int.reduceLE, Int.reduceLT, Int.reduceNeg, Int.reduceToNat, mt, mtL, mtL_self, mt_self, mtZ, and_self, eq_self, or_true, true_or, map_st, ha39, gt_cons0, gt_conss, Int.reduceSub, or_self, h7, h15, h31, h40, h42])
       ·rw [if_neg (ne_true h42)] at hM
        refine spQA (And.intro ha39 h42) ?_
        have nh42 := nzQ h42
        try have hr44 := mpQ nh42
        refine ct_draw 74 7 [63, 64, 65, 66, 67, 68, 69] [] ([[], [0], [], [], [3], [2, 3, 4], [2, 3, 4, 5]] ++ [List.range 7, List.range 8, List.range 9]) [(5, 0)] (by kernel_rfl) (by exact alQ) ?_
        refine spQA ha39 ?_
        have ha45 : subI .i64 depth 1 = (depth - 1) := sub_ok omQ omQ
        try simp only [ha45]
        have hM0 := hM; clear hM; obtain ⟨x46, hx47, hM⟩ := letk_opn hM0; clear hM0
        have hcx46 := ih  (p39.2.1) (depth - 1) (by (first | assumption | omega)) (by (first | assumption | omega)) (by omega)
        rw [← hx47] at hcx46
        refine hcallC_upd 0 hcx46 rfl rfl (by simp only [go_sem, rowV_eq, rowV_eq0, List.length_replicate, rep_len, Int.toNat_natCast, ↓reduceIte, Nat.reduceEqDiff, Nat.reduceAdd, Int.reduceAdd, Nat.reduceMul, Nat.reduceLeDiff, Nat.reduceLT, Int.reduceLE, Int.reduceLT, Int.reduceNeg, Int.reduceToNat, mt, mtL, mtL_self, mt_self, mtZ, and_self, eq_self, or_true, true_or, ha39, ha45]) (by simp only [go_sem, rowV_eq, rowV_eq0, List.length_replicate, rep_len, Int.toNat_natCast, ↓reduceIte, Nat.reduceEqDiff, Nat.reduceAdd, Int.reduceAdd, Nat.reduceMul, Nat.reduceLeDiff, Nat.reduceLT, Int.reduceLE, Int.reduceLT, Int.reduceNeg, Int.reduceToNat, mt, mtL, mtL_self, mt_self, mtZ, and_self, eq_self, or_true, true_or, ha39, ha45]) (by simp only [go_sem, rowV_eq, rowV_eq0, List.length_replicate, rep_len, Int.toNat_natCast, ↓reduceIte, Nat.reduceEqDiff, Nat.reduceAdd, Int.reduceAdd, Nat.reduceMul, Nat.reduceLeDiff, Nat.reduceLT, Int.reduceLE, Int.reduceLT, Int.reduceNeg, Int.reduceToNat, mt, mtL, mtL_self, mt_self, mtZ, and_self, eq_self, or_true, true_or, ha39, ha45]) (by simp only [go_sem, rowV_eq, rowV_eq0, List.length_replicate, rep_len, Int.toNat_natCast, ↓reduceIte, Nat.reduceEqDiff, Nat.reduceAdd, Int.reduceAdd, Nat.reduceMul, Nat.reduceLeDiff, Nat.reduceLT, Int.reduceLE, Int.reduceLT, Int.reduceNeg, Int.reduceToNat, mt, mtL, mtL_self, mt_self, mtZ, and_self, eq_self, or_true, true_or, ha39, ha45]) (by simp only [go_sem, rowV_eq, rowV_eq0, List.length_replicate, rep_len, Int.toNat_natCast, ↓reduceIte, Nat.reduceEqDiff, Nat.reduceAdd, Int.reduceAdd, Nat.reduceMul, Nat.reduceLeDiff, Nat.reduceLT, Int.reduceLE, Int.reduceLT, Int.reduceNeg, Int.reduceToNat, mt, mtL, mtL_self, mt_self, mtZ, and_self, eq_self, or_true, true_or, ha39, ha45]) ?_
        refine spQA (And.intro ha39 ha45) ?_
        have hq48 := item_isB hx47 (by assumption)
        replace hq48 := nzQ hq48
        refine bindC_intro omQ ?_
        refine spQA (And.intro ha39 ha45) ?_
        refine lp_intro (n39 - 1) _ (by omega) sbQ sbQ ⟨((p39.1 + 1), x46.2, (p39.2.2 ++ ([x46.1] : List S_api_Item))), rfl, ⟨⟨omQ, omQ, omQ, omQ⟩, by assumption⟩, omQ, iter_again hM hag39⟩
      ·rw [if_neg (ne_true h40)] at hM
       refine spQA (And.intro ha39 h40) ?_
       have nh40 := nzQ h40
       try have hr49 := mpQ nh40
       subst hM
       exact retCI_in [0] (by simp only [go_sem, rowV_eq, rowV_eq0, List.length_replicate, rep_len, Int.toNat_natCast, ↓reduceIte, Nat.reduceEqDiff, Nat.reduceAdd, Int.reduceAdd, Nat.reduceMul, Nat.reduceLeDiff, Nat.reduceLT, Int.reduceLE, Int.reduceLT, Int.reduceNeg, Int.reduceToNat, mt, mtL, mtL_self, mt_self, mtZ, and_self, eq_self, or_true, true_or, map_st, ha39, gt_cons0, gt_conss, Int.reduceSub, or_self, h7, h15, h31, h40]) (by decide) (by simp only [go_sem, rowV_eq, rowV_eq0, List.length_replicate, rep_len, Int.toNat_natCast, ↓reduceIte, Nat.reduceEqDiff, Nat.reduceAdd, Int.reduceAdd, Nat.reduceMul, Nat.reduceLeDiff, Nat.reduceLT, Int.reduceLE, Int.reduceLT, Int.reduceNeg, Int.reduceToNat, mt, mtL, mtL_self, mt_self, mtZ, and_self, eq_self, or_true, true_or, map_st, ha39, gt_cons0, gt_conss, Int.reduceSub, or_self, h7, h15, h31, h40])
     ·refine spQ ?_
      refine condC_intro (fun h50 => ?_) (fun h50 => ?_)
      ·rw [if_pos h50] at hM
       refine spQA h50 ?_
       have nh50 := nzQ h50
       try have hr51 := mpQ nh50
       have hM0 := hM; clear hM; obtain ⟨x52, hx53, hM⟩ := letk_opn hM0; clear hM0
       have hcx52 := encode_reader_fail_ok  (x33.2) 3 
       rw [← hx53] at hcx52
       refine callC_in [0] hcx52 (by decide) (by simp only [go_sem, rowV_eq, rowV_eq0, List.length_replicate, rep_len, Int.toNat_natCast, ↓reduceIte, Nat.reduceEqDiff, Nat.reduceAdd, Int.reduceAdd, Nat.reduceMul, Nat.reduceLeDiff, Nat.reduceLT, Int.reduceLE, Int.reduceLT, Int.reduceNeg, Int.reduceToNat, mt, mtL, mtL_self, mt_self, mtZ, and_self, eq_self, or_true, true_or]) (by simp only [go_sem, rowV_eq, rowV_eq0, List.length_replicate, rep_len, Int.toNat_natCast, ↓reduceIte, Nat.reduceEqDiff, Nat.reduceAdd, Int.reduceAdd, Nat.reduceMul, Nat.reduceLeDiff, Nat.reduceLT, Int.reduceLE, Int.reduceLT, Int.reduceNeg, Int.reduceToNat, mt, mtL, mtL_self, mt_self, mtZ, and_self, eq_self, or_true, true_or]) (fun hw54 => ?_)
       replace hw54 := nzQ hw54
       refine spQ ?_
       have hq55 := fail_ne hx53 (by decide)
       replace hq55 := nzQ hq55
       have hq56 := fail_isB hx53 (by assumption)
       replace hq56 := nzQ hq56
       exact cut_intro _ sbQ sbQ (hcut38 _ ⟨x52, rfl, ⟨⟨omQ, omQ⟩, by assumption⟩, hM⟩)
      ·rw [if_neg (ne_true h50)] at hM
       refine spQA h50 ?_
       have nh50 := nzQ h50
       try have hr57 := mpQ nh50
       exact cut_intro _ sbQ sbQ (hcut38 _ ⟨x33.2, rfl, ⟨⟨omQ, omQ⟩, by assumption⟩, hM⟩)
    ·rw [if_neg (ne_true h31)] at hM
     refine spQA h31 ?_
     have nh31 := nzQ h31
     try have hr58 := mpQ nh31
     subst hM
     exact retCI_in [0] (by simp only [go_sem, rowV_eq, rowV_eq0, List.length_replicate, rep_len, Int.toNat_natCast, ↓reduceIte, Nat.reduceEqDiff, Nat.reduceAdd, Int.reduceAdd, Nat.reduceMul, Nat.reduceLeDiff, Nat.reduceLT, Int.reduceLE, Int.reduceLT, Int.reduceNeg, Int.reduceToNat, mt, mtL, mtL_self, mt_self, mtZ, and_self, eq_self, or_true, true_or, map_st, gt_cons0, gt_conss, Int.reduceSub, or_self, h7, h15, h31]) (by decide) (by simp only [go_sem, rowV_eq, rowV_eq0, List.length_replicate, rep_len, Int.toNat_natCast, ↓reduceIte, Nat.reduceEqDiff, Nat.reduceAdd, Int.reduceAdd, Nat.reduceMul, Nat.reduceLeDiff, Nat.reduceLT, Int.reduceLE, Int.reduceLT, Int.reduceNeg, Int.reduceToNat, mt, mtL, mtL_self, mt_self, mtZ, and_self, eq_self, or_true, true_or, map_st, gt_cons0, gt_conss, Int.reduceSub, or_self, h7, h15, h31])
 ·refine spQ ?_
  refine guardC_f (fun h59 => ?_) (fun h59 => ?_)
  ·rw [if_neg (ne_true h59)] at hM
   refine spQA h59 ?_
   have nh59 := nzQ h59
   try have hr60 := mpQ nh59
   refine guardC_f (fun h61 => ?_) (fun h61 => ?_)
   ·rw [if_neg (ne_true h61)] at hM
    refine spQA h61 ?_
    have nh61 := nzQ h61
    try have hr62 := mpQ nh61
    refine guardC_t (fun h63 => ?_) (fun h63 => ?_)
    ·rw [if_pos h63] at hM
     refine spQA h63 ?_
     have nh63 := nzQ h63
     try have hr64 := mpQ nh63
     refine condC_intro (fun h65 => ?_) (fun h65 => ?_)
     ·rw [if_pos h65] at hM
      refine spQA h65 ?_
      have nh65 := nzQ h65
      try have hr66 := mpQ nh65
      have hM0 := hM; clear hM; obtain ⟨x67, hx68, hM⟩ := letk_opn hM0; clear hM0
      have hcx67 := encode_reader_fail_ok  (x1.2) 3 
      rw [← hx68] at hcx67
      refine callC_in [0] hcx67 (by decide) (by simp only [go_sem, rowV_eq, rowV_eq0, List.length_replicate, rep_len, Int.toNat_natCast, ↓reduceIte, Nat.reduceEqDiff, Nat.reduceAdd, Int.reduceAdd, Nat.reduceMul, Nat.reduceLeDiff, Nat.reduceLT, Int.reduceLE, Int.reduceLT, Int.reduceNeg, Int.reduceToNat, mt, mtL, mtL_self, mt_self, mtZ, and_self, eq_self, or_true, true_or]) (by simp only [go_sem, rowV_eq, rowV_eq0, List.length_replicate, rep_len, Int.toNat_natCast, ↓reduceIte, Nat.reduceEqDiff, Nat.reduceAdd, Int.reduceAdd, Nat.reduceMul, Nat.reduceLeDiff, Nat.reduceLT, Int.reduceLE, Int.reduceLT, Int.reduceNeg, Int.reduceToNat, mt, mtL, mtL_self, mt_self, mtZ, and_self, eq_self, or_true, true_or]) (fun hw69 => ?_)
      replace hw69 := nzQ hw69
      refine spQ ?_
      have hq70 := fail_ne hx68 (by decide)
      replace hq70 := nzQ hq70
      have hq71 := fail_isB hx68 (by assumption)
      replace hq71 := nzQ hq71
      subst hM
      exact retCI_in [0] (by simp only [go_sem, rowV_eq, rowV_eq0, List.length_replicate, rep_len, Int.toNat_natCast, ↓reduceIte, Nat.reduceEqDiff, Nat.reduceAdd, Int.reduceAdd, Nat.reduceMul, Nat.reduceLeDiff, Nat.reduceLT, Int.reduceLE, Int.reduceLT, Int.reduceNeg, Int.reduceToNat, mt, mtL, mtL_self, mt_self, mtZ, and_self, eq_self, or_true, true_or, map_st, gt_cons0, gt_conss, Int.reduceSub, or_self, h59, h61, h63, h65]) (by decide) (by simp only [go_sem, rowV_eq, rowV_eq0, List.length_replicate, rep_len, Int.toNat_natCast, ↓reduceIte, Nat.reduceEqDiff, Nat.reduceAdd, Int.reduceAdd, Nat.reduceMul, Nat.reduceLeDiff, Nat.reduceLT, Int.reduceLE, Int.reduceLT, Int.reduceNeg, Int.reduceToNat, mt, mtL, mtL_self, mt_self, mtZ, and_self, eq_self, or_true, true_or, map_st, gt_cons0, gt_conss, Int.reduceSub, or_self, h59, h61, h63, h65])
     ·rw [if_neg (ne_true h65)] at hM
      refine spQA h65 ?_
      have nh65 := nzQ h65
      try have hr72 := mpQ nh65
      exact cut_intro _ sbQ sbQ (hcut6 _ ⟨(), rfl, omQ, hM⟩)
    ·rw [if_neg (ne_true h63)] at hM
     refine spQA h63 ?_
     have nh63 := nzQ h63
     try have hr73 := mpQ nh63
     exact cut_intro _ sbQ sbQ (hcut6 _ ⟨(), rfl, omQ, hM⟩)
   ·rw [if_pos h61] at hM
    refine spQA h61 ?_
    have nh61 := nzQ h61
    try have hr74 := mpQ nh61
    have hM0 := hM; clear hM; obtain ⟨x75, hx76, hM⟩ := letk_opn hM0; clear hM0
    have hcx75 := encode_reader_fail_ok  (x1.2) 3 
    rw [← hx76] at hcx75
    refine callC_in [0] hcx75 (by decide) (by simp only [go_sem, rowV_eq, rowV_eq0, List.length_replicate, rep_len, Int.toNat_natCast, ↓reduceIte, Nat.reduceEqDiff, Nat.reduceAdd, Int.reduceAdd, Nat.reduceMul, Nat.reduceLeDiff, Nat.reduceLT, Int.reduceLE, Int.reduceLT, Int.reduceNeg, Int.reduceToNat, mt, mtL, mtL_self, mt_self, mtZ, and_self, eq_self, or_true, true_or]) (by simp only [go_sem, rowV_eq, rowV_eq0, List.length_replicate, rep_len, Int.toNat_natCast, ↓reduceIte, Nat.reduceEqDiff, Nat.reduceAdd, Int.reduceAdd, Nat.reduceMul, Nat.reduceLeDiff, Nat.reduceLT, Int.reduceLE, Int.reduceLT, Int.reduceNeg, Int.reduceToNat, mt, mtL, mtL_self, mt_self, mtZ, and_self, eq_self, or_true, true_or]) (fun hw77 => ?_)
    replace hw77 := nzQ hw77
    refine spQ ?_
    have hq78 := fail_ne hx76 (by decide)
    replace hq78 := nzQ hq78
    have hq79 := fail_isB hx76 (by assumption)
    replace hq79 := nzQ hq79
    subst hM
    exact retCI_in [0] (by simp only [go_sem, rowV_eq, rowV_eq0, List.length_replicate, rep_len, Int.toNat_natCast, ↓reduceIte, Nat.reduceEqDiff, Nat.reduceAdd, Int.reduceAdd, Nat.reduceMul, Nat.reduceLeDiff, Nat.reduceLT, Int.reduceLE, Int.reduceLT, Int.reduceNeg, Int.reduceToNat, mt, mtL, mtL_self, mt_self, mtZ, and_self, eq_self, or_true, true_or, map_st, gt_cons0, gt_conss, Int.reduceSub, or_self, h59, h61]) (by decide) (by simp only [go_sem, rowV_eq, rowV_eq0, List.length_replicate, rep_len, Int.toNat_natCast, ↓reduceIte, Nat.reduceEqDiff, Nat.reduceAdd, Int.reduceAdd, Nat.reduceMul, Nat.reduceLeDiff, Nat.reduceLT, Int.reduceLE, Int.reduceLT, Int.reduceNeg, Int.reduceToNat, mt, mtL, mtL_self, mt_self, mtZ, and_self, eq_self, or_true, true_or, map_st, gt_cons0, gt_conss, Int.reduceSub, or_self, h59, h61])
  ·rw [if_pos h59] at hM
   refine spQA h59 ?_
   have nh59 := nzQ h59
   try have hr80 := mpQ nh59
   have hM0 := hM; clear hM; obtain ⟨x81, hx82, hM⟩ := letk_opn hM0; clear hM0
   have hcx81 := encode_reader_fail_ok  (x1.2) 3 
   rw [← hx82] at hcx81
   refine callC_in [0] hcx81 (by decide) (by simp only [go_sem, rowV_eq, rowV_eq0, List.length_replicate, rep_len, Int.toNat_natCast, ↓reduceIte, Nat.reduceEqDiff, Nat.reduceAdd, Int.reduceAdd, Nat.reduceMul, Nat.reduceLeDiff, Nat.reduceLT, Int.reduceLE, Int.reduceLT, Int.reduceNeg, Int.reduceToNat, mt, mtL, mtL_self, mt_self, mtZ, and_self, eq_self, or_true, true_or]) (by simp only [go_sem, rowV_eq, rowV_eq0, List.length_replicate, rep_len, Int.toNat_natCast, ↓reduceIte, Nat.reduceEqDiff, Nat.reduceAdd, Int.reduceAdd, Nat.reduceMul, Nat.reduceLeDiff, Nat.reduceLT, Int.reduceLE, Int.reduceLT, Int.reduceNeg, Int.reduceToNat, mt, mtL, mtL_self, mt_self, mtZ, and_self, eq_self, or_true, true_or]) (fun hw83 => ?_)
   replace hw83 := nzQ hw83
   refine spQ ?_
   have hq84 := fail_ne hx82 (by decide)
   replace hq84 := nzQ hq84
   have hq85 := fail_isB hx82 (by assumption)
   replace hq85 := nzQ hq85
   subst hM
   exact retCI_in [0] (by simp only [go_sem, rowV_eq, rowV_eq0, List.length_replicate, rep_len, Int.toNat_natCast, ↓reduceIte, Nat.reduceEqDiff, Nat.reduceAdd, Int.reduceAdd, Nat.reduceMul, Nat.reduceLeDiff, Nat.reduceLT, Int.reduceLE, Int.reduceLT, Int.reduceNeg, Int.reduceToNat, mt, mtL, mtL_self, mt_self, mtZ, and_self, eq_self, or_true, true_or, map_st, gt_cons0, gt_conss, Int.reduceSub, or_self, h59]) (by decide) (by simp only [go_sem, rowV_eq, rowV_eq0, List.length_replicate, rep_len, Int.toNat_natCast, ↓reduceIte, Nat.reduceEqDiff, Nat.reduceAdd, Int.reduceAdd, Nat.reduceMul, Nat.reduceLeDiff, Nat.reduceLT, Int.reduceLE, Int.reduceLT, Int.reduceNeg, Int.reduceToNat, mt, mtL, mtL_self, mt_self, mtZ, and_self, eq_self, or_true, true_or, map_st, gt_cons0, gt_conss, Int.reduceSub, or_self, h59])
theorem itemM_okN : ∀ (N : Nat)  (r_ : S_encode_reader) (depth : Int), (0 ≤ depth) → (isB r_.b) → depth.toNat < N → CallIn En 169 [.ptr 0 0, .int .i64 depth] [.var 2 true (.agg [.sl none 1 false (r_.b.map (V.int .u8)), .int .i64 r_.e])] (.agg [.int .i64 (itemM r_ depth).1.Kind, .int .i64 (itemM r_ depth).1.N, .sl none 1 false ((itemM r_ depth).1.B.map (V.int .u8)), .sl none 4 true ((itemM r_ depth).1.L.map e_api_Item)]) [.var 2 true (.agg [.sl none 1 false ((itemM r_ depth).2.b.map (V.int .u8)), .int .i64 (itemM r_ depth).2.e])] [] := by
 intro N
 induction N with
 | zero => intro r_ depth h0 h1 h; exact absurd h (Nat.not_lt_zero _)
 | succ N ih =>
  intro r_ depth h0 h1 h
  have h9 := encode_reader_item_ok N ih r_ depth h0 h1 h
  rw [encode_reader_item_eqM h0 h1] at h9
  exact h9
theorem itemM_ok  (r_ : S_encode_reader) (depth : Int) (hp0 : 0 ≤ depth) (hp1 : isB r_.b) : CallIn En 169 [.ptr 0 0, .int .i64 depth] [.var 2 true (.agg [.sl none 1 false (r_.b.map (V.int .u8)), .int .i64 r_.e])] (.agg [.int .i64 (itemM r_ depth).1.Kind, .int .i64 (itemM r_ depth).1.N, .sl none 1 false ((itemM r_ depth).1.B.map (V.int .u8)), .sl none 4 true ((itemM r_ depth).1.L.map e_api_Item)]) [.var 2 true (.agg [.sl none 1 false ((itemM r_ depth).2.b.map (V.int .u8)), .int .i64 (itemM r_ depth).2.e])] [] :=
 itemM_okN (depth.toNat + 1) r_ depth hp0 hp1 (Nat.lt_succ_self _)
instance (priority := 1005) : DRD 8 34 6 [28, 29, 30, 31, 32] [] ([[], [], [1], [1, 2], [1, 2, 3], [0]] ++ [List.range 6]) [(5, 0)] := ⟨trivial⟩
set_option maxHeartbeats 2000000 in
set_option maxRecDepth 100000 in
instance encode_Decode_ok   (b : (List Int))  : CM En (encode_Decode b) 91 [.sl none 1 false (b.map (V.int .u8))] (fun y => .tup [.agg [.int .i64 y.1.Kind, .int .i64 y.1.N, .sl none 1 false (y.1.B.map (V.int .u8)), .sl none 4 true (y.1.L.map e_api_Item)], .int .i64 y.2]) (fun _ => []) := by
 refine cmQ fun r hM => ?_
 rw [encode_Decode.eq_1] at hM
 refine enterV En_ok En_mo [7] Tryz.func91 rfl Tryz.ntmps91 (by kernel_rfl) fun hw => ct_start ?_
 refine spQ ?_
 replace hw := nzQ hw
 refine condC_intro (fun h1 => ?_) (fun h1 => ?_)
 ·rw [if_pos h1] at hM
  refine spQA h1 ?_
  have nh1 := nzQ h1
  try have hr2 := mpQ nh1
  subst hM
  exact retC_view (lfQA h1)
 ·rw [if_neg (ne_true h1)] at hM
  refine spQA h1 ?_
  have nh1 := nzQ h1
  try have hr3 := mpQ nh1
  have hM0 := hM; clear hM; obtain ⟨x4, hx5, hM⟩ := letk_opn hM0; clear hM0
  have hcx4 := itemM_ok  ({ b := b, e := 0 } : S_encode_reader) 8 (by (first | decide | exact isB_wf hw.2)) (by (first | decide | exact isB_wf hw.2))
  rw [← hx5] at hcx4
  refine callC_in [1] hcx4 (by decide) (by simp only [go_sem, rowV_eq, rowV_eq0, List.length_replicate, rep_len, Int.toNat_natCast, ↓reduceIte, Nat.reduceEqDiff, Nat.reduceAdd, Int.reduceAdd, Nat.reduceMul, Nat.reduceLeDiff, Nat.reduceLT, Int.reduceLE, Int.reduceLT, Int.reduceNeg, Int.reduceToNat, mt, mtL, mtL_self, mt_self, mtZ, and_self, eq_self, or_true, true_or]) (by simp only [go_sem, rowV_eq, rowV_eq0, List.length_replicate, rep_len, Int.toNat_natCast, ↓reduceIte, Nat.reduceEqDiff, Nat.reduceAdd, Int.reduceAdd, Nat.reduceMul, Nat.reduceLeDiff, Nat.reduceLT, Int.reduceLE, Int.reduceLT, Int.reduceNeg, Int.reduceToNat, mt, mtL, mtL_self, mt_self, mtZ, and_self, eq_self, or_true, true_or]) (fun hw6 => ?_)
  replace hw6 := nzQ hw6
  refine spQ ?_
  have hM0 := hM; clear hM; obtain ⟨j7, hj7, hM⟩ := letj_opn hM0; clear hM0
  refine seqC_intro (fun S => ∃ p : S_encode_reader, S = (⟨[(2, .ptr 0 0), (4, .ptr 1 0), (5, .ptr 2 0)], [(0, .var 4 true (.agg [.int .i64 0, .int .i64 0, .sl (some true) 1 false [], .sl (some true) 4 true []])), (1, .var 2 true (.agg [.sl none 1 false (p.b.map (V.int .u8)), .int .i64 p.e])), (2, .var 4 true (.agg [.int .i64 x4.1.Kind, .int .i64 x4.1.N, .sl none 1 false (x4.1.B.map (V.int .u8)), .sl none 4 true (x4.1.L.map e_api_Item)]))], 3⟩ : St) ∧ (True) ∧ j7 p = r) ?_ (fun hcut7 => ?_)
  ·clear hM
   rintro S ⟨p7, rfl, hfa7, hM⟩
   have hM0 := hM; clear hM; have hM := letj_use hM0 hj7; clear hM0
   try refine spQ ?_
   have hF := h1
   exact auQ
  ·refine spQ ?_
   refine condC_intro (fun h11 => ?_) (fun h11 => ?_)
   ·rw [if_pos h11] at hM
    refine spQA h11 ?_
    have nh11 := nzQ h11
    try have hr12 := mpQ nh11
    have hM0 := hM; clear hM; obtain ⟨x13, hx14, hM⟩ := letk_opn hM0; clear hM0
    have hcx13 := encode_reader_fail_ok  (x4.2) 3 
    rw [← hx14] at hcx13
    refine callC_in [1] hcx13 (by decide) (by simp only [go_sem, rowV_eq, rowV_eq0, List.length_replicate, rep_len, Int.toNat_natCast, ↓reduceIte, Nat.reduceEqDiff, Nat.reduceAdd, Int.reduceAdd, Nat.reduceMul, Nat.reduceLeDiff, Nat.reduceLT, Int.reduceLE, Int.reduceLT, Int.reduceNeg, Int.reduceToNat, mt, mtL, mtL_self, mt_self, mtZ, and_self, eq_self, or_true, true_or]) (by simp only [go_sem, rowV_eq, rowV_eq0, List.length_replicate, rep_len, Int.toNat_natCast, ↓reduceIte, Nat.reduceEqDiff, Nat.reduceAdd, Int.reduceAdd, Nat.reduceMul, Nat.reduceLeDiff, Nat.reduceLT, Int.reduceLE, Int.reduceLT, Int.reduceNeg, Int.reduceToNat, mt, mtL, mtL_self, mt_self, mtZ, and_self, eq_self, or_true, true_or]) (fun hw15 => ?_)
    replace hw15 := nzQ hw15
    refine spQ ?_
    exact cut_intro _ sbQ sbQ (hcut7 _ ⟨x13, rfl, trivial, hM⟩)
   ·rw [if_neg (ne_true h11)] at hM
    refine spQA h11 ?_
    have nh11 := nzQ h11
    try have hr16 := mpQ nh11
    exact cut_intro _ sbQ sbQ (hcut7 _ ⟨x4.2, rfl, trivial, hM⟩)
set_option maxHeartbeats 2000000 in
set_option maxRecDepth 100000 in
instance encode_Numbers_ok   (i_ : S_api_Item)  : CM En (encode_Numbers i_) 92 [.agg [.int .i64 i_.Kind, .int .i64 i_.N, .sl none 1 false (i_.B.map (V.int .u8)), .sl none 4 true (i_.L.map e_api_Item)]] (fun y => .tup [.sl none 1 false (y.1.map (V.int .i64)), .int .i64 y.2]) (fun _ => []) := by
 refine cmQ fun r hM => ?_
 rw [encode_Numbers.eq_1] at hM
 refine enterV En_ok En_mo noJ Tryz.func92 rfl Tryz.ntmps92 (by kernel_rfl) fun hw => ct_start ?_
 refine spQ ?_
 replace hw := nzQ hw
 have hM0 := hM; clear hM; obtain ⟨x1, hx2, hM⟩ := letk_opn hM0; clear hM0
 have hcx1 := cmU hx2
 refine callC_give hcx1 clQ clQ (fun hw3 => ?_)
 replace hw3 := nzQ hw3
 refine spQ ?_
 refine condC_intro (fun h4 => ?_) (fun h4 => ?_)
 ·rw [if_pos h4] at hM
  refine spQA h4 ?_
  have nh4 := nzQ h4
  try have hr5 := mpQ nh4
  subst hM
  exact retC_view (lfQA h4)
 ·rw [if_neg (ne_true h4)] at hM
  refine spQA h4 ?_
  have nh4 := nzQ h4
  try have hr6 := mpQ nh4
  refine condC_intro (fun h7 => ?_) (fun h7 => ?_)
  ·rw [if_pos h7] at hM
   refine spQA h7 ?_
   have nh7 := nzQ h7
   try have hr8 := mpQ nh7
   subst hM
   exact retC_view (lfQA (And.intro h4 h7))
  ·rw [if_neg (ne_true h7)] at hM
   refine spQA h7 ?_
   have nh7 := nzQ h7
   try have hr9 := mpQ nh7
   have hM0 := hM; clear hM; obtain ⟨f10, d10, hf10, hd10, hM⟩ := iter_opn hM0; clear hM0
   refine ct_loopW (fun n S => ∃ p : Int × List Int, S = (⟨[(4, .own 1), (14, .sl none 4 true (i_.L.map e_api_Item)), (15, .int .i64 (i_.L.length : Int)), (16, .int .i64 p.1)], [(1, .own 3 1 false none (p.2.map (V.int .i64)))], 2⟩ : St) ∧ ((0 ≤ p.1) ∧ (p.1 ≤ (i_.L.length : Int)) ∧ (((p.2).length : Int) ≤ p.1)) ∧ ((i_.L.length : Int) - p.1).toNat < n ∧ iter n f10 d10 p = r) (((i_.L.length : Int) - 0).toNat + 1) _ _ (weak_nil 4 3 rfl (by decide)) sbQ sbQ ⟨(0, ([] : List Int)), rfl, ⟨omQ, omQ, omQ⟩, (Nat.lt_succ_self _), hM⟩ ?_
   clear hM
   rintro n10 S ⟨p10, rfl, hfa10, hm10, hM⟩
   have hM0 := hM; clear hM; obtain ⟨ag10, hag10, hM⟩ := iter_step hM0 (by omega) hf10; clear hM0
   replace hfa10 := nzQ hfa10
   replace hm10 := nzQ hm10
   have ha10 : addI .i64 p10.1 1 = p10.1 + 1 := add_one omQ omQ
   refine spQA ha10 ?_
   have hF := (And.intro h4 (And.intro h7 ha10))
   exact auQ
instance (priority := 1006) : DRD 6 26 8 [16, 17, 18, 19, 20, 21, 22, 23] [] ([[], [], [0, 1], [0, 1, 2], [], [], [4, 5], [4, 5, 6]] ++ [List.range 8]) [] := ⟨trivial⟩
set_option maxHeartbeats 2000000 in
set_option maxRecDepth 100000 in
instance slices_Equal_int_int_ok   (s1 : (List Int)) (s2 : (List Int))  : CM En (slices_Equal_int_int s1 s2) 18 [.sl none 1 false (s1.map (V.int .i64)), .sl none 1 false (s2.map (V.int .i64))] (fun y => .bool y) (fun _ => []) := by
 refine cmQ fun r hM => ?_
 rw [slices_Equal_int_int.eq_1] at hM
 refine enterV En_ok En_mo noJ Tryz.func18 rfl Tryz.ntmps18 (by kernel_rfl) fun hw => ct_start ?_
 refine spQ ?_
 replace hw := nzQ hw
 refine condC_intro (fun h1 => ?_) (fun h1 => ?_)
 ·rw [if_pos h1] at hM
  refine spQA h1 ?_
  have nh1 := nzQ h1
  try have hr2 := mpQ nh1
  subst hM
  exact retC_view (lfQA h1)
 ·rw [if_neg (ne_true h1)] at hM
  refine spQA h1 ?_
  have nh1 := nzQ h1
  try have hr3 := mpQ nh1
  have hM0 := hM; clear hM; obtain ⟨f4, d4, hf4, hd4, hM⟩ := iter_opn hM0; clear hM0
  refine ct_loop (fun n S => ∃ p : Int, S = (⟨[(0, .sl none 1 false (s1.map (V.int .i64))), (1, .sl none 1 false (s2.map (V.int .i64))), (12, .int .i64 (s1.length : Int)), (13, .int .i64 p)], [], 0⟩ : St) ∧ ((0 ≤ p) ∧ (p ≤ (s1.length : Int))) ∧ ((s1.length : Int) - p).toNat < n ∧ iter n f4 d4 p = r) (((s1.length : Int) - 0).toNat + 1) _ sbQ sbQ ⟨0, rfl, ⟨omQ, omQ⟩, (Nat.lt_succ_self _), hM⟩ ?_
  clear hM
  rintro n4 S ⟨p4, rfl, hfa4, hm4, hM⟩
  have hM0 := hM; clear hM; obtain ⟨ag4, hag4, hM⟩ := iter_step hM0 (by omega) hf4; clear hM0
  replace hfa4 := nzQ hfa4
  replace hm4 := nzQ hm4
  have ha4 : addI .i64 p4 1 = p4 + 1 := add_one omQ omQ
  refine spQA ha4 ?_
  have hF := (And.intro h1 ha4)
  exact auQ
instance (priority := 1007) : DRD 1 8 3 [4, 5, 6] [] ([[], [], [1]] ++ [List.range 3, List.range 4]) [] := ⟨trivial⟩
set_option maxHeartbeats 2000000 in
set_option maxRecDepth 100000 in
theorem coin_leaves_1_ok   (d_ : Int) (c0 : Int) (hp0 : 0 ≤ d_) : CM En (coin_leaves_1 d_ c0) 136 [.int .i64 d_, .pp 1 false (.int .i64 c0)] (fun y => .bool y) (fun _ => []) := by
 refine cmQ fun r hM => ?_
 rw [coin_leaves_1.eq_1] at hM
 refine enterV En_ok En_mo noJ Tryz.func136 rfl Tryz.ntmps136 (by kernel_rfl) fun hw => ct_start ?_
 refine spQ ?_
 replace hw := nzQ hw
 have hF := trueQ
 exact auQ
set_option maxHeartbeats 2000000 in
set_option maxRecDepth 100000 in
theorem slices_IndexFunc_int_int_at_coin_leaves_1_ok   (s : (List Int)) (f__c0 : Int) (hp0 : ∀ j : Int, 0 ≤ j → j.toNat < s.length → 0 ≤ gt s j) : CM En (slices_IndexFunc_int_int_at_coin_leaves_1 s f__c0) 76 [.sl none 1 false (s.map (V.int .i64)), .fn 136 [.pp 1 false (.int .i64 f__c0)]] (fun y => .int .i64 y) (fun _ => []) := by
 refine cmQ fun r hM => ?_
 rw [slices_IndexFunc_int_int_at_coin_leaves_1.eq_1] at hM
 refine enterV En_ok En_mo noJ Tryz.func76 rfl Tryz.ntmps76 (by kernel_rfl) fun hw => ct_start ?_
 refine spQ ?_
 replace hw := nzQ hw
 have hM0 := hM; clear hM; obtain ⟨f1, d1, hf1, hd1, hM⟩ := iter_opn hM0; clear hM0
 refine ct_loop (fun n S => ∃ p : Int, S = (⟨[(0, .sl none 1 false (s.map (V.int .i64))), (1, .fn 136 [.pp 1 false (.int .i64 f__c0)]), (7, .int .i64 (s.length : Int)), (8, .int .i64 p)], [], 0⟩ : St) ∧ ((0 ≤ p) ∧ (p ≤ (s.length : Int))) ∧ ((s.length : Int) - p).toNat < n ∧ iter n f1 d1 p = r) (((s.length : Int) - 0).toNat + 1) _ sbQ sbQ ⟨0, rfl, ⟨omQ, omQ⟩, (Nat.lt_succ_self _), hM⟩ ?_
 clear hM
 rintro n1 S ⟨p1, rfl, hfa1, hm1, hM⟩
 have hM0 := hM; clear hM; obtain ⟨ag1, hag1, hM⟩ := iter_step hM0 (by omega) hf1; clear hM0
 replace hfa1 := nzQ hfa1
 replace hm1 := nzQ hm1
 have ha1 : addI .i64 p1 1 = p1 + 1 := add_one omQ omQ
 refine spQA ha1 ?_
 refine condC_intro (fun h2 => ?_) (fun h2 => ?_)
 ·rw [if_pos h2] at hM
  refine spQA (And.intro ha1 h2) ?_
  have nh2 := nzQ h2
  try have hr3 := mpQ nh2
  refine bindC_intro omQ ?_
  have he4 := fun d => elt_mp (l := s) (f := (V.int .i64)) (i := p1) omQ d
  refine spQA (And.intro ha1 he4) ?_
  have hM0 := hM; clear hM; obtain ⟨x5, hx6, hM⟩ := letk_opn hM0; clear hM0
  have hcx5 := cmH hx6 (coin_leaves_1_ok  (gt s p1) f__c0 (by (exact hp0 _ (by omega) (by omega))))
  refine callC_give hcx5 (clQA (And.intro ha1 he4)) (clQA (And.intro ha1 he4)) (fun hw7 => ?_)
  replace hw7 := nzQ hw7
  refine spQA (And.intro ha1 he4) ?_
  have hF := (And.intro ha1 (And.intro h2 he4))
  exact auQ
 ·rw [if_neg (ne_true h2)] at hM
  refine spQA (And.intro ha1 h2) ?_
  have nh2 := nzQ h2
  try have hr9 := mpQ nh2
  subst hM
  exact retC_view (lfQA (And.intro ha1 h2))
set_option maxHeartbeats 2000000 in
set_option maxRecDepth 100000 in
theorem slices_ContainsFunc_int_int_at_coin_leaves_1_ok   (s : (List Int)) (f__c0 : Int) (hp0 : ∀ j : Int, 0 ≤ j → j.toNat < s.length → 0 ≤ gt s j) : CM En (slices_ContainsFunc_int_int_at_coin_leaves_1 s f__c0) 23 [.sl none 1 false (s.map (V.int .i64)), .fn 136 [.pp 1 false (.int .i64 f__c0)]] (fun y => .bool y) (fun _ => []) := by
 refine cmQ fun r hM => ?_
 rw [slices_ContainsFunc_int_int_at_coin_leaves_1.eq_1] at hM
 refine enterV En_ok En_mo noJ Tryz.func23 rfl Tryz.ntmps23 (by kernel_rfl) fun hw => ct_start ?_
 refine spQ ?_
 replace hw := nzQ hw
 have hM0 := hM; clear hM; obtain ⟨x1, hx2, hM⟩ := letk_opn hM0; clear hM0
 have hcx1 := cmH hx2 (slices_IndexFunc_int_int_at_coin_leaves_1_ok  s f__c0 (by (exact hp0)))
 refine callC_give hcx1 clQ clQ (fun hw3 => ?_)
 replace hw3 := nzQ hw3
 refine spQ ?_
 subst hM
 exact retC_view lfQ
set_option maxHeartbeats 2000000 in
set_option maxRecDepth 100000 in
instance coin_leaves_ok   (n_ : Int)  : CM En (coin_leaves n_) 64 [.int .i64 n_] (fun y => .bool y) (fun _ => []) := by
 refine cmQ fun r hM => ?_
 rw [coin_leaves.eq_1] at hM
 refine enterV En_ok En_mo noJ Tryz.func64 rfl Tryz.ntmps64 (by kernel_rfl) fun hw => ct_start ?_
 refine spQ ?_
 replace hw := nzQ hw
 have hM0 := hM; clear hM; obtain ⟨x1, hx2, hM⟩ := letk_opn hM0; clear hM0
 have hcx1 := cmH hx2 (slices_ContainsFunc_int_int_at_coin_leaves_1_ok  ([0, 1, 2, 3, 4, 5] : List Int) n_ (by (exact lits_nn)))
 refine callC_look hcx1 clQ clQ (fun hw3 => ?_)
 replace hw3 := nzQ hw3
 refine spQ ?_
 subst hM
 exact retC_view lfQ
set_option maxHeartbeats 2000000 in
set_option maxRecDepth 100000 in
instance coin_scalar_ok   (b : S_api_Bases) (n_ : Int)  : CM En (coin_scalar b n_) 133 [(e_api_Bases b), .int .i64 n_] (fun y => .bool y) (fun _ => []) := by
 refine cmQ fun r hM => ?_
 rw [coin_scalar.eq_1] at hM
 refine enterV En_ok En_mo noJ Tryz.func133 rfl Tryz.ntmps133 (by kernel_rfl) fun hw => ct_start ?_
 refine spQ ?_
 replace hw := nzQ hw
 have hF := trueQ
 exact auQ
set_option maxHeartbeats 2000000 in
set_option maxRecDepth 100000 in
instance coin_ValidSecret_ok   (b : S_api_Bases) (s : S_api_CoinSecret)  : CM En (coin_ValidSecret b s) 60 [(e_api_Bases b), .agg [.int .i64 s.U, .int .i64 s.S, .sl none 2 true (s.X.map (fun l => .agg [.int .i64 (gt l 0), .int .i64 (gt l 1)]))]] (fun y => .bool y) (fun _ => []) := by
 refine cmQ fun r hM => ?_
 rw [coin_ValidSecret.eq_1] at hM
 refine enterV En_ok En_mo noJ Tryz.func60 rfl Tryz.ntmps60 (by kernel_rfl) fun hw => ct_start ?_
 refine spQ ?_
 replace hw := nzQ hw
 have hM0 := hM; clear hM; obtain ⟨x1, hx2, hM⟩ := letk_opn hM0; clear hM0
 have hcx1 := cmU hx2
 refine callC_give hcx1 clQ clQ (fun hw3 => ?_)
 replace hw3 := nzQ hw3
 refine spQ ?_
 refine guardC_f (fun h4 => ?_) (fun h4 => ?_)
 ·rw [if_neg (ne_true h4)] at hM
  refine spQA h4 ?_
  have nh4 := nzQ h4
  try have hr5 := mpQ nh4
  have hM0 := hM; clear hM; obtain ⟨x6, hx7, hM⟩ := letk_opn hM0; clear hM0
  have hcx6 := cmU hx7
  refine callC_give hcx6 clQ clQ (fun hw8 => ?_)
  replace hw8 := nzQ hw8
  refine spQ ?_
  refine guardC_f (fun h9 => ?_) (fun h9 => ?_)
  ·rw [if_neg (ne_true h9)] at hM
   refine spQA h9 ?_
   have nh9 := nzQ h9
   try have hr10 := mpQ nh9
   have hM0 := hM; clear hM; obtain ⟨x11, hx12, hM⟩ := letk_opn hM0; clear hM0
   have hcx11 := cmU hx12
   refine callC_give hcx11 clQ clQ (fun hw13 => ?_)
   replace hw13 := nzQ hw13
   refine spQ ?_
   refine guardC_f (fun h14 => ?_) (fun h14 => ?_)
   ·rw [if_neg (ne_true h14)] at hM
    refine spQA h14 ?_
    have nh14 := nzQ h14
    try have hr15 := mpQ nh14
    have hM0 := hM; clear hM; obtain ⟨x16, hx17, hM⟩ := letk_opn hM0; clear hM0
    have hcx16 := cmU hx17
    refine callC_give hcx16 clQ clQ (fun hw18 => ?_)
    replace hw18 := nzQ hw18
    refine spQ ?_
    refine guardC_f (fun h19 => ?_) (fun h19 => ?_)
    ·rw [if_neg (ne_true h19)] at hM
     refine spQA h19 ?_
     have nh19 := nzQ h19
     try have hr20 := mpQ nh19
     have hM0 := hM; clear hM; obtain ⟨x21, hx22, hM⟩ := letk_opn hM0; clear hM0
     have hcx21 := cmU hx22
     refine callC_give hcx21 clQ clQ (fun hw23 => ?_)
     replace hw23 := nzQ hw23
     refine spQ ?_
     refine condC_intro (fun h24 => ?_) (fun h24 => ?_)
     ·rw [if_pos h24] at hM
      refine spQA h24 ?_
      have nh24 := nzQ h24
      try have hr25 := mpQ nh24
      subst hM
      exact retC_view (lfQA (And.intro h4 (And.intro h9 (And.intro h14 (And.intro h19 h24)))))
     ·rw [if_neg (ne_true h24)] at hM
      refine spQA h24 ?_
      have nh24 := nzQ h24
      try have hr26 := mpQ nh24
      have hM0 := hM; clear hM; obtain ⟨f27, d27, hf27, hd27, hM⟩ := iter_opn hM0; clear hM0
      refine ct_loop (fun n S => ∃ p : Int × List (List Int), S = (⟨[(2, .ptr 0 0), (5, .own 2), (41, .sl none 2 true (s.X.map (fun l => .agg [.int .i64 (gt l 0), .int .i64 (gt l 1)]))), (42, .int .i64 (s.X.length : Int)), (43, .int .i64 p.1)], [(0, .var 6 true ((e_api_Bases b))), (2, .kset false .i64 1 p.2)], 3⟩ : St) ∧ ((0 ≤ p.1) ∧ (p.1 ≤ (s.X.length : Int))) ∧ ((s.X.length : Int) - p.1).toNat < n ∧ iter n f27 d27 p = r) (((s.X.length : Int) - 0).toNat + 1) _ sbQ sbQ ⟨(0, ([] : List (List Int))), rfl, ⟨omQ, omQ⟩, (Nat.lt_succ_self _), hM⟩ ?_
      clear hM
      rintro n27 S ⟨p27, rfl, hfa27, hm27, hM⟩
      have hM0 := hM; clear hM; obtain ⟨ag27, hag27, hM⟩ := iter_step hM0 (by omega) hf27; clear hM0
      replace hfa27 := nzQ hfa27
      replace hm27 := nzQ hm27
      have ha27 : addI .i64 p27.1 1 = p27.1 + 1 := add_one omQ omQ
      refine spQA ha27 ?_
      have hF := (And.intro h4 (And.intro h9 (And.intro h14 (And.intro h19 (And.intro h24 ha27)))))
      exact auQ
    ·rw [if_pos h19] at hM
     refine spQA h19 ?_
     have nh19 := nzQ h19
     try have hr53 := mpQ nh19
     subst hM
     exact retC_view (lfQA (And.intro h4 (And.intro h9 (And.intro h14 h19))))
   ·rw [if_pos h14] at hM
    refine spQA h14 ?_
    have nh14 := nzQ h14
    try have hr54 := mpQ nh14
    subst hM
    exact retC_view (lfQA (And.intro h4 (And.intro h9 h14)))
  ·rw [if_pos h9] at hM
   refine spQA h9 ?_
   have nh9 := nzQ h9
   try have hr55 := mpQ nh9
   subst hM
   exact retC_view (lfQA (And.intro h4 h9))
 ·rw [if_pos h4] at hM
  refine spQA h4 ?_
  have nh4 := nzQ h4
  try have hr56 := mpQ nh4
  subst hM
  exact retC_view (lfQA h4)
set_option maxHeartbeats 2000000 in
set_option maxRecDepth 100000 in
instance withdraw_scalar_ok   (b : S_api_Bases) (x_ : Int)  : CM En (withdraw_scalar b x_) 104 [(e_api_Bases b), .int .i64 x_] (fun y => .bool y) (fun _ => []) := by
 refine cmQ fun r hM => ?_
 rw [withdraw_scalar.eq_1] at hM
 refine enterV En_ok En_mo noJ Tryz.func104 rfl Tryz.ntmps104 (by kernel_rfl) fun hw => ct_start ?_
 refine spQ ?_
 replace hw := nzQ hw
 have hF := trueQ
 exact auQ
instance (priority := 1008) : DRD 4 119 41 [54, 55, 56, 57, 58, 59, 60, 61, 62, 63, 64, 65, 66, 67, 68, 69, 70, 71, 72, 73, 74, 75, 76, 77, 78, 79, 80, 81, 82, 83, 84, 85, 86, 87, 88, 89, 90, 91, 92, 93, 94] [] ([[], [], [1], [0, 1, 2], [0, 1, 2, 3], [0, 1, 2, 3, 4], [0, 1, 2, 3, 4, 5], [0, 1, 2, 3, 4, 5, 6], [0, 1, 2, 3, 4, 5, 6, 7], [0, 1, 2, 3, 4, 5, 6, 7, 8], [0, 1, 2, 3, 4, 5], [0, 1, 2, 3, 4, 5, 10], [0, 1, 2, 3, 4, 5, 10, 11], [0, 1, 2, 3, 4, 5, 6, 7, 8, 9, 10, 11, 12], [0, 1, 2, 3, 4, 5, 6, 7, 8, 9, 10, 11, 12, 13], [0, 1, 2, 3, 4, 5, 6, 7, 8, 9, 10, 11, 12, 13, 14], [0, 1, 2, 3, 4, 5, 6, 7, 8, 9, 10, 11, 12, 13, 14, 15], [0, 1, 2, 3, 4, 5, 6, 7, 8, 9, 10, 11, 12, 13, 14, 15, 16], [0, 1, 2, 3, 4, 5, 6, 7, 8, 9, 10, 11, 12, 13, 14, 15], [0, 1, 2, 3, 4, 5, 6, 7, 8, 9, 10, 11, 12, 13, 14, 15, 18], [0, 1, 2, 3, 4, 5, 6, 7, 8, 9, 10, 11, 12, 13, 14, 15, 18, 19], [0, 1, 2, 3, 4, 5, 6, 7, 8, 9, 10, 11, 12, 13, 14, 15, 16, 17, 18, 19, 20], [0, 1, 2, 3, 4, 5, 6, 7, 8, 9, 10, 11, 12, 13, 14, 15, 16, 17, 18, 19, 20, 21], [0, 1, 2, 3, 4, 5, 6, 7, 8, 9, 10, 11, 12, 13, 14, 15, 16, 17, 18, 19, 20, 21, 22], [0, 1, 2, 3, 4, 5, 6, 7, 8, 9, 10, 11, 12, 13, 14, 15, 16, 17, 18, 19, 20, 21, 22, 23], [0, 1, 2, 3, 4, 5, 6, 7, 8, 9, 10, 11, 12, 13, 14, 15, 16, 17, 18, 19, 20, 21, 22, 23], [0, 1, 2, 3, 4, 5, 6, 7, 8, 9, 10, 11, 12, 13, 14, 15, 16, 17, 18, 19, 20, 21, 22, 23, 25], [0, 1, 2, 3, 4, 5, 6, 7, 8, 9, 10, 11, 12, 13, 14, 15, 16, 17, 18, 19, 20, 21, 22, 23, 24, 25, 26], [0, 1, 2, 3, 4, 5, 6, 7, 8, 9, 10, 11, 12, 13, 14, 15, 16, 17, 18, 19, 20, 21, 22, 23, 24, 25, 26, 27], [0, 1, 2, 3, 4, 5, 6, 7, 8, 9, 10, 11, 12, 13, 14, 15, 16, 17, 18, 19, 20, 21, 22, 23, 24, 25, 26, 27, 28], [0, 1, 2, 3, 4, 5, 6, 7, 8, 9, 10, 11, 12, 13, 14, 15, 16, 17, 18, 19, 20, 21, 22, 23, 24, 25, 26, 27, 28, 29], [0, 1, 2, 3, 4, 5, 6, 7, 8, 9, 10, 11, 12, 13, 14, 15, 16, 17, 18, 19, 20, 21, 22, 23, 24, 25, 26, 27, 28, 29, 30], [0, 1, 2, 3, 4, 5, 6, 7, 8, 9, 10, 11, 12, 13, 14, 15, 16, 17, 18, 19, 20, 21, 22, 23, 24, 25, 26, 27, 28, 29, 30], [0, 1, 2, 3, 4, 5, 6, 7, 8, 9, 10, 11, 12, 13, 14, 15, 16, 17, 18, 19, 20, 21, 22, 23, 24, 25, 26, 27, 28, 29, 30, 32], [0, 1, 2, 3, 4, 5, 6, 7, 8, 9, 10, 11, 12, 13, 14, 15, 16, 17, 18, 19, 20, 21, 22, 23, 24, 25, 26, 27, 28, 29, 30, 31, 32, 33], [0, 1, 2, 3, 4, 5, 6, 7, 8, 9, 10, 11, 12, 13, 14, 15, 16, 17, 18, 19, 20, 21, 22, 23, 24, 25, 26, 27, 28, 29, 30, 31, 32, 33, 34], [0, 1, 2, 3, 4, 5, 6, 7, 8, 9, 10, 11, 12, 13, 14, 15, 16, 17, 18, 19, 20, 21, 22, 23, 24, 25, 26, 27, 28, 29, 30, 31, 32, 33, 34, 35], [0, 1, 2, 3, 4, 5, 6, 7, 8, 9, 10, 11, 12, 13, 14, 15, 16, 17, 18, 19, 20, 21, 22, 23, 24, 25, 26, 27, 28, 29, 30, 31, 32, 33, 34, 35, 36], [0, 1, 2, 3, 4, 5, 6, 7, 8, 9, 10, 11, 12, 13, 14, 15, 16, 17, 18, 19, 20, 21, 22, 23, 24, 25, 26, 27, 28, 29, 30, 31, 32, 33, 34, 35, 36, 37], [0, 1, 2, 3, 4, 5, 6, 7, 8, 9, 10, 11, 12, 13, 14, 15, 16, 17, 18, 19, 20, 21, 22, 23, 24, 25, 26, 27, 28, 29, 30, 31, 32, 33, 34, 35, 36, 37], [0, 1, 2, 3, 4, 5, 6, 7, 8, 9, 10, 11, 12, 13, 14, 15, 16, 17, 18, 19, 20, 21, 22, 23, 24, 25, 26, 27, 28, 29, 30, 31, 32, 33, 34, 35, 36, 37, 39]] ++ [List.range 41, List.range 42, List.range 43]) [] := ⟨trivial⟩
set_option maxHeartbeats 2000000 in
set_option maxRecDepth 100000 in
instance withdraw_begun_ok   (b : S_api_Bases) (r_ : S_api_KeyRecord) (w : S_api_Withdrawal)  : CM En (withdraw_begun b r_ w) 93 [(e_api_Bases b), (e_api_KeyRecord r_), (e_api_Withdrawal w)] (fun y => .bool y) (fun _ => []) := by
 refine cmQ fun r hM => ?_
 rw [withdraw_begun.eq_1] at hM
 refine enterV En_ok En_mo noJ Tryz.func93 rfl Tryz.ntmps93 (by kernel_rfl) fun hw => ct_start ?_
 refine spQ ?_
 replace hw := nzQ hw
 have hF := trueQ
 exact auQ
set_option maxHeartbeats 2000000 in
set_option maxRecDepth 100000 in
theorem withdraw_Valid_ok   (b : S_api_Bases) (r_ : S_api_KeyRecord) (w : S_api_Withdrawal) (hp0 : w.Phase = 1) : CM En (withdraw_Valid b r_ w) 39 [.agg [.int .i64 b.Group.P, .int .i64 b.Group.Q, .int .i64 b.Group.G, .int .i64 b.G1, .int .i64 b.G2, .int .i64 b.H], (e_api_KeyRecord r_), (e_api_Withdrawal w)] (fun y => .bool y) (fun _ => []) := by
 refine cmQ fun r hM => ?_
 rw [withdraw_Valid.eq_1] at hM
 refine enterV En_ok En_mo noJ Tryz.func39 rfl Tryz.ntmps39 (by kernel_rfl) fun hw => ct_start ?_
 refine spQ ?_
 replace hw := nzQ hw
 have hM0 := hM; clear hM; obtain ⟨x1, hx2, hM⟩ := letk_opn hM0; clear hM0
 have hcx1 := cmU hx2
 refine callC_give hcx1 clQ clQ (fun hw3 => ?_)
 replace hw3 := nzQ hw3
 refine spQ ?_
 refine condC_intro (fun h4 => ?_) (fun h4 => ?_)
 ·rw [if_pos h4] at hM
  refine spQA h4 ?_
  have nh4 := nzQ h4
  try have hr5 := mpQ nh4
  subst hM
  exact retC_view (lfQA h4)
 ·rw [if_neg (ne_true h4)] at hM
  refine spQA h4 ?_
  have nh4 := nzQ h4
  try have hr6 := mpQ nh4
  refine condC_intro (fun h7 => ?_) (fun h7 => ?_)
  ·rw [if_pos h7] at hM
   refine spQA h7 ?_
   have nh7 := nzQ h7
   try have hr8 := mpQ nh7
   have hF := (And.intro h4 h7)
   exact auQ
  ·rw [if_neg (ne_true h7)] at hM
   refine spQA h7 ?_
   have nh7 := nzQ h7
   try have hr12 := mpQ nh7
   exact False.elim (by (clear hM; omega))
set_option maxHeartbeats 2000000 in
set_option maxRecDepth 100000 in
instance specielaw37_awake_ok     : CM En (specielaw37_awake) 37 [] (fun y => .bool y) (fun _ => []) := by
 refine cmQ fun r hM => ?_
 rw [specielaw37_awake.eq_1] at hM
 refine enterV En_ok En_mo noJ Tryz.func37 rfl Tryz.ntmps37 (by kernel_rfl) fun hw => ct_start ?_
 refine spQ ?_
 replace hw := nzQ hw
 have hM0 := hM; clear hM; obtain ⟨x1, hx2, hM⟩ := letk_opn hM0; clear hM0
 have hcx1 := cmU hx2
 refine callC_give hcx1 clQ clQ (fun hw3 => ?_)
 replace hw3 := nzQ hw3
 refine spQ ?_
 have hM0 := hM; clear hM; obtain ⟨x4, hx5, hM⟩ := letk_opn hM0; clear hM0
 have hcx4 := cmU hx5
 refine callC_give hcx4 clQ clQ (fun hw6 => ?_)
 replace hw6 := nzQ hw6
 refine spQ ?_
 have hM0 := hM; clear hM; obtain ⟨x7, hx8, hM⟩ := letk_opn hM0; clear hM0
 have hcx7 := cmU hx8
 refine callC_give hcx7 clQ clQ (fun hw9 => ?_)
 replace hw9 := nzQ hw9
 refine spQ ?_
 refine guardC_t (fun h10 => ?_) (fun h10 => ?_)
 ·rw [if_pos h10] at hM
  refine spQA h10 ?_
  have nh10 := nzQ h10
  try have hr11 := mpQ nh10
  refine guardC_t (fun h12 => ?_) (fun h12 => ?_)
  ·rw [if_pos h12] at hM
   refine spQA h12 ?_
   have nh12 := nzQ h12
   try have hr13 := mpQ nh12
   refine guardC_t (fun h14 => ?_) (fun h14 => ?_)
   ·rw [if_pos h14] at hM
    refine spQA h14 ?_
    have nh14 := nzQ h14
    try have hr15 := mpQ nh14
    have hM0 := hM; clear hM; obtain ⟨x16, hx17, hM⟩ := letk_opn hM0; clear hM0
    have hcx16 := cmU hx17
    refine callC_look hcx16 clQ clQ (fun hw18 => ?_)
    replace hw18 := nzQ hw18
    refine spQ ?_
    refine guardC_t (fun h19 => ?_) (fun h19 => ?_)
    ·subst h19
     rw [if_pos rfl] at hM
     refine spQ ?_
     refine guardC_t (fun h20 => ?_) (fun h20 => ?_)
     ·rw [if_pos h20] at hM
      refine spQA h20 ?_
      have nh20 := nzQ h20
      try have hr21 := mpQ nh20
      have hM0 := hM; clear hM; obtain ⟨x22, hx23, hM⟩ := letk_opn hM0; clear hM0
      have hcx22 := cmH hx23 (withdraw_Valid_ok  ({ Group := ({ P := 2027, Q := 1013, G := 4 } : S_api_Group), G1 := 16, G2 := 64, H := 256 } : S_api_Bases) ({ Bank := 0, Epoch := 1, Denom := 2, Value := 5, Depth := 0, Key := ({ H := 4, H1 := 16, H2 := 64 } : S_api_BankKey), From := 0, Until := 1, Final := 1 } : S_api_KeyRecord) (x1.1) (by (exact pfQ)))
      refine callC_give hcx22 clQ clQ (fun hw24 => ?_)
      replace hw24 := nzQ hw24
      refine spQ ?_
      subst hM
      exact retC_view (lfQA (And.intro h10 (And.intro h12 (And.intro h14 h20))))
     ·rw [if_neg (ne_true h20)] at hM
      refine spQA h20 ?_
      have nh20 := nzQ h20
      try have hr25 := mpQ nh20
      subst hM
      exact retC_view (lfQA (And.intro h10 (And.intro h12 (And.intro h14 h20))))
    ·subst h19
     rw [if_neg (by decide)] at hM
     refine spQ ?_
     subst hM
     exact retC_view (lfQA (And.intro h10 (And.intro h12 h14)))
   ·rw [if_neg (ne_true h14)] at hM
    refine spQA h14 ?_
    have nh14 := nzQ h14
    try have hr26 := mpQ nh14
    subst hM
    exact retC_view (lfQA (And.intro h10 (And.intro h12 h14)))
  ·rw [if_neg (ne_true h12)] at hM
   refine spQA h12 ?_
   have nh12 := nzQ h12
   try have hr27 := mpQ nh12
   subst hM
   exact retC_view (lfQA (And.intro h10 h12))
 ·rw [if_neg (ne_true h10)] at hM
  refine spQA h10 ?_
  have nh10 := nzQ h10
  try have hr28 := mpQ nh10
  subst hM
  exact retC_view (lfQA h10)
set_option maxHeartbeats 2000000 in
set_option maxRecDepth 100000 in
instance specielaw37_few_ok   (w : S_api_Withdrawal)  : CM En (specielaw37_few w) 38 [(e_api_Withdrawal w)] (fun y => .bool y) (fun _ => []) := by
 refine cmQ fun r hM => ?_
 rw [specielaw37_few.eq_1] at hM
 refine enterV En_ok En_mo noJ Tryz.func38 rfl Tryz.ntmps38 (by kernel_rfl) fun hw => ct_start ?_
 refine spQ ?_
 replace hw := nzQ hw
 subst hM
 exact retC_view lfQ
set_option maxHeartbeats 2000000 in
set_option maxRecDepth 100000 in
theorem specieref07_Count_ok (N : Nat) (ih : ∀  (i_ : S_api_Item) (most : Int), hgt i_ < N → CallOk En 43 [.agg [.int .i64 i_.Kind, .int .i64 i_.N, .sl none 1 false (i_.B.map (V.int .u8)), .sl none 4 true (i_.L.map e_api_Item)], .int .i64 most] (.int .i64 (countM i_ most)) [])  (i_ : S_api_Item) (most : Int) (hp_ : hgt i_ < N + 1) : CallOk En 43 [.agg [.int .i64 i_.Kind, .int .i64 i_.N, .sl none 1 false (i_.B.map (V.int .u8)), .sl none 4 true (i_.L.map e_api_Item)], .int .i64 most] (.int .i64 (specieref07_Count i_ most)) [] := by
 generalize hM : specieref07_Count i_ most = r
 rw [specieref07_Count.eq_1] at hM
 refine enterV En_ok En_mo noJ Tryz.func43 rfl Tryz.ntmps43 (by kernel_rfl) fun hw => ct_start ?_
 refine spQ ?_
 replace hw := nzQ hw
 have hM0 := hM; clear hM; obtain ⟨f1, d1, hf1, hd1, hM⟩ := iter_opn hM0; clear hM0
 refine ct_loop (fun n S => ∃ p : Int × Int, S = (⟨[(1, .int .i64 most), (2, .ptr 0 0), (5, .int .i64 p.1), (6, .int .i64 p.2)], [(0, .var 4 true (.agg [.int .i64 i_.Kind, .int .i64 i_.N, .sl none 1 false (i_.B.map (V.int .u8)), .sl none 4 true (i_.L.map e_api_Item)]))], 1⟩ : St) ∧ ((0 ≤ p.2) ∧ (p.2 ≤ (i_.L.length : Int))) ∧ ((i_.L.length : Int) - p.2).toNat < n ∧ iter n f1 d1 p = r) (((i_.L.length : Int) - 0).toNat + 1) _ sbQ sbQ ⟨(1, 0), rfl, ⟨omQ, omQ⟩, (Nat.lt_succ_self _), hM⟩ ?_
 clear hM
 rintro n1 S ⟨p1, rfl, hfa1, hm1, hM⟩
 have hM0 := hM; clear hM; obtain ⟨ag1, hag1, hM⟩ := iter_step hM0 (by omega) hf1; clear hM0
 replace hfa1 := nzQ hfa1
 replace hm1 := nzQ hm1
 refine spQ ?_
 refine guardC_t (fun h2 => ?_) (fun h2 => ?_)
 ·rw [if_pos h2] at hM
  refine spQA h2 ?_
  have nh2 := nzQ h2
  try have hr3 := mpQ nh2
  refine condC_intro (fun h4 => ?_) (fun h4 => ?_)
  ·rw [if_pos h4] at hM
   refine spQA h4 ?_
   have nh4 := nzQ h4
   try have hr5 := mpQ nh4
   refine bindC_intro omQ ?_
   have he6 := fun d => elt_mp (l := i_.L) (f := e_api_Item) (i := p1.2) omQ d
   refine spQA he6 ?_
   have hM0 := hM; clear hM; obtain ⟨x7, hx8, hM⟩ := letk_opn hM0; clear hM0
   have hcx7 := ih  (gt i_.L p1.2) (subI .i64 most p1.1)  (by (have h9 := hgt_L (i := i_) (gt_mem (l := i_.L) (i := p1.2) (by omega)); omega))
   rw [← hx8] at hcx7
   refine callC_give hcx7 (clQA he6) (clQA he6) (fun hw9 => ?_)
   replace hw9 := nzQ hw9
   refine spQA he6 ?_
   have ha10 : addI .i64 p1.2 1 = (p1.2 + 1) := add_ok omQ omQ
   try simp only [ha10]
   refine lp_intro (n1 - 1) _ (by omega) sbQ sbQ ⟨((addI .i64 p1.1 x7), (p1.2 + 1)), rfl, ⟨omQ, omQ⟩, omQ, iter_again hM hag1⟩
  ·rw [if_neg (ne_true h4)] at hM
   refine spQA h4 ?_
   have nh4 := nzQ h4
   try have hr11 := mpQ nh4
   subst hM
   exact retC_view (lfQA (And.intro h2 h4))
 ·rw [if_neg (ne_true h2)] at hM
  refine spQA h2 ?_
  have nh2 := nzQ h2
  try have hr12 := mpQ nh2
  subst hM
  exact retC_view (lfQA h2)
theorem countM_okN : ∀ (N : Nat)  (i_ : S_api_Item) (most : Int), hgt i_ < N → CallOk En 43 [.agg [.int .i64 i_.Kind, .int .i64 i_.N, .sl none 1 false (i_.B.map (V.int .u8)), .sl none 4 true (i_.L.map e_api_Item)], .int .i64 most] (.int .i64 (countM i_ most)) [] := by
 intro N
 induction N with
 | zero => intro i_ most  h; exact absurd h (Nat.not_lt_zero _)
 | succ N ih =>
  intro i_ most  h
  have h9 := specieref07_Count_ok N ih i_ most  h
  rw [specieref07_Count_eqM] at h9
  exact h9
theorem countM_ok  (i_ : S_api_Item) (most : Int)  : CallOk En 43 [.agg [.int .i64 i_.Kind, .int .i64 i_.N, .sl none 1 false (i_.B.map (V.int .u8)), .sl none 4 true (i_.L.map e_api_Item)], .int .i64 most] (.int .i64 (countM i_ most)) [] :=
 countM_okN (hgt i_ + 1) i_ most  (Nat.lt_succ_self _)
set_option maxHeartbeats 2000000 in
set_option maxRecDepth 100000 in
instance coin_FromItem_ok   (i_ : S_api_Item)  : CM En (coin_FromItem i_) 114 [.agg [.int .i64 i_.Kind, .int .i64 i_.N, .sl none 1 false (i_.B.map (V.int .u8)), .sl none 4 true (i_.L.map e_api_Item)]] (fun y => .tup [(e_api_Coin y.1), .int .i64 y.2]) (fun _ => []) := by
 refine cmQ fun r hM => ?_
 rw [coin_FromItem.eq_1] at hM
 refine enterV En_ok En_mo noJ Tryz.func114 rfl Tryz.ntmps114 (by kernel_rfl) fun hw => ct_start ?_
 refine spQ ?_
 replace hw := nzQ hw
 have hM0 := hM; clear hM; obtain ⟨x1, hx2, hM⟩ := letk_opn hM0; clear hM0
 have hcx1 := cmU hx2
 refine callC_give hcx1 clQ clQ (fun hw3 => ?_)
 replace hw3 := nzQ hw3
 refine spQ ?_
 refine condC_intro (fun h4 => ?_) (fun h4 => ?_)
 ·rw [if_pos h4] at hM
  refine spQA h4 ?_
  have nh4 := nzQ h4
  try have hr5 := mpQ nh4
  subst hM
  exact retC_view (lfQA h4)
 ·rw [if_neg (ne_true h4)] at hM
  refine spQA h4 ?_
  have nh4 := nzQ h4
  try have hr6 := mpQ nh4
  refine guardC_f (fun h7 => ?_) (fun h7 => ?_)
  ·rw [if_neg (ne_true h7)] at hM
   refine spQA h7 ?_
   have nh7 := nzQ h7
   try have hr8 := mpQ nh7
   refine condC_intro (fun h9 => ?_) (fun h9 => ?_)
   ·rw [if_pos h9] at hM
    refine spQA h9 ?_
    have nh9 := nzQ h9
    try have hr10 := mpQ nh9
    subst hM
    exact retC_view (lfQA (And.intro h4 (And.intro h7 h9)))
   ·rw [if_neg (ne_true h9)] at hM
    refine spQA h9 ?_
    have nh9 := nzQ h9
    try have hr11 := mpQ nh9
    refine bindC_intro omQ ?_
    have he12 : ∀ d, elt (i_.L.map e_api_Item) 0 d = e_api_Item (gt i_.L 0) := fun d => elt_mp (l := i_.L) (f := e_api_Item) (i := 0) omQ d
    refine spQA he12 ?_
    have hM0 := hM; clear hM; obtain ⟨x13, hx14, hM⟩ := letk_opn hM0; clear hM0
    have hcx13 := cmU hx14
    refine callC_give hcx13 (clQA he12) (clQA he12) (fun hw15 => ?_)
    replace hw15 := nzQ hw15
    refine spQA he12 ?_
    refine bindC_intro omQ ?_
    have he16 : ∀ d, elt (i_.L.map e_api_Item) 2 d = e_api_Item (gt i_.L 2) := fun d => elt_mp (l := i_.L) (f := e_api_Item) (i := 2) omQ d
    refine spQA (And.intro he12 he16) ?_
    have hM0 := hM; clear hM; obtain ⟨x17, hx18, hM⟩ := letk_opn hM0; clear hM0
    have hcx17 := cmU hx18
    refine callC_give hcx17 (clQA (And.intro he12 he16)) (clQA (And.intro he12 he16)) (fun hw19 => ?_)
    replace hw19 := nzQ hw19
    refine spQA (And.intro he12 he16) ?_
    refine bindC_intro omQ ?_
    have he20 : ∀ d, elt (i_.L.map e_api_Item) 1 d = e_api_Item (gt i_.L 1) := fun d => elt_mp (l := i_.L) (f := e_api_Item) (i := 1) omQ d
    refine spQA (And.intro he12 (And.intro he16 he20)) ?_
    refine guardC_f (fun h21 => ?_) (fun h21 => ?_)
    ·rw [if_neg (ne_true h21)] at hM
     refine spQA (And.intro he12 (And.intro he16 (And.intro he20 h21))) ?_
     have nh21 := nzQ h21
     try have hr22 := mpQ nh21
     refine guardC_f (fun h23 => ?_) (fun h23 => ?_)
     ·rw [if_neg (ne_true h23)] at hM
      refine spQA (And.intro he12 (And.intro he16 (And.intro he20 h23))) ?_
      have nh23 := nzQ h23
      try have hr24 := mpQ nh23
      refine guardC_f (fun h25 => ?_) (fun h25 => ?_)
      ·rw [if_neg (ne_true h25)] at hM
       refine spQA (And.intro he12 (And.intro he16 (And.intro he20 h25))) ?_
       have nh25 := nzQ h25
       try have hr26 := mpQ nh25
       refine guardC_f (fun h27 => ?_) (fun h27 => ?_)
       ·rw [if_neg (ne_true h27)] at hM
        refine spQA (And.intro he12 (And.intro he16 (And.intro he20 h27))) ?_
        have nh27 := nzQ h27
        try have hr28 := mpQ nh27
        refine guardC_f (fun h29 => ?_) (fun h29 => ?_)
        ·rw [if_neg (ne_true h29)] at hM
         refine spQA (And.intro he12 (And.intro he16 (And.intro he20 h29))) ?_
         have nh29 := nzQ h29
         try have hr30 := mpQ nh29
         refine condC_intro (fun h31 => ?_) (fun h31 => ?_)
         ·rw [if_pos h31] at hM
          refine spQA (And.intro he12 (And.intro he16 (And.intro he20 h31))) ?_
          have nh31 := nzQ h31
          try have hr32 := mpQ nh31
          subst hM
          exact retC_view (lfQA (And.intro he12 (And.intro he16 (And.intro he20 (And.intro h4 (And.intro h7 (And.intro h9 (And.intro h21 (And.intro h23 (And.intro h25 (And.intro h27 (And.intro h29 h31))))))))))))
         ·rw [if_neg (ne_true h31)] at hM
          refine spQA (And.intro he12 (And.intro he16 (And.intro he20 h31))) ?_
          have nh31 := nzQ h31
          try have hr33 := mpQ nh31
          refine ct_draw 104 32 [71, 72, 73, 74, 75, 76, 77, 78, 79, 80, 81, 82, 83, 84, 85, 86, 87, 88, 89, 90, 91, 92, 93, 94, 95, 96, 97, 98, 99, 100, 101, 102] [] ([[], [0], [0, 1], [], [3], [3, 4], [], [6], [6, 7], [], [9], [9, 10], [], [12], [12, 13], [], [15], [15, 16], [15, 16, 17], [], [19], [19, 20], [], [22], [22, 23], [], [25], [25, 26], [], [28], [28, 29], [19, 20, 21, 22, 23, 24, 25, 26, 27, 28, 29, 30]] ++ [List.range 32, List.range 33, List.range 34]) [] (by kernel_rfl) (by exact alQ) ?_
          refine spQA (And.intro he12 (And.intro he16 he20)) ?_
          refine hbindC_intro omQ ?_
          have he34 : ∀ d, elt (x13.1.map (V.int .i64)) 0 d = (V.int .i64) (gt x13.1 0) := fun d => elt_mp (l := x13.1) (f := (V.int .i64)) (i := 0) omQ d
          refine spQA (And.intro he12 (And.intro he16 (And.intro he20 he34))) ?_
          refine hbindC_intro omQ ?_
          have he35 : ∀ d, elt (x13.1.map (V.int .i64)) 1 d = (V.int .i64) (gt x13.1 1) := fun d => elt_mp (l := x13.1) (f := (V.int .i64)) (i := 1) omQ d
          refine spQA (And.intro he12 (And.intro he16 (And.intro he20 (And.intro he34 he35)))) ?_
          refine hbindC_intro omQ ?_
          have he36 : ∀ d, elt (x13.1.map (V.int .i64)) 2 d = (V.int .i64) (gt x13.1 2) := fun d => elt_mp (l := x13.1) (f := (V.int .i64)) (i := 2) omQ d
          refine spQA (And.intro he12 (And.intro he16 (And.intro he20 (And.intro he34 (And.intro he35 he36))))) ?_
          refine hbindC_intro omQ ?_
          have he37 : ∀ d, elt (x13.1.map (V.int .i64)) 3 d = (V.int .i64) (gt x13.1 3) := fun d => elt_mp (l := x13.1) (f := (V.int .i64)) (i := 3) omQ d
          refine spQA (And.intro he12 (And.intro he16 (And.intro he20 (And.intro he34 (And.intro he35 (And.intro he36 he37)))))) ?_
          refine hbindC_intro omQ ?_
          have he38 : ∀ d, elt (x13.1.map (V.int .i64)) 4 d = (V.int .i64) (gt x13.1 4) := fun d => elt_mp (l := x13.1) (f := (V.int .i64)) (i := 4) omQ d
          refine spQA (And.intro he12 (And.intro he16 (And.intro he20 (And.intro he34 (And.intro he35 (And.intro he36 (And.intro he37 he38))))))) ?_
          refine hbindC_intro omQ ?_
          have he39 := eltsN_mp (l := (gt i_.L 1).B) (f := (V.int .u8)) (k := 32) omQ
          refine spQA (And.intro he12 (And.intro he16 (And.intro he20 (And.intro he34 (And.intro he35 (And.intro he36 (And.intro he37 (And.intro he38 he39)))))))) ?_
          have hF := (And.intro h4 (And.intro h7 (And.intro h9 (And.intro he12 (And.intro he16 (And.intro he20 (And.intro h21 (And.intro h23 (And.intro h25 (And.intro h27 (And.intro h29 (And.intro h31 (And.intro he34 (And.intro he35 (And.intro he36 (And.intro he37 (And.intro he38 he39)))))))))))))))))
          exact auQ
        ·rw [if_pos h29] at hM
         refine spQA (And.intro he12 (And.intro he16 (And.intro he20 h29))) ?_
         have nh29 := nzQ h29
         try have hr44 := mpQ nh29
         subst hM
         exact retC_view (lfQA (And.intro he12 (And.intro he16 (And.intro he20 (And.intro h4 (And.intro h7 (And.intro h9 (And.intro h21 (And.intro h23 (And.intro h25 (And.intro h27 h29)))))))))))
       ·rw [if_pos h27] at hM
        refine spQA (And.intro he12 (And.intro he16 (And.intro he20 h27))) ?_
        have nh27 := nzQ h27
        try have hr45 := mpQ nh27
        subst hM
        exact retC_view (lfQA (And.intro he12 (And.intro he16 (And.intro he20 (And.intro h4 (And.intro h7 (And.intro h9 (And.intro h21 (And.intro h23 (And.intro h25 h27))))))))))
      ·rw [if_pos h25] at hM
       refine spQA (And.intro he12 (And.intro he16 (And.intro he20 h25))) ?_
       have nh25 := nzQ h25
       try have hr46 := mpQ nh25
       subst hM
       exact retC_view (lfQA (And.intro he12 (And.intro he16 (And.intro he20 (And.intro h4 (And.intro h7 (And.intro h9 (And.intro h21 (And.intro h23 h25)))))))))
     ·rw [if_pos h23] at hM
      refine spQA (And.intro he12 (And.intro he16 (And.intro he20 h23))) ?_
      have nh23 := nzQ h23
      try have hr47 := mpQ nh23
      subst hM
      exact retC_view (lfQA (And.intro he12 (And.intro he16 (And.intro he20 (And.intro h4 (And.intro h7 (And.intro h9 (And.intro h21 h23))))))))
    ·rw [if_pos h21] at hM
     refine spQA (And.intro he12 (And.intro he16 (And.intro he20 h21))) ?_
     have nh21 := nzQ h21
     try have hr48 := mpQ nh21
     subst hM
     exact retC_view (lfQA (And.intro he12 (And.intro he16 (And.intro he20 (And.intro h4 (And.intro h7 (And.intro h9 h21)))))))
  ·rw [if_pos h7] at hM
   refine spQA h7 ?_
   have nh7 := nzQ h7
   try have hr49 := mpQ nh7
   subst hM
   exact retC_view (lfQA (And.intro h4 h7))
end Go.Proofs.YtjnikknlcmbcmaaGreatDoor
