/- Texts of this proof, one after the other: U3, S1, S2, A1, S3, S4, A2, AT, L1, L2, L3, L4. -/
import Derived.Test.YtbfeamknaiaghaaGreatDoorZ6
import Derived.Test.YtbfeamknaiaghaaGreatDoorZ5
import Derived.Lib.TrailingZeros
import Derived.KernelRfl
import Derived.Lib.SplitLaws
import Derived.Lib.ItoaMem
set_option linter.unusedVariables false
set_option linter.unusedSimpArgs false
namespace Go.Proofs.YtbfeamknaiaghaaGreatDoor
open Go.RowKit
set_option linter.unusedSimpArgs false
instance (priority := 1004) : DRD 18 182 11 [152, 153, 154, 155, 156, 157, 158, 159, 160, 161, 162] [] ([[], [], [], [], [2, 3], [2, 3, 4], [], [], [6, 7], [6, 7, 8], [2, 3, 4, 5, 6, 7, 8, 9]] ++ [List.range 11, List.range 12]) [] := ⟨trivial⟩
set_option maxHeartbeats 2000000 in
set_option maxRecDepth 100000 in
theorem specieref06_Sum_ok   (b : (List Int)) (hp0 : b.length ≤ 1000000000) : CM En (specieref06_Sum b) 47 [.sl none 1 false (b.map (V.int .u8))] (fun y => (e_arr35 y)) (fun _ => []) := by
 refine cmQ fun r hM => ?_
 rw [specieref06_Sum.eq_1] at hM
 refine enterV En_ok En_mo noJ Tryz.func47 rfl Tryz.ntmps47 (by kernel_rfl) fun hw => ct_start ?_
 refine spQ ?_
 replace hw := nzQ hw
 have hM0 := hM; clear hM; obtain ⟨x1, hx2, hM⟩ := letk_opn hM0; clear hM0
 have hcx1 := cmU hx2
 refine callC_give hcx1 clQ clQ (fun hw3 => ?_)
 replace hw3 := nzQ hw3
 refine spQ ?_
 have hq4 := nzQ (cfU hx2)
 have hM0 := hM; clear hM; obtain ⟨x5, hx6, hM⟩ := letk_opn hM0; clear hM0
 have hcx5 := cmH hx6 (specieref06_padded_ok  b (by (exact pfQ)))
 refine callC_give hcx5 clQ clQ (fun hw7 => ?_)
 replace hw7 := nzQ hw7
 refine spQ ?_
 have hq8 := nzQ (cfU hx6)
 have hM0 := hM; clear hM; obtain ⟨f9, d9, hf9, hd9, hM⟩ := iter_opn hM0; clear hM0
 refine ct_loop (fun n S => ∃ p : Int × List Int, S = (⟨[(2, .ptr 0 0), (3, .own 1), (4, .sl none 1 false (x1.map (V.int .u32))), (5, .sl none 1 false (x5.map (V.int .u8))), (6, .int .i64 p.1)], [(0, .var 32 true (zv_35)), (1, .own 91 1 false none (p.2.map (V.int .u32)))], 2⟩ : St) ∧ ((0 ≤ p.1) ∧ (p.1 ≤ (x5.length : Int)) ∧ (p.1 % 64 = 0) ∧ ((p.2).length = (([1779033703, 3144134277, 1013904242, 2773480762, 1359893119, 2600822924, 528734635, 1541459225] : List Int)).length)) ∧ ((x5.length : Int) - p.1).toNat < n ∧ iter n f9 d9 p = r) (((x5.length : Int) - 0).toNat + 1) _ sbQ sbQ ⟨(0, ([1779033703, 3144134277, 1013904242, 2773480762, 1359893119, 2600822924, 528734635, 1541459225] : List Int)), rfl, ⟨omQ, omQ, omQ, omQ⟩, (Nat.lt_succ_self _), hM⟩ ?_
 clear hM
 rintro n9 S ⟨p9, rfl, hfa9, hm9, hM⟩
 have hM0 := hM; clear hM; obtain ⟨ag9, hag9, hM⟩ := iter_step hM0 (by omega) hf9; clear hM0
 replace hfa9 := nzQ hfa9
 replace hm9 := nzQ hm9
 have ha9 : addI .i64 p9.1 1 = p9.1 + 1 := add_one omQ omQ
 refine spQA ha9 ?_
 refine condC_intro (fun h10 => ?_) (fun h10 => ?_)
 ·rw [if_pos h10] at hM
  refine spQA (And.intro ha9 h10) ?_
  have nh10 := nzQ h10
  try have hr11 := mpQ nh10
  have ha12 : addI .i64 p9.1 64 = (p9.1 + 64) := add_ok omQ omQ
  try simp only [ha12]
  refine bindC_intro omQ ?_
  refine spQA (And.intro ha9 ha12) ?_
  have hM0 := hM; clear hM; obtain ⟨x13, hx14, hM⟩ := letk_opn hM0; clear hM0
  have hcx13 := cmH hx14 (specieref06_words_ok  (sl x5 p9.1 (p9.1 + 64)) (by (exact pfQ)))
  refine callC_give hcx13 (clQA (And.intro ha9 ha12)) (clQA (And.intro ha9 ha12)) (fun hw15 => ?_)
  replace hw15 := nzQ hw15
  refine spQA (And.intro ha9 ha12) ?_
  have hq16 := nzQ (cfU hx14)
  refine bindC_intro omQ ?_
  refine spQA (And.intro ha9 ha12) ?_
  have hM0 := hM; clear hM; obtain ⟨f17, d17, hf17, hd17, hM⟩ := iter_opn hM0; clear hM0
  refine ct_loop (fun n S => ∃ p : Int × List Int, S = (⟨[(2, .ptr 0 0), (3, .own 1), (4, .sl none 1 false (x1.map (V.int .u32))), (5, .sl none 1 false (x5.map (V.int .u8))), (6, .int .i64 p9.1), (7, .sl none 1 false (x13.map (V.int .u32))), (8, .own 2), (9, .int .i64 p.1)], [(0, .var 32 true (zv_35)), (1, .own 91 1 false none (p9.2.map (V.int .u32))), (2, .own 91 1 false none (p.2.map (V.int .u32)))], 3⟩ : St) ∧ ((0 ≤ p.1) ∧ (p.1 ≤ 64) ∧ (((p.2).length : Int) = 8) ∧ ((p.2).length = ((([] : List Int) ++ p9.2)).length)) ∧ ((64 : Int) - p.1).toNat < n ∧ iter n f17 d17 p = r) (((64 : Int) - 0).toNat + 1) _ sbQ sbQ ⟨(0, (([] : List Int) ++ p9.2)), rfl, ⟨omQ, omQ, omQ, omQ⟩, (Nat.lt_succ_self _), hM⟩ ?_
  clear hM
  rintro n17 S ⟨p17, rfl, hfa17, hm17, hM⟩
  have hM0 := hM; clear hM; obtain ⟨ag17, hag17, hM⟩ := iter_step hM0 (by omega) hf17; clear hM0
  replace hfa17 := nzQ hfa17
  replace hm17 := nzQ hm17
  have ha17 : addI .i64 p17.1 1 = p17.1 + 1 := add_one omQ omQ
  refine spQA (And.intro ha9 (And.intro ha12 ha17)) ?_
  refine condC_intro (fun h18 => ?_) (fun h18 => ?_)
  ·rw [if_pos h18] at hM
   refine spQA (And.intro ha9 (And.intro ha12 (And.intro ha17 h18))) ?_
   have nh18 := nzQ h18
   try have hr19 := mpQ nh18
   refine ct_draw 182 44 [38, 39, 40, 41, 42, 43, 44, 45, 46, 47, 48, 49, 50, 51, 52, 53, 54, 55, 56, 57, 58, 59, 60, 61, 62, 63, 64, 65, 66, 67, 68, 69, 70, 71, 72, 73, 74, 75, 76, 77, 78, 79, 80, 81] [] ([[], [0], [0, 1], [], [3], [3, 4], [3, 4, 5], [], [7], [7, 8], [7, 8, 9], [3, 4, 5, 6, 7, 8, 9, 10], [], [12], [12, 13], [12, 13, 14], [3, 4, 5, 6, 7, 8, 9, 10, 11, 12, 13, 14, 15], [0, 1, 2, 3, 4, 5, 6, 7, 8, 9, 10, 11, 12, 13, 14, 15, 16], [], [18], [18, 19], [], [21], [21, 22], [18, 19, 20, 21, 22, 23], [], [25], [25, 26], [25, 26, 27], [], [29], [29, 30], [25, 26, 27, 28, 29, 30, 31], [18, 19, 20, 21, 22, 23, 24, 25, 26, 27, 28, 29, 30, 31, 32], [0, 1, 2, 3, 4, 5, 6, 7, 8, 9, 10, 11, 12, 13, 14, 15, 16, 17, 18, 19, 20, 21, 22, 23, 24, 25, 26, 27, 28, 29, 30, 31, 32, 33], [], [], [35, 36], [35, 36, 37], [0, 1, 2, 3, 4, 5, 6, 7, 8, 9, 10, 11, 12, 13, 14, 15, 16, 17, 18, 19, 20, 21, 22, 23, 24, 25, 26, 27, 28, 29, 30, 31, 32, 33, 34, 35, 36, 37, 38], [], [], [40, 41], [40, 41, 42]] ++ [List.range 44, List.range 45]) [] (by kernel_rfl) (by exact alQ) ?_
   refine spQA (And.intro ha9 (And.intro ha12 ha17)) ?_
   refine hbindC_intro omQ ?_
   have he20 : ∀ d, elt (p17.2.map (V.int .u32)) 7 d = (V.int .u32) (gt p17.2 7) := fun d => elt_mp (l := p17.2) (f := (V.int .u32)) (i := 7) omQ d
   refine spQA (And.intro ha9 (And.intro ha12 (And.intro ha17 he20))) ?_
   refine hbindC_intro omQ ?_
   refine spQA (And.intro ha9 (And.intro ha12 (And.intro ha17 he20))) ?_
   refine hbindC_intro omQ ?_
   have he21 : ∀ d, elt (p17.2.map (V.int .u32)) 4 d = (V.int .u32) (gt p17.2 4) := fun d => elt_mp (l := p17.2) (f := (V.int .u32)) (i := 4) omQ d
   refine spQA (And.intro ha9 (And.intro ha12 (And.intro ha17 (And.intro he20 he21)))) ?_
   refine hbindC_intro omQ ?_
   refine spQA (And.intro ha9 (And.intro ha12 (And.intro ha17 (And.intro he20 he21)))) ?_
   have hM0 := hM; clear hM; obtain ⟨x22, hx23, hM⟩ := letk_opn hM0; clear hM0
   have hcx22 := cmH hx23 (specieref06_right_ok  (gt p17.2 4) 6 (by (exact pfQ)) (by (exact pfQ)))
   refine hcallC_give hcx22 (clQA (And.intro ha9 (And.intro ha12 (And.intro ha17 (And.intro he20 he21))))) (clQA (And.intro ha9 (And.intro ha12 (And.intro ha17 (And.intro he20 he21))))) ?_
   refine spQA (And.intro ha9 (And.intro ha12 (And.intro ha17 (And.intro he20 he21)))) ?_
   refine hbindC_intro omQ ?_
   refine spQA (And.intro ha9 (And.intro ha12 (And.intro ha17 (And.intro he20 he21)))) ?_
   refine hbindC_intro omQ ?_
   refine spQA (And.intro ha9 (And.intro ha12 (And.intro ha17 (And.intro he20 he21)))) ?_
   have hM0 := hM; clear hM; obtain ⟨x24, hx25, hM⟩ := letk_opn hM0; clear hM0
   have hcx24 := cmH hx25 (specieref06_right_ok  (gt p17.2 4) 11 (by (exact pfQ)) (by (exact pfQ)))
   refine hcallC_give hcx24 (clQA (And.intro ha9 (And.intro ha12 (And.intro ha17 (And.intro he20 he21))))) (clQA (And.intro ha9 (And.intro ha12 (And.intro ha17 (And.intro he20 he21))))) ?_
   refine spQA (And.intro ha9 (And.intro ha12 (And.intro ha17 (And.intro he20 he21)))) ?_
   refine hbindC_intro omQ ?_
   refine spQA (And.intro ha9 (And.intro ha12 (And.intro ha17 (And.intro he20 he21)))) ?_
   refine hbindC_intro omQ ?_
   refine spQA (And.intro ha9 (And.intro ha12 (And.intro ha17 (And.intro he20 he21)))) ?_
   have hM0 := hM; clear hM; obtain ⟨x26, hx27, hM⟩ := letk_opn hM0; clear hM0
   have hcx26 := cmH hx27 (specieref06_right_ok  (gt p17.2 4) 25 (by (exact pfQ)) (by (exact pfQ)))
   refine hcallC_give hcx26 (clQA (And.intro ha9 (And.intro ha12 (And.intro ha17 (And.intro he20 he21))))) (clQA (And.intro ha9 (And.intro ha12 (And.intro ha17 (And.intro he20 he21))))) ?_
   refine spQA (And.intro ha9 (And.intro ha12 (And.intro ha17 (And.intro he20 he21)))) ?_
   refine hbindC_intro omQ ?_
   refine spQA (And.intro ha9 (And.intro ha12 (And.intro ha17 (And.intro he20 he21)))) ?_
   refine hbindC_intro omQ ?_
   refine spQA (And.intro ha9 (And.intro ha12 (And.intro ha17 (And.intro he20 he21)))) ?_
   refine hbindC_intro omQ ?_
   have he28 : ∀ d, elt (p17.2.map (V.int .u32)) 5 d = (V.int .u32) (gt p17.2 5) := fun d => elt_mp (l := p17.2) (f := (V.int .u32)) (i := 5) omQ d
   refine spQA (And.intro ha9 (And.intro ha12 (And.intro ha17 (And.intro he20 (And.intro he21 he28))))) ?_
   refine hbindC_intro omQ ?_
   refine spQA (And.intro ha9 (And.intro ha12 (And.intro ha17 (And.intro he20 (And.intro he21 he28))))) ?_
   refine hbindC_intro omQ ?_
   refine spQA (And.intro ha9 (And.intro ha12 (And.intro ha17 (And.intro he20 (And.intro he21 he28))))) ?_
   refine hbindC_intro omQ ?_
   refine spQA (And.intro ha9 (And.intro ha12 (And.intro ha17 (And.intro he20 (And.intro he21 he28))))) ?_
   refine hbindC_intro omQ ?_
   have he29 : ∀ d, elt (p17.2.map (V.int .u32)) 6 d = (V.int .u32) (gt p17.2 6) := fun d => elt_mp (l := p17.2) (f := (V.int .u32)) (i := 6) omQ d
   refine spQA (And.intro ha9 (And.intro ha12 (And.intro ha17 (And.intro he20 (And.intro he21 (And.intro he28 he29)))))) ?_
   refine hbindC_intro omQ ?_
   refine spQA (And.intro ha9 (And.intro ha12 (And.intro ha17 (And.intro he20 (And.intro he21 (And.intro he28 he29)))))) ?_
   refine hbindC_intro omQ ?_
   have he30 := fun d => elt_mp (l := x1) (f := (V.int .u32)) (i := p17.1) omQ d
   refine spQA (And.intro ha9 (And.intro ha12 (And.intro ha17 (And.intro he20 (And.intro he21 (And.intro he28 (And.intro he29 he30))))))) ?_
   refine hbindC_intro omQ ?_
   have he31 := fun d => elt_mp (l := x13) (f := (V.int .u32)) (i := p17.1) omQ d
   refine spQA (And.intro ha9 (And.intro ha12 (And.intro ha17 (And.intro he20 (And.intro he21 (And.intro he28 (And.intro he29 (And.intro he30 he31)))))))) ?_
   refine ct_draw 182 37 [83, 84, 85, 86, 87, 88, 89, 90, 91, 92, 93, 94, 95, 96, 97, 98, 99, 100, 101, 102, 103, 104, 105, 106, 107, 108, 109, 110, 111, 112, 113, 114, 115, 116, 117, 118, 119] [] ([[], [0], [0, 1], [0, 1, 2], [], [4], [4, 5], [4, 5, 6], [0, 1, 2, 3, 4, 5, 6, 7], [], [9], [9, 10], [9, 10, 11], [0, 1, 2, 3, 4, 5, 6, 7, 8, 9, 10, 11, 12], [], [14], [14, 15], [], [17], [17, 18], [14, 15, 16, 17, 18, 19], [], [21], [21, 22], [], [24], [24, 25], [21, 22, 23, 24, 25, 26], [14, 15, 16, 17, 18, 19, 20, 21, 22, 23, 24, 25, 26, 27], [], [29], [29, 30], [], [32], [32, 33], [29, 30, 31, 32, 33, 34], [14, 15, 16, 17, 18, 19, 20, 21, 22, 23, 24, 25, 26, 27, 28, 29, 30, 31, 32, 33, 34, 35]] ++ [List.range 37, List.range 38]) [] (by kernel_rfl) (by exact alQ) ?_
   refine spQA (And.intro ha9 (And.intro ha12 (And.intro ha17 (And.intro he20 (And.intro he21 (And.intro he28 (And.intro he29 (And.intro he30 he31)))))))) ?_
   refine hbindC_intro omQ ?_
   have he32 : ∀ d, elt (p17.2.map (V.int .u32)) 0 d = (V.int .u32) (gt p17.2 0) := fun d => elt_mp (l := p17.2) (f := (V.int .u32)) (i := 0) omQ d
   refine spQA (And.intro ha9 (And.intro ha12 (And.intro ha17 (And.intro he20 (And.intro he21 (And.intro he28 (And.intro he29 (And.intro he30 (And.intro he31 he32))))))))) ?_
   refine hbindC_intro omQ ?_
   refine spQA (And.intro ha9 (And.intro ha12 (And.intro ha17 (And.intro he20 (And.intro he21 (And.intro he28 (And.intro he29 (And.intro he30 (And.intro he31 he32))))))))) ?_
   have hM0 := hM; clear hM; obtain ⟨x33, hx34, hM⟩ := letk_opn hM0; clear hM0
   have hcx33 := cmH hx34 (specieref06_right_ok  (gt p17.2 0) 2 (by (exact pfQ)) (by (exact pfQ)))
   refine hcallC_give hcx33 (clQA (And.intro ha9 (And.intro ha12 (And.intro ha17 (And.intro he20 (And.intro he21 (And.intro he28 (And.intro he29 (And.intro he30 (And.intro he31 he32)))))))))) (clQA (And.intro ha9 (And.intro ha12 (And.intro ha17 (And.intro he20 (And.intro he21 (And.intro he28 (And.intro he29 (And.intro he30 (And.intro he31 he32)))))))))) ?_
   refine spQA (And.intro ha9 (And.intro ha12 (And.intro ha17 (And.intro he20 (And.intro he21 (And.intro he28 (And.intro he29 (And.intro he30 (And.intro he31 he32))))))))) ?_
   refine hbindC_intro omQ ?_
   refine spQA (And.intro ha9 (And.intro ha12 (And.intro ha17 (And.intro he20 (And.intro he21 (And.intro he28 (And.intro he29 (And.intro he30 (And.intro he31 he32))))))))) ?_
   refine hbindC_intro omQ ?_
   refine spQA (And.intro ha9 (And.intro ha12 (And.intro ha17 (And.intro he20 (And.intro he21 (And.intro he28 (And.intro he29 (And.intro he30 (And.intro he31 he32))))))))) ?_
   have hM0 := hM; clear hM; obtain ⟨x35, hx36, hM⟩ := letk_opn hM0; clear hM0
   have hcx35 := cmH hx36 (specieref06_right_ok  (gt p17.2 0) 13 (by (exact pfQ)) (by (exact pfQ)))
   refine hcallC_give hcx35 (clQA (And.intro ha9 (And.intro ha12 (And.intro ha17 (And.intro he20 (And.intro he21 (And.intro he28 (And.intro he29 (And.intro he30 (And.intro he31 he32)))))))))) (clQA (And.intro ha9 (And.intro ha12 (And.intro ha17 (And.intro he20 (And.intro he21 (And.intro he28 (And.intro he29 (And.intro he30 (And.intro he31 he32)))))))))) ?_
   refine spQA (And.intro ha9 (And.intro ha12 (And.intro ha17 (And.intro he20 (And.intro he21 (And.intro he28 (And.intro he29 (And.intro he30 (And.intro he31 he32))))))))) ?_
   refine hbindC_intro omQ ?_
   refine spQA (And.intro ha9 (And.intro ha12 (And.intro ha17 (And.intro he20 (And.intro he21 (And.intro he28 (And.intro he29 (And.intro he30 (And.intro he31 he32))))))))) ?_
   refine hbindC_intro omQ ?_
   refine spQA (And.intro ha9 (And.intro ha12 (And.intro ha17 (And.intro he20 (And.intro he21 (And.intro he28 (And.intro he29 (And.intro he30 (And.intro he31 he32))))))))) ?_
   have hM0 := hM; clear hM; obtain ⟨x37, hx38, hM⟩ := letk_opn hM0; clear hM0
   have hcx37 := cmH hx38 (specieref06_right_ok  (gt p17.2 0) 22 (by (exact pfQ)) (by (exact pfQ)))
   refine hcallC_give hcx37 (clQA (And.intro ha9 (And.intro ha12 (And.intro ha17 (And.intro he20 (And.intro he21 (And.intro he28 (And.intro he29 (And.intro he30 (And.intro he31 he32)))))))))) (clQA (And.intro ha9 (And.intro ha12 (And.intro ha17 (And.intro he20 (And.intro he21 (And.intro he28 (And.intro he29 (And.intro he30 (And.intro he31 he32)))))))))) ?_
   refine spQA (And.intro ha9 (And.intro ha12 (And.intro ha17 (And.intro he20 (And.intro he21 (And.intro he28 (And.intro he29 (And.intro he30 (And.intro he31 he32))))))))) ?_
   refine hbindC_intro omQ ?_
   refine spQA (And.intro ha9 (And.intro ha12 (And.intro ha17 (And.intro he20 (And.intro he21 (And.intro he28 (And.intro he29 (And.intro he30 (And.intro he31 he32))))))))) ?_
   refine hbindC_intro omQ ?_
   refine spQA (And.intro ha9 (And.intro ha12 (And.intro ha17 (And.intro he20 (And.intro he21 (And.intro he28 (And.intro he29 (And.intro he30 (And.intro he31 he32))))))))) ?_
   refine hbindC_intro omQ ?_
   have he39 : ∀ d, elt (p17.2.map (V.int .u32)) 1 d = (V.int .u32) (gt p17.2 1) := fun d => elt_mp (l := p17.2) (f := (V.int .u32)) (i := 1) omQ d
   refine spQA (And.intro ha9 (And.intro ha12 (And.intro ha17 (And.intro he20 (And.intro he21 (And.intro he28 (And.intro he29 (And.intro he30 (And.intro he31 (And.intro he32 he39)))))))))) ?_
   refine hbindC_intro omQ ?_
   refine spQA (And.intro ha9 (And.intro ha12 (And.intro ha17 (And.intro he20 (And.intro he21 (And.intro he28 (And.intro he29 (And.intro he30 (And.intro he31 (And.intro he32 he39)))))))))) ?_
   refine hbindC_intro omQ ?_
   refine spQA (And.intro ha9 (And.intro ha12 (And.intro ha17 (And.intro he20 (And.intro he21 (And.intro he28 (And.intro he29 (And.intro he30 (And.intro he31 (And.intro he32 he39)))))))))) ?_
   refine hbindC_intro omQ ?_
   refine spQA (And.intro ha9 (And.intro ha12 (And.intro ha17 (And.intro he20 (And.intro he21 (And.intro he28 (And.intro he29 (And.intro he30 (And.intro he31 (And.intro he32 he39)))))))))) ?_
   refine hbindC_intro omQ ?_
   have he40 : ∀ d, elt (p17.2.map (V.int .u32)) 2 d = (V.int .u32) (gt p17.2 2) := fun d => elt_mp (l := p17.2) (f := (V.int .u32)) (i := 2) omQ d
   refine spQA (And.intro ha9 (And.intro ha12 (And.intro ha17 (And.intro he20 (And.intro he21 (And.intro he28 (And.intro he29 (And.intro he30 (And.intro he31 (And.intro he32 (And.intro he39 he40))))))))))) ?_
   refine hbindC_intro omQ ?_
   refine spQA (And.intro ha9 (And.intro ha12 (And.intro ha17 (And.intro he20 (And.intro he21 (And.intro he28 (And.intro he29 (And.intro he30 (And.intro he31 (And.intro he32 (And.intro he39 he40))))))))))) ?_
   refine hbindC_intro omQ ?_
   refine spQA (And.intro ha9 (And.intro ha12 (And.intro ha17 (And.intro he20 (And.intro he21 (And.intro he28 (And.intro he29 (And.intro he30 (And.intro he31 (And.intro he32 (And.intro he39 he40))))))))))) ?_
   refine hbindC_intro omQ ?_
   refine spQA (And.intro ha9 (And.intro ha12 (And.intro ha17 (And.intro he20 (And.intro he21 (And.intro he28 (And.intro he29 (And.intro he30 (And.intro he31 (And.intro he32 (And.intro he39 he40))))))))))) ?_
   refine hbindC_intro omQ ?_
   refine spQA (And.intro ha9 (And.intro ha12 (And.intro ha17 (And.intro he20 (And.intro he21 (And.intro he28 (And.intro he29 (And.intro he30 (And.intro he31 (And.intro he32 (And.intro he39 he40))))))))))) ?_
   refine hbindC_intro omQ ?_
   refine spQA (And.intro ha9 (And.intro ha12 (And.intro ha17 (And.intro he20 (And.intro he21 (And.intro he28 (And.intro he29 (And.intro he30 (And.intro he31 (And.intro he32 (And.intro he39 he40))))))))))) ?_
   refine ct_draw 182 26 [121, 122, 123, 124, 125, 126, 127, 128, 129, 130, 131, 132, 133, 134, 135, 136, 137, 138, 139, 140, 141, 142, 143, 144, 145, 146] [] ([[], [], [0, 1], [], [3], [3, 4], [], [6], [6, 7], [], [9], [9, 10], [], [12], [12, 13], [], [12, 13, 14, 15], [], [17], [17, 18], [], [20], [20, 21], [], [23], [23, 24]] ++ [List.range 26, List.range 27]) [] (by kernel_rfl) (by exact alQ) ?_
   refine spQA (And.intro ha9 (And.intro ha12 (And.intro ha17 (And.intro he20 (And.intro he21 (And.intro he28 (And.intro he29 (And.intro he30 (And.intro he31 (And.intro he32 (And.intro he39 he40))))))))))) ?_
   refine hbindC_intro omQ ?_
   refine spQA (And.intro ha9 (And.intro ha12 (And.intro ha17 (And.intro he20 (And.intro he21 (And.intro he28 (And.intro he29 (And.intro he30 (And.intro he31 (And.intro he32 (And.intro he39 he40))))))))))) ?_
   refine hbindC_intro omQ ?_
   refine spQA (And.intro ha9 (And.intro ha12 (And.intro ha17 (And.intro he20 (And.intro he21 (And.intro he28 (And.intro he29 (And.intro he30 (And.intro he31 (And.intro he32 (And.intro he39 he40))))))))))) ?_
   refine hbindC_intro omQ ?_
   refine spQA (And.intro ha9 (And.intro ha12 (And.intro ha17 (And.intro he20 (And.intro he21 (And.intro he28 (And.intro he29 (And.intro he30 (And.intro he31 (And.intro he32 (And.intro he39 he40))))))))))) ?_
   refine hbindC_intro omQ ?_
   refine spQA (And.intro ha9 (And.intro ha12 (And.intro ha17 (And.intro he20 (And.intro he21 (And.intro he28 (And.intro he29 (And.intro he30 (And.intro he31 (And.intro he32 (And.intro he39 he40))))))))))) ?_
   refine hbindC_intro omQ ?_
   refine spQA (And.intro ha9 (And.intro ha12 (And.intro ha17 (And.intro he20 (And.intro he21 (And.intro he28 (And.intro he29 (And.intro he30 (And.intro he31 (And.intro he32 (And.intro he39 he40))))))))))) ?_
   refine hbindC_intro omQ ?_
   refine spQA (And.intro ha9 (And.intro ha12 (And.intro ha17 (And.intro he20 (And.intro he21 (And.intro he28 (And.intro he29 (And.intro he30 (And.intro he31 (And.intro he32 (And.intro he39 he40))))))))))) ?_
   refine hbindC_intro omQ ?_
   have he41 : ∀ d, elt (p17.2.map (V.int .u32)) 3 d = (V.int .u32) (gt p17.2 3) := fun d => elt_mp (l := p17.2) (f := (V.int .u32)) (i := 3) omQ d
   refine spQA (And.intro ha9 (And.intro ha12 (And.intro ha17 (And.intro he20 (And.intro he21 (And.intro he28 (And.intro he29 (And.intro he30 (And.intro he31 (And.intro he32 (And.intro he39 (And.intro he40 he41)))))))))))) ?_
   refine hbindC_intro omQ ?_
   refine spQA (And.intro ha9 (And.intro ha12 (And.intro ha17 (And.intro he20 (And.intro he21 (And.intro he28 (And.intro he29 (And.intro he30 (And.intro he31 (And.intro he32 (And.intro he39 (And.intro he40 he41)))))))))))) ?_
   refine hbindC_intro omQ ?_
   refine spQA (And.intro ha9 (And.intro ha12 (And.intro ha17 (And.intro he20 (And.intro he21 (And.intro he28 (And.intro he29 (And.intro he30 (And.intro he31 (And.intro he32 (And.intro he39 (And.intro he40 he41)))))))))))) ?_
   refine hbindC_intro omQ ?_
   refine spQA (And.intro ha9 (And.intro ha12 (And.intro ha17 (And.intro he20 (And.intro he21 (And.intro he28 (And.intro he29 (And.intro he30 (And.intro he31 (And.intro he32 (And.intro he39 (And.intro he40 he41)))))))))))) ?_
   refine hbindC_intro omQ ?_
   refine spQA (And.intro ha9 (And.intro ha12 (And.intro ha17 (And.intro he20 (And.intro he21 (And.intro he28 (And.intro he29 (And.intro he30 (And.intro he31 (And.intro he32 (And.intro he39 (And.intro he40 he41)))))))))))) ?_
   refine hbindC_intro omQ ?_
   refine spQA (And.intro ha9 (And.intro ha12 (And.intro ha17 (And.intro he20 (And.intro he21 (And.intro he28 (And.intro he29 (And.intro he30 (And.intro he31 (And.intro he32 (And.intro he39 (And.intro he40 he41)))))))))))) ?_
   refine hbindC_intro omQ ?_
   refine spQA (And.intro ha9 (And.intro ha12 (And.intro ha17 (And.intro he20 (And.intro he21 (And.intro he28 (And.intro he29 (And.intro he30 (And.intro he31 (And.intro he32 (And.intro he39 (And.intro he40 he41)))))))))))) ?_
   refine hbindC_intro omQ ?_
   refine spQA (And.intro ha9 (And.intro ha12 (And.intro ha17 (And.intro he20 (And.intro he21 (And.intro he28 (And.intro he29 (And.intro he30 (And.intro he31 (And.intro he32 (And.intro he39 (And.intro he40 he41)))))))))))) ?_
   refine lp_introW (n17 - 1) _ _ (by omega) (weak_ren (S := ⟨_, _, _⟩) 8 2 110 (T := 91) (n := 1) (g := false) (z := (some false)) (l := ([(addI .u32 (addI .u32 (addI .u32 (addI .u32 (addI .u32 (gt p17.2 7) (xorI .u32 (xorI .u32 x22 x24) x26)) (xorI .u32 (andI .u32 (gt p17.2 4) (gt p17.2 5)) (andI .u32 (notI .u32 (gt p17.2 4)) (gt p17.2 6)))) (gt x1 p17.1)) (gt x13 p17.1)) (addI .u32 (xorI .u32 (xorI .u32 x33 x35) x37) (xorI .u32 (xorI .u32 (andI .u32 (gt p17.2 0) (gt p17.2 1)) (andI .u32 (gt p17.2 0) (gt p17.2 2))) (andI .u32 (gt p17.2 1) (gt p17.2 2))))), (gt p17.2 0), (gt p17.2 1), (gt p17.2 2), (addI .u32 (gt p17.2 3) (addI .u32 (addI .u32 (addI .u32 (addI .u32 (gt p17.2 7) (xorI .u32 (xorI .u32 x22 x24) x26)) (xorI .u32 (andI .u32 (gt p17.2 4) (gt p17.2 5)) (andI .u32 (notI .u32 (gt p17.2 4)) (gt p17.2 6)))) (gt x1 p17.1)) (gt x13 p17.1))), (gt p17.2 4), (gt p17.2 5), (gt p17.2 6)] : List Int).map (V.int .u32)) (clQA (And.intro ha9 (And.intro ha12 (And.intro ha17 (And.intro he20 (And.intro he21 (And.intro he28 (And.intro he29 (And.intro he30 (And.intro he31 (And.intro he32 (And.intro he39 (And.intro he40 he41))))))))))))) (clQA (And.intro ha9 (And.intro ha12 (And.intro ha17 (And.intro he20 (And.intro he21 (And.intro he28 (And.intro he29 (And.intro he30 (And.intro he31 (And.intro he32 (And.intro he39 (And.intro he40 he41))))))))))))) (by first | decide | (dsimp only; decide)) (by decide)) sbQ sbQ ⟨((p17.1 + 1), ([(addI .u32 (addI .u32 (addI .u32 (addI .u32 (addI .u32 (gt p17.2 7) (xorI .u32 (xorI .u32 x22 x24) x26)) (xorI .u32 (andI .u32 (gt p17.2 4) (gt p17.2 5)) (andI .u32 (notI .u32 (gt p17.2 4)) (gt p17.2 6)))) (gt x1 p17.1)) (gt x13 p17.1)) (addI .u32 (xorI .u32 (xorI .u32 x33 x35) x37) (xorI .u32 (xorI .u32 (andI .u32 (gt p17.2 0) (gt p17.2 1)) (andI .u32 (gt p17.2 0) (gt p17.2 2))) (andI .u32 (gt p17.2 1) (gt p17.2 2))))), (gt p17.2 0), (gt p17.2 1), (gt p17.2 2), (addI .u32 (gt p17.2 3) (addI .u32 (addI .u32 (addI .u32 (addI .u32 (gt p17.2 7) (xorI .u32 (xorI .u32 x22 x24) x26)) (xorI .u32 (andI .u32 (gt p17.2 4) (gt p17.2 5)) (andI .u32 (notI .u32 (gt p17.2 4)) (gt p17.2 6)))) (gt x1 p17.1)) (gt x13 p17.1))), (gt p17.2 4), (gt p17.2 5), (gt p17.2 6)] : List Int)), rfl, ⟨omQ, omQ, omQ, omQ⟩, omQ, iter_again hM hag17⟩
  ·rw [if_neg (ne_true h18)] at hM
   refine spQA (And.intro ha9 (And.intro ha12 (And.intro ha17 h18))) ?_
   have nh18 := nzQ h18
   try have hr42 := mpQ nh18
   have hM0 := hM; clear hM; obtain ⟨f43, d43, hf43, hd43, hM⟩ := iter_opn hM0; clear hM0
   refine ct_loop (fun n S => ∃ p : Int × List Int, S = (⟨[(2, .ptr 0 0), (3, .own 1), (4, .sl none 1 false (x1.map (V.int .u32))), (5, .sl none 1 false (x5.map (V.int .u8))), (6, .int .i64 p9.1), (8, .own 2), (12, .int .i64 p.1)], [(0, .var 32 true (zv_35)), (1, .own 91 1 false none (p.2.map (V.int .u32))), (2, .own 91 1 false none (p17.2.map (V.int .u32)))], 3⟩ : St) ∧ ((0 ≤ p.1) ∧ (p.1 ≤ 8) ∧ ((p.2).length = (p9.2).length)) ∧ ((8 : Int) - p.1).toNat < n ∧ iter n f43 d43 p = r) (((8 : Int) - 0).toNat + 1) _ sbQ sbQ ⟨(0, p9.2), rfl, ⟨omQ, omQ, omQ⟩, (Nat.lt_succ_self _), hM⟩ ?_
   clear hM
   rintro n43 S ⟨p43, rfl, hfa43, hm43, hM⟩
   have hM0 := hM; clear hM; obtain ⟨ag43, hag43, hM⟩ := iter_step hM0 (by omega) hf43; clear hM0
   replace hfa43 := nzQ hfa43
   replace hm43 := nzQ hm43
   have ha43 : addI .i64 p43.1 1 = p43.1 + 1 := add_one omQ omQ
   refine spQA (And.intro ha9 (And.intro ha12 (And.intro ha17 ha43))) ?_
   have hF := (And.intro ha9 (And.intro h10 (And.intro ha12 (And.intro ha17 (And.intro h18 ha43)))))
   exact auQ
 ·rw [if_neg (ne_true h10)] at hM
  refine spQA (And.intro ha9 h10) ?_
  have nh10 := nzQ h10
  try have hr50 := mpQ nh10
  have hM0 := hM; clear hM; obtain ⟨f51, d51, hf51, hd51, hM⟩ := iter_opn hM0; clear hM0
  refine ct_loop (fun n S => ∃ p : Int × (List Int), S = (⟨[(2, .ptr 0 0), (3, .own 1), (13, .ptr 2 0), (14, .int .i64 p.1)], [(0, .var 32 true (zv_35)), (1, .own 91 1 false none (p9.2.map (V.int .u32))), (2, .var 32 true ((e_arr35 p.2)))], 3⟩ : St) ∧ ((0 ≤ p.1) ∧ (p.1 ≤ 32)) ∧ ((32 : Int) - p.1).toNat < n ∧ iter n f51 d51 p = r) (((32 : Int) - 0).toNat + 1) _ sbQ (by simp only [go_sem, rowV_eq, rowV_eq0, List.length_replicate, rep_len, Int.toNat_natCast, ↓reduceIte, Nat.reduceEqDiff, Nat.reduceAdd, Int.reduceAdd, Nat.reduceMul, Nat.reduceLeDiff, Nat.reduceLT, Int.reduceLE, Int.reduceLT, Int.reduceNeg, Int.reduceToNat, map_st, mtL_repE, mtL_repM, subF, subH, mtO, mtB, mt, mtL, mtL_self, mt_self, ltV, ltL, ltB, eq_self, or_true, true_or, or_self, and_self, gt_cons0, gt_conss, Int.reduceSub]) ⟨(0, [0, 0, 0, 0, 0, 0, 0, 0, 0, 0, 0, 0, 0, 0, 0, 0, 0, 0, 0, 0, 0, 0, 0, 0, 0, 0, 0, 0, 0, 0, 0, 0]), rfl, ⟨omQ, omQ⟩, (Nat.lt_succ_self _), hM⟩ ?_
  clear hM
  rintro n51 S ⟨p51, rfl, hfa51, hm51, hM⟩
  have hM0 := hM; clear hM; obtain ⟨ag51, hag51, hM⟩ := iter_step hM0 (by omega) hf51; clear hM0
  replace hfa51 := nzQ hfa51
  replace hm51 := nzQ hm51
  have ha51 : addI .i64 p51.1 1 = p51.1 + 1 := add_one omQ omQ
  refine spQA (And.intro ha9 ha51) ?_
  refine condC_intro (fun h52 => ?_) (fun h52 => ?_)
  ·rw [if_pos h52] at hM
   refine spQA (And.intro ha9 (And.intro ha51 h52)) ?_
   have nh52 := nzQ h52
   try have hr53 := mpQ nh52
   have ha54 : quoI .i64 p51.1 4 = (p51.1 / 4) := quo_ok omQ omQ
   try simp only [ha54]
   refine bindC_intro omQ ?_
   refine spQA (And.intro ha9 (And.intro ha51 ha54)) ?_
   refine bindC_intro omQ ?_
   have he55 := fun d => elt_mp (l := p9.2) (f := (V.int .u32)) (i := (p51.1 / 4)) omQ d
   refine spQA (And.intro ha9 (And.intro ha51 (And.intro ha54 he55))) ?_
   refine bindC_intro omQ ?_
   refine spQA (And.intro ha9 (And.intro ha51 (And.intro ha54 he55))) ?_
   have ha56 : remI .i64 p51.1 4 = (p51.1 % 4) := rem_ok omQ omQ
   try simp only [ha56]
   refine bindC_intro omQ ?_
   refine spQA (And.intro ha9 (And.intro ha51 (And.intro ha54 (And.intro he55 ha56)))) ?_
   obtain ⟨ha57, hbha57⟩ := mul_pos_ok (a := 8) (b := (p51.1 % 4)) 8 64 512 omQ omQ omQ omQ (by decide) (by decide)
   try simp only [ha57]
   have ha58 : subI .i64 24 (8 * (p51.1 % 4)) = (24 - (8 * (p51.1 % 4))) := sub_ok omQ omQ
   try simp only [ha58]
   refine bindC_intro omQ ?_
   refine spQA (And.intro ha9 (And.intro ha51 (And.intro ha54 (And.intro he55 (And.intro ha56 (And.intro ha57 ha58)))))) ?_
   refine bindC_intro omQ ?_
   have he59 : ((p51.1).toNat * 1 + 1 ≤ 32) = True := eq_true omQ
   refine spQA (And.intro ha9 (And.intro ha51 (And.intro ha54 (And.intro he55 (And.intro ha56 (And.intro ha57 (And.intro ha58 he59))))))) ?_
   have he60 := arr_put (f := (V.int .u8)) (l := (arrN 32 p51.2)) (n := 32) (i := p51.1) (v := (convI .u8 (shrI .u32 (gt p9.2 (p51.1 / 4)) (24 - (8 * (p51.1 % 4)))))) arrN_len omQ
   replace he60 := spR he60
   refine spQA (And.intro ha9 (And.intro ha51 (And.intro ha54 (And.intro he55 (And.intro ha56 (And.intro ha57 (And.intro ha58 (And.intro he59 he60)))))))) ?_
   refine lp_intro (n51 - 1) _ (by omega) sbQ (by simp only [go_sem, rowV_eq, rowV_eq0, List.length_replicate, rep_len, Int.toNat_natCast, ↓reduceIte, Nat.reduceEqDiff, Nat.reduceAdd, Int.reduceAdd, Nat.reduceMul, Nat.reduceLeDiff, Nat.reduceLT, Int.reduceLE, Int.reduceLT, Int.reduceNeg, Int.reduceToNat, map_st, mtL_repE, mtL_repM, subF, subH, mtO, mtB, mt, mtL, mtL_self, mt_self, ltV, ltL, ltB, eq_self, or_true, true_or, or_self, and_self, gt_cons0, gt_conss, Int.reduceSub]) ⟨((p51.1 + 1), (arrN 32 (st (arrN 32 p51.2) p51.1 (convI .u8 (shrI .u32 (gt p9.2 (p51.1 / 4)) (24 - (8 * (p51.1 % 4)))))))), rfl, ⟨omQ, omQ⟩, omQ, iter_again hM hag51⟩
  ·rw [if_neg (ne_true h52)] at hM
   refine spQA (And.intro ha9 (And.intro ha51 h52)) ?_
   have nh52 := nzQ h52
   try have hr61 := mpQ nh52
   subst hM
   exact retC_view (lfQA (And.intro ha9 (And.intro ha51 (And.intro h10 h52))))
set_option maxHeartbeats 2000000 in
set_option maxRecDepth 100000 in
theorem specieref06_Join_ok   (b : (List Int)) (h_ : (List Int)) (hp0 : b.length ≤ 1000000000) : CM En (specieref06_Join b h_) 48 [.sl none 1 false (b.map (V.int .u8)), (e_arr35 h_)] (fun _ => .own 0) (fun y => [.own 5 1 false none (y.map (V.int .u8))]) := by
 refine cmQ fun r hM => ?_
 rw [specieref06_Join.eq_1] at hM
 refine enterV En_ok En_mo noJ Tryz.func48 rfl Tryz.ntmps48 (by kernel_rfl) fun hw => ct_start ?_
 refine spQ ?_
 replace hw := nzQ hw
 refine bindC_intro omQ ?_
 refine spQ ?_
 have hM0 := hM; clear hM; obtain ⟨f1, d1, hf1, hd1, hM⟩ := iter_opn hM0; clear hM0
 refine ct_loop (fun n S => ∃ p : Int × List Int, S = (⟨[(3, .ptr 0 0), (5, .own 1), (6, .int .i64 p.1)], [(0, .var 32 true ((e_arr35 h_))), (1, .own 5 1 false none (p.2.map (V.int .u8)))], 2⟩ : St) ∧ ((0 ≤ p.1) ∧ (p.1 ≤ 32) ∧ (((p.2).length : Int) ≤ p.1 + ((([] : List Int) ++ b)).length)) ∧ ((32 : Int) - p.1).toNat < n ∧ iter n f1 d1 p = r) (((32 : Int) - 0).toNat + 1) _ sbQ sbQ ⟨(0, (([] : List Int) ++ b)), rfl, ⟨omQ, omQ, omQ⟩, (Nat.lt_succ_self _), hM⟩ ?_
 clear hM
 rintro n1 S ⟨p1, rfl, hfa1, hm1, hM⟩
 have hM0 := hM; clear hM; obtain ⟨ag1, hag1, hM⟩ := iter_step hM0 (by omega) hf1; clear hM0
 replace hfa1 := nzQ hfa1
 replace hm1 := nzQ hm1
 have ha1 : addI .i64 p1.1 1 = p1.1 + 1 := add_one omQ omQ
 refine spQA ha1 ?_
 refine condC_intro (fun h2 => ?_) (fun h2 => ?_)
 ·rw [if_pos h2] at hM
  refine spQA (And.intro ha1 h2) ?_
  have nh2 := nzQ h2
  try have hr3 := mpQ nh2
  refine bindC_intro omQ ?_
  have he4 : ((p1.1).toNat * 1 + 1 ≤ 32) = True := eq_true omQ
  refine spQA (And.intro ha1 he4) ?_
  have he5 := arr_get (f := (V.int .u8)) (l := h_) (n := 32) (i := p1.1) omQ
  replace he5 := spR he5
  try refine spQA (And.intro ha1 (And.intro he4 he5)) ?_
  have hF := (And.intro ha1 (And.intro h2 (And.intro he4 he5)))
  exact auQ
 ·rw [if_neg (ne_true h2)] at hM
  refine spQA (And.intro ha1 h2) ?_
  have nh2 := nzQ h2
  try have hr6 := mpQ nh2
  subst hM
  exact retC_owns [1] (bs := [.own 5 1 false none (p1.2.map (V.int .u8))]) (clQA ha1) (by decide) (lfQA (And.intro ha1 h2))
set_option maxHeartbeats 2000000 in
set_option maxRecDepth 100000 in
theorem specieref06_Tagged_ok   (tag : (List UInt8)) (b : (List Int)) (hp0 : b.length ≤ 900000000) (hp1 : tag.length ≤ 1000) : CM En (specieref06_Tagged tag b) 29 [.str tag, .sl none 1 false (b.map (V.int .u8))] (fun y => (e_arr35 y)) (fun _ => []) := by
 refine cmQ fun r hM => ?_
 rw [specieref06_Tagged.eq_1] at hM
 refine enterV En_ok En_mo noJ Tryz.func29 rfl Tryz.ntmps29 (by kernel_rfl) fun hw => ct_start ?_
 refine spQ ?_
 replace hw := nzQ hw
 have hM0 := hM; clear hM; obtain ⟨x1, hx2, hM⟩ := letk_opn hM0; clear hM0
 have hcx1 := cmH hx2 (specieref06_Sum_ok  (nat8 tag) (by (exact pfQ)))
 refine callC_look hcx1 clQ clQ (fun hw3 => ?_)
 replace hw3 := nzQ hw3
 refine spQ ?_
 refine ct_draw 16 5 [9, 10, 11, 12, 13] [] ([[], [0], [], [0, 1, 2], []] ++ [List.range 5, List.range 6, List.range 7]) [] (by kernel_rfl) (by exact alQ) ?_
 refine spQ ?_
 have hM0 := hM; clear hM; obtain ⟨x4, hx5, hM⟩ := letk_opn hM0; clear hM0
 have hcx4 := CallOk.pub (cmH hx5 (specieref06_Join_ok  ([] : List Int) x1 (by (exact pfQ))))
 refine hcallC_give hcx4 clQ clQ ?_
 refine spQ ?_
 have hq6 := nzQ (cfU hx5)
 have hM0 := hM; clear hM; obtain ⟨x7, hx8, hM⟩ := letk_opn hM0; clear hM0
 have hcx7 := cmH hx8 (specieref06_Join_ok  x4 x1 (by (exact pfQ)))
 refine hcallC_own hcx7 clQ clQ ?_
 refine spQ ?_
 have hq9 := nzQ (cfU hx8)
 refine bindC_intro omQ ?_
 refine spQ ?_
 have hM0 := hM; clear hM; obtain ⟨x10, hx11, hM⟩ := letk_opn hM0; clear hM0
 have hcx10 := cmH hx11 (specieref06_Sum_ok  (x7 ++ b) (by (exact pfQ)))
 refine callC_look hcx10 clQ clQ (fun hw12 => ?_)
 replace hw12 := nzQ hw12
 refine spQ ?_
 subst hM
 exact retC_view lfQ
set_option maxHeartbeats 2000000 in
set_option maxRecDepth 100000 in
instance specieref11_Digest_ok   (b : S_api_Bases)  : CM En (specieref11_Digest b) 13 [(e_api_Bases b)] (fun y => (e_arr35 y)) (fun _ => []) := by
 refine cmQ fun r hM => ?_
 rw [specieref11_Digest.eq_1] at hM
 refine enterV En_ok En_mo noJ Tryz.func13 rfl Tryz.ntmps13 (by kernel_rfl) fun hw => ct_start ?_
 refine spQ ?_
 replace hw := nzQ hw
 have hM0 := hM; clear hM; obtain ⟨x1, hx2, hM⟩ := letk_opn hM0; clear hM0
 have hcx1 := cmU hx2
 refine callC_give hcx1 clQ clQ (fun hw3 => ?_)
 replace hw3 := nzQ hw3
 refine spQ ?_
 have hq4 := hgt_ritem hx2
 replace hq4 := nzQ hq4
 have hM0 := hM; clear hM; obtain ⟨x5, hx6, hM⟩ := letk_opn hM0; clear hM0
 have hcx5 := encI_ok  x1 (by (exact pfQ))
 rw [← hx6] at hcx5
 refine callC_give hcx5 clQ clQ (fun hw7 => ?_)
 replace hw7 := nzQ hw7
 refine spQ ?_
 have hq8 := enc_after hx6
 replace hq8 := nzQ hq8
 have hM0 := hM; clear hM; obtain ⟨x9, hx10, hM⟩ := letk_opn hM0; clear hM0
 have hcx9 := cmH hx10 (specieref06_Tagged_ok  ([115, 112, 101, 99, 105, 101, 47, 98, 97, 115, 101, 115]) x5 (by (first | decide | omega)) (by (first | decide | omega)))
 refine callC_give hcx9 clQ clQ (fun hw11 => ?_)
 replace hw11 := nzQ hw11
 refine spQ ?_
 subst hM
 exact retC_view lfQ
set_option maxHeartbeats 2000000 in
set_option maxRecDepth 100000 in
theorem specieref07_decimal_ok (N : Nat) (ih : ∀  (n_ : Int), (0 ≤ n_) → n_.toNat < N → CallOk En 50 [.int .i64 n_] (.str (decM n_)) [])  (n_ : Int) (hp0 : 0 ≤ n_) (hp_ : n_.toNat < N + 1) : CallOk En 50 [.int .i64 n_] (.str (specieref07_decimal n_)) [] := by
 generalize hM : specieref07_decimal n_ = r
 rw [specieref07_decimal.eq_1] at hM
 refine enterV En_ok En_mo noJ Tryz.func50 rfl Tryz.ntmps50 (by kernel_rfl) fun hw => ct_start ?_
 refine spQ ?_
 replace hw := nzQ hw
 refine condC_intro (fun h1 => ?_) (fun h1 => ?_)
 ·rw [if_pos h1] at hM
  refine spQA h1 ?_
  have nh1 := nzQ h1
  try have hr2 := mpQ nh1
  exact False.elim (by (clear hM; omega))
 ·rw [if_neg (ne_true h1)] at hM
  refine spQA h1 ?_
  have nh1 := nzQ h1
  try have hr3 := mpQ nh1
  refine condC_intro (fun h4 => ?_) (fun h4 => ?_)
  ·rw [if_pos h4] at hM
   refine spQA h4 ?_
   have nh4 := nzQ h4
   try have hr5 := mpQ nh4
   have ha6 : quoI .i64 n_ 10 = (n_ / 10) := quo_ok (by (first | exact omQ | (clear hM; first | (rw [LEN_eq]; (try simp only [List.length_append, List.length_cons, List.length_nil, List.length_map, List.length_take]); exact omQ')))) (by (first | exact omQ | (clear hM; first | (rw [LEN_eq]; (try simp only [List.length_append, List.length_cons, List.length_nil, List.length_map, List.length_take]); exact omQ'))))
   try simp only [ha6]
   refine bindC_intro (by (first | exact omQ | (clear hM; first | (rw [LEN_eq]; (try simp only [List.length_append, List.length_cons, List.length_nil, List.length_map, List.length_take]); exact omQ')))) ?_
   refine spQA ha6 ?_
   have hM0 := hM; clear hM; obtain ⟨x7, hx8, hM⟩ := letk_opn hM0; clear hM0
   have hcx7 := ih  (n_ / 10) (by (exact pfQ)) (by (omega))
   rw [← hx8] at hcx7
   refine callC_give hcx7 (clQA ha6) (clQA ha6) (fun hw9 => ?_)
   replace hw9 := nzQ hw9
   refine spQA ha6 ?_
   have hq10 := decM_len hx8 (by omega)
   replace hq10 := nzQ hq10
   have ha11 : remI .i64 n_ 10 = (n_ % 10) := rem_ok (by (first | exact omQ | (clear hM; first | (rw [LEN_eq]; (try simp only [List.length_append, List.length_cons, List.length_nil, List.length_map, List.length_take]); exact omQ')))) (by (first | exact omQ | (clear hM; first | (rw [LEN_eq]; (try simp only [List.length_append, List.length_cons, List.length_nil, List.length_map, List.length_take]); exact omQ'))))
   try simp only [ha11]
   refine bindC_intro (by (first | exact omQ | (clear hM; first | (rw [LEN_eq]; (try simp only [List.length_append, List.length_cons, List.length_nil, List.length_map, List.length_take]); exact omQ')))) ?_
   refine spQA (And.intro ha6 ha11) ?_
   have hM0 := hM; clear hM; obtain ⟨x12, hx13, hM⟩ := letk_opn hM0; clear hM0
   have hcx12 := ih  (n_ % 10) (by (exact pfQ)) (by (omega))
   rw [← hx13] at hcx12
   refine callC_give hcx12 (clQA (And.intro ha6 ha11)) (clQA (And.intro ha6 ha11)) (fun hw14 => ?_)
   replace hw14 := nzQ hw14
   refine spQA (And.intro ha6 ha11) ?_
   have hq15 := decM_len hx13 (by omega)
   replace hq15 := nzQ hq15
   refine bindC_intro (by (first | exact omQ | (clear hM; first | (rw [LEN_eq]; (try simp only [List.length_append, List.length_cons, List.length_nil, List.length_map, List.length_take]); exact omQ')))) ?_
   refine spQA (And.intro ha6 ha11) ?_
   subst hM
   exact retC_view (lfQA (And.intro ha6 (And.intro ha11 (And.intro h1 h4))))
  ·rw [if_neg (ne_true h4)] at hM
   refine spQA h4 ?_
   have nh4 := nzQ h4
   try have hr16 := mpQ nh4
   have ha17 : addI .i64 48 n_ = (48 + n_) := add_ok (by (first | exact omQ | (clear hM; first | (rw [LEN_eq]; (try simp only [List.length_append, List.length_cons, List.length_nil, List.length_map, List.length_take]); exact omQ')))) (by (first | exact omQ | (clear hM; first | (rw [LEN_eq]; (try simp only [List.length_append, List.length_cons, List.length_nil, List.length_map, List.length_take]); exact omQ'))))
   try simp only [ha17]
   refine bindC_intro (by (first | exact ⟨allU8_map, by (first | exact omQ | (clear hM; first | (rw [LEN_eq]; (try simp only [List.length_append, List.length_cons, List.length_nil, List.length_map, List.length_take]); exact omQ')))⟩ | exact trivial | (refine ⟨?_, ?_⟩ <;> first | exact trivial | (simp only [List.length_cons, List.length_nil]; omega)))) ?_
   refine spQA ha17 ?_
   subst hM
   exact retC_view (lfQA (And.intro ha17 (And.intro h1 h4)))
theorem decM_okN : ∀ (N : Nat)  (n_ : Int), (0 ≤ n_) → n_.toNat < N → CallOk En 50 [.int .i64 n_] (.str (decM n_)) [] := by
 intro N
 induction N with
 | zero => intro n_ h0 h; exact absurd h (Nat.not_lt_zero _)
 | succ N ih =>
  intro n_ h0 h
  have h9 := specieref07_decimal_ok N ih n_ h0 h
  rw [specieref07_decimal_eqM h0] at h9
  exact h9
theorem decM_ok  (n_ : Int) (hp0 : 0 ≤ n_) : CallOk En 50 [.int .i64 n_] (.str (decM n_)) [] :=
 decM_okN (n_.toNat + 1) n_ hp0 (Nat.lt_succ_self _)
set_option maxHeartbeats 2000000 in
set_option maxRecDepth 100000 in
theorem specieref07_Text_ok   (i_ : S_api_Item) (hp0 : i_.Kind = 1) (hp1 : 0 ≤ i_.N) : CM En (specieref07_Text i_) 31 [.agg [.int .i64 i_.Kind, .int .i64 i_.N, .sl none 1 false (i_.B.map (V.int .u8)), .sl none 4 true (i_.L.map e_api_Item)]] (fun y => .str y) (fun _ => []) := by
 refine cmQ fun r hM => ?_
 rw [specieref07_Text.eq_1] at hM
 refine enterV En_ok En_mo noJ Tryz.func31 rfl Tryz.ntmps31 (by kernel_rfl) fun hw => ct_start ?_
 refine spQ ?_
 replace hw := nzQ hw
 refine condC_intro (fun h1 => ?_) (fun h1 => ?_)
 ·rw [if_pos h1] at hM
  refine spQA h1 ?_
  have nh1 := nzQ h1
  try have hr2 := mpQ nh1
  have hM0 := hM; clear hM; obtain ⟨x3, hx4, hM⟩ := letk_opn hM0; clear hM0
  have hcx3 := decM_ok  (i_.N) (by (exact pfQ))
  rw [← hx4] at hcx3
  refine callC_give hcx3 clQ clQ (fun hw5 => ?_)
  replace hw5 := nzQ hw5
  refine spQ ?_
  subst hM
  exact retC_view (lfQA h1)
 ·rw [if_neg (ne_true h1)] at hM
  refine spQA h1 ?_
  have nh1 := nzQ h1
  try have hr6 := mpQ nh1
  exact False.elim (by (clear hM; omega))
set_option maxHeartbeats 2000000 in
set_option maxRecDepth 100000 in
theorem specieref11_Text_ok   (b : S_api_Bases) (hp0 : ∀ j : Int, 0 ≤ j → j.toNat < (specieref11_Numbers b).length → 0 ≤ gt (specieref11_Numbers b) j) : CM En (specieref11_Text b) 14 [(e_api_Bases b)] (fun y => .str y) (fun _ => []) := by
 refine cmQ fun r hM => ?_
 rw [specieref11_Text.eq_1] at hM
 refine enterV En_ok En_mo noJ Tryz.func14 rfl Tryz.ntmps14 (by kernel_rfl) fun hw => ct_start ?_
 refine spQ ?_
 replace hw := nzQ hw
 have hM0 := hM; clear hM; obtain ⟨x1, hx2, hM⟩ := letk_opn hM0; clear hM0
 have hcx1 := cmU hx2
 refine callC_give hcx1 clQ clQ (fun hw3 => ?_)
 replace hw3 := nzQ hw3
 refine spQ ?_
 have hq4 := nzQ (cfU hx2)
 have hM0 := hM; clear hM; obtain ⟨f5, d5, hf5, hd5, hM⟩ := iter_opn hM0; clear hM0
 refine ct_loop (fun n S => ∃ p : List UInt8 × Int, S = (⟨[(3, .str p.1), (4, .sl none 1 false (x1.map (V.int .i64))), (5, .int .i64 p.2)], [], 1⟩ : St) ∧ ((0 ≤ p.2) ∧ (p.2 ≤ (x1.length : Int)) ∧ (0 ≤ p.2) ∧ (p.2 ≤ (x1.length : Int)) ∧ (((p.1).length : Int) ≤ 30 * p.2)) ∧ ((x1.length : Int) - p.2).toNat < n ∧ iter n f5 d5 p = r) (((x1.length : Int) - 0).toNat + 1) _ sbQ (by simp only [go_sem, rowV_eq, rowV_eq0, List.length_replicate, rep_len, Int.toNat_natCast, ↓reduceIte, Nat.reduceEqDiff, Nat.reduceAdd, Int.reduceAdd, Nat.reduceMul, Nat.reduceLeDiff, Nat.reduceLT, Int.reduceLE, Int.reduceLT, Int.reduceNeg, Int.reduceToNat, map_st, mtL_repE, mtL_repM, subF, subH, mtO, mtB, mt, mtL, mtL_self, mt_self, ltV, ltL, ltB, eq_self, or_true, true_or, or_self, and_self, gt_cons0, gt_conss, Int.reduceSub]) ⟨([], 0), rfl, ⟨by (first | exact omQ | (clear hM; first | (rw [LEN_eq]; (try simp only [List.length_append, List.length_cons, List.length_nil, List.length_map, List.length_take]); exact omQ'))), by (first | exact omQ | (clear hM; first | (rw [LEN_eq]; (try simp only [List.length_append, List.length_cons, List.length_nil, List.length_map, List.length_take]); exact omQ'))), by (first | exact omQ | (clear hM; first | (rw [LEN_eq]; (try simp only [List.length_append, List.length_cons, List.length_nil, List.length_map, List.length_take]); exact omQ'))), by (first | exact omQ | (clear hM; first | (rw [LEN_eq]; (try simp only [List.length_append, List.length_cons, List.length_nil, List.length_map, List.length_take]); exact omQ'))), by (first | exact omQ | (clear hM; first | (rw [LEN_eq]; (try simp only [List.length_append, List.length_cons, List.length_nil, List.length_map, List.length_take]); exact omQ')))⟩, (Nat.lt_succ_self _), hM⟩ ?_
 clear hM
 rintro n5 S ⟨p5, rfl, hfa5, hm5, hM⟩
 have hM0 := hM; clear hM; obtain ⟨ag5, hag5, hM⟩ := iter_step hM0 (by omega) hf5; clear hM0
 replace hfa5 := nzQ hfa5
 replace hm5 := nzQ hm5
 have ha5 : addI .i64 p5.2 1 = p5.2 + 1 := add_one (by (first | exact omQ | (clear hM; first | (rw [LEN_eq]; (try simp only [List.length_append, List.length_cons, List.length_nil, List.length_map, List.length_take]); exact omQ')))) (by (first | exact omQ | (clear hM; first | (rw [LEN_eq]; (try simp only [List.length_append, List.length_cons, List.length_nil, List.length_map, List.length_take]); exact omQ'))))
 refine spQA ha5 ?_
 refine condC_intro (fun h6 => ?_) (fun h6 => ?_)
 ·rw [if_pos h6] at hM
  refine spQA (And.intro ha5 h6) ?_
  have nh6 := nzQ h6
  try have hr7 := mpQ nh6
  refine condC_intro (fun h8 => ?_) (fun h8 => ?_)
  ·rw [if_pos h8] at hM
   refine spQA (And.intro ha5 h8) ?_
   have nh8 := nzQ h8
   try have hr9 := mpQ nh8
   refine bindC_intro (by (first | exact omQ | (clear hM; first | (rw [LEN_eq]; (try simp only [List.length_append, List.length_cons, List.length_nil, List.length_map, List.length_take]); exact omQ')))) ?_
   refine spQA ha5 ?_
   refine bindC_intro (by (first | exact omQ | (clear hM; first | (rw [LEN_eq]; (try simp only [List.length_append, List.length_cons, List.length_nil, List.length_map, List.length_take]); exact omQ')))) ?_
   have he10 := fun d => elt_mp (l := x1) (f := (V.int .i64)) (i := p5.2) (by (first | exact omQ | (clear hM; first | (rw [LEN_eq]; (try simp only [List.length_append, List.length_cons, List.length_nil, List.length_map, List.length_take]); exact omQ')))) d
   refine spQA (And.intro ha5 he10) ?_
   have hM0 := hM; clear hM; obtain ⟨x11, hx12, hM⟩ := letk_opn hM0; clear hM0
   have hcx11 := cmU hx12
   refine callC_give hcx11 (clQA (And.intro ha5 he10)) (clQA (And.intro ha5 he10)) (fun hw13 => ?_)
   replace hw13 := nzQ hw13
   refine spQA (And.intro ha5 he10) ?_
   have hq14 := rint_after hx12
   replace hq14 := nzQ hq14
   have hM0 := hM; clear hM; obtain ⟨x15, hx16, hM⟩ := letk_opn hM0; clear hM0
   have hcx15 := cmH hx16 (specieref07_Text_ok  x11 (by (first | omega | (have h9 := hp0 p5.2 (by omega) (by rw [← hx2]; omega); rw [← hx2] at h9; omega))) (by (first | omega | (have h9 := hp0 p5.2 (by omega) (by rw [← hx2]; omega); rw [← hx2] at h9; omega))))
   refine callC_give hcx15 (clQA (And.intro ha5 he10)) (clQA (And.intro ha5 he10)) (fun hw17 => ?_)
   replace hw17 := nzQ hw17
   refine spQA (And.intro ha5 he10) ?_
   have hq18 : x15.length ≤ 21 := rt_len hx16 (by have h9 := hp0 p5.2 (by omega) (by rw [← hx2]; omega); rw [← hx2] at h9; omega)
   replace hq18 := nzQ hq18
   refine bindC_intro (by (first | exact omQ | (clear hM; first | (rw [LEN_eq]; (try simp only [List.length_append, List.length_cons, List.length_nil, List.length_map, List.length_take]); exact omQ')))) ?_
   refine spQA (And.intro ha5 he10) ?_
   refine lp_intro (n5 - 1) _ (by omega) sbQ sbQ ⟨(((p5.1 ++ [32]) ++ x15), (p5.2 + 1)), rfl, ⟨by (first | exact omQ | (clear hM; first | (rw [LEN_eq]; (try simp only [List.length_append, List.length_cons, List.length_nil, List.length_map, List.length_take]); exact omQ'))), by (first | exact omQ | (clear hM; first | (rw [LEN_eq]; (try simp only [List.length_append, List.length_cons, List.length_nil, List.length_map, List.length_take]); exact omQ'))), by (first | exact omQ | (clear hM; first | (rw [LEN_eq]; (try simp only [List.length_append, List.length_cons, List.length_nil, List.length_map, List.length_take]); exact omQ'))), by (first | exact omQ | (clear hM; first | (rw [LEN_eq]; (try simp only [List.length_append, List.length_cons, List.length_nil, List.length_map, List.length_take]); exact omQ'))), by (first | exact omQ | (clear hM; first | (rw [LEN_eq]; (try simp only [List.length_append, List.length_cons, List.length_nil, List.length_map, List.length_take]); exact omQ')))⟩, by (first | exact omQ | (clear hM; first | (rw [LEN_eq]; (try simp only [List.length_append, List.length_cons, List.length_nil, List.length_map, List.length_take]); exact omQ'))), iter_again hM hag5⟩
  ·rw [if_neg (ne_true h8)] at hM
   refine spQA (And.intro ha5 h8) ?_
   have nh8 := nzQ h8
   try have hr19 := mpQ nh8
   refine bindC_intro (by (first | exact omQ | (clear hM; first | (rw [LEN_eq]; (try simp only [List.length_append, List.length_cons, List.length_nil, List.length_map, List.length_take]); exact omQ')))) ?_
   have he20 := fun d => elt_mp (l := x1) (f := (V.int .i64)) (i := p5.2) (by (first | exact omQ | (clear hM; first | (rw [LEN_eq]; (try simp only [List.length_append, List.length_cons, List.length_nil, List.length_map, List.length_take]); exact omQ')))) d
   refine spQA (And.intro ha5 he20) ?_
   have hM0 := hM; clear hM; obtain ⟨x21, hx22, hM⟩ := letk_opn hM0; clear hM0
   have hcx21 := cmU hx22
   refine callC_give hcx21 (clQA (And.intro ha5 he20)) (clQA (And.intro ha5 he20)) (fun hw23 => ?_)
   replace hw23 := nzQ hw23
   refine spQA (And.intro ha5 he20) ?_
   have hq24 := rint_after hx22
   replace hq24 := nzQ hq24
   have hM0 := hM; clear hM; obtain ⟨x25, hx26, hM⟩ := letk_opn hM0; clear hM0
   have hcx25 := cmH hx26 (specieref07_Text_ok  x21 (by (first | omega | (have h9 := hp0 p5.2 (by omega) (by rw [← hx2]; omega); rw [← hx2] at h9; omega))) (by (first | omega | (have h9 := hp0 p5.2 (by omega) (by rw [← hx2]; omega); rw [← hx2] at h9; omega))))
   refine callC_give hcx25 (clQA (And.intro ha5 he20)) (clQA (And.intro ha5 he20)) (fun hw27 => ?_)
   replace hw27 := nzQ hw27
   refine spQA (And.intro ha5 he20) ?_
   have hq28 : x25.length ≤ 21 := rt_len hx26 (by have h9 := hp0 p5.2 (by omega) (by rw [← hx2]; omega); rw [← hx2] at h9; omega)
   replace hq28 := nzQ hq28
   refine bindC_intro (by (first | exact omQ | (clear hM; first | (rw [LEN_eq]; (try simp only [List.length_append, List.length_cons, List.length_nil, List.length_map, List.length_take]); exact omQ')))) ?_
   refine spQA (And.intro ha5 he20) ?_
   refine lp_intro (n5 - 1) _ (by omega) sbQ sbQ ⟨((p5.1 ++ x25), (p5.2 + 1)), rfl, ⟨by (first | exact omQ | (clear hM; first | (rw [LEN_eq]; (try simp only [List.length_append, List.length_cons, List.length_nil, List.length_map, List.length_take]); exact omQ'))), by (first | exact omQ | (clear hM; first | (rw [LEN_eq]; (try simp only [List.length_append, List.length_cons, List.length_nil, List.length_map, List.length_take]); exact omQ'))), by (first | exact omQ | (clear hM; first | (rw [LEN_eq]; (try simp only [List.length_append, List.length_cons, List.length_nil, List.length_map, List.length_take]); exact omQ'))), by (first | exact omQ | (clear hM; first | (rw [LEN_eq]; (try simp only [List.length_append, List.length_cons, List.length_nil, List.length_map, List.length_take]); exact omQ'))), by (first | exact omQ | (clear hM; first | (rw [LEN_eq]; (try simp only [List.length_append, List.length_cons, List.length_nil, List.length_map, List.length_take]); exact omQ')))⟩, by (first | exact omQ | (clear hM; first | (rw [LEN_eq]; (try simp only [List.length_append, List.length_cons, List.length_nil, List.length_map, List.length_take]); exact omQ'))), iter_again hM hag5⟩
 ·rw [if_neg (ne_true h6)] at hM
  refine spQA (And.intro ha5 h6) ?_
  have nh6 := nzQ h6
  try have hr29 := mpQ nh6
  subst hM
  exact retC_view (lfQA (And.intro ha5 h6))
set_option maxHeartbeats 2000000 in
set_option maxRecDepth 100000 in
instance specieref11_number_ok   (s : (List UInt8))  : CM En (specieref11_number s) 24 [.str s] (fun y => .tup [.int .i64 y.1, .bool y.2]) (fun _ => []) := by
 refine cmQ fun r hM => ?_
 rw [specieref11_number.eq_1] at hM
 refine enterV En_ok En_mo noJ Tryz.func24 rfl Tryz.ntmps24 (by kernel_rfl) fun hw => ct_start ?_
 refine spQ ?_
 replace hw := nzQ hw
 refine guardC_f (fun h1 => ?_) (fun h1 => ?_)
 ·rw [if_neg (ne_true h1)] at hM
  refine spQA h1 ?_
  have nh1 := nzQ h1
  try have hr2 := mpQ nh1
  refine guardC_f (fun h3 => ?_) (fun h3 => ?_)
  ·rw [if_neg (ne_true h3)] at hM
   refine spQA h3 ?_
   have nh3 := nzQ h3
   try have hr4 := mpQ nh3
   refine bindC_intro (by (first | exact omQ | (clear hM; first | (have h9 := s_ne (by assumption); exact omQ')))) ?_
   refine spQ ?_
   refine guardC_t (fun h5 => ?_) (fun h5 => ?_)
   ·rw [if_pos h5] at hM
    refine spQA h5 ?_
    have nh5 := nzQ h5
    try have hr6 := mpQ nh5
    refine condC_intro (fun h7 => ?_) (fun h7 => ?_)
    ·rw [if_pos h7] at hM
     refine spQA h7 ?_
     have nh7 := nzQ h7
     try have hr8 := mpQ nh7
     subst hM
     exact retC_view (lfQA (And.intro h1 (And.intro h3 (And.intro h5 h7))))
    ·rw [if_neg (ne_true h7)] at hM
     refine spQA h7 ?_
     have nh7 := nzQ h7
     try have hr9 := mpQ nh7
     have hM0 := hM; clear hM; obtain ⟨f10, d10, hf10, hd10, hM⟩ := iter_opn hM0; clear hM0
     refine ct_loop (fun n S => ∃ p : Int × Int, S = (⟨[(0, .str s), (4, .int .i64 p.1), (5, .int .i64 p.2)], [], 0⟩ : St) ∧ ((0 ≤ p.2) ∧ (p.2 ≤ (s.length : Int))) ∧ ((s.length : Int) - p.2).toNat < n ∧ iter n f10 d10 p = r) (((s.length : Int) - 0).toNat + 1) _ sbQ sbQ ⟨(0, 0), rfl, ⟨by (first | exact omQ | (clear hM; first | (have h9 := s_ne (by assumption); exact omQ'))), by (first | exact omQ | (clear hM; first | (have h9 := s_ne (by assumption); exact omQ')))⟩, (Nat.lt_succ_self _), hM⟩ ?_
     clear hM
     rintro n10 S ⟨p10, rfl, hfa10, hm10, hM⟩
     have hM0 := hM; clear hM; obtain ⟨ag10, hag10, hM⟩ := iter_step hM0 (by omega) hf10; clear hM0
     replace hfa10 := nzQ hfa10
     replace hm10 := nzQ hm10
     have ha10 : addI .i64 p10.2 1 = p10.2 + 1 := add_one (by (first | exact omQ | (clear hM; first | (have h9 := s_ne (by assumption); exact omQ')))) (by (first | exact omQ | (clear hM; first | (have h9 := s_ne (by assumption); exact omQ'))))
     refine spQA ha10 ?_
     refine condC_intro (fun h11 => ?_) (fun h11 => ?_)
     ·rw [if_pos h11] at hM
      refine spQA (And.intro ha10 h11) ?_
      have nh11 := nzQ h11
      try have hr12 := mpQ nh11
      refine bindC_intro (by (first | exact omQ | (clear hM; first | (have h9 := s_ne (by assumption); exact omQ')))) ?_
      refine spQA ha10 ?_
      refine guardC_f (fun h13 => ?_) (fun h13 => ?_)
      ·rw [if_neg (ne_true h13)] at hM
       refine spQA (And.intro ha10 h13) ?_
       have nh13 := nzQ h13
       try have hr14 := mpQ nh13
       refine bindC_intro (by (first | exact omQ | (clear hM; first | (have h9 := s_ne (by assumption); exact omQ')))) ?_
       refine spQA ha10 ?_
       refine guardC_f (fun h15 => ?_) (fun h15 => ?_)
       ·rw [if_neg (ne_true h15)] at hM
        refine spQA (And.intro ha10 h15) ?_
        have nh15 := nzQ h15
        try have hr16 := mpQ nh15
        refine condC_intro (fun h17 => ?_) (fun h17 => ?_)
        ·rw [if_pos h17] at hM
         refine spQA (And.intro ha10 h17) ?_
         have nh17 := nzQ h17
         try have hr18 := mpQ nh17
         subst hM
         exact retC_view (lfQA (And.intro ha10 (And.intro h1 (And.intro h3 (And.intro h5 (And.intro h7 (And.intro h11 (And.intro h13 (And.intro h15 h17)))))))))
        ·rw [if_neg (ne_true h17)] at hM
         refine spQA (And.intro ha10 h17) ?_
         have nh17 := nzQ h17
         try have hr19 := mpQ nh17
         refine bindC_intro (by (first | exact omQ | (clear hM; first | (have h9 := s_ne (by assumption); exact omQ')))) ?_
         refine spQA ha10 ?_
         refine lp_intro (n10 - 1) _ (by omega) sbQ sbQ ⟨((addI .i64 (mulI .i64 10 p10.1) (convI .i64 (subI .u8 ((s.getD (p10.2).toNat 0).toNat : Int) 48))), (p10.2 + 1)), rfl, ⟨by (first | exact omQ | (clear hM; first | (have h9 := s_ne (by assumption); exact omQ'))), by (first | exact omQ | (clear hM; first | (have h9 := s_ne (by assumption); exact omQ')))⟩, by (first | exact omQ | (clear hM; first | (have h9 := s_ne (by assumption); exact omQ'))), iter_again hM hag10⟩
       ·rw [if_pos h15] at hM
        refine spQA (And.intro ha10 h15) ?_
        have nh15 := nzQ h15
        try have hr20 := mpQ nh15
        subst hM
        exact retC_view (lfQA (And.intro ha10 (And.intro h1 (And.intro h3 (And.intro h5 (And.intro h7 (And.intro h11 (And.intro h13 h15))))))))
      ·rw [if_pos h13] at hM
       refine spQA (And.intro ha10 h13) ?_
       have nh13 := nzQ h13
       try have hr21 := mpQ nh13
       subst hM
       exact retC_view (lfQA (And.intro ha10 (And.intro h1 (And.intro h3 (And.intro h5 (And.intro h7 (And.intro h11 h13)))))))
     ·rw [if_neg (ne_true h11)] at hM
      refine spQA (And.intro ha10 h11) ?_
      have nh11 := nzQ h11
      try have hr22 := mpQ nh11
      subst hM
      exact retC_view (lfQA (And.intro ha10 (And.intro h1 (And.intro h3 (And.intro h5 (And.intro h7 h11))))))
   ·rw [if_neg (ne_true h5)] at hM
    refine spQA h5 ?_
    have nh5 := nzQ h5
    try have hr23 := mpQ nh5
    have hM0 := hM; clear hM; obtain ⟨f24, d24, hf24, hd24, hM⟩ := iter_opn hM0; clear hM0
    refine ct_loop (fun n S => ∃ p : Int × Int, S = (⟨[(0, .str s), (4, .int .i64 p.1), (5, .int .i64 p.2)], [], 0⟩ : St) ∧ ((0 ≤ p.2) ∧ (p.2 ≤ (s.length : Int))) ∧ ((s.length : Int) - p.2).toNat < n ∧ iter n f24 d24 p = r) (((s.length : Int) - 0).toNat + 1) _ sbQ sbQ ⟨(0, 0), rfl, ⟨by (first | exact omQ | (clear hM; first | (have h9 := s_ne (by assumption); exact omQ'))), by (first | exact omQ | (clear hM; first | (have h9 := s_ne (by assumption); exact omQ')))⟩, (Nat.lt_succ_self _), hM⟩ ?_
    clear hM
    rintro n24 S ⟨p24, rfl, hfa24, hm24, hM⟩
    have hM0 := hM; clear hM; obtain ⟨ag24, hag24, hM⟩ := iter_step hM0 (by omega) hf24; clear hM0
    replace hfa24 := nzQ hfa24
    replace hm24 := nzQ hm24
    have ha24 : addI .i64 p24.2 1 = p24.2 + 1 := add_one (by (first | exact omQ | (clear hM; first | (have h9 := s_ne (by assumption); exact omQ')))) (by (first | exact omQ | (clear hM; first | (have h9 := s_ne (by assumption); exact omQ'))))
    refine spQA ha24 ?_
    refine condC_intro (fun h25 => ?_) (fun h25 => ?_)
    ·rw [if_pos h25] at hM
     refine spQA (And.intro ha24 h25) ?_
     have nh25 := nzQ h25
     try have hr26 := mpQ nh25
     refine bindC_intro (by (first | exact omQ | (clear hM; first | (have h9 := s_ne (by assumption); exact omQ')))) ?_
     refine spQA ha24 ?_
     refine guardC_f (fun h27 => ?_) (fun h27 => ?_)
     ·rw [if_neg (ne_true h27)] at hM
      refine spQA (And.intro ha24 h27) ?_
      have nh27 := nzQ h27
      try have hr28 := mpQ nh27
      refine bindC_intro (by (first | exact omQ | (clear hM; first | (have h9 := s_ne (by assumption); exact omQ')))) ?_
      refine spQA ha24 ?_
      refine guardC_f (fun h29 => ?_) (fun h29 => ?_)
      ·rw [if_neg (ne_true h29)] at hM
       refine spQA (And.intro ha24 h29) ?_
       have nh29 := nzQ h29
       try have hr30 := mpQ nh29
       refine condC_intro (fun h31 => ?_) (fun h31 => ?_)
       ·rw [if_pos h31] at hM
        refine spQA (And.intro ha24 h31) ?_
        have nh31 := nzQ h31
        try have hr32 := mpQ nh31
        subst hM
        exact retC_view (lfQA (And.intro ha24 (And.intro h1 (And.intro h3 (And.intro h5 (And.intro h25 (And.intro h27 (And.intro h29 h31))))))))
       ·rw [if_neg (ne_true h31)] at hM
        refine spQA (And.intro ha24 h31) ?_
        have nh31 := nzQ h31
        try have hr33 := mpQ nh31
        refine bindC_intro (by (first | exact omQ | (clear hM; first | (have h9 := s_ne (by assumption); exact omQ')))) ?_
        refine spQA ha24 ?_
        refine lp_intro (n24 - 1) _ (by omega) sbQ sbQ ⟨((addI .i64 (mulI .i64 10 p24.1) (convI .i64 (subI .u8 ((s.getD (p24.2).toNat 0).toNat : Int) 48))), (p24.2 + 1)), rfl, ⟨by (first | exact omQ | (clear hM; first | (have h9 := s_ne (by assumption); exact omQ'))), by (first | exact omQ | (clear hM; first | (have h9 := s_ne (by assumption); exact omQ')))⟩, by (first | exact omQ | (clear hM; first | (have h9 := s_ne (by assumption); exact omQ'))), iter_again hM hag24⟩
      ·rw [if_pos h29] at hM
       refine spQA (And.intro ha24 h29) ?_
       have nh29 := nzQ h29
       try have hr34 := mpQ nh29
       subst hM
       exact retC_view (lfQA (And.intro ha24 (And.intro h1 (And.intro h3 (And.intro h5 (And.intro h25 (And.intro h27 h29)))))))
     ·rw [if_pos h27] at hM
      refine spQA (And.intro ha24 h27) ?_
      have nh27 := nzQ h27
      try have hr35 := mpQ nh27
      subst hM
      exact retC_view (lfQA (And.intro ha24 (And.intro h1 (And.intro h3 (And.intro h5 (And.intro h25 h27))))))
    ·rw [if_neg (ne_true h25)] at hM
     refine spQA (And.intro ha24 h25) ?_
     have nh25 := nzQ h25
     try have hr36 := mpQ nh25
     subst hM
     exact retC_view (lfQA (And.intro ha24 (And.intro h1 (And.intro h3 (And.intro h5 h25)))))
  ·rw [if_pos h3] at hM
   refine spQA h3 ?_
   have nh3 := nzQ h3
   try have hr37 := mpQ nh3
   subst hM
   exact retC_view (lfQA (And.intro h1 h3))
 ·rw [if_pos h1] at hM
  refine spQA h1 ?_
  have nh1 := nzQ h1
  try have hr38 := mpQ nh1
  subst hM
  exact retC_view (lfQA h1)
set_option maxHeartbeats 2000000 in
set_option maxRecDepth 100000 in
instance specieref11_Parse_ok   (s : (List UInt8))  : CM En (specieref11_Parse s) 9 [.str s] (fun y => .tup [(e_api_Bases y.1), .int .i64 y.2]) (fun _ => []) := by
 refine cmQ fun r hM => ?_
 rw [specieref11_Parse.eq_1] at hM
 refine enterV En_ok En_mo noJ Tryz.func9 rfl Tryz.ntmps9 (by kernel_rfl) fun hw => ct_start ?_
 refine spQ ?_
 replace hw := nzQ hw
 refine condC_intro (fun h1 => ?_) (fun h1 => ?_)
 ·rw [if_pos h1] at hM
  refine spQA h1 ?_
  have nh1 := nzQ h1
  try have hr2 := mpQ nh1
  subst hM
  exact retC_view (lfQA h1)
 ·rw [if_neg (ne_true h1)] at hM
  refine spQA h1 ?_
  have nh1 := nzQ h1
  try have hr3 := mpQ nh1
  have hM0 := hM; clear hM; obtain ⟨f4, d4, hf4, hd4, hM⟩ := iter_opn hM0; clear hM0
  refine ct_loopW (fun n S => ∃ p : List UInt8 × Int × S_api_Bases × List Int, S = (⟨[(0, .str s), (2, .ptr 0 0), (4, .own 1), (5, .str p.1), (6, .int .i64 p.2.1)], [(0, .var 6 true ((e_api_Bases p.2.2.1))), (1, .own 3 1 false none (p.2.2.2.map (V.int .i64)))], 2⟩ : St) ∧ ((0 ≤ p.2.1) ∧ (p.2.1 ≤ (s.length : Int) + 1) ∧ (((p.1).length : Int) ≤ p.2.1) ∧ (((p.2.2.2).length : Int) ≤ p.2.1)) ∧ ((s.length : Int) + 1 - p.2.1).toNat < n ∧ iter n f4 d4 p = r) (((s.length : Int) + 1 - 0).toNat + 1) _ _ (weak_nil 4 3 rfl (by decide)) sbQ (by simp only [go_sem, rowV_eq, rowV_eq0, List.length_replicate, rep_len, Int.toNat_natCast, ↓reduceIte, Nat.reduceEqDiff, Nat.reduceAdd, Int.reduceAdd, Nat.reduceMul, Nat.reduceLeDiff, Nat.reduceLT, Int.reduceLE, Int.reduceLT, Int.reduceNeg, Int.reduceToNat, map_st, mtL_repE, mtL_repM, subF, subH, mtO, mtB, mt, mtL, mtL_self, mt_self, ltV, ltL, ltB, eq_self, or_true, true_or, or_self, and_self, gt_cons0, gt_conss, Int.reduceSub]) ⟨([], 0, z_api_Bases, ([] : List Int)), rfl, ⟨by (first | exact omQ | (clear hM; first | (rw [LEN_eq]; (try simp only [List.length_append, List.length_cons, List.length_nil, List.length_map, List.length_take]); exact omQ') | (simp only [List.length_append, List.length_take, List.length_drop, List.length_cons, List.length_nil]; exact omQ'))), by (first | exact omQ | (clear hM; first | (rw [LEN_eq]; (try simp only [List.length_append, List.length_cons, List.length_nil, List.length_map, List.length_take]); exact omQ') | (simp only [List.length_append, List.length_take, List.length_drop, List.length_cons, List.length_nil]; exact omQ'))), by (first | exact omQ | (clear hM; first | (rw [LEN_eq]; (try simp only [List.length_append, List.length_cons, List.length_nil, List.length_map, List.length_take]); exact omQ') | (simp only [List.length_append, List.length_take, List.length_drop, List.length_cons, List.length_nil]; exact omQ'))), by (first | exact omQ | (clear hM; first | (rw [LEN_eq]; (try simp only [List.length_append, List.length_cons, List.length_nil, List.length_map, List.length_take]); exact omQ') | (simp only [List.length_append, List.length_take, List.length_drop, List.length_cons, List.length_nil]; exact omQ')))⟩, (Nat.lt_succ_self _), hM⟩ ?_
  clear hM
  rintro n4 S ⟨p4, rfl, hfa4, hm4, hM⟩
  have hM0 := hM; clear hM; obtain ⟨ag4, hag4, hM⟩ := iter_step hM0 (by omega) hf4; clear hM0
  replace hfa4 := nzQ hfa4
  replace hm4 := nzQ hm4
  refine spQ ?_
  refine condC_intro (fun h5 => ?_) (fun h5 => ?_)
  ·rw [if_pos h5] at hM
   refine spQA h5 ?_
   have nh5 := nzQ h5
   try have hr6 := mpQ nh5
   refine guardC_t (fun h7 => ?_) (fun h7 => ?_)
   ·rw [if_pos h7] at hM
    refine spQA h7 ?_
    have nh7 := nzQ h7
    try have hr8 := mpQ nh7
    refine bindC_intro (by (first | exact omQ | (clear hM; first | (rw [LEN_eq]; (try simp only [List.length_append, List.length_cons, List.length_nil, List.length_map, List.length_take]); exact omQ') | (simp only [List.length_append, List.length_take, List.length_drop, List.length_cons, List.length_nil]; exact omQ')))) ?_
    refine spQ ?_
    refine condC_intro (fun h9 => ?_) (fun h9 => ?_)
    ·rw [if_pos h9] at hM
     refine spQA h9 ?_
     have nh9 := nzQ h9
     try have hr10 := mpQ nh9
     have ha11 : addI .i64 p4.2.1 1 = (p4.2.1 + 1) := add_ok (by (first | exact omQ | (clear hM; first | (rw [LEN_eq]; (try simp only [List.length_append, List.length_cons, List.length_nil, List.length_map, List.length_take]); exact omQ') | (simp only [List.length_append, List.length_take, List.length_drop, List.length_cons, List.length_nil]; exact omQ')))) (by (first | exact omQ | (clear hM; first | (rw [LEN_eq]; (try simp only [List.length_append, List.length_cons, List.length_nil, List.length_map, List.length_take]); exact omQ') | (simp only [List.length_append, List.length_take, List.length_drop, List.length_cons, List.length_nil]; exact omQ'))))
     try simp only [ha11]
     refine bindC_intro (by (first | exact omQ | (clear hM; first | (rw [LEN_eq]; (try simp only [List.length_append, List.length_cons, List.length_nil, List.length_map, List.length_take]); exact omQ') | (simp only [List.length_append, List.length_take, List.length_drop, List.length_cons, List.length_nil]; exact omQ')))) ?_
     refine spQA ha11 ?_
     refine bindC_intro (by (first | exact omQ | (clear hM; first | (rw [LEN_eq]; (try simp only [List.length_append, List.length_cons, List.length_nil, List.length_map, List.length_take]); exact omQ') | (simp only [List.length_append, List.length_take, List.length_drop, List.length_cons, List.length_nil]; exact omQ')))) ?_
     refine spQA ha11 ?_
     refine lp_intro (n4 - 1) _ (by omega) sbQ sbQ ⟨((p4.1 ++ ((s.drop (p4.2.1).toNat).take ((p4.2.1 + 1).toNat - (p4.2.1).toNat))), (p4.2.1 + 1), p4.2.2.1, p4.2.2.2), rfl, ⟨by (first | exact omQ | (clear hM; first | (rw [LEN_eq]; (try simp only [List.length_append, List.length_cons, List.length_nil, List.length_map, List.length_take]); exact omQ') | (simp only [List.length_append, List.length_take, List.length_drop, List.length_cons, List.length_nil]; exact omQ'))), by (first | exact omQ | (clear hM; first | (rw [LEN_eq]; (try simp only [List.length_append, List.length_cons, List.length_nil, List.length_map, List.length_take]); exact omQ') | (simp only [List.length_append, List.length_take, List.length_drop, List.length_cons, List.length_nil]; exact omQ'))), by (first | exact omQ | (clear hM; first | (rw [LEN_eq]; (try simp only [List.length_append, List.length_cons, List.length_nil, List.length_map, List.length_take]); exact omQ') | (simp only [List.length_append, List.length_take, List.length_drop, List.length_cons, List.length_nil]; exact omQ'))), by (first | exact omQ | (clear hM; first | (rw [LEN_eq]; (try simp only [List.length_append, List.length_cons, List.length_nil, List.length_map, List.length_take]); exact omQ') | (simp only [List.length_append, List.length_take, List.length_drop, List.length_cons, List.length_nil]; exact omQ')))⟩, by (first | exact omQ | (clear hM; first | (rw [LEN_eq]; (try simp only [List.length_append, List.length_cons, List.length_nil, List.length_map, List.length_take]); exact omQ') | (simp only [List.length_append, List.length_take, List.length_drop, List.length_cons, List.length_nil]; exact omQ'))), iter_again hM hag4⟩
    ·rw [if_neg (ne_true h9)] at hM
     refine spQA h9 ?_
     have nh9 := nzQ h9
     try have hr13 := mpQ nh9
     have hM0 := hM; clear hM; obtain ⟨x14, hx15, hM⟩ := letk_opn hM0; clear hM0
     have hcx14 := cmU hx15
     refine callC_give hcx14 clQ clQ (fun hw16 => ?_)
     replace hw16 := nzQ hw16
     refine spQ ?_
     refine condC_intro (fun h17 => ?_) (fun h17 => ?_)
     ·rw [if_pos h17] at hM
      refine spQA h17 ?_
      have nh17 := nzQ h17
      try have hr18 := mpQ nh17
      subst hM
      exact retC_view (lfQA (And.intro h1 (And.intro h5 (And.intro h7 (And.intro h9 h17)))))
     ·rw [if_neg (ne_true h17)] at hM
      refine spQA h17 ?_
      have nh17 := nzQ h17
      try have hr19 := mpQ nh17
      refine bindC_intro (by (first | exact omQ | (clear hM; first | (rw [LEN_eq]; (try simp only [List.length_append, List.length_cons, List.length_nil, List.length_map, List.length_take]); exact omQ') | (simp only [List.length_append, List.length_take, List.length_drop, List.length_cons, List.length_nil]; exact omQ')))) ?_
      refine spQ ?_
      have ha20 : addI .i64 p4.2.1 1 = (p4.2.1 + 1) := add_ok (by (first | exact omQ | (clear hM; first | (rw [LEN_eq]; (try simp only [List.length_append, List.length_cons, List.length_nil, List.length_map, List.length_take]); exact omQ') | (simp only [List.length_append, List.length_take, List.length_drop, List.length_cons, List.length_nil]; exact omQ')))) (by (first | exact omQ | (clear hM; first | (rw [LEN_eq]; (try simp only [List.length_append, List.length_cons, List.length_nil, List.length_map, List.length_take]); exact omQ') | (simp only [List.length_append, List.length_take, List.length_drop, List.length_cons, List.length_nil]; exact omQ'))))
      try simp only [ha20]
      refine lp_intro (n4 - 1) _ (by omega) sbQ sbQ ⟨([], (p4.2.1 + 1), p4.2.2.1, (p4.2.2.2 ++ ([x14.1] : List Int))), rfl, ⟨by (first | exact omQ | (clear hM; first | (rw [LEN_eq]; (try simp only [List.length_append, List.length_cons, List.length_nil, List.length_map, List.length_take]); exact omQ') | (simp only [List.length_append, List.length_take, List.length_drop, List.length_cons, List.length_nil]; exact omQ'))), by (first | exact omQ | (clear hM; first | (rw [LEN_eq]; (try simp only [List.length_append, List.length_cons, List.length_nil, List.length_map, List.length_take]); exact omQ') | (simp only [List.length_append, List.length_take, List.length_drop, List.length_cons, List.length_nil]; exact omQ'))), by (first | exact omQ | (clear hM; first | (rw [LEN_eq]; (try simp only [List.length_append, List.length_cons, List.length_nil, List.length_map, List.length_take]); exact omQ') | (simp only [List.length_append, List.length_take, List.length_drop, List.length_cons, List.length_nil]; exact omQ'))), by (first | exact omQ | (clear hM; first | (rw [LEN_eq]; (try simp only [List.length_append, List.length_cons, List.length_nil, List.length_map, List.length_take]); exact omQ') | (simp only [List.length_append, List.length_take, List.length_drop, List.length_cons, List.length_nil]; exact omQ')))⟩, by (first | exact omQ | (clear hM; first | (rw [LEN_eq]; (try simp only [List.length_append, List.length_cons, List.length_nil, List.length_map, List.length_take]); exact omQ') | (simp only [List.length_append, List.length_take, List.length_drop, List.length_cons, List.length_nil]; exact omQ'))), iter_again hM hag4⟩
   ·rw [if_neg (ne_true h7)] at hM
    refine spQA h7 ?_
    have nh7 := nzQ h7
    try have hr21 := mpQ nh7
    have hM0 := hM; clear hM; obtain ⟨x22, hx23, hM⟩ := letk_opn hM0; clear hM0
    have hcx22 := cmU hx23
    refine callC_give hcx22 clQ clQ (fun hw24 => ?_)
    replace hw24 := nzQ hw24
    refine spQ ?_
    refine condC_intro (fun h25 => ?_) (fun h25 => ?_)
    ·rw [if_pos h25] at hM
     refine spQA h25 ?_
     have nh25 := nzQ h25
     try have hr26 := mpQ nh25
     subst hM
     exact retC_view (lfQA (And.intro h1 (And.intro h5 (And.intro h7 h25))))
    ·rw [if_neg (ne_true h25)] at hM
     refine spQA h25 ?_
     have nh25 := nzQ h25
     try have hr27 := mpQ nh25
     refine bindC_intro (by (first | exact omQ | (clear hM; first | (rw [LEN_eq]; (try simp only [List.length_append, List.length_cons, List.length_nil, List.length_map, List.length_take]); exact omQ') | (simp only [List.length_append, List.length_take, List.length_drop, List.length_cons, List.length_nil]; exact omQ')))) ?_
     refine spQ ?_
     have ha28 : addI .i64 p4.2.1 1 = (p4.2.1 + 1) := add_ok (by (first | exact omQ | (clear hM; first | (rw [LEN_eq]; (try simp only [List.length_append, List.length_cons, List.length_nil, List.length_map, List.length_take]); exact omQ') | (simp only [List.length_append, List.length_take, List.length_drop, List.length_cons, List.length_nil]; exact omQ')))) (by (first | exact omQ | (clear hM; first | (rw [LEN_eq]; (try simp only [List.length_append, List.length_cons, List.length_nil, List.length_map, List.length_take]); exact omQ') | (simp only [List.length_append, List.length_take, List.length_drop, List.length_cons, List.length_nil]; exact omQ'))))
     try simp only [ha28]
     refine lp_intro (n4 - 1) _ (by omega) sbQ sbQ ⟨([], (p4.2.1 + 1), p4.2.2.1, (p4.2.2.2 ++ ([x22.1] : List Int))), rfl, ⟨by (first | exact omQ | (clear hM; first | (rw [LEN_eq]; (try simp only [List.length_append, List.length_cons, List.length_nil, List.length_map, List.length_take]); exact omQ') | (simp only [List.length_append, List.length_take, List.length_drop, List.length_cons, List.length_nil]; exact omQ'))), by (first | exact omQ | (clear hM; first | (rw [LEN_eq]; (try simp only [List.length_append, List.length_cons, List.length_nil, List.length_map, List.length_take]); exact omQ') | (simp only [List.length_append, List.length_take, List.length_drop, List.length_cons, List.length_nil]; exact omQ'))), by (first | exact omQ | (clear hM; first | (rw [LEN_eq]; (try simp only [List.length_append, List.length_cons, List.length_nil, List.length_map, List.length_take]); exact omQ') | (simp only [List.length_append, List.length_take, List.length_drop, List.length_cons, List.length_nil]; exact omQ'))), by (first | exact omQ | (clear hM; first | (rw [LEN_eq]; (try simp only [List.length_append, List.length_cons, List.length_nil, List.length_map, List.length_take]); exact omQ') | (simp only [List.length_append, List.length_take, List.length_drop, List.length_cons, List.length_nil]; exact omQ')))⟩, by (first | exact omQ | (clear hM; first | (rw [LEN_eq]; (try simp only [List.length_append, List.length_cons, List.length_nil, List.length_map, List.length_take]); exact omQ') | (simp only [List.length_append, List.length_take, List.length_drop, List.length_cons, List.length_nil]; exact omQ'))), iter_again hM hag4⟩
  ·rw [if_neg (ne_true h5)] at hM
   refine spQA h5 ?_
   have nh5 := nzQ h5
   try have hr29 := mpQ nh5
   refine condC_intro (fun h30 => ?_) (fun h30 => ?_)
   ·rw [if_pos h30] at hM
    refine spQA h30 ?_
    have nh30 := nzQ h30
    try have hr31 := mpQ nh30
    subst hM
    exact retC_view (lfQA (And.intro h1 (And.intro h5 h30)))
   ·rw [if_neg (ne_true h30)] at hM
    refine spQA h30 ?_
    have nh30 := nzQ h30
    try have hr32 := mpQ nh30
    refine ct_draw 78 21 [9, 53, 54, 55, 56, 57, 58, 59, 60, 61, 62, 63, 64, 65, 66, 67, 68, 69, 70, 71, 72] [] ([[], [0], [0, 1], [], [3], [3, 4], [], [6], [6, 7], [0, 1, 2, 3, 4, 5, 6, 7, 8], [], [10], [10, 11], [], [13], [13, 14], [], [16], [16, 17], [0, 1, 2, 3, 4, 5, 6, 7, 8, 9, 10, 11, 12, 13, 14, 15, 16, 17, 18], []] ++ [List.range 21]) [] (by kernel_rfl) (by exact alQ) ?_
    refine spQ ?_
    refine hbindC_intro (by (first | exact omQ | (clear hM; first | (rw [LEN_eq]; (try simp only [List.length_append, List.length_cons, List.length_nil, List.length_map, List.length_take]); exact omQ') | (simp only [List.length_append, List.length_take, List.length_drop, List.length_cons, List.length_nil]; exact omQ')))) ?_
    have he33 : ∀ d, elt (p4.2.2.2.map (V.int .i64)) 0 d = (V.int .i64) (gt p4.2.2.2 0) := fun d => elt_mp (l := p4.2.2.2) (f := (V.int .i64)) (i := 0) (by (first | exact omQ | (clear hM; first | (rw [LEN_eq]; (try simp only [List.length_append, List.length_cons, List.length_nil, List.length_map, List.length_take]); exact omQ') | (simp only [List.length_append, List.length_take, List.length_drop, List.length_cons, List.length_nil]; exact omQ')))) d
    refine spQA he33 ?_
    refine hbindC_intro (by (first | exact omQ | (clear hM; first | (rw [LEN_eq]; (try simp only [List.length_append, List.length_cons, List.length_nil, List.length_map, List.length_take]); exact omQ') | (simp only [List.length_append, List.length_take, List.length_drop, List.length_cons, List.length_nil]; exact omQ')))) ?_
    refine spQA he33 ?_
    refine hbindC_intro (by (first | exact omQ | (clear hM; first | (rw [LEN_eq]; (try simp only [List.length_append, List.length_cons, List.length_nil, List.length_map, List.length_take]); exact omQ') | (simp only [List.length_append, List.length_take, List.length_drop, List.length_cons, List.length_nil]; exact omQ')))) ?_
    have he34 : ∀ d, elt (p4.2.2.2.map (V.int .i64)) 1 d = (V.int .i64) (gt p4.2.2.2 1) := fun d => elt_mp (l := p4.2.2.2) (f := (V.int .i64)) (i := 1) (by (first | exact omQ | (clear hM; first | (rw [LEN_eq]; (try simp only [List.length_append, List.length_cons, List.length_nil, List.length_map, List.length_take]); exact omQ') | (simp only [List.length_append, List.length_take, List.length_drop, List.length_cons, List.length_nil]; exact omQ')))) d
    refine spQA (And.intro he33 he34) ?_
    refine hbindC_intro (by (first | exact omQ | (clear hM; first | (rw [LEN_eq]; (try simp only [List.length_append, List.length_cons, List.length_nil, List.length_map, List.length_take]); exact omQ') | (simp only [List.length_append, List.length_take, List.length_drop, List.length_cons, List.length_nil]; exact omQ')))) ?_
    refine spQA (And.intro he33 he34) ?_
    refine hbindC_intro (by (first | exact omQ | (clear hM; first | (rw [LEN_eq]; (try simp only [List.length_append, List.length_cons, List.length_nil, List.length_map, List.length_take]); exact omQ') | (simp only [List.length_append, List.length_take, List.length_drop, List.length_cons, List.length_nil]; exact omQ')))) ?_
    have he35 : ∀ d, elt (p4.2.2.2.map (V.int .i64)) 2 d = (V.int .i64) (gt p4.2.2.2 2) := fun d => elt_mp (l := p4.2.2.2) (f := (V.int .i64)) (i := 2) (by (first | exact omQ | (clear hM; first | (rw [LEN_eq]; (try simp only [List.length_append, List.length_cons, List.length_nil, List.length_map, List.length_take]); exact omQ') | (simp only [List.length_append, List.length_take, List.length_drop, List.length_cons, List.length_nil]; exact omQ')))) d
    refine spQA (And.intro he33 (And.intro he34 he35)) ?_
    refine hbindC_intro (by (first | exact omQ | (clear hM; first | (rw [LEN_eq]; (try simp only [List.length_append, List.length_cons, List.length_nil, List.length_map, List.length_take]); exact omQ') | (simp only [List.length_append, List.length_take, List.length_drop, List.length_cons, List.length_nil]; exact omQ')))) ?_
    refine spQA (And.intro he33 (And.intro he34 he35)) ?_
    refine hbindC_intro (by (first | exact omQ | (clear hM; first | (rw [LEN_eq]; (try simp only [List.length_append, List.length_cons, List.length_nil, List.length_map, List.length_take]); exact omQ') | (simp only [List.length_append, List.length_take, List.length_drop, List.length_cons, List.length_nil]; exact omQ')))) ?_
    have he36 : ∀ d, elt (p4.2.2.2.map (V.int .i64)) 3 d = (V.int .i64) (gt p4.2.2.2 3) := fun d => elt_mp (l := p4.2.2.2) (f := (V.int .i64)) (i := 3) (by (first | exact omQ | (clear hM; first | (rw [LEN_eq]; (try simp only [List.length_append, List.length_cons, List.length_nil, List.length_map, List.length_take]); exact omQ') | (simp only [List.length_append, List.length_take, List.length_drop, List.length_cons, List.length_nil]; exact omQ')))) d
    refine spQA (And.intro he33 (And.intro he34 (And.intro he35 he36))) ?_
    refine hbindC_intro (by (first | exact omQ | (clear hM; first | (rw [LEN_eq]; (try simp only [List.length_append, List.length_cons, List.length_nil, List.length_map, List.length_take]); exact omQ') | (simp only [List.length_append, List.length_take, List.length_drop, List.length_cons, List.length_nil]; exact omQ')))) ?_
    refine spQA (And.intro he33 (And.intro he34 (And.intro he35 he36))) ?_
    refine hbindC_intro (by (first | exact omQ | (clear hM; first | (rw [LEN_eq]; (try simp only [List.length_append, List.length_cons, List.length_nil, List.length_map, List.length_take]); exact omQ') | (simp only [List.length_append, List.length_take, List.length_drop, List.length_cons, List.length_nil]; exact omQ')))) ?_
    have he37 : ∀ d, elt (p4.2.2.2.map (V.int .i64)) 4 d = (V.int .i64) (gt p4.2.2.2 4) := fun d => elt_mp (l := p4.2.2.2) (f := (V.int .i64)) (i := 4) (by (first | exact omQ | (clear hM; first | (rw [LEN_eq]; (try simp only [List.length_append, List.length_cons, List.length_nil, List.length_map, List.length_take]); exact omQ') | (simp only [List.length_append, List.length_take, List.length_drop, List.length_cons, List.length_nil]; exact omQ')))) d
    refine spQA (And.intro he33 (And.intro he34 (And.intro he35 (And.intro he36 he37)))) ?_
    refine hbindC_intro (by (first | exact omQ | (clear hM; first | (rw [LEN_eq]; (try simp only [List.length_append, List.length_cons, List.length_nil, List.length_map, List.length_take]); exact omQ') | (simp only [List.length_append, List.length_take, List.length_drop, List.length_cons, List.length_nil]; exact omQ')))) ?_
    refine spQA (And.intro he33 (And.intro he34 (And.intro he35 (And.intro he36 he37)))) ?_
    refine hbindC_intro (by (first | exact omQ | (clear hM; first | (rw [LEN_eq]; (try simp only [List.length_append, List.length_cons, List.length_nil, List.length_map, List.length_take]); exact omQ') | (simp only [List.length_append, List.length_take, List.length_drop, List.length_cons, List.length_nil]; exact omQ')))) ?_
    have he38 : ∀ d, elt (p4.2.2.2.map (V.int .i64)) 5 d = (V.int .i64) (gt p4.2.2.2 5) := fun d => elt_mp (l := p4.2.2.2) (f := (V.int .i64)) (i := 5) (by (first | exact omQ | (clear hM; first | (rw [LEN_eq]; (try simp only [List.length_append, List.length_cons, List.length_nil, List.length_map, List.length_take]); exact omQ') | (simp only [List.length_append, List.length_take, List.length_drop, List.length_cons, List.length_nil]; exact omQ')))) d
    refine spQA (And.intro he33 (And.intro he34 (And.intro he35 (And.intro he36 (And.intro he37 he38))))) ?_
    refine hbindC_intro (by (first | exact omQ | (clear hM; first | (rw [LEN_eq]; (try simp only [List.length_append, List.length_cons, List.length_nil, List.length_map, List.length_take]); exact omQ') | (simp only [List.length_append, List.length_take, List.length_drop, List.length_cons, List.length_nil]; exact omQ')))) ?_
    refine spQA (And.intro he33 (And.intro he34 (And.intro he35 (And.intro he36 (And.intro he37 he38))))) ?_
    have hF := (And.intro h1 (And.intro h5 (And.intro h30 (And.intro he33 (And.intro he34 (And.intro he35 (And.intro he36 (And.intro he37 he38))))))))
    exact auQ
set_option maxHeartbeats 2000000 in
set_option maxRecDepth 100000 in
instance specielaw11_BaseForms_ok   (b : S_api_Bases) (s : (List UInt8))  : CM En (specielaw11_BaseForms b s) 3 [.agg [.int .i64 b.Group.P, .int .i64 b.Group.Q, .int .i64 b.Group.G, .int .i64 b.G1, .int .i64 b.G2, .int .i64 b.H], .str s] (fun y => .bool y) (fun _ => []) := by
 refine cmQ fun r hM => ?_
 rw [specielaw11_BaseForms.eq_1] at hM
 refine enterV En_ok En_mo noJ Tryz.func3 rfl Tryz.ntmps3 (by kernel_rfl) fun hw => ct_start ?_
 refine spQ ?_
 replace hw := nzQ hw
 have hM0 := hM; clear hM; obtain ⟨x1, hx2, hM⟩ := letk_opn hM0; clear hM0
 have hcx1 := cmU hx2
 refine callC_give hcx1 clQ clQ (fun hw3 => ?_)
 replace hw3 := nzQ hw3
 refine spQ ?_
 refine guardC_f (fun h4 => ?_) (fun h4 => ?_)
 ·rw [if_neg (ne_true h4)] at hM
  refine spQA h4 ?_
  have nh4 := nzQ h4
  try have hr5 := mpQ nh4
  refine condC_intro (fun h6 => ?_) (fun h6 => ?_)
  ·rw [if_pos h6] at hM
   refine spQA h6 ?_
   have nh6 := nzQ h6
   try have hr7 := mpQ nh6
   have hF := (And.intro h4 h6)
   exact auQ
  ·rw [if_neg (ne_true h6)] at hM
   refine spQA h6 ?_
   have nh6 := nzQ h6
   try have hr11 := mpQ nh6
   have hM0 := hM; clear hM; obtain ⟨x12, hx13, hM⟩ := letk_opn hM0; clear hM0
   have hcx12 := cmU hx13
   refine callC_give hcx12 clQ clQ (fun hw14 => ?_)
   replace hw14 := nzQ hw14
   refine spQ ?_
   have hM0 := hM; clear hM; obtain ⟨x15, hx16, hM⟩ := letk_opn hM0; clear hM0
   have hcx15 := cmU hx16
   refine callC_give hcx15 clQ clQ (fun hw17 => ?_)
   replace hw17 := nzQ hw17
   refine spQ ?_
   have hM0 := hM; clear hM; obtain ⟨x18, hx19, hM⟩ := letk_opn hM0; clear hM0
   have hcx18 := cmU hx19
   refine callC_give hcx18 clQ clQ (fun hw20 => ?_)
   replace hw20 := nzQ hw20
   refine spQ ?_
   have hM0 := hM; clear hM; obtain ⟨x21, hx22, hM⟩ := letk_opn hM0; clear hM0
   have hcx21 := cmU hx22
   refine callC_give hcx21 clQ clQ (fun hw23 => ?_)
   replace hw23 := nzQ hw23
   refine spQ ?_
   have hM0 := hM; clear hM; obtain ⟨x24, hx25, hM⟩ := letk_opn hM0; clear hM0
   have hcx24 := cmU hx25
   refine callC_give hcx24 clQ clQ (fun hw26 => ?_)
   replace hw26 := nzQ hw26
   refine spQ ?_
   refine guardC_f (fun h27 => ?_) (fun h27 => ?_)
   ·have kh27 : (!(q_api_Bases (x21.1) (x24.1))) = false := h27
    rw [if_neg (ne_true kh27)] at hM
    refine spQA h27 ?_
    have nh27 := nzQ kh27
    try have hr28 := mpQ nh27
    refine condC_intro (fun h29 => ?_) (fun h29 => ?_)
    ·rw [if_pos h29] at hM
     refine spQA h29 ?_
     have nh29 := nzQ h29
     try have hr30 := mpQ nh29
     subst hM
     exact retC_view (lfQA (And.intro h4 (And.intro h6 (And.intro h27 h29))))
    ·rw [if_neg (ne_true h29)] at hM
     refine spQA h29 ?_
     have nh29 := nzQ h29
     try have hr31 := mpQ nh29
     have hM0 := hM; clear hM; obtain ⟨x32, hx33, hM⟩ := letk_opn hM0; clear hM0
     have hcx32 := cmU hx33
     refine callC_give hcx32 clQ clQ (fun hw34 => ?_)
     replace hw34 := nzQ hw34
     refine spQ ?_
     have hq35 := nzQ (cfU hx33)
     refine condC_intro (fun h36 => ?_) (fun h36 => ?_)
     ·rw [if_pos h36] at hM
      refine spQA h36 ?_
      have nh36 := nzQ h36
      try have hr37 := mpQ nh36
      have hM0 := hM; clear hM; obtain ⟨x38, hx39, hM⟩ := letk_opn hM0; clear hM0
      have hcx38 := sameM_ok  (x12.1) z_api_Item 
      rw [← hx39] at hcx38
      refine callC_give hcx38 clQ clQ (fun hw40 => ?_)
      replace hw40 := nzQ hw40
      refine spQ ?_
      have hF := (And.intro h4 (And.intro h6 (And.intro kh27 (And.intro h29 h36))))
      exact auQ
     ·rw [if_neg (ne_true h36)] at hM
      refine spQA h36 ?_
      have nh36 := nzQ h36
      try have hr54 := mpQ nh36
      refine ct_draw 111 22 [83, 84, 85, 86, 87, 88, 89, 90, 91, 92, 93, 94, 95, 96, 97, 98, 99, 100, 101, 102, 103, 104] [] ([[], [], [1], [0, 1, 2], [0, 1, 2, 3], [0, 1, 2, 3, 4], [0, 1, 2, 3, 4, 5], [0, 1, 2, 3, 4, 5, 6], [0, 1, 2, 3, 4, 5, 6, 7], [0, 1, 2, 3, 4, 5, 6, 7, 8], [0, 1, 2, 3, 4, 5, 6, 7, 8], [0, 1, 2, 3, 4, 5, 6, 7, 8, 10], [0, 1, 2, 3, 4, 5, 6, 7, 8, 9, 10, 11], [0, 1, 2, 3, 4, 5, 6, 7, 8, 9, 10, 11, 12], [0, 1, 2, 3, 4, 5, 6, 7, 8, 9, 10, 11, 12, 13], [0, 1, 2, 3, 4, 5, 6, 7, 8, 9, 10, 11, 12, 13, 14], [0, 1, 2, 3, 4, 5, 6, 7, 8, 9, 10, 11, 12, 13, 14, 15], [0, 1, 2, 3, 4, 5, 6, 7, 8, 9, 10, 11, 12, 13, 14, 15, 16], [0, 1, 2, 3, 4, 5, 6, 7, 8, 9, 10, 11, 12, 13, 14, 15, 16, 17], [0, 1, 2, 3, 4, 5, 6, 7, 8, 9, 10, 11, 12, 13, 14, 15, 16, 17, 18], [0, 1, 2, 3, 4, 5, 6, 7, 8, 9, 10, 11, 12, 13, 14, 15, 16, 17, 18], [0, 1, 2, 3, 4, 5, 6, 7, 8, 9, 10, 11, 12, 13, 14, 15, 16, 17, 18, 20]] ++ [List.range 22, List.range 23, List.range 24, List.range 25, List.range 26, List.range 27, List.range 28]) [] (by kernel_rfl) (by exact alQ) ?_
      refine spQ ?_
      have hM0 := hM; clear hM; obtain ⟨x55, hx56, hM⟩ := letk_opn hM0; clear hM0
      have hcx55 := cmU hx56
      refine hcallC_give hcx55 clQ clQ ?_
      refine spQ ?_
      have hM0 := hM; clear hM; obtain ⟨x57, hx58, hM⟩ := letk_opn hM0; clear hM0
      have hcx57 := sameM_ok  (x12.1) x55 
      rw [← hx58] at hcx57
      refine hcallC_give hcx57 clQ clQ ?_
      refine spQ ?_
      refine hguardC_t (fun h59 => ?_) (fun h59 => ?_)
      ·subst h59
       rw [if_pos rfl] at hM
       refine spQ ?_
       refine hguardC_t (fun h60 => ?_) (fun h60 => ?_)
       ·rw [if_pos h60] at hM
        refine spQA h60 ?_
        have nh60 := nzQ h60
        try have hr61 := mpQ nh60
        have hM0 := hM; clear hM; obtain ⟨x62, hx63, hM⟩ := letk_opn hM0; clear hM0
        have hcx62 := cmU hx63
        refine hcallC_give hcx62 clQ clQ ?_
        refine spQ ?_
        refine hguardC_t (fun h64 => ?_) (fun h64 => ?_)
        ·have kh64 : (q_arr35 (x15.1) x62) = true := h64
         rw [if_pos kh64] at hM
         refine spQA h64 ?_
         have nh64 := nzQ kh64
         try have hr65 := mpQ nh64
         refine hguardC_t (fun h66 => ?_) (fun h66 => ?_)
         ·rw [if_pos h66] at hM
          refine spQA h66 ?_
          have nh66 := nzQ h66
          try have hr67 := mpQ nh66
          have hM0 := hM; clear hM; obtain ⟨x68, hx69, hM⟩ := letk_opn hM0; clear hM0
          have hcx68 := cmH hx69 (specieref11_Text_ok  ({ Group := b.Group, G1 := b.G1, G2 := b.G2, H := b.H } : S_api_Bases) (by (exact nums_nn (by omega) (by omega) (by omega) (by omega) (by omega) (by omega))))
          refine hcallC_give hcx68 clQ clQ ?_
          refine spQ ?_
          have hF := (And.intro h4 (And.intro h6 (And.intro kh27 (And.intro h29 (And.intro h36 (And.intro h60 (And.intro kh64 h66)))))))
          exact auQ
         ·rw [if_neg (ne_true h66)] at hM
          refine spQA h66 ?_
          have nh66 := nzQ h66
          try have hr73 := mpQ nh66
          subst hM
          exact retC_view (lfQA (And.intro h4 (And.intro h6 (And.intro h27 (And.intro h29 (And.intro h36 (And.intro h60 (And.intro h64 h66))))))))
        ·have kh64 : (q_arr35 (x15.1) x62) = false := h64
         rw [if_neg (ne_true kh64)] at hM
         refine spQA h64 ?_
         have nh64 := nzQ kh64
         try have hr74 := mpQ nh64
         subst hM
         exact retC_view (lfQA (And.intro h4 (And.intro h6 (And.intro h27 (And.intro h29 (And.intro h36 (And.intro h60 h64)))))))
       ·rw [if_neg (ne_true h60)] at hM
        refine spQA h60 ?_
        have nh60 := nzQ h60
        try have hr75 := mpQ nh60
        subst hM
        exact retC_view (lfQA (And.intro h4 (And.intro h6 (And.intro h27 (And.intro h29 (And.intro h36 h60))))))
      ·subst h59
       rw [if_neg (by decide)] at hM
       refine spQ ?_
       subst hM
       exact retC_view (lfQA (And.intro h4 (And.intro h6 (And.intro h27 (And.intro h29 h36)))))
   ·have kh27 : (!(q_api_Bases (x21.1) (x24.1))) = true := h27
    rw [if_pos kh27] at hM
    refine spQA h27 ?_
    have nh27 := nzQ kh27
    try have hr76 := mpQ nh27
    subst hM
    exact retC_view (lfQA (And.intro h4 (And.intro h6 h27)))
 ·rw [if_pos h4] at hM
  refine spQA h4 ?_
  have nh4 := nzQ h4
  try have hr77 := mpQ nh4
  have hF := h4
  exact auQ
end Go.Proofs.YtbfeamknaiaghaaGreatDoor
namespace Go.Proofs.YtbfeamknaiaghaaGreatDoor
open Go.RowKit
theorem iter_eq {α β R : Type} {F : (α → R) → α → R} {G : (β → R) → β → R} {x : R} (Rel : α → β → Prop)
  (h : ∀ ag bg, (∀ a b, Rel a b → ag a = bg b) → ∀ a b, Rel a b → F ag a = G bg b) : ∀ (n : Nat) (a : α) (b : β), Rel a b → iter n F (fun _ => x) a = iter n G (fun _ => x) b
 | 0, a, b, _ => rfl
 | n + 1, a, b, hr => by
  rw [iter, iter]
  exact h _ _ (fun a b hr => iter_eq Rel h n a b hr) a b hr
theorem orI_comm (k : IntKind) (a b : Int) : orI k a b = orI k b a := by unfold orI; rw [BitVec.or_comm]
theorem right_eq (x : Int) {n : Int} (h : n ∈ [(2 : Int), 3, 6, 7, 11, 13, 17, 18, 19, 22, 25]) : digest_right x n = specieref06_right x n := by
 unfold digest_right math_bits_RotateLeft32 specieref06_right
 simp only [letk]
 rw [orI_comm]
 simp only [List.mem_cons, List.not_mem_nil, or_false] at h
 rcases h with rfl | rfl | rfl | rfl | rfl | rfl | rfl | rfl | rfl | rfl | rfl <;> rfl
theorem w32 (a : Int) : IntKind.wrap .u32 a = a % 4294967296 := by simp [IntKind.wrap, IntKind.bits, IntKind.signed]
theorem or_nat (a c : Nat) (hc : c < 256) : (BitVec.ofInt 32 (((a * 256 : Nat) : Int) % 4294967296) ||| BitVec.ofInt 32 (c : Int)).toNat = (a * 256) % 4294967296 + c := by
 have e1 : (BitVec.ofInt 32 (((a * 256 : Nat) : Int) % 4294967296)).toNat = (a % 16777216) <<< 8 := by
  rw [BitVec.toNat_ofInt, Nat.shiftLeft_eq]
  omega
 have e2 : (BitVec.ofInt 32 (c : Int)).toNat = c := by rw [BitVec.toNat_ofInt]; omega
 rw [BitVec.toNat_or, e1, e2, ← Nat.shiftLeft_add_eq_or_of_lt (show c < 2 ^ 8 by omega), Nat.shiftLeft_eq]
 omega
theorem or_shl8 {x c : Int} (hx : 0 ≤ x ∧ x ≤ 4294967295) (hc : 0 ≤ c ∧ c ≤ 255) : orI .u32 (shlI .u32 x 8) (convI .u32 c) = addI .u32 (mulI .u32 x 256) (convI .u32 c) := by
 obtain ⟨a, rfl⟩ := Int.eq_ofNat_of_zero_le hx.1
 obtain ⟨d, rfl⟩ := Int.eq_ofNat_of_zero_le hc.1
 have h1 : shlI .u32 (a : Int) 8 = ((a * 256 : Nat) : Int) % 4294967296 := by
  unfold shlI; rw [w32]; simp [IntKind.bits]
 have h2 : convI .u32 (d : Int) = (d : Int) := by unfold convI; rw [w32]; omega
 have h3 : mulI .u32 (a : Int) 256 = ((a * 256 : Nat) : Int) % 4294967296 := by
  unfold mulI; rw [w32]; simp
 have h4 := or_nat a d (by omega)
 rw [h1, h2, h3]
 have key : orI .u32 (((a * 256 : Nat) : Int) % 4294967296) (d : Int) = IntKind.wrap .u32 ((BitVec.ofInt 32 (((a * 256 : Nat) : Int) % 4294967296) ||| BitVec.ofInt 32 (d : Int)).toNat : Int) := rfl
 rw [key, h4]
 unfold addI
 rw [w32, w32]
 omega
theorem st_app {q : List Int} {z : List Int} {a x : Int} {t : Int} (h : (q.length : Int) = t) : st (q ++ a :: z) t x = q ++ x :: z := by
 unfold st
 rw [show t.toNat = q.length by omega]
 simp
theorem gt_app {q z : List Int} {t : Int} (h : 0 ≤ t) (h1 : t < (q.length : Int)) : gt (q ++ z) t = gt q t := by
 unfold gt
 have : t.toNat < q.length := by omega
 simp [List.getD_eq_getElem?_getD, List.getElem?_append_left this]
theorem gt_app0 {q z : List Int} {a t : Int} (h : (q.length : Int) = t) : gt (q ++ a :: z) t = a := by
 unfold gt
 rw [show t.toNat = q.length by omega]
 simp [List.getD_eq_getElem?_getD]
theorem arr64 {l : List Int} (h : l.length = 64) : arrN 64 l = l := arrN_full h
theorem sl_get {b : List Int} {i k : Int} (h0 : 0 ≤ i) (hk : 0 ≤ k) (hk4 : k < 4) (h : i + 4 ≤ (b.length : Int)) : gt (sl b i (i + 4)) k = gt b (i + k) := by
 unfold gt sl
 have e : (i + k).toNat = i.toNat + k.toNat := by omega
 simp only [List.getD_eq_getElem?_getD]
 rw [List.getElem?_take_of_lt (by omega), List.getElem?_drop, e]
theorem gt_isB {b : List Int} (hb : ∀ x ∈ b, 0 ≤ x ∧ x ≤ 255) (i : Int) : 0 ≤ gt b i ∧ gt b i ≤ 255 := by
 unfold gt
 rw [List.getD_eq_getElem?_getD]
 cases h : b[i.toNat]? with
 | none => exact ⟨by decide, by decide⟩
 | some x => exact hb x (List.mem_of_getElem? h)
theorem words_eq {b : List Int} (hl : b.length = 64) (hb : ∀ x ∈ b, 0 ≤ x ∧ x ≤ 255) : digest_schedule b = specieref06_words b := by
 unfold digest_schedule specieref06_words
 refine iter_eq (fun (a : Int × List Int) (c : Int × List Int) => a.1 = c.1 ∧ 0 ≤ a.1 ∧ a.1 ≤ 16 ∧ (c.2.length : Int) = a.1 ∧ a.2 = c.2 ++ List.replicate (64 - a.1).toNat 0) ?_ _ _ _ ⟨rfl, by decide, by decide, rfl, rfl⟩
 rintro ag bg hag ⟨i, w⟩ ⟨i', q⟩ ⟨e1, h0, h1, h2, h3⟩
 simp only at e1 h0 h1 h2 h3
 subst e1
 subst h3
 by_cases hi : i < 16
 ·simp only [hi, decide_true, if_true]
  have hz : List.replicate (64 - i).toNat (0 : Int) = 0 :: List.replicate (63 - i).toNat 0 := by
   rw [show (64 - i).toNat = (63 - i).toNat + 1 by omega]; rfl
  have hsl : ((sl b (4 * i) (4 * i + 4)).length : Int) = 4 := by rw [sl_len]; omega
  rw [hsl, hz]
  refine iter_eq (fun (a : Int × List Int) (c : Int × Int) => a.1 = c.2 ∧ 0 ≤ a.1 ∧ a.1 ≤ 4 ∧ (0 ≤ c.1 ∧ c.1 ≤ 4294967295) ∧ a.2 = q ++ c.1 :: List.replicate (63 - i).toNat 0) ?_ _ _ _ ⟨rfl, show (0 : Int) ≤ 0 by decide, show (0 : Int) ≤ 4 by decide, show (0 : Int) ≤ 0 ∧ (0 : Int) ≤ 4294967295 by decide, rfl⟩
  rintro ag2 bg2 hag2 ⟨k, w⟩ ⟨x, k'⟩ ⟨e1, g0, g1, g2, g3⟩
  simp only at e1 g0 g1 g2 g3
  subst e1
  subst g3
  by_cases hk : k < 4
  ·simp only [hk, decide_true, if_true]
   have hlen : (q ++ x :: List.replicate (63 - i).toNat 0).length = 64 := by simp; omega
   have hg := gt_isB hb (4 * i + k)
   rw [gt_app0 h2, sl_get (by omega) g0 hk (by omega), arr64 hlen, st_app h2, arr64 (by simp; omega), or_shl8 g2 hg]
   refine hag2 _ _ ⟨rfl, by omega, by omega, ?_, rfl⟩
   have := rng_addI .u32 (mulI .u32 x 256) (convI .u32 (gt b (4 * i + k)))
   rw [rng_u32] at this
   exact this
  ·simp only [hk, decide_false, Bool.false_eq_true, if_false]
   refine hag _ _ ⟨rfl, by omega, by omega, by simp; omega, ?_⟩
   rw [show (64 - (i + 1)).toNat = (63 - i).toNat by omega]
   simp
 ·simp only [hi, decide_false, Bool.false_eq_true, if_false]
  have e16 : i = 16 := by omega
  subst e16
  refine iter_eq (fun (a : Int × List Int) (c : Int × List Int) => a.1 = c.1 ∧ 16 ≤ a.1 ∧ a.1 ≤ 64 ∧ (c.2.length : Int) = a.1 ∧ a.2 = c.2 ++ List.replicate (64 - a.1).toNat 0) ?_ _ _ _ ⟨rfl, show (16 : Int) ≤ 16 by decide, show (16 : Int) ≤ 64 by decide, h2, rfl⟩
  rintro ag2 bg2 hag2 ⟨t, w⟩ ⟨t', p⟩ ⟨e1, g0, g1, g2, g3⟩
  simp only at e1 g0 g1 g2 g3
  subst e1
  subst g3
  by_cases ht : t < 64
  ·simp only [ht, decide_true, if_true, letk]
   have hz : List.replicate (64 - t).toNat (0 : Int) = 0 :: List.replicate (63 - t).toNat 0 := by
    rw [show (64 - t).toNat = (63 - t).toNat + 1 by omega]; rfl
   rw [hz, gt_app (t := t - 15) (by omega) (by omega), gt_app (t := t - 2) (by omega) (by omega), gt_app (t := t - 16) (by omega) (by omega), gt_app (t := t - 7) (by omega) (by omega)]
   rw [right_eq _ (by decide), right_eq _ (by decide), right_eq _ (by decide), right_eq _ (by decide)]
   have hlen : ∀ y : Int, (p ++ y :: List.replicate (63 - t).toNat 0).length = 64 := fun y => by simp; omega
   rw [arr64 (hlen 0), st_app g2, arr64 (hlen _)]
   refine hag2 _ _ ⟨rfl, by omega, by omega, by simp; omega, ?_⟩
   rw [show (64 - (t + 1)).toNat = (63 - t).toNat by omega]
   simp
  ·simp only [ht, decide_false, Bool.false_eq_true, if_false]
   rw [show (64 - t).toNat = 0 by omega]
   simp
end Go.Proofs.YtbfeamknaiaghaaGreatDoor
namespace Go.Proofs.YtbfeamknaiaghaaGreatDoor
open Go.RowKit
theorem iter_rel {α β R S : Type} {F : (α → R) → α → R} {G : (β → S) → β → S} {d : α → R} {e : β → S} (Rel : α → β → Prop) (Q : R → S → Prop) (mu : α → Nat)
  (h : ∀ ag bg a b, Rel a b → (∀ a' b', Rel a' b' → mu a' < mu a → Q (ag a') (bg b')) → Q (F ag a) (G bg b)) : ∀ (n m : Nat) (a : α) (b : β), Rel a b → mu a < n → mu a < m → Q (iter n F d a) (iter m G e b)
 | 0, _, _, _, _, h1, _ => absurd h1 (Nat.not_lt_zero _)
 | _, 0, _, _, _, _, h1 => absurd h1 (Nat.not_lt_zero _)
 | n + 1, m + 1, a, b, hr, h1, h2 => by
  rw [iter, iter]
  exact h _ _ a b hr fun a' b' hr' hm => iter_rel Rel Q mu h n m a' b' hr' (by omega) (by omega)
def rnd (K : List Int → List Int) (h w : List Int) : List Int := (iter (((64 : Int) - 0).toNat + 1) (fun (ag17 : (Int × List Int) → (List Int)) (p17 : Int × List Int) => (if (decide (p17.1 < 64)) then (letk (specieref06_right (gt p17.2 4) 6) (fun (x22 : Int) => (letk (specieref06_right (gt p17.2 4) 11) (fun (x24 : Int) => (letk (specieref06_right (gt p17.2 4) 25) (fun (x26 : Int) => (letk (specieref06_right (gt p17.2 0) 2) (fun (x33 : Int) => (letk (specieref06_right (gt p17.2 0) 13) (fun (x35 : Int) => (letk (specieref06_right (gt p17.2 0) 22) (fun (x37 : Int) => (ag17 ((p17.1 + 1), ([(addI .u32 (addI .u32 (addI .u32 (addI .u32 (addI .u32 (gt p17.2 7) (xorI .u32 (xorI .u32 x22 x24) x26)) (xorI .u32 (andI .u32 (gt p17.2 4) (gt p17.2 5)) (andI .u32 (notI .u32 (gt p17.2 4)) (gt p17.2 6)))) (gt specieref06_constants p17.1)) (gt w p17.1)) (addI .u32 (xorI .u32 (xorI .u32 x33 x35) x37) (xorI .u32 (xorI .u32 (andI .u32 (gt p17.2 0) (gt p17.2 1)) (andI .u32 (gt p17.2 0) (gt p17.2 2))) (andI .u32 (gt p17.2 1) (gt p17.2 2))))), (gt p17.2 0), (gt p17.2 1), (gt p17.2 2), (addI .u32 (gt p17.2 3) (addI .u32 (addI .u32 (addI .u32 (addI .u32 (gt p17.2 7) (xorI .u32 (xorI .u32 x22 x24) x26)) (xorI .u32 (andI .u32 (gt p17.2 4) (gt p17.2 5)) (andI .u32 (notI .u32 (gt p17.2 4)) (gt p17.2 6)))) (gt specieref06_constants p17.1)) (gt w p17.1))), (gt p17.2 4), (gt p17.2 5), (gt p17.2 6)] : List Int))))))))))))))) else (iter (((8 : Int) - 0).toNat + 1) (fun (ag43 : (Int × List Int) → (List Int)) (p43 : Int × List Int) => (if (decide (p43.1 < 8)) then (ag43 ((p43.1 + 1), (st p43.2 p43.1 (addI .u32 (gt p43.2 p43.1) (gt p17.2 p43.1))))) else (K p43.2))) (fun _ => default) (0, h)))) (fun _ => default) (0, (([] : List Int) ++ h)))
theorem list8 {l : List Int} (h : l.length = 8) : l = [gt l 0, gt l 1, gt l 2, gt l 3, gt l 4, gt l 5, gt l 6, gt l 7] := by
 match l, h with
 | [a, b, c, d, e, f, g, i], _ => rfl
theorem arr8 {l : List Int} (h : l.length = 8) : arrN 8 l = l := arrN_full h
theorem kg_eq : kg_2 = specieref06_constants := rfl
theorem rnd_eq (K : List Int → List Int) {h b : List Int} (hl : h.length = 8) : rnd K h (digest_schedule b) = K (digest_mix h b) := by
 unfold rnd digest_mix
 simp only [letk]
 generalize digest_schedule b = w
 refine iter_rel (fun (a : Int × Int × Int × Int × Int × Int × Int × Int × Int) (c : Int × List Int) => a.2.2.2.2.2.2.2.2 = c.1 ∧ 0 ≤ c.1 ∧ c.1 ≤ 64 ∧ c.2 = [a.1, a.2.1, a.2.2.1, a.2.2.2.1, a.2.2.2.2.1, a.2.2.2.2.2.1, a.2.2.2.2.2.2.1, a.2.2.2.2.2.2.2.1]) (fun r s => s = K r) (fun a => (64 - a.2.2.2.2.2.2.2.2).toNat) ?_ _ _ _ _ ⟨rfl, show (0 : Int) ≤ 0 by decide, show (0 : Int) ≤ 64 by decide, list8 hl⟩ (show ((64 : Int) - 0).toNat < ((64 : Int) - 0).toNat + 1 by decide) (show ((64 : Int) - 0).toNat < ((64 : Int) - 0).toNat + 1 by decide)
 rintro ag bg ⟨a0, a1, a2, a3, a4, a5, a6, a7, t⟩ ⟨t', v⟩ ⟨e1, g0, g1, g2⟩ hag
 simp only at e1 g0 g1 g2 hag
 subst e1
 subst g2
 by_cases ht : t < 64
 ·simp only [ht, decide_true, if_true]
  rw [right_eq _ (by decide), right_eq _ (by decide), right_eq _ (by decide), right_eq _ (by decide), right_eq _ (by decide), right_eq _ (by decide), kg_eq]
  refine hag _ _ ⟨rfl, by omega, by omega, ?_⟩ (by simp only; omega)
  rfl
 ·simp only [ht, decide_false, Bool.false_eq_true, if_false]
  refine iter_rel (fun (a : Int × List Int) (c : Int × List Int) => a = c ∧ 0 ≤ a.1 ∧ a.1 ≤ 8 ∧ a.2.length = 8) (fun r s => s = K r) (fun a => (8 - a.1).toNat) ?_ _ _ _ _ ⟨rfl, show (0 : Int) ≤ 0 by decide, show (0 : Int) ≤ 8 by decide, hl⟩ (show ((8 : Int) - 0).toNat < ((8 : Int) - 0).toNat + 1 by decide) (show ((8 : Int) - 0).toNat < ((8 : Int) - 0).toNat + 1 by decide)
  rintro ag2 bg2 ⟨i, s⟩ ⟨i', s'⟩ ⟨e1, k0, k1, k2⟩ hag2
  cases e1
  simp only at k0 k1 k2 hag2
  by_cases hi : i < 8
  ·simp only [hi, decide_true, if_true]
   rw [arr8 k2, arr8 (by rw [st_len]; exact k2)]
   exact hag2 _ _ ⟨rfl, by simp only; omega, by simp only; omega, by simp only [st_len]; exact k2⟩ (by simp only; omega)
  ·simp only [hi, decide_false, Bool.false_eq_true, if_false]
end Go.Proofs.YtbfeamknaiaghaaGreatDoor
namespace Go.Proofs.YtbfeamknaiaghaaGreatDoor
open Go.RowKit
theorem and1u {e : Int} (h0 : 0 ≤ e) (h1 : e ≤ 18446744073709551615) : andI .u64 e 1 = e % 2 := by
 obtain ⟨k, rfl⟩ := Int.eq_ofNat_of_zero_le h0
 unfold andI
 have e1 : (BitVec.ofInt IntKind.u64.bits (k : Int)).toNat = k := by
  show (BitVec.ofInt 64 (k : Int)).toNat = k
  rw [BitVec.toNat_ofInt]; omega
 have e2 : (BitVec.ofInt IntKind.u64.bits 1).toNat = 2 ^ 1 - 1 := by decide
 rw [BitVec.toNat_and, e1, e2, Nat.and_two_pow_sub_one_eq_mod, w64]
 omega
theorem and1i {e : Int} (h0 : 0 ≤ e) (h1 : e ≤ 9223372036854775807) : andI .i64 e 1 = e % 2 := by
 obtain ⟨k, rfl⟩ := Int.eq_ofNat_of_zero_le h0
 unfold andI
 have e1 : (BitVec.ofInt IntKind.i64.bits (k : Int)).toNat = k := by
  show (BitVec.ofInt 64 (k : Int)).toNat = k
  rw [BitVec.toNat_ofInt]; omega
 have e2 : (BitVec.ofInt IntKind.i64.bits 1).toNat = 2 ^ 1 - 1 := by decide
 rw [BitVec.toNat_and, e1, e2, Nat.and_two_pow_sub_one_eq_mod, IntKind.wrap_i64]
 omega
theorem rem_one {m : Int} (h : 1 < m) : remI .i64 1 m = 1 := by
 rw [rem_nn (by decide)]; exact Int.emod_eq_of_lt (by decide) h
theorem mod_rng {x m : Int} (h : 0 < m) : 0 ≤ x % m ∧ x % m < m := ⟨Int.emod_nonneg _ (by omega), Int.emod_lt_of_pos _ h⟩
theorem pow_rel {m : Int} (hm : 0 < m) {M1 M2 : Int → Int → Int} (h1 : ∀ a b, 0 ≤ a → a < m → 0 ≤ b → b < m → M1 a b = a * b % m) (h2 : ∀ a b, 0 ≤ a → a < m → 0 ≤ b → b < m → M2 a b = a * b % m)
  {A H : Int → Int} {U : Int} (hA : ∀ e, 0 ≤ e → e ≤ U → A e = e % 2) (hH : ∀ e, 0 ≤ e → e ≤ U → H e = e / 2) {R : Type} {out : Int → R}
  {F : (Int × Int × Int → R) → Int × Int × Int → R} {G : (Int × Int × Int → Int) → Int × Int × Int → Int} {d1 : Int × Int × Int → R} {d2 : Int × Int × Int → Int}
  (hF : ∀ ag p, F ag p = if decide (p.2.1 > 0) = true then (if (A p.2.1 == 1) = true then ag (M1 p.1 p.1, H p.2.1, M1 p.2.2 p.1) else ag (M1 p.1 p.1, H p.2.1, p.2.2)) else out p.2.2)
  (hG : ∀ ag p, G ag p = if decide (p.2.1 > 0) = true then (if (p.2.1 % 2 == 1) = true then ag (M2 p.1 p.1, p.2.1 / 2, M2 p.2.2 p.1) else ag (M2 p.1 p.1, p.2.1 / 2, p.2.2)) else p.2.2)
  {a e o : Int} (ha : 0 ≤ a ∧ a < m) (he : 0 ≤ e ∧ e ≤ U) (ho : 0 ≤ o ∧ o < m) {n k : Nat} (hn : e.toNat < n) (hk : e.toNat < k) :
  iter n F d1 (a, e, o) = out (iter k G d2 (a, e, o)) := by
 refine iter_rel (fun p q : Int × Int × Int => p = q ∧ (0 ≤ p.1 ∧ p.1 < m) ∧ (0 ≤ p.2.1 ∧ p.2.1 ≤ U) ∧ 0 ≤ p.2.2 ∧ p.2.2 < m) (fun r s => r = out s) (fun p => p.2.1.toNat) ?_ n k _ _ ⟨rfl, ha, he, ho⟩ hn hk
 rintro ag bg ⟨a, e, o⟩ q ⟨rfl, p1, p2, p3⟩ ih
 simp only at p1 p2 p3 ih
 rw [hF, hG]
 simp only
 by_cases hc : e > 0
 ·have hd : decide (e > 0) = true := by simpa using hc
  rw [if_pos hd, if_pos hd]
  have e1 := h1 a a p1.1 p1.2 p1.1 p1.2
  have e2 := h2 a a p1.1 p1.2 p1.1 p1.2
  have e3 := h1 o a p3.1 p3.2 p1.1 p1.2
  have e4 := h2 o a p3.1 p3.2 p1.1 p1.2
  rw [hA e p2.1 p2.2, hH e p2.1 p2.2, e1, e2, e3, e4]
  have hr : 0 ≤ e / 2 ∧ e / 2 ≤ U := by omega
  split
  ·exact ih _ _ ⟨rfl, mod_rng hm, hr, mod_rng hm⟩ (by show (e / 2).toNat < e.toNat; omega)
  ·exact ih _ _ ⟨rfl, mod_rng hm, hr, p3⟩ (by show (e / 2).toNat < e.toNat; omega)
 ·have hd : ¬ decide (e > 0) = true := by simpa using hc
  rw [if_neg hd, if_neg hd]
theorem ppow_eq {a e n : Int} (ha : 0 ≤ a) (hn : a < n) (h1 : 1 < n) (hn1 : n < 2305843009213693952) (he : 0 ≤ e ∧ e ≤ 18446744073709551615) : prime_pow a e n = specieref01_Pow a e n := by
 unfold prime_pow specieref01_Pow
 rw [rem_one h1]
 exact pow_rel (m := n) (by omega) (M1 := fun a b => prime_mul a b n) (M2 := fun a b => specieref01_Mul a b n) (A := fun e => andI .u64 e 1) (H := fun e => shrI .u64 e 1) (U := 18446744073709551615) (out := fun x => x)
  (fun a b x1 x2 x3 x4 => prime_mul_eq x1 x2 x3 (by omega) (by omega)) (fun a b x1 x2 x3 x4 => rmul_eq x1 x2 x3)
  (fun e x1 x2 => and1u x1 x2) (fun e x1 x2 => shr1 e) (fun ag p => rfl) (fun ag p => rfl) ⟨ha, hn⟩ he ⟨by decide, h1⟩ (Nat.lt_succ_self _) (Nat.lt_succ_self _)
theorem word_check_self {a m : Int} (h0 : 0 ≤ a) (h1 : a < m) (h2 : m < 2305843009213693952) : word_check a a m = 0 := by
 unfold word_check word_residue letk
 rw [if_neg (by simp; omega), if_neg (by simp; omega), if_pos (by simpa using h0)]
 simp [h1]
theorem wpow_eq {a e m : Int} (ha : 0 ≤ a) (hm : a < m) (hm1 : m < 2305843009213693952) (he : 0 ≤ e ∧ e ≤ 9223372036854775807) : word_Pow a e m = (specieref01_Pow a e m, 0) := by
 unfold word_Pow specieref01_Pow
 refine letk_go fun x1 h1 => ?_
 rw [word_check_self ha hm hm1] at h1
 subst h1
 rw [if_neg (by decide), if_neg (by simp; omega)]
 exact pow_rel (m := m) (by omega) (M1 := fun a b => word_mul a b m) (M2 := fun a b => specieref01_Mul a b m) (A := fun e => andI .i64 e 1) (H := fun e => shrI .i64 e 1) (U := 9223372036854775807) (out := fun x => (x, 0))
  (fun a b x1 x2 x3 x4 => word_mul_eq x1 x2 x3 (by omega) (by omega)) (fun a b x1 x2 x3 x4 => rmul_eq x1 x2 x3)
  (fun e x1 x2 => and1i x1 x2) (fun e x1 x2 => shr1i e) (fun ag p => rfl) (fun ag p => rfl) ⟨ha, hm⟩ he (rem1_rng (by omega)) (Nat.lt_succ_self _) (Nat.lt_succ_self _)
theorem getD_cast {l : List Nat} {i : Nat} : (l.map (fun n : Nat => (n : Int))).getD i default = ((l.getD i 0 : Nat) : Int) := by
 simp only [List.getD_eq_getElem?_getD, List.getElem?_map]
 cases l[i]? <;> rfl
theorem tz_eq {x : Nat} (h0 : x ≠ 0) (h1 : x < 18446744073709551616) : math_bits_TrailingZeros64 (x : Int) = (Lib.ctz 64 x : Int) := by
 obtain ⟨hlow, hk⟩ := Lib.lowest_bit 64 x h0 h1
 obtain ⟨hi, htab⟩ := Lib.deBruijn64_at _ hk
 rw [show (2 : Nat) ^ 64 = 18446744073709551616 by decide] at hlow
 unfold math_bits_TrailingZeros64
 generalize Lib.ctz 64 x = c at hlow hk hi htab
 rw [if_neg (by simp; omega)]
 have e0 : negI .u64 (x : Int) = ((18446744073709551616 - x : Nat) : Int) := by unfold negI; rw [w64]; omega
 have e1 : andI .u64 (x : Int) (negI .u64 (x : Int)) = ((2 ^ c : Nat) : Int) := by
  rw [e0, ← hlow]
  unfold andI
  have a1 : (BitVec.ofInt IntKind.u64.bits (x : Int)).toNat = x := by
   show (BitVec.ofInt 64 (x : Int)).toNat = x
   rw [BitVec.toNat_ofInt]; omega
  have a2 : (BitVec.ofInt IntKind.u64.bits ((18446744073709551616 - x : Nat) : Int)).toNat = 18446744073709551616 - x := by
   show (BitVec.ofInt 64 ((18446744073709551616 - x : Nat) : Int)).toNat = _
   rw [BitVec.toNat_ofInt]; omega
  rw [BitVec.toNat_and, a1, a2]
  have := Nat.and_le_left (n := x) (m := 18446744073709551616 - x)
  exact w_id (by omega) (by omega)
 have e2 : shrI .u64 (mulI .u64 (andI .u64 (x : Int) (negI .u64 (x : Int))) 285870213051353865) 58 = ((2 ^ c * 285870213051353865 % 18446744073709551616 / 288230376151711744 : Nat) : Int) := by
  rw [e1, shr58]
  unfold mulI
  rw [w64]
  generalize 2 ^ c = t
  omega
 rw [e2, gt_nat]
 have e3 : kg_5.getD (2 ^ c * 285870213051353865 % 18446744073709551616 / 288230376151711744) default = ((Lib.deBruijn64tab.getD (2 ^ c * 285870213051353865 % 18446744073709551616 / 288230376151711744) 0 : Nat) : Int) := by
  have hm : kg_5 = Lib.deBruijn64tab.map (fun n : Nat => (n : Int)) := by decide +kernel
  rw [hm, getD_cast]
 rw [e3]
 have e4 : Lib.deBruijn64tab.getD (2 ^ c * 285870213051353865 % 18446744073709551616 / 288230376151711744) 0 = c := htab
 rw [e4]
 clear hlow hi htab e0 e1 e2 e3 e4
 exact conv_i64 (by omega) (by omega)
def mrTail (n a d s : Int) : Bool :=
 if specieref01_Pow a d n == 1 then true else if specieref01_Pow a d n == n - 1 then true else
  iter ((s - 1).toNat + 1) (fun (ag : Int × Int → Bool) (p : Int × Int) => if decide (p.2 < s) = true then (if (specieref01_Mul p.1 p.1 n == n - 1) = true then true else ag (specieref01_Mul p.1 p.1 n, p.2 + 1)) else false) (fun _ => default) (specieref01_Pow a d n, 1)
theorem strong_loop {n a : Int} {F : (Int × Int → Bool) → Int × Int → Bool} {d : Int × Int → Bool} (hF : ∀ ag p, F ag p = if (p.1 % 2 == 0) = true then ag (p.1 / 2, p.2 + 1) else mrTail n a p.1 p.2) (m : Int) (hm : 0 ≤ m) :
  ∀ (k fuel : Nat) (s : Int), k < fuel → iter fuel F d (2 ^ k * (2 * m + 1), s) = mrTail n a (2 * m + 1) (s + k)
 | 0, fuel, s, hf => by
  obtain ⟨f, rfl⟩ : ∃ f, fuel = f + 1 := ⟨fuel - 1, by omega⟩
  rw [iter, hF]
  simp only [Int.pow_zero, Int.one_mul]
  have hd : ¬ ((2 * m + 1) % 2 == 0) = true := by
   rw [beq_iff_eq]; omega
  rw [if_neg hd]
  simp
 | k + 1, fuel, s, hf => by
  obtain ⟨f, rfl⟩ : ∃ f, fuel = f + 1 := ⟨fuel - 1, by omega⟩
  have e : (2 : Int) ^ (k + 1) * (2 * m + 1) = 2 * (2 ^ k * (2 * m + 1)) := by rw [Int.pow_succ, Int.mul_comm (2 ^ k) 2, Int.mul_assoc]
  rw [iter, hF, e]
  generalize hT : (2 : Int) ^ k * (2 * m + 1) = T
  simp only
  rw [if_pos (by rw [beq_iff_eq]; omega), show 2 * T / 2 = T by omega, ← hT, strong_loop hF m hm k f (s + 1) (by omega)]
  congr 1
  push_cast
  omega
theorem two_pow_ge (k : Nat) : k < 2 ^ k := Nat.lt_two_pow_self
theorem strong_eq {n a : Int} {k : Nat} {m : Int} (hm : 0 ≤ m) (hn : n - 1 = 2 ^ k * (2 * m + 1)) : specieref05_strong n a = mrTail n a (2 * m + 1) k := by
 unfold specieref05_strong
 rw [hn]
 have h := strong_loop (n := n) (a := a) (F := fun (ag2 : (Int × Int) → Bool) (p2 : Int × Int) => (if ((p2.1 % 2) == 0) then (ag2 ((p2.1 / 2), (p2.2 + 1))) else mrTail n a p2.1 p2.2)) (d := fun _ => default) (fun ag p => rfl) m hm k ((2 ^ k * (2 * m + 1)).toNat + 1) 0 (by
  have h1 : (2 : Int) ^ k * 1 ≤ 2 ^ k * (2 * m + 1) := Int.mul_le_mul_of_nonneg_left (by omega) (Int.le_of_lt (Int.pow_pos (by decide)))
  have h2 := two_pow_ge k
  have h3 : ((2 ^ k : Nat) : Int) = 2 ^ k := by push_cast; rfl
  omega)
 rw [Int.zero_add] at h
 rw [← h, ← hn]
 rfl
theorem comp_eq {n a d s : Int} (ha : 0 ≤ a) (han : a < n) (h1 : 1 < n) (hn : n < 2305843009213693952) (hd : 0 ≤ d ∧ d ≤ 18446744073709551615) (hs : 0 ≤ s ∧ s ≤ 64) : prime_composite a n d s = !(mrTail n a d s) := by
 unfold prime_composite mrTail
 have e1 : subI .u64 n 1 = n - 1 := by unfold subI; rw [w_id (by omega) (by omega)]
 rw [ppow_eq ha han h1 hn hd, e1, si64 hs.1 hs.2]
 simp only [letk]
 have hx := rpow_rng (x := specieref01_Pow a d n) rfl ha han (e := d)
 generalize specieref01_Pow a d n = x at hx
 by_cases c1 : (x == 1) = true
 ·rw [if_pos c1, if_pos c1]; rfl
 rw [if_neg c1, if_neg c1]
 by_cases c2 : (x == n - 1) = true
 ·rw [if_pos c2, if_pos c2]; rfl
 rw [if_neg c2, if_neg c2]
 refine iter_rel (fun p q : Int × Int => q = (p.1, p.2 + 1) ∧ (0 ≤ p.1 ∧ p.1 < n) ∧ 0 ≤ p.2) (fun r s : Bool => r = !s) (fun p => (s - 1 - p.2).toNat) ?_ _ _ _ _ ⟨rfl, hx, Int.le_refl 0⟩ (by show (s - 1 - 0).toNat < _; omega) (by show (s - 1 - 0).toNat < _; omega)
 rintro ag bg ⟨x, i⟩ q ⟨rfl, p1, p2⟩ ih
 simp only at p1 p2 ih ⊢
 by_cases hi : i < s - 1
 ·rw [if_pos (show decide (i < s - 1) = true by simpa using hi), if_pos (show decide (i + 1 < s) = true by simp only [decide_eq_true_eq]; omega)]
  have e2 := prime_mul_eq p1.1 p1.2 p1.1 (by omega) (show n ≤ 18446744073709551615 by omega)
  have e3 := rmul_eq p1.1 p1.2 p1.1
  rw [e2, e3]
  split
  ·rfl
  ·exact ih _ _ ⟨rfl, mod_rng (by omega), by show 0 ≤ i + 1; omega⟩ (by show (s - 1 - (i + 1)).toNat < (s - 1 - i).toNat; omega)
 ·rw [if_neg (show ¬ decide (i < s - 1) = true by simpa using hi), if_neg (show ¬ decide (i + 1 < s) = true by simp only [decide_eq_true_eq]; omega)]
  rfl
theorem base_at {p : Int} : gt kg_1 p = gt ([2, 3, 5, 7, 11, 13, 17, 19, 23, 29, 31, 37] : List Int) p := rfl
theorem is_eq {n : Int} (hn : n < 2305843009213693952) : prime_Is n = specieref05_Is n := by
 unfold prime_Is specieref05_Is
 by_cases h2 : n < 2
 ·rw [if_pos (by simpa using h2), if_pos (by simpa using h2)]
 rw [if_neg (by simpa using h2), if_neg (by simpa using h2)]
 have ec : convI .u64 n = n := conv_u64 (by omega) (by omega)
 rw [ec]
 refine iter_rel (fun p q : Int => p = q ∧ 0 ≤ p ∧ p ≤ 12 ∧ NoDiv n p) (fun r s : Bool => r = s) (fun p => (12 - p).toNat) ?_ _ _ _ _ ⟨rfl, by decide, by decide, NoDiv_zero⟩ (by decide) (by decide)
 rintro ag bg p q ⟨rfl, p1, p2, p3⟩ ih
 by_cases hp : p < 12
 ·rw [if_pos (show decide (p < 12) = true by simpa using hp), if_pos (show decide (p < 12) = true by simpa using hp), ← base_at]
  by_cases hr : (remI .u64 n (gt kg_1 p) == 0) = true
  ·rw [if_pos hr, if_pos (show (remI .i64 n (gt kg_1 p) == 0) = true from hr)]
  ·rw [if_neg hr, if_neg (show ¬ (remI .i64 n (gt kg_1 p) == 0) = true from hr)]
   exact ih _ _ ⟨rfl, by omega, by omega, NoDiv_step p3 (by omega) p1 hp (by simpa using hr)⟩ (by omega)
 ·rw [if_neg (show ¬ decide (p < 12) = true by simpa using hp), if_neg (show ¬ decide (p < 12) = true by simpa using hp), if_neg (show ¬ decide (n ≥ 2305843009213693952) = true by simp only [decide_eq_true_eq]; omega)]
  have h37 := NoDiv_all p3 (by omega) (by omega)
  have es : subI .u64 n 1 = n - 1 := by unfold subI; rw [w_id (by omega) (by omega)]
  rw [es]
  obtain ⟨x, hx⟩ := Int.eq_ofNat_of_zero_le (show 0 ≤ n - 1 by omega)
  obtain ⟨m, hm, hk⟩ := Lib.ctzFrom_spec 64 x (by omega) (by omega)
  have ez : math_bits_TrailingZeros64 (n - 1) = (Lib.ctzFrom 64 x : Nat) := by
   rw [hx, tz_eq (by omega) (by omega)]
   unfold Lib.ctz
   rw [if_neg (by omega)]
  simp only [letk, ez]
  generalize Lib.ctzFrom 64 x = k at hm hk
  have hxi : n - 1 = 2 ^ k * (2 * (m : Int) + 1) := by rw [hx, hm]; push_cast; rfl
  have esh : shrI .u64 (n - 1) (k : Int) = 2 * (m : Int) + 1 := by
   rw [shr_eq (m := k) (by rw [Int.toNat_natCast]; show min k 64 = k; omega), hxi]
   exact Int.mul_ediv_cancel_left _ (Int.ne_of_gt (Int.pow_pos (by decide)))
  have hpk : (1 : Int) ≤ 2 ^ k := by
   have h3 : ((2 ^ k : Nat) : Int) = 2 ^ k := by push_cast; rfl
   have := two_pow_ge k
   omega
  have hd : 2 * (m : Int) + 1 ≤ n - 1 := by
   have h1 : (1 : Int) * (2 * m + 1) ≤ 2 ^ k * (2 * m + 1) := Int.mul_le_mul_of_nonneg_right hpk (by omega)
   omega
  rw [esh]
  refine iter_rel (fun p q : Int => p = q ∧ 0 ≤ p) (fun r s : Bool => r = s) (fun p => (12 - p).toNat) ?_ _ _ _ _ ⟨rfl, by decide⟩ (by decide) (by decide)
  rintro ag bg p q ⟨rfl, p1⟩ ih
  by_cases hp : p < 12
  ·rw [if_pos (show decide (p < 12) = true by simpa using hp), if_pos (show decide (p < 12) = true by simpa using hp), ← base_at]
   obtain ⟨b0, b1⟩ := kg2_rng p1 hp
   rw [comp_eq (by omega) (by omega) (by omega) hn (by omega) (by omega), strong_eq (by omega) hxi]
   split
   ·rfl
   ·exact ih _ _ ⟨rfl, by omega⟩ (by omega)
  ·rw [if_neg (show ¬ decide (p < 12) = true by simpa using hp), if_neg (show ¬ decide (p < 12) = true by simpa using hp)]
end Go.Proofs.YtbfeamknaiaghaaGreatDoor
namespace Go.Proofs.YtbfeamknaiaghaaGreatDoor
open Go.RowKit
theorem isB_rep (n : Nat) : isB (List.replicate n 0) := fun x hx => by
 rw [(List.mem_replicate.1 hx).2]; decide
theorem count_eq (n : Int) : digest_count n = specieref06_bytes n := by kernel_rfl
theorem bytes_isB (n : Int) : isB (specieref06_bytes n) := by
 rw [bytes_list]
 have key : ∀ a, 0 ≤ convI .u8 a ∧ convI .u8 a ≤ 255 := fun a => by have := rng_convI .u8 a; rwa [rng_u8] at this
 intro x hx
 simp only [List.mem_cons, List.not_mem_nil, or_false] at hx
 rcases hx with rfl | rfl | rfl | rfl | rfl | rfl | rfl | rfl <;> exact key _
theorem mul8 {n : Nat} (h : n ≤ 1000000000) : mulI .u64 8 (convI .u64 (n : Int)) = mulI .i64 8 (n : Int) := by
 unfold mulI convI
 rw [w64, w64, IntKind.wrap_i64]
 omega
theorem padded_isB {b : List Int} (hb : isB b) : isB (specieref06_padded b) := by
 rw [padded_eq]
 exact isB_app (isB_app (isB_app hb (fun x hx => by simp at hx; subst hx; decide)) (isB_rep _)) (bytes_isB _)
theorem mix_len {h b : List Int} (hl : h.length = 8) : (digest_mix h b).length = 8 := by
 unfold digest_mix
 simp only [letk]
 generalize digest_schedule b = w
 refine iter_inv (fun (a : Int × Int × Int × Int × Int × Int × Int × Int × Int) => a.2.2.2.2.2.2.2.2 ≤ 64) (fun r : List Int => r.length = 8) (fun a => (64 - a.2.2.2.2.2.2.2.2).toNat) ?_ _ _ (show (0 : Int) ≤ 64 by decide) (show ((64 : Int) - 0).toNat < ((64 : Int) - 0).toNat + 1 by decide)
 rintro ag ⟨a0, a1, a2, a3, a4, a5, a6, a7, t⟩ g0 hag
 simp only at g0 hag
 by_cases ht : t < 64
 ·simp only [ht, decide_true, if_true]
  exact hag _ (by simp only; omega) (by simp only; omega)
 ·simp only [ht, decide_false, Bool.false_eq_true, if_false]
  refine iter_inv (fun (a : Int × List Int) => a.2.length = 8) (fun r : List Int => r.length = 8) (fun a => (8 - a.1).toNat) ?_ _ _ hl (show ((8 : Int) - 0).toNat < ((8 : Int) - 0).toNat + 1 by decide)
  rintro ag2 ⟨i, s⟩ k0 hag2
  simp only at k0 hag2
  by_cases hi : i < 8
  ·simp only [hi, decide_true, if_true]
   exact hag2 _ arrN_len (by simp only; omega)
  ·simp only [hi, decide_false, Bool.false_eq_true, if_false]
   exact k0
theorem sl_drop {l : List Int} {n : Nat} : sl (l.drop n) 0 64 = sl l (n : Int) ((n : Int) + 64) := by
 unfold sl
 rw [show ((n : Int) + 64).toNat - (n : Int).toNat = 64 by omega]
 simp
theorem sl_rest {l : List Int} {n : Nat} : sl (l.drop n) 64 ((l.drop n).length : Int) = l.drop (n + 64) := by
 unfold sl
 rw [show (64 : Int).toNat = 64 from rfl, List.drop_drop, List.take_of_length_le (by simp; omega)]
theorem sum_eq {b : List Int} (hb : isB b) (hl : b.length ≤ 1000000000) : digest_Sum b = specieref06_Sum b := by
 unfold digest_Sum specieref06_Sum
 simp only [letk, bytes_Clone]
 refine (pad_run (fun ag p => rfl)).trans ?_
 have hX := padded_isB hb
 have hX64 := padded_len b
 have e : (b ++ [128]) ++ List.replicate ((56 - ((b ++ [(128 : Int)]).length : Int)) % 64).toNat 0 ++ digest_count (mulI .u64 8 (convI .u64 (b.length : Int))) = specieref06_padded b := by
  rw [padded_eq, count_eq, mul8 hl]; rfl
 simp only [e]
 generalize specieref06_padded b = X at hX hX64
 refine iter_rel (fun (a : List Int × List Int) (c : Int × List Int) => ∃ n : Nat, c.1 = (n : Int) ∧ a.1 = X.drop n ∧ a.2 = c.2 ∧ c.2.length = 8 ∧ n ≤ X.length ∧ n % 64 = 0) (fun r s => r = s) (fun a => a.1.length) ?_ _ _ _ _ ⟨0, rfl, rfl, rfl, rfl, Nat.zero_le _, rfl⟩ (Nat.lt_succ_self _) (show X.length < ((X.length : Int) - 0).toNat + 1 by omega)
 rintro ag bg ⟨r, s⟩ ⟨at', s'⟩ ⟨n, rfl, rfl, rfl, g1, g2, g3⟩ hag
 simp only at g1 hag
 by_cases hn : n < X.length
 ·have c1 : ((X.drop n).length : Int) > 0 := by rw [List.length_drop]; omega
  have c2 : (n : Int) < (X.length : Int) := by omega
  have hlen : (sl X (n : Int) ((n : Int) + 64)).length = 64 := by rw [sl_len]; omega
  simp only [c1, c2, decide_true, if_true]
  rw [← words_eq hlen (isB_sl hX), sl_drop, sl_rest]
  have hrel : ∃ k : Nat, ((n : Int) + 64) = (k : Int) ∧ X.drop (n + 64) = X.drop k ∧ k ≤ X.length ∧ k % 64 = 0 := by
   generalize hk : n + 64 = k
   exact ⟨k, by omega, rfl, by omega, by omega⟩
  obtain ⟨k, k1, k2, k3, k4⟩ := hrel
  have hmu : (X.drop (n + 64)).length < (X.drop n).length := by rw [List.length_drop, List.length_drop]; omega
  have hm := mix_len (b := sl X (n : Int) ((n : Int) + 64)) g1
  have h1 := hag (X.drop (n + 64), digest_mix s (sl X (n : Int) ((n : Int) + 64))) ((n : Int) + 64, digest_mix s (sl X (n : Int) ((n : Int) + 64)))
  simp only at h1
  have h2 := h1 ⟨k, k1, k2, trivial, hm, k3, k4⟩ hmu
  refine Eq.trans h2 ?_
  exact (rnd_eq (fun z => bg ((n : Int) + 64, z)) g1).symm
 ·have c1 : ¬ ((X.drop n).length : Int) > 0 := by rw [List.length_drop]; omega
  have c2 : ¬ (n : Int) < (X.length : Int) := by omega
  simp only [c1, c2, decide_false, Bool.false_eq_true, if_false]
  show (_ : List Int) = _
  kernel_rfl
end Go.Proofs.YtbfeamknaiaghaaGreatDoor
namespace Go.Proofs.YtbfeamknaiaghaaGreatDoor
open Go.RowKit
theorem arr_range (h : List Int) : arrN 32 h = (List.range 32).map fun k : Nat => gt h (k : Int) := by kernel_rfl
theorem isB_arr {l : List Int} (h : isB l) : isB (arrN 32 l) := by
 rw [arr_range]
 intro x hx
 obtain ⟨k, _, rfl⟩ := List.mem_map.1 hx
 exact gt_isB h _
theorem isB_nat8 (t : List UInt8) : isB (nat8 t) := fun x hx => by
 obtain ⟨b, _, rfl⟩ := List.mem_map.1 hx
 have := UInt8.toNat_lt b
 omega
theorem isB_st {l : List Int} {i x : Int} (h : isB l) (hx : 0 ≤ x ∧ x ≤ 255) : isB (st l i x) := fun y hy => by
 rcases List.mem_or_eq_of_mem_set hy with h1 | h1
 ·exact h y h1
 ·rw [h1]; exact hx
theorem rsum_ok (b : List Int) : (specieref06_Sum b).length = 32 ∧ isB (specieref06_Sum b) := by
 have key : ∀ a, 0 ≤ convI .u8 a ∧ convI .u8 a ≤ 255 := fun a => by have := rng_convI .u8 a; rwa [rng_u8] at this
 unfold specieref06_Sum
 simp only [letk]
 generalize specieref06_padded b = X
 refine iter_inv (fun (_ : Int × List Int) => True) (fun r : List Int => r.length = 32 ∧ isB r) (fun a => ((X.length : Int) - a.1).toNat) ?_ _ _ trivial (show ((X.length : Int) - 0).toNat < ((X.length : Int) - 0).toNat + 1 by omega)
 rintro ag ⟨n, s⟩ _ hag
 simp only at hag
 by_cases hn : n < (X.length : Int)
 ·simp only [hn, decide_true, if_true]
  refine iter_inv (fun (_ : Int × List Int) => True) (fun r : List Int => r.length = 32 ∧ isB r) (fun a => (64 - a.1).toNat) ?_ _ _ trivial (show ((64 : Int) - 0).toNat < ((64 : Int) - 0).toNat + 1 by decide)
  rintro ag2 ⟨t, v⟩ _ hag2
  simp only at hag2
  by_cases ht : t < 64
  ·simp only [ht, decide_true, if_true]
   exact hag2 _ trivial (by simp only; omega)
  ·simp only [ht, decide_false, Bool.false_eq_true, if_false]
   refine iter_inv (fun (_ : Int × List Int) => True) (fun r : List Int => r.length = 32 ∧ isB r) (fun a => (8 - a.1).toNat) ?_ _ _ trivial (show ((8 : Int) - 0).toNat < ((8 : Int) - 0).toNat + 1 by decide)
   rintro ag3 ⟨i, h⟩ _ hag3
   simp only at hag3
   by_cases hi : i < 8
   ·simp only [hi, decide_true, if_true]
    exact hag3 _ trivial (by simp only; omega)
   ·simp only [hi, decide_false, Bool.false_eq_true, if_false]
    exact hag _ trivial (by simp only; omega)
 ·simp only [hn, decide_false, Bool.false_eq_true, if_false]
  refine iter_inv (fun (a : Int × List Int) => a.2.length = 32 ∧ isB a.2) (fun r : List Int => r.length = 32 ∧ isB r) (fun a => (32 - a.1).toNat) ?_ _ _ ⟨rfl, isB_rep 32⟩ (show ((32 : Int) - 0).toNat < ((32 : Int) - 0).toNat + 1 by decide)
  rintro ag2 ⟨t, v⟩ hv hag2
  simp only at hv hag2
  by_cases ht : t < 32
  ·simp only [ht, decide_true, if_true]
   exact hag2 _ ⟨arrN_len, isB_arr (isB_st (isB_arr hv.2) (key _))⟩ (by simp only; omega)
  ·simp only [ht, decide_false, Bool.false_eq_true, if_false]
   exact hv
theorem join_eq (b h : List Int) : specieref06_Join b h = b ++ arrN 32 h := by
 rw [arr_range]
 unfold specieref06_Join
 refine iter_inv (fun (a : Int × List Int) => ∃ k : Nat, a.1 = (k : Int) ∧ k ≤ 32 ∧ a.2 = b ++ (List.range k).map fun j : Nat => gt h (j : Int)) (fun r : List Int => r = b ++ (List.range 32).map fun k : Nat => gt h (k : Int)) (fun a => (32 - a.1).toNat) ?_ _ _ ⟨0, rfl, by decide, by simp⟩ (show ((32 : Int) - 0).toNat < ((32 : Int) - 0).toNat + 1 by decide)
 rintro ag ⟨i, q⟩ ⟨k, e1, e2, e3⟩ hag
 simp only at e1 e3 hag
 subst e1
 subst e3
 by_cases hi : k < 32
 ·have : (k : Int) < 32 := by omega
  simp only [this, decide_true, if_true]
  exact hag _ ⟨k + 1, rfl, hi, by rw [List.range_succ]; simp⟩ (by simp only; omega)
 ·have : ¬ (k : Int) < 32 := by omega
  have e : k = 32 := by omega
  simp only [this, decide_false, Bool.false_eq_true, if_false]
  rw [e]
theorem tagged_eq {tag : List UInt8} {b : List Int} (h1 : 1 ≤ tag.length) (h2 : tag.length ≤ 100) (hb : isB b) (hl : b.length ≤ 900000000) : digest_Tagged tag b = (specieref06_Tagged tag b, 0) := by
 unfold digest_Tagged specieref06_Tagged
 have c1 : ¬ (tag.length : Int) < 1 := by omega
 have c2 : ¬ (tag.length : Int) > 100 := by omega
 simp only [c1, c2, decide_false, Bool.false_eq_true, if_false, letk, bytes_Clone, join_eq, List.nil_append]
 have e1 := sum_eq (isB_nat8 tag) (by rw [nat8_len]; omega)
 obtain ⟨l1, l2⟩ := rsum_ok (nat8 tag)
 rw [e1]
 generalize specieref06_Sum (nat8 tag) = t at l1 l2
 have e2 : arrN 32 t = t := arrN_full l1
 rw [e2, sum_eq (isB_app (isB_app l2 l2) hb) (by simp only [List.length_append]; omega)]
end Go.Proofs.YtbfeamknaiaghaaGreatDoor
namespace Go.Proofs.YtbfeamknaiaghaaGreatDoor
open Go.RowKit
theorem iteF {c : Prop} [Decidable c] {a : Bool} : ((if c then false else a) = true) ↔ (¬ c ∧ a = true) := by
 by_cases h : c <;> simp [h]
theorem iteA {c : Prop} [Decidable c] {a : Bool} : ((if c then a else false) = true) ↔ (c ∧ a = true) := by
 by_cases h : c <;> simp [h]
theorem lk {α β : Type} {a : α} {f : α → β} : letk a f = f a := rfl
theorem is_ge {n : Int} (h : prime_Is n = true) : 2 ≤ n := by
 unfold prime_Is at h
 rw [iteF] at h
 have := h.1
 simp only [decide_eq_true_eq] at this
 omega
theorem group_eq (g : S_api_Group) : group_Valid g = specieref10_Valid g := by
 rw [Bool.eq_iff_iff]
 unfold group_Valid specieref10_Valid
 simp only [lk, iteF, iteA, decide_eq_true_eq, beq_iff_eq, bne_iff_ne, ne_eq, Bool.not_eq_true', Bool.not_eq_false, Decidable.not_not]
 constructor
 ·rintro ⟨h1, h2, h3, h4, h5, h6, h7, h8, h9, h10⟩
  have hp := is_ge h4
  have hq := q_le (p := g.P) (by omega) (by omega) (show 3 ≤ g.Q by omega) h6
  rw [wpow_eq (by omega) (by omega) (by omega) (by omega)] at h10
  rw [is_eq (by omega)] at h4
  rw [is_eq (by omega)] at h5
  exact ⟨by omega, h1, h2, h3, h6, h7, h8, h4, h5, h10⟩
 ·rintro ⟨h0, h1, h2, h3, h6, h7, h8, h4, h5, h10⟩
  have hq := q_le (p := g.P) (by omega) (by omega) (show 3 ≤ g.Q by omega) h6
  have hw := wpow_eq (a := g.G) (e := g.Q) (m := g.P) (by omega) (by omega) (by omega) (by omega)
  exact ⟨h1, h2, h3, by rw [is_eq (by omega)]; exact h4, by rw [is_eq (by omega)]; exact h5, h6, h7, h8, by rw [hw], by rw [hw]; exact h10⟩
theorem okG_of {g : S_api_Group} (h : specieref10_Valid g = true) : okG g := (rvalid_cf g).1 h
theorem elem_eq {g : S_api_Group} (h : okG g) (x : Int) : group_element g x = specieref10_Member g x := by
 obtain ⟨h1, h2, h3, h4, h5, h6⟩ := h
 rw [Bool.eq_iff_iff]
 unfold group_element specieref10_Member
 simp only [lk, iteF, iteA, decide_eq_true_eq, beq_iff_eq]
 constructor
 ·rintro ⟨a1, a2, a3⟩
  rw [wpow_eq (by omega) (by omega) (by omega) (by omega)] at a3
  exact ⟨by omega, by omega, a3⟩
 ·rintro ⟨a1, a2, a3⟩
  exact ⟨by omega, by omega, by rw [wpow_eq (by omega) (by omega) (by omega) (by omega)]; exact a3⟩
theorem contains_eq {g : S_api_Group} (h : specieref10_Valid g = true) (x : Int) : group_Contains g x = specieref10_Member g x := by
 unfold group_Contains
 simp only [lk, group_eq, h, if_true]
 exact elem_eq (okG_of h) x
theorem base_eq (b : S_api_Bases) : base_Valid b = specieref11_Valid b := by
 rw [Bool.eq_iff_iff]
 unfold base_Valid specieref11_Valid
 rw [show ((3 : Int) - 0).toNat + 1 = 4 from rfl]
 simp only [lk, group_eq]
 by_cases h : specieref10_Valid b.Group = true
 ·simp only [iter, h, iteF, iteA, contains_eq h, decide_eq_true_eq, beq_iff_eq, bne_iff_ne, ne_eq, Bool.not_eq_true', Bool.not_eq_false, Int.reduceLT, Int.reduceAdd, gt, Int.reduceToNat, List.getD_cons_zero, List.getD_cons_succ, if_true, Bool.not_true, Bool.false_eq_true, not_false_eq_true, true_and, and_true, if_false, Decidable.not_not]
  constructor
  ·rintro ⟨a1, a2, a3, a4, a5, a6⟩; exact ⟨a1, a3, a5, a2, a4, a6⟩
  ·rintro ⟨a1, a3, a5, a2, a4, a6⟩; exact ⟨a1, a2, a3, a4, a5, a6⟩
 ·simp only [h, Bool.not_false, if_true, if_false, Bool.false_eq_true]
end Go.Proofs.YtbfeamknaiaghaaGreatDoor
namespace Go.Proofs.YtbfeamknaiaghaaGreatDoor
open Go.RowKit Go.Lib
theorem dig_ok {d : Nat} (h : d < 10) : (UInt8.ofNat (48 + d)).toNat = 48 + d := by
 rw [UInt8.toNat_ofNat']; omega
theorem pu_app : ∀ (l : List UInt8) (c : UInt8) (a u : Nat), parseUint10 a l = .ok u → u < 230584300921369396 → 48 ≤ c.toNat → c.toNat ≤ 57 → parseUint10 a (l ++ [c]) = .ok (u * 10 + (c.toNat - 48))
 | [], c, a, u, h, hu, h0, h1 => by
  simp only [parseUint10] at h
  injection h with h
  subst h
  rw [List.nil_append]
  simp only [parseUint10]
  rw [if_pos (by omega), if_neg (by omega), if_neg (by omega)]
 | x :: l, c, a, u, h, hu, h0, h1 => by
  rw [List.cons_append]
  simp only [parseUint10] at h ⊢
  split at h
  ·rename_i hx
   rw [if_pos hx]
   split at h
   ·cases h
   ·rename_i hy
    rw [if_neg hy]
    split at h
    ·cases h
    ·rename_i hz
     rw [if_neg hz]
     exact pu_app l c _ u h hu h0 h1
  ·cases h
theorem pu_dec : ∀ (u : Nat), u < 2305843009213693952 → parseUint10 0 (decDigits u) = .ok u := by
 intro u
 induction u using Nat.strongRecOn with
 | _ u ih =>
  intro hu
  by_cases h : u < 10
  ·rw [decDigits_one h]
   simp only [parseUint10, dig_ok h]
   rw [if_pos (by omega), if_neg (by omega), if_neg (by omega)]
   congr 1
   omega
  ·have hd : u % 10 < 10 := by omega
   rw [decDigits, dif_neg h]
   have := pu_app (decDigits (u / 10)) (UInt8.ofNat (48 + u % 10)) 0 (u / 10) (ih (u / 10) (by omega) (by omega)) (by omega) (by rw [dig_ok hd]; omega) (by rw [dig_ok hd]; omega)
   rw [this, dig_ok hd]
   congr 1
   omega
theorem dec_digits : ∀ (u : Nat), ∀ c ∈ decDigits u, 48 ≤ c.toNat ∧ c.toNat ≤ 57 := by
 intro u
 induction u using Nat.strongRecOn with
 | _ u ih =>
  intro c hc
  by_cases h : u < 10
  ·rw [decDigits_one h] at hc
   simp only [List.mem_cons, List.not_mem_nil, or_false] at hc
   rw [hc, dig_ok h]; omega
  ·rw [decDigits, dif_neg h] at hc
   rcases List.mem_append.1 hc with h1 | h1
   ·exact ih (u / 10) (by omega) c h1
   ·simp only [List.mem_cons, List.not_mem_nil, or_false] at h1
    rw [h1, dig_ok (by omega)]; omega
theorem dec_ne (u : Nat) : decDigits u ≠ [] := by
 intro h
 have h1 := decDigits_length u
 rw [h, List.length_nil] at h1
 by_cases hu : u < 10
 ·rw [nDigits_small hu] at h1; omega
 ·rw [nDigits_big hu] at h1; omega
theorem atoi_itoa {n : Int} (h0 : 0 ≤ n) (h1 : n < 2305843009213693952) : strconv_Atoi (strconv_Itoa n) = (n, true) := by
 obtain ⟨u, rfl⟩ := Int.eq_ofNat_of_zero_le h0
 unfold strconv_Atoi strconv_Itoa
 rw [itoa_nonneg]
 have hp := pu_dec u (by omega)
 have hd := dec_digits u
 have hn := dec_ne u
 have e : atoiAll (decDigits u) = .ok (u : Int) := by
  cases hl : decDigits u with
  | nil => exact absurd hl hn
  | cons c r =>
   rw [hl] at hp hd
   have hc := hd c (by simp)
   unfold atoiAll
   simp only
   rw [if_neg (show ¬ (c.toNat = 43 ∨ c.toNat = 45) by omega)]
   unfold parseMag
   rw [if_neg (by simp), hp]
   simp only
   rw [if_neg (by omega), if_neg (by omega), if_neg (by omega)]
 rw [e]
theorem itoa_no32 {n : Int} (h0 : 0 ≤ n) : (32 : UInt8) ∉ strconv_Itoa n := by
 obtain ⟨u, rfl⟩ := Int.eq_ofNat_of_zero_le h0
 unfold strconv_Itoa
 rw [itoa_nonneg]
 intro h
 have := dec_digits u _ h
 have e : (32 : UInt8).toNat = 32 := rfl
 omega
def cutAll (c : UInt8) : List UInt8 → List (List UInt8)
 | [] => [[]]
 | b :: s => if b = c then [] :: cutAll c s else match cutAll c s with
  | [] => [[b]]
  | p :: ps => (b :: p) :: ps
theorem cutAll_app (c : UInt8) : ∀ (p s : List UInt8), c ∉ p → cutAll c (p ++ c :: s) = p :: cutAll c s
 | [], s, _ => by rw [List.nil_append, cutAll, if_pos rfl]
 | b :: p, s, h => by
  have hb : b ≠ c := fun e => h (by rw [e]; simp)
  rw [List.cons_append, cutAll, if_neg hb, cutAll_app c p s (fun e => h (List.mem_cons_of_mem _ e))]
theorem cutAll_one (c : UInt8) : ∀ (p : List UInt8), c ∉ p → cutAll c p = [p]
 | [], _ => rfl
 | b :: p, h => by
  have hb : b ≠ c := fun e => h (by rw [e]; simp)
  rw [cutAll, if_neg hb, cutAll_one c p (fun e => h (List.mem_cons_of_mem _ e))]
theorem cutAll_join (c : UInt8) : ∀ (p : List UInt8) (ps : List (List UInt8)), (∀ x ∈ p :: ps, c ∉ x) → cutAll c (Lib.join (p :: ps) [c]) = p :: ps
 | p, [], h => by rw [join_one, cutAll_one c p (h p (by simp))]
 | p, q :: ps, h => by
  have ih := cutAll_join c q ps (fun x hx => h x (List.mem_cons_of_mem _ hx))
  have e : Lib.join (p :: q :: ps) [c] = p ++ c :: Lib.join (q :: ps) [c] := by
   rw [join_cons, join_cons]
   simp [joinTail]
  rw [e, cutAll_app c p _ (h p (by simp)), ih]
theorem index_one (c : UInt8) : ∀ s : List UInt8, index s [c] = -1 ∧ c ∉ s ∨ ∃ p r, s = p ++ c :: r ∧ c ∉ p ∧ index s [c] = (p.length : Nat)
 | [] => .inl ⟨by simp [index], by simp⟩
 | b :: s => by
  by_cases h : b = c
  ·subst h
   exact .inr ⟨[], s, rfl, by simp, by rw [index]; simp [List.isPrefixOf]⟩
  ·have hp : ([c] : List UInt8).isPrefixOf (b :: s) = false := by simp [List.isPrefixOf, Ne.symm h]
   have hix : index (b :: s) [c] = if index s [c] == -1 then -1 else index s [c] + 1 := by rw [index, hp]; simp
   rcases index_one c s with ⟨h1, h2⟩ | ⟨p, r, h1, h2, h3⟩
   ·exact .inl ⟨by rw [hix, h1]; rfl, by simp [Ne.symm h, h2]⟩
   ·exact .inr ⟨b :: p, r, by rw [h1]; rfl, by simp [Ne.symm h, h2], by rw [hix, h3, if_neg (by simp), List.length_cons]; push_cast; rfl⟩
theorem splitK_one (c : UInt8) : ∀ (k : Nat) (s : List UInt8), s.count c ≤ k → splitK [c] 0 k s = cutAll c s
 | 0, s, h => by
  have : c ∉ s := by
   intro hm
   have := List.count_pos_iff.2 hm
   omega
  rw [cutAll_one c s this]; rfl
 | k + 1, s, h => by
  unfold splitK
  rcases index_one c s with ⟨h1, h2⟩ | ⟨p, r, h1, h2, h3⟩
  ·rw [if_pos (by rw [h1]; rfl), cutAll_one c s h2]
  ·rw [if_neg (by rw [h3]; simp), h3]
   have e1 : ((p.length : Nat) : Int).toNat = p.length := Int.toNat_natCast _
   rw [e1, h1, cutAll_app c p r h2, List.length_singleton, Nat.add_zero, List.take_left]
   have e2 : (p ++ c :: r).drop (p.length + 1) = r := by
    rw [List.drop_append]
    simp
   rw [e2, splitK_one c k r]
   rw [h1, List.count_append, List.count_cons_self] at h
   omega
theorem split_one (c : UInt8) (s : List UInt8) : strings_Split s [c] = cutAll c s := by
 unfold strings_Split
 refine splitK_one c _ s ?_
 have h := count_one c s
 have e : countB ⟨s.toArray⟩ ⟨[c].toArray⟩ = count s [c] := rfl
 rw [e, h]
 exact Nat.le_refl _
end Go.Proofs.YtbfeamknaiaghaaGreatDoor
namespace Go.Proofs.YtbfeamknaiaghaaGreatDoor
open Go.RowKit Go.Lib
theorem q_le2 {p q : Int} (hp : 2 ≤ p) (hp1 : p < 2305843009213693952) (hq : 3 ≤ q) (h : remI .i64 (subI .i64 p 1) q = 0) : q < p := by
 have e : subI .i64 p 1 = p - 1 := by unfold subI; rw [IntKind.wrap_i64]; omega
 rw [e, rem_nn (by omega)] at h
 have h1 : q ≤ p - 1 := Int.le_of_dvd (by omega) (Int.dvd_of_emod_eq_zero h)
 omega
theorem group_ok {g : S_api_Group} (h : group_Valid g = true) : 2 ≤ g.P ∧ g.P < 2305843009213693952 ∧ 3 ≤ g.Q ∧ g.Q < g.P ∧ 2 ≤ g.G ∧ g.G < g.P := by
 unfold group_Valid at h
 simp only [lk, iteF, iteA, decide_eq_true_eq, beq_iff_eq, bne_iff_ne, ne_eq, Bool.not_eq_true', Bool.not_eq_false, Decidable.not_not] at h
 obtain ⟨h1, h2, h3, h4, h5, h6, h7, h8, h9, h10⟩ := h
 have hp := is_ge h4
 have hq := q_le2 hp (by omega) (show 3 ≤ g.Q by omega) h6
 omega
theorem contains_ok {g : S_api_Group} {x : Int} (h : group_Contains g x = true) : 1 ≤ x ∧ x < g.P := by
 unfold group_Contains group_element at h
 simp only [lk, iteF, iteA, decide_eq_true_eq] at h
 obtain ⟨_, h1, h2, _⟩ := h
 omega
def okB (b : S_api_Bases) : Prop := ∀ x ∈ base_numbers b, 0 ≤ x ∧ x < 2305843009213693952
theorem base_ok2 {b : S_api_Bases} (h : base_Valid b = true) : okB b := by
 unfold base_Valid at h
 rw [show ((3 : Int) - 0).toNat + 1 = 4 from rfl] at h
 simp only [lk, iter, iteF, iteA, decide_eq_true_eq, beq_iff_eq, bne_iff_ne, ne_eq, Bool.not_eq_true', Bool.not_eq_false, Int.reduceLT, Int.reduceAdd, gt, Int.reduceToNat, List.getD_cons_zero, List.getD_cons_succ, if_true, Bool.not_true, Bool.false_eq_true, not_false_eq_true, true_and, and_true, if_false, Decidable.not_not] at h
 obtain ⟨h0, _, h1, _, h2, _, h3⟩ := h
 have g0 := group_ok h0
 have g1 := contains_ok h1
 have g2 := contains_ok h2
 have g3 := contains_ok h3
 intro x hx
 simp only [base_numbers, List.mem_cons, List.not_mem_nil, or_false] at hx
 rcases hx with rfl | rfl | rfl | rfl | rfl | rfl <;> omega
theorem take_gt {α : Type} [Inhabited α] {l : List α} {k : Nat} (h : k < l.length) : l.take (k + 1) = l.take k ++ [gt l (k : Int)] := by
 rw [List.take_add_one, gt_nat, List.getD_eq_getElem?_getD, List.getElem?_eq_getElem h]; rfl
def txt (b : S_api_Bases) : List UInt8 := Lib.join ((base_numbers b).map strconv_Itoa) [32]
theorem text_eq {b : S_api_Bases} (h : base_Valid b = true) : base_Text b = (txt b, 0) := by
 unfold base_Text
 refine letk_go fun x1 h1 => ?_
 rw [if_neg (by rw [h1, h]; decide)]
 refine letk_go fun x7 h7 => ?_
 refine iter_rule (P := fun p : Int × List (List UInt8) => ∃ k : Nat, p.1 = k ∧ k ≤ x7.length ∧ p.2 = (x7.take k).map strconv_Itoa) (Q := fun r => r = (txt b, 0)) (meas := fun p => ((x7.length : Int) - p.1).toNat) ?_ _ _ ⟨0, rfl, Nat.zero_le _, rfl⟩ (by show ((x7.length : Int) - 0).toNat < _; omega)
 rintro ag ⟨i, l⟩ ⟨k, e1, e2, e3⟩ ih
 simp only at e1 e3 ih
 subst e1
 by_cases hi : (k : Int) < (x7.length : Int)
 ·rw [if_pos (show decide ((k : Int) < (x7.length : Int)) = true by simpa using hi)]
  refine letk_go fun x15 h15 => ?_
  refine ih _ ⟨k + 1, by push_cast; rfl, by omega, ?_⟩ (by show ((x7.length : Int) - (k + 1)).toNat < ((x7.length : Int) - k).toNat; omega)
  show l ++ [x15] = _
  rw [take_gt (by omega), List.map_append, e3, h15]; rfl
 ·rw [if_neg (show ¬ decide ((k : Int) < (x7.length : Int)) = true by simpa using hi)]
  have e4 : k = x7.length := by omega
  rw [e4, List.take_length] at e3
  refine letk_go fun x19 h19 => ?_
  rw [h19, e3, h7]; rfl
theorem text_bad {b : S_api_Bases} (h : base_Valid b = false) : base_Text b = ([], 1) := by
 unfold base_Text
 refine letk_go fun x1 h1 => ?_
 rw [if_pos (by rw [h1, h]; decide)]
def okp (p : List UInt8) : Bool := (strconv_Atoi p).2 && decide (0 ≤ (strconv_Atoi p).1) && decide ((strconv_Atoi p).1 < 2305843009213693952) && (strconv_Itoa (strconv_Atoi p).1 == p)
def mkB (l : List Int) : S_api_Bases := ⟨⟨gt l 0, gt l 1, gt l 2⟩, gt l 3, gt l 4, gt l 5⟩
def fin (l : List Int) : S_api_Bases × Int := if ((l.length : Int) != 6) = true then (z_api_Bases, 3) else if (!(base_Valid (mkB l))) = true then (z_api_Bases, 1) else (mkB l, 0)
def readAll (ps : List (List UInt8)) : S_api_Bases × Int := if ps.all okp = true then fin (ps.map fun p => (strconv_Atoi p).1) else (z_api_Bases, 3)
theorem parse_eq (s : List UInt8) : base_Parse s = if s.length > 200 then (z_api_Bases, 5) else readAll (cutAll 32 s) := by
 unfold base_Parse
 by_cases hs : s.length > 200
 ·rw [if_pos (show decide ((s.length : Int) > 200) = true by simp only [decide_eq_true_eq]; omega), if_pos hs]
 rw [if_neg (show ¬ decide ((s.length : Int) > 200) = true by simp only [decide_eq_true_eq]; omega), if_neg hs]
 refine letk_go fun x4 h4 => ?_
 rw [split_one] at h4
 rw [← h4]
 generalize hT : readAll x4 = T
 refine iter_rule (P := fun p : Int × S_api_Bases × List Int => ∃ k : Nat, p.1 = k ∧ k ≤ x4.length ∧ (x4.take k).all okp = true ∧ p.2.2 = (x4.take k).map fun p => (strconv_Atoi p).1) (Q := fun r => r = T) (meas := fun p => ((x4.length : Int) - p.1).toNat) ?_ _ _ ⟨0, rfl, Nat.zero_le _, rfl, rfl⟩ (by show ((x4.length : Int) - 0).toNat < _; omega)
 rintro ag ⟨i, c, l⟩ ⟨k, e1, e2, e3, e5⟩ ih
 simp only at e1 e5 ih
 subst e1
 by_cases hi : (k : Int) < (x4.length : Int)
 ·rw [if_pos (show decide ((k : Int) < (x4.length : Int)) = true by simpa using hi)]
  have hm := gt_mem (l := x4) (i := (k : Int)) (by omega)
  have bad : okp (gt x4 (k : Int)) = false → (z_api_Bases, (3 : Int)) = T := fun hb => by
   rw [← hT]
   unfold readAll
   rw [if_neg]
   intro ha
   rw [List.all_eq_true] at ha
   rw [ha _ hm] at hb; cases hb
  refine letk_go fun x11 h11 => ?_
  by_cases c1 : x11.2 = true
  ·rw [if_neg (show ¬ (!x11.2) = true by rw [c1]; decide)]
   by_cases c2 : x11.1 < 0
   ·rw [if_pos (show decide (x11.1 < 0) = true by simpa using c2)]
    exact bad (by unfold okp; rw [← h11]; simp [show ¬ 0 ≤ x11.1 by omega])
   rw [if_neg (show ¬ decide (x11.1 < 0) = true by simpa using c2)]
   by_cases c3 : x11.1 ≥ 2305843009213693952
   ·rw [if_pos (show decide (x11.1 ≥ 2305843009213693952) = true by simpa using c3)]
    exact bad (by unfold okp; rw [← h11]; simp [show ¬ x11.1 < 2305843009213693952 by omega])
   rw [if_neg (show ¬ decide (x11.1 ≥ 2305843009213693952) = true by simpa using c3)]
   refine letk_go fun x20 h20 => ?_
   by_cases c4 : (x20 == gt x4 (k : Int)) = true
   ·rw [if_neg (show ¬ (!(x20 == gt x4 (k : Int))) = true by rw [c4]; decide)]
    have hok : okp (gt x4 (k : Int)) = true := by
     unfold okp
     rw [← h11, ← h20, c1, c4]
     simp [show 0 ≤ x11.1 by omega, show x11.1 < 2305843009213693952 by omega]
    refine ih _ ⟨k + 1, by push_cast; rfl, by omega, ?_, ?_⟩ (by show ((x4.length : Int) - (k + 1)).toNat < ((x4.length : Int) - k).toNat; omega)
    ·rw [take_gt (by omega), List.all_append, e3]
     simp [hok]
    ·show l ++ [x11.1] = _
     rw [take_gt (by omega), List.map_append, e5, h11]; rfl
   ·rw [if_pos (show (!(x20 == gt x4 (k : Int))) = true by simpa using c4)]
    exact bad (by unfold okp; rw [← h11, ← h20]; simp [show (x20 == gt x4 (k : Int)) = false by simpa using c4])
  ·rw [if_pos (show (!x11.2) = true by simpa using c1)]
   exact bad (by unfold okp; rw [← h11]; simp [show x11.2 = false by simpa using c1])
 ·rw [if_neg (show ¬ decide ((k : Int) < (x4.length : Int)) = true by simpa using hi)]
  have e4 : k = x4.length := by omega
  rw [e4, List.take_length] at e3 e5
  have hT2 : T = fin l := by rw [← hT, e5]; unfold readAll; rw [if_pos e3]
  rw [hT2]
  unfold fin
  split
  ·rfl
  ·refine letk_go fun x39 h39 => ?_
   rw [h39]
   rfl
theorem q_refl (b : S_api_Bases) : q_api_Bases b b = true := by
 unfold q_api_Bases
 simp
theorem back {b : S_api_Bases} (h : base_Valid b = true) : base_Parse (txt b) = (b, 0) := by
 have ho := base_ok2 h
 have hl : (txt b).length ≤ 200 := by
  unfold txt
  refine Nat.le_trans (join_le _ _) ?_
  have h1 : textLen ((base_numbers b).map strconv_Itoa) ≤ 6 * 21 := by
   have hx : ∀ x ∈ base_numbers b, (strconv_Itoa x).length ≤ 21 := fun x hx => Lib.itoa_length_le x (by have := ho x hx; omega) (by have := ho x hx; omega)
   simp only [textLen, base_numbers, List.map_cons, List.map_nil, List.sum_cons, List.sum_nil, List.mem_cons, List.not_mem_nil, or_false, forall_eq_or_imp, forall_eq] at hx ⊢
   omega
  have h2 : ((base_numbers b).map strconv_Itoa).length = 6 := by rw [List.length_map]; rfl
  rw [h2]
  simp only [List.length_cons, List.length_nil]
  omega
 rw [parse_eq, if_neg (by omega)]
 have hc : cutAll 32 (txt b) = (base_numbers b).map strconv_Itoa := by
  unfold txt
  refine cutAll_join 32 (strconv_Itoa b.Group.P) _ (fun x hx => ?_)
  have hx' : x ∈ (base_numbers b).map strconv_Itoa := hx
  obtain ⟨n, hn, rfl⟩ := List.mem_map.1 hx'
  exact itoa_no32 (ho n hn).1
 rw [hc]
 unfold readAll
 have hat : ∀ n ∈ base_numbers b, strconv_Atoi (strconv_Itoa n) = (n, true) := fun n hn => atoi_itoa (ho n hn).1 (ho n hn).2
 rw [if_pos]
 ·have hm : ((base_numbers b).map strconv_Itoa).map (fun p => (strconv_Atoi p).1) = base_numbers b := by
   rw [List.map_map]
   conv => rhs; rw [← List.map_id (base_numbers b)]
   exact List.map_congr_left fun n hn => by show (strconv_Atoi (strconv_Itoa n)).1 = n; rw [hat n hn]
  rw [hm]
  unfold fin
  have hk : mkB (base_numbers b) = b := rfl
  rw [if_neg (by show ¬ (((6 : Nat) : Int) != 6) = true; decide), hk, if_neg (by rw [h]; decide)]
 ·rw [List.all_eq_true]
  intro x hx
  obtain ⟨n, hn, rfl⟩ := List.mem_map.1 hx
  unfold okp
  rw [hat n hn]
  simp [(ho n hn).1, (ho n hn).2]
def exB : S_api_Bases := { Group := ({ P := 23, Q := 11, G := 4 } : S_api_Group), G1 := 2, G2 := 3, H := 9 }
def exS : List UInt8 := [50, 51, 32, 49, 49, 32, 52, 32, 50, 32, 51, 32, 57]
theorem ex_valid : base_Valid exB = true := by decide +kernel
theorem ex_txt : txt exB = exS := by
 have d2 : ∀ i : Nat, ¬ i < 10 → i < 100 → strconv_Itoa (i : Int) = [UInt8.ofNat (48 + i / 10), UInt8.ofNat (48 + i % 10)] := fun i h1 h2 => by
  unfold strconv_Itoa; rw [itoa_nonneg, decDigits_two h1 h2]
 have d1 : ∀ i : Nat, i < 10 → strconv_Itoa (i : Int) = [UInt8.ofNat (48 + i)] := fun i h => by
  unfold strconv_Itoa; rw [itoa_nonneg, decDigits_one h]
 unfold txt
 have e : (base_numbers exB).map strconv_Itoa = [[50, 51], [49, 49], [52], [50], [51], [57]] := by
  show [strconv_Itoa ((23 : Nat) : Int), strconv_Itoa ((11 : Nat) : Int), strconv_Itoa ((4 : Nat) : Int), strconv_Itoa ((2 : Nat) : Int), strconv_Itoa ((3 : Nat) : Int), strconv_Itoa ((9 : Nat) : Int)] = _
  rw [d2 23 (by decide) (by decide), d2 11 (by decide) (by decide), d1 4 (by decide), d1 2 (by decide), d1 3 (by decide), d1 9 (by decide)]
  rfl
 rw [e]
 rfl
theorem base_awake : specielaw11_awake = true := by
 unfold specielaw11_awake
 refine letk_go fun x1 h1 => ?_
 refine letk_go fun x4 h4 => ?_
 have e1 : x1 = (exS, 0) := by rw [h1, ← ex_txt]; exact text_eq ex_valid
 have e4 : x4 = (exB, 0) := by rw [h4, ← back ex_valid, ex_txt]; rfl
 rw [e1, e4]
 rw [if_pos (by show (exS == exS) = true; decide), if_pos (by show ((0 : Int) == 0) = true; decide), if_pos (by show q_api_Bases exB exB = true; exact q_refl _), if_pos (by show ((0 : Int) == 0) = true; decide)]
 refine letk_go fun x15 h15 => ?_
 rw [h15]
 decide +kernel
end Go.Proofs.YtbfeamknaiaghaaGreatDoor
namespace Go.Proofs.YtbfeamknaiaghaaGreatDoor
open Go.RowKit Go.Lib
def isD (c : UInt8) : Bool := decide (48 ≤ c.toNat) && decide (c.toNat ≤ 57)
theorem isD_iff {c : UInt8} : isD c = true ↔ 48 ≤ c.toNat ∧ c.toNat ≤ 57 := by simp [isD]
def nv (l : List UInt8) : Nat := l.foldl (fun a c => a * 10 + (c.toNat - 48)) 0
theorem nv_app (l : List UInt8) (c : UInt8) : nv (l ++ [c]) = nv l * 10 + (c.toNat - 48) := by simp [nv]
def gd (l : List UInt8) : Prop := l ≠ [] ∧ l.all isD = true ∧ ¬ (1 < l.length ∧ l.getD 0 0 = 48)
theorem dig_sub {c : UInt8} (h : isD c = true) : convI .i64 (subI .u8 (c.toNat : Int) 48) = ((c.toNat - 48 : Nat) : Int) := by
 rw [isD_iff] at h
 have e : subI .u8 (c.toNat : Int) 48 = ((c.toNat - 48 : Nat) : Int) := by
  unfold subI
  rw [show IntKind.wrap .u8 ((c.toNat : Int) - 48) = ((c.toNat : Int) - 48) % 256 by simp [IntKind.wrap, IntKind.bits, IntKind.signed]]
  omega
 rw [e]; exact conv_i64 (by omega) (by omega)
theorem getD_at {s : List UInt8} {k : Nat} (h : k < s.length) : s.getD ((k : Int)).toNat 0 = s[k] := by
 rw [Int.toNat_natCast, List.getD_eq_getElem?_getD, List.getElem?_eq_getElem h]; rfl
theorem take_at {α : Type} {l : List α} {k : Nat} (h : k < l.length) : l.take (k + 1) = l.take k ++ [l[k]] := by
 rw [List.take_add_one, List.getElem?_eq_getElem h]; rfl
theorem head48 {s : List UInt8} : ((((s.getD 0 0).toNat : Int) == 48) = true) ↔ s.getD 0 0 = 48 := by
 rw [beq_iff_eq]
 constructor
 ·intro h
  have : (s.getD 0 0).toNat = 48 := by omega
  exact UInt8.toNat.inj (by rw [this]; rfl)
 ·intro h; rw [h]; rfl
theorem ofNat_dig {c : UInt8} (h : isD c = true) : UInt8.ofNat (48 + (c.toNat - 48)) = c := by
 rw [isD_iff] at h
 have e : 48 + (c.toNat - 48) = c.toNat := by omega
 rw [e]
 exact UInt8.toNat.inj (by rw [UInt8.toNat_ofNat']; have := c.toNat_lt; omega)
theorem snoc_ind {α : Type} {C : List α → Prop} (h0 : C []) (h1 : ∀ l x, C l → C (l ++ [x])) (l : List α) : C l := by
 have key : ∀ n (l : List α), l.length = n → C l := by
  intro n
  induction n with
  | zero => intro l h; rw [List.length_eq_zero_iff.1 h]; exact h0
  | succ n ih =>
   intro l h
   have hl : l ≠ [] := by intro e; rw [e] at h; cases h
   rw [← List.dropLast_concat_getLast hl]
   exact h1 _ _ (ih _ (by rw [List.length_dropLast]; omega))
 exact key _ l rfl
theorem getD_app {l r : List UInt8} (h : l ≠ []) : (l ++ r).getD 0 0 = l.getD 0 0 := by
 cases l with
 | nil => exact absurd rfl h
 | cons a l => rfl
theorem nv_one {c : UInt8} : nv [c] = c.toNat - 48 := by simp [nv]
theorem dec_one {c : UInt8} (h : isD c = true) : decDigits (nv [c]) = [c] := by
 have h' := isD_iff.1 h
 rw [nv_one, decDigits_one (by omega), ofNat_dig h]
theorem dec_nv_big (a : List UInt8) : a ≠ [] → a.all isD = true → a.getD 0 0 ≠ 48 → 1 ≤ nv a ∧ decDigits (nv a) = a := by
 refine snoc_ind (C := fun a => a ≠ [] → a.all isD = true → a.getD 0 0 ≠ 48 → 1 ≤ nv a ∧ decDigits (nv a) = a) (fun h => absurd rfl h) (fun l x ih => ?_) a
 intro _ hall hh
 rw [List.all_append, Bool.and_eq_true] at hall
 have hx : isD x = true := by simpa using hall.2
 by_cases hl : l = []
 ·subst hl
  rw [List.nil_append] at hh ⊢
  refine ⟨?_, dec_one hx⟩
  rw [nv_one]
  have h' := isD_iff.1 hx
  have : x.toNat ≠ 48 := fun e => hh (UInt8.toNat.inj (by show x.toNat = _; rw [e]; rfl))
  omega
 ·rw [getD_app hl] at hh
  have ⟨h1, h2⟩ := ih hl hall.1 hh
  have h' := isD_iff.1 hx
  rw [nv_app]
  refine ⟨by omega, ?_⟩
  have e1 : (nv l * 10 + (x.toNat - 48)) / 10 = nv l := by omega
  have e2 : (nv l * 10 + (x.toNat - 48)) % 10 = x.toNat - 48 := by omega
  rw [decDigits, dif_neg (by omega), e1, e2, h2, ofNat_dig hx]
theorem dec_nv {a : List UInt8} (h : gd a) : decDigits (nv a) = a := by
 obtain ⟨h0, h1, h2⟩ := h
 match a, h0, h1, h2 with
 | [], h0, _, _ => exact absurd rfl h0
 | [c], _, h1, _ => exact dec_one (by simpa using h1)
 | c :: d :: a, h0, h1, h2 => exact (dec_nv_big _ h0 h1 (fun e => h2 ⟨by simp, e⟩)).2
theorem nv_dec : ∀ u : Nat, nv (decDigits u) = u := by
 intro u
 induction u using Nat.strongRecOn with
 | _ u ih =>
  by_cases h : u < 10
  ·rw [decDigits_one h, nv_one, dig_ok h]; omega
  ·rw [decDigits, dif_neg h, nv_app, ih (u / 10) (by omega), dig_ok (by omega)]; omega
theorem dec_head : ∀ u : Nat, 1 ≤ u → (decDigits u).getD 0 0 ≠ 48 := by
 intro u
 induction u using Nat.strongRecOn with
 | _ u ih =>
  intro h0
  by_cases h : u < 10
  ·rw [decDigits_one h]
   intro e
   have e' : (UInt8.ofNat (48 + u)).toNat = 48 := by
    have : UInt8.ofNat (48 + u) = 48 := e
    rw [this]; rfl
   rw [dig_ok h] at e'; omega
  ·rw [decDigits, dif_neg h, getD_app (dec_ne _)]
   exact ih (u / 10) (by omega) (by omega)
theorem gd_dec (u : Nat) : gd (decDigits u) := by
 refine ⟨dec_ne u, List.all_eq_true.2 fun c hc => isD_iff.2 (dec_digits u c hc), fun h => ?_⟩
 by_cases hu : u < 10
 ·rw [decDigits_one hu] at h
  have := h.1
  simp at this
 ·exact dec_head u (by omega) h.2
theorem itoa_dec {n : Int} (h0 : 0 ≤ n) : strconv_Itoa n = decDigits n.toNat := by
 obtain ⟨u, rfl⟩ := Int.eq_ofNat_of_zero_le h0
 unfold strconv_Itoa
 rw [itoa_nonneg, Int.toNat_natCast]
theorem nv_mono (l r : List UInt8) : nv l ≤ nv (l ++ r) := by
 refine snoc_ind (C := fun r => nv l ≤ nv (l ++ r)) (by rw [List.append_nil]; exact Nat.le_refl _) (fun r x ih => ?_) r
 rw [← List.append_assoc, nv_app]
 omega
theorem nv_big (a : List UInt8) : a ≠ [] → a.all isD = true → a.getD 0 0 ≠ 48 → 10 ^ (a.length - 1) ≤ nv a := by
 refine snoc_ind (C := fun a => a ≠ [] → a.all isD = true → a.getD 0 0 ≠ 48 → 10 ^ (a.length - 1) ≤ nv a) (fun h => absurd rfl h) (fun l x ih => ?_) a
 intro h0 hall hh
 by_cases hl : l = []
 ·subst hl
  have := (dec_nv_big _ h0 hall hh).1
  simpa using this
 ·rw [List.all_append, Bool.and_eq_true] at hall
  rw [getD_app hl] at hh
  have h1 := ih hl hall.1 hh
  have h2 := List.length_pos_iff.2 hl
  rw [nv_app, List.length_append, List.length_singleton, show l.length + 1 - 1 = (l.length - 1) + 1 by omega, Nat.pow_succ]
  omega
theorem gd_len {s : List UInt8} (h : gd s) (hv : nv s < 2305843009213693952) : s.length ≤ 19 := by
 by_cases h1 : 1 < s.length
 ·have h2 := nv_big s h.1 h.2.1 (fun e => h.2.2 ⟨h1, e⟩)
  by_cases h3 : s.length ≤ 19
  ·exact h3
  ·have h4 : 10 ^ 19 ≤ 10 ^ (s.length - 1) := Nat.pow_le_pow_right (by decide) (by omega)
   have h5 : (10 : Nat) ^ 19 = 10000000000000000000 := by decide
   omega
 ·omega
theorem n_step {v : Nat} {c : UInt8} (h : isD c = true) (hv : v ≤ 230584300921369395) : addI .i64 (mulI .i64 10 (v : Int)) (convI .i64 (subI .u8 (c.toNat : Int) 48)) = ((v * 10 + (c.toNat - 48) : Nat) : Int) := by
 rw [dig_sub h]
 rw [isD_iff] at h
 unfold addI mulI
 rw [IntKind.wrap_i64, IntKind.wrap_i64]
 omega
def NumOk (s : List UInt8) (r : Int × Bool) : Prop := (s.all isD = true ∧ nv s < 2305843009213693952 ∧ r = ((nv s : Int), true)) ∨ (¬ (s.all isD = true ∧ nv s < 2305843009213693952) ∧ r.2 = false)
theorem rn_loop {s : List UInt8} {F : (Int × Int → Int × Bool) → Int × Int → Int × Bool} {d : Int × Int → Int × Bool}
  (hF : ∀ ag p, F ag p = if decide (p.2 < (s.length : Int)) = true then (if decide (((s.getD (p.2).toNat 0).toNat : Int) < 48) = true then (0, false) else (if decide (((s.getD (p.2).toNat 0).toNat : Int) > 57) = true then (0, false) else (if decide (p.1 > 230584300921369395) = true then (0, false) else ag ((addI .i64 (mulI .i64 10 p.1) (convI .i64 (subI .u8 ((s.getD (p.2).toNat 0).toNat : Int) 48))), (p.2 + 1))))) else (p.1, decide (p.1 < 2305843009213693952))) :
  NumOk s (iter (((s.length : Int) - 0).toNat + 1) F d (0, 0)) := by
 refine iter_rule (P := fun p : Int × Int => ∃ k : Nat, p.2 = k ∧ k ≤ s.length ∧ (s.take k).all isD = true ∧ p.1 = (nv (s.take k) : Nat)) (Q := NumOk s) (meas := fun p => ((s.length : Int) - p.2).toNat) ?_ _ _ ⟨0, rfl, Nat.zero_le _, rfl, rfl⟩ (by show ((s.length : Int) - 0).toNat < _; omega)
 rintro ag ⟨n, i⟩ ⟨k, e1, e2, e3, e4⟩ ih
 simp only at e1 e4 ih
 subst e1
 rw [hF]
 simp only
 by_cases hk : k < s.length
 ·rw [if_pos (show decide ((k : Int) < (s.length : Int)) = true by simpa using hk), getD_at hk]
  have bad : isD s[k] = false → NumOk s ((0 : Int), false) := fun hb => by
   refine .inr ⟨?_, rfl⟩
   rintro ⟨ha, _⟩
   rw [List.all_eq_true.1 ha s[k] (List.getElem_mem hk)] at hb
   cases hb
  by_cases c1 : s[k].toNat < 48
  ·rw [if_pos (show decide ((s[k].toNat : Int) < 48) = true by simp only [decide_eq_true_eq]; omega)]
   exact bad (by unfold isD; simp; omega)
  rw [if_neg (show ¬ decide ((s[k].toNat : Int) < 48) = true by simp only [decide_eq_true_eq]; omega)]
  by_cases c2 : 57 < s[k].toNat
  ·rw [if_pos (show decide ((s[k].toNat : Int) > 57) = true by simp only [decide_eq_true_eq]; omega)]
   exact bad (by unfold isD; simp; omega)
  rw [if_neg (show ¬ decide ((s[k].toNat : Int) > 57) = true by simp only [decide_eq_true_eq]; omega)]
  have hd : isD s[k] = true := isD_iff.2 ⟨by omega, by omega⟩
  have hm : ((s.length : Int) - ((k : Int) + 1)).toNat < ((s.length : Int) - (k : Int)).toNat := by omega
  have hall : (s.take (k + 1)).all isD = true := by rw [take_at hk, List.all_append, e3]; simp [hd]
  have hnv : nv (s.take (k + 1)) = nv (s.take k) * 10 + (s[k].toNat - 48) := by rw [take_at hk, nv_app]
  subst e4
  by_cases hv : nv (s.take k) ≤ 230584300921369395
  ·rw [if_neg (show ¬ decide (((nv (s.take k) : Nat) : Int) > 230584300921369395) = true by simp only [decide_eq_true_eq]; omega), n_step hd hv, ← hnv]
   exact ih _ ⟨k + 1, by push_cast; rfl, by omega, hall, rfl⟩ hm
  ·rw [if_pos (show decide (((nv (s.take k) : Nat) : Int) > 230584300921369395) = true by simp only [decide_eq_true_eq]; omega)]
   refine .inr ⟨?_, rfl⟩
   rintro ⟨_, h⟩
   have h1 := nv_mono (s.take (k + 1)) (s.drop (k + 1))
   rw [List.take_append_drop] at h1
   omega
 ·rw [if_neg (show ¬ decide ((k : Int) < (s.length : Int)) = true by simpa using hk)]
  have ek : k = s.length := by omega
  rw [ek, List.take_length] at e3 e4
  rw [e4]
  by_cases h : nv s < 2305843009213693952
  ·exact .inl ⟨e3, h, by rw [decide_eq_true (by omega)]⟩
  ·exact .inr ⟨fun g => h g.2, by simp only [decide_eq_false_iff_not]; omega⟩
def rokp (s : List UInt8) (r : Int × Bool) : Prop := (gd s ∧ nv s < 2305843009213693952 ∧ r = ((nv s : Int), true)) ∨ (¬ (gd s ∧ nv s < 2305843009213693952) ∧ r.2 = false)
theorem NumOk.up {s : List UInt8} {r : Int × Bool} (h : NumOk s r) (h0 : s ≠ []) (h1 : ¬ (1 < s.length ∧ s.getD 0 0 = 48)) : rokp s r := by
 rcases h with ⟨h2, h3, h4⟩ | ⟨h2, h3⟩
 ·exact .inl ⟨⟨h0, h2, h1⟩, h3, h4⟩
 ·exact .inr ⟨fun h => h2 ⟨h.1.2.1, h.2⟩, h3⟩
theorem rnum_spec (s : List UInt8) : rokp s (specieref11_number s) := by
 unfold specieref11_number
 by_cases h0 : s = []
 ·rw [if_pos (by rw [h0]; rfl)]
  exact .inr ⟨fun h => h.1.1 h0, rfl⟩
 rw [if_neg (show ¬ (s == []) = true by simpa using h0)]
 by_cases hl : 19 < s.length
 ·rw [if_pos (show decide ((s.length : Int) > 19) = true by simp only [decide_eq_true_eq]; omega)]
  exact .inr ⟨fun h => by have := gd_len h.1 h.2; omega, rfl⟩
 rw [if_neg (show ¬ decide ((s.length : Int) > 19) = true by simp only [decide_eq_true_eq]; omega)]
 by_cases h1 : s.getD 0 0 = 48
 ·rw [if_pos (head48.2 h1)]
  by_cases h2 : 1 < s.length
  ·rw [if_pos (show decide ((s.length : Int) > 1) = true by simp only [decide_eq_true_eq]; omega)]
   exact .inr ⟨fun h => h.1.2.2 ⟨h2, h1⟩, rfl⟩
  ·rw [if_neg (show ¬ decide ((s.length : Int) > 1) = true by simp only [decide_eq_true_eq]; omega)]
   exact (rn_loop (fun ag p => rfl)).up h0 (fun h => h2 h.1)
 ·rw [if_neg (fun h => h1 (head48.1 h))]
  exact (rn_loop (fun ag p => rfl)).up h0 (fun h => h1 h.2)
theorem okp_spec (w : List UInt8) : (gd w ∧ nv w < 2305843009213693952 ∧ okp w = true ∧ (strconv_Atoi w).1 = (nv w : Int)) ∨ (¬ (gd w ∧ nv w < 2305843009213693952) ∧ okp w = false) := by
 by_cases h : gd w ∧ nv w < 2305843009213693952
 ·have e : strconv_Itoa (nv w : Int) = w := by rw [itoa_dec (by omega), Int.toNat_natCast, dec_nv h.1]
  have ha := atoi_itoa (n := (nv w : Int)) (by omega) (by omega)
  rw [e] at ha
  refine .inl ⟨h.1, h.2, ?_, by rw [ha]⟩
  unfold okp
  rw [ha]
  simp [e]
  omega
 ·refine .inr ⟨h, ?_⟩
  rw [Bool.eq_false_iff]
  intro ho
  unfold okp at ho
  simp only [Bool.and_eq_true, decide_eq_true_eq, beq_iff_eq] at ho
  obtain ⟨⟨⟨_, h1⟩, h2⟩, h3⟩ := ho
  generalize (strconv_Atoi w).1 = n at h1 h2 h3
  rw [itoa_dec h1] at h3
  apply h
  rw [← h3]
  refine ⟨gd_dec _, ?_⟩
  rw [nv_dec]; omega
end Go.Proofs.YtbfeamknaiaghaaGreatDoor
namespace Go.Proofs.YtbfeamknaiaghaaGreatDoor
open Go.RowKit Go.Lib
theorem same_num (w : List UInt8) : (specieref11_number w).2 = okp w ∧ (okp w = true → (specieref11_number w).1 = (strconv_Atoi w).1) := by
 rcases rnum_spec w with ⟨g, v, h⟩ | ⟨g, h⟩ <;> rcases okp_spec w with ⟨g', v', h', e⟩ | ⟨g', h'⟩
 ·rw [h, h', e]; exact ⟨rfl, fun _ => rfl⟩
 ·exact absurd ⟨g, v⟩ g'
 ·exact absurd ⟨g', v'⟩ g
 ·rw [h, h']; exact ⟨rfl, fun h => by cases h⟩
theorem byte_ne {c : UInt8} {n : Nat} (hn : n < 256) : (((c.toNat : Int) != (n : Int)) = true) ↔ c ≠ UInt8.ofNat n := by
 rw [bne_iff_ne]
 constructor
 ·intro h e; apply h; rw [e, UInt8.toNat_ofNat']; omega
 ·intro h e
  exact h (UInt8.toNat.inj (by rw [UInt8.toNat_ofNat']; omega))
def readG (l : List Int) (ps : List (List UInt8)) : S_api_Bases × Int := if ps.all okp = true then fin (l ++ ps.map fun p => (strconv_Atoi p).1) else (z_api_Bases, 3)
theorem readG_bad {l : List Int} {w : List UInt8} {ps : List (List UInt8)} (h : okp w = false) : readG l (w :: ps) = (z_api_Bases, 3) := by
 unfold readG
 rw [if_neg (by simp [h])]
theorem readG_cons {l : List Int} {w : List UInt8} {ps : List (List UInt8)} (h : okp w = true) : readG l (w :: ps) = readG (l ++ [(strconv_Atoi w).1]) ps := by
 unfold readG
 simp [h]
theorem readG_nil {l : List Int} : readG l [] = fin l := by simp [readG]
theorem rparse_eq (s : List UInt8) : specieref11_Parse s = if s.length > 200 then (z_api_Bases, 5) else readG [] (cutAll 32 s) := by
 unfold specieref11_Parse
 by_cases hs : s.length > 200
 ·rw [if_pos (show decide ((s.length : Int) > 200) = true by simp only [decide_eq_true_eq]; omega), if_pos hs]
 rw [if_neg (show ¬ decide ((s.length : Int) > 200) = true by simp only [decide_eq_true_eq]; omega), if_neg hs]
 generalize hT : readG [] (cutAll 32 s) = T
 refine iter_rule (P := fun p : List UInt8 × Int × S_api_Bases × List Int => (∃ k : Nat, p.2.1 = k ∧ k ≤ s.length ∧ (32 : UInt8) ∉ p.1 ∧ readG p.2.2.2 (cutAll 32 (p.1 ++ s.drop k)) = T) ∨ (p.2.1 = (s.length : Int) + 1 ∧ fin p.2.2.2 = T)) (Q := fun r => r = T) (meas := fun p => ((s.length : Int) + 1 - p.2.1).toNat) ?_ _ _ (.inl ⟨0, rfl, Nat.zero_le _, by simp, hT⟩) (by show ((s.length : Int) + 1 - 0).toNat < _; omega)
 rintro ag ⟨word, i, b, l⟩ hP ih
 simp only at hP ih
 rcases hP with ⟨k, e1, e2, e3, e4⟩ | ⟨e1, e2⟩
 ·subst e1
  have hn := same_num word
  rw [if_pos (show decide ((k : Int) ≤ (s.length : Int)) = true by simp only [decide_eq_true_eq]; omega)]
  have hm : ((s.length : Int) + 1 - ((k : Int) + 1)).toNat < ((s.length : Int) + 1 - (k : Int)).toNat := by omega
  by_cases hk : k < s.length
  ·rw [if_pos (show decide ((k : Int) < (s.length : Int)) = true by simp only [decide_eq_true_eq]; omega)]
   rw [getD_at hk]
   rw [List.drop_eq_getElem_cons hk] at e4
   by_cases hc : s[k] = 32
   ·rw [if_neg (show ¬ ((s[k].toNat : Int) != 32) = true from fun h => (byte_ne (n := 32) (by decide)).1 h hc)]
    rw [hc, cutAll_app 32 word _ e3] at e4
    refine letk_go fun x14 h14 => ?_
    rw [← h14] at hn
    by_cases ho : okp word = true
    ·rw [if_neg (by rw [hn.1, ho]; decide)]
     rw [readG_cons ho] at e4
     refine ih _ (.inl ⟨k + 1, by push_cast; rfl, by omega, by simp, ?_⟩) hm
     rw [hn.2 ho]
     exact e4
    ·rw [Bool.not_eq_true] at ho
     rw [if_pos (by rw [hn.1, ho]; rfl)]
     rw [readG_bad ho] at e4
     exact e4
   ·rw [if_pos (show ((s[k].toNat : Int) != 32) = true from (byte_ne (n := 32) (by decide)).2 hc)]
    have t1 : ((k : Int) + 1).toNat = k + 1 := by omega
    have ht : (s.drop ((k : Int)).toNat).take (((k : Int) + 1).toNat - ((k : Int)).toNat) = [s[k]] := by
     rw [Int.toNat_natCast, t1, show k + 1 - k = 1 by omega, List.drop_eq_getElem_cons hk]
     rfl
    rw [ht]
    refine ih _ (.inl ⟨k + 1, by push_cast; rfl, by omega, ?_, ?_⟩) hm
    ·intro h
     rcases List.mem_append.1 h with h | h
     ·exact e3 h
     ·exact hc (List.mem_singleton.1 h).symm
    ·rw [List.append_assoc]
     exact e4
  ·rw [if_neg (show ¬ decide ((k : Int) < (s.length : Int)) = true by simp only [decide_eq_true_eq]; omega)]
   have ek : k = s.length := by omega
   rw [ek, List.drop_length, List.append_nil, cutAll_one 32 word e3] at e4
   refine letk_go fun x22 h22 => ?_
   rw [← h22] at hn
   by_cases ho : okp word = true
   ·rw [if_neg (by rw [hn.1, ho]; decide)]
    rw [readG_cons ho, readG_nil] at e4
    refine ih _ (.inr ⟨by rw [ek], ?_⟩) hm
    rw [hn.2 ho]
    exact e4
   ·rw [Bool.not_eq_true] at ho
    rw [if_pos (by rw [hn.1, ho]; rfl)]
    rw [readG_bad ho] at e4
    exact e4
 ·subst e1
  rw [if_neg (show ¬ decide ((s.length : Int) + 1 ≤ (s.length : Int)) = true by simp only [decide_eq_true_eq]; omega)]
  rw [← e2]
  unfold fin
  by_cases h6 : ((l.length : Int) != 6) = true
  ·rw [if_pos h6, if_pos h6]
  ·rw [if_neg h6, if_neg h6]
   refine letk_go fun x39 h39 => ?_
   rw [h39, base_eq]
   rfl
theorem parses_eq (s : List UInt8) : base_Parse s = specieref11_Parse s := by
 rw [parse_eq, rparse_eq]
 rfl
theorem join_snoc {xs : List (List UInt8)} {x sep : List UInt8} (h : xs ≠ []) : Lib.join (xs ++ [x]) sep = Lib.join xs sep ++ sep ++ x := by
 cases xs with
 | nil => exact absurd rfl h
 | cons y ys =>
  rw [List.cons_append, join_cons, join_cons]
  simp [joinTail]
theorem rtext_eq {b : S_api_Bases} (h : base_Valid b = true) : specieref11_Text b = txt b := by
 have ho := base_ok2 h
 unfold specieref11_Text
 refine letk_go fun x1 h1 => ?_
 have hx : x1 = base_numbers b := h1
 rw [hx]
 have tx : ∀ k : Int, 0 ≤ k → k.toNat < (base_numbers b).length → specieref07_Text (specieref11_integer (gt (base_numbers b) k)) = strconv_Itoa (gt (base_numbers b) k) := by
  intro k h0 hk
  have hn := (ho _ (gt_mem hk)).1
  rw [itoa_dec hn]
  rfl
 generalize hL : base_numbers b = L at tx
 have hT : txt b = Lib.join (L.map strconv_Itoa) [32] := by unfold txt; rw [hL]
 rw [hT]
 refine iter_rule (P := fun p : List UInt8 × Int => ∃ k : Nat, p.2 = k ∧ k ≤ L.length ∧ p.1 = Lib.join ((L.take k).map strconv_Itoa) [32]) (Q := fun r => r = Lib.join (L.map strconv_Itoa) [32]) (meas := fun p => ((L.length : Int) - p.2).toNat) ?_ _ _ ⟨0, rfl, Nat.zero_le _, rfl⟩ (by show ((L.length : Int) - 0).toNat < _; omega)
 rintro ag ⟨acc, i⟩ ⟨k, e1, e2, e3⟩ ih
 simp only at e1 e3 ih
 subst e1
 by_cases hi : (k : Int) < (L.length : Int)
 ·rw [if_pos (show decide ((k : Int) < (L.length : Int)) = true by simpa using hi)]
  have hm1 : ((L.length : Int) - ((k : Int) + 1)).toNat < ((L.length : Int) - (k : Int)).toNat := by omega
  simp only [letk, tx (k : Int) (by omega) (by omega)]
  by_cases h0 : (k : Int) > 0
  ·rw [if_pos (show decide ((k : Int) > 0) = true by simpa using h0)]
   refine ih _ ⟨k + 1, by push_cast; rfl, by omega, ?_⟩ hm1
   rw [take_gt (by omega), List.map_append]
   show _ = Lib.join ((L.take k).map strconv_Itoa ++ [strconv_Itoa (gt L (k : Int))]) [32]
   rw [join_snoc (by intro h1; have h2 := congrArg List.length h1; rw [List.length_map, List.length_take, List.length_nil] at h2; omega), e3]
  ·rw [if_neg (show ¬ decide ((k : Int) > 0) = true by simpa using h0)]
   refine ih _ ⟨k + 1, by push_cast; rfl, by omega, ?_⟩ hm1
   have ek : k = 0 := by omega
   subst ek
   rw [take_gt (by omega), List.map_append, e3]
   show _ = Lib.join [strconv_Itoa (gt L ((0 : Nat) : Int))] [32]
   rw [join_one]
   simp [join_nil]
 ·rw [if_neg (show ¬ decide ((k : Int) < (L.length : Int)) = true by simpa using hi)]
  have ek : k = L.length := by omega
  rw [ek, List.take_length] at e3
  exact e3
end Go.Proofs.YtbfeamknaiaghaaGreatDoor
namespace Go.Proofs.YtbfeamknaiaghaaGreatDoor
open Go.RowKit Go.Lib
theorem item_eq {b : S_api_Bases} (h : base_Valid b = true) : base_Item b = (intsI (base_numbers b), 0) := by
 unfold base_Item
 refine letk_go fun x1 h1 => ?_
 rw [if_neg (by rw [h1, h]; decide)]
 refine letk_go fun x7 h7 => ?_
 refine letk_go fun x11 h11 => ?_
 rw [h11, Ints_eq, h7]
theorem item_bad {b : S_api_Bases} (h : base_Valid b = false) : base_Item b = (z_api_Item, 1) := by
 unfold base_Item
 refine letk_go fun x1 h1 => ?_
 rw [if_pos (by rw [h1, h]; decide)]
theorem ritem_eq (b : S_api_Bases) : specieref11_Item b = intsI (base_numbers b) := by rfl
theorem within_b (b : S_api_Bases) : withinM (intsI (base_numbers b)) 8 = true := by
 simp [intsI, intI, base_numbers, withinM, withinL]
theorem enc_b (b : S_api_Bases) : encode_Encode (intsI (base_numbers b)) = (encI (intsI (base_numbers b)), 0) := by
 have hl := encI_len (intsI (base_numbers b))
 have hh : hgt (intsI (base_numbers b)) = 7 := by rw [hgt_ints]; rfl
 rw [encode_Encode_eq, if_neg (by rw [within_b]; decide), if_neg (by omega)]
def baseTag : List UInt8 := [115, 112, 101, 99, 105, 101, 47, 98, 97, 115, 101, 115]
theorem digest_eq {b : S_api_Bases} (h : base_Valid b = true) : base_Digest b = ((digest_Tagged baseTag (encI (intsI (base_numbers b)))).1, 0) := by
 unfold base_Digest
 refine letk_go fun x1 h1 => ?_
 rw [item_eq h] at h1
 rw [if_neg (by rw [h1]; show ¬ ((0 : Int) != 0) = true; decide)]
 refine letk_go fun x7 h7 => ?_
 refine letk_go fun x10 h10 => ?_
 have e7 : x7 = (encI (intsI (base_numbers b)), 0) := by rw [h7, h1]; exact enc_b b
 rw [h10, e7]
 rfl
theorem digest_bad {b : S_api_Bases} (h : base_Valid b = false) : base_Digest b = ([0, 0, 0, 0, 0, 0, 0, 0, 0, 0, 0, 0, 0, 0, 0, 0, 0, 0, 0, 0, 0, 0, 0, 0, 0, 0, 0, 0, 0, 0, 0, 0], 1) := by
 unfold base_Digest
 refine letk_go fun x1 h1 => ?_
 rw [item_bad h] at h1
 rw [if_pos (by rw [h1]; show ((1 : Int) != 0) = true; decide), h1]
theorem rdigest_eq {b : S_api_Bases} (h : base_Valid b = true) : specieref11_Digest b = (base_Digest b).1 := by
 rw [digest_eq h]
 have ho := base_ok2 h
 have hok : okI (intsI (base_numbers b)) := ok_ints fun x hx => by
  have := ho x hx
  unfold r64
  omega
 have hl := encI_len (intsI (base_numbers b))
 have hh : hgt (intsI (base_numbers b)) = 7 := by rw [hgt_ints]; rfl
 rw [tagged_eq (tag := baseTag) (by decide) (by decide) (encI_isB _ hok) (by omega)]
 unfold specieref11_Digest baseTag
 refine letk_go fun x1 h1 => letk_go fun x5 h5 => letk_go fun x9 h9 => ?_
 rw [h9, h5, h1, ritem_eq]
mutual
theorem same_self : ∀ i : S_api_Item, sameM i i = true
 | ⟨k, n, b, l⟩ => by
  have := same_selfL l
  simp [sameM, this]
theorem same_selfL : ∀ l : List S_api_Item, sameL l l = true
 | [] => by simp [sameL]
 | x :: l => by simp [sameL, same_self x, same_selfL l]
end
theorem q_arr_self (a : List Int) : q_arr35 a a = true := by
 unfold q_arr35
 simp
theorem specielaw11_BaseForms_true (b : S_api_Bases) (s : List UInt8) : specielaw11_BaseForms b s = true := by
 have hb : ({ Group := b.Group, G1 := b.G1, G2 := b.G2, H := b.H } : S_api_Bases) = b := rfl
 unfold specielaw11_BaseForms
 simp only [letk, base_awake, ← parses_eq, ← base_eq, hb, Bool.not_true, Bool.false_eq_true, if_false, q_refl, bne_self_eq_false, ritem_eq]
 by_cases hs : (s.length : Int) > 300
 ·simp [hs]
 ·by_cases hv : base_Valid b = true
  ·have hd := digest_eq hv
   simp [hs, hv, item_eq hv, rdigest_eq hv, hd, text_eq hv, rtext_eq hv, same_self, q_arr_self]
  ·rw [Bool.not_eq_true] at hv
   simp [hs, hv, item_bad hv, digest_bad hv, text_bad hv, same_self, q_arr_self]
end Go.Proofs.YtbfeamknaiaghaaGreatDoor
