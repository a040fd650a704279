/- Texts of this proof, one after the other: U4, U5, L1. -/
import Derived.Test.YtjnikknlcmbcmaaGreatDoorZ8
import Derived.Test.YtjnikknlcmbcmaaGreatDoorZ6
set_option linter.unusedVariables false
set_option linter.unusedSimpArgs false
namespace Go.Proofs.YtjnikknlcmbcmaaGreatDoor
open Go.RowKit
set_option linter.unusedSimpArgs false
set_option maxHeartbeats 2000000 in
set_option maxRecDepth 100000 in
instance withdraw_FromItem_ok   (i_ : S_api_Item)  : CM En (withdraw_FromItem i_) 44 [.agg [.int .i64 i_.Kind, .int .i64 i_.N, .sl none 1 false (i_.B.map (V.int .u8)), .sl none 4 true (i_.L.map e_api_Item)]] (fun y => .tup [(e_api_Withdrawal y.1), .int .i64 y.2]) (fun _ => []) := by
 refine cmQ fun r hM => ?_
 rw [withdraw_FromItem.eq_1] at hM
 refine enterV En_ok En_mo noJ Tryz.func44 rfl Tryz.ntmps44 (by kernel_rfl) fun hw => ct_start ?_
 refine spQ ?_
 replace hw := nzQ hw
 have hM0 := hM; clear hM; obtain ⟨x1, hx2, hM⟩ := letk_opn hM0; clear hM0
 have hcx1 := cmU hx2
 refine callC_give hcx1 clQ clQ (fun hw3 => ?_)
 replace hw3 := nzQ hw3
 refine spQ ?_
 refine condC_intro (fun h4 => ?_) (fun h4 => ?_)
 ·rw [if_pos h4] at hM
  refine spQA h4 ?_
  have nh4 := nzQ h4
  try have hr5 := mpQ nh4
  subst hM
  exact retC_view (lfQA h4)
 ·rw [if_neg (ne_true h4)] at hM
  refine spQA h4 ?_
  have nh4 := nzQ h4
  try have hr6 := mpQ nh4
  refine guardC_f (fun h7 => ?_) (fun h7 => ?_)
  ·rw [if_neg (ne_true h7)] at hM
   refine spQA h7 ?_
   have nh7 := nzQ h7
   try have hr8 := mpQ nh7
   refine condC_intro (fun h9 => ?_) (fun h9 => ?_)
   ·rw [if_pos h9] at hM
    refine spQA h9 ?_
    have nh9 := nzQ h9
    try have hr10 := mpQ nh9
    subst hM
    exact retC_view (lfQA (And.intro h4 (And.intro h7 h9)))
   ·rw [if_neg (ne_true h9)] at hM
    refine spQA h9 ?_
    have nh9 := nzQ h9
    try have hr11 := mpQ nh9
    have hM0 := hM; clear hM; obtain ⟨f12, d12, hf12, hd12, hM⟩ := iter_opn hM0; clear hM0
    refine ct_loop (fun n S => ∃ p : Int × S_api_Withdrawal × (List (List Int)), S = (⟨[(1, .ptr 0 0), (2, .ptr 1 0), (4, .ptr 2 0), (32, .int .i64 p.1)], [(0, .var 4 true (.agg [.int .i64 i_.Kind, .int .i64 i_.N, .sl none 1 false (i_.B.map (V.int .u8)), .sl none 4 true (i_.L.map e_api_Item)])), (1, .var 59 true ((e_api_Withdrawal p.2.1))), (2, .var 4 true (.agg [.sl none 1 false ((gt p.2.2 0).map (V.int .i64)), .sl none 1 false ((gt p.2.2 1).map (V.int .i64)), .sl none 1 false ((gt p.2.2 2).map (V.int .i64)), .sl none 1 false ((gt p.2.2 3).map (V.int .i64))]))], 3⟩ : St) ∧ (((0 ≤ p.1) ∧ (p.1 ≤ 4)) ∧ (le4 p.2.2)) ∧ ((4 : Int) - p.1).toNat < n ∧ iter n f12 d12 p = r) (((4 : Int) - 0).toNat + 1) _ sbQ (by simp only [go_sem, rowV_eq, rowV_eq0, List.length_replicate, rep_len, Int.toNat_natCast, ↓reduceIte, Nat.reduceEqDiff, Nat.reduceAdd, Int.reduceAdd, Nat.reduceMul, Nat.reduceLeDiff, Nat.reduceLT, Int.reduceLE, Int.reduceLT, Int.reduceNeg, Int.reduceToNat, List.isEmpty_nil, map_st, mtL_repE, mtL_repM, subF, subH, mtO, mtB, mt, mtL, mtL_self, mt_self, ltV, ltL, ltB, eq_self, or_true, true_or, or_self, and_self, gt_cons0, gt_conss, Int.reduceSub]) ⟨(0, z_api_Withdrawal, [([] : List Int), ([] : List Int), ([] : List Int), ([] : List Int)]), rfl, ⟨⟨by (first | exact omQ | (clear hM; first | (have h9 := hF7_0 1; exact omQ'))), by (first | exact omQ | (clear hM; first | (have h9 := hF7_0 1; exact omQ')))⟩, by (exact le4_nil)⟩, (Nat.lt_succ_self _), hM⟩ ?_
    clear hM
    rintro n12 S ⟨p12, rfl, ⟨hfa12, hF7_0⟩, hm12, hM⟩
    have hM0 := hM; clear hM; obtain ⟨ag12, hag12, hM⟩ := iter_step hM0 (by omega) hf12; clear hM0
    replace hfa12 := nzQ hfa12
    replace hm12 := nzQ hm12
    have ha12 : addI .i64 p12.1 1 = p12.1 + 1 := add_one (by (first | exact omQ | (clear hM; first | (have h9 := hF7_0 1; exact omQ')))) (by (first | exact omQ | (clear hM; first | (have h9 := hF7_0 1; exact omQ'))))
    refine spQA ha12 ?_
    refine condC_intro (fun h13 => ?_) (fun h13 => ?_)
    ·rw [if_pos h13] at hM
     refine spQA (And.intro ha12 h13) ?_
     have nh13 := nzQ h13
     try have hr14 := mpQ nh13
     refine bindC_intro (by (first | exact omQ | (clear hM; first | (have h9 := hF7_0 1; exact omQ')))) ?_
     have he15 := fun d => elt_mp (l := i_.L) (f := e_api_Item) (i := p12.1) (by (first | exact omQ | (clear hM; first | (have h9 := hF7_0 1; exact omQ')))) d
     refine spQA (And.intro ha12 he15) ?_
     have hM0 := hM; clear hM; obtain ⟨x16, hx17, hM⟩ := letk_opn hM0; clear hM0
     have hcx16 := cmU hx17
     refine callC_give hcx16 (clQA (And.intro ha12 he15)) (clQA (And.intro ha12 he15)) (fun hw18 => ?_)
     replace hw18 := nzQ hw18
     refine spQA (And.intro ha12 he15) ?_
     refine condC_intro (fun h19 => ?_) (fun h19 => ?_)
     ·rw [if_pos h19] at hM
      refine spQA (And.intro ha12 (And.intro he15 h19)) ?_
      have nh19 := nzQ h19
      try have hr20 := mpQ nh19
      subst hM
      exact retC_view (lfQA (And.intro ha12 (And.intro he15 (And.intro h4 (And.intro h7 (And.intro h9 (And.intro h13 h19)))))))
     ·rw [if_neg (ne_true h19)] at hM
      refine spQA (And.intro ha12 (And.intro he15 h19)) ?_
      have nh19 := nzQ h19
      try have hr21 := mpQ nh19
      refine bindC_intro (by (first | exact omQ | (clear hM; first | (have h9 := hF7_0 1; exact omQ')))) ?_
      have he22 : ((p12.1).toNat * 1 + 1 ≤ 4) = True := eq_true (by (first | exact omQ | (clear hM; first | (have h9 := hF7_0 1; exact omQ'))))
      refine spQA (And.intro ha12 (And.intro he15 he22)) ?_
      have he23 := arr_put (f := (fun (l : List Int) => V.sl none 1 false (l.map (V.int .i64)))) (l := (arrN 4 p12.2.2)) (n := 4) (i := p12.1) (v := x16.1) arrN_len (by (first | exact omQ | (clear hM; first | (have h9 := hF7_0 1; exact omQ'))))
      replace he23 := spR he23
      refine spQA (And.intro ha12 (And.intro he15 (And.intro he22 he23))) ?_
      refine lp_intro (n12 - 1) _ (by omega) sbQ (by simp only [go_sem, rowV_eq, rowV_eq0, List.length_replicate, rep_len, Int.toNat_natCast, ↓reduceIte, Nat.reduceEqDiff, Nat.reduceAdd, Int.reduceAdd, Nat.reduceMul, Nat.reduceLeDiff, Nat.reduceLT, Int.reduceLE, Int.reduceLT, Int.reduceNeg, Int.reduceToNat, List.isEmpty_nil, map_st, mtL_repE, mtL_repM, subF, subH, mtO, mtB, mt, mtL, mtL_self, mt_self, ltV, ltL, ltB, eq_self, or_true, true_or, or_self, and_self, gt_cons0, gt_conss, Int.reduceSub]) ⟨((p12.1 + 1), p12.2.1, (arrN 4 (st (arrN 4 p12.2.2) p12.1 (x16.1)))), rfl, ⟨⟨by (first | exact omQ | (clear hM; first | (have h9 := hF7_0 1; exact omQ'))), by (first | exact omQ | (clear hM; first | (have h9 := hF7_0 1; exact omQ')))⟩, by (exact le4_st hF7_0 (Numbers_le ‹_ = encode_Numbers _›))⟩, by (first | exact omQ | (clear hM; first | (have h9 := hF7_0 1; exact omQ'))), iter_again hM hag12⟩
    ·rw [if_neg (ne_true h13)] at hM
     refine spQA (And.intro ha12 h13) ?_
     have nh13 := nzQ h13
     try have hr24 := mpQ nh13
     refine ct_draw 176 11 [8, 9, 10, 51, 52, 53, 54, 55, 56, 57, 58] [] ([[], [0], [], [2], [], [4], [], [6], [0, 1], [2, 3], [4, 5]] ++ [List.range 11]) [] (by kernel_rfl) (by exact alQ) ?_
     refine spQA ha12 ?_
     refine bindC_intro (by (first | exact omQ | (clear hM; first | (have h9 := hF7_0 1; exact omQ')))) ?_
     have he25 : ∀ d, elt (i_.L.map e_api_Item) 4 d = e_api_Item (gt i_.L 4) := fun d => elt_mp (l := i_.L) (f := e_api_Item) (i := 4) (by (first | exact omQ | (clear hM; first | (have h9 := hF7_0 1; exact omQ')))) d
     refine spQA (And.intro ha12 he25) ?_
     have hM0 := hM; clear hM; obtain ⟨x26, hx27, hM⟩ := letk_opn hM0; clear hM0
     have hcx26 := cmU hx27
     refine callC_give hcx26 (clQA (And.intro ha12 he25)) (clQA (And.intro ha12 he25)) (fun hw28 => ?_)
     replace hw28 := nzQ hw28
     refine spQA (And.intro ha12 he25) ?_
     refine guardC_f (fun h29 => ?_) (fun h29 => ?_)
     ·rw [if_neg (ne_true h29)] at hM
      refine spQA (And.intro ha12 (And.intro he25 h29)) ?_
      have nh29 := nzQ h29
      try have hr30 := mpQ nh29
      refine guardC_f (fun h31 => ?_) (fun h31 => ?_)
      ·rw [if_neg (ne_true h31)] at hM
       refine spQA (And.intro ha12 (And.intro he25 h31)) ?_
       have nh31 := nzQ h31
       try have hr32 := mpQ nh31
       refine guardC_f (fun h33 => ?_) (fun h33 => ?_)
       ·rw [if_neg (ne_true h33)] at hM
        refine spQA (And.intro ha12 (And.intro he25 h33)) ?_
        have nh33 := nzQ h33
        try have hr34 := mpQ nh33
        refine bindC_intro (by (first | exact omQ | (clear hM; first | (have h9 := hF7_0 1; exact omQ')))) ?_
        refine spQA (And.intro ha12 he25) ?_
        refine guardC_f (fun h35 => ?_) (fun h35 => ?_)
        ·rw [if_neg (ne_true h35)] at hM
         refine spQA (And.intro ha12 (And.intro he25 h35)) ?_
         have nh35 := nzQ h35
         try have hr36 := mpQ nh35
         refine guardC_f (fun h37 => ?_) (fun h37 => ?_)
         ·rw [if_neg (ne_true h37)] at hM
          refine spQA (And.intro ha12 (And.intro he25 h37)) ?_
          have nh37 := nzQ h37
          try have hr38 := mpQ nh37
          refine condC_intro (fun h39 => ?_) (fun h39 => ?_)
          ·rw [if_pos h39] at hM
           refine spQA (And.intro ha12 (And.intro he25 h39)) ?_
           have nh39 := nzQ h39
           try have hr40 := mpQ nh39
           subst hM
           exact retC_view (lfQA (And.intro ha12 (And.intro he25 (And.intro h4 (And.intro h7 (And.intro h9 (And.intro h13 (And.intro h29 (And.intro h31 (And.intro h33 (And.intro h35 (And.intro h37 h39))))))))))))
          ·rw [if_neg (ne_true h39)] at hM
           refine spQA (And.intro ha12 (And.intro he25 h39)) ?_
           have nh39 := nzQ h39
           try have hr41 := mpQ nh39
           refine ct_draw 176 57 [14, 96, 97, 98, 99, 100, 101, 102, 103, 104, 105, 106, 107, 108, 109, 110, 111, 112, 113, 114, 115, 116, 117, 118, 119, 120, 121, 122, 123, 124, 125, 126, 127, 128, 129, 130, 131, 132, 133, 134, 135, 136, 137, 138, 139, 140, 141, 142, 143, 144, 145, 146, 147, 148, 149, 150, 151] [] ([[], [0], [0, 1], [], [3], [3, 4], [], [6], [6, 7], [], [9], [9, 10], [], [12], [12, 13], [], [15], [15, 16], [], [18], [18, 19], [], [21], [21, 22], [18, 19, 20, 21, 22, 23], [], [25], [25, 26], [], [28], [28, 29], [], [31], [31, 32], [25, 26, 27, 28, 29, 30, 31, 32, 33], [], [35], [35, 36], [], [38], [38, 39], [], [41], [41, 42], [], [44], [44, 45], [], [47], [47, 48], [], [50], [50, 51], [35, 36, 37, 38, 39, 40, 41, 42, 43, 44, 45, 46, 47, 48, 49, 50, 51, 52], [], [0, 1, 2, 3, 4, 5, 6, 7, 8, 9, 10, 11, 12, 13, 14, 15, 16, 17, 18, 19, 20, 21, 22, 23, 24, 25, 26, 27, 28, 29, 30, 31, 32, 33, 34, 35, 36, 37, 38, 39, 40, 41, 42, 43, 44, 45, 46, 47, 48, 49, 50, 51, 52, 53, 54], []] ++ [List.range 57]) [] (by kernel_rfl) (by exact alQ) ?_
           refine spQA (And.intro ha12 he25) ?_
           refine hbindC_intro (by (first | exact omQ | (clear hM; first | (have h9 := hF7_0 1; exact omQ')))) ?_
           have he42 : ∀ d, elt ((gt p12.2.2 0).map (V.int .i64)) 0 d = (V.int .i64) (gt (gt p12.2.2 0) 0) := fun d => elt_mp (l := (gt p12.2.2 0)) (f := (V.int .i64)) (i := 0) (by (first | exact omQ | (clear hM; first | (have h9 := hF7_0 1; exact omQ')))) d
           refine spQA (And.intro ha12 (And.intro he25 he42)) ?_
           refine hbindC_intro (by (first | exact omQ | (clear hM; first | (have h9 := hF7_0 1; exact omQ')))) ?_
           have he43 : ∀ d, elt ((gt p12.2.2 0).map (V.int .i64)) 1 d = (V.int .i64) (gt (gt p12.2.2 0) 1) := fun d => elt_mp (l := (gt p12.2.2 0)) (f := (V.int .i64)) (i := 1) (by (first | exact omQ | (clear hM; first | (have h9 := hF7_0 1; exact omQ')))) d
           refine spQA (And.intro ha12 (And.intro he25 (And.intro he42 he43))) ?_
           refine hbindC_intro (by (first | exact omQ | (clear hM; first | (have h9 := hF7_0 1; exact omQ')))) ?_
           have he44 : ∀ d, elt ((gt p12.2.2 0).map (V.int .i64)) 2 d = (V.int .i64) (gt (gt p12.2.2 0) 2) := fun d => elt_mp (l := (gt p12.2.2 0)) (f := (V.int .i64)) (i := 2) (by (first | exact omQ | (clear hM; first | (have h9 := hF7_0 1; exact omQ')))) d
           refine spQA (And.intro ha12 (And.intro he25 (And.intro he42 (And.intro he43 he44)))) ?_
           refine hbindC_intro (by (first | exact omQ | (clear hM; first | (have h9 := hF7_0 1; exact omQ')))) ?_
           have he45 : ∀ d, elt ((gt p12.2.2 0).map (V.int .i64)) 3 d = (V.int .i64) (gt (gt p12.2.2 0) 3) := fun d => elt_mp (l := (gt p12.2.2 0)) (f := (V.int .i64)) (i := 3) (by (first | exact omQ | (clear hM; first | (have h9 := hF7_0 1; exact omQ')))) d
           refine spQA (And.intro ha12 (And.intro he25 (And.intro he42 (And.intro he43 (And.intro he44 he45))))) ?_
           refine hbindC_intro (by (first | exact omQ | (clear hM; first | (have h9 := hF7_0 1; exact omQ')))) ?_
           have he46 : ∀ d, elt ((gt p12.2.2 0).map (V.int .i64)) 4 d = (V.int .i64) (gt (gt p12.2.2 0) 4) := fun d => elt_mp (l := (gt p12.2.2 0)) (f := (V.int .i64)) (i := 4) (by (first | exact omQ | (clear hM; first | (have h9 := hF7_0 1; exact omQ')))) d
           refine spQA (And.intro ha12 (And.intro he25 (And.intro he42 (And.intro he43 (And.intro he44 (And.intro he45 he46)))))) ?_
           refine hbindC_intro (by (first | exact omQ | (clear hM; first | (have h9 := hF7_0 1; exact omQ')))) ?_
           have he47 : ∀ d, elt ((gt p12.2.2 0).map (V.int .i64)) 5 d = (V.int .i64) (gt (gt p12.2.2 0) 5) := fun d => elt_mp (l := (gt p12.2.2 0)) (f := (V.int .i64)) (i := 5) (by (first | exact omQ | (clear hM; first | (have h9 := hF7_0 1; exact omQ')))) d
           refine spQA (And.intro ha12 (And.intro he25 (And.intro he42 (And.intro he43 (And.intro he44 (And.intro he45 (And.intro he46 he47))))))) ?_
           refine hbindC_intro (by (first | exact omQ | (clear hM; first | (have h9 := hF7_0 1; exact omQ')))) ?_
           have he48 : ∀ d, elt ((gt p12.2.2 1).map (V.int .i64)) 0 d = (V.int .i64) (gt (gt p12.2.2 1) 0) := fun d => elt_mp (l := (gt p12.2.2 1)) (f := (V.int .i64)) (i := 0) (by (first | exact omQ | (clear hM; first | (have h9 := hF7_0 1; exact omQ')))) d
           refine spQA (And.intro ha12 (And.intro he25 (And.intro he42 (And.intro he43 (And.intro he44 (And.intro he45 (And.intro he46 (And.intro he47 he48)))))))) ?_
           refine hbindC_intro (by (first | exact omQ | (clear hM; first | (have h9 := hF7_0 1; exact omQ')))) ?_
           have he49 : ∀ d, elt ((gt p12.2.2 1).map (V.int .i64)) 1 d = (V.int .i64) (gt (gt p12.2.2 1) 1) := fun d => elt_mp (l := (gt p12.2.2 1)) (f := (V.int .i64)) (i := 1) (by (first | exact omQ | (clear hM; first | (have h9 := hF7_0 1; exact omQ')))) d
           refine spQA (And.intro ha12 (And.intro he25 (And.intro he42 (And.intro he43 (And.intro he44 (And.intro he45 (And.intro he46 (And.intro he47 (And.intro he48 he49))))))))) ?_
           refine hbindC_intro (by (first | exact omQ | (clear hM; first | (have h9 := hF7_0 1; exact omQ')))) ?_
           have he50 : ∀ d, elt ((gt p12.2.2 2).map (V.int .i64)) 0 d = (V.int .i64) (gt (gt p12.2.2 2) 0) := fun d => elt_mp (l := (gt p12.2.2 2)) (f := (V.int .i64)) (i := 0) (by (first | exact omQ | (clear hM; first | (have h9 := hF7_0 1; exact omQ')))) d
           refine spQA (And.intro ha12 (And.intro he25 (And.intro he42 (And.intro he43 (And.intro he44 (And.intro he45 (And.intro he46 (And.intro he47 (And.intro he48 (And.intro he49 he50)))))))))) ?_
           refine hbindC_intro (by (first | exact omQ | (clear hM; first | (have h9 := hF7_0 1; exact omQ')))) ?_
           have he51 : ∀ d, elt ((gt p12.2.2 2).map (V.int .i64)) 1 d = (V.int .i64) (gt (gt p12.2.2 2) 1) := fun d => elt_mp (l := (gt p12.2.2 2)) (f := (V.int .i64)) (i := 1) (by (first | exact omQ | (clear hM; first | (have h9 := hF7_0 1; exact omQ')))) d
           refine spQA (And.intro ha12 (And.intro he25 (And.intro he42 (And.intro he43 (And.intro he44 (And.intro he45 (And.intro he46 (And.intro he47 (And.intro he48 (And.intro he49 (And.intro he50 he51))))))))))) ?_
           refine hbindC_intro (by (first | exact omQ | (clear hM; first | (have h9 := hF7_0 1; exact omQ')))) ?_
           have he52 : ∀ d, elt ((gt p12.2.2 2).map (V.int .i64)) 2 d = (V.int .i64) (gt (gt p12.2.2 2) 2) := fun d => elt_mp (l := (gt p12.2.2 2)) (f := (V.int .i64)) (i := 2) (by (first | exact omQ | (clear hM; first | (have h9 := hF7_0 1; exact omQ')))) d
           refine spQA (And.intro ha12 (And.intro he25 (And.intro he42 (And.intro he43 (And.intro he44 (And.intro he45 (And.intro he46 (And.intro he47 (And.intro he48 (And.intro he49 (And.intro he50 (And.intro he51 he52)))))))))))) ?_
           refine hbindC_intro (by (first | exact omQ | (clear hM; first | (have h9 := hF7_0 1; exact omQ')))) ?_
           have he53 : ∀ d, elt ((gt p12.2.2 3).map (V.int .i64)) 0 d = (V.int .i64) (gt (gt p12.2.2 3) 0) := fun d => elt_mp (l := (gt p12.2.2 3)) (f := (V.int .i64)) (i := 0) (by (first | exact omQ | (clear hM; first | (have h9 := hF7_0 1; exact omQ')))) d
           refine spQA (And.intro ha12 (And.intro he25 (And.intro he42 (And.intro he43 (And.intro he44 (And.intro he45 (And.intro he46 (And.intro he47 (And.intro he48 (And.intro he49 (And.intro he50 (And.intro he51 (And.intro he52 he53))))))))))))) ?_
           refine hbindC_intro (by (first | exact omQ | (clear hM; first | (have h9 := hF7_0 1; exact omQ')))) ?_
           have he54 : ∀ d, elt ((gt p12.2.2 3).map (V.int .i64)) 1 d = (V.int .i64) (gt (gt p12.2.2 3) 1) := fun d => elt_mp (l := (gt p12.2.2 3)) (f := (V.int .i64)) (i := 1) (by (first | exact omQ | (clear hM; first | (have h9 := hF7_0 1; exact omQ')))) d
           refine spQA (And.intro ha12 (And.intro he25 (And.intro he42 (And.intro he43 (And.intro he44 (And.intro he45 (And.intro he46 (And.intro he47 (And.intro he48 (And.intro he49 (And.intro he50 (And.intro he51 (And.intro he52 (And.intro he53 he54)))))))))))))) ?_
           refine hbindC_intro (by (first | exact omQ | (clear hM; first | (have h9 := hF7_0 1; exact omQ')))) ?_
           have he55 : ∀ d, elt ((gt p12.2.2 3).map (V.int .i64)) 2 d = (V.int .i64) (gt (gt p12.2.2 3) 2) := fun d => elt_mp (l := (gt p12.2.2 3)) (f := (V.int .i64)) (i := 2) (by (first | exact omQ | (clear hM; first | (have h9 := hF7_0 1; exact omQ')))) d
           refine spQA (And.intro ha12 (And.intro he25 (And.intro he42 (And.intro he43 (And.intro he44 (And.intro he45 (And.intro he46 (And.intro he47 (And.intro he48 (And.intro he49 (And.intro he50 (And.intro he51 (And.intro he52 (And.intro he53 (And.intro he54 he55))))))))))))))) ?_
           refine hbindC_intro (by (first | exact omQ | (clear hM; first | (have h9 := hF7_0 1; exact omQ')))) ?_
           have he56 : ∀ d, elt ((gt p12.2.2 3).map (V.int .i64)) 3 d = (V.int .i64) (gt (gt p12.2.2 3) 3) := fun d => elt_mp (l := (gt p12.2.2 3)) (f := (V.int .i64)) (i := 3) (by (first | exact omQ | (clear hM; first | (have h9 := hF7_0 1; exact omQ')))) d
           refine spQA (And.intro ha12 (And.intro he25 (And.intro he42 (And.intro he43 (And.intro he44 (And.intro he45 (And.intro he46 (And.intro he47 (And.intro he48 (And.intro he49 (And.intro he50 (And.intro he51 (And.intro he52 (And.intro he53 (And.intro he54 (And.intro he55 he56)))))))))))))))) ?_
           refine hbindC_intro (by (first | exact omQ | (clear hM; first | (have h9 := hF7_0 1; exact omQ')))) ?_
           have he57 : ∀ d, elt ((gt p12.2.2 3).map (V.int .i64)) 4 d = (V.int .i64) (gt (gt p12.2.2 3) 4) := fun d => elt_mp (l := (gt p12.2.2 3)) (f := (V.int .i64)) (i := 4) (by (first | exact omQ | (clear hM; first | (have h9 := hF7_0 1; exact omQ')))) d
           refine spQA (And.intro ha12 (And.intro he25 (And.intro he42 (And.intro he43 (And.intro he44 (And.intro he45 (And.intro he46 (And.intro he47 (And.intro he48 (And.intro he49 (And.intro he50 (And.intro he51 (And.intro he52 (And.intro he53 (And.intro he54 (And.intro he55 (And.intro he56 he57))))))))))))))))) ?_
           refine hbindC_intro (by (first | exact omQ | (clear hM; first | (have h9 := hF7_0 1; exact omQ')))) ?_
           have he58 : ∀ d, elt ((gt p12.2.2 3).map (V.int .i64)) 5 d = (V.int .i64) (gt (gt p12.2.2 3) 5) := fun d => elt_mp (l := (gt p12.2.2 3)) (f := (V.int .i64)) (i := 5) (by (first | exact omQ | (clear hM; first | (have h9 := hF7_0 1; exact omQ')))) d
           refine spQA (And.intro ha12 (And.intro he25 (And.intro he42 (And.intro he43 (And.intro he44 (And.intro he45 (And.intro he46 (And.intro he47 (And.intro he48 (And.intro he49 (And.intro he50 (And.intro he51 (And.intro he52 (And.intro he53 (And.intro he54 (And.intro he55 (And.intro he56 (And.intro he57 he58)))))))))))))))))) ?_
           have hM0 := hM; clear hM; obtain ⟨f59, d59, hf59, hd59, hM⟩ := iter_opn hM0; clear hM0
           refine ct_loopW (fun n S => ∃ p : Int × List (List Int), S = (⟨[(2, .ptr 1 0), (9, .sl none 1 false ((gt p12.2.2 1).map (V.int .i64))), (14, .ptr 71 0), (15, .int .i64 p.1)], [(1, .var 59 true ((e_api_Withdrawal p12.2.1))), (71, .var 59 true (.agg (.int .i64 (gt (gt p12.2.2 0) 0) :: .int .i64 (gt (gt p12.2.2 0) 1) :: .int .i64 (gt (gt p12.2.2 0) 2) :: .int .i64 (gt (gt p12.2.2 0) 3) :: .int .i64 (gt (gt p12.2.2 0) 4) :: .int .i64 (gt (gt p12.2.2 0) 5) :: .int .i64 (gt (gt p12.2.2 1) 0) :: .int .i64 (gt (gt p12.2.2 1) 1) :: .own 72 :: .int .i64 (gt (gt p12.2.2 2) 0) :: .int .i64 (gt (gt p12.2.2 2) 1) :: .int .i64 (gt (gt p12.2.2 2) 2) :: .int .i64 (gt (gt p12.2.2 3) 0) :: .int .i64 (gt (gt p12.2.2 3) 1) :: .int .i64 (gt (gt p12.2.2 3) 2) :: .int .i64 (gt (gt p12.2.2 3) 3) :: .int .i64 (gt (gt p12.2.2 3) 4) :: .int .i64 (gt (gt p12.2.2 3) 5) :: .int .i64 x26.1.Bank :: .int .i64 x26.1.Epoch :: .int .i64 x26.1.Denom :: .int .i64 x26.1.Depth :: .int .i64 x26.1.A :: .int .u8 (gt x26.1.Root 0) :: .int .u8 (gt x26.1.Root 1) :: .int .u8 (gt x26.1.Root 2) :: .int .u8 (gt x26.1.Root 3) :: .int .u8 (gt x26.1.Root 4) :: .int .u8 (gt x26.1.Root 5) :: .int .u8 (gt x26.1.Root 6) :: .int .u8 (gt x26.1.Root 7) :: .int .u8 (gt x26.1.Root 8) :: .int .u8 (gt x26.1.Root 9) :: .int .u8 (gt x26.1.Root 10) :: .int .u8 (gt x26.1.Root 11) :: .int .u8 (gt x26.1.Root 12) :: .int .u8 (gt x26.1.Root 13) :: .int .u8 (gt x26.1.Root 14) :: .int .u8 (gt x26.1.Root 15) :: .int .u8 (gt x26.1.Root 16) :: .int .u8 (gt x26.1.Root 17) :: .int .u8 (gt x26.1.Root 18) :: .int .u8 (gt x26.1.Root 19) :: .int .u8 (gt x26.1.Root 20) :: .int .u8 (gt x26.1.Root 21) :: .int .u8 (gt x26.1.Root 22) :: .int .u8 (gt x26.1.Root 23) :: .int .u8 (gt x26.1.Root 24) :: .int .u8 (gt x26.1.Root 25) :: .int .u8 (gt x26.1.Root 26) :: .int .u8 (gt x26.1.Root 27) :: .int .u8 (gt x26.1.Root 28) :: .int .u8 (gt x26.1.Root 29) :: .int .u8 (gt x26.1.Root 30) :: .int .u8 (gt x26.1.Root 31) :: .int .i64 x26.1.Sign.Z :: .int .i64 x26.1.Sign.A :: .int .i64 x26.1.Sign.B :: .int .i64 x26.1.Sign.R :: []))), (72, .own 57 2 true none (p.2.map (fun l => .agg [.int .i64 (gt l 0), .int .i64 (gt l 1)])))], 73⟩ : St) ∧ ((2 ≤ p.1) ∧ (p.1 ≤ ((gt p12.2.2 1).length : Int) ∨ p.1 ≤ 2) ∧ (p.1 % 2 = 0) ∧ (((p.2).length : Int) ≤ p.1)) ∧ (((gt p12.2.2 1).length : Int) - p.1).toNat < n ∧ iter n f59 d59 p = r) ((((gt p12.2.2 1).length : Int) - 2).toNat + 1) _ _ (weak_nilV 71 8 57 rfl rfl (by decide)) sbQ sbQ ⟨(2, ([] : List (List Int))), rfl, ⟨by (first | exact omQ | (clear hM; first | (have h9 := hF7_0 1; exact omQ'))), by (first | exact omQ | (clear hM; first | (have h9 := hF7_0 1; exact omQ'))), by (first | exact omQ | (clear hM; first | (have h9 := hF7_0 1; exact omQ'))), by (first | exact omQ | (clear hM; first | (have h9 := hF7_0 1; exact omQ')))⟩, (Nat.lt_succ_self _), hM⟩ ?_
           clear hM
           rintro n59 S ⟨p59, rfl, hfa59, hm59, hM⟩
           have hM0 := hM; clear hM; obtain ⟨ag59, hag59, hM⟩ := iter_step hM0 (by omega) hf59; clear hM0
           replace hfa59 := nzQ hfa59
           replace hm59 := nzQ hm59
           have ha59 : addI .i64 p59.1 1 = p59.1 + 1 := add_one (by (first | exact omQ | (clear hM; first | (have h9 := hF7_0 1; exact omQ')))) (by (first | exact omQ | (clear hM; first | (have h9 := hF7_0 1; exact omQ'))))
           refine spQA (And.intro ha12 (And.intro he25 (And.intro he42 (And.intro he43 (And.intro he44 (And.intro he45 (And.intro he46 (And.intro he47 (And.intro he48 (And.intro he49 (And.intro he50 (And.intro he51 (And.intro he52 (And.intro he53 (And.intro he54 (And.intro he55 (And.intro he56 (And.intro he57 (And.intro he58 ha59))))))))))))))))))) ?_
           refine condC_intro (fun h60 => ?_) (fun h60 => ?_)
           ·rw [if_pos h60] at hM
            refine spQA (And.intro ha12 (And.intro he25 (And.intro he42 (And.intro he43 (And.intro he44 (And.intro he45 (And.intro he46 (And.intro he47 (And.intro he48 (And.intro he49 (And.intro he50 (And.intro he51 (And.intro he52 (And.intro he53 (And.intro he54 (And.intro he55 (And.intro he56 (And.intro he57 (And.intro he58 (And.intro ha59 h60)))))))))))))))))))) ?_
            have nh60 := nzQ h60
            try have hr61 := mpQ nh60
            refine ct_draw 176 14 [158, 159, 160, 161, 162, 163, 164, 165, 166, 167, 168, 169, 170, 171] [] ([[], [0], [0, 1], [], [], [3, 4], [3, 4, 5], [], [], [8], [7, 8, 9], [7, 8, 9, 10], [3, 4, 5, 6, 7, 8, 9, 10, 11], [3, 4, 5, 6, 7, 8, 9, 10, 11, 12]] ++ [List.range 14, List.range 15, List.range 16, List.range 17]) [] (by kernel_rfl) (by exact alQ) ?_
            refine spQA (And.intro ha12 (And.intro he25 (And.intro he42 (And.intro he43 (And.intro he44 (And.intro he45 (And.intro he46 (And.intro he47 (And.intro he48 (And.intro he49 (And.intro he50 (And.intro he51 (And.intro he52 (And.intro he53 (And.intro he54 (And.intro he55 (And.intro he56 (And.intro he57 (And.intro he58 ha59))))))))))))))))))) ?_
            refine hbindC_intro (by (first | exact omQ | (clear hM; first | (have h9 := hF7_0 1; exact omQ')))) ?_
            have he62 := fun d => elt_mp (l := (gt p12.2.2 1)) (f := (V.int .i64)) (i := p59.1) (by (first | exact omQ | (clear hM; first | (have h9 := hF7_0 1; exact omQ')))) d
            refine spQA (And.intro ha12 (And.intro he25 (And.intro he42 (And.intro he43 (And.intro he44 (And.intro he45 (And.intro he46 (And.intro he47 (And.intro he48 (And.intro he49 (And.intro he50 (And.intro he51 (And.intro he52 (And.intro he53 (And.intro he54 (And.intro he55 (And.intro he56 (And.intro he57 (And.intro he58 (And.intro ha59 he62)))))))))))))))))))) ?_
            refine hbindC_intro (by (first | exact omQ | (clear hM; first | (have h9 := hF7_0 1; exact omQ')))) ?_
            have he63 := fun d => elt_mp (l := (gt p12.2.2 1)) (f := (V.int .i64)) (i := (p59.1 + 1)) (by (first | exact omQ | (clear hM; first | (have h9 := hF7_0 1; exact omQ')))) d
            refine spQA (And.intro ha12 (And.intro he25 (And.intro he42 (And.intro he43 (And.intro he44 (And.intro he45 (And.intro he46 (And.intro he47 (And.intro he48 (And.intro he49 (And.intro he50 (And.intro he51 (And.intro he52 (And.intro he53 (And.intro he54 (And.intro he55 (And.intro he56 (And.intro he57 (And.intro he58 (And.intro ha59 (And.intro he62 he63))))))))))))))))))))) ?_
            refine bindC_intro (by (first | exact omQ | (clear hM; first | (have h9 := hF7_0 1; exact omQ')))) ?_
            refine spQA (And.intro ha12 (And.intro he25 (And.intro he42 (And.intro he43 (And.intro he44 (And.intro he45 (And.intro he46 (And.intro he47 (And.intro he48 (And.intro he49 (And.intro he50 (And.intro he51 (And.intro he52 (And.intro he53 (And.intro he54 (And.intro he55 (And.intro he56 (And.intro he57 (And.intro he58 (And.intro ha59 (And.intro he62 he63))))))))))))))))))))) ?_
            have ha64 : addI .i64 p59.1 2 = (p59.1 + 2) := add_ok (by (first | exact omQ | (clear hM; first | (have h9 := hF7_0 1; exact omQ')))) (by (first | exact omQ | (clear hM; first | (have h9 := hF7_0 1; exact omQ'))))
            try simp only [ha64]
            refine lp_intro (n59 - 1) _ (by omega) sbQ (by simp only [go_sem, rowV_eq, rowV_eq0, List.length_replicate, rep_len, Int.toNat_natCast, ↓reduceIte, Nat.reduceEqDiff, Nat.reduceAdd, Int.reduceAdd, Nat.reduceMul, Nat.reduceLeDiff, Nat.reduceLT, Int.reduceLE, Int.reduceLT, Int.reduceNeg, Int.reduceToNat, List.isEmpty_nil, map_st, mtL_repE, mtL_repM, subF, subH, mtO, mtB, mt, mtL, mtL_self, mt_self, ltV, ltL, ltB, eq_self, or_true, true_or, or_self, and_self, gt_cons0, gt_conss, Int.reduceSub]) ⟨((p59.1 + 2), (p59.2 ++ ([[(gt (gt p12.2.2 1) p59.1), (gt (gt p12.2.2 1) (p59.1 + 1))]] : List (List Int)))), rfl, ⟨by (first | exact omQ | (clear hM; first | (have h9 := hF7_0 1; exact omQ'))), by (first | exact omQ | (clear hM; first | (have h9 := hF7_0 1; exact omQ'))), by (first | exact omQ | (clear hM; first | (have h9 := hF7_0 1; exact omQ'))), by (first | exact omQ | (clear hM; first | (have h9 := hF7_0 1; exact omQ')))⟩, by (first | exact omQ | (clear hM; first | (have h9 := hF7_0 1; exact omQ'))), iter_again hM hag59⟩
           ·rw [if_neg (ne_true h60)] at hM
            refine spQA (And.intro ha12 (And.intro he25 (And.intro he42 (And.intro he43 (And.intro he44 (And.intro he45 (And.intro he46 (And.intro he47 (And.intro he48 (And.intro he49 (And.intro he50 (And.intro he51 (And.intro he52 (And.intro he53 (And.intro he54 (And.intro he55 (And.intro he56 (And.intro he57 (And.intro he58 (And.intro ha59 h60)))))))))))))))))))) ?_
            have nh60 := nzQ h60
            try have hr65 := mpQ nh60
            subst hM
            exact retC_view (lfQA (And.intro ha12 (And.intro he25 (And.intro he42 (And.intro he43 (And.intro he44 (And.intro he45 (And.intro he46 (And.intro he47 (And.intro he48 (And.intro he49 (And.intro he50 (And.intro he51 (And.intro he52 (And.intro he53 (And.intro he54 (And.intro he55 (And.intro he56 (And.intro he57 (And.intro he58 (And.intro ha59 (And.intro h4 (And.intro h7 (And.intro h9 (And.intro h13 (And.intro h29 (And.intro h31 (And.intro h33 (And.intro h35 (And.intro h37 (And.intro h39 h60)))))))))))))))))))))))))))))))
         ·rw [if_pos h37] at hM
          refine spQA (And.intro ha12 (And.intro he25 h37)) ?_
          have nh37 := nzQ h37
          try have hr66 := mpQ nh37
          subst hM
          exact retC_view (lfQA (And.intro ha12 (And.intro he25 (And.intro h4 (And.intro h7 (And.intro h9 (And.intro h13 (And.intro h29 (And.intro h31 (And.intro h33 (And.intro h35 h37)))))))))))
        ·rw [if_pos h35] at hM
         refine spQA (And.intro ha12 (And.intro he25 h35)) ?_
         have nh35 := nzQ h35
         try have hr67 := mpQ nh35
         subst hM
         exact retC_view (lfQA (And.intro ha12 (And.intro he25 (And.intro h4 (And.intro h7 (And.intro h9 (And.intro h13 (And.intro h29 (And.intro h31 (And.intro h33 h35))))))))))
       ·rw [if_pos h33] at hM
        refine spQA (And.intro ha12 (And.intro he25 h33)) ?_
        have nh33 := nzQ h33
        try have hr68 := mpQ nh33
        subst hM
        exact retC_view (lfQA (And.intro ha12 (And.intro he25 (And.intro h4 (And.intro h7 (And.intro h9 (And.intro h13 (And.intro h29 (And.intro h31 h33)))))))))
      ·rw [if_pos h31] at hM
       refine spQA (And.intro ha12 (And.intro he25 h31)) ?_
       have nh31 := nzQ h31
       try have hr69 := mpQ nh31
       subst hM
       exact retC_view (lfQA (And.intro ha12 (And.intro he25 (And.intro h4 (And.intro h7 (And.intro h9 (And.intro h13 (And.intro h29 h31))))))))
     ·rw [if_pos h29] at hM
      refine spQA (And.intro ha12 (And.intro he25 h29)) ?_
      have nh29 := nzQ h29
      try have hr70 := mpQ nh29
      subst hM
      exact retC_view (lfQA (And.intro ha12 (And.intro he25 (And.intro h4 (And.intro h7 (And.intro h9 (And.intro h13 h29)))))))
  ·rw [if_pos h7] at hM
   refine spQA h7 ?_
   have nh7 := nzQ h7
   try have hr71 := mpQ nh7
   subst hM
   exact retC_view (lfQA (And.intro h4 h7))
set_option maxHeartbeats 2000000 in
set_option maxRecDepth 100000 in
theorem specieref07_valid_ok (N : Nat) (ih : ∀  (i_ : S_api_Item) (within : Int), (0 ≤ within) → (within ≤ 8) → hgt i_ < N → CallOk En 193 [.agg [.int .i64 i_.Kind, .int .i64 i_.N, .sl none 1 false (i_.B.map (V.int .u8)), .sl none 4 true (i_.L.map e_api_Item)], .int .i64 within] (.bool (rvalidM i_ within)) [])  (i_ : S_api_Item) (within : Int) (hp0 : 0 ≤ within) (hp1 : within ≤ 8) (hp_ : hgt i_ < N + 1) : CallOk En 193 [.agg [.int .i64 i_.Kind, .int .i64 i_.N, .sl none 1 false (i_.B.map (V.int .u8)), .sl none 4 true (i_.L.map e_api_Item)], .int .i64 within] (.bool (specieref07_valid i_ within)) [] := by
 generalize hM : specieref07_valid i_ within = r
 rw [specieref07_valid.eq_1] at hM
 refine enterV En_ok En_mo noJ Tryz.func193 rfl Tryz.ntmps193 (by kernel_rfl) fun hw => ct_start ?_
 refine spQ ?_
 replace hw := nzQ hw
 refine condC_intro (fun h1 => ?_) (fun h1 => ?_)
 ·rw [if_pos h1] at hM
  refine spQA h1 ?_
  have nh1 := nzQ h1
  try have hr2 := mpQ nh1
  have hF := h1
  exact auQ
 ·rw [if_neg (ne_true h1)] at hM
  refine spQA h1 ?_
  have nh1 := nzQ h1
  try have hr6 := mpQ nh1
  refine condC_intro (fun h7 => ?_) (fun h7 => ?_)
  ·rw [if_pos h7] at hM
   refine spQA h7 ?_
   have nh7 := nzQ h7
   try have hr8 := mpQ nh7
   have hF := (And.intro h1 h7)
   exact auQ
  ·rw [if_neg (ne_true h7)] at hM
   refine spQA h7 ?_
   have nh7 := nzQ h7
   try have hr12 := mpQ nh7
   refine condC_intro (fun h13 => ?_) (fun h13 => ?_)
   ·rw [if_pos h13] at hM
    refine spQA h13 ?_
    have nh13 := nzQ h13
    try have hr14 := mpQ nh13
    refine guardC_f (fun h15 => ?_) (fun h15 => ?_)
    ·rw [if_neg (ne_true h15)] at hM
     refine spQA h15 ?_
     have nh15 := nzQ h15
     try have hr16 := mpQ nh15
     refine guardC_f (fun h17 => ?_) (fun h17 => ?_)
     ·rw [if_neg (ne_true h17)] at hM
      refine spQA h17 ?_
      have nh17 := nzQ h17
      try have hr18 := mpQ nh17
      refine guardC_f (fun h19 => ?_) (fun h19 => ?_)
      ·rw [if_neg (ne_true h19)] at hM
       refine spQA h19 ?_
       have nh19 := nzQ h19
       try have hr20 := mpQ nh19
       refine condC_intro (fun h21 => ?_) (fun h21 => ?_)
       ·rw [if_pos h21] at hM
        refine spQA h21 ?_
        have nh21 := nzQ h21
        try have hr22 := mpQ nh21
        subst hM
        exact retC_view (lfQA (And.intro h1 (And.intro h7 (And.intro h13 (And.intro h15 (And.intro h17 (And.intro h19 h21)))))))
       ·rw [if_neg (ne_true h21)] at hM
        refine spQA h21 ?_
        have nh21 := nzQ h21
        try have hr23 := mpQ nh21
        have hM0 := hM; clear hM; obtain ⟨f24, d24, hf24, hd24, hM⟩ := iter_opn hM0; clear hM0
        refine ct_loop (fun n S => ∃ p : Int, S = (⟨[(1, .int .i64 within), (2, .ptr 0 0), (5, .int .i64 p)], [(0, .var 4 true (.agg [.int .i64 i_.Kind, .int .i64 i_.N, .sl none 1 false (i_.B.map (V.int .u8)), .sl none 4 true (i_.L.map e_api_Item)]))], 1⟩ : St) ∧ ((0 ≤ p) ∧ (p ≤ (i_.L.length : Int))) ∧ ((i_.L.length : Int) - p).toNat < n ∧ iter n f24 d24 p = r) (((i_.L.length : Int) - 0).toNat + 1) _ sbQ sbQ ⟨0, rfl, ⟨omQ, omQ⟩, (Nat.lt_succ_self _), hM⟩ ?_
        clear hM
        rintro n24 S ⟨p24, rfl, hfa24, hm24, hM⟩
        have hM0 := hM; clear hM; obtain ⟨ag24, hag24, hM⟩ := iter_step hM0 (by omega) hf24; clear hM0
        replace hfa24 := nzQ hfa24
        replace hm24 := nzQ hm24
        have ha24 : addI .i64 p24 1 = p24 + 1 := add_one omQ omQ
        refine spQA ha24 ?_
        refine condC_intro (fun h25 => ?_) (fun h25 => ?_)
        ·rw [if_pos h25] at hM
         refine spQA (And.intro ha24 h25) ?_
         have nh25 := nzQ h25
         try have hr26 := mpQ nh25
         refine bindC_intro omQ ?_
         have he27 := fun d => elt_mp (l := i_.L) (f := e_api_Item) (i := p24) omQ d
         refine spQA (And.intro ha24 he27) ?_
         have ha28 : addI .i64 within 1 = (within + 1) := add_ok omQ omQ
         try simp only [ha28]
         have hM0 := hM; clear hM; obtain ⟨x29, hx30, hM⟩ := letk_opn hM0; clear hM0
         have hcx29 := ih  (gt i_.L p24) (within + 1) (by (have h9 := hgt_L (i := i_) (gt_mem (l := i_.L) (i := p24) (by omega)); first | exact h9 | omega)) (by (have h9 := hgt_L (i := i_) (gt_mem (l := i_.L) (i := p24) (by omega)); first | exact h9 | omega)) (by (have h9 := hgt_L (i := i_) (gt_mem (l := i_.L) (i := p24) (by omega)); first | exact h9 | omega))
         rw [← hx30] at hcx29
         refine callC_give hcx29 (clQA (And.intro ha24 (And.intro he27 ha28))) (clQA (And.intro ha24 (And.intro he27 ha28))) (fun hw31 => ?_)
         replace hw31 := nzQ hw31
         refine spQA (And.intro ha24 (And.intro he27 ha28)) ?_
         have hF := (And.intro h1 (And.intro h7 (And.intro h13 (And.intro h15 (And.intro h17 (And.intro h19 (And.intro h21 (And.intro ha24 (And.intro h25 (And.intro he27 ha28))))))))))
         exact auQ
        ·rw [if_neg (ne_true h25)] at hM
         refine spQA (And.intro ha24 h25) ?_
         have nh25 := nzQ h25
         try have hr35 := mpQ nh25
         subst hM
         exact retC_view (lfQA (And.intro ha24 (And.intro h1 (And.intro h7 (And.intro h13 (And.intro h15 (And.intro h17 (And.intro h19 (And.intro h21 h25)))))))))
      ·rw [if_pos h19] at hM
       refine spQA h19 ?_
       have nh19 := nzQ h19
       try have hr36 := mpQ nh19
       subst hM
       exact retC_view (lfQA (And.intro h1 (And.intro h7 (And.intro h13 (And.intro h15 (And.intro h17 h19))))))
     ·rw [if_pos h17] at hM
      refine spQA h17 ?_
      have nh17 := nzQ h17
      try have hr37 := mpQ nh17
      subst hM
      exact retC_view (lfQA (And.intro h1 (And.intro h7 (And.intro h13 (And.intro h15 h17)))))
    ·rw [if_pos h15] at hM
     refine spQA h15 ?_
     have nh15 := nzQ h15
     try have hr38 := mpQ nh15
     subst hM
     exact retC_view (lfQA (And.intro h1 (And.intro h7 (And.intro h13 h15))))
   ·rw [if_neg (ne_true h13)] at hM
    refine spQA h13 ?_
    have nh13 := nzQ h13
    try have hr39 := mpQ nh13
    subst hM
    exact retC_view (lfQA (And.intro h1 (And.intro h7 h13)))
theorem rvalidM_okN : ∀ (N : Nat)  (i_ : S_api_Item) (within : Int), (0 ≤ within) → (within ≤ 8) → hgt i_ < N → CallOk En 193 [.agg [.int .i64 i_.Kind, .int .i64 i_.N, .sl none 1 false (i_.B.map (V.int .u8)), .sl none 4 true (i_.L.map e_api_Item)], .int .i64 within] (.bool (rvalidM i_ within)) [] := by
 intro N
 induction N with
 | zero => intro i_ within h0 h1 h; exact absurd h (Nat.not_lt_zero _)
 | succ N ih =>
  intro i_ within h0 h1 h
  have h9 := specieref07_valid_ok N ih i_ within h0 h1 h
  rw [specieref07_valid_eqM h0 h1] at h9
  exact h9
theorem rvalidM_ok  (i_ : S_api_Item) (within : Int) (hp0 : 0 ≤ within) (hp1 : within ≤ 8) : CallOk En 193 [.agg [.int .i64 i_.Kind, .int .i64 i_.N, .sl none 1 false (i_.B.map (V.int .u8)), .sl none 4 true (i_.L.map e_api_Item)], .int .i64 within] (.bool (rvalidM i_ within)) [] :=
 rvalidM_okN (hgt i_ + 1) i_ within hp0 hp1 (Nat.lt_succ_self _)
set_option maxHeartbeats 2000000 in
set_option maxRecDepth 100000 in
instance specieref07_Valid_ok   (i_ : S_api_Item)  : CM En (specieref07_Valid i_) 115 [.agg [.int .i64 i_.Kind, .int .i64 i_.N, .sl none 1 false (i_.B.map (V.int .u8)), .sl none 4 true (i_.L.map e_api_Item)]] (fun y => .bool y) (fun _ => []) := by
 refine cmQ fun r hM => ?_
 rw [specieref07_Valid.eq_1] at hM
 refine enterV En_ok En_mo noJ Tryz.func115 rfl Tryz.ntmps115 (by kernel_rfl) fun hw => ct_start ?_
 refine spQ ?_
 replace hw := nzQ hw
 have hM0 := hM; clear hM; obtain ⟨x1, hx2, hM⟩ := letk_opn hM0; clear hM0
 have hcx1 := rvalidM_ok  i_ 0 (by (first | decide | omega)) (by (first | decide | omega))
 rw [← hx2] at hcx1
 refine callC_give hcx1 clQ clQ (fun hw3 => ?_)
 replace hw3 := nzQ hw3
 refine spQ ?_
 subst hM
 exact retC_view lfQ
set_option maxHeartbeats 2000000 in
set_option maxRecDepth 100000 in
instance specieref37_numbers_ok   (i_ : S_api_Item)  : CM En (specieref37_numbers i_) 116 [.agg [.int .i64 i_.Kind, .int .i64 i_.N, .sl none 1 false (i_.B.map (V.int .u8)), .sl none 4 true (i_.L.map e_api_Item)]] (fun y => .tup [.sl none 1 false (y.1.map (V.int .i64)), .bool y.2]) (fun _ => []) := by
 refine cmQ fun r hM => ?_
 rw [specieref37_numbers.eq_1] at hM
 refine enterV En_ok En_mo noJ Tryz.func116 rfl Tryz.ntmps116 (by kernel_rfl) fun hw => ct_start ?_
 refine spQ ?_
 replace hw := nzQ hw
 refine condC_intro (fun h1 => ?_) (fun h1 => ?_)
 ·rw [if_pos h1] at hM
  refine spQA h1 ?_
  have nh1 := nzQ h1
  try have hr2 := mpQ nh1
  subst hM
  exact retC_view (lfQA h1)
 ·rw [if_neg (ne_true h1)] at hM
  refine spQA h1 ?_
  have nh1 := nzQ h1
  try have hr3 := mpQ nh1
  have hM0 := hM; clear hM; obtain ⟨f4, d4, hf4, hd4, hM⟩ := iter_opn hM0; clear hM0
  refine ct_loopW (fun n S => ∃ p : Int × List Int, S = (⟨[(1, .ptr 0 0), (4, .own 1), (5, .int .i64 p.1)], [(0, .var 4 true (.agg [.int .i64 i_.Kind, .int .i64 i_.N, .sl none 1 false (i_.B.map (V.int .u8)), .sl none 4 true (i_.L.map e_api_Item)])), (1, .own 3 1 false none (p.2.map (V.int .i64)))], 2⟩ : St) ∧ ((0 ≤ p.1) ∧ (p.1 ≤ (i_.L.length : Int)) ∧ (((p.2).length : Int) ≤ p.1)) ∧ ((i_.L.length : Int) - p.1).toNat < n ∧ iter n f4 d4 p = r) (((i_.L.length : Int) - 0).toNat + 1) _ _ (weak_nil 4 3 rfl (by decide)) sbQ sbQ ⟨(0, ([] : List Int)), rfl, ⟨omQ, omQ, omQ⟩, (Nat.lt_succ_self _), hM⟩ ?_
  clear hM
  rintro n4 S ⟨p4, rfl, hfa4, hm4, hM⟩
  have hM0 := hM; clear hM; obtain ⟨ag4, hag4, hM⟩ := iter_step hM0 (by omega) hf4; clear hM0
  replace hfa4 := nzQ hfa4
  replace hm4 := nzQ hm4
  have ha4 : addI .i64 p4.1 1 = p4.1 + 1 := add_one omQ omQ
  refine spQA ha4 ?_
  have hF := (And.intro h1 ha4)
  exact auQ
set_option maxHeartbeats 2000000 in
set_option maxRecDepth 100000 in
instance specieref31_Numbers_ok   (i_ : S_api_Item) (n_ : Int)  : CM En (specieref31_Numbers i_ n_) 194 [.agg [.int .i64 i_.Kind, .int .i64 i_.N, .sl none 1 false (i_.B.map (V.int .u8)), .sl none 4 true (i_.L.map e_api_Item)], .int .i64 n_] (fun y => .tup [.sl none 1 false (y.1.map (V.int .i64)), .bool y.2]) (fun _ => []) := by
 refine cmQ fun r hM => ?_
 rw [specieref31_Numbers.eq_1] at hM
 refine enterV En_ok En_mo noJ Tryz.func194 rfl Tryz.ntmps194 (by kernel_rfl) fun hw => ct_start ?_
 refine spQ ?_
 replace hw := nzQ hw
 refine guardC_f (fun h1 => ?_) (fun h1 => ?_)
 ·rw [if_neg (ne_true h1)] at hM
  refine spQA h1 ?_
  have nh1 := nzQ h1
  try have hr2 := mpQ nh1
  refine condC_intro (fun h3 => ?_) (fun h3 => ?_)
  ·rw [if_pos h3] at hM
   refine spQA h3 ?_
   have nh3 := nzQ h3
   try have hr4 := mpQ nh3
   subst hM
   exact retC_view (lfQA (And.intro h1 h3))
  ·rw [if_neg (ne_true h3)] at hM
   refine spQA h3 ?_
   have nh3 := nzQ h3
   try have hr5 := mpQ nh3
   have hM0 := hM; clear hM; obtain ⟨f6, d6, hf6, hd6, hM⟩ := iter_opn hM0; clear hM0
   refine ct_loopW (fun n S => ∃ p : Int × List Int, S = (⟨[(1, .int .i64 n_), (2, .ptr 0 0), (6, .own 1), (7, .int .i64 p.1)], [(0, .var 4 true (.agg [.int .i64 i_.Kind, .int .i64 i_.N, .sl none 1 false (i_.B.map (V.int .u8)), .sl none 4 true (i_.L.map e_api_Item)])), (1, .own 3 1 false none (p.2.map (V.int .i64)))], 2⟩ : St) ∧ ((0 ≤ p.1) ∧ (p.1 ≤ n_) ∧ (((p.2).length : Int) ≤ p.1)) ∧ (n_ - p.1).toNat < n ∧ iter n f6 d6 p = r) ((n_ - 0).toNat + 1) _ _ (weak_nil 6 3 rfl (by decide)) sbQ sbQ ⟨(0, ([] : List Int)), rfl, ⟨omQ, omQ, omQ⟩, (Nat.lt_succ_self _), hM⟩ ?_
   clear hM
   rintro n6 S ⟨p6, rfl, hfa6, hm6, hM⟩
   have hM0 := hM; clear hM; obtain ⟨ag6, hag6, hM⟩ := iter_step hM0 (by omega) hf6; clear hM0
   replace hfa6 := nzQ hfa6
   replace hm6 := nzQ hm6
   have ha6 : addI .i64 p6.1 1 = p6.1 + 1 := add_one omQ omQ
   refine spQA ha6 ?_
   have hF := (And.intro h1 (And.intro h3 ha6))
   exact auQ
 ·rw [if_pos h1] at hM
  refine spQA h1 ?_
  have nh1 := nzQ h1
  try have hr14 := mpQ nh1
  subst hM
  exact retC_view (lfQA h1)
set_option maxHeartbeats 2000000 in
set_option maxRecDepth 100000 in
instance specieref31_Hash_ok   (i_ : S_api_Item)  : CM En (specieref31_Hash i_) 195 [.agg [.int .i64 i_.Kind, .int .i64 i_.N, .sl none 1 false (i_.B.map (V.int .u8)), .sl none 4 true (i_.L.map e_api_Item)]] (fun y => .tup [(e_arr40 y.1), .bool y.2]) (fun _ => []) := by
 refine cmQ fun r hM => ?_
 rw [specieref31_Hash.eq_1] at hM
 refine enterV En_ok En_mo noJ Tryz.func195 rfl Tryz.ntmps195 (by kernel_rfl) fun hw => ct_start ?_
 refine spQ ?_
 replace hw := nzQ hw
 refine guardC_f (fun h1 => ?_) (fun h1 => ?_)
 ·rw [if_neg (ne_true h1)] at hM
  refine spQA h1 ?_
  have nh1 := nzQ h1
  try have hr2 := mpQ nh1
  refine condC_intro (fun h3 => ?_) (fun h3 => ?_)
  ·rw [if_pos h3] at hM
   refine spQA h3 ?_
   have nh3 := nzQ h3
   try have hr4 := mpQ nh3
   subst hM
   exact retC_view (lfQA (And.intro h1 h3))
  ·rw [if_neg (ne_true h3)] at hM
   refine spQA h3 ?_
   have nh3 := nzQ h3
   try have hr5 := mpQ nh3
   have hM0 := hM; clear hM; obtain ⟨f6, d6, hf6, hd6, hM⟩ := iter_opn hM0; clear hM0
   refine ct_loop (fun n S => ∃ p : Int × (List Int), S = (⟨[(1, .ptr 0 0), (2, .ptr 1 0), (4, .ptr 2 0), (5, .int .i64 p.1)], [(0, .var 4 true (.agg [.int .i64 i_.Kind, .int .i64 i_.N, .sl none 1 false (i_.B.map (V.int .u8)), .sl none 4 true (i_.L.map e_api_Item)])), (1, .var 32 true (zv_40)), (2, .var 32 true ((e_arr40 p.2)))], 3⟩ : St) ∧ ((0 ≤ p.1) ∧ (p.1 ≤ 32)) ∧ ((32 : Int) - p.1).toNat < n ∧ iter n f6 d6 p = r) (((32 : Int) - 0).toNat + 1) _ sbQ (by simp only [go_sem, rowV_eq, rowV_eq0, List.length_replicate, rep_len, Int.toNat_natCast, ↓reduceIte, Nat.reduceEqDiff, Nat.reduceAdd, Int.reduceAdd, Nat.reduceMul, Nat.reduceLeDiff, Nat.reduceLT, Int.reduceLE, Int.reduceLT, Int.reduceNeg, Int.reduceToNat, List.isEmpty_nil, map_st, mtL_repE, mtL_repM, subF, subH, mtO, mtB, mt, mtL, mtL_self, mt_self, ltV, ltL, ltB, eq_self, or_true, true_or, or_self, and_self, gt_cons0, gt_conss, Int.reduceSub]) ⟨(0, [0, 0, 0, 0, 0, 0, 0, 0, 0, 0, 0, 0, 0, 0, 0, 0, 0, 0, 0, 0, 0, 0, 0, 0, 0, 0, 0, 0, 0, 0, 0, 0]), rfl, ⟨omQ, omQ⟩, (Nat.lt_succ_self _), hM⟩ ?_
   clear hM
   rintro n6 S ⟨p6, rfl, hfa6, hm6, hM⟩
   have hM0 := hM; clear hM; obtain ⟨ag6, hag6, hM⟩ := iter_step hM0 (by omega) hf6; clear hM0
   replace hfa6 := nzQ hfa6
   replace hm6 := nzQ hm6
   have ha6 : addI .i64 p6.1 1 = p6.1 + 1 := add_one omQ omQ
   refine spQA ha6 ?_
   refine condC_intro (fun h7 => ?_) (fun h7 => ?_)
   ·rw [if_pos h7] at hM
    refine spQA (And.intro ha6 h7) ?_
    have nh7 := nzQ h7
    try have hr8 := mpQ nh7
    refine bindC_intro omQ ?_
    have he9 := fun d => elt_mp (l := i_.B) (f := (V.int .u8)) (i := p6.1) omQ d
    refine spQA (And.intro ha6 he9) ?_
    refine bindC_intro omQ ?_
    have he10 : ((p6.1).toNat * 1 + 1 ≤ 32) = True := eq_true omQ
    refine spQA (And.intro ha6 (And.intro he9 he10)) ?_
    have he11 := arr_put (f := (V.int .u8)) (l := (arrN 32 p6.2)) (n := 32) (i := p6.1) (v := (gt i_.B p6.1)) arrN_len omQ
    replace he11 := spR he11
    refine spQA (And.intro ha6 (And.intro he9 (And.intro he10 he11))) ?_
    refine lp_intro (n6 - 1) _ (by omega) sbQ (by simp only [go_sem, rowV_eq, rowV_eq0, List.length_replicate, rep_len, Int.toNat_natCast, ↓reduceIte, Nat.reduceEqDiff, Nat.reduceAdd, Int.reduceAdd, Nat.reduceMul, Nat.reduceLeDiff, Nat.reduceLT, Int.reduceLE, Int.reduceLT, Int.reduceNeg, Int.reduceToNat, List.isEmpty_nil, map_st, mtL_repE, mtL_repM, subF, subH, mtO, mtB, mt, mtL, mtL_self, mt_self, ltV, ltL, ltB, eq_self, or_true, true_or, or_self, and_self, gt_cons0, gt_conss, Int.reduceSub]) ⟨((p6.1 + 1), (arrN 32 (st (arrN 32 p6.2) p6.1 (gt i_.B p6.1)))), rfl, ⟨omQ, omQ⟩, omQ, iter_again hM hag6⟩
   ·rw [if_neg (ne_true h7)] at hM
    refine spQA (And.intro ha6 h7) ?_
    have nh7 := nzQ h7
    try have hr12 := mpQ nh7
    subst hM
    exact retC_view (lfQA (And.intro ha6 (And.intro h1 (And.intro h3 h7))))
 ·rw [if_pos h1] at hM
  refine spQA h1 ?_
  have nh1 := nzQ h1
  try have hr13 := mpQ nh1
  subst hM
  exact retC_view (lfQA h1)
instance (priority := 1009) : DRD 12 81 29 [51, 52, 53, 54, 55, 56, 57, 58, 59, 60, 61, 62, 63, 64, 65, 66, 67, 68, 69, 70, 71, 72, 73, 74, 75, 76, 77, 78, 79] [] ([[], [0], [0, 1], [], [3], [3, 4], [], [6], [6, 7], [], [9], [9, 10], [], [12], [12, 13], [], [], [16], [16, 17], [], [19], [19, 20], [], [22], [22, 23], [], [25], [25, 26], [16, 17, 18, 19, 20, 21, 22, 23, 24, 25, 26, 27]] ++ [List.range 29, List.range 30, List.range 31]) [] := ⟨trivial⟩
set_option maxHeartbeats 2000000 in
set_option maxRecDepth 100000 in
instance specieref31_FromItem_ok   (i_ : S_api_Item)  : CM En (specieref31_FromItem i_) 117 [.agg [.int .i64 i_.Kind, .int .i64 i_.N, .sl none 1 false (i_.B.map (V.int .u8)), .sl none 4 true (i_.L.map e_api_Item)]] (fun y => .tup [(e_api_Coin y.1), .bool y.2]) (fun _ => []) := by
 refine cmQ fun r hM => ?_
 rw [specieref31_FromItem.eq_1] at hM
 refine enterV En_ok En_mo noJ Tryz.func117 rfl Tryz.ntmps117 (by kernel_rfl) fun hw => ct_start ?_
 refine spQ ?_
 replace hw := nzQ hw
 have hF := trueQ
 exact auQ
set_option maxHeartbeats 2000000 in
set_option maxRecDepth 100000 in
instance specieref37_FromItem_ok   (i_ : S_api_Item)  : CM En (specieref37_FromItem i_) 45 [.agg [.int .i64 i_.Kind, .int .i64 i_.N, .sl none 1 false (i_.B.map (V.int .u8)), .sl none 4 true (i_.L.map e_api_Item)]] (fun y => .tup [(e_api_Withdrawal y.1), .int .i64 y.2]) (fun _ => []) := by
 refine cmQ fun r hM => ?_
 rw [specieref37_FromItem.eq_1] at hM
 refine enterV En_ok En_mo noJ Tryz.func45 rfl Tryz.ntmps45 (by kernel_rfl) fun hw => ct_start ?_
 refine spQ ?_
 replace hw := nzQ hw
 have hM0 := hM; clear hM; obtain ⟨x1, hx2, hM⟩ := letk_opn hM0; clear hM0
 have hcx1 := cmU hx2
 refine callC_give hcx1 clQ clQ (fun hw3 => ?_)
 replace hw3 := nzQ hw3
 refine spQ ?_
 have hq4 := rValid_sub hx2
 replace hq4 := nzQ hq4
 refine condC_intro (fun h5 => ?_) (fun h5 => ?_)
 ·rw [if_pos h5] at hM
  refine spQA h5 ?_
  have nh5 := nzQ h5
  try have hr6 := mpQ nh5
  subst hM
  exact retC_view (lfQA h5)
 ·rw [if_neg (ne_true h5)] at hM
  refine spQA h5 ?_
  have nh5 := nzQ h5
  try have hr7 := mpQ nh5
  refine guardC_f (fun h8 => ?_) (fun h8 => ?_)
  ·rw [if_neg (ne_true h8)] at hM
   refine spQA h8 ?_
   have nh8 := nzQ h8
   try have hr9 := mpQ nh8
   refine condC_intro (fun h10 => ?_) (fun h10 => ?_)
   ·rw [if_pos h10] at hM
    refine spQA h10 ?_
    have nh10 := nzQ h10
    try have hr11 := mpQ nh10
    subst hM
    exact retC_view (lfQA (And.intro h5 (And.intro h8 h10)))
   ·rw [if_neg (ne_true h10)] at hM
    refine spQA h10 ?_
    have nh10 := nzQ h10
    try have hr12 := mpQ nh10
    refine bindC_intro (by (first | exact omQ | (clear hM; first | (have h9 := sub_gt (l := i_.L) (j := 1) (by assumption) (by assumption) (by omega); exact omQ')))) ?_
    have he13 : ∀ d, elt (i_.L.map e_api_Item) 0 d = e_api_Item (gt i_.L 0) := fun d => elt_mp (l := i_.L) (f := e_api_Item) (i := 0) (by (first | exact omQ | (clear hM; first | (have h9 := sub_gt (l := i_.L) (j := 1) (by assumption) (by assumption) (by omega); exact omQ')))) d
    refine spQA he13 ?_
    have hM0 := hM; clear hM; obtain ⟨x14, hx15, hM⟩ := letk_opn hM0; clear hM0
    have hcx14 := cmU hx15
    refine callC_give hcx14 (clQA he13) (clQA he13) (fun hw16 => ?_)
    replace hw16 := nzQ hw16
    refine spQA he13 ?_
    have hq17 := rnums_le hx15
    replace hq17 := nzQ hq17
    refine bindC_intro (by (first | exact omQ | (clear hM; first | (have h9 := sub_gt (l := i_.L) (j := 1) (by assumption) (by assumption) (by omega); exact omQ')))) ?_
    have he18 : ∀ d, elt (i_.L.map e_api_Item) 1 d = e_api_Item (gt i_.L 1) := fun d => elt_mp (l := i_.L) (f := e_api_Item) (i := 1) (by (first | exact omQ | (clear hM; first | (have h9 := sub_gt (l := i_.L) (j := 1) (by assumption) (by assumption) (by omega); exact omQ')))) d
    refine spQA (And.intro he13 he18) ?_
    have hM0 := hM; clear hM; obtain ⟨x19, hx20, hM⟩ := letk_opn hM0; clear hM0
    have hcx19 := cmU hx20
    refine callC_give hcx19 (clQA (And.intro he13 he18)) (clQA (And.intro he13 he18)) (fun hw21 => ?_)
    replace hw21 := nzQ hw21
    refine spQA (And.intro he13 he18) ?_
    have hq22 := rnums_le hx20
    replace hq22 := nzQ hq22
    refine bindC_intro (by (first | exact omQ | (clear hM; first | (have h9 := sub_gt (l := i_.L) (j := 1) (by assumption) (by assumption) (by omega); exact omQ')))) ?_
    have he23 : ∀ d, elt (i_.L.map e_api_Item) 2 d = e_api_Item (gt i_.L 2) := fun d => elt_mp (l := i_.L) (f := e_api_Item) (i := 2) (by (first | exact omQ | (clear hM; first | (have h9 := sub_gt (l := i_.L) (j := 1) (by assumption) (by assumption) (by omega); exact omQ')))) d
    refine spQA (And.intro he13 (And.intro he18 he23)) ?_
    have hM0 := hM; clear hM; obtain ⟨x24, hx25, hM⟩ := letk_opn hM0; clear hM0
    have hcx24 := cmU hx25
    refine callC_give hcx24 (clQA (And.intro he13 (And.intro he18 he23))) (clQA (And.intro he13 (And.intro he18 he23))) (fun hw26 => ?_)
    replace hw26 := nzQ hw26
    refine spQA (And.intro he13 (And.intro he18 he23)) ?_
    have hq27 := rnums_le hx25
    replace hq27 := nzQ hq27
    refine bindC_intro (by (first | exact omQ | (clear hM; first | (have h9 := sub_gt (l := i_.L) (j := 1) (by assumption) (by assumption) (by omega); exact omQ')))) ?_
    have he28 : ∀ d, elt (i_.L.map e_api_Item) 3 d = e_api_Item (gt i_.L 3) := fun d => elt_mp (l := i_.L) (f := e_api_Item) (i := 3) (by (first | exact omQ | (clear hM; first | (have h9 := sub_gt (l := i_.L) (j := 1) (by assumption) (by assumption) (by omega); exact omQ')))) d
    refine spQA (And.intro he13 (And.intro he18 (And.intro he23 he28))) ?_
    have hM0 := hM; clear hM; obtain ⟨x29, hx30, hM⟩ := letk_opn hM0; clear hM0
    have hcx29 := cmU hx30
    refine callC_give hcx29 (clQA (And.intro he13 (And.intro he18 (And.intro he23 he28)))) (clQA (And.intro he13 (And.intro he18 (And.intro he23 he28)))) (fun hw31 => ?_)
    replace hw31 := nzQ hw31
    refine spQA (And.intro he13 (And.intro he18 (And.intro he23 he28))) ?_
    have hq32 := rnums_le hx30
    replace hq32 := nzQ hq32
    refine bindC_intro (by (first | exact omQ | (clear hM; first | (have h9 := sub_gt (l := i_.L) (j := 1) (by assumption) (by assumption) (by omega); exact omQ')))) ?_
    have he33 : ∀ d, elt (i_.L.map e_api_Item) 4 d = e_api_Item (gt i_.L 4) := fun d => elt_mp (l := i_.L) (f := e_api_Item) (i := 4) (by (first | exact omQ | (clear hM; first | (have h9 := sub_gt (l := i_.L) (j := 1) (by assumption) (by assumption) (by omega); exact omQ')))) d
    refine spQA (And.intro he13 (And.intro he18 (And.intro he23 (And.intro he28 he33)))) ?_
    have hM0 := hM; clear hM; obtain ⟨x34, hx35, hM⟩ := letk_opn hM0; clear hM0
    have hcx34 := cmU hx35
    refine callC_give hcx34 (clQA (And.intro he13 (And.intro he18 (And.intro he23 (And.intro he28 he33))))) (clQA (And.intro he13 (And.intro he18 (And.intro he23 (And.intro he28 he33))))) (fun hw36 => ?_)
    replace hw36 := nzQ hw36
    refine spQA (And.intro he13 (And.intro he18 (And.intro he23 (And.intro he28 he33)))) ?_
    refine guardC_f (fun h37 => ?_) (fun h37 => ?_)
    ·rw [if_neg (ne_true h37)] at hM
     refine spQA (And.intro he13 (And.intro he18 (And.intro he23 (And.intro he28 (And.intro he33 h37))))) ?_
     have nh37 := nzQ h37
     try have hr38 := mpQ nh37
     refine guardC_f (fun h39 => ?_) (fun h39 => ?_)
     ·rw [if_neg (ne_true h39)] at hM
      refine spQA (And.intro he13 (And.intro he18 (And.intro he23 (And.intro he28 (And.intro he33 h39))))) ?_
      have nh39 := nzQ h39
      try have hr40 := mpQ nh39
      refine guardC_f (fun h41 => ?_) (fun h41 => ?_)
      ·rw [if_neg (ne_true h41)] at hM
       refine spQA (And.intro he13 (And.intro he18 (And.intro he23 (And.intro he28 (And.intro he33 h41))))) ?_
       have nh41 := nzQ h41
       try have hr42 := mpQ nh41
       refine guardC_f (fun h43 => ?_) (fun h43 => ?_)
       ·rw [if_neg (ne_true h43)] at hM
        refine spQA (And.intro he13 (And.intro he18 (And.intro he23 (And.intro he28 (And.intro he33 h43))))) ?_
        have nh43 := nzQ h43
        try have hr44 := mpQ nh43
        refine guardC_f (fun h45 => ?_) (fun h45 => ?_)
        ·rw [if_neg (ne_true h45)] at hM
         refine spQA (And.intro he13 (And.intro he18 (And.intro he23 (And.intro he28 (And.intro he33 h45))))) ?_
         have nh45 := nzQ h45
         try have hr46 := mpQ nh45
         refine guardC_f (fun h47 => ?_) (fun h47 => ?_)
         ·rw [if_neg (ne_true h47)] at hM
          refine spQA (And.intro he13 (And.intro he18 (And.intro he23 (And.intro he28 (And.intro he33 h47))))) ?_
          have nh47 := nzQ h47
          try have hr48 := mpQ nh47
          refine guardC_f (fun h49 => ?_) (fun h49 => ?_)
          ·rw [if_neg (ne_true h49)] at hM
           refine spQA (And.intro he13 (And.intro he18 (And.intro he23 (And.intro he28 (And.intro he33 h49))))) ?_
           have nh49 := nzQ h49
           try have hr50 := mpQ nh49
           refine bindC_intro (by (first | exact omQ | (clear hM; first | (have h9 := sub_gt (l := i_.L) (j := 1) (by assumption) (by assumption) (by omega); exact omQ')))) ?_
           refine spQA (And.intro he13 (And.intro he18 (And.intro he23 (And.intro he28 he33)))) ?_
           refine guardC_f (fun h51 => ?_) (fun h51 => ?_)
           ·rw [if_neg (ne_true h51)] at hM
            refine spQA (And.intro he13 (And.intro he18 (And.intro he23 (And.intro he28 (And.intro he33 h51))))) ?_
            have nh51 := nzQ h51
            try have hr52 := mpQ nh51
            refine guardC_f (fun h53 => ?_) (fun h53 => ?_)
            ·rw [if_neg (ne_true h53)] at hM
             refine spQA (And.intro he13 (And.intro he18 (And.intro he23 (And.intro he28 (And.intro he33 h53))))) ?_
             have nh53 := nzQ h53
             try have hr54 := mpQ nh53
             refine condC_intro (fun h55 => ?_) (fun h55 => ?_)
             ·rw [if_pos h55] at hM
              refine spQA (And.intro he13 (And.intro he18 (And.intro he23 (And.intro he28 (And.intro he33 h55))))) ?_
              have nh55 := nzQ h55
              try have hr56 := mpQ nh55
              subst hM
              exact retC_view (lfQA (And.intro he13 (And.intro he18 (And.intro he23 (And.intro he28 (And.intro he33 (And.intro h5 (And.intro h8 (And.intro h10 (And.intro h37 (And.intro h39 (And.intro h41 (And.intro h43 (And.intro h45 (And.intro h47 (And.intro h49 (And.intro h51 (And.intro h53 h55))))))))))))))))))
             ·rw [if_neg (ne_true h55)] at hM
              refine spQA (And.intro he13 (And.intro he18 (And.intro he23 (And.intro he28 (And.intro he33 h55))))) ?_
              have nh55 := nzQ h55
              try have hr57 := mpQ nh55
              refine ct_draw 195 57 [14, 115, 116, 117, 118, 119, 120, 121, 122, 123, 124, 125, 126, 127, 128, 129, 130, 131, 132, 133, 134, 135, 136, 137, 138, 139, 140, 141, 142, 143, 144, 145, 146, 147, 148, 149, 150, 151, 152, 153, 154, 155, 156, 157, 158, 159, 160, 161, 162, 163, 164, 165, 166, 167, 168, 169, 170] [] ([[], [0], [0, 1], [], [3], [3, 4], [], [6], [6, 7], [], [9], [9, 10], [], [12], [12, 13], [], [15], [15, 16], [], [18], [18, 19], [], [21], [21, 22], [18, 19, 20, 21, 22, 23], [], [25], [25, 26], [], [28], [28, 29], [], [31], [31, 32], [25, 26, 27, 28, 29, 30, 31, 32, 33], [], [35], [35, 36], [], [38], [38, 39], [], [41], [41, 42], [], [44], [44, 45], [], [47], [47, 48], [], [50], [50, 51], [35, 36, 37, 38, 39, 40, 41, 42, 43, 44, 45, 46, 47, 48, 49, 50, 51, 52], [], [0, 1, 2, 3, 4, 5, 6, 7, 8, 9, 10, 11, 12, 13, 14, 15, 16, 17, 18, 19, 20, 21, 22, 23, 24, 25, 26, 27, 28, 29, 30, 31, 32, 33, 34, 35, 36, 37, 38, 39, 40, 41, 42, 43, 44, 45, 46, 47, 48, 49, 50, 51, 52, 53, 54], []] ++ [List.range 57]) [] (by kernel_rfl) (by exact alQ) ?_
              refine spQA (And.intro he13 (And.intro he18 (And.intro he23 (And.intro he28 he33)))) ?_
              refine hbindC_intro (by (first | exact omQ | (clear hM; first | (have h9 := sub_gt (l := i_.L) (j := 1) (by assumption) (by assumption) (by omega); exact omQ')))) ?_
              have he58 : ∀ d, elt (x14.1.map (V.int .i64)) 0 d = (V.int .i64) (gt x14.1 0) := fun d => elt_mp (l := x14.1) (f := (V.int .i64)) (i := 0) (by (first | exact omQ | (clear hM; first | (have h9 := sub_gt (l := i_.L) (j := 1) (by assumption) (by assumption) (by omega); exact omQ')))) d
              refine spQA (And.intro he13 (And.intro he18 (And.intro he23 (And.intro he28 (And.intro he33 he58))))) ?_
              refine hbindC_intro (by (first | exact omQ | (clear hM; first | (have h9 := sub_gt (l := i_.L) (j := 1) (by assumption) (by assumption) (by omega); exact omQ')))) ?_
              have he59 : ∀ d, elt (x14.1.map (V.int .i64)) 1 d = (V.int .i64) (gt x14.1 1) := fun d => elt_mp (l := x14.1) (f := (V.int .i64)) (i := 1) (by (first | exact omQ | (clear hM; first | (have h9 := sub_gt (l := i_.L) (j := 1) (by assumption) (by assumption) (by omega); exact omQ')))) d
              refine spQA (And.intro he13 (And.intro he18 (And.intro he23 (And.intro he28 (And.intro he33 (And.intro he58 he59)))))) ?_
              refine hbindC_intro (by (first | exact omQ | (clear hM; first | (have h9 := sub_gt (l := i_.L) (j := 1) (by assumption) (by assumption) (by omega); exact omQ')))) ?_
              have he60 : ∀ d, elt (x14.1.map (V.int .i64)) 2 d = (V.int .i64) (gt x14.1 2) := fun d => elt_mp (l := x14.1) (f := (V.int .i64)) (i := 2) (by (first | exact omQ | (clear hM; first | (have h9 := sub_gt (l := i_.L) (j := 1) (by assumption) (by assumption) (by omega); exact omQ')))) d
              refine spQA (And.intro he13 (And.intro he18 (And.intro he23 (And.intro he28 (And.intro he33 (And.intro he58 (And.intro he59 he60))))))) ?_
              refine hbindC_intro (by (first | exact omQ | (clear hM; first | (have h9 := sub_gt (l := i_.L) (j := 1) (by assumption) (by assumption) (by omega); exact omQ')))) ?_
              have he61 : ∀ d, elt (x14.1.map (V.int .i64)) 3 d = (V.int .i64) (gt x14.1 3) := fun d => elt_mp (l := x14.1) (f := (V.int .i64)) (i := 3) (by (first | exact omQ | (clear hM; first | (have h9 := sub_gt (l := i_.L) (j := 1) (by assumption) (by assumption) (by omega); exact omQ')))) d
              refine spQA (And.intro he13 (And.intro he18 (And.intro he23 (And.intro he28 (And.intro he33 (And.intro he58 (And.intro he59 (And.intro he60 he61)))))))) ?_
              refine hbindC_intro (by (first | exact omQ | (clear hM; first | (have h9 := sub_gt (l := i_.L) (j := 1) (by assumption) (by assumption) (by omega); exact omQ')))) ?_
              have he62 : ∀ d, elt (x14.1.map (V.int .i64)) 4 d = (V.int .i64) (gt x14.1 4) := fun d => elt_mp (l := x14.1) (f := (V.int .i64)) (i := 4) (by (first | exact omQ | (clear hM; first | (have h9 := sub_gt (l := i_.L) (j := 1) (by assumption) (by assumption) (by omega); exact omQ')))) d
              refine spQA (And.intro he13 (And.intro he18 (And.intro he23 (And.intro he28 (And.intro he33 (And.intro he58 (And.intro he59 (And.intro he60 (And.intro he61 he62))))))))) ?_
              refine hbindC_intro (by (first | exact omQ | (clear hM; first | (have h9 := sub_gt (l := i_.L) (j := 1) (by assumption) (by assumption) (by omega); exact omQ')))) ?_
              have he63 : ∀ d, elt (x14.1.map (V.int .i64)) 5 d = (V.int .i64) (gt x14.1 5) := fun d => elt_mp (l := x14.1) (f := (V.int .i64)) (i := 5) (by (first | exact omQ | (clear hM; first | (have h9 := sub_gt (l := i_.L) (j := 1) (by assumption) (by assumption) (by omega); exact omQ')))) d
              refine spQA (And.intro he13 (And.intro he18 (And.intro he23 (And.intro he28 (And.intro he33 (And.intro he58 (And.intro he59 (And.intro he60 (And.intro he61 (And.intro he62 he63)))))))))) ?_
              refine hbindC_intro (by (first | exact omQ | (clear hM; first | (have h9 := sub_gt (l := i_.L) (j := 1) (by assumption) (by assumption) (by omega); exact omQ')))) ?_
              have he64 : ∀ d, elt (x19.1.map (V.int .i64)) 0 d = (V.int .i64) (gt x19.1 0) := fun d => elt_mp (l := x19.1) (f := (V.int .i64)) (i := 0) (by (first | exact omQ | (clear hM; first | (have h9 := sub_gt (l := i_.L) (j := 1) (by assumption) (by assumption) (by omega); exact omQ')))) d
              refine spQA (And.intro he13 (And.intro he18 (And.intro he23 (And.intro he28 (And.intro he33 (And.intro he58 (And.intro he59 (And.intro he60 (And.intro he61 (And.intro he62 (And.intro he63 he64))))))))))) ?_
              refine hbindC_intro (by (first | exact omQ | (clear hM; first | (have h9 := sub_gt (l := i_.L) (j := 1) (by assumption) (by assumption) (by omega); exact omQ')))) ?_
              have he65 : ∀ d, elt (x19.1.map (V.int .i64)) 1 d = (V.int .i64) (gt x19.1 1) := fun d => elt_mp (l := x19.1) (f := (V.int .i64)) (i := 1) (by (first | exact omQ | (clear hM; first | (have h9 := sub_gt (l := i_.L) (j := 1) (by assumption) (by assumption) (by omega); exact omQ')))) d
              refine spQA (And.intro he13 (And.intro he18 (And.intro he23 (And.intro he28 (And.intro he33 (And.intro he58 (And.intro he59 (And.intro he60 (And.intro he61 (And.intro he62 (And.intro he63 (And.intro he64 he65)))))))))))) ?_
              refine hbindC_intro (by (first | exact omQ | (clear hM; first | (have h9 := sub_gt (l := i_.L) (j := 1) (by assumption) (by assumption) (by omega); exact omQ')))) ?_
              have he66 : ∀ d, elt (x24.1.map (V.int .i64)) 0 d = (V.int .i64) (gt x24.1 0) := fun d => elt_mp (l := x24.1) (f := (V.int .i64)) (i := 0) (by (first | exact omQ | (clear hM; first | (have h9 := sub_gt (l := i_.L) (j := 1) (by assumption) (by assumption) (by omega); exact omQ')))) d
              refine spQA (And.intro he13 (And.intro he18 (And.intro he23 (And.intro he28 (And.intro he33 (And.intro he58 (And.intro he59 (And.intro he60 (And.intro he61 (And.intro he62 (And.intro he63 (And.intro he64 (And.intro he65 he66))))))))))))) ?_
              refine hbindC_intro (by (first | exact omQ | (clear hM; first | (have h9 := sub_gt (l := i_.L) (j := 1) (by assumption) (by assumption) (by omega); exact omQ')))) ?_
              have he67 : ∀ d, elt (x24.1.map (V.int .i64)) 1 d = (V.int .i64) (gt x24.1 1) := fun d => elt_mp (l := x24.1) (f := (V.int .i64)) (i := 1) (by (first | exact omQ | (clear hM; first | (have h9 := sub_gt (l := i_.L) (j := 1) (by assumption) (by assumption) (by omega); exact omQ')))) d
              refine spQA (And.intro he13 (And.intro he18 (And.intro he23 (And.intro he28 (And.intro he33 (And.intro he58 (And.intro he59 (And.intro he60 (And.intro he61 (And.intro he62 (And.intro he63 (And.intro he64 (And.intro he65 (And.intro he66 he67)))))))))))))) ?_
              refine hbindC_intro (by (first | exact omQ | (clear hM; first | (have h9 := sub_gt (l := i_.L) (j := 1) (by assumption) (by assumption) (by omega); exact omQ')))) ?_
              have he68 : ∀ d, elt (x24.1.map (V.int .i64)) 2 d = (V.int .i64) (gt x24.1 2) := fun d => elt_mp (l := x24.1) (f := (V.int .i64)) (i := 2) (by (first | exact omQ | (clear hM; first | (have h9 := sub_gt (l := i_.L) (j := 1) (by assumption) (by assumption) (by omega); exact omQ')))) d
              refine spQA (And.intro he13 (And.intro he18 (And.intro he23 (And.intro he28 (And.intro he33 (And.intro he58 (And.intro he59 (And.intro he60 (And.intro he61 (And.intro he62 (And.intro he63 (And.intro he64 (And.intro he65 (And.intro he66 (And.intro he67 he68))))))))))))))) ?_
              refine hbindC_intro (by (first | exact omQ | (clear hM; first | (have h9 := sub_gt (l := i_.L) (j := 1) (by assumption) (by assumption) (by omega); exact omQ')))) ?_
              have he69 : ∀ d, elt (x29.1.map (V.int .i64)) 0 d = (V.int .i64) (gt x29.1 0) := fun d => elt_mp (l := x29.1) (f := (V.int .i64)) (i := 0) (by (first | exact omQ | (clear hM; first | (have h9 := sub_gt (l := i_.L) (j := 1) (by assumption) (by assumption) (by omega); exact omQ')))) d
              refine spQA (And.intro he13 (And.intro he18 (And.intro he23 (And.intro he28 (And.intro he33 (And.intro he58 (And.intro he59 (And.intro he60 (And.intro he61 (And.intro he62 (And.intro he63 (And.intro he64 (And.intro he65 (And.intro he66 (And.intro he67 (And.intro he68 he69)))))))))))))))) ?_
              refine hbindC_intro (by (first | exact omQ | (clear hM; first | (have h9 := sub_gt (l := i_.L) (j := 1) (by assumption) (by assumption) (by omega); exact omQ')))) ?_
              have he70 : ∀ d, elt (x29.1.map (V.int .i64)) 1 d = (V.int .i64) (gt x29.1 1) := fun d => elt_mp (l := x29.1) (f := (V.int .i64)) (i := 1) (by (first | exact omQ | (clear hM; first | (have h9 := sub_gt (l := i_.L) (j := 1) (by assumption) (by assumption) (by omega); exact omQ')))) d
              refine spQA (And.intro he13 (And.intro he18 (And.intro he23 (And.intro he28 (And.intro he33 (And.intro he58 (And.intro he59 (And.intro he60 (And.intro he61 (And.intro he62 (And.intro he63 (And.intro he64 (And.intro he65 (And.intro he66 (And.intro he67 (And.intro he68 (And.intro he69 he70))))))))))))))))) ?_
              refine hbindC_intro (by (first | exact omQ | (clear hM; first | (have h9 := sub_gt (l := i_.L) (j := 1) (by assumption) (by assumption) (by omega); exact omQ')))) ?_
              have he71 : ∀ d, elt (x29.1.map (V.int .i64)) 2 d = (V.int .i64) (gt x29.1 2) := fun d => elt_mp (l := x29.1) (f := (V.int .i64)) (i := 2) (by (first | exact omQ | (clear hM; first | (have h9 := sub_gt (l := i_.L) (j := 1) (by assumption) (by assumption) (by omega); exact omQ')))) d
              refine spQA (And.intro he13 (And.intro he18 (And.intro he23 (And.intro he28 (And.intro he33 (And.intro he58 (And.intro he59 (And.intro he60 (And.intro he61 (And.intro he62 (And.intro he63 (And.intro he64 (And.intro he65 (And.intro he66 (And.intro he67 (And.intro he68 (And.intro he69 (And.intro he70 he71)))))))))))))))))) ?_
              refine hbindC_intro (by (first | exact omQ | (clear hM; first | (have h9 := sub_gt (l := i_.L) (j := 1) (by assumption) (by assumption) (by omega); exact omQ')))) ?_
              have he72 : ∀ d, elt (x29.1.map (V.int .i64)) 3 d = (V.int .i64) (gt x29.1 3) := fun d => elt_mp (l := x29.1) (f := (V.int .i64)) (i := 3) (by (first | exact omQ | (clear hM; first | (have h9 := sub_gt (l := i_.L) (j := 1) (by assumption) (by assumption) (by omega); exact omQ')))) d
              refine spQA (And.intro he13 (And.intro he18 (And.intro he23 (And.intro he28 (And.intro he33 (And.intro he58 (And.intro he59 (And.intro he60 (And.intro he61 (And.intro he62 (And.intro he63 (And.intro he64 (And.intro he65 (And.intro he66 (And.intro he67 (And.intro he68 (And.intro he69 (And.intro he70 (And.intro he71 he72))))))))))))))))))) ?_
              refine hbindC_intro (by (first | exact omQ | (clear hM; first | (have h9 := sub_gt (l := i_.L) (j := 1) (by assumption) (by assumption) (by omega); exact omQ')))) ?_
              have he73 : ∀ d, elt (x29.1.map (V.int .i64)) 4 d = (V.int .i64) (gt x29.1 4) := fun d => elt_mp (l := x29.1) (f := (V.int .i64)) (i := 4) (by (first | exact omQ | (clear hM; first | (have h9 := sub_gt (l := i_.L) (j := 1) (by assumption) (by assumption) (by omega); exact omQ')))) d
              refine spQA (And.intro he13 (And.intro he18 (And.intro he23 (And.intro he28 (And.intro he33 (And.intro he58 (And.intro he59 (And.intro he60 (And.intro he61 (And.intro he62 (And.intro he63 (And.intro he64 (And.intro he65 (And.intro he66 (And.intro he67 (And.intro he68 (And.intro he69 (And.intro he70 (And.intro he71 (And.intro he72 he73)))))))))))))))))))) ?_
              refine hbindC_intro (by (first | exact omQ | (clear hM; first | (have h9 := sub_gt (l := i_.L) (j := 1) (by assumption) (by assumption) (by omega); exact omQ')))) ?_
              have he74 : ∀ d, elt (x29.1.map (V.int .i64)) 5 d = (V.int .i64) (gt x29.1 5) := fun d => elt_mp (l := x29.1) (f := (V.int .i64)) (i := 5) (by (first | exact omQ | (clear hM; first | (have h9 := sub_gt (l := i_.L) (j := 1) (by assumption) (by assumption) (by omega); exact omQ')))) d
              refine spQA (And.intro he13 (And.intro he18 (And.intro he23 (And.intro he28 (And.intro he33 (And.intro he58 (And.intro he59 (And.intro he60 (And.intro he61 (And.intro he62 (And.intro he63 (And.intro he64 (And.intro he65 (And.intro he66 (And.intro he67 (And.intro he68 (And.intro he69 (And.intro he70 (And.intro he71 (And.intro he72 (And.intro he73 he74))))))))))))))))))))) ?_
              have hM0 := hM; clear hM; obtain ⟨f75, d75, hf75, hd75, hM⟩ := iter_opn hM0; clear hM0
              refine ct_loopW (fun n S => ∃ p : Int × List (List Int), S = (⟨[(2, .ptr 1 0), (6, .sl none 1 false (x19.1.map (V.int .i64))), (14, .ptr 59 0), (15, .int .i64 p.1)], [(1, .var 59 true (zv_80)), (59, .var 59 true (.agg (.int .i64 (gt x14.1 0) :: .int .i64 (gt x14.1 1) :: .int .i64 (gt x14.1 2) :: .int .i64 (gt x14.1 3) :: .int .i64 (gt x14.1 4) :: .int .i64 (gt x14.1 5) :: .int .i64 (gt x19.1 0) :: .int .i64 (gt x19.1 1) :: .own 60 :: .int .i64 (gt x24.1 0) :: .int .i64 (gt x24.1 1) :: .int .i64 (gt x24.1 2) :: .int .i64 (gt x29.1 0) :: .int .i64 (gt x29.1 1) :: .int .i64 (gt x29.1 2) :: .int .i64 (gt x29.1 3) :: .int .i64 (gt x29.1 4) :: .int .i64 (gt x29.1 5) :: .int .i64 x34.1.Bank :: .int .i64 x34.1.Epoch :: .int .i64 x34.1.Denom :: .int .i64 x34.1.Depth :: .int .i64 x34.1.A :: .int .u8 (gt x34.1.Root 0) :: .int .u8 (gt x34.1.Root 1) :: .int .u8 (gt x34.1.Root 2) :: .int .u8 (gt x34.1.Root 3) :: .int .u8 (gt x34.1.Root 4) :: .int .u8 (gt x34.1.Root 5) :: .int .u8 (gt x34.1.Root 6) :: .int .u8 (gt x34.1.Root 7) :: .int .u8 (gt x34.1.Root 8) :: .int .u8 (gt x34.1.Root 9) :: .int .u8 (gt x34.1.Root 10) :: .int .u8 (gt x34.1.Root 11) :: .int .u8 (gt x34.1.Root 12) :: .int .u8 (gt x34.1.Root 13) :: .int .u8 (gt x34.1.Root 14) :: .int .u8 (gt x34.1.Root 15) :: .int .u8 (gt x34.1.Root 16) :: .int .u8 (gt x34.1.Root 17) :: .int .u8 (gt x34.1.Root 18) :: .int .u8 (gt x34.1.Root 19) :: .int .u8 (gt x34.1.Root 20) :: .int .u8 (gt x34.1.Root 21) :: .int .u8 (gt x34.1.Root 22) :: .int .u8 (gt x34.1.Root 23) :: .int .u8 (gt x34.1.Root 24) :: .int .u8 (gt x34.1.Root 25) :: .int .u8 (gt x34.1.Root 26) :: .int .u8 (gt x34.1.Root 27) :: .int .u8 (gt x34.1.Root 28) :: .int .u8 (gt x34.1.Root 29) :: .int .u8 (gt x34.1.Root 30) :: .int .u8 (gt x34.1.Root 31) :: .int .i64 x34.1.Sign.Z :: .int .i64 x34.1.Sign.A :: .int .i64 x34.1.Sign.B :: .int .i64 x34.1.Sign.R :: []))), (60, .own 57 2 true none (p.2.map (fun l => .agg [.int .i64 (gt l 0), .int .i64 (gt l 1)])))], 61⟩ : St) ∧ ((2 ≤ p.1) ∧ (p.1 ≤ (x19.1.length : Int) ∨ p.1 ≤ 2) ∧ (p.1 % 2 = 0) ∧ (((p.2).length : Int) ≤ p.1)) ∧ ((x19.1.length : Int) - p.1).toNat < n ∧ iter n f75 d75 p = r) (((x19.1.length : Int) - 2).toNat + 1) _ _ (weak_nilV 59 8 57 rfl rfl (by decide)) sbQ sbQ ⟨(2, ([] : List (List Int))), rfl, ⟨by (first | exact omQ | (clear hM; first | (have h9 := sub_gt (l := i_.L) (j := 1) (by assumption) (by assumption) (by omega); exact omQ'))), by (first | exact omQ | (clear hM; first | (have h9 := sub_gt (l := i_.L) (j := 1) (by assumption) (by assumption) (by omega); exact omQ'))), by (first | exact omQ | (clear hM; first | (have h9 := sub_gt (l := i_.L) (j := 1) (by assumption) (by assumption) (by omega); exact omQ'))), by (first | exact omQ | (clear hM; first | (have h9 := sub_gt (l := i_.L) (j := 1) (by assumption) (by assumption) (by omega); exact omQ')))⟩, (Nat.lt_succ_self _), hM⟩ ?_
              clear hM
              rintro n75 S ⟨p75, rfl, hfa75, hm75, hM⟩
              have hM0 := hM; clear hM; obtain ⟨ag75, hag75, hM⟩ := iter_step hM0 (by omega) hf75; clear hM0
              replace hfa75 := nzQ hfa75
              replace hm75 := nzQ hm75
              have ha75 : addI .i64 p75.1 1 = p75.1 + 1 := add_one (by (first | exact omQ | (clear hM; first | (have h9 := sub_gt (l := i_.L) (j := 1) (by assumption) (by assumption) (by omega); exact omQ')))) (by (first | exact omQ | (clear hM; first | (have h9 := sub_gt (l := i_.L) (j := 1) (by assumption) (by assumption) (by omega); exact omQ'))))
              refine spQA (And.intro he13 (And.intro he18 (And.intro he23 (And.intro he28 (And.intro he33 (And.intro he58 (And.intro he59 (And.intro he60 (And.intro he61 (And.intro he62 (And.intro he63 (And.intro he64 (And.intro he65 (And.intro he66 (And.intro he67 (And.intro he68 (And.intro he69 (And.intro he70 (And.intro he71 (And.intro he72 (And.intro he73 (And.intro he74 ha75)))))))))))))))))))))) ?_
              refine condC_intro (fun h76 => ?_) (fun h76 => ?_)
              ·rw [if_pos h76] at hM
               refine spQA (And.intro he13 (And.intro he18 (And.intro he23 (And.intro he28 (And.intro he33 (And.intro he58 (And.intro he59 (And.intro he60 (And.intro he61 (And.intro he62 (And.intro he63 (And.intro he64 (And.intro he65 (And.intro he66 (And.intro he67 (And.intro he68 (And.intro he69 (And.intro he70 (And.intro he71 (And.intro he72 (And.intro he73 (And.intro he74 (And.intro ha75 h76))))))))))))))))))))))) ?_
               have nh76 := nzQ h76
               try have hr77 := mpQ nh76
               refine ct_draw 195 14 [177, 178, 179, 180, 181, 182, 183, 184, 185, 186, 187, 188, 189, 190] [] ([[], [0], [0, 1], [], [], [3, 4], [3, 4, 5], [], [], [8], [7, 8, 9], [7, 8, 9, 10], [3, 4, 5, 6, 7, 8, 9, 10, 11], [3, 4, 5, 6, 7, 8, 9, 10, 11, 12]] ++ [List.range 14, List.range 15, List.range 16, List.range 17]) [] (by kernel_rfl) (by exact alQ) ?_
               refine spQA (And.intro he13 (And.intro he18 (And.intro he23 (And.intro he28 (And.intro he33 (And.intro he58 (And.intro he59 (And.intro he60 (And.intro he61 (And.intro he62 (And.intro he63 (And.intro he64 (And.intro he65 (And.intro he66 (And.intro he67 (And.intro he68 (And.intro he69 (And.intro he70 (And.intro he71 (And.intro he72 (And.intro he73 (And.intro he74 ha75)))))))))))))))))))))) ?_
               refine hbindC_intro (by (first | exact omQ | (clear hM; first | (have h9 := sub_gt (l := i_.L) (j := 1) (by assumption) (by assumption) (by omega); exact omQ')))) ?_
               have he78 := fun d => elt_mp (l := x19.1) (f := (V.int .i64)) (i := p75.1) (by (first | exact omQ | (clear hM; first | (have h9 := sub_gt (l := i_.L) (j := 1) (by assumption) (by assumption) (by omega); exact omQ')))) d
               refine spQA (And.intro he13 (And.intro he18 (And.intro he23 (And.intro he28 (And.intro he33 (And.intro he58 (And.intro he59 (And.intro he60 (And.intro he61 (And.intro he62 (And.intro he63 (And.intro he64 (And.intro he65 (And.intro he66 (And.intro he67 (And.intro he68 (And.intro he69 (And.intro he70 (And.intro he71 (And.intro he72 (And.intro he73 (And.intro he74 (And.intro ha75 he78))))))))))))))))))))))) ?_
               refine hbindC_intro (by (first | exact omQ | (clear hM; first | (have h9 := sub_gt (l := i_.L) (j := 1) (by assumption) (by assumption) (by omega); exact omQ')))) ?_
               have he79 := fun d => elt_mp (l := x19.1) (f := (V.int .i64)) (i := (p75.1 + 1)) (by (first | exact omQ | (clear hM; first | (have h9 := sub_gt (l := i_.L) (j := 1) (by assumption) (by assumption) (by omega); exact omQ')))) d
               refine spQA (And.intro he13 (And.intro he18 (And.intro he23 (And.intro he28 (And.intro he33 (And.intro he58 (And.intro he59 (And.intro he60 (And.intro he61 (And.intro he62 (And.intro he63 (And.intro he64 (And.intro he65 (And.intro he66 (And.intro he67 (And.intro he68 (And.intro he69 (And.intro he70 (And.intro he71 (And.intro he72 (And.intro he73 (And.intro he74 (And.intro ha75 (And.intro he78 he79)))))))))))))))))))))))) ?_
               refine bindC_intro (by (first | exact omQ | (clear hM; first | (have h9 := sub_gt (l := i_.L) (j := 1) (by assumption) (by assumption) (by omega); exact omQ')))) ?_
               refine spQA (And.intro he13 (And.intro he18 (And.intro he23 (And.intro he28 (And.intro he33 (And.intro he58 (And.intro he59 (And.intro he60 (And.intro he61 (And.intro he62 (And.intro he63 (And.intro he64 (And.intro he65 (And.intro he66 (And.intro he67 (And.intro he68 (And.intro he69 (And.intro he70 (And.intro he71 (And.intro he72 (And.intro he73 (And.intro he74 (And.intro ha75 (And.intro he78 he79)))))))))))))))))))))))) ?_
               have ha80 : addI .i64 p75.1 2 = (p75.1 + 2) := add_ok (by (first | exact omQ | (clear hM; first | (have h9 := sub_gt (l := i_.L) (j := 1) (by assumption) (by assumption) (by omega); exact omQ')))) (by (first | exact omQ | (clear hM; first | (have h9 := sub_gt (l := i_.L) (j := 1) (by assumption) (by assumption) (by omega); exact omQ'))))
               try simp only [ha80]
               refine lp_intro (n75 - 1) _ (by omega) sbQ (by simp only [go_sem, rowV_eq, rowV_eq0, List.length_replicate, rep_len, Int.toNat_natCast, ↓reduceIte, Nat.reduceEqDiff, Nat.reduceAdd, Int.reduceAdd, Nat.reduceMul, Nat.reduceLeDiff, Nat.reduceLT, Int.reduceLE, Int.reduceLT, Int.reduceNeg, Int.reduceToNat, List.isEmpty_nil, map_st, mtL_repE, mtL_repM, subF, subH, mtO, mtB, mt, mtL, mtL_self, mt_self, ltV, ltL, ltB, eq_self, or_true, true_or, or_self, and_self, gt_cons0, gt_conss, Int.reduceSub]) ⟨((p75.1 + 2), (p75.2 ++ ([[(gt x19.1 p75.1), (gt x19.1 (p75.1 + 1))]] : List (List Int)))), rfl, ⟨by (first | exact omQ | (clear hM; first | (have h9 := sub_gt (l := i_.L) (j := 1) (by assumption) (by assumption) (by omega); exact omQ'))), by (first | exact omQ | (clear hM; first | (have h9 := sub_gt (l := i_.L) (j := 1) (by assumption) (by assumption) (by omega); exact omQ'))), by (first | exact omQ | (clear hM; first | (have h9 := sub_gt (l := i_.L) (j := 1) (by assumption) (by assumption) (by omega); exact omQ'))), by (first | exact omQ | (clear hM; first | (have h9 := sub_gt (l := i_.L) (j := 1) (by assumption) (by assumption) (by omega); exact omQ')))⟩, by (first | exact omQ | (clear hM; first | (have h9 := sub_gt (l := i_.L) (j := 1) (by assumption) (by assumption) (by omega); exact omQ'))), iter_again hM hag75⟩
              ·rw [if_neg (ne_true h76)] at hM
               refine spQA (And.intro he13 (And.intro he18 (And.intro he23 (And.intro he28 (And.intro he33 (And.intro he58 (And.intro he59 (And.intro he60 (And.intro he61 (And.intro he62 (And.intro he63 (And.intro he64 (And.intro he65 (And.intro he66 (And.intro he67 (And.intro he68 (And.intro he69 (And.intro he70 (And.intro he71 (And.intro he72 (And.intro he73 (And.intro he74 (And.intro ha75 h76))))))))))))))))))))))) ?_
               have nh76 := nzQ h76
               try have hr81 := mpQ nh76
               subst hM
               exact retC_view (lfQA (And.intro he13 (And.intro he18 (And.intro he23 (And.intro he28 (And.intro he33 (And.intro he58 (And.intro he59 (And.intro he60 (And.intro he61 (And.intro he62 (And.intro he63 (And.intro he64 (And.intro he65 (And.intro he66 (And.intro he67 (And.intro he68 (And.intro he69 (And.intro he70 (And.intro he71 (And.intro he72 (And.intro he73 (And.intro he74 (And.intro ha75 (And.intro h5 (And.intro h8 (And.intro h10 (And.intro h37 (And.intro h39 (And.intro h41 (And.intro h43 (And.intro h45 (And.intro h47 (And.intro h49 (And.intro h51 (And.intro h53 (And.intro h55 h76)))))))))))))))))))))))))))))))))))))
            ·rw [if_pos h53] at hM
             refine spQA (And.intro he13 (And.intro he18 (And.intro he23 (And.intro he28 (And.intro he33 h53))))) ?_
             have nh53 := nzQ h53
             try have hr82 := mpQ nh53
             subst hM
             exact retC_view (lfQA (And.intro he13 (And.intro he18 (And.intro he23 (And.intro he28 (And.intro he33 (And.intro h5 (And.intro h8 (And.intro h10 (And.intro h37 (And.intro h39 (And.intro h41 (And.intro h43 (And.intro h45 (And.intro h47 (And.intro h49 (And.intro h51 h53)))))))))))))))))
           ·rw [if_pos h51] at hM
            refine spQA (And.intro he13 (And.intro he18 (And.intro he23 (And.intro he28 (And.intro he33 h51))))) ?_
            have nh51 := nzQ h51
            try have hr83 := mpQ nh51
            subst hM
            exact retC_view (lfQA (And.intro he13 (And.intro he18 (And.intro he23 (And.intro he28 (And.intro he33 (And.intro h5 (And.intro h8 (And.intro h10 (And.intro h37 (And.intro h39 (And.intro h41 (And.intro h43 (And.intro h45 (And.intro h47 (And.intro h49 h51))))))))))))))))
          ·rw [if_pos h49] at hM
           refine spQA (And.intro he13 (And.intro he18 (And.intro he23 (And.intro he28 (And.intro he33 h49))))) ?_
           have nh49 := nzQ h49
           try have hr84 := mpQ nh49
           subst hM
           exact retC_view (lfQA (And.intro he13 (And.intro he18 (And.intro he23 (And.intro he28 (And.intro he33 (And.intro h5 (And.intro h8 (And.intro h10 (And.intro h37 (And.intro h39 (And.intro h41 (And.intro h43 (And.intro h45 (And.intro h47 h49)))))))))))))))
         ·rw [if_pos h47] at hM
          refine spQA (And.intro he13 (And.intro he18 (And.intro he23 (And.intro he28 (And.intro he33 h47))))) ?_
          have nh47 := nzQ h47
          try have hr85 := mpQ nh47
          subst hM
          exact retC_view (lfQA (And.intro he13 (And.intro he18 (And.intro he23 (And.intro he28 (And.intro he33 (And.intro h5 (And.intro h8 (And.intro h10 (And.intro h37 (And.intro h39 (And.intro h41 (And.intro h43 (And.intro h45 h47))))))))))))))
        ·rw [if_pos h45] at hM
         refine spQA (And.intro he13 (And.intro he18 (And.intro he23 (And.intro he28 (And.intro he33 h45))))) ?_
         have nh45 := nzQ h45
         try have hr86 := mpQ nh45
         subst hM
         exact retC_view (lfQA (And.intro he13 (And.intro he18 (And.intro he23 (And.intro he28 (And.intro he33 (And.intro h5 (And.intro h8 (And.intro h10 (And.intro h37 (And.intro h39 (And.intro h41 (And.intro h43 h45)))))))))))))
       ·rw [if_pos h43] at hM
        refine spQA (And.intro he13 (And.intro he18 (And.intro he23 (And.intro he28 (And.intro he33 h43))))) ?_
        have nh43 := nzQ h43
        try have hr87 := mpQ nh43
        subst hM
        exact retC_view (lfQA (And.intro he13 (And.intro he18 (And.intro he23 (And.intro he28 (And.intro he33 (And.intro h5 (And.intro h8 (And.intro h10 (And.intro h37 (And.intro h39 (And.intro h41 h43))))))))))))
      ·rw [if_pos h41] at hM
       refine spQA (And.intro he13 (And.intro he18 (And.intro he23 (And.intro he28 (And.intro he33 h41))))) ?_
       have nh41 := nzQ h41
       try have hr88 := mpQ nh41
       subst hM
       exact retC_view (lfQA (And.intro he13 (And.intro he18 (And.intro he23 (And.intro he28 (And.intro he33 (And.intro h5 (And.intro h8 (And.intro h10 (And.intro h37 (And.intro h39 h41)))))))))))
     ·rw [if_pos h39] at hM
      refine spQA (And.intro he13 (And.intro he18 (And.intro he23 (And.intro he28 (And.intro he33 h39))))) ?_
      have nh39 := nzQ h39
      try have hr89 := mpQ nh39
      subst hM
      exact retC_view (lfQA (And.intro he13 (And.intro he18 (And.intro he23 (And.intro he28 (And.intro he33 (And.intro h5 (And.intro h8 (And.intro h10 (And.intro h37 h39))))))))))
    ·rw [if_pos h37] at hM
     refine spQA (And.intro he13 (And.intro he18 (And.intro he23 (And.intro he28 (And.intro he33 h37))))) ?_
     have nh37 := nzQ h37
     try have hr90 := mpQ nh37
     subst hM
     exact retC_view (lfQA (And.intro he13 (And.intro he18 (And.intro he23 (And.intro he28 (And.intro he33 (And.intro h5 (And.intro h8 (And.intro h10 h37)))))))))
  ·rw [if_pos h8] at hM
   refine spQA h8 ?_
   have nh8 := nzQ h8
   try have hr91 := mpQ nh8
   subst hM
   exact retC_view (lfQA (And.intro h5 h8))
instance (priority := 1010) : DRD 6 115 12 [23, 24, 25, 26, 27, 28, 29, 30, 31, 32, 33, 34] [] ([[], [0], [0, 1], [], [0, 1, 2, 3], [0, 1, 2, 3, 4], [], [6], [6, 7], [], [6, 7, 8, 9], [6, 7, 8, 9, 10]] ++ [List.range 12]) [] := ⟨trivial⟩
set_option maxHeartbeats 2000000 in
set_option maxRecDepth 100000 in
instance specieref37_Same_ok   (a_ : S_api_Withdrawal) (b : S_api_Withdrawal)  : CM En (specieref37_Same a_ b) 46 [(e_api_Withdrawal a_), .agg (.int .i64 b.Phase :: .int .i64 b.Number :: .int .i64 b.Bank :: .int .i64 b.Epoch :: .int .i64 b.Denom :: .int .i64 b.Depth :: .int .i64 b.Secret.U :: .int .i64 b.Secret.S :: .sl none 2 true (b.Secret.X.map (fun l => .agg [.int .i64 (gt l 0), .int .i64 (gt l 1)])) :: .int .i64 b.Factors.S :: .int .i64 b.Factors.U :: .int .i64 b.Factors.V :: .int .i64 b.View.M :: .int .i64 b.View.Z :: .int .i64 b.View.A :: .int .i64 b.View.B :: .int .i64 b.View.C :: .int .i64 b.View.R :: .int .i64 b.Coin.Bank :: .int .i64 b.Coin.Epoch :: .int .i64 b.Coin.Denom :: .int .i64 b.Coin.Depth :: .int .i64 b.Coin.A :: .int .u8 (gt b.Coin.Root 0) :: .int .u8 (gt b.Coin.Root 1) :: .int .u8 (gt b.Coin.Root 2) :: .int .u8 (gt b.Coin.Root 3) :: .int .u8 (gt b.Coin.Root 4) :: .int .u8 (gt b.Coin.Root 5) :: .int .u8 (gt b.Coin.Root 6) :: .int .u8 (gt b.Coin.Root 7) :: .int .u8 (gt b.Coin.Root 8) :: .int .u8 (gt b.Coin.Root 9) :: .int .u8 (gt b.Coin.Root 10) :: .int .u8 (gt b.Coin.Root 11) :: .int .u8 (gt b.Coin.Root 12) :: .int .u8 (gt b.Coin.Root 13) :: .int .u8 (gt b.Coin.Root 14) :: .int .u8 (gt b.Coin.Root 15) :: .int .u8 (gt b.Coin.Root 16) :: .int .u8 (gt b.Coin.Root 17) :: .int .u8 (gt b.Coin.Root 18) :: .int .u8 (gt b.Coin.Root 19) :: .int .u8 (gt b.Coin.Root 20) :: .int .u8 (gt b.Coin.Root 21) :: .int .u8 (gt b.Coin.Root 22) :: .int .u8 (gt b.Coin.Root 23) :: .int .u8 (gt b.Coin.Root 24) :: .int .u8 (gt b.Coin.Root 25) :: .int .u8 (gt b.Coin.Root 26) :: .int .u8 (gt b.Coin.Root 27) :: .int .u8 (gt b.Coin.Root 28) :: .int .u8 (gt b.Coin.Root 29) :: .int .u8 (gt b.Coin.Root 30) :: .int .u8 (gt b.Coin.Root 31) :: .int .i64 b.Coin.Sign.Z :: .int .i64 b.Coin.Sign.A :: .int .i64 b.Coin.Sign.B :: .int .i64 b.Coin.Sign.R :: [])] (fun y => .bool y) (fun _ => []) := by
 refine cmQ fun r hM => ?_
 rw [specieref37_Same.eq_1] at hM
 refine enterV En_ok En_mo noJ Tryz.func46 rfl Tryz.ntmps46 (by kernel_rfl) fun hw => ct_start ?_
 refine spQ ?_
 replace hw := nzQ hw
 refine condC_intro (fun h1 => ?_) (fun h1 => ?_)
 ·rw [if_pos h1] at hM
  refine spQA h1 ?_
  have nh1 := nzQ h1
  try have hr2 := mpQ nh1
  subst hM
  exact retC_view (lfQA h1)
 ·rw [if_neg (ne_true h1)] at hM
  refine spQA h1 ?_
  have nh1 := nzQ h1
  try have hr3 := mpQ nh1
  have hM0 := hM; clear hM; obtain ⟨f4, d4, hf4, hd4, hM⟩ := iter_opn hM0; clear hM0
  refine ct_loop (fun n S => ∃ p : Int, S = (⟨[(2, .ptr 0 0), (3, .ptr 1 0), (5, .int .i64 p)], [(0, .var 59 true ((e_api_Withdrawal a_))), (1, .var 59 true ((e_api_Withdrawal b)))], 2⟩ : St) ∧ ((0 ≤ p) ∧ (p ≤ (a_.Secret.X.length : Int))) ∧ ((a_.Secret.X.length : Int) - p).toNat < n ∧ iter n f4 d4 p = r) (((a_.Secret.X.length : Int) - 0).toNat + 1) _ sbQ sbQ ⟨0, rfl, ⟨omQ, omQ⟩, (Nat.lt_succ_self _), hM⟩ ?_
  clear hM
  rintro n4 S ⟨p4, rfl, hfa4, hm4, hM⟩
  have hM0 := hM; clear hM; obtain ⟨ag4, hag4, hM⟩ := iter_step hM0 (by omega) hf4; clear hM0
  replace hfa4 := nzQ hfa4
  replace hm4 := nzQ hm4
  have ha4 : addI .i64 p4 1 = p4 + 1 := add_one omQ omQ
  refine spQA ha4 ?_
  have hF := (And.intro h1 ha4)
  exact auQ
set_option maxHeartbeats 2000000 in
set_option maxRecDepth 100000 in
theorem coin_writer_ints_ok  (z0_1 : Option Bool) (z1 : Option Bool) (w_ : S_coin_writer) (l_ : (List Int)) (hp0 : w_.l.length ≤ 1000) : CallIn En 196 [.ptr 0 0, .sl z1 1 false (l_.map (V.int .i64))] [.var 1 true (.agg [.own 1]), .own 90 4 true z0_1 (w_.l.map e_api_Item)] (.tup []) [.var 1 true (.agg [.own 1]), .own 90 4 true none ((coin_writer_ints w_ l_).l.map e_api_Item)] [] := by
 generalize hM : coin_writer_ints w_ l_ = r
 rw [coin_writer_ints.eq_1] at hM
 refine enterI En_ok En_mo noJ Tryz.func196 rfl Tryz.ntmps196 (by kernel_rfl) rfl fun ks hw hwB => ct_start ?_
 refine spQ ?_
 replace hw := nzQ hw
 try simp only [wfBs, wfB, decide_eq_true_eq, decide_eq_false_iff_not, Bool.and_eq_true, Bool.or_eq_true, Bool.not_eq_true', Bool.not_eq_false', beq_iff_eq, bne_iff_ne, beq_eq_false_iff_ne, bne_eq_false_iff_eq, ne_eq, Int.not_lt, Int.not_le, gt_iff_lt, ge_iff_le, List.length_map, wfL, wfV, and_true, true_and, LEN_eq, rng_i64, rng_u64, rng_u32, rng_i32, sl_len, st_len, List.length_append, List.length_cons, List.length_nil, List.length_replicate, rep_len, rowV_len, spl_len, cutN_len, arrN_len, nat8_len, remI_nn] at hwB
 refine ct_draw 16 14 [4, 5, 6, 7, 8, 9, 10, 11, 12, 13, 14, 15] [] [[], [0], [0, 1], [0, 1, 2], [], [4], [0, 1, 2, 3], [], [0, 1, 2, 3, 6, 7], [0, 1, 2, 3, 6, 7, 8], [0, 1, 2, 3, 4, 5, 6, 7, 8, 9], [0], [0, 11], [0, 1, 2, 3, 7, 8, 11, 12]] [(8, 1), (10, 10), (13, 0)] (by kernel_rfl) (by exact alQ) ?_
 refine spQ ?_
 have hM0 := hM; clear hM; obtain ⟨x1, hx2, hM⟩ := letk_opn hM0; clear hM0
 have hcx1 := cmU hx2
 refine hcallC_give hcx1 clQ clQ ?_
 refine spQ ?_
 refine hbindC_introA omQ clQ ?_
 refine spQ ?_
 refine hbindC_intro omQ ?_
 have he3 : ∀ d, elt ((w_.l ++ ([z_api_Item] : List S_api_Item)).map e_api_Item) w_.l.length d = e_api_Item (gt (w_.l ++ ([z_api_Item] : List S_api_Item)) (w_.l.length : Int)) := fun d => elt_mp (l := (w_.l ++ ([z_api_Item] : List S_api_Item))) (f := e_api_Item) (i := (w_.l.length : Int)) omQ d
 refine spQA he3 ?_
 refine hbindC_introU omQ clQ ?_
 refine spQA he3 ?_
 subst hM
 exact retCI_in [0, 10] (by simp only [go_sem, rowV_eq, rowV_eq0, List.length_replicate, rep_len, Int.toNat_natCast, ↓reduceIte, Nat.reduceEqDiff, Nat.reduceAdd, Int.reduceAdd, Nat.reduceMul, Nat.reduceLeDiff, Nat.reduceLT, Int.reduceLE, Int.reduceLT, Int.reduceNeg, Int.reduceToNat, mt, mtL, mtL_self, mt_self, mtZ, and_self, eq_self, or_true, true_or, map_st, he3, gt_cons0, gt_conss, Int.reduceSub, or_self]) (by decide) (by simp only [go_sem, rowV_eq, rowV_eq0, List.length_replicate, rep_len, Int.toNat_natCast, ↓reduceIte, Nat.reduceEqDiff, Nat.reduceAdd, Int.reduceAdd, Nat.reduceMul, Nat.reduceLeDiff, Nat.reduceLT, Int.reduceLE, Int.reduceLT, Int.reduceNeg, Int.reduceToNat, mt, mtL, mtL_self, mt_self, mtZ, and_self, eq_self, or_true, true_or, map_st, he3, gt_cons0, gt_conss, Int.reduceSub, or_self])
set_option maxRecDepth 100000 in
theorem slices_Clone_byte_byte_ok (z0 : Option Bool) (s : List Int) : CallOk En 244 [.sl z0 1 false (s.map (V.int .u8))] (.own 0) [.own 5 1 false none ((slices_Clone_byte_byte s).map (V.int .u8))] := by
 show CallOk En 244 [.sl z0 1 false (s.map (V.int .u8))] (.own 0) [.own 5 1 false none (s.map (V.int .u8))]
 refine callOk_nil (pre := []) (post := []) (fun hl => ?_) ?_ z0
 ·have hl : s = [] := by cases s with | nil => rfl | cons a s => cases hl
  subst hl
  refine enterV En_ok En_mo noJ Tryz.func244 rfl Tryz.ntmps244 (by kernel_rfl) fun hw => ct_start ?_
  simp only [go_sem, rowV_eq, rowV_eq0, List.length_replicate, rep_len, Int.toNat_natCast, ↓reduceIte, Nat.reduceEqDiff, Nat.reduceAdd, Int.reduceAdd, Nat.reduceMul, Nat.reduceLeDiff, Nat.reduceLT, Int.reduceLE, Int.reduceLT, Int.reduceNeg, Int.reduceToNat, List.nil_append]
  exact retC_nil (by decide)
 ·refine enterV En_ok En_mo noJ Tryz.func244 rfl Tryz.ntmps244 (by kernel_rfl) fun hw => ct_start ?_
  simp only [go_sem, rowV_eq, rowV_eq0, List.length_replicate, rep_len, Int.toNat_natCast, ↓reduceIte, Nat.reduceEqDiff, Nat.reduceAdd, Int.reduceAdd, Nat.reduceMul, Nat.reduceLeDiff, Nat.reduceLT, Int.reduceLE, Int.reduceLT, Int.reduceNeg, Int.reduceToNat, List.nil_append]
  have hn : s.length ≤ 1073741824 := by have h := hw; simp only [wfL, wfV, List.nil_append, LEN_eq, List.length_map] at h; exact h.1.1
  refine bindC_intro (by first | omega | (simp only [List.length_map, List.length_nil, List.nil_append]; omega)) ?_
  refine spQ ?_
  refine retC_ownZ 0 rfl clQ
set_option maxHeartbeats 2000000 in
set_option maxRecDepth 100000 in
theorem coin_writer_bytes_ok  (z0_1 : Option Bool) (z1 : Option Bool) (w_ : S_coin_writer) (b : (List Int)) (hp0 : w_.l.length ≤ 1000) : CallIn En 197 [.ptr 0 0, .sl z1 1 false (b.map (V.int .u8))] [.var 1 true (.agg [.own 1]), .own 90 4 true z0_1 (w_.l.map e_api_Item)] (.tup []) [.var 1 true (.agg [.own 1]), .own 90 4 true none ((coin_writer_bytes w_ b).l.map e_api_Item)] [] := by
 generalize hM : coin_writer_bytes w_ b = r
 rw [coin_writer_bytes.eq_1] at hM
 refine enterI En_ok En_mo noJ Tryz.func197 rfl Tryz.ntmps197 (by kernel_rfl) rfl fun ks hw hwB => ct_start ?_
 refine spQ ?_
 replace hw := nzQ hw
 try simp only [wfBs, wfB, decide_eq_true_eq, decide_eq_false_iff_not, Bool.and_eq_true, Bool.or_eq_true, Bool.not_eq_true', Bool.not_eq_false', beq_iff_eq, bne_iff_ne, beq_eq_false_iff_ne, bne_eq_false_iff_eq, ne_eq, Int.not_lt, Int.not_le, gt_iff_lt, ge_iff_le, List.length_map, wfL, wfV, and_true, true_and, LEN_eq, rng_i64, rng_u64, rng_u32, rng_i32, sl_len, st_len, List.length_append, List.length_cons, List.length_nil, List.length_replicate, rep_len, rowV_len, spl_len, cutN_len, arrN_len, nat8_len, remI_nn] at hwB
 refine ct_draw 17 15 [4, 5, 6, 7, 8, 9, 10, 11, 12, 13, 14, 15, 16] [] [[], [0], [0, 1], [0, 1, 2], [], [4], [4, 5], [0, 1, 2, 3], [], [0, 1, 2, 3, 7, 8], [0, 1, 2, 3, 7, 8, 9], [0, 1, 2, 3, 4, 5, 6, 7, 8, 9, 10], [0], [0, 12], [0, 1, 2, 3, 8, 9, 12, 13]] [(9, 1), (11, 11), (14, 0)] (by kernel_rfl) (by exact alQ) ?_
 refine spQ ?_
 have hM0 := hM; clear hM; obtain ⟨x1, hx2, hM⟩ := letk_opn hM0; clear hM0
 have hcx1 := CallOk.pub ((slices_Clone_byte_byte_ok z1 b ))
 rw [← hx2] at hcx1
 refine hcallC_give hcx1 clQ clQ ?_
 refine spQ ?_
 refine hbindC_introA omQ clQ ?_
 refine spQ ?_
 refine hbindC_intro omQ ?_
 have he3 : ∀ d, elt ((w_.l ++ ([z_api_Item] : List S_api_Item)).map e_api_Item) w_.l.length d = e_api_Item (gt (w_.l ++ ([z_api_Item] : List S_api_Item)) (w_.l.length : Int)) := fun d => elt_mp (l := (w_.l ++ ([z_api_Item] : List S_api_Item))) (f := e_api_Item) (i := (w_.l.length : Int)) omQ d
 refine spQA he3 ?_
 refine hbindC_introU omQ clQ ?_
 refine spQA he3 ?_
 subst hM
 exact retCI_in [0, 11] (by simp only [go_sem, rowV_eq, rowV_eq0, List.length_replicate, rep_len, Int.toNat_natCast, ↓reduceIte, Nat.reduceEqDiff, Nat.reduceAdd, Int.reduceAdd, Nat.reduceMul, Nat.reduceLeDiff, Nat.reduceLT, Int.reduceLE, Int.reduceLT, Int.reduceNeg, Int.reduceToNat, mt, mtL, mtL_self, mt_self, mtZ, and_self, eq_self, or_true, true_or, map_st, he3, gt_cons0, gt_conss, Int.reduceSub, or_self]) (by decide) (by simp only [go_sem, rowV_eq, rowV_eq0, List.length_replicate, rep_len, Int.toNat_natCast, ↓reduceIte, Nat.reduceEqDiff, Nat.reduceAdd, Int.reduceAdd, Nat.reduceMul, Nat.reduceLeDiff, Nat.reduceLT, Int.reduceLE, Int.reduceLT, Int.reduceNeg, Int.reduceToNat, mt, mtL, mtL_self, mt_self, mtZ, and_self, eq_self, or_true, true_or, map_st, he3, gt_cons0, gt_conss, Int.reduceSub, or_self])
set_option maxHeartbeats 2000000 in
set_option maxRecDepth 100000 in
instance coin_Item_ok   (c : S_api_Coin)  : CM En (coin_Item c) 119 [(e_api_Coin c)] (fun y => .agg [.int .i64 y.Kind, .int .i64 y.N, .sl none 1 false (y.B.map (V.int .u8)), .sl none 4 true (y.L.map e_api_Item)]) (fun _ => []) := by
 refine cmQ fun r hM => ?_
 rw [coin_Item.eq_1] at hM
 refine enterV En_ok En_mo [2] Tryz.func119 rfl Tryz.ntmps119 (by kernel_rfl) fun hw => ct_start ?_
 refine spQ ?_
 replace hw := nzQ hw
 refine seqC_pass ?_
 try refine spQ ?_
 refine cut_weakW _ (⟨[(1, .ptr 0 0), (2, .ptr 1 0), (3, .ptr 2 0)], [(0, .pvar 41 true ((e_api_Coin c))), (1, .var 4 true (.agg [.int .i64 0, .int .i64 0, .sl (some true) 1 false [], .sl (some true) 4 true []])), (2, .var 1 true (.agg [.sl (some true) 4 true []]))], 3⟩ : St) (weak_pubv (S := ⟨_, _, _⟩) 0 (n := 41) (g := true) (d := (e_api_Coin c)) clQ clQ) sbQ sbQ ?_
 try refine spQ ?_
 have hM0 := hM; clear hM; obtain ⟨x1, hx2, hM⟩ := letk_opn hM0; clear hM0
 have hcx1 := coin_writer_ints_ok (some true) (some false) z_coin_writer ([c.Bank, c.Epoch, c.Denom, c.Depth, c.A] : List Int) (by (have h0 : z_coin_writer.l.length = 0 := rfl; omega))
 rw [← hx2] at hcx1
 refine callC_inQ [2, 4] hcx1 ((weakQ_nilV 2 0 90 rfl rfl (by decide)).trans (weakP_pub 3 (T := 3) (n := 1) (g := false) (z := (some false)) (l := ([c.Bank, c.Epoch, c.Denom, c.Depth, c.A] : List Int).map (V.int .i64)) clQ).toQ) (by decide) (by simp only [go_sem, rowV_eq, rowV_eq0, List.length_replicate, rep_len, Int.toNat_natCast, ↓reduceIte, Nat.reduceEqDiff, Nat.reduceAdd, Int.reduceAdd, Nat.reduceMul, Nat.reduceLeDiff, Nat.reduceLT, Int.reduceLE, Int.reduceLT, Int.reduceNeg, Int.reduceToNat, mt, mtL, mtL_self, mt_self, mtZ, and_self, eq_self, or_true, true_or]) (by simp only [go_sem, rowV_eq, rowV_eq0, List.length_replicate, rep_len, Int.toNat_natCast, ↓reduceIte, Nat.reduceEqDiff, Nat.reduceAdd, Int.reduceAdd, Nat.reduceMul, Nat.reduceLeDiff, Nat.reduceLT, Int.reduceLE, Int.reduceLT, Int.reduceNeg, Int.reduceToNat, mt, mtL, mtL_self, mt_self, mtZ, and_self, eq_self, or_true, true_or]) (fun hw3 => ?_)
 replace hw3 := nzQ hw3
 refine spQ ?_
 have hq4 := ints_len hx2
 replace hq4 := nzQ hq4
 have hM0 := hM; clear hM; obtain ⟨x5, hx6, hM⟩ := letk_opn hM0; clear hM0
 have hcx5 := coin_writer_bytes_ok none (some false) x1 (arrN 32 c.Root) (by (have h0 : z_coin_writer.l.length = 0 := rfl; omega))
 rw [← hx6] at hcx5
 refine callC_in [2, 4] hcx5 (by decide) (by simp only [go_sem, rowV_eq, rowV_eq0, List.length_replicate, rep_len, Int.toNat_natCast, ↓reduceIte, Nat.reduceEqDiff, Nat.reduceAdd, Int.reduceAdd, Nat.reduceMul, Nat.reduceLeDiff, Nat.reduceLT, Int.reduceLE, Int.reduceLT, Int.reduceNeg, Int.reduceToNat, mt, mtL, mtL_self, mt_self, mtZ, and_self, eq_self, or_true, true_or]) (by simp only [go_sem, rowV_eq, rowV_eq0, List.length_replicate, rep_len, Int.toNat_natCast, ↓reduceIte, Nat.reduceEqDiff, Nat.reduceAdd, Int.reduceAdd, Nat.reduceMul, Nat.reduceLeDiff, Nat.reduceLT, Int.reduceLE, Int.reduceLT, Int.reduceNeg, Int.reduceToNat, mt, mtL, mtL_self, mt_self, mtZ, and_self, eq_self, or_true, true_or]) (fun hw7 => ?_)
 replace hw7 := nzQ hw7
 refine spQ ?_
 have hq8 := bytes_len hx6
 replace hq8 := nzQ hq8
 have hM0 := hM; clear hM; obtain ⟨x9, hx10, hM⟩ := letk_opn hM0; clear hM0
 have hcx9 := coin_writer_ints_ok none (some false) x5 ([c.Sign.Z, c.Sign.A, c.Sign.B, c.Sign.R] : List Int) (by (have h0 : z_coin_writer.l.length = 0 := rfl; omega))
 rw [← hx10] at hcx9
 refine callC_inP [2, 4] hcx9 (weakP_pub 5 (T := 3) (n := 1) (g := false) (z := (some false)) (l := ([c.Sign.Z, c.Sign.A, c.Sign.B, c.Sign.R] : List Int).map (V.int .i64)) clQ) (by decide) (by simp only [go_sem, rowV_eq, rowV_eq0, List.length_replicate, rep_len, Int.toNat_natCast, ↓reduceIte, Nat.reduceEqDiff, Nat.reduceAdd, Int.reduceAdd, Nat.reduceMul, Nat.reduceLeDiff, Nat.reduceLT, Int.reduceLE, Int.reduceLT, Int.reduceNeg, Int.reduceToNat, mt, mtL, mtL_self, mt_self, mtZ, and_self, eq_self, or_true, true_or]) (by simp only [go_sem, rowV_eq, rowV_eq0, List.length_replicate, rep_len, Int.toNat_natCast, ↓reduceIte, Nat.reduceEqDiff, Nat.reduceAdd, Int.reduceAdd, Nat.reduceMul, Nat.reduceLeDiff, Nat.reduceLT, Int.reduceLE, Int.reduceLT, Int.reduceNeg, Int.reduceToNat, mt, mtL, mtL_self, mt_self, mtZ, and_self, eq_self, or_true, true_or]) (fun hw11 => ?_)
 replace hw11 := nzQ hw11
 refine spQ ?_
 have hq12 := ints_len hx10
 replace hq12 := nzQ hq12
 subst hM
 exact retC_view lfQ
end Go.Proofs.YtjnikknlcmbcmaaGreatDoor
namespace Go.Proofs.YtjnikknlcmbcmaaGreatDoor
open Go.RowKit
set_option linter.unusedSimpArgs false
instance (priority := 1011) : DRD 8 78 43 [32, 33, 34, 35, 36, 37, 38, 39, 40, 41, 42, 43, 44, 45, 46, 47, 48, 49, 50, 51, 52, 53, 54, 55, 56, 57, 58, 59, 60, 61, 62, 63, 64, 65, 66, 67, 68, 69, 70, 71, 72, 73, 74] [] ([[], [0], [], [2], [], [4], [], [6], [], [8], [], [10], [0, 1, 2, 3, 4, 5, 6, 7, 8, 9, 10, 11], [0, 1, 2, 3, 4, 5, 6, 7, 8, 9, 10, 11, 12], [], [0, 1, 2, 3, 4, 5, 6, 7, 8, 9, 10, 11, 12, 13, 14], [], [16], [16, 17], [], [19], [19, 20], [], [22], [22, 23], [16, 17, 18, 19, 20, 21, 22, 23, 24], [0, 1, 2, 3, 4, 5, 6, 7, 8, 9, 10, 11, 12, 13, 14, 15, 16, 17, 18, 19, 20, 21, 22, 23, 24, 25], [], [27], [], [29], [], [31], [], [33], [], [35], [], [37], [27, 28, 29, 30, 31, 32, 33, 34, 35, 36, 37, 38], [0, 1, 2, 3, 4, 5, 6, 7, 8, 9, 10, 11, 12, 13, 14, 15, 16, 17, 18, 19, 20, 21, 22, 23, 24, 25, 26, 27, 28, 29, 30, 31, 32, 33, 34, 35, 36, 37, 38, 39], [], [41]] ++ [List.range 43, List.range 44, List.range 45, List.range 46]) [(12, 16), (25, 29), (39, 43)] := ⟨trivial⟩
set_option maxHeartbeats 2000000 in
set_option maxRecDepth 100000 in
theorem withdraw_Item_ok   (w : S_api_Withdrawal) (hp0 : w.Secret.X.length ≤ 1000) : CM En (withdraw_Item w) 47 [(e_api_Withdrawal w)] (fun y => .agg [.int .i64 y.Kind, .int .i64 y.N, .sl none 1 false (y.B.map (V.int .u8)), .sl none 4 true (y.L.map e_api_Item)]) (fun _ => []) := by
 refine cmQ fun r hM => ?_
 rw [withdraw_Item.eq_1] at hM
 refine enterV En_ok En_mo [8] Tryz.func47 rfl Tryz.ntmps47 (by kernel_rfl) fun hw => ct_start ?_
 refine spQ ?_
 replace hw := nzQ hw
 have hM0 := hM; clear hM; obtain ⟨f1, d1, hf1, hd1, hM⟩ := iter_opn hM0; clear hM0
 refine ct_loop (fun n S => ∃ p : Int × List Int, S = (⟨[(1, .ptr 0 0), (2, .ptr 1 0), (3, .own 2), (16, .sl none 2 true (w.Secret.X.map (fun l => .agg [.int .i64 (gt l 0), .int .i64 (gt l 1)]))), (17, .int .i64 (w.Secret.X.length : Int)), (18, .int .i64 p.1)], [(0, .var 59 true ((e_api_Withdrawal w))), (1, .var 4 true (.agg [.int .i64 0, .int .i64 0, .sl (some true) 1 false [], .sl (some true) 4 true []])), (2, .own 3 1 false none (p.2.map (V.int .i64)))], 3⟩ : St) ∧ ((0 ≤ p.1) ∧ (p.1 ≤ (w.Secret.X.length : Int)) ∧ (((p.2).length : Int) = 2 + 2 * p.1)) ∧ ((w.Secret.X.length : Int) - p.1).toNat < n ∧ iter n f1 d1 p = r) (((w.Secret.X.length : Int) - 0).toNat + 1) _ sbQ sbQ ⟨(0, ([w.Secret.U, w.Secret.S] : List Int)), rfl, ⟨omQ, omQ, omQ⟩, (Nat.lt_succ_self _), hM⟩ ?_
 clear hM
 rintro n1 S ⟨p1, rfl, hfa1, hm1, hM⟩
 have hM0 := hM; clear hM; obtain ⟨ag1, hag1, hM⟩ := iter_step hM0 (by omega) hf1; clear hM0
 replace hfa1 := nzQ hfa1
 replace hm1 := nzQ hm1
 have ha1 : addI .i64 p1.1 1 = p1.1 + 1 := add_one omQ omQ
 refine spQA ha1 ?_
 refine condC_intro (fun h2 => ?_) (fun h2 => ?_)
 ·rw [if_pos h2] at hM
  refine spQA (And.intro ha1 h2) ?_
  have nh2 := nzQ h2
  try have hr3 := mpQ nh2
  have hF := (And.intro ha1 h2)
  exact auQ
 ·rw [if_neg (ne_true h2)] at hM
  refine spQA (And.intro ha1 h2) ?_
  have nh2 := nzQ h2
  try have hr5 := mpQ nh2
  refine seqC_pass ?_
  try refine spQA ha1 ?_
  refine cut_weakW _ (⟨[(1, .ptr 0 0), (2, .ptr 1 0), (3, .sl none 1 false (p1.2.map (V.int .i64))), (6, .ptr 3 0)], [(0, .var 59 true ((e_api_Withdrawal w))), (1, .var 4 true (.agg [.int .i64 0, .int .i64 0, .sl (some true) 1 false [], .sl (some true) 4 true []])), (2, .pown 1 false none (p1.2.map (V.int .i64))), (3, .var 6 true ((e_api_CoinView w.View)))], 4⟩ : St) ((weak_pub (S := ⟨_, _, _⟩) 2 (T := 3) (n := 1) (g := false) (z := none) (l := p1.2.map (V.int .i64)) (clQA ha1)).trans (weak_slot (S := ⟨_, _, _⟩) 3 2 (n := 1) (g := false) (z := none) (l := p1.2.map (V.int .i64)) (clQA ha1) (clQA ha1))) sbQ sbQ ?_
  try refine spQA ha1 ?_
  have hF := (And.intro ha1 h2)
  exact auQ
instance (priority := 1012) : DRD 5 23 8 [12, 13, 14, 15, 16, 17, 18, 19] [] ([[], [0], [], [], [2, 3], [2, 3, 4], [2, 3, 4, 5], [2, 3, 4, 5, 6]] ++ [List.range 8, List.range 9, List.range 10]) [] := ⟨trivial⟩
set_option maxHeartbeats 2000000 in
set_option maxRecDepth 100000 in
instance specieref37_ints_ok   (l : (List Int))  : CM En (specieref37_ints l) 120 [.sl none 1 false (l.map (V.int .i64))] (fun y => .agg [.int .i64 y.Kind, .int .i64 y.N, .sl none 1 false (y.B.map (V.int .u8)), .sl none 4 true (y.L.map e_api_Item)]) (fun _ => []) := by
 refine cmQ fun r hM => ?_
 rw [specieref37_ints.eq_1] at hM
 refine enterV En_ok En_mo noJ Tryz.func120 rfl Tryz.ntmps120 (by kernel_rfl) fun hw => ct_start ?_
 refine spQ ?_
 replace hw := nzQ hw
 have hM0 := hM; clear hM; obtain ⟨f1, d1, hf1, hd1, hM⟩ := iter_opn hM0; clear hM0
 refine ct_loopW (fun n S => ∃ p : Int × List S_api_Item, S = (⟨[(0, .sl none 1 false (l.map (V.int .i64))), (2, .ptr 0 0), (3, .ptr 1 0), (4, .int .i64 p.1)], [(0, .var 4 true (.agg [.int .i64 0, .int .i64 0, .sl (some true) 1 false [], .sl (some true) 4 true []])), (1, .var 4 true (.agg [.int .i64 3, .int .i64 0, .sl (some true) 1 false [], .own 2])), (2, .own 90 4 true none (p.2.map e_api_Item))], 3⟩ : St) ∧ ((0 ≤ p.1) ∧ (p.1 ≤ (l.length : Int)) ∧ (((p.2).length : Int) ≤ p.1)) ∧ ((l.length : Int) - p.1).toNat < n ∧ iter n f1 d1 p = r) (((l.length : Int) - 0).toNat + 1) _ _ (weak_nilV 1 3 90 rfl rfl (by decide)) sbQ sbQ ⟨(0, ([] : List S_api_Item)), rfl, ⟨omQ, omQ, omQ⟩, (Nat.lt_succ_self _), hM⟩ ?_
 clear hM
 rintro n1 S ⟨p1, rfl, hfa1, hm1, hM⟩
 have hM0 := hM; clear hM; obtain ⟨ag1, hag1, hM⟩ := iter_step hM0 (by omega) hf1; clear hM0
 replace hfa1 := nzQ hfa1
 replace hm1 := nzQ hm1
 have ha1 : addI .i64 p1.1 1 = p1.1 + 1 := add_one omQ omQ
 refine spQA ha1 ?_
 have hF := ha1
 exact auQ
instance (priority := 1013) : DRD 5 23 8 [12, 13, 14, 15, 16, 17, 18, 19] [] ([[], [0], [], [], [2, 3], [2, 3, 4], [2, 3, 4, 5], [2, 3, 4, 5, 6]] ++ [List.range 8, List.range 9, List.range 10]) [] := ⟨trivial⟩
set_option maxHeartbeats 2000000 in
set_option maxRecDepth 100000 in
instance specieref31_Ints_ok   (l : (List Int))  : CM En (specieref31_Ints l) 198 [.sl none 1 false (l.map (V.int .i64))] (fun y => .agg [.int .i64 y.Kind, .int .i64 y.N, .sl none 1 false (y.B.map (V.int .u8)), .sl none 4 true (y.L.map e_api_Item)]) (fun _ => []) := by
 refine cmQ fun r hM => ?_
 rw [specieref31_Ints.eq_1] at hM
 refine enterV En_ok En_mo noJ Tryz.func198 rfl Tryz.ntmps198 (by kernel_rfl) fun hw => ct_start ?_
 refine spQ ?_
 replace hw := nzQ hw
 have hM0 := hM; clear hM; obtain ⟨f1, d1, hf1, hd1, hM⟩ := iter_opn hM0; clear hM0
 refine ct_loopW (fun n S => ∃ p : Int × List S_api_Item, S = (⟨[(0, .sl none 1 false (l.map (V.int .i64))), (2, .ptr 0 0), (3, .ptr 1 0), (4, .int .i64 p.1)], [(0, .var 4 true (.agg [.int .i64 0, .int .i64 0, .sl (some true) 1 false [], .sl (some true) 4 true []])), (1, .var 4 true (.agg [.int .i64 3, .int .i64 0, .sl (some true) 1 false [], .own 2])), (2, .own 90 4 true none (p.2.map e_api_Item))], 3⟩ : St) ∧ ((0 ≤ p.1) ∧ (p.1 ≤ (l.length : Int)) ∧ (((p.2).length : Int) ≤ p.1)) ∧ ((l.length : Int) - p.1).toNat < n ∧ iter n f1 d1 p = r) (((l.length : Int) - 0).toNat + 1) _ _ (weak_nilV 1 3 90 rfl rfl (by decide)) sbQ sbQ ⟨(0, ([] : List S_api_Item)), rfl, ⟨omQ, omQ, omQ⟩, (Nat.lt_succ_self _), hM⟩ ?_
 clear hM
 rintro n1 S ⟨p1, rfl, hfa1, hm1, hM⟩
 have hM0 := hM; clear hM; obtain ⟨ag1, hag1, hM⟩ := iter_step hM0 (by omega) hf1; clear hM0
 replace hfa1 := nzQ hfa1
 replace hm1 := nzQ hm1
 have ha1 : addI .i64 p1.1 1 = p1.1 + 1 := add_one omQ omQ
 refine spQA ha1 ?_
 have hF := ha1
 exact auQ
set_option maxHeartbeats 2000000 in
set_option maxRecDepth 100000 in
instance specieref31_Bytes_ok   (h_ : (List Int))  : CM En (specieref31_Bytes h_) 199 [(e_arr40 h_)] (fun y => .agg [.int .i64 y.Kind, .int .i64 y.N, .sl none 1 false (y.B.map (V.int .u8)), .sl none 4 true (y.L.map e_api_Item)]) (fun _ => []) := by
 refine cmQ fun r hM => ?_
 rw [specieref31_Bytes.eq_1] at hM
 refine enterV En_ok En_mo noJ Tryz.func199 rfl Tryz.ntmps199 (by kernel_rfl) fun hw => ct_start ?_
 refine spQ ?_
 replace hw := nzQ hw
 have hM0 := hM; clear hM; obtain ⟨f1, d1, hf1, hd1, hM⟩ := iter_opn hM0; clear hM0
 refine ct_loopW (fun n S => ∃ p : Int × List Int, S = (⟨[(1, .ptr 0 0), (2, .ptr 1 0), (3, .ptr 2 0), (4, .int .i64 p.1)], [(0, .var 32 true ((e_arr40 h_))), (1, .var 4 true (.agg [.int .i64 0, .int .i64 0, .sl (some true) 1 false [], .sl (some true) 4 true []])), (2, .var 4 true (.agg [.int .i64 2, .int .i64 0, .own 3, .sl (some true) 4 true []])), (3, .own 5 1 false none (p.2.map (V.int .u8)))], 4⟩ : St) ∧ ((0 ≤ p.1) ∧ (p.1 ≤ 32) ∧ (((p.2).length : Int) ≤ p.1)) ∧ ((32 : Int) - p.1).toNat < n ∧ iter n f1 d1 p = r) (((32 : Int) - 0).toNat + 1) _ _ (weak_nilV 2 2 5 rfl rfl (by decide)) sbQ sbQ ⟨(0, ([] : List Int)), rfl, ⟨omQ, omQ, omQ⟩, (Nat.lt_succ_self _), hM⟩ ?_
 clear hM
 rintro n1 S ⟨p1, rfl, hfa1, hm1, hM⟩
 have hM0 := hM; clear hM; obtain ⟨ag1, hag1, hM⟩ := iter_step hM0 (by omega) hf1; clear hM0
 replace hfa1 := nzQ hfa1
 replace hm1 := nzQ hm1
 have ha1 : addI .i64 p1.1 1 = p1.1 + 1 := add_one omQ omQ
 refine spQA ha1 ?_
 refine condC_intro (fun h2 => ?_) (fun h2 => ?_)
 ·rw [if_pos h2] at hM
  refine spQA (And.intro ha1 h2) ?_
  have nh2 := nzQ h2
  try have hr3 := mpQ nh2
  refine ct_draw 19 6 [10, 11, 12, 13, 14, 15] [] ([[], [0], [], [2], [2, 3], [2, 3, 4]] ++ [List.range 6, List.range 7, List.range 8]) [] (by kernel_rfl) (by exact alQ) ?_
  refine spQA ha1 ?_
  refine hbindC_intro omQ ?_
  have he4 : ((p1.1).toNat * 1 + 1 ≤ 32) = True := eq_true omQ
  refine spQA (And.intro ha1 he4) ?_
  have he5 := arr_get (f := (V.int .u8)) (l := h_) (n := 32) (i := p1.1) omQ
  replace he5 := spR he5
  try refine spQA (And.intro ha1 (And.intro he4 he5)) ?_
  have hF := (And.intro ha1 (And.intro h2 (And.intro he4 he5)))
  exact auQ
 ·rw [if_neg (ne_true h2)] at hM
  refine spQA (And.intro ha1 h2) ?_
  have nh2 := nzQ h2
  try have hr6 := mpQ nh2
  subst hM
  exact retC_view (lfQA (And.intro ha1 h2))
instance (priority := 1014) : DRD 1 34 28 [3, 4, 5, 6, 7, 8, 9, 10, 11, 12, 13, 14, 15, 16, 17, 18, 19, 20, 21, 22, 23, 24, 25, 26, 27, 28, 29, 30] [] ([[], [0], [], [2], [], [4], [], [6], [], [8], [0, 1, 2, 3, 4, 5, 6, 7, 8, 9], [0, 1, 2, 3, 4, 5, 6, 7, 8, 9, 10], [], [12], [0, 1, 2, 3, 4, 5, 6, 7, 8, 9, 10, 11, 12, 13], [], [15], [15, 16], [], [18], [18, 19], [], [21], [21, 22], [], [24], [24, 25], [15, 16, 17, 18, 19, 20, 21, 22, 23, 24, 25, 26]] ++ [List.range 28, List.range 29, List.range 30, List.range 31]) [(10, 12), (27, 29)] := ⟨trivial⟩
set_option maxHeartbeats 2000000 in
set_option maxRecDepth 100000 in
instance specieref31_Item_ok   (c : S_api_Coin)  : CM En (specieref31_Item c) 121 [(e_api_Coin c)] (fun y => .agg [.int .i64 y.Kind, .int .i64 y.N, .sl none 1 false (y.B.map (V.int .u8)), .sl none 4 true (y.L.map e_api_Item)]) (fun _ => []) := by
 refine cmQ fun r hM => ?_
 rw [specieref31_Item.eq_1] at hM
 refine enterV En_ok En_mo noJ Tryz.func121 rfl Tryz.ntmps121 (by kernel_rfl) fun hw => ct_start ?_
 refine spQ ?_
 replace hw := nzQ hw
 have hF := trueQ
 exact auQ
instance (priority := 1015) : DRD 5 89 16 [20, 21, 22, 23, 24, 25, 26, 27, 28, 29, 30, 31, 32, 33, 34, 35] [] ([[], [], [1], [1, 2], [], [1, 2, 3, 4], [1, 2, 3, 4, 5], [1, 2, 3, 4, 5, 6], [], [8], [8, 9], [], [8, 9, 10, 11], [8, 9, 10, 11, 12], [8, 9, 10, 11, 12, 13], [1, 2, 3, 4, 5, 6, 7, 8, 9, 10, 11, 12, 13, 14]] ++ [List.range 16, List.range 17]) [] := ⟨trivial⟩
instance (priority := 1016) : DRD 6 89 49 [37, 38, 39, 40, 41, 42, 43, 44, 45, 46, 47, 48, 49, 50, 51, 52, 53, 54, 55, 56, 57, 58, 59, 60, 61, 62, 63, 64, 65, 66, 67, 68, 69, 70, 71, 72, 73, 74, 75, 76, 77, 78, 79, 80, 81, 82, 83, 84, 85] [] ([[], [0], [], [2], [], [4], [], [6], [], [8], [], [10], [0, 1, 2, 3, 4, 5, 6, 7, 8, 9, 10, 11], [0, 1, 2, 3, 4, 5, 6, 7, 8, 9, 10, 11, 12], [], [0, 1, 2, 3, 4, 5, 6, 7, 8, 9, 10, 11, 12, 13, 14], [], [16], [16, 17], [], [19], [19, 20], [], [22], [22, 23], [16, 17, 18, 19, 20, 21, 22, 23, 24], [0, 1, 2, 3, 4, 5, 6, 7, 8, 9, 10, 11, 12, 13, 14, 15, 16, 17, 18, 19, 20, 21, 22, 23, 24, 25], [], [27], [27, 28], [], [30], [30, 31], [], [33], [33, 34], [], [36], [36, 37], [], [39], [39, 40], [], [42], [42, 43], [27, 28, 29, 30, 31, 32, 33, 34, 35, 36, 37, 38, 39, 40, 41, 42, 43, 44], [0, 1, 2, 3, 4, 5, 6, 7, 8, 9, 10, 11, 12, 13, 14, 15, 16, 17, 18, 19, 20, 21, 22, 23, 24, 25, 26, 27, 28, 29, 30, 31, 32, 33, 34, 35, 36, 37, 38, 39, 40, 41, 42, 43, 44, 45], [], [47]] ++ [List.range 49, List.range 50, List.range 51, List.range 52]) [(12, 15), (25, 28), (45, 48)] := ⟨trivial⟩
set_option maxHeartbeats 2000000 in
set_option maxRecDepth 100000 in
theorem specieref37_Item_ok   (w : S_api_Withdrawal) (hp0 : w.Secret.X.length ≤ 1000) : CM En (specieref37_Item w) 49 [(e_api_Withdrawal w)] (fun y => .agg [.int .i64 y.Kind, .int .i64 y.N, .sl none 1 false (y.B.map (V.int .u8)), .sl none 4 true (y.L.map e_api_Item)]) (fun _ => []) := by
 refine cmQ fun r hM => ?_
 rw [specieref37_Item.eq_1] at hM
 refine enterV En_ok En_mo [6] Tryz.func49 rfl Tryz.ntmps49 (by kernel_rfl) fun hw => ct_start ?_
 refine spQ ?_
 replace hw := nzQ hw
 refine seqC_pass ?_
 try refine spQ ?_
 have hM0 := hM; clear hM; obtain ⟨f1, d1, hf1, hd1, hM⟩ := iter_opn hM0; clear hM0
 refine ct_loop (fun n S => ∃ p : Int × List Int, S = (⟨[(1, .ptr 0 0), (2, .ptr 1 0), (3, .own 2), (4, .int .i64 p.1)], [(0, .var 59 true ((e_api_Withdrawal w))), (1, .var 4 true (.agg [.int .i64 0, .int .i64 0, .sl (some true) 1 false [], .sl (some true) 4 true []])), (2, .own 3 1 false none (p.2.map (V.int .i64)))], 3⟩ : St) ∧ ((0 ≤ p.1) ∧ (p.1 ≤ (w.Secret.X.length : Int)) ∧ (((p.2).length : Int) = 2 + 2 * p.1)) ∧ ((w.Secret.X.length : Int) - p.1).toNat < n ∧ iter n f1 d1 p = r) (((w.Secret.X.length : Int) - 0).toNat + 1) _ sbQ sbQ ⟨(0, ([w.Secret.U, w.Secret.S] : List Int)), rfl, ⟨omQ, omQ, omQ⟩, (Nat.lt_succ_self _), hM⟩ ?_
 clear hM
 rintro n1 S ⟨p1, rfl, hfa1, hm1, hM⟩
 have hM0 := hM; clear hM; obtain ⟨ag1, hag1, hM⟩ := iter_step hM0 (by omega) hf1; clear hM0
 replace hfa1 := nzQ hfa1
 replace hm1 := nzQ hm1
 have ha1 : addI .i64 p1.1 1 = p1.1 + 1 := add_one omQ omQ
 refine spQA ha1 ?_
 refine condC_intro (fun h2 => ?_) (fun h2 => ?_)
 ·rw [if_pos h2] at hM
  refine spQA (And.intro ha1 h2) ?_
  have nh2 := nzQ h2
  try have hr3 := mpQ nh2
  have hF := (And.intro ha1 h2)
  exact auQ
 ·rw [if_neg (ne_true h2)] at hM
  refine spQA (And.intro ha1 h2) ?_
  have nh2 := nzQ h2
  try have hr5 := mpQ nh2
  refine cut_weakW _ (⟨[(1, .ptr 0 0), (2, .ptr 1 0), (3, .sl none 1 false (p1.2.map (V.int .i64)))], [(0, .var 59 true ((e_api_Withdrawal w))), (1, .var 4 true (.agg [.int .i64 0, .int .i64 0, .sl (some true) 1 false [], .sl (some true) 4 true []])), (2, .pown 1 false none (p1.2.map (V.int .i64)))], 3⟩ : St) ((weak_pub (S := ⟨_, _, _⟩) 2 (T := 3) (n := 1) (g := false) (z := none) (l := p1.2.map (V.int .i64)) (clQA ha1)).trans (weak_slot (S := ⟨_, _, _⟩) 3 2 (n := 1) (g := false) (z := none) (l := p1.2.map (V.int .i64)) (clQA ha1) (clQA ha1))) sbQ sbQ ?_
  try refine spQA ha1 ?_
  have hF := (And.intro ha1 h2)
  exact auQ
set_option maxHeartbeats 2000000 in
set_option maxRecDepth 100000 in
theorem specieref07_Same_ok (N : Nat) (ih : ∀  (a_ : S_api_Item) (b : S_api_Item), hgt a_ < N → CallOk En 48 [.agg [.int .i64 a_.Kind, .int .i64 a_.N, .sl none 1 false (a_.B.map (V.int .u8)), .sl none 4 true (a_.L.map e_api_Item)], .agg [.int .i64 b.Kind, .int .i64 b.N, .sl none 1 false (b.B.map (V.int .u8)), .sl none 4 true (b.L.map e_api_Item)]] (.bool (sameM a_ b)) [])  (a_ : S_api_Item) (b : S_api_Item) (hp_ : hgt a_ < N + 1) : CallOk En 48 [.agg [.int .i64 a_.Kind, .int .i64 a_.N, .sl none 1 false (a_.B.map (V.int .u8)), .sl none 4 true (a_.L.map e_api_Item)], .agg [.int .i64 b.Kind, .int .i64 b.N, .sl none 1 false (b.B.map (V.int .u8)), .sl none 4 true (b.L.map e_api_Item)]] (.bool (specieref07_Same a_ b)) [] := by
 generalize hM : specieref07_Same a_ b = r
 rw [specieref07_Same.eq_1] at hM
 refine enterV En_ok En_mo noJ Tryz.func48 rfl Tryz.ntmps48 (by kernel_rfl) fun hw => ct_start ?_
 refine spQ ?_
 replace hw := nzQ hw
 refine guardC_f (fun h1 => ?_) (fun h1 => ?_)
 ·rw [if_neg (ne_true h1)] at hM
  refine spQA h1 ?_
  have nh1 := nzQ h1
  try have hr2 := mpQ nh1
  refine guardC_f (fun h3 => ?_) (fun h3 => ?_)
  ·rw [if_neg (ne_true h3)] at hM
   refine spQA h3 ?_
   have nh3 := nzQ h3
   try have hr4 := mpQ nh3
   refine bindC_intro (by (first | exact ⟨allU8_map, omQ⟩ | exact trivial | (refine ⟨?_, ?_⟩ <;> first | exact trivial | (simp only [List.length_cons, List.length_nil]; omega)))) ?_
   refine spQ ?_
   refine bindC_intro (by (first | exact ⟨allU8_map, omQ⟩ | exact trivial | (refine ⟨?_, ?_⟩ <;> first | exact trivial | (simp only [List.length_cons, List.length_nil]; omega)))) ?_
   refine spQ ?_
   refine guardC_f (fun h5 => ?_) (fun h5 => ?_)
   ·rw [if_neg (ne_true h5)] at hM
    refine spQA h5 ?_
    have nh5 := nzQ h5
    try have hr6 := mpQ nh5
    refine condC_intro (fun h7 => ?_) (fun h7 => ?_)
    ·rw [if_pos h7] at hM
     refine spQA h7 ?_
     have nh7 := nzQ h7
     try have hr8 := mpQ nh7
     subst hM
     exact retC_view (lfQA (And.intro h1 (And.intro h3 (And.intro h5 h7))))
    ·rw [if_neg (ne_true h7)] at hM
     refine spQA h7 ?_
     have nh7 := nzQ h7
     try have hr9 := mpQ nh7
     have hM0 := hM; clear hM; obtain ⟨f10, d10, hf10, hd10, hM⟩ := iter_opn hM0; clear hM0
     refine ct_loop (fun n S => ∃ p : Int, S = (⟨[(2, .ptr 0 0), (3, .ptr 1 0), (5, .int .i64 p)], [(0, .var 4 true (.agg [.int .i64 a_.Kind, .int .i64 a_.N, .sl none 1 false (a_.B.map (V.int .u8)), .sl none 4 true (a_.L.map e_api_Item)])), (1, .var 4 true (.agg [.int .i64 b.Kind, .int .i64 b.N, .sl none 1 false (b.B.map (V.int .u8)), .sl none 4 true (b.L.map e_api_Item)]))], 2⟩ : St) ∧ ((0 ≤ p) ∧ (p ≤ (a_.L.length : Int))) ∧ ((a_.L.length : Int) - p).toNat < n ∧ iter n f10 d10 p = r) (((a_.L.length : Int) - 0).toNat + 1) _ sbQ sbQ ⟨0, rfl, ⟨omQ, omQ⟩, (Nat.lt_succ_self _), hM⟩ ?_
     clear hM
     rintro n10 S ⟨p10, rfl, hfa10, hm10, hM⟩
     have hM0 := hM; clear hM; obtain ⟨ag10, hag10, hM⟩ := iter_step hM0 (by omega) hf10; clear hM0
     replace hfa10 := nzQ hfa10
     replace hm10 := nzQ hm10
     have ha10 : addI .i64 p10 1 = p10 + 1 := add_one omQ omQ
     refine spQA ha10 ?_
     refine condC_intro (fun h11 => ?_) (fun h11 => ?_)
     ·rw [if_pos h11] at hM
      refine spQA (And.intro ha10 h11) ?_
      have nh11 := nzQ h11
      try have hr12 := mpQ nh11
      refine ct_draw 55 10 [43, 44, 45, 46, 47, 48, 49, 50, 51, 52] [] ([[], [0], [], [0, 1, 2], [0, 1, 2, 3], [], [5], [], [5, 6, 7], [5, 6, 7, 8]] ++ [List.range 10, List.range 11]) [] (by kernel_rfl) (by exact alQ) ?_
      refine spQA ha10 ?_
      refine hbindC_intro omQ ?_
      have he13 := fun d => elt_mp (l := a_.L) (f := e_api_Item) (i := p10) omQ d
      refine spQA (And.intro ha10 he13) ?_
      refine hbindC_intro omQ ?_
      have he14 := fun d => elt_mp (l := b.L) (f := e_api_Item) (i := p10) omQ d
      refine spQA (And.intro ha10 (And.intro he13 he14)) ?_
      have hM0 := hM; clear hM; obtain ⟨x15, hx16, hM⟩ := letk_opn hM0; clear hM0
      have hcx15 := ih  (gt a_.L p10) (gt b.L p10)  (by (have h9 := hgt_L (i := a_) (gt_mem (l := a_.L) (i := p10) (by omega)); omega))
      rw [← hx16] at hcx15
      refine callC_give hcx15 (clQA (And.intro ha10 (And.intro he13 he14))) (clQA (And.intro ha10 (And.intro he13 he14))) (fun hw17 => ?_)
      replace hw17 := nzQ hw17
      refine spQA (And.intro ha10 (And.intro he13 he14)) ?_
      have hF := (And.intro h1 (And.intro h3 (And.intro h5 (And.intro h7 (And.intro ha10 (And.intro h11 (And.intro he13 he14)))))))
      exact auQ
     ·rw [if_neg (ne_true h11)] at hM
      refine spQA (And.intro ha10 h11) ?_
      have nh11 := nzQ h11
      try have hr21 := mpQ nh11
      subst hM
      exact retC_view (lfQA (And.intro ha10 (And.intro h1 (And.intro h3 (And.intro h5 (And.intro h7 h11))))))
   ·rw [if_pos h5] at hM
    refine spQA h5 ?_
    have nh5 := nzQ h5
    try have hr22 := mpQ nh5
    subst hM
    exact retC_view (lfQA (And.intro h1 (And.intro h3 h5)))
  ·rw [if_pos h3] at hM
   refine spQA h3 ?_
   have nh3 := nzQ h3
   try have hr23 := mpQ nh3
   subst hM
   exact retC_view (lfQA (And.intro h1 h3))
 ·rw [if_pos h1] at hM
  refine spQA h1 ?_
  have nh1 := nzQ h1
  try have hr24 := mpQ nh1
  subst hM
  exact retC_view (lfQA h1)
theorem sameM_okN : ∀ (N : Nat)  (a_ : S_api_Item) (b : S_api_Item), hgt a_ < N → CallOk En 48 [.agg [.int .i64 a_.Kind, .int .i64 a_.N, .sl none 1 false (a_.B.map (V.int .u8)), .sl none 4 true (a_.L.map e_api_Item)], .agg [.int .i64 b.Kind, .int .i64 b.N, .sl none 1 false (b.B.map (V.int .u8)), .sl none 4 true (b.L.map e_api_Item)]] (.bool (sameM a_ b)) [] := by
 intro N
 induction N with
 | zero => intro a_ b  h; exact absurd h (Nat.not_lt_zero _)
 | succ N ih =>
  intro a_ b  h
  have h9 := specieref07_Same_ok N ih a_ b  h
  rw [specieref07_Same_eqM] at h9
  exact h9
theorem sameM_ok  (a_ : S_api_Item) (b : S_api_Item)  : CallOk En 48 [.agg [.int .i64 a_.Kind, .int .i64 a_.N, .sl none 1 false (a_.B.map (V.int .u8)), .sl none 4 true (a_.L.map e_api_Item)], .agg [.int .i64 b.Kind, .int .i64 b.N, .sl none 1 false (b.B.map (V.int .u8)), .sl none 4 true (b.L.map e_api_Item)]] (.bool (sameM a_ b)) [] :=
 sameM_okN (hgt a_ + 1) a_ b  (Nat.lt_succ_self _)
set_option maxHeartbeats 2000000 in
set_option maxRecDepth 100000 in
instance specielaw37_WithdrawItems_ok   (w : S_api_Withdrawal) (i_ : S_api_Item)  : CM En (specielaw37_WithdrawItems w i_) 6 [(e_api_Withdrawal w), .agg [.int .i64 i_.Kind, .int .i64 i_.N, .sl none 1 false (i_.B.map (V.int .u8)), .sl none 4 true (i_.L.map e_api_Item)]] (fun y => .bool y) (fun _ => []) := by
 refine cmQ fun r hM => ?_
 rw [specielaw37_WithdrawItems.eq_1] at hM
 refine enterV En_ok En_mo noJ Tryz.func6 rfl Tryz.ntmps6 (by kernel_rfl) fun hw => ct_start ?_
 refine spQ ?_
 replace hw := nzQ hw
 have hM0 := hM; clear hM; obtain ⟨x1, hx2, hM⟩ := letk_opn hM0; clear hM0
 have hcx1 := cmU hx2
 refine callC_give hcx1 clQ clQ (fun hw3 => ?_)
 replace hw3 := nzQ hw3
 refine spQ ?_
 refine condC_intro (fun h4 => ?_) (fun h4 => ?_)
 ·rw [if_pos h4] at hM
  refine spQA h4 ?_
  have nh4 := nzQ h4
  try have hr5 := mpQ nh4
  subst hM
  exact retC_view (lfQA h4)
 ·rw [if_neg (ne_true h4)] at hM
  refine spQA h4 ?_
  have nh4 := nzQ h4
  try have hr6 := mpQ nh4
  have hM0 := hM; clear hM; obtain ⟨x7, hx8, hM⟩ := letk_opn hM0; clear hM0
  have hcx7 := cmU hx8
  refine callC_give hcx7 clQ clQ (fun hw9 => ?_)
  replace hw9 := nzQ hw9
  refine spQ ?_
  have hq10 := nzQ (cfU hx8)
  refine guardC_f (fun h11 => ?_) (fun h11 => ?_)
  ·rw [if_neg (ne_true h11)] at hM
   refine spQA h11 ?_
   have nh11 := nzQ h11
   try have hr12 := mpQ nh11
   have hM0 := hM; clear hM; obtain ⟨x13, hx14, hM⟩ := letk_opn hM0; clear hM0
   have hcx13 := countM_ok  i_ 200 
   rw [← hx14] at hcx13
   refine callC_give hcx13 clQ clQ (fun hw15 => ?_)
   replace hw15 := nzQ hw15
   refine spQ ?_
   refine condC_intro (fun h16 => ?_) (fun h16 => ?_)
   ·rw [if_pos h16] at hM
    refine spQA h16 ?_
    have nh16 := nzQ h16
    try have hr17 := mpQ nh16
    subst hM
    exact retC_view (lfQA (And.intro h4 (And.intro h11 h16)))
   ·rw [if_neg (ne_true h16)] at hM
    refine spQA h16 ?_
    have nh16 := nzQ h16
    try have hr18 := mpQ nh16
    have hM0 := hM; clear hM; obtain ⟨x19, hx20, hM⟩ := letk_opn hM0; clear hM0
    have hcx19 := cmU hx20
    refine callC_give hcx19 clQ clQ (fun hw21 => ?_)
    replace hw21 := nzQ hw21
    refine spQ ?_
    have hM0 := hM; clear hM; obtain ⟨x22, hx23, hM⟩ := letk_opn hM0; clear hM0
    have hcx22 := cmU hx23
    refine callC_give hcx22 clQ clQ (fun hw24 => ?_)
    replace hw24 := nzQ hw24
    refine spQ ?_
    refine guardC_f (fun h25 => ?_) (fun h25 => ?_)
    ·rw [if_neg (ne_true h25)] at hM
     refine spQA h25 ?_
     have nh25 := nzQ h25
     try have hr26 := mpQ nh25
     have hM0 := hM; clear hM; obtain ⟨x27, hx28, hM⟩ := letk_opn hM0; clear hM0
     have hcx27 := cmU hx28
     refine callC_give hcx27 clQ clQ (fun hw29 => ?_)
     replace hw29 := nzQ hw29
     refine spQ ?_
     refine condC_intro (fun h30 => ?_) (fun h30 => ?_)
     ·rw [if_pos h30] at hM
      refine spQA h30 ?_
      have nh30 := nzQ h30
      try have hr31 := mpQ nh30
      subst hM
      exact retC_view (lfQA (And.intro h4 (And.intro h11 (And.intro h16 (And.intro h25 h30)))))
     ·rw [if_neg (ne_true h30)] at hM
      refine spQA h30 ?_
      have nh30 := nzQ h30
      try have hr32 := mpQ nh30
      have hM0 := hM; clear hM; obtain ⟨x33, hx34, hM⟩ := letk_opn hM0; clear hM0
      have hcx33 := cmH hx34 (withdraw_Item_ok  w (by (exact pfQ)))
      refine callC_give hcx33 clQ clQ (fun hw35 => ?_)
      replace hw35 := nzQ hw35
      refine spQ ?_
      have hM0 := hM; clear hM; obtain ⟨x36, hx37, hM⟩ := letk_opn hM0; clear hM0
      have hcx36 := cmU hx37
      refine callC_give hcx36 clQ clQ (fun hw38 => ?_)
      replace hw38 := nzQ hw38
      refine spQ ?_
      refine ct_draw 60 11 [47, 48, 49, 50, 51, 52, 53, 54, 55, 56, 57] [] ([[], [], [1], [0, 1, 2], [0, 1, 2, 3], [0, 1, 2, 3, 4], [0, 1, 2, 3, 4, 5], [0, 1, 2, 3, 4, 5, 6], [0, 1, 2, 3, 4, 5, 6, 7], [0, 1, 2, 3, 4, 5, 6, 7, 8], [0, 1, 2, 3, 4, 5, 6, 7, 8]] ++ [List.range 11, List.range 12, List.range 13]) [] (by kernel_rfl) (by exact alQ) ?_
      refine spQ ?_
      have hM0 := hM; clear hM; obtain ⟨x39, hx40, hM⟩ := letk_opn hM0; clear hM0
      have hcx39 := cmH hx40 (specieref37_Item_ok  w (by (exact pfQ)))
      refine hcallC_give hcx39 clQ clQ ?_
      refine spQ ?_
      have hM0 := hM; clear hM; obtain ⟨x41, hx42, hM⟩ := letk_opn hM0; clear hM0
      have hcx41 := sameM_ok  x33 x39 
      rw [← hx42] at hcx41
      refine hcallC_give hcx41 clQ clQ ?_
      refine spQ ?_
      have hF := (And.intro h4 (And.intro h11 (And.intro h16 (And.intro h25 h30))))
      exact auQ
    ·rw [if_pos h25] at hM
     refine spQA h25 ?_
     have nh25 := nzQ h25
     try have hr50 := mpQ nh25
     subst hM
     exact retC_view (lfQA (And.intro h4 (And.intro h11 (And.intro h16 h25))))
  ·rw [if_pos h11] at hM
   refine spQA h11 ?_
   have nh11 := nzQ h11
   try have hr51 := mpQ nh11
   subst hM
   exact retC_view (lfQA (And.intro h4 h11))
end Go.Proofs.YtjnikknlcmbcmaaGreatDoor
namespace Go.Proofs.YtjnikknlcmbcmaaGreatDoor
open Go.RowKit
theorem with_awake : specielaw37_awake = true := by decide +kernel
mutual
theorem sameM_refl : ∀ (a : S_api_Item), sameM a a = true
 | ⟨k, n, x, l⟩ => by simp [sameM, sameL_refl l]
theorem sameL_refl : ∀ (l : List S_api_Item), sameL l l = true
 | [] => by simp [sameL]
 | x :: l => by simp [sameL, sameM_refl x, sameL_refl l]
end
-- items of withdrawals
def flat (X : List (List Int)) : List Int := X.flatMap fun p => [gt p 0, gt p 1]
def pairsOf : List Int → List (List Int)
 | a :: b :: l => [a, b] :: pairsOf l
 | _ => []
theorem pairsOf_flat : ∀ X : List (List Int), pairsOf (flat X) = X.map fun p => [gt p 0, gt p 1]
 | [] => rfl
 | p :: X => by
  have := pairsOf_flat X
  simp only [flat, List.flatMap_cons] at this ⊢
  simp only [List.cons_append, List.nil_append, pairsOf, List.map_cons, this]
def wI (w : S_api_Withdrawal) : S_api_Item := listI [intsI [w.Phase, w.Number, w.Bank, w.Epoch, w.Denom, w.Depth], intsI ([w.Secret.U, w.Secret.S] ++ flat w.Secret.X), intsI [w.Factors.S, w.Factors.U, w.Factors.V], intsI [w.View.M, w.View.Z, w.View.A, w.View.B, w.View.C, w.View.R], coinI w.Coin]
theorem flat_loop {X : List (List Int)} {R : Type} {E : Int × List Int → R} {F : (Int × List Int → R) → Int × List Int → R} {d : Int × List Int → R} {s : List Int}
  (hF : ∀ ag p, F ag p = if decide (p.1 < (X.length : Int)) = true then ag (p.1 + 1, p.2 ++ ([gt (gt X p.1) 0, gt (gt X p.1) 1] : List Int)) else E p) :
  iter (((X.length : Int) - 0).toNat + 1) F d (0, s) = E ((X.length : Int), s ++ flat X) := by
 have key : ∀ (n : Nat) (k : Nat) (s : List Int), X.length - k = n → k ≤ X.length → ∀ fuel, n < fuel → iter fuel F d ((k : Int), s) = E ((X.length : Int), s ++ flat (X.drop k)) := by
  intro n
  induction n with
  | zero =>
   intro k s h1 h2 fuel hf
   obtain ⟨f, rfl⟩ : ∃ f, fuel = f + 1 := ⟨fuel - 1, by omega⟩
   have : k = X.length := by omega
   subst this
   rw [iter, hF, if_neg (by simp)]
   simp [flat]
  | succ n ih =>
   intro k s h1 h2 fuel hf
   obtain ⟨f, rfl⟩ : ∃ f, fuel = f + 1 := ⟨fuel - 1, by omega⟩
   rw [iter, hF, if_pos (by simp; omega)]
   have := ih (k + 1) (s ++ [gt (gt X k) 0, gt (gt X k) 1]) (by omega) (by omega) f (by omega)
   simp only [Int.natCast_add, Int.natCast_one] at this
   refine this.trans ?_
   have hk : k < X.length := by omega
   rw [List.drop_eq_getElem_cons hk]
   have e : gt X (k : Int) = X[k] := by simp [gt, List.getD_eq_getElem?_getD, hk]
   simp only [flat, List.flatMap_cons, List.append_assoc, e]
 have := key _ 0 s rfl (Nat.zero_le _) (((X.length : Int) - 0).toNat + 1) (by omega)
 simpa using this
theorem wItem_eq (w : S_api_Withdrawal) : withdraw_Item w = wI w := by
 unfold withdraw_Item
 refine (flat_loop (X := w.Secret.X) (fun ag p => rfl)).trans ?_
 simp only [letk, Ints_eq, coinItem_eq]
 rfl
theorem rints37 (l : List Int) : specieref37_ints l = intsI l := by
 unfold specieref37_ints
 exact iter_map0 (E := fun p => listI p.2) intI (fun ag p => rfl)
theorem rItem_eq (w : S_api_Withdrawal) : specieref37_Item w = wI w := by
 unfold specieref37_Item
 refine (flat_loop (X := w.Secret.X) (fun ag p => rfl)).trans ?_
 simp only [letk, rints37, rcoin_eq]
 rfl
theorem rnum37 {i : S_api_Item} (hv : withinM i 8 = true) : specieref37_numbers i = ((encode_Numbers i).1, decide ((encode_Numbers i).2 = 0)) := by
 have hs : (fun (x : S_api_Item) (o : List Int) => if x.Kind ≠ 1 then Sum.inr (([] : List Int), false) else Sum.inl (o ++ [x.N])) = (fun a s => optE (.inr (([] : List Int), false)) (fun y => .inl (s ++ [y])) (intF a)) := by
  funext a s
  unfold intF
  by_cases h : a.Kind = 1 <;> simp [h, optE]
 rw [Numbers_eq, hv]
 unfold specieref37_numbers
 by_cases h1 : i.Kind = 3
 ·have := iter_run (l := i.L) (d := fun _ => default) (fun x o => if x.Kind ≠ 1 then .inr (([] : List Int), false) else .inl (o ++ [x.N])) (fun o => (o, true)) (F := fun (ag3 : (Int × List Int) → ((List Int) × Bool)) (p3 : Int × List Int) => (if (decide (p3.1 < (i.L.length : Int))) then (if ((gt i.L p3.1).Kind != 1) then (([] : List Int), false) else (ag3 ((p3.1 + 1), (p3.2 ++ ([(gt i.L p3.1).N] : List Int))))) else (p3.2, true))) (s := []) (fun ag j s => by
    simp only [decide_eq_true_eq, bne_iff_ne, ne_eq]
    by_cases hj : j < (i.L.length : Int)
    ·by_cases hk : (gt i.L j).Kind = 1 <;> simp [hj, hk]
    ·simp [hj])
  simp only [h1, bne_self_eq_false, Bool.false_eq_true, if_false]
  rw [this, hs, foldE_read]
  cases hr : readL intF i.L with
  | none => simp [optE]
  | some m => simp [optE]
 ·simp [h1]
-- the pairs at the end
def fin (a s f v : List Int) (c : S_api_Coin) (X : List (List Int)) : S_api_Withdrawal :=
 { Phase := gt a 0, Number := gt a 1, Bank := gt a 2, Epoch := gt a 3, Denom := gt a 4, Depth := gt a 5, Secret := { U := gt s 0, S := gt s 1, X := X }, Factors := { S := gt f 0, U := gt f 1, V := gt f 2 }, View := { M := gt v 0, Z := gt v 1, A := gt v 2, B := gt v 3, C := gt v 4, R := gt v 5 }, Coin := c }
theorem pair_loop {s : List Int} {R : Type} {E : Int × List (List Int) → R} {F : (Int × List (List Int) → R) → Int × List (List Int) → R} {d : Int × List (List Int) → R} (he : s.length % 2 = 0) (h2 : 2 ≤ s.length)
  (hF : ∀ ag p, F ag p = if decide (p.1 < (s.length : Int)) = true then ag (p.1 + 2, p.2 ++ ([[gt s p.1, gt s (p.1 + 1)]] : List (List Int))) else E p) :
  iter (((s.length : Int) - 2).toNat + 1) F d (2, []) = E ((s.length : Int), pairsOf (s.drop 2)) := by
 have key : ∀ (n : Nat) (k : Nat) (o : List (List Int)), s.length = 2 * n + k → ∀ fuel, n < fuel → iter fuel F d ((k : Int), o) = E ((s.length : Int), o ++ pairsOf (s.drop k)) := by
  intro n
  induction n with
  | zero =>
   intro k o h1 fuel hf
   obtain ⟨f, rfl⟩ : ∃ f, fuel = f + 1 := ⟨fuel - 1, by omega⟩
   have : k = s.length := by omega
   subst this
   rw [iter, hF, if_neg (by simp)]
   simp [pairsOf]
  | succ n ih =>
   intro k o h1 fuel hf
   obtain ⟨f, rfl⟩ : ∃ f, fuel = f + 1 := ⟨fuel - 1, by omega⟩
   rw [iter, hF, if_pos (by simp; omega)]
   have := ih (k + 2) (o ++ [[gt s k, gt s (k + 1)]]) (by omega) f (by omega)
   simp only [Int.natCast_add] at this
   refine this.trans ?_
   have hk : k < s.length := by omega
   have hk1 : k + 1 < s.length := by omega
   rw [List.drop_eq_getElem_cons hk, List.drop_eq_getElem_cons hk1]
   have e : gt s (k : Int) = s[k] := by simp [gt, List.getD_eq_getElem?_getD, hk]
   have e1 : gt s ((k : Int) + 1) = s[k + 1] := by
    have : ((k : Int) + 1).toNat = k + 1 := by omega
    simp [gt, List.getD_eq_getElem?_getD, this, hk1]
   simp only [pairsOf, e, e1, List.append_assoc, List.singleton_append]
 have := key ((s.length - 2) / 2) 2 [] (by omega) (((s.length : Int) - 2).toNat + 1) (by omega)
 simpa using this
theorem four_loop {R : Type} {F : (Int × S_api_Withdrawal × List (List Int) → R) → Int × S_api_Withdrawal × List (List Int) → R} {d : Int × S_api_Withdrawal × List (List Int) → R} {N : Int → List Int × Int} {z : R} {E : List (List Int) → R} {w0 : S_api_Withdrawal}
  (hF : ∀ ag p, F ag p = if decide (p.1 < 4) = true then (letk (N p.1) fun x => if (x.2 != 0) = true then z else ag (p.1 + 1, p.2.1, arrN 4 (st (arrN 4 p.2.2) p.1 x.1))) else E p.2.2) :
  iter (((4 : Int) - 0).toNat + 1) F d (0, w0, [([] : List Int), ([] : List Int), ([] : List Int), ([] : List Int)]) =
   if (N 0).2 ≠ 0 then z else if (N 1).2 ≠ 0 then z else if (N 2).2 ≠ 0 then z else if (N 3).2 ≠ 0 then z else E [(N 0).1, (N 1).1, (N 2).1, (N 3).1] := by
 show iter 5 F d _ = _
 have r0 : ∀ a, iter 5 F d a = F (iter 4 F d) a := fun _ => rfl
 have r1 : ∀ a, iter 4 F d a = F (iter 3 F d) a := fun _ => rfl
 have r2 : ∀ a, iter 3 F d a = F (iter 2 F d) a := fun _ => rfl
 have r3 : ∀ a, iter 2 F d a = F (iter 1 F d) a := fun _ => rfl
 have r4 : ∀ a, iter 1 F d a = F (iter 0 F d) a := fun _ => rfl
 have e0 : arrN 4 (st (arrN 4 [([] : List Int), [], [], []]) 0 (N 0).1) = [(N 0).1, [], [], []] := rfl
 have e1 : arrN 4 (st (arrN 4 [(N 0).1, [], [], []]) 1 (N 1).1) = [(N 0).1, (N 1).1, [], []] := rfl
 have e2 : arrN 4 (st (arrN 4 [(N 0).1, (N 1).1, [], []]) 2 (N 2).1) = [(N 0).1, (N 1).1, (N 2).1, []] := rfl
 have e3 : arrN 4 (st (arrN 4 [(N 0).1, (N 1).1, (N 2).1, []]) 3 (N 3).1) = [(N 0).1, (N 1).1, (N 2).1, (N 3).1] := rfl
 rw [r0, hF, if_pos (show decide ((0 : Int) < 4) = true from rfl)]
 simp only [letk, bne_iff_ne]
 split
 ·rfl
 rw [e0, show (0 : Int) + 1 = 1 from rfl, r1, hF, if_pos (show decide ((1 : Int) < 4) = true from rfl)]
 simp only [letk, bne_iff_ne]
 split
 ·rfl
 rw [e1, show (1 : Int) + 1 = 2 from rfl, r2, hF, if_pos (show decide ((2 : Int) < 4) = true from rfl)]
 simp only [letk, bne_iff_ne]
 split
 ·rfl
 rw [e2, show (2 : Int) + 1 = 3 from rfl, r3, hF, if_pos (show decide ((3 : Int) < 4) = true from rfl)]
 simp only [letk, bne_iff_ne]
 split
 ·rfl
 rw [e3, show (3 : Int) + 1 = 4 from rfl, r4, hF, if_neg (show ¬ decide ((4 : Int) < 4) = true by decide)]
def ends (a s f v : List Int) (c : S_api_Coin) (o : Bool) : S_api_Withdrawal × Int :=
 if o = true ∧ a.length = 6 ∧ 2 ≤ s.length ∧ s.length % 2 = 0 ∧ f.length = 3 ∧ v.length = 6 then (fin a s f v c (pairsOf (s.drop 2)), 0) else (z_api_Withdrawal, 3)
theorem rem2_nat (n : Nat) : remI .i64 (n : Int) 2 = ((n % 2 : Nat) : Int) := by rw [remI_nn]; omega
theorem ends_eq {a s f v : List Int} {c : S_api_Coin} {o : Bool} {F : (Int × List (List Int) → S_api_Withdrawal × Int) → Int × List (List Int) → S_api_Withdrawal × Int} {d : Int × List (List Int) → S_api_Withdrawal × Int}
  (hF : ∀ ag p, F ag p = if decide (p.1 < (s.length : Int)) = true then ag (p.1 + 2, p.2 ++ ([[gt s p.1, gt s (p.1 + 1)]] : List (List Int))) else (fin a s f v c p.2, 0)) :
  (if (!o) = true then (z_api_Withdrawal, 3) else if ((a.length : Int) != 6) = true then (z_api_Withdrawal, 3) else if decide ((s.length : Int) < 2) = true then (z_api_Withdrawal, 3) else if (remI .i64 (s.length : Int) 2 != 0) = true then (z_api_Withdrawal, 3) else if ((f.length : Int) != 3) = true then (z_api_Withdrawal, 3) else if ((v.length : Int) != 6) = true then (z_api_Withdrawal, 3) else iter (((s.length : Int) - 2).toNat + 1) F d (2, [])) = ends a s f v c o := by
 unfold ends
 cases o
 ·simp
 by_cases h1 : a.length = 6
 ·by_cases h2 : 2 ≤ s.length
  ·by_cases h3 : s.length % 2 = 0
   ·by_cases h4 : f.length = 3
    ·by_cases h5 : v.length = 6
     ·rw [if_neg (by decide), if_neg (by simp [h1]), if_neg (by simp; omega), if_neg (by rw [rem2_nat, h3]; decide), if_neg (by simp [h4]), if_neg (by simp [h5]), pair_loop (E := fun p => (fin a s f v c p.2, 0)) h3 h2 hF, if_pos ⟨rfl, h1, h2, h3, h4, h5⟩]
     ·rw [if_neg (by decide), if_neg (by simp [h1]), if_neg (by simp; omega), if_neg (by rw [rem2_nat, h3]; decide), if_neg (by simp [h4]), if_pos (by simp; omega), if_neg (by simp [h5])]
    ·rw [if_neg (by decide), if_neg (by simp [h1]), if_neg (by simp; omega), if_neg (by rw [rem2_nat, h3]; decide), if_pos (by simp; omega), if_neg (by simp [h4])]
   ·rw [if_neg (by decide), if_neg (by simp [h1]), if_neg (by simp; omega), if_pos (by rw [rem2_nat]; simp; omega), if_neg (by simp [h3])]
  ·rw [if_neg (by decide), if_neg (by simp [h1]), if_pos (by simp; omega), if_neg (by simp [h2])]
 ·rw [if_neg (by decide), if_pos (by simp; omega), if_neg (by simp [h1])]
def fromI (i : S_api_Item) : S_api_Withdrawal × Int :=
 if withinM i 8 = false then (z_api_Withdrawal, 1) else if i.Kind ≠ 3 ∨ i.L.length ≠ 5 then (z_api_Withdrawal, 3) else
 if (encode_Numbers (gt i.L 0)).2 ≠ 0 ∨ (encode_Numbers (gt i.L 1)).2 ≠ 0 ∨ (encode_Numbers (gt i.L 2)).2 ≠ 0 ∨ (encode_Numbers (gt i.L 3)).2 ≠ 0 then (z_api_Withdrawal, 3) else
 ends (encode_Numbers (gt i.L 0)).1 (encode_Numbers (gt i.L 1)).1 (encode_Numbers (gt i.L 2)).1 (encode_Numbers (gt i.L 3)).1 (coin_FromItem (gt i.L 4)).1 (decide ((coin_FromItem (gt i.L 4)).2 = 0))
theorem bneD {e : Int} : (e != 0) = !decide (e = 0) := by by_cases h : e = 0 <;> simp [h]
theorem fromI_arg {i : S_api_Item} (hv : withinM i 8 = false) : fromI i = (z_api_Withdrawal, 1) := by
 unfold fromI
 rw [if_pos hv]
theorem fromI_form {i : S_api_Item} (hv : withinM i 8 = true) (h : i.Kind ≠ 3 ∨ i.L.length ≠ 5) : fromI i = (z_api_Withdrawal, 3) := by
 unfold fromI
 rw [if_neg (by rw [hv]; decide), if_pos h]
theorem fromI_ok {i : S_api_Item} (hv : withinM i 8 = true) (hk : i.Kind = 3) (hl : i.L.length = 5) : fromI i = if (encode_Numbers (gt i.L 0)).2 ≠ 0 ∨ (encode_Numbers (gt i.L 1)).2 ≠ 0 ∨ (encode_Numbers (gt i.L 2)).2 ≠ 0 ∨ (encode_Numbers (gt i.L 3)).2 ≠ 0 then (z_api_Withdrawal, 3) else
 ends (encode_Numbers (gt i.L 0)).1 (encode_Numbers (gt i.L 1)).1 (encode_Numbers (gt i.L 2)).1 (encode_Numbers (gt i.L 3)).1 (coin_FromItem (gt i.L 4)).1 (decide ((coin_FromItem (gt i.L 4)).2 = 0)) := by
 unfold fromI
 rw [if_neg (by rw [hv]; decide), if_neg (by simp [hk, hl])]
theorem nums_if {a b c d : Int} {α : Type} {z e : α} : (if a ≠ 0 then z else if b ≠ 0 then z else if c ≠ 0 then z else if d ≠ 0 then z else e) = if a ≠ 0 ∨ b ≠ 0 ∨ c ≠ 0 ∨ d ≠ 0 then z else e := by
 by_cases h0 : a = 0 <;> by_cases h1 : b = 0 <;> by_cases h2 : c = 0 <;> by_cases h3 : d = 0 <;> simp [h0, h1, h2, h3]
theorem from_eq (i : S_api_Item) : withdraw_FromItem i = fromI i := by
 unfold withdraw_FromItem
 refine letk_go fun x1 h1 => ?_
 rw [valid_eq] at h1
 subst h1
 cases hv : withinM i 8 with
 | false => rw [if_pos (by decide), fromI_arg hv]
 | true =>
 rw [if_neg (by decide)]
 by_cases hk : i.Kind = 3
 ·by_cases hl : i.L.length = 5
  ·rw [if_neg (by simp [hk]), if_neg (by simp; omega), fromI_ok hv hk hl]
   refine (four_loop (N := fun k => encode_Numbers (gt i.L k)) (z := (z_api_Withdrawal, 3)) (E := fun L => ends (gt L 0) (gt L 1) (gt L 2) (gt L 3) (coin_FromItem (gt i.L 4)).1 (decide ((coin_FromItem (gt i.L 4)).2 = 0))) ?_).trans nums_if
   intro ag p
   by_cases hp : decide (p.1 < 4) = true
   ·rw [if_pos hp, if_pos hp]
   ·rw [if_neg hp, if_neg hp]
    simp only [letk]
    rw [bneD]
    exact ends_eq (fun ag p => rfl)
  ·rw [if_neg (by simp [hk]), if_pos (by simp; omega), fromI_form hv (.inr hl)]
 ·rw [if_pos (by simp [hk]), fromI_form hv (.inl hk)]
theorem rfrom_eq (i : S_api_Item) : specieref37_FromItem i = fromI i := by
 unfold specieref37_FromItem
 refine letk_go fun x1 h1 => ?_
 rw [rvalid8] at h1
 subst h1
 cases hv : withinM i 8 with
 | false => rw [if_pos (by decide), fromI_arg hv]
 | true =>
 rw [if_neg (by decide)]
 by_cases hk : i.Kind = 3
 ·by_cases hl : i.L.length = 5
  ·rw [if_neg (by simp [hk]), if_neg (by simp; omega), fromI_ok hv hk hl]
   refine letk_go fun x13 h13 => ?_
   refine letk_go fun x17 h17 => ?_
   refine letk_go fun x21 h21 => ?_
   refine letk_go fun x25 h25 => ?_
   refine letk_go fun x29 h29 => ?_
   rw [rnum37 (sub_valid hv hk (by show (_ : Nat) < _; omega))] at h13 h17 h21 h25
   rw [rCoin (sub_valid hv hk (by show (_ : Nat) < _; omega))] at h29
   subst h13 h17 h21 h25 h29
   simp only
   by_cases n0 : (encode_Numbers (gt i.L 0)).2 = 0
   ·by_cases n1 : (encode_Numbers (gt i.L 1)).2 = 0
    ·by_cases n2 : (encode_Numbers (gt i.L 2)).2 = 0
     ·by_cases n3 : (encode_Numbers (gt i.L 3)).2 = 0
      ·rw [if_neg (by simp [n0]), if_neg (by simp [n1]), if_neg (by simp [n2]), if_neg (by simp [n3]), if_neg (c := _ ∨ _) (by simp [n0, n1, n2, n3])]
       exact ends_eq (fun ag p => rfl)
      ·simp [n0, n1, n2, n3]
     ·simp [n0, n1, n2]
    ·simp [n0, n1]
   ·simp [n0]
  ·rw [if_neg (by simp [hk]), if_pos (by simp; omega), fromI_form hv (.inr hl)]
 ·rw [if_pos (by simp [hk]), fromI_form hv (.inl hk)]
-- the same
theorem q57_refl (p : List Int) : q_arr57 p p = true := by simp [q_arr57]
theorem q57_pair (p : List Int) : q_arr57 [gt p 0, gt p 1] p = true := by
 simp only [q_arr57]
 rw [show gt [gt p 0, gt p 1] 0 = gt p 0 from rfl, show gt [gt p 0, gt p 1] 1 = gt p 1 from rfl]
 simp
theorem notif2 {α : Type} {c : Bool} {x y : α} : (if (!c) = true then x else y) = if c = true then y else x := by cases c <;> rfl
theorem same37 {a b : S_api_Withdrawal} (h0 : a.Secret.X.length = b.Secret.X.length) (h1 : ∀ j : Int, 0 ≤ j → j < a.Secret.X.length → q_arr57 (gt a.Secret.X j) (gt b.Secret.X j) = true)
  (h2 : a.Phase = b.Phase ∧ a.Number = b.Number ∧ a.Bank = b.Bank ∧ a.Epoch = b.Epoch ∧ a.Denom = b.Denom ∧ a.Depth = b.Depth ∧ a.Secret.U = b.Secret.U ∧ a.Secret.S = b.Secret.S ∧ a.Factors = b.Factors ∧ a.View = b.View) (h3 : q_api_Coin a.Coin b.Coin = true) : specieref37_Same a b = true := by
 unfold specieref37_Same
 rw [if_neg (by simp [h0])]
 refine same_loop (C := fun p => q_arr57 (gt a.Secret.X p) (gt b.Secret.X p)) (X := (if (a.Phase == b.Phase) then (if (a.Number == b.Number) then (if (a.Bank == b.Bank) then (if (a.Epoch == b.Epoch) then (if (a.Denom == b.Denom) then (if (a.Depth == b.Depth) then (if (a.Secret.U == b.Secret.U) then (if (a.Secret.S == b.Secret.S) then (if (q_api_CoinFactors (a.Factors) (b.Factors)) then (if (q_api_CoinView (a.View) (b.View)) then (q_api_Coin (a.Coin) (b.Coin)) else false) else false) else false) else false) else false) else false) else false) else false) else false) else false)) (fun ag p => by simp only [notif2]) h1 ?_
 obtain ⟨p1, p2, p3, p4, p5, p6, p7, p8, p9, p10⟩ := h2
 rw [if_pos (beq_iff_eq.2 p1), if_pos (beq_iff_eq.2 p2), if_pos (beq_iff_eq.2 p3), if_pos (beq_iff_eq.2 p4), if_pos (beq_iff_eq.2 p5), if_pos (beq_iff_eq.2 p6), if_pos (beq_iff_eq.2 p7), if_pos (beq_iff_eq.2 p8), p9, p10]
 rw [if_pos (by simp [q_api_CoinFactors]), if_pos (by simp [q_api_CoinView])]
 exact h3
theorem q_coin_refl (c : S_api_Coin) : q_api_Coin c c = true := by simp [q_api_Coin]
theorem same37_refl (a : S_api_Withdrawal) : specieref37_Same a a = true := same37 rfl (fun j _ _ => q57_refl _) ⟨rfl, rfl, rfl, rfl, rfl, rfl, rfl, rfl, rfl, rfl⟩ (q_coin_refl _)
theorem same_coin2 (c : S_api_Coin) : q_api_Coin (normC c) c = true := by simp [q_api_Coin, normC, gt_arrN]
theorem flat_len2 : ∀ X : List (List Int), (flat X).length = 2 * X.length
 | [] => rfl
 | p :: X => by have := flat_len2 X; simp only [flat, List.flatMap_cons, List.length_append, List.length_cons, List.length_nil] at this ⊢; omega
theorem within_ints {l : List Int} (h : l.length ≤ 1000) {d : Int} (hd : 2 ≤ d) : withinM (intsI l) d = true := by
 simp only [intsI, withinM, withinL_all, List.length_map, List.all_map]
 simp
 refine ⟨by omega, by omega, fun x hx => ?_⟩
 simp [intI, withinM]
theorem within_wI {w : S_api_Withdrawal} (h : w.Secret.X.length ≤ 40) : withinM (wI w) 8 = true := by
 have hf := flat_len2 w.Secret.X
 have h1 := within_ints (l := [w.Phase, w.Number, w.Bank, w.Epoch, w.Denom, w.Depth]) (by simp) (d := 7) (by decide)
 have h2 := within_ints (l := [w.Secret.U, w.Secret.S] ++ flat w.Secret.X) (by simp; omega) (d := 7) (by decide)
 have h3 := within_ints (l := [w.Factors.S, w.Factors.U, w.Factors.V]) (by simp) (d := 7) (by decide)
 have h4 := within_ints (l := [w.View.M, w.View.Z, w.View.A, w.View.B, w.View.C, w.View.R]) (by simp) (d := 7) (by decide)
 have h5 : withinM (coinI w.Coin) 7 = true := by simp [coinI, listI, intsI, intI, bytI, withinM, withinL]
 unfold wI listI
 simp only [withinM, withinL, show (8 : Int) - 1 = 7 from rfl, h1, h2, h3, h4, h5]
 simp
theorem gt_map' {α β : Type} [Inhabited α] [Inhabited β] {l : List α} {f : α → β} {i : Int} (h0 : 0 ≤ i) (h : i < l.length) : gt (l.map f) i = f (gt l i) := gt_map (by omega)
theorem few_len {w : S_api_Withdrawal} {x : Bool} (hx : x = specielaw37_few w) (h : ¬ (!x) = true) : w.Secret.X.length ≤ 40 := by
 subst hx
 simp [specielaw37_few] at h
 omega
theorem from_own {w : S_api_Withdrawal} (h : w.Secret.X.length ≤ 40) : ∃ x, withdraw_FromItem (wI w) = (x, 0) ∧ specieref37_Same x w = true := by
 have hv := within_wI h
 have hf := flat_len2 w.Secret.X
 have hs := within_of_list hv (by omega)
 have n0 := Numbers_ints (hs _ (by simp : intsI [w.Phase, w.Number, w.Bank, w.Epoch, w.Denom, w.Depth] ∈ _))
 have n1 := Numbers_ints (hs _ (by simp : intsI ([w.Secret.U, w.Secret.S] ++ flat w.Secret.X) ∈ _))
 have n2 := Numbers_ints (hs _ (by simp : intsI [w.Factors.S, w.Factors.U, w.Factors.V] ∈ _))
 have n3 := Numbers_ints (hs _ (by simp : intsI [w.View.M, w.View.Z, w.View.A, w.View.B, w.View.C, w.View.R] ∈ _))
 have n4 := coin_fwd (c := w.Coin) (hs _ (by simp : coinI w.Coin ∈ _))
 refine ⟨fin [w.Phase, w.Number, w.Bank, w.Epoch, w.Denom, w.Depth] ([w.Secret.U, w.Secret.S] ++ flat w.Secret.X) [w.Factors.S, w.Factors.U, w.Factors.V] [w.View.M, w.View.Z, w.View.A, w.View.B, w.View.C, w.View.R] (normC w.Coin) (pairsOf (([w.Secret.U, w.Secret.S] ++ flat w.Secret.X).drop 2)), ?_, ?_⟩
 ·rw [from_eq]
  unfold fromI
  have g0 : gt (wI w).L 0 = intsI [w.Phase, w.Number, w.Bank, w.Epoch, w.Denom, w.Depth] := rfl
  have g1 : gt (wI w).L 1 = intsI ([w.Secret.U, w.Secret.S] ++ flat w.Secret.X) := rfl
  have g2 : gt (wI w).L 2 = intsI [w.Factors.S, w.Factors.U, w.Factors.V] := rfl
  have g3 : gt (wI w).L 3 = intsI [w.View.M, w.View.Z, w.View.A, w.View.B, w.View.C, w.View.R] := rfl
  have g4 : gt (wI w).L 4 = coinI w.Coin := rfl
  have k3 : (wI w).Kind = 3 := rfl
  have l5 : (wI w).L.length = 5 := rfl
  rw [if_neg (by rw [hv]; decide), if_neg (by rw [k3, l5]; decide), g0, g1, g2, g3, g4, n0, n1, n2, n3, n4, if_neg (by simp)]
  unfold ends
  refine if_pos ⟨rfl, rfl, by simp, ?_, rfl, rfl⟩
  simp only [List.length_append, List.length_cons, List.length_nil, hf]; omega
 ·have hp : pairsOf (([w.Secret.U, w.Secret.S] ++ flat w.Secret.X).drop 2) = w.Secret.X.map fun p => [gt p 0, gt p 1] := pairsOf_flat _
  refine same37 ?_ ?_ ⟨rfl, rfl, rfl, rfl, rfl, rfl, rfl, rfl, rfl, rfl⟩ (same_coin2 _)
  ·show (pairsOf _).length = _
   rw [hp, List.length_map]
  ·intro j h0 h1
   have h1' : j < ((pairsOf (([w.Secret.U, w.Secret.S] ++ flat w.Secret.X).drop 2)).length : Int) := h1
   show q_arr57 (gt (pairsOf _) j) _ = true
   rw [hp, List.length_map] at h1'
   rw [hp, gt_map' h0 h1']
   exact q57_pair _
theorem specielaw37_WithdrawItems_true (w : S_api_Withdrawal) (i : S_api_Item) : specielaw37_WithdrawItems w i = true := by
 unfold specielaw37_WithdrawItems
 refine letk_go fun x1 h1 => ?_
 rw [with_awake] at h1
 rw [if_neg (by rw [h1]; decide)]
 refine letk_go fun x7 h7 => ?_
 by_cases hc : (!x7) = true
 ·rw [if_pos hc]
 rw [if_neg hc]
 have hl := few_len h7 hc
 refine letk_go fun x12 h12 => ?_
 by_cases hc2 : decide (x12 ≥ 200) = true
 ·rw [if_pos hc2]
 rw [if_neg hc2]
 refine letk_go fun x18 h18 => ?_
 refine letk_go fun x21 h21 => ?_
 rw [from_eq] at h18
 rw [rfrom_eq] at h21
 rw [if_neg (by rw [h18, h21]; simp)]
 refine letk_go fun x26 h26 => ?_
 rw [h18, h21, same37_refl] at h26
 rw [if_neg (by rw [h26]; decide)]
 refine letk_go fun x32 h32 => ?_
 refine letk_go fun x35 h35 => ?_
 refine letk_go fun x38 h38 => ?_
 refine letk_go fun x40 h40 => ?_
 rw [wItem_eq] at h32
 rw [rItem_eq] at h38
 rw [h32, h38, sameM_refl] at h40
 obtain ⟨x, e1, e2⟩ := from_own hl
 rw [h32, e1] at h35
 rw [if_pos h40, h35, if_pos (show ((0 : Int) == 0) = true from rfl)]
 refine letk_go fun x45 h45 => ?_
 rw [h45, e2]
end Go.Proofs.YtjnikknlcmbcmaaGreatDoor
