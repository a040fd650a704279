/- Texts of this proof, one after the other: U2, S1, S2, S3, S4, L1. -/
import Derived.Test.YtcbdmoihobdjaaaDoorZ6
import Derived.Test.YtcbdmoihobdjaaaDoorZ5
import Derived.KernelRfl
set_option linter.unusedVariables false
set_option linter.unusedSimpArgs false
namespace Go.Proofs.YtcbdmoihobdjaaaDoor
open Go.RowKit
set_option linter.unusedSimpArgs false
set_option maxHeartbeats 2000000 in
set_option maxRecDepth 100000 in
instance specieref07_value_ok   (b : (List Int))  : CM En (specieref07_value b) 80 [.sl none 1 false (b.map (V.int .u8))] (fun y => .int .u64 y) (fun _ => []) := by
 refine cmQ fun r hM => ?_
 rw [specieref07_value.eq_1] at hM
 refine enterV En_ok En_mo noJ Tryd.func80 rfl Tryd.ntmps80 (by kernel_rfl) fun hw => ct_start ?_
 refine spQ ?_
 replace hw := nzQ hw
 have hM0 := hM; clear hM; obtain ⟨f1, d1, hf1, hd1, hM⟩ := iter_opn hM0; clear hM0
 refine ct_loop (fun n S => ∃ p : Int × Int, S = (⟨[(0, .sl none 1 false (b.map (V.int .u8))), (3, .int .u64 p.1), (4, .int .i64 p.2)], [], 0⟩ : St) ∧ ((0 ≤ p.2) ∧ (p.2 ≤ (b.length : Int))) ∧ ((b.length : Int) - p.2).toNat < n ∧ iter n f1 d1 p = r) (((b.length : Int) - 0).toNat + 1) _ sbQ sbQ ⟨(0, 0), rfl, ⟨omQ, omQ⟩, (Nat.lt_succ_self _), hM⟩ ?_
 clear hM
 rintro n1 S ⟨p1, rfl, hfa1, hm1, hM⟩
 have hM0 := hM; clear hM; obtain ⟨ag1, hag1, hM⟩ := iter_step hM0 (by omega) hf1; clear hM0
 replace hfa1 := nzQ hfa1
 replace hm1 := nzQ hm1
 have ha1 : addI .i64 p1.2 1 = p1.2 + 1 := add_one omQ omQ
 refine spQA ha1 ?_
 have hF := ha1
 exact auQ
instance (priority := 1012) : DRD 16 119 11 [78, 79, 80, 81, 82, 83, 84, 85, 86, 87] [] ([[], [], [], [], [2, 3], [1, 2, 3, 4], [0, 1, 2, 3, 4, 5], [], [], [7, 8], [0, 1, 2, 3, 4, 5, 6]] ++ [List.range 11, List.range 12]) [(5, 2), (10, 0)] := ⟨trivial⟩
set_option maxHeartbeats 2000000 in
set_option maxRecDepth 100000 in
theorem specieref07_read_ok (N : Nat) (ih : ∀ (z0 : Option Bool) (b : (List Int)) (within : Int), (0 ≤ within) → (within ≤ 8) → (isB b) → (8 - within).toNat < N → CallOk En 60 [.sl z0 1 false (b.map (V.int .u8)), .int .i64 within] (.tup [.agg [.int .i64 (rreadM b within).1.Kind, .int .i64 (rreadM b within).1.N, .sl none 1 false ((rreadM b within).1.B.map (V.int .u8)), .sl none 4 true ((rreadM b within).1.L.map e_api_Item)], .sl none 1 false ((rreadM b within).2.1.map (V.int .u8)), .int .i64 (rreadM b within).2.2]) []) (z0 : Option Bool) (b : (List Int)) (within : Int) (hp0 : 0 ≤ within) (hp1 : within ≤ 8) (hp2 : isB b) (hp_ : (8 - within).toNat < N + 1) : CallOk En 60 [.sl z0 1 false (b.map (V.int .u8)), .int .i64 within] (.tup [.agg [.int .i64 (specieref07_read b within).1.Kind, .int .i64 (specieref07_read b within).1.N, .sl none 1 false ((specieref07_read b within).1.B.map (V.int .u8)), .sl none 4 true ((specieref07_read b within).1.L.map e_api_Item)], .sl none 1 false ((specieref07_read b within).2.1.map (V.int .u8)), .int .i64 (specieref07_read b within).2.2]) [] := by
 generalize hM : specieref07_read b within = r
 rw [specieref07_read.eq_1] at hM
 refine enterV En_ok En_mo [11] Tryd.func60 rfl Tryd.ntmps60 (by kernel_rfl) fun hw => ct_start ?_
 refine spQ ?_
 replace hw := nzQ hw
 refine condC_intro (fun h1 => ?_) (fun h1 => ?_)
 ·rw [if_pos h1] at hM
  refine spQA h1 ?_
  have nh1 := nzQ h1
  try have hr2 := mpQ nh1
  subst hM
  exact retC_view (lfQA h1)
 ·rw [if_neg (ne_true h1)] at hM
  refine spQA h1 ?_
  have nh1 := nzQ h1
  try have hr3 := mpQ nh1
  refine bindC_intro omQ ?_
  have he4 : ∀ d, elt (b.map (V.int .u8)) 0 d = (V.int .u8) (gt b 0) := fun d => elt_mp (l := b) (f := (V.int .u8)) (i := 0) omQ d
  refine spQA he4 ?_
  refine bindC_intro omQ ?_
  refine spQA he4 ?_
  have hM0 := hM; clear hM; obtain ⟨j5, hj5, hM⟩ := letj_opn hM0; clear hM0
  refine seqC_intro (fun S => ∃ p : Unit, S = (⟨[(0, .sl none 1 false ((sl b 1 (b.length : Int)).map (V.int .u8))), (1, .int .i64 within), (4, .ptr 0 0), (7, .int .i64 (convI .i64 (gt b 0)))], [(0, .var 4 true (.agg [.int .i64 0, .int .i64 0, .sl (some true) 1 false [], .sl (some true) 4 true []]))], 1⟩ : St) ∧ ((2 ≤ (convI .i64 (gt b 0))) ∧ ((convI .i64 (gt b 0)) ≤ 3) ∧ ((convI .i64 (gt b 0)) ≠ 3 ∨ within ≠ 8) ∧ (4 ≤ (((sl b 1 (b.length : Int))).length : Int))) ∧ j5 p = r) ?_ (fun hcut5 => ?_)
  ·clear hM
   rintro S ⟨p5, rfl, hfa5, hM⟩
   replace hfa5 := nzQ hfa5
   have hM0 := hM; clear hM; have hM := letj_use hM0 hj5; clear hM0
   refine spQA he4 ?_
   refine bindC_intro omQ ?_
   refine spQA he4 ?_
   have hM0 := hM; clear hM; obtain ⟨x6, hx7, hM⟩ := letk_opn hM0; clear hM0
   have hcx6 := cmU hx7
   refine callC_give hcx6 (clQA he4) (clQA he4) (fun hw8 => ?_)
   replace hw8 := nzQ hw8
   refine spQA he4 ?_
   have hq9 := value_fact hx7 (isB_sl (isB_sl hp2))
   replace hq9 := nzQ hq9
   refine bindC_intro omQ ?_
   refine spQA he4 ?_
   refine condC_intro (fun h10 => ?_) (fun h10 => ?_)
   ·rw [if_pos h10] at hM
    refine spQA (And.intro he4 h10) ?_
    have nh10 := nzQ h10
    try have hr11 := mpQ nh10
    have hF := (And.intro h1 (And.intro he4 h10))
    exact auQ
   ·rw [if_neg (ne_true h10)] at hM
    refine spQA (And.intro he4 h10) ?_
    have nh10 := nzQ h10
    try have hr15 := mpQ nh10
    refine condC_intro (fun h16 => ?_) (fun h16 => ?_)
    ·rw [if_pos h16] at hM
     refine spQA (And.intro he4 h16) ?_
     have nh16 := nzQ h16
     try have hr17 := mpQ nh16
     subst hM
     exact retC_view (lfQA (And.intro he4 (And.intro h1 (And.intro h10 h16))))
    ·rw [if_neg (ne_true h16)] at hM
     refine spQA (And.intro he4 h16) ?_
     have nh16 := nzQ h16
     try have hr18 := mpQ nh16
     have hM0 := hM; clear hM; obtain ⟨f19, d19, hf19, hd19, hM⟩ := iter_opn hM0; clear hM0
     refine ct_loopW (fun n S => ∃ p : List Int × Int × S_api_Item × List S_api_Item, S = (⟨[(0, .sl none 1 false (p.1.map (V.int .u8))), (1, .int .i64 within), (4, .ptr 0 0), (8, .int .i64 (convI .i64 x6)), (9, .ptr 1 0), (10, .int .i64 p.2.1)], [(0, .var 4 true (.agg [.int .i64 p.2.2.1.Kind, .int .i64 p.2.2.1.N, .sl none 1 false (p.2.2.1.B.map (V.int .u8)), .sl none 4 true (p.2.2.1.L.map e_api_Item)])), (1, .var 4 true (.agg [.int .i64 (convI .i64 (gt b 0)), .int .i64 0, .sl (some true) 1 false [], .own 2])), (2, .own 53 4 true none (p.2.2.2.map e_api_Item))], 3⟩ : St) ∧ (((0 ≤ p.2.1) ∧ (p.2.1 ≤ (convI .i64 x6)) ∧ (((p.2.2.2).length : Int) ≤ p.2.1)) ∧ (isB (p.1))) ∧ ((convI .i64 x6) - p.2.1).toNat < n ∧ iter n f19 d19 p = r) (((convI .i64 x6) - 0).toNat + 1) _ _ (weak_nilV 1 3 53 rfl rfl (by decide)) sbQ (by simp only [go_sem, rowV_eq, rowV_eq0, List.length_replicate, rep_len, Int.toNat_natCast, ↓reduceIte, Nat.reduceEqDiff, Nat.reduceAdd, Int.reduceAdd, Nat.reduceMul, Nat.reduceLeDiff, Nat.reduceLT, Int.reduceLE, Int.reduceLT, Int.reduceNeg, Int.reduceToNat, map_st, mtL_repE, mtL_repM, subF, subH, mtO, mtB, mt, mtL, mtL_self, mt_self, ltV, ltL, ltB, eq_self, or_true, true_or, or_self, and_self, gt_cons0, gt_conss, Int.reduceSub]) ⟨((sl (sl b 1 (b.length : Int)) 4 ((sl b 1 (b.length : Int)).length : Int)), 0, z_api_Item, ([] : List S_api_Item)), rfl, ⟨⟨omQ, omQ, omQ⟩, by (exact isB_sl (isB_sl hp2))⟩, (Nat.lt_succ_self _), hM⟩ ?_
     clear hM
     rintro n19 S ⟨p19, rfl, ⟨hfa19, hF21_0⟩, hm19, hM⟩
     have hM0 := hM; clear hM; obtain ⟨ag19, hag19, hM⟩ := iter_step hM0 (by omega) hf19; clear hM0
     replace hfa19 := nzQ hfa19
     replace hm19 := nzQ hm19
     have ha19 : addI .i64 p19.2.1 1 = p19.2.1 + 1 := add_one omQ omQ
     refine spQA (And.intro he4 ha19) ?_
     refine condC_intro (fun h20 => ?_) (fun h20 => ?_)
     ·rw [if_pos h20] at hM
      refine spQA (And.intro he4 (And.intro ha19 h20)) ?_
      have nh20 := nzQ h20
      try have hr21 := mpQ nh20
      have ha22 : addI .i64 within 1 = (within + 1) := add_ok omQ omQ
      try simp only [ha22]
      have hM0 := hM; clear hM; obtain ⟨x23, hx24, hM⟩ := letk_opn hM0; clear hM0
      have hcx23 := ih none (p19.1) (within + 1) (by (first | assumption | omega)) (by (first | assumption | omega)) (by (first | assumption | omega)) (by omega)
      rw [← hx24] at hcx23
      refine callC_give hcx23 (clQA (And.intro he4 (And.intro ha19 ha22))) (clQA (And.intro he4 (And.intro ha19 ha22))) (fun hw25 => ?_)
      replace hw25 := nzQ hw25
      refine spQA (And.intro he4 (And.intro ha19 ha22)) ?_
      have hq26 := rread_isB hx24 (by assumption)
      replace hq26 := nzQ hq26
      refine condC_intro (fun h27 => ?_) (fun h27 => ?_)
      ·rw [if_pos h27] at hM
       refine spQA (And.intro he4 (And.intro ha19 (And.intro ha22 h27))) ?_
       have nh27 := nzQ h27
       try have hr28 := mpQ nh27
       subst hM
       exact retC_view (lfQA (And.intro he4 (And.intro ha19 (And.intro ha22 (And.intro h1 (And.intro h10 (And.intro h16 (And.intro h20 h27))))))))
      ·rw [if_neg (ne_true h27)] at hM
       refine spQA (And.intro he4 (And.intro ha19 (And.intro ha22 h27))) ?_
       have nh27 := nzQ h27
       try have hr29 := mpQ nh27
       refine bindC_intro omQ ?_
       refine spQA (And.intro he4 (And.intro ha19 ha22)) ?_
       refine lp_intro (n19 - 1) _ (by omega) sbQ sbQ ⟨(x23.2.1, (p19.2.1 + 1), p19.2.2.1, (p19.2.2.2 ++ ([x23.1] : List S_api_Item))), rfl, ⟨⟨omQ, omQ, omQ⟩, by assumption⟩, omQ, iter_again hM hag19⟩
     ·rw [if_neg (ne_true h20)] at hM
      refine spQA (And.intro he4 (And.intro ha19 h20)) ?_
      have nh20 := nzQ h20
      try have hr30 := mpQ nh20
      subst hM
      exact retC_view (lfQA (And.intro he4 (And.intro ha19 (And.intro h1 (And.intro h10 (And.intro h16 h20))))))
  ·refine spQA he4 ?_
   refine guardC_f (fun h31 => ?_) (fun h31 => ?_)
   ·rw [if_neg (ne_true h31)] at hM
    refine spQA (And.intro he4 h31) ?_
    have nh31 := nzQ h31
    try have hr32 := mpQ nh31
    refine guardC_f (fun h33 => ?_) (fun h33 => ?_)
    ·rw [if_neg (ne_true h33)] at hM
     refine spQA (And.intro he4 h33) ?_
     have nh33 := nzQ h33
     try have hr34 := mpQ nh33
     refine guardC_t (fun h35 => ?_) (fun h35 => ?_)
     ·rw [if_pos h35] at hM
      refine spQA (And.intro he4 h35) ?_
      have nh35 := nzQ h35
      try have hr36 := mpQ nh35
      refine condC_intro (fun h37 => ?_) (fun h37 => ?_)
      ·rw [if_pos h37] at hM
       refine spQA (And.intro he4 h37) ?_
       have nh37 := nzQ h37
       try have hr38 := mpQ nh37
       subst hM
       exact retC_view (lfQA (And.intro he4 (And.intro h1 (And.intro h31 (And.intro h33 (And.intro h35 h37))))))
      ·rw [if_neg (ne_true h37)] at hM
       refine spQA (And.intro he4 h37) ?_
       have nh37 := nzQ h37
       try have hr39 := mpQ nh37
       refine guardC_t (fun h40 => ?_) (fun h40 => ?_)
       ·rw [if_pos h40] at hM
        refine spQA (And.intro he4 h40) ?_
        have nh40 := nzQ h40
        try have hr41 := mpQ nh40
        refine guardC_f (fun h42 => ?_) (fun h42 => ?_)
        ·rw [if_neg (ne_true h42)] at hM
         refine spQA (And.intro he4 h42) ?_
         have nh42 := nzQ h42
         try have hr43 := mpQ nh42
         refine condC_intro (fun h44 => ?_) (fun h44 => ?_)
         ·rw [if_pos h44] at hM
          refine spQA (And.intro he4 h44) ?_
          have nh44 := nzQ h44
          try have hr45 := mpQ nh44
          subst hM
          exact retC_view (lfQA (And.intro he4 (And.intro h1 (And.intro h31 (And.intro h33 (And.intro h35 (And.intro h37 (And.intro h40 (And.intro h42 h44)))))))))
         ·rw [if_neg (ne_true h44)] at hM
          refine spQA (And.intro he4 h44) ?_
          have nh44 := nzQ h44
          try have hr46 := mpQ nh44
          refine condC_intro (fun h47 => ?_) (fun h47 => ?_)
          ·rw [if_pos h47] at hM
           refine spQA (And.intro he4 h47) ?_
           have nh47 := nzQ h47
           try have hr48 := mpQ nh47
           refine ct_draw 119 9 [57, 58, 59, 60, 61, 62, 63, 64] [] ([[], [], [1], [1, 2], [1, 2, 3], [0, 1, 2, 3, 4], [], [6], [0, 1, 2, 3, 4, 5]] ++ [List.range 9, List.range 10]) [(8, 0)] (by kernel_rfl) (by exact alQ) ?_
           refine spQA he4 ?_
           refine hbindC_intro omQ ?_
           refine spQA he4 ?_
           have hM0 := hM; clear hM; obtain ⟨x49, hx50, hM⟩ := letk_opn hM0; clear hM0
           have hcx49 := cmU hx50
           refine hcallC_give hcx49 (clQA he4) (clQA he4) ?_
           refine spQA he4 ?_
           have hq51 := value_fact hx50 (isB_sl (isB_sl hp2))
           replace hq51 := nzQ hq51
           have hF := (And.intro h1 (And.intro he4 (And.intro h31 (And.intro h33 (And.intro h35 (And.intro h37 (And.intro h40 (And.intro h42 (And.intro h44 h47)))))))))
           exact auQ
          ·rw [if_neg (ne_true h47)] at hM
           refine spQA (And.intro he4 h47) ?_
           have nh47 := nzQ h47
           try have hr52 := mpQ nh47
           exact cut_intro _ sbQ sbQ (hcut5 _ ⟨(), rfl, ⟨omQ, omQ, omQ, omQ⟩, hM⟩)
        ·rw [if_pos h42] at hM
         refine spQA (And.intro he4 h42) ?_
         have nh42 := nzQ h42
         try have hr53 := mpQ nh42
         subst hM
         exact retC_view (lfQA (And.intro he4 (And.intro h1 (And.intro h31 (And.intro h33 (And.intro h35 (And.intro h37 (And.intro h40 h42))))))))
       ·rw [if_neg (ne_true h40)] at hM
        refine spQA (And.intro he4 h40) ?_
        have nh40 := nzQ h40
        try have hr54 := mpQ nh40
        refine condC_intro (fun h55 => ?_) (fun h55 => ?_)
        ·rw [if_pos h55] at hM
         refine spQA (And.intro he4 h55) ?_
         have nh55 := nzQ h55
         try have hr56 := mpQ nh55
         subst hM
         exact retC_view (lfQA (And.intro he4 (And.intro h1 (And.intro h31 (And.intro h33 (And.intro h35 (And.intro h37 (And.intro h40 h55))))))))
        ·rw [if_neg (ne_true h55)] at hM
         refine spQA (And.intro he4 h55) ?_
         have nh55 := nzQ h55
         try have hr57 := mpQ nh55
         refine condC_intro (fun h58 => ?_) (fun h58 => ?_)
         ·rw [if_pos h58] at hM
          refine spQA (And.intro he4 h58) ?_
          have nh58 := nzQ h58
          try have hr59 := mpQ nh58
          refine ct_draw 119 9 [57, 58, 59, 60, 61, 62, 63, 64] [] ([[], [], [1], [1, 2], [1, 2, 3], [0, 1, 2, 3, 4], [], [6], [0, 1, 2, 3, 4, 5]] ++ [List.range 9, List.range 10]) [(8, 0)] (by kernel_rfl) (by exact alQ) ?_
          refine spQA he4 ?_
          refine hbindC_intro omQ ?_
          refine spQA he4 ?_
          have hM0 := hM; clear hM; obtain ⟨x60, hx61, hM⟩ := letk_opn hM0; clear hM0
          have hcx60 := cmU hx61
          refine hcallC_give hcx60 (clQA he4) (clQA he4) ?_
          refine spQA he4 ?_
          have hq62 := value_fact hx61 (isB_sl (isB_sl hp2))
          replace hq62 := nzQ hq62
          have hF := (And.intro h1 (And.intro he4 (And.intro h31 (And.intro h33 (And.intro h35 (And.intro h37 (And.intro h40 (And.intro h55 h58))))))))
          exact auQ
         ·rw [if_neg (ne_true h58)] at hM
          refine spQA (And.intro he4 h58) ?_
          have nh58 := nzQ h58
          try have hr63 := mpQ nh58
          exact cut_intro _ sbQ sbQ (hcut5 _ ⟨(), rfl, ⟨omQ, omQ, omQ, omQ⟩, hM⟩)
     ·rw [if_neg (ne_true h35)] at hM
      refine spQA (And.intro he4 h35) ?_
      have nh35 := nzQ h35
      try have hr64 := mpQ nh35
      refine guardC_t (fun h65 => ?_) (fun h65 => ?_)
      ·rw [if_pos h65] at hM
       refine spQA (And.intro he4 h65) ?_
       have nh65 := nzQ h65
       try have hr66 := mpQ nh65
       refine guardC_f (fun h67 => ?_) (fun h67 => ?_)
       ·rw [if_neg (ne_true h67)] at hM
        refine spQA (And.intro he4 h67) ?_
        have nh67 := nzQ h67
        try have hr68 := mpQ nh67
        refine condC_intro (fun h69 => ?_) (fun h69 => ?_)
        ·rw [if_pos h69] at hM
         refine spQA (And.intro he4 h69) ?_
         have nh69 := nzQ h69
         try have hr70 := mpQ nh69
         subst hM
         exact retC_view (lfQA (And.intro he4 (And.intro h1 (And.intro h31 (And.intro h33 (And.intro h35 (And.intro h65 (And.intro h67 h69))))))))
        ·rw [if_neg (ne_true h69)] at hM
         refine spQA (And.intro he4 h69) ?_
         have nh69 := nzQ h69
         try have hr71 := mpQ nh69
         refine condC_intro (fun h72 => ?_) (fun h72 => ?_)
         ·rw [if_pos h72] at hM
          refine spQA (And.intro he4 h72) ?_
          have nh72 := nzQ h72
          try have hr73 := mpQ nh72
          refine ct_draw 119 9 [57, 58, 59, 60, 61, 62, 63, 64] [] ([[], [], [1], [1, 2], [1, 2, 3], [0, 1, 2, 3, 4], [], [6], [0, 1, 2, 3, 4, 5]] ++ [List.range 9, List.range 10]) [(8, 0)] (by kernel_rfl) (by exact alQ) ?_
          refine spQA he4 ?_
          refine hbindC_intro omQ ?_
          refine spQA he4 ?_
          have hM0 := hM; clear hM; obtain ⟨x74, hx75, hM⟩ := letk_opn hM0; clear hM0
          have hcx74 := cmU hx75
          refine hcallC_give hcx74 (clQA he4) (clQA he4) ?_
          refine spQA he4 ?_
          have hq76 := value_fact hx75 (isB_sl (isB_sl hp2))
          replace hq76 := nzQ hq76
          have hF := (And.intro h1 (And.intro he4 (And.intro h31 (And.intro h33 (And.intro h35 (And.intro h65 (And.intro h67 (And.intro h69 h72))))))))
          exact auQ
         ·rw [if_neg (ne_true h72)] at hM
          refine spQA (And.intro he4 h72) ?_
          have nh72 := nzQ h72
          try have hr77 := mpQ nh72
          exact cut_intro _ sbQ sbQ (hcut5 _ ⟨(), rfl, ⟨omQ, omQ, omQ, omQ⟩, hM⟩)
       ·rw [if_pos h67] at hM
        refine spQA (And.intro he4 h67) ?_
        have nh67 := nzQ h67
        try have hr78 := mpQ nh67
        subst hM
        exact retC_view (lfQA (And.intro he4 (And.intro h1 (And.intro h31 (And.intro h33 (And.intro h35 (And.intro h65 h67)))))))
      ·rw [if_neg (ne_true h65)] at hM
       refine spQA (And.intro he4 h65) ?_
       have nh65 := nzQ h65
       try have hr79 := mpQ nh65
       refine condC_intro (fun h80 => ?_) (fun h80 => ?_)
       ·rw [if_pos h80] at hM
        refine spQA (And.intro he4 h80) ?_
        have nh80 := nzQ h80
        try have hr81 := mpQ nh80
        subst hM
        exact retC_view (lfQA (And.intro he4 (And.intro h1 (And.intro h31 (And.intro h33 (And.intro h35 (And.intro h65 h80)))))))
       ·rw [if_neg (ne_true h80)] at hM
        refine spQA (And.intro he4 h80) ?_
        have nh80 := nzQ h80
        try have hr82 := mpQ nh80
        refine condC_intro (fun h83 => ?_) (fun h83 => ?_)
        ·rw [if_pos h83] at hM
         refine spQA (And.intro he4 h83) ?_
         have nh83 := nzQ h83
         try have hr84 := mpQ nh83
         refine ct_draw 119 9 [57, 58, 59, 60, 61, 62, 63, 64] [] ([[], [], [1], [1, 2], [1, 2, 3], [0, 1, 2, 3, 4], [], [6], [0, 1, 2, 3, 4, 5]] ++ [List.range 9, List.range 10]) [(8, 0)] (by kernel_rfl) (by exact alQ) ?_
         refine spQA he4 ?_
         refine hbindC_intro omQ ?_
         refine spQA he4 ?_
         have hM0 := hM; clear hM; obtain ⟨x85, hx86, hM⟩ := letk_opn hM0; clear hM0
         have hcx85 := cmU hx86
         refine hcallC_give hcx85 (clQA he4) (clQA he4) ?_
         refine spQA he4 ?_
         have hq87 := value_fact hx86 (isB_sl (isB_sl hp2))
         replace hq87 := nzQ hq87
         have hF := (And.intro h1 (And.intro he4 (And.intro h31 (And.intro h33 (And.intro h35 (And.intro h65 (And.intro h80 h83)))))))
         exact auQ
        ·rw [if_neg (ne_true h83)] at hM
         refine spQA (And.intro he4 h83) ?_
         have nh83 := nzQ h83
         try have hr88 := mpQ nh83
         exact cut_intro _ sbQ sbQ (hcut5 _ ⟨(), rfl, ⟨omQ, omQ, omQ, omQ⟩, hM⟩)
    ·rw [if_pos h33] at hM
     refine spQA (And.intro he4 h33) ?_
     have nh33 := nzQ h33
     try have hr89 := mpQ nh33
     subst hM
     exact retC_view (lfQA (And.intro he4 (And.intro h1 (And.intro h31 h33))))
   ·rw [if_pos h31] at hM
    refine spQA (And.intro he4 h31) ?_
    have nh31 := nzQ h31
    try have hr90 := mpQ nh31
    subst hM
    exact retC_view (lfQA (And.intro he4 (And.intro h1 h31)))
end Go.Proofs.YtcbdmoihobdjaaaDoor
namespace Go.Proofs.YtcbdmoihobdjaaaDoor
open Go.RowKit
end Go.Proofs.YtcbdmoihobdjaaaDoor
namespace Go.Proofs.YtcbdmoihobdjaaaDoor
open Go.RowKit
end Go.Proofs.YtcbdmoihobdjaaaDoor
namespace Go.Proofs.YtcbdmoihobdjaaaDoor
open Go.RowKit
end Go.Proofs.YtcbdmoihobdjaaaDoor
namespace Go.Proofs.YtcbdmoihobdjaaaDoor
open Go.RowKit
theorem arr_range (h : List Int) : arrN 32 h = (List.range 32).map fun k : Nat => gt h (k : Int) := by kernel_rfl
end Go.Proofs.YtcbdmoihobdjaaaDoor
namespace Go.Proofs.YtcbdmoihobdjaaaDoor
open Go.RowKit
theorem coin_awake : specielaw31_awake = true := by decide +kernel
theorem u8N_inj {a b : Int} (ha : 0 ≤ a ∧ a ≤ 255) (hb : 0 ≤ b ∧ b ≤ 255) (h : u8N a = u8N b) : a = b := by
 have h1 : (u8N a).toNat = (u8N b).toNat := by rw [h]
 have e : ∀ x : Int, 0 ≤ x ∧ x ≤ 255 → (u8N x).toNat = x.toNat := by
  intro x hx
  unfold u8N
  rw [UInt8.toNat_ofNat']
  omega
 rw [e a ha, e b hb] at h1
 omega
theorem map_u8N : ∀ {x y : List Int}, isB x → isB y → x.map u8N = y.map u8N → x = y
 | [], [], _, _, _ => rfl
 | [], b :: y, _, _, h => by simp at h
 | a :: x, [], _, _, h => by simp at h
 | a :: x, b :: y, hx, hy, h => by
  simp only [List.map_cons, List.cons.injEq] at h
  rw [u8N_inj (hx a (by simp)) (hy b (by simp)) h.1, map_u8N (fun z hz => hx z (by simp [hz])) (fun z hz => hy z (by simp [hz])) h.2]
mutual
theorem sameM_eq : ∀ {a b : S_api_Item}, okI a → okI b → sameM a b = true → a = b
 | ⟨k, n, x, l⟩, ⟨k', n', x', l'⟩, ha, hb, h => by
  simp only [sameM, Bool.and_eq_true, beq_iff_eq] at h
  simp only [okI] at ha hb
  obtain ⟨h1, h2, h3, h4⟩ := h
  rw [h1, h2, map_u8N ha.2.1 hb.2.1 h3, sameL_eq ha.2.2.2 hb.2.2.2 h4]
theorem sameL_eq : ∀ {l m : List S_api_Item}, okL l → okL m → sameL l m = true → l = m
 | [], [], _, _, _ => rfl
 | [], y :: m, _, _, h => by simp [sameL] at h
 | x :: l, [], _, _, h => by simp [sameL] at h
 | x :: l, y :: m, ha, hb, h => by
  simp only [sameL, Bool.and_eq_true] at h
  simp only [okL] at ha hb
  rw [sameM_eq ha.1 hb.1 h.1, sameL_eq ha.2 hb.2 h.2]
end
mutual
theorem sameM_refl : ∀ (a : S_api_Item), sameM a a = true
 | ⟨k, n, x, l⟩ => by simp [sameM, sameL_refl l]
theorem sameL_refl : ∀ (l : List S_api_Item), sameL l l = true
 | [] => by simp [sameL]
 | x :: l => by simp [sameL, sameM_refl x, sameL_refl l]
end
theorem within_coin (c : S_api_Coin) : withinM (coinI c) 8 = true := by
 simp [coinI, listI, intsI, intI, bytI, withinM, withinL]
theorem arr_gt {x y : List Int} (h : arrN 32 x = arrN 32 y) : ∀ i : Int, 0 ≤ i → i.toNat < 32 → gt x i = gt y i := fun i h0 h1 => by
 rw [← gt_arrN h0 h1, h, gt_arrN h0 h1]
theorem foldr_and {p : Nat → Bool} {R : Bool} : ∀ l : List Nat, l.foldr (fun k b => p k && b) R = (l.all p && R)
 | [] => rfl
 | a :: l => by rw [List.foldr_cons, foldr_and l, List.all_cons, Bool.and_assoc]
theorem q_coin_fold (c d : S_api_Coin) : q_api_Coin c d = (c.Bank == d.Bank && (c.Epoch == d.Epoch && (c.Denom == d.Denom && (c.Depth == d.Depth && (c.A == d.A && (List.range 32).foldr (fun (k : Nat) b => (gt c.Root (k : Int) == gt d.Root (k : Int)) && b) (c.Sign.Z == d.Sign.Z && (c.Sign.A == d.Sign.A && (c.Sign.B == d.Sign.B && c.Sign.R == d.Sign.R)))))))) := by kernel_rfl
theorem arr_all (x y : List Int) : ((List.range 32).all fun k : Nat => gt x (k : Int) == gt y (k : Int)) = true ↔ arrN 32 x = arrN 32 y := by
 rw [List.all_eq_true]
 constructor
 ·intro h
  rw [arr_range, arr_range]
  exact List.map_congr_left fun k hk => by simpa using h k hk
 ·intro h k hk
  have hk' := List.mem_range.1 hk
  have := arr_gt h (k : Int) (by omega) (by omega)
  simpa using this
theorem q_coin_iff (c d : S_api_Coin) : q_api_Coin c d = true ↔ coinI c = coinI d := by
 rw [q_coin_fold, foldr_and]
 simp only [Bool.and_eq_true, beq_iff_eq, arr_all]
 simp only [coinI, listI, intsI, intI, bytI, S_api_Item.mk.injEq, List.cons.injEq, List.map_cons, List.map_nil, true_and, and_true, and_assoc]
theorem q_arr_refl (x : List Int) : q_arr23 x x = true := by simp [q_arr23]
theorem same_coinI {c d : S_api_Coin} (hc : wfV (e_api_Coin c)) (hd : wfV (e_api_Coin d)) : sameM (coinI c) (coinI d) = q_api_Coin c d := by
 rw [Bool.eq_iff_iff, q_coin_iff]
 exact ⟨fun h => sameM_eq (ok_coin hc) (ok_coin hd) h, fun h => by rw [h]; exact sameM_refl _⟩
theorem same_coin' (c : S_api_Coin) : q_api_Coin (normC c) c = true := by
 rw [q_coin_iff]
 simp only [coinI, normC, arrN_arrN]
theorem specielaw31_CoinBack_true (c d : S_api_Coin) (hw : wfL [e_api_Coin c, e_api_Coin d]) : specielaw31_CoinBack c d = true := by
 simp only [wfL] at hw
 have hs := same_coinI hw.1 hw.2.1
 unfold specielaw31_CoinBack
 refine letk_go fun x1 h1 => ?_
 rw [coin_awake] at h1
 rw [if_neg (by rw [h1]; decide)]
 refine letk_go fun x7 h7 => ?_
 rw [coinItem_eq] at h7
 refine letk_go fun x10 h10 => ?_
 rw [h7, coin_fwd (within_coin c)] at h10
 rw [if_pos (by rw [h10]; exact beq_self_eq_true (0 : Int)), if_pos (by rw [h10]; exact same_coin' c)]
 refine letk_go fun x17 h17 => ?_
 refine letk_go fun x19 h19 => ?_
 refine letk_go fun x21 h21 => ?_
 rw [h17, h19, coinItem_eq, coinItem_eq, hs] at h21
 rw [if_pos (by rw [h21]; exact beq_self_eq_true _)]
 by_cases hq : q_api_Coin c d = true
 ·rw [if_neg (by rw [hq]; decide)]
  have e : coin_Digest c = coin_Digest d := by
   unfold coin_Digest
   rw [coinItem_eq, coinItem_eq, (q_coin_iff c d).1 hq]
  refine letk_go fun x27 h27 => ?_
  refine letk_go fun x29 h29 => ?_
  rw [h27, h29, e]
  exact q_arr_refl _
 ·rw [if_pos (by rw [Bool.eq_false_iff.2 hq]; decide)]
end Go.Proofs.YtcbdmoihobdjaaaDoor
