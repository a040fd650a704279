/- Texts of this proof, one after the other: EG, U3, U4, U5, S1, S2. -/
import Derived.Test.YtjnikknlcmbcmaaGreatDoorZ7
import Derived.Lib.AppendZeros
import Derived.Test.YtjnikknlcmbcmaaGreatDoorZ6
set_option linter.unusedVariables false
set_option linter.unusedSimpArgs false
namespace Go.Proofs.YtjnikknlcmbcmaaGreatDoor
open Go.RowKit
set_option linter.unusedVariables false
set_option linter.unusedSimpArgs false
theorem grow_nil {n : Int} {x : List Int} (h : x = slices_Grow_byte_byte [] n) : x.length = 0 := by subst h; rfl
theorem u8_info : ∃ i : TypeInfo, Tryz.prog.info? 5 = some i ∧ i.zero = some (.int .u8 0) ∧ i.size = 1 ∧ i.bytes = 1 := by
 have h : (Tryz.prog.info? 5).map (fun i => (i.zero, i.size, i.bytes)) = some (some (.int .u8 0), 1, 1) := by kernel_rfl
 cases hi : Tryz.prog.info? 5 with
 | none => rw [hi] at h; cases h
 | some i =>
  rw [hi] at h
  simp only [Option.map_some, Option.some.injEq, Prod.mk.injEq] at h
  exact ⟨i, rfl, h.1, h.2.1, h.2.2⟩
set_option maxHeartbeats 4000000 in
set_option maxRecDepth 100000 in
theorem grow_run (n : Nat) (hn : 0 < n) (h9 : n ≤ 100000000) (w : World) : Calls Tryz.prog 262 #[.slice none 0 0, .int .i64 (n : Int)] w fun e w' =>
  e = .returned (.slice (some ⟨w.heap.size, 0, none⟩) 0 (grownCap w n 0 5)) ∧ w' = w.drew.alloc (.cells (Builtin.zeroCells (Value.int .u8 0).cells n ++ Builtin.zeroCells (Value.int .u8 0).cells (grownCap w n 0 5 - n)) 5) := by
 obtain ⟨i, hi, hz, hs, hb⟩ := u8_info
 have hap := fun ty => Lib.run_append_nil_zeros (P := Tryz.prog) w 87 3 ty 5 i (.int .u8 0) .i64 .i64 Tryz.underlying87 Tryz.underlying3 hi hz n hn (by omega) (by omega) (by rw [hb]; omega)
 have hge := grownCap_ge w n 0 5
 have hq1 : ¬ ((n : Int) < 0) := by omega
 have hq2 : (0 : Int) < (n : Int) := by omega
 go_enter Tryz.func262, Tryz.ntmps262
 have hb5 : Tryz.t5.bytes = 1 := by kernel_rfl
 have hns : Builtin.nextslicecap n 0 = n := by unfold Builtin.nextslicecap; simp; omega
 go_wp2
 all_goals first | (exfalso; rw [hb5] at *; omega) | (exfalso; omega) | skip
 refine ⟨rfl, _, results_tmp rfl _ _ _, ?_, ?_⟩
 ·rfl
 ·rfl
set_option maxHeartbeats 4000000 in
set_option maxRecDepth 100000 in
theorem grow_run0 (w : World) : Calls Tryz.prog 262 #[.slice none 0 0, .int .i64 0] w fun e w' =>
  e = .returned (.slice none 0 0) ∧ w' = w := by
 go_enter Tryz.func262, Tryz.ntmps262
 go_wp2
 exact ⟨rfl, _, results_tmp rfl _ _ _, rfl, rfl⟩
theorem slices_Grow_byte_byte_ok (z0 : Option Bool) (a0 : List Int) (a1 : Int) (hp0 : z0 = some true) (hp1 : a0 = []) (hp2 : 0 ≤ a1) (hp3 : a1 ≤ 100000000) : CallOk En 262 [.sl z0 1 false (a0.map (V.int .u8)), .int .i64 a1] (.own 0) [.own 5 1 false none ((slices_Grow_byte_byte a0 a1).map (V.int .u8))] := by
 subst hp0 hp1
 refine ⟨show ∀ xs w, (callFunc 262 xs).run En.P w = .ok (.enter 262 xs) w from enters_of Tryz.func262 (by kernel_rfl) rfl, fun c us _ hg hus => ?_⟩
 simp only [rdT] at hus
 obtain ⟨u0, c0, rfl, h0, u1, c1, rfl, h1, rfl⟩ := hus
 simp only [rd, List.map_nil, List.length_nil] at h0 h1
 obtain ⟨a, cap, rfl, _, ⟨rfl, rfl⟩, _⟩ := h0
 obtain ⟨rfl, _⟩ := h1
 show Calls Tryz.prog _ _ _ _
 obtain ⟨n, rfl⟩ : ∃ n : Nat, a1 = n := ⟨a1.toNat, by omega⟩
 by_cases h9 : n = 0
 ·subst h9
  refine (grow_run0 c.w).mono ?_
  rintro e w' ⟨rfl, rfl⟩
  refine ⟨_, c, fun i => if i = 0 then some (.slice none 0 0) else none, rfl, rfl, Cx.le.refl c, ⟨rfl, rfl⟩, ?_, fun i hi => ?_, fun i j bi bj k hij hi hj => ?_⟩
  ·intro i b hb
   match i, hb with
   | 0, hb =>
    simp only [List.getElem?_cons_zero, Option.some.injEq] at hb
    subst hb
    exact ⟨⟨_, _, _, _, _, rfl⟩, _, rfl, Own.nil, fun k hk => (by cases hk), fun _ => rfl, _, _, rfl, fun _ => rfl⟩
  ·exact if_neg (by simp only [List.length_cons, List.length_nil] at hi; omega)
  ·have : i = 0 := by
    have := (List.getElem?_eq_some_iff.1 hi).1
    simp at this; exact this
   have : j = 0 := by
    have := (List.getElem?_eq_some_iff.1 hj).1
    simp at this; exact this
   omega
 ·refine (grow_run n (by omega) (by omega) c.w).mono ?_
  rintro e w' ⟨rfl, rfl⟩
  have hge := grownCap_ge c.w n 0 5
  have hcm : grownCap c.w n 0 5 ≤ maxLen := grownCap_le_maxLen c.w _ 0 5 (by unfold maxLen; omega)
  obtain ⟨c', h1, h2, h3, h4⟩ := own_new c 5 (rV ro0 1 false) [] [] (Builtin.zeroCells (Value.int .u8 0).cells n ++ Builtin.zeroCells (Value.int .u8 0).cells (grownCap c.w n 0 5 - n)) (grownCap c.w n 0 5) (by omega) (Nat.zero_le _) hcm (Nat.zero_le _)
   rfl (by rw [Array.size_append, size_zeroCells, size_zeroCells]; show n * 1 + (grownCap c.w n 0 5 - n) * 1 = (grownCap c.w n 0 5 - 0) * 1; omega) c.w.drew ⟨rfl, rfl, rfl, rfl⟩
  refine ⟨_, c', fun i => if i = 0 then some (.slice (some ⟨c.w.heap.size, 0, none⟩) 0 (grownCap c.w n 0 5)) else none, rfl, by rw [h1]; simp, h2, ⟨rfl, rfl⟩, ?_, fun i hi => ?_, fun i j bi bj k hij hi hj => ?_⟩
  ·intro i b hb
   match i, hb with
   | 0, hb =>
    simp only [List.getElem?_cons_zero, Option.some.injEq] at hb
    subst hb
    refine ⟨⟨_, _, _, _, _, rfl⟩, _, rfl, h3, fun k hk => ?_, fun _ => rfl, _, _, rfl, fun h => (by cases h)⟩
    obtain rfl := blk_new hk
    exact .inl (Nat.le_refl _)
  ·exact if_neg (by simp only [List.length_cons, List.length_nil] at hi; omega)
  ·have : i = 0 := by
    have := (List.getElem?_eq_some_iff.1 hi).1
    simp at this; exact this
   have : j = 0 := by
    have := (List.getElem?_eq_some_iff.1 hj).1
    simp at this; exact this
   omega
end Go.Proofs.YtjnikknlcmbcmaaGreatDoor
namespace Go.Proofs.YtjnikknlcmbcmaaGreatDoor
open Go.RowKit
set_option linter.unusedSimpArgs false
set_option maxHeartbeats 2000000 in
set_option maxRecDepth 100000 in
theorem slices_Concat_byte_byte_ok   (slices : (List (List Int))) (hp0 : slices.length ≤ 2) (hp1 : ∀ j : Int, (gt slices j).length ≤ 32) : CM En (slices_Concat_byte_byte slices) 220 [.sl none 1 false (slices.map (fun (l : List Int) => V.sl none 1 false (l.map (V.int .u8))))] (fun _ => .own 0) (fun y => [.own 5 1 false none (y.map (V.int .u8))]) := by
 refine cmQ fun r hM => ?_
 rw [slices_Concat_byte_byte.eq_1] at hM
 refine enterV En_ok En_mo noJ Tryz.func220 rfl Tryz.ntmps220 (by kernel_rfl) fun hw => ct_start ?_
 refine spQ ?_
 replace hw := nzQ hw
 have hM0 := hM; clear hM; obtain ⟨f1, d1, hf1, hd1, hM⟩ := iter_opn hM0; clear hM0
 refine ct_loop (fun n S => ∃ p : Int × Int, S = (⟨[(0, .sl none 1 false (slices.map (fun (l : List Int) => V.sl none 1 false (l.map (V.int .u8))))), (3, .int .i64 p.1), (9, .sl none 1 false (slices.map (fun (l : List Int) => V.sl none 1 false (l.map (V.int .u8))))), (10, .int .i64 (slices.length : Int)), (11, .int .i64 p.2)], [], 0⟩ : St) ∧ ((0 ≤ p.2) ∧ (p.2 ≤ (slices.length : Int)) ∧ (0 ≤ p.1) ∧ (p.1 ≤ 32 * p.2)) ∧ ((slices.length : Int) - p.2).toNat < n ∧ iter n f1 d1 p = r) (((slices.length : Int) - 0).toNat + 1) _ sbQ sbQ ⟨(0, 0), rfl, ⟨by (first | exact omQ | (clear hM; first | (have h9 := hp1 p1.2; exact omQ') | (have h9 := hp1 p13.1; exact omQ') | (have h9 := hp1 p14.1; exact omQ'))), by (first | exact omQ | (clear hM; first | (have h9 := hp1 p1.2; exact omQ') | (have h9 := hp1 p13.1; exact omQ') | (have h9 := hp1 p14.1; exact omQ'))), by (first | exact omQ | (clear hM; first | (have h9 := hp1 p1.2; exact omQ') | (have h9 := hp1 p13.1; exact omQ') | (have h9 := hp1 p14.1; exact omQ'))), by (first | exact omQ | (clear hM; first | (have h9 := hp1 p1.2; exact omQ') | (have h9 := hp1 p13.1; exact omQ') | (have h9 := hp1 p14.1; exact omQ')))⟩, (Nat.lt_succ_self _), hM⟩ ?_
 clear hM
 rintro n1 S ⟨p1, rfl, hfa1, hm1, hM⟩
 have hM0 := hM; clear hM; obtain ⟨ag1, hag1, hM⟩ := iter_step hM0 (by omega) hf1; clear hM0
 replace hfa1 := nzQ hfa1
 replace hm1 := nzQ hm1
 have ha1 : addI .i64 p1.2 1 = p1.2 + 1 := add_one (by (first | exact omQ | (clear hM; first | (have h9 := hp1 p1.2; exact omQ') | (have h9 := hp1 p13.1; exact omQ') | (have h9 := hp1 p14.1; exact omQ')))) (by (first | exact omQ | (clear hM; first | (have h9 := hp1 p1.2; exact omQ') | (have h9 := hp1 p13.1; exact omQ') | (have h9 := hp1 p14.1; exact omQ'))))
 refine spQA ha1 ?_
 refine condC_intro (fun h2 => ?_) (fun h2 => ?_)
 ·rw [if_pos h2] at hM
  refine spQA (And.intro ha1 h2) ?_
  have nh2 := nzQ h2
  try have hr3 := mpQ nh2
  refine bindC_intro (by (first | exact omQ | (clear hM; first | (have h9 := hp1 p1.2; exact omQ') | (have h9 := hp1 p13.1; exact omQ') | (have h9 := hp1 p14.1; exact omQ')))) ?_
  have he4 := fun d => elt_mp (l := slices) (f := (fun (l : List Int) => V.sl none 1 false (l.map (V.int .u8)))) (i := p1.2) (by (first | exact omQ | (clear hM; first | (have h9 := hp1 p1.2; exact omQ') | (have h9 := hp1 p13.1; exact omQ') | (have h9 := hp1 p14.1; exact omQ')))) d
  refine spQA (And.intro ha1 he4) ?_
  have ha5 : addI .i64 p1.1 ((gt slices p1.2).length : Int) = (p1.1 + ((gt slices p1.2).length : Int)) := add_ok (by (first | exact omQ | (clear hM; first | (have h9 := hp1 p1.2; exact omQ') | (have h9 := hp1 p13.1; exact omQ') | (have h9 := hp1 p14.1; exact omQ')))) (by (first | exact omQ | (clear hM; first | (have h9 := hp1 p1.2; exact omQ') | (have h9 := hp1 p13.1; exact omQ') | (have h9 := hp1 p14.1; exact omQ'))))
  try simp only [ha5]
  refine condC_intro (fun h6 => ?_) (fun h6 => ?_)
  ·rw [if_pos h6] at hM
   refine spQA (And.intro ha1 (And.intro he4 (And.intro ha5 h6))) ?_
   have nh6 := nzQ h6
   try have hr7 := mpQ nh6
   exact False.elim (by (first | exact omQ | (clear hM; first | (have h9 := hp1 p1.2; exact omQ') | (have h9 := hp1 p13.1; exact omQ') | (have h9 := hp1 p14.1; exact omQ'))))
  ·rw [if_neg (ne_true h6)] at hM
   refine spQA (And.intro ha1 (And.intro he4 (And.intro ha5 h6))) ?_
   have nh6 := nzQ h6
   try have hr8 := mpQ nh6
   refine lp_intro (n1 - 1) _ (by omega) sbQ sbQ ⟨((p1.1 + ((gt slices p1.2).length : Int)), (p1.2 + 1)), rfl, ⟨by (first | exact omQ | (clear hM; first | (have h9 := hp1 p1.2; exact omQ') | (have h9 := hp1 p13.1; exact omQ') | (have h9 := hp1 p14.1; exact omQ'))), by (first | exact omQ | (clear hM; first | (have h9 := hp1 p1.2; exact omQ') | (have h9 := hp1 p13.1; exact omQ') | (have h9 := hp1 p14.1; exact omQ'))), by (first | exact omQ | (clear hM; first | (have h9 := hp1 p1.2; exact omQ') | (have h9 := hp1 p13.1; exact omQ') | (have h9 := hp1 p14.1; exact omQ'))), by (first | exact omQ | (clear hM; first | (have h9 := hp1 p1.2; exact omQ') | (have h9 := hp1 p13.1; exact omQ') | (have h9 := hp1 p14.1; exact omQ')))⟩, by (first | exact omQ | (clear hM; first | (have h9 := hp1 p1.2; exact omQ') | (have h9 := hp1 p13.1; exact omQ') | (have h9 := hp1 p14.1; exact omQ'))), iter_again hM hag1⟩
 ·rw [if_neg (ne_true h2)] at hM
  refine spQA (And.intro ha1 h2) ?_
  have nh2 := nzQ h2
  try have hr9 := mpQ nh2
  have hM0 := hM; clear hM; obtain ⟨x10, hx11, hM⟩ := letk_opn hM0; clear hM0
  have hcx10 := slices_Grow_byte_byte_ok (some true) ([] : List Int) (p1.1) (by (first | rfl | omega)) (by (first | rfl | omega)) (by (first | rfl | omega)) (by (first | rfl | omega))
  rw [← hx11] at hcx10
  refine callC_give hcx10 (clQA ha1) (clQA ha1) (fun hw12 => ?_)
  replace hw12 := nzQ hw12
  refine spQA ha1 ?_
  have hq13 := grow_nil hx11
  replace hq13 := nzQ hq13
  have hM0 := hM; clear hM; obtain ⟨f14, d14, hf14, hd14, hM⟩ := iter_opn hM0; clear hM0
  refine ct_loop (fun n S => ∃ p : Int × List Int, S = (⟨[(6, .own 0), (25, .sl none 1 false (slices.map (fun (l : List Int) => V.sl none 1 false (l.map (V.int .u8))))), (26, .int .i64 (slices.length : Int)), (27, .int .i64 p.1)], [(0, .own 5 1 false none (p.2.map (V.int .u8)))], 1⟩ : St) ∧ ((0 ≤ p.1) ∧ (p.1 ≤ (slices.length : Int)) ∧ (((p.2).length : Int) ≤ 32 * p.1)) ∧ ((slices.length : Int) - p.1).toNat < n ∧ iter n f14 d14 p = r) (((slices.length : Int) - 0).toNat + 1) _ sbQ sbQ ⟨(0, x10), rfl, ⟨by (first | exact omQ | (clear hM; first | (have h9 := hp1 p1.2; exact omQ') | (have h9 := hp1 p13.1; exact omQ') | (have h9 := hp1 p14.1; exact omQ'))), by (first | exact omQ | (clear hM; first | (have h9 := hp1 p1.2; exact omQ') | (have h9 := hp1 p13.1; exact omQ') | (have h9 := hp1 p14.1; exact omQ'))), by (first | exact omQ | (clear hM; first | (have h9 := hp1 p1.2; exact omQ') | (have h9 := hp1 p13.1; exact omQ') | (have h9 := hp1 p14.1; exact omQ')))⟩, (Nat.lt_succ_self _), hM⟩ ?_
  clear hM
  rintro n14 S ⟨p14, rfl, hfa14, hm14, hM⟩
  have hM0 := hM; clear hM; obtain ⟨ag14, hag14, hM⟩ := iter_step hM0 (by omega) hf14; clear hM0
  replace hfa14 := nzQ hfa14
  replace hm14 := nzQ hm14
  have ha14 : addI .i64 p14.1 1 = p14.1 + 1 := add_one (by (first | exact omQ | (clear hM; first | (have h9 := hp1 p1.2; exact omQ') | (have h9 := hp1 p13.1; exact omQ') | (have h9 := hp1 p14.1; exact omQ')))) (by (first | exact omQ | (clear hM; first | (have h9 := hp1 p1.2; exact omQ') | (have h9 := hp1 p13.1; exact omQ') | (have h9 := hp1 p14.1; exact omQ'))))
  refine spQA (And.intro ha1 ha14) ?_
  refine condC_intro (fun h15 => ?_) (fun h15 => ?_)
  ·rw [if_pos h15] at hM
   refine spQA (And.intro ha1 (And.intro ha14 h15)) ?_
   have nh15 := nzQ h15
   try have hr16 := mpQ nh15
   refine bindC_intro (by (first | exact omQ | (clear hM; first | (have h9 := hp1 p1.2; exact omQ') | (have h9 := hp1 p13.1; exact omQ') | (have h9 := hp1 p14.1; exact omQ')))) ?_
   have he17 := fun d => elt_mp (l := slices) (f := (fun (l : List Int) => V.sl none 1 false (l.map (V.int .u8)))) (i := p14.1) (by (first | exact omQ | (clear hM; first | (have h9 := hp1 p1.2; exact omQ') | (have h9 := hp1 p13.1; exact omQ') | (have h9 := hp1 p14.1; exact omQ')))) d
   refine spQA (And.intro ha1 (And.intro ha14 he17)) ?_
   refine bindC_intro (by (first | exact omQ | (clear hM; first | (have h9 := hp1 p1.2; exact omQ') | (have h9 := hp1 p13.1; exact omQ') | (have h9 := hp1 p14.1; exact omQ')))) ?_
   refine spQA (And.intro ha1 (And.intro ha14 he17)) ?_
   refine lp_intro (n14 - 1) _ (by omega) sbQ sbQ ⟨((p14.1 + 1), (p14.2 ++ (gt slices p14.1))), rfl, ⟨by (first | exact omQ | (clear hM; first | (have h9 := hp1 p1.2; exact omQ') | (have h9 := hp1 p13.1; exact omQ') | (have h9 := hp1 p14.1; exact omQ'))), by (first | exact omQ | (clear hM; first | (have h9 := hp1 p1.2; exact omQ') | (have h9 := hp1 p13.1; exact omQ') | (have h9 := hp1 p14.1; exact omQ'))), by (first | exact omQ | (clear hM; first | (have h9 := hp1 p1.2; exact omQ') | (have h9 := hp1 p13.1; exact omQ') | (have h9 := hp1 p14.1; exact omQ')))⟩, by (first | exact omQ | (clear hM; first | (have h9 := hp1 p1.2; exact omQ') | (have h9 := hp1 p13.1; exact omQ') | (have h9 := hp1 p14.1; exact omQ'))), iter_again hM hag14⟩
  ·rw [if_neg (ne_true h15)] at hM
   refine spQA (And.intro ha1 (And.intro ha14 h15)) ?_
   have nh15 := nzQ h15
   try have hr18 := mpQ nh15
   subst hM
   exact retC_owns [0] (bs := [.own 5 1 false none (p14.2.map (V.int .u8))]) (clQA (And.intro ha1 ha14)) (by decide) (lfQA (And.intro ha1 (And.intro ha14 (And.intro h2 h15))))
set_option maxHeartbeats 2000000 in
set_option maxRecDepth 100000 in
instance tree_inner_ok   (l : (List Int)) (r_ : (List Int))  : CM En (tree_inner l r_) 151 [(e_arr40 l), (e_arr40 r_)] (fun y => (e_arr40 y)) (fun _ => []) := by
 refine cmQ fun r hM => ?_
 rw [tree_inner.eq_1] at hM
 refine enterV En_ok En_mo [1] Tryz.func151 rfl Tryz.ntmps151 (by kernel_rfl) fun hw => ct_start ?_
 refine spQ ?_
 replace hw := nzQ hw
 refine seqC_pass ?_
 try refine spQ ?_
 refine cut_weakW _ (⟨[(2, .ptr 0 0), (3, .ptr 1 0), (4, .ptr 2 0)], [(0, .pvar 32 true ((e_arr40 l))), (1, .pvar 32 true ((e_arr40 r_))), (2, .var 32 true (zv_40))], 3⟩ : St) ((weak_pubv (S := ⟨_, _, _⟩) 0 (n := 32) (g := true) (d := (e_arr40 l)) clQ clQ).trans (weak_pubv (S := ⟨_, _, _⟩) 1 (n := 32) (g := true) (d := (e_arr40 r_)) clQ clQ)) sbQ sbQ ?_
 try refine spQ ?_
 refine ct_draw 16 10 [5, 7, 8, 9, 10, 11, 12, 13, 14] [] ([[], [], [0, 1], [0, 1, 2], [0, 1, 2, 3], [0, 1, 2, 3, 4], [0, 1, 2, 3, 4, 5], [0, 1, 2, 3, 4, 5], [], [0, 1, 2, 3, 4, 5, 6, 8]] ++ [List.range 10]) [(2, 5), (9, 11)] (by kernel_rfl) (by exact alQ) ?_
 refine spQ ?_
 have hM0 := hM; clear hM; obtain ⟨x1, hx2, hM⟩ := letk_opn hM0; clear hM0
 have hcx1 := CallOk.pub (cmH hx2 (slices_Concat_byte_byte_ok  ([(arrN 32 l), (arrN 32 r_)] : List (List Int)) (by (first | exact gt2_le (Nat.le_of_eq arrN_len) (Nat.le_of_eq arrN_len) | exact Nat.le_refl _)) (by (first | exact gt2_le (Nat.le_of_eq arrN_len) (Nat.le_of_eq arrN_len) | exact Nat.le_refl _))))
 refine hcallC_give hcx1 clQ clQ ?_
 refine spQ ?_
 have hq3 := concat_len hx2 (Nat.le_of_eq arrN_len) (Nat.le_of_eq arrN_len)
 replace hq3 := nzQ hq3
 have hM0 := hM; clear hM; obtain ⟨x4, hx5, hM⟩ := letk_opn hM0; clear hM0
 have hcx4 := cmH hx5 (digest_Tagged_ok  ([115, 112, 101, 99, 105, 101, 47, 110, 111, 100, 101]) x1 (by (omega)))
 refine hcallC_give hcx4 clQ clQ ?_
 refine spQ ?_
 subst hM
 exact retC_view lfQ
set_option maxHeartbeats 2000000 in
set_option maxRecDepth 100000 in
theorem slices_Reverse_api_Hash_api_Hash_ok  (z0 : Option Bool) (s : (List (List (List Int))))  : InPlace En 219 36 1 false z0 (s.map (fun (l : List (List Int)) => V.sl none 32 true (l.map e_arr40))) ((slices_Reverse_api_Hash_api_Hash s).map (fun (l : List (List Int)) => V.sl none 32 true (l.map e_arr40))) := by
 generalize hM : slices_Reverse_api_Hash_api_Hash s = r
 rw [slices_Reverse_api_Hash_api_Hash.eq_1] at hM
 refine enterAt En_ok En_mo noJ Tryz.func219 rfl Tryz.ntmps219 (by kernel_rfl) fun hw0 hw => ct_start ?_
 simp only [HOFF]
 replace hw0 := nzQ hw0
 refine spQ ?_
 replace hw := nzQ hw
 have ha1 : subI .i64 (s.length : Int) 1 = ((s.length : Int) - 1) := sub_ok omQ omQ
 try simp only [ha1]
 have hM0 := hM; clear hM; obtain ⟨f2, d2, hf2, hd2, hM⟩ := iter_opn hM0; clear hM0
 refine ct_loop (fun n S => ∃ p : Int × Int × List (List (List Int)), S = (⟨[(0, .own 0), (2, .int .i64 p.1), (3, .int .i64 p.2.1), (100000, .own 0)], [(0, .own 36 1 false none (p.2.2.map (fun (l : List (List Int)) => V.sl none 32 true (l.map e_arr40))))], 1⟩ : St) ∧ ((0 ≤ p.1) ∧ (p.1 ≤ (s.length : Int)) ∧ (-1 ≤ p.2.1) ∧ (p.2.1 < (s.length : Int)) ∧ ((p.2.2).length = (s).length)) ∧ (p.2.1 - p.1).toNat < n ∧ iter n f2 d2 p = r) ((((s.length : Int) - 1) - 0).toNat + 1) _ sbQ sbQ ⟨(0, ((s.length : Int) - 1), s), rfl, ⟨omQ, omQ, omQ, omQ, omQ⟩, (Nat.lt_succ_self _), hM⟩ ?_
 clear hM
 rintro n2 S ⟨p2, rfl, hfa2, hm2, hM⟩
 have hM0 := hM; clear hM; obtain ⟨ag2, hag2, hM⟩ := iter_step hM0 (by omega) hf2; clear hM0
 replace hfa2 := nzQ hfa2
 replace hm2 := nzQ hm2
 have ha2 : addI .i64 p2.1 1 = p2.1 + 1 := add_one omQ omQ
 refine spQA (And.intro ha1 ha2) ?_
 refine condC_intro (fun h3 => ?_) (fun h3 => ?_)
 ·rw [if_pos h3] at hM
  refine spQA (And.intro ha1 (And.intro ha2 h3)) ?_
  have nh3 := nzQ h3
  try have hr4 := mpQ nh3
  refine ct_draw 28 14 [14, 15, 16, 17, 18, 19, 20, 21, 22, 23, 24, 25, 26] [] ([[], [], [], [], [], [], [4, 5], [4, 5, 6], [], [], [8, 9], [8, 9, 10], [0, 1], [0, 1, 4, 5, 6, 7, 8, 9, 10, 11, 12]] ++ [List.range 14, List.range 15]) [(13, 0)] (by kernel_rfl) (by exact alQ) ?_
  refine spQA (And.intro ha1 ha2) ?_
  refine hbindC_intro omQ ?_
  have he5 := fun d => elt_mp (l := p2.2.2) (f := (fun (l : List (List Int)) => V.sl none 32 true (l.map e_arr40))) (i := p2.2.1) omQ d
  refine spQA (And.intro ha1 (And.intro ha2 he5)) ?_
  refine hbindC_intro omQ ?_
  refine spQA (And.intro ha1 (And.intro ha2 he5)) ?_
  refine hbindC_intro omQ ?_
  have he6 := fun d => elt_mp (l := p2.2.2) (f := (fun (l : List (List Int)) => V.sl none 32 true (l.map e_arr40))) (i := p2.1) omQ d
  refine spQA (And.intro ha1 (And.intro ha2 (And.intro he5 he6))) ?_
  refine hbindC_intro omQ ?_
  refine spQA (And.intro ha1 (And.intro ha2 (And.intro he5 he6))) ?_
  refine hbindC_intro omQ ?_
  refine spQA (And.intro ha1 (And.intro ha2 (And.intro he5 he6))) ?_
  refine hbindC_introU omQ clQ ?_
  refine spQA (And.intro ha1 (And.intro ha2 (And.intro he5 he6))) ?_
  refine bindC_intro omQ ?_
  have he7 := fun d => elt_mp (l := (st p2.2.2 p2.1 (gt p2.2.2 p2.2.1))) (f := (fun (l : List (List Int)) => V.sl none 32 true (l.map e_arr40))) (i := p2.2.1) omQ d
  refine spQA (And.intro ha1 (And.intro ha2 (And.intro he5 (And.intro he6 he7)))) ?_
  refine bindC_intro omQ ?_
  refine spQA (And.intro ha1 (And.intro ha2 (And.intro he5 (And.intro he6 he7)))) ?_
  have ha8 : subI .i64 p2.2.1 1 = (p2.2.1 - 1) := sub_ok omQ omQ
  try simp only [ha8]
  refine lp_intro (n2 - 1) _ (by omega) sbQ sbQ ⟨((p2.1 + 1), (p2.2.1 - 1), (st (st p2.2.2 p2.1 (gt p2.2.2 p2.2.1)) p2.2.1 (gt p2.2.2 p2.1))), rfl, ⟨omQ, omQ, omQ, omQ, omQ⟩, omQ, iter_again hM hag2⟩
 ·rw [if_neg (ne_true h3)] at hM
  refine spQA (And.intro ha1 (And.intro ha2 h3)) ?_
  have nh3 := nzQ h3
  try have hr9 := mpQ nh3
  subst hM
  first | exact at_end (by simp) rfl rfl (lfQA (And.intro ha1 (And.intro ha2 h3))) | exact ct_finN (at_end (by simp) rfl rfl (lfQA (And.intro ha1 (And.intro ha2 h3))))
set_option maxHeartbeats 2000000 in
set_option maxRecDepth 100000 in
theorem tree_levels_ok   (l : (List (List Int))) (hp0 : lenOk l) : CM En (tree_levels l) 150 [.sl none 32 true (l.map e_arr40)] (fun y => .sl none 1 false (y.map (fun (l : List (List Int)) => V.sl none 32 true (l.map e_arr40)))) (fun _ => []) := by
 refine cmQ fun r hM => ?_
 rw [tree_levels.eq_1] at hM
 refine enterV En_ok En_mo [7] Tryz.func150 rfl Tryz.ntmps150 (by kernel_rfl) fun hw => ct_start ?_
 refine spQ ?_
 replace hw := nzQ hw
 have hM0 := hM; clear hM; obtain ⟨f1, d1, hf1, hd1, hM⟩ := iter_opn hM0; clear hM0
 refine ct_loop (fun n S => ∃ p : List (List Int) × List (List (List Int)), S = (⟨[(0, .sl none 32 true (p.1.map e_arr40)), (3, .own 0)], [(0, .own 36 1 false none (p.2.map (fun (l : List (List Int)) => V.sl none 32 true (l.map e_arr40))))], 1⟩ : St) ∧ ((lenOk p.1) ∧ ((p.2).length + (p.1).length ≤ l.length + 1)) ∧ (p.1).length < n ∧ iter n f1 d1 p = r) ((l).length + 1) _ sbQ sbQ ⟨(l, ([l] : List (List (List Int)))), rfl, ⟨by exact hp0, by (simp only [List.length_cons, List.length_nil]; omega)⟩, (Nat.lt_succ_self _), hM⟩ ?_
 clear hM
 rintro n1 S ⟨p1, rfl, ⟨hF2_0, hF2_1⟩, hm1, hM⟩
 have hM0 := hM; clear hM; obtain ⟨ag1, hag1, hM⟩ := iter_step hM0 (by omega) hf1; clear hM0
 replace hm1 := nzQ hm1
 refine spQ ?_
 refine condC_intro (fun h2 => ?_) (fun h2 => ?_)
 ·rw [if_pos h2] at hM
  refine spQA h2 ?_
  have nh2 := nzQ h2
  try have hr3 := mpQ nh2
  refine seqC_pass ?_
  try refine spQ ?_
  refine callC_give (chunk_call none (p1.1)) clQ clQ (fun hw4 => ?_)
  refine spQ ?_
  have hM0 := hM; clear hM; obtain ⟨f5, d5, hf5, hd5, hM⟩ := riter_opn hM0; clear hM0
  refine ct_rangeF (chunk2 p1.1) (fun y5 => [.sl none 32 true (y5.map e_arr40)]) (fun p : List (List Int) => (⟨[(3, .own 0), (4, .ptr 1 0), (12, .fn 261 [.pp 1 false (.sl none 32 true (p1.1.map e_arr40)), .pp 1 false (.int .i64 2)])], [(0, .own 36 1 false none (p1.2.map (fun (l : List (List Int)) => V.sl none 32 true (l.map e_arr40)))), (1, .var 1 false (.own 2)), (2, .own 40 32 true none (p.map e_arr40))], 3⟩ : St)) (fun (k5 : Nat) (p : List (List Int)) => ((p).length = k5)) hM (chunk_iter (pair_even hF2_0 (by omega))) clQ clQ ⟨rfl, by decide, by decide⟩ (fun _ => rfl) (weak_nilC 1 40 rfl (by decide)) sbQ sbQ (by rfl) (fun _ _ _ => rfl) (fun ag5 k5 y5 p5 r5 K5 hy5 hk5 hf5a hM hN5 hR5 => ?_) (fun p5 hf5a hM => ?_)
  ·have hM0 := hM; clear hM; have hM := riter_in hM0 hf5; clear hM0
   have hF6_0 := hf5a
   have hl5 := chunk2_len hy5
   have hc5 := chunk2_le (l := p1.1)
   refine cont_st (S' := (⟨[(5, .sl none 32 true (y5.map e_arr40)), (13, .sl none 32 true (y5.map e_arr40)), (3, .own 0), (4, .ptr 1 0), (12, .fn 261 [.pp 1 false (.sl none 32 true (p1.1.map e_arr40)), .pp 1 false (.int .i64 2)]), (100003, .own 0), (100004, .ptr 1 0), (100012, .fn 261 [.pp 1 false (.sl none 32 true (p1.1.map e_arr40)), .pp 1 false (.int .i64 2)])], [(0, .own 36 1 false none (p1.2.map (fun (l : List (List Int)) => V.sl none 32 true (l.map e_arr40)))), (1, .var 1 false (.own 2)), (2, .own 40 32 true none (p5.map e_arr40))], 3⟩ : St)) rfl ?_
   try refine spQ ?_
   refine ct_draw 32 9 [14, 15, 16, 17, 18, 19, 20, 21, 22] [] ([[], [], [1], [1, 2], [], [4], [4, 5], [1, 2, 3, 4, 5, 6], [1, 2, 3, 4, 5, 6, 7]] ++ [List.range 9, List.range 10]) [] (by kernel_rfl) (by exact alQ) ?_
   refine spQ ?_
   refine hbindC_intro omQ ?_
   have he6 : ∀ d, elt (y5.map e_arr40) 0 d = e_arr40 (gt y5 0) := fun d => elt_mp (l := y5) (f := e_arr40) (i := 0) omQ d
   refine spQA he6 ?_
   refine hbindC_intro omQ ?_
   have he7 : ∀ d, elt (y5.map e_arr40) 1 d = e_arr40 (gt y5 1) := fun d => elt_mp (l := y5) (f := e_arr40) (i := 1) omQ d
   refine spQA (And.intro he6 he7) ?_
   have hM0 := hM; clear hM; obtain ⟨x8, hx9, hM⟩ := letk_opn hM0; clear hM0
   have hcx8 := cmU hx9
   refine hcallC_give hcx8 (clQA (And.intro he6 he7)) (clQA (And.intro he6 he7)) ?_
   refine spQA (And.intro he6 he7) ?_
   refine bindC_intro omQ ?_
   refine spQA (And.intro he6 he7) ?_
   try rw [ct_fin]
   exact (hN5 (p5 ++ ([x8] : List (List Int))) _ (weak_dn (by first | rfl | (simp only [dnF, HOFF, List.filterMap_cons, List.filterMap_nil, Nat.reduceLeDiff, if_true, if_false, ↓reduceIte, Nat.reduceSub]; exact sbQ)) sbQ) (by simp only [List.length_append, List.length_cons, List.length_nil, hF6_0]) hM)
  ·have hM0 := hM; clear hM; have hM := letj_use hM0 hd5; clear hM0
   have hF6_0 := hf5a
   try refine spQ ?_
   refine cut_weakW _ (⟨[(3, .own 0), (4, .ptr 1 0)], [(0, .own 36 1 false none (p1.2.map (fun (l : List (List Int)) => V.sl none 32 true (l.map e_arr40)))), (1, .var 1 false (.sl none 32 true (p5.map e_arr40))), (2, .pown 32 true none (p5.map e_arr40))], 3⟩ : St) ((weak_pub (S := ⟨_, _, _⟩) 2 (T := 40) (n := 32) (g := true) (z := none) (l := p5.map e_arr40) clQ).trans (weak_cell1 (S := ⟨_, _, _⟩) 1 2 (n := 32) (g := true) (z := none) (m := p5.map e_arr40) clQ clQ)) sbQ sbQ ?_
   try refine spQ ?_
   refine bindC_intro omQ ?_
   refine spQ ?_
   refine lp_intro (n1 - 1) _ (by omega) sbQ sbQ ⟨(p5, (p1.2 ++ ([p5] : List (List (List Int))))), rfl, ⟨by exact pair_ok hF2_0 (by omega) hF6_0, by (have h9 := pair_lt hF2_0 (by omega) hF6_0; simp only [List.length_append, List.length_cons, List.length_nil]; omega)⟩, by (have h9 := pair_lt hF2_0 (by omega) hF6_0; dsimp only; omega), iter_again hM hag1⟩
 ·rw [if_neg (ne_true h2)] at hM
  refine spQA h2 ?_
  have nh2 := nzQ h2
  try have hr10 := mpQ nh2
  have hM0 := hM; clear hM; obtain ⟨x11, hx12, hM⟩ := letk_opn hM0; clear hM0
  have hcx11 := slices_Reverse_api_Hash_api_Hash_ok none (p1.2) 
  rw [← hx12] at hcx11
  refine callC_at hcx11 rfl ?_
  refine spQ ?_
  subst hM
  exact retC_view (lfQA h2)
end Go.Proofs.YtjnikknlcmbcmaaGreatDoor
namespace Go.Proofs.YtjnikknlcmbcmaaGreatDoor
open Go.RowKit
set_option linter.unusedSimpArgs false
set_option maxHeartbeats 2000000 in
set_option maxRecDepth 100000 in
instance tree_open_ok   (l : (List (List Int))) (level : Int) (index : Int)  : CM En (tree_open l level index) 85 [.sl none 32 true (l.map e_arr40), .int .i64 level, .int .i64 index] (fun y => .tup [.sl none 1 false (y.1.map (fun (l : List (List Int)) => V.sl none 32 true (l.map e_arr40))), .int .i64 y.2]) (fun _ => []) := by
 refine cmQ fun r hM => ?_
 rw [tree_open.eq_1] at hM
 refine enterV En_ok En_mo noJ Tryz.func85 rfl Tryz.ntmps85 (by kernel_rfl) fun hw => ct_start ?_
 refine spQ ?_
 replace hw := nzQ hw
 have hM0 := hM; clear hM; obtain ⟨x1, hx2, hM⟩ := letk_opn hM0; clear hM0
 have hcx1 := cmU hx2
 refine callC_give hcx1 clQ clQ (fun hw3 => ?_)
 replace hw3 := nzQ hw3
 refine spQ ?_
 refine condC_intro (fun h4 => ?_) (fun h4 => ?_)
 ·rw [if_pos h4] at hM
  refine spQA h4 ?_
  have nh4 := nzQ h4
  try have hr5 := mpQ nh4
  subst hM
  exact retC_view (lfQA h4)
 ·rw [if_neg (ne_true h4)] at hM
  refine spQA h4 ?_
  have nh4 := nzQ h4
  try have hr6 := mpQ nh4
  refine guardC_f (fun h7 => ?_) (fun h7 => ?_)
  ·rw [if_neg (ne_true h7)] at hM
   refine spQA h7 ?_
   have nh7 := nzQ h7
   try have hr8 := mpQ nh7
   refine guardC_f (fun h9 => ?_) (fun h9 => ?_)
   ·rw [if_neg (ne_true h9)] at hM
    refine spQA h9 ?_
    have nh9 := nzQ h9
    try have hr10 := mpQ nh9
    refine guardC_f (fun h11 => ?_) (fun h11 => ?_)
    ·rw [if_neg (ne_true h11)] at hM
     refine spQA h11 ?_
     have nh11 := nzQ h11
     try have hr12 := mpQ nh11
     refine bindC_intro omQ ?_
     refine spQ ?_
     refine condC_intro (fun h13 => ?_) (fun h13 => ?_)
     ·rw [if_pos h13] at hM
      refine spQA h13 ?_
      have nh13 := nzQ h13
      try have hr14 := mpQ nh13
      subst hM
      exact retC_view (lfQA (And.intro h4 (And.intro h7 (And.intro h9 (And.intro h11 h13)))))
     ·rw [if_neg (ne_true h13)] at hM
      refine spQA h13 ?_
      have nh13 := nzQ h13
      try have hr15 := mpQ nh13
      have hM0 := hM; clear hM; obtain ⟨x16, hx17, hM⟩ := letk_opn hM0; clear hM0
      have hcx16 := cmH hx17 (tree_levels_ok  l (by (exact depth_ok ‹_ = tree_Depth _› (by assumption))))
      refine callC_give hcx16 clQ clQ (fun hw18 => ?_)
      replace hw18 := nzQ hw18
      refine spQ ?_
      subst hM
      exact retC_view (lfQA (And.intro h4 (And.intro h7 (And.intro h9 (And.intro h11 h13)))))
    ·rw [if_pos h11] at hM
     refine spQA h11 ?_
     have nh11 := nzQ h11
     try have hr19 := mpQ nh11
     subst hM
     exact retC_view (lfQA (And.intro h4 (And.intro h7 (And.intro h9 h11))))
   ·rw [if_pos h9] at hM
    refine spQA h9 ?_
    have nh9 := nzQ h9
    try have hr20 := mpQ nh9
    subst hM
    exact retC_view (lfQA (And.intro h4 (And.intro h7 h9)))
  ·rw [if_pos h7] at hM
   refine spQA h7 ?_
   have nh7 := nzQ h7
   try have hr21 := mpQ nh7
   subst hM
   exact retC_view (lfQA (And.intro h4 h7))
set_option maxHeartbeats 2000000 in
set_option maxRecDepth 100000 in
instance tree_Node_ok   (l : (List (List Int))) (level : Int) (index : Int)  : CM En (tree_Node l level index) 140 [.sl none 32 true (l.map e_arr40), .int .i64 level, .int .i64 index] (fun y => .tup [(e_arr40 y.1), .int .i64 y.2]) (fun _ => []) := by
 refine cmQ fun r hM => ?_
 rw [tree_Node.eq_1] at hM
 refine enterV En_ok En_mo noJ Tryz.func140 rfl Tryz.ntmps140 (by kernel_rfl) fun hw => ct_start ?_
 refine spQ ?_
 replace hw := nzQ hw
 have hM0 := hM; clear hM; obtain ⟨x1, hx2, hM⟩ := letk_opn hM0; clear hM0
 have hcx1 := cmU hx2
 refine callC_give hcx1 clQ clQ (fun hw3 => ?_)
 replace hw3 := nzQ hw3
 refine spQ ?_
 have hq4 := open_after hx2
 replace hq4 := nzQ hq4
 have hF := trueQ
 exact auQ
set_option maxHeartbeats 2000000 in
set_option maxRecDepth 100000 in
instance tree_Root_ok   (l : (List (List Int)))  : CM En (tree_Root l) 68 [.sl none 32 true (l.map e_arr40)] (fun y => .tup [(e_arr40 y.1), .int .i64 y.2]) (fun _ => []) := by
 refine cmQ fun r hM => ?_
 rw [tree_Root.eq_1] at hM
 refine enterV En_ok En_mo noJ Tryz.func68 rfl Tryz.ntmps68 (by kernel_rfl) fun hw => ct_start ?_
 refine spQ ?_
 replace hw := nzQ hw
 have hF := trueQ
 exact auQ
set_option maxHeartbeats 2000000 in
set_option maxRecDepth 100000 in
instance coin_Root_ok   (b : S_api_Bases) (l : (List Int))  : CM En (coin_Root b l) 15 [(e_api_Bases b), .sl none 1 false (l.map (V.int .i64))] (fun y => .tup [(e_arr40 y.1), .int .i64 y.2]) (fun _ => []) := by
 refine cmQ fun r hM => ?_
 rw [coin_Root.eq_1] at hM
 refine enterV En_ok En_mo noJ Tryz.func15 rfl Tryz.ntmps15 (by kernel_rfl) fun hw => ct_start ?_
 refine spQ ?_
 replace hw := nzQ hw
 have hF := trueQ
 exact auQ
set_option maxHeartbeats 2000000 in
set_option maxRecDepth 100000 in
instance specieref27_Depth_ok   (n_ : Int)  : CM En (specieref27_Depth n_) 22 [.int .i64 n_] (fun y => .int .i64 y) (fun _ => []) := by
 refine cmQ fun r hM => ?_
 rw [specieref27_Depth.eq_1] at hM
 refine enterV En_ok En_mo noJ Tryz.func22 rfl Tryz.ntmps22 (by kernel_rfl) fun hw => ct_start ?_
 refine spQ ?_
 replace hw := nzQ hw
 have hM0 := hM; clear hM; obtain ⟨f1, d1, hf1, hd1, hM⟩ := iter_opn hM0; clear hM0
 refine ct_loop (fun n S => ∃ p : Int, S = (⟨[(0, .int .i64 n_), (3, .int .i64 p)], [], 0⟩ : St) ∧ ((0 ≤ p) ∧ (p ≤ 11)) ∧ ((11 : Int) - p).toNat < n ∧ iter n f1 d1 p = r) (((11 : Int) - 0).toNat + 1) _ sbQ sbQ ⟨0, rfl, ⟨omQ, omQ⟩, (Nat.lt_succ_self _), hM⟩ ?_
 clear hM
 rintro n1 S ⟨p1, rfl, hfa1, hm1, hM⟩
 have hM0 := hM; clear hM; obtain ⟨ag1, hag1, hM⟩ := iter_step hM0 (by omega) hf1; clear hM0
 replace hfa1 := nzQ hfa1
 replace hm1 := nzQ hm1
 refine spQ ?_
 refine condC_intro (fun h2 => ?_) (fun h2 => ?_)
 ·rw [if_pos h2] at hM
  refine spQA h2 ?_
  have nh2 := nzQ h2
  try have hr3 := mpQ nh2
  refine bindC_intro omQ ?_
  refine spQ ?_
  refine condC_intro (fun h4 => ?_) (fun h4 => ?_)
  ·rw [if_pos h4] at hM
   refine spQA h4 ?_
   have nh4 := nzQ h4
   try have hr5 := mpQ nh4
   subst hM
   exact retC_view (lfQA (And.intro h2 h4))
  ·rw [if_neg (ne_true h4)] at hM
   refine spQA h4 ?_
   have nh4 := nzQ h4
   try have hr6 := mpQ nh4
   have ha7 : addI .i64 p1 1 = (p1 + 1) := add_ok omQ omQ
   try simp only [ha7]
   refine lp_intro (n1 - 1) _ (by omega) sbQ sbQ ⟨(p1 + 1), rfl, ⟨omQ, omQ⟩, omQ, iter_again hM hag1⟩
 ·rw [if_neg (ne_true h2)] at hM
  refine spQA h2 ?_
  have nh2 := nzQ h2
  try have hr8 := mpQ nh2
  subst hM
  exact retC_view (lfQA h2)
set_option maxHeartbeats 2000000 in
set_option maxRecDepth 100000 in
theorem specieref01_Mul_ok   (a_ : Int) (b : Int) (m : Int) (hp0 : 0 ≤ a_) (hp1 : a_ < m) (hp2 : 0 ≤ b) (hp3 : m < 2305843009213693952) : CM En (specieref01_Mul a_ b m) 144 [.int .i64 a_, .int .i64 b, .int .i64 m] (fun y => .int .i64 y) (fun _ => []) := by
 refine cmQ fun r hM => ?_
 rw [specieref01_Mul.eq_1] at hM
 refine enterV En_ok En_mo noJ Tryz.func144 rfl Tryz.ntmps144 (by kernel_rfl) fun hw => ct_start ?_
 refine spQ ?_
 replace hw := nzQ hw
 refine guardC_t (fun h1 => ?_) (fun h1 => ?_)
 ·rw [if_pos h1] at hM
  refine spQA h1 ?_
  have nh1 := nzQ h1
  try have hr2 := mpQ nh1
  refine condC_intro (fun h3 => ?_) (fun h3 => ?_)
  ·rw [if_pos h3] at hM
   refine spQA h3 ?_
   have nh3 := nzQ h3
   try have hr4 := mpQ nh3
   have hF := (And.intro h1 h3)
   exact auQ
  ·rw [if_neg (ne_true h3)] at hM
   refine spQA h3 ?_
   have nh3 := nzQ h3
   try have hr5 := mpQ nh3
   have hM0 := hM; clear hM; obtain ⟨f6, d6, hf6, hd6, hM⟩ := iter_opn hM0; clear hM0
   refine ct_loop (fun n S => ∃ p : Int × Int × Int, S = (⟨[(0, .int .i64 p.1), (1, .int .i64 p.2.1), (2, .int .i64 m), (7, .int .i64 p.2.2)], [], 0⟩ : St) ∧ ((0 ≤ p.1 ∧ p.1 < m ∧ 0 ≤ p.2.1 ∧ p.2.1 ≤ b ∧ 0 ≤ p.2.2 ∧ p.2.2 < m)) ∧ p.2.1.toNat < n ∧ iter n f6 d6 p = r) (b.toNat + 1) _ sbQ sbQ ⟨(a_, b, 0), rfl, by ((try dsimp only); omega), (Nat.lt_succ_self _), hM⟩ ?_
   clear hM
   rintro n6 S ⟨p6, rfl, hF4_0, hm6, hM⟩
   have hM0 := hM; clear hM; obtain ⟨ag6, hag6, hM⟩ := iter_step hM0 (by omega) hf6; clear hM0
   replace hm6 := nzQ hm6
   refine spQ ?_
   refine condC_intro (fun h7 => ?_) (fun h7 => ?_)
   ·rw [if_pos h7] at hM
    refine spQA h7 ?_
    have nh7 := nzQ h7
    try have hr8 := mpQ nh7
    have ha9 : remI .i64 p6.2.1 2 = (p6.2.1 % 2) := rem_ok omQ omQ
    try simp only [ha9]
    refine bindC_intro omQ ?_
    refine spQA ha9 ?_
    refine condC_intro (fun h10 => ?_) (fun h10 => ?_)
    ·rw [if_pos h10] at hM
     refine spQA (And.intro ha9 h10) ?_
     have nh10 := nzQ h10
     try have hr11 := mpQ nh10
     have ha12 : addI .i64 p6.2.2 p6.1 = (p6.2.2 + p6.1) := add_ok omQ omQ
     try simp only [ha12]
     refine bindC_intro omQ ?_
     refine spQA (And.intro ha9 ha12) ?_
     have ha13 : addI .i64 p6.1 p6.1 = (p6.1 + p6.1) := add_ok omQ omQ
     try simp only [ha13]
     refine bindC_intro omQ ?_
     refine spQA (And.intro ha9 (And.intro ha12 ha13)) ?_
     have ha14 : quoI .i64 p6.2.1 2 = (p6.2.1 / 2) := quo_ok omQ omQ
     try simp only [ha14]
     refine bindC_intro omQ ?_
     refine spQA (And.intro ha9 (And.intro ha12 (And.intro ha13 ha14))) ?_
     refine lp_intro (n6 - 1) _ (by omega) sbQ sbQ ⟨((remI .i64 (p6.1 + p6.1) m), (p6.2.1 / 2), (remI .i64 (p6.2.2 + p6.1) m)), rfl, by (clear hM; have h9 := rem_rngN (a := p6.1 + p6.1) (m := m) (by omega) (by omega); have h8 := rem_rngN (a := p6.2.2 + p6.1) (m := m) (by omega) (by omega); (try dsimp only); omega), omQ, iter_again hM hag6⟩
    ·rw [if_neg (ne_true h10)] at hM
     refine spQA (And.intro ha9 h10) ?_
     have nh10 := nzQ h10
     try have hr15 := mpQ nh10
     have ha16 : addI .i64 p6.1 p6.1 = (p6.1 + p6.1) := add_ok omQ omQ
     try simp only [ha16]
     refine bindC_intro omQ ?_
     refine spQA (And.intro ha9 ha16) ?_
     have ha17 : quoI .i64 p6.2.1 2 = (p6.2.1 / 2) := quo_ok omQ omQ
     try simp only [ha17]
     refine bindC_intro omQ ?_
     refine spQA (And.intro ha9 (And.intro ha16 ha17)) ?_
     refine lp_intro (n6 - 1) _ (by omega) sbQ sbQ ⟨((remI .i64 (p6.1 + p6.1) m), (p6.2.1 / 2), p6.2.2), rfl, by (clear hM; have h9 := rem_rngN (a := p6.1 + p6.1) (m := m) (by omega) (by omega); have h8 := rem_rngN (a := p6.2.2 + p6.1) (m := m) (by omega) (by omega); (try dsimp only); omega), omQ, iter_again hM hag6⟩
   ·rw [if_neg (ne_true h7)] at hM
    refine spQA h7 ?_
    have nh7 := nzQ h7
    try have hr18 := mpQ nh7
    subst hM
    exact retC_view (lfQA (And.intro h1 (And.intro h3 h7)))
 ·rw [if_neg (ne_true h1)] at hM
  refine spQA h1 ?_
  have nh1 := nzQ h1
  try have hr19 := mpQ nh1
  have hM0 := hM; clear hM; obtain ⟨f20, d20, hf20, hd20, hM⟩ := iter_opn hM0; clear hM0
  refine ct_loop (fun n S => ∃ p : Int × Int × Int, S = (⟨[(0, .int .i64 p.1), (1, .int .i64 p.2.1), (2, .int .i64 m), (7, .int .i64 p.2.2)], [], 0⟩ : St) ∧ ((0 ≤ p.1 ∧ p.1 < m ∧ 0 ≤ p.2.1 ∧ p.2.1 ≤ b ∧ 0 ≤ p.2.2 ∧ p.2.2 < m)) ∧ p.2.1.toNat < n ∧ iter n f20 d20 p = r) (b.toNat + 1) _ sbQ sbQ ⟨(a_, b, 0), rfl, by ((try dsimp only); omega), (Nat.lt_succ_self _), hM⟩ ?_
  clear hM
  rintro n20 S ⟨p20, rfl, hF4_0, hm20, hM⟩
  have hM0 := hM; clear hM; obtain ⟨ag20, hag20, hM⟩ := iter_step hM0 (by omega) hf20; clear hM0
  replace hm20 := nzQ hm20
  refine spQ ?_
  refine condC_intro (fun h21 => ?_) (fun h21 => ?_)
  ·rw [if_pos h21] at hM
   refine spQA h21 ?_
   have nh21 := nzQ h21
   try have hr22 := mpQ nh21
   have ha23 : remI .i64 p20.2.1 2 = (p20.2.1 % 2) := rem_ok omQ omQ
   try simp only [ha23]
   refine bindC_intro omQ ?_
   refine spQA ha23 ?_
   refine condC_intro (fun h24 => ?_) (fun h24 => ?_)
   ·rw [if_pos h24] at hM
    refine spQA (And.intro ha23 h24) ?_
    have nh24 := nzQ h24
    try have hr25 := mpQ nh24
    have ha26 : addI .i64 p20.2.2 p20.1 = (p20.2.2 + p20.1) := add_ok omQ omQ
    try simp only [ha26]
    refine bindC_intro omQ ?_
    refine spQA (And.intro ha23 ha26) ?_
    have ha27 : addI .i64 p20.1 p20.1 = (p20.1 + p20.1) := add_ok omQ omQ
    try simp only [ha27]
    refine bindC_intro omQ ?_
    refine spQA (And.intro ha23 (And.intro ha26 ha27)) ?_
    have ha28 : quoI .i64 p20.2.1 2 = (p20.2.1 / 2) := quo_ok omQ omQ
    try simp only [ha28]
    refine bindC_intro omQ ?_
    refine spQA (And.intro ha23 (And.intro ha26 (And.intro ha27 ha28))) ?_
    refine lp_intro (n20 - 1) _ (by omega) sbQ sbQ ⟨((remI .i64 (p20.1 + p20.1) m), (p20.2.1 / 2), (remI .i64 (p20.2.2 + p20.1) m)), rfl, by (clear hM; have h9 := rem_rngN (a := p20.1 + p20.1) (m := m) (by omega) (by omega); have h8 := rem_rngN (a := p20.2.2 + p20.1) (m := m) (by omega) (by omega); (try dsimp only); omega), omQ, iter_again hM hag20⟩
   ·rw [if_neg (ne_true h24)] at hM
    refine spQA (And.intro ha23 h24) ?_
    have nh24 := nzQ h24
    try have hr29 := mpQ nh24
    have ha30 : addI .i64 p20.1 p20.1 = (p20.1 + p20.1) := add_ok omQ omQ
    try simp only [ha30]
    refine bindC_intro omQ ?_
    refine spQA (And.intro ha23 ha30) ?_
    have ha31 : quoI .i64 p20.2.1 2 = (p20.2.1 / 2) := quo_ok omQ omQ
    try simp only [ha31]
    refine bindC_intro omQ ?_
    refine spQA (And.intro ha23 (And.intro ha30 ha31)) ?_
    refine lp_intro (n20 - 1) _ (by omega) sbQ sbQ ⟨((remI .i64 (p20.1 + p20.1) m), (p20.2.1 / 2), p20.2.2), rfl, by (clear hM; have h9 := rem_rngN (a := p20.1 + p20.1) (m := m) (by omega) (by omega); have h8 := rem_rngN (a := p20.2.2 + p20.1) (m := m) (by omega) (by omega); (try dsimp only); omega), omQ, iter_again hM hag20⟩
  ·rw [if_neg (ne_true h21)] at hM
   refine spQA h21 ?_
   have nh21 := nzQ h21
   try have hr32 := mpQ nh21
   subst hM
   exact retC_view (lfQA (And.intro h1 h21))
set_option maxHeartbeats 2000000 in
set_option maxRecDepth 100000 in
theorem specieref01_Pow_ok   (a_ : Int) (e_ : Int) (m : Int) (hp0 : 0 ≤ a_) (hp1 : a_ < m) (hp2 : 0 ≤ e_) (hp3 : m < 2305843009213693952) : CM En (specieref01_Pow a_ e_ m) 77 [.int .i64 a_, .int .i64 e_, .int .i64 m] (fun y => .int .i64 y) (fun _ => []) := by
 refine cmQ fun r hM => ?_
 rw [specieref01_Pow.eq_1] at hM
 refine enterV En_ok En_mo noJ Tryz.func77 rfl Tryz.ntmps77 (by kernel_rfl) fun hw => ct_start ?_
 refine spQ ?_
 replace hw := nzQ hw
 have h0_0 := rem1_rng (m := m) (by omega)
 refine bindC_intro omQ ?_
 refine spQ ?_
 have hM0 := hM; clear hM; obtain ⟨f1, d1, hf1, hd1, hM⟩ := iter_opn hM0; clear hM0
 refine ct_loop (fun n S => ∃ p : Int × Int × Int, S = (⟨[(0, .int .i64 p.1), (1, .int .i64 p.2.1), (2, .int .i64 m), (7, .int .i64 p.2.2)], [], 0⟩ : St) ∧ ((0 ≤ p.1) ∧ (p.1 < m) ∧ (0 ≤ p.2.1) ∧ (p.2.1 ≤ e_) ∧ (0 ≤ p.2.2) ∧ (p.2.2 < m)) ∧ p.2.1.toNat < n ∧ iter n f1 d1 p = r) (e_.toNat + 1) _ sbQ sbQ ⟨(a_, e_, (remI .i64 1 m)), rfl, ⟨omQ, omQ, omQ, omQ, omQ, omQ⟩, (Nat.lt_succ_self _), hM⟩ ?_
 clear hM
 rintro n1 S ⟨p1, rfl, hfa1, hm1, hM⟩
 have hM0 := hM; clear hM; obtain ⟨ag1, hag1, hM⟩ := iter_step hM0 (by omega) hf1; clear hM0
 replace hfa1 := nzQ hfa1
 replace hm1 := nzQ hm1
 refine spQ ?_
 refine condC_intro (fun h2 => ?_) (fun h2 => ?_)
 ·rw [if_pos h2] at hM
  refine spQA h2 ?_
  have nh2 := nzQ h2
  try have hr3 := mpQ nh2
  have ha4 : remI .i64 p1.2.1 2 = (p1.2.1 % 2) := rem_ok omQ omQ
  try simp only [ha4]
  refine bindC_intro omQ ?_
  refine spQA ha4 ?_
  refine condC_intro (fun h5 => ?_) (fun h5 => ?_)
  ·rw [if_pos h5] at hM
   refine spQA (And.intro ha4 h5) ?_
   have nh5 := nzQ h5
   try have hr6 := mpQ nh5
   have hM0 := hM; clear hM; obtain ⟨x7, hx8, hM⟩ := letk_opn hM0; clear hM0
   have hcx7 := cmH hx8 (specieref01_Mul_ok  (p1.2.2) (p1.1) m (by (exact pfQ)) (by (exact pfQ)) (by (exact pfQ)) (by (exact pfQ)))
   refine callC_give hcx7 (clQA ha4) (clQA ha4) (fun hw9 => ?_)
   replace hw9 := nzQ hw9
   refine spQA ha4 ?_
   have hq10 := rmul_rng hx8 (by omega) (by omega) (by omega)
   replace hq10 := nzQ hq10
   have hM0 := hM; clear hM; obtain ⟨x11, hx12, hM⟩ := letk_opn hM0; clear hM0
   have hcx11 := cmH hx12 (specieref01_Mul_ok  (p1.1) (p1.1) m (by (exact pfQ)) (by (exact pfQ)) (by (exact pfQ)) (by (exact pfQ)))
   refine callC_give hcx11 (clQA ha4) (clQA ha4) (fun hw13 => ?_)
   replace hw13 := nzQ hw13
   refine spQA ha4 ?_
   have hq14 := rmul_rng hx12 (by omega) (by omega) (by omega)
   replace hq14 := nzQ hq14
   have ha15 : quoI .i64 p1.2.1 2 = (p1.2.1 / 2) := quo_ok omQ omQ
   try simp only [ha15]
   have hF := (And.intro h2 (And.intro ha4 (And.intro h5 ha15)))
   exact auQ
  ·rw [if_neg (ne_true h5)] at hM
   refine spQA (And.intro ha4 h5) ?_
   have nh5 := nzQ h5
   try have hr16 := mpQ nh5
   have hM0 := hM; clear hM; obtain ⟨x17, hx18, hM⟩ := letk_opn hM0; clear hM0
   have hcx17 := cmH hx18 (specieref01_Mul_ok  (p1.1) (p1.1) m (by (exact pfQ)) (by (exact pfQ)) (by (exact pfQ)) (by (exact pfQ)))
   refine callC_give hcx17 (clQA ha4) (clQA ha4) (fun hw19 => ?_)
   replace hw19 := nzQ hw19
   refine spQA ha4 ?_
   have hq20 := rmul_rng hx18 (by omega) (by omega) (by omega)
   replace hq20 := nzQ hq20
   have ha21 : quoI .i64 p1.2.1 2 = (p1.2.1 / 2) := quo_ok omQ omQ
   try simp only [ha21]
   have hF := (And.intro h2 (And.intro ha4 (And.intro h5 ha21)))
   exact auQ
 ·rw [if_neg (ne_true h2)] at hM
  refine spQA h2 ?_
  have nh2 := nzQ h2
  try have hr22 := mpQ nh2
  subst hM
  exact retC_view (lfQA h2)
set_option maxHeartbeats 2000000 in
set_option maxRecDepth 100000 in
theorem specieref05_strong_ok   (n_ : Int) (a_ : Int) (hp0 : 0 ≤ a_) (hp1 : a_ < n_) (hp2 : 1 < n_) (hp3 : n_ < 2305843009213693952) : CM En (specieref05_strong n_ a_) 212 [.int .i64 n_, .int .i64 a_] (fun y => .bool y) (fun _ => []) := by
 refine cmQ fun r hM => ?_
 rw [specieref05_strong.eq_1] at hM
 refine enterV En_ok En_mo noJ Tryz.func212 rfl Tryz.ntmps212 (by kernel_rfl) fun hw => ct_start ?_
 refine spQ ?_
 replace hw := nzQ hw
 have ha1 : subI .i64 n_ 1 = (n_ - 1) := sub_ok omQ omQ
 try simp only [ha1]
 have hM0 := hM; clear hM; obtain ⟨f2, d2, hf2, hd2, hM⟩ := iter_opn hM0; clear hM0
 refine ct_loop (fun n S => ∃ p : Int × Int, S = (⟨[(0, .int .i64 n_), (1, .int .i64 a_), (5, .int .i64 p.1), (6, .int .i64 p.2)], [], 0⟩ : St) ∧ ((1 ≤ p.1) ∧ (p.1 < n_) ∧ (0 ≤ p.2) ∧ (p.2 + p.1 ≤ n_)) ∧ p.1.toNat < n ∧ iter n f2 d2 p = r) ((n_ - 1).toNat + 1) _ sbQ sbQ ⟨((n_ - 1), 0), rfl, ⟨omQ, omQ, omQ, omQ⟩, (Nat.lt_succ_self _), hM⟩ ?_
 clear hM
 rintro n2 S ⟨p2, rfl, hfa2, hm2, hM⟩
 have hM0 := hM; clear hM; obtain ⟨ag2, hag2, hM⟩ := iter_step hM0 (by omega) hf2; clear hM0
 replace hfa2 := nzQ hfa2
 replace hm2 := nzQ hm2
 refine spQA ha1 ?_
 have ha3 : remI .i64 p2.1 2 = (p2.1 % 2) := rem_ok omQ omQ
 try simp only [ha3]
 refine bindC_intro omQ ?_
 refine spQA (And.intro ha1 ha3) ?_
 refine condC_intro (fun h4 => ?_) (fun h4 => ?_)
 ·rw [if_pos h4] at hM
  refine spQA (And.intro ha1 (And.intro ha3 h4)) ?_
  have nh4 := nzQ h4
  try have hr5 := mpQ nh4
  have ha6 : quoI .i64 p2.1 2 = (p2.1 / 2) := quo_ok omQ omQ
  try simp only [ha6]
  refine bindC_intro omQ ?_
  refine spQA (And.intro ha1 (And.intro ha3 ha6)) ?_
  have ha7 : addI .i64 p2.2 1 = (p2.2 + 1) := add_ok omQ omQ
  try simp only [ha7]
  refine lp_intro (n2 - 1) _ (by omega) sbQ sbQ ⟨((p2.1 / 2), (p2.2 + 1)), rfl, ⟨omQ, omQ, omQ, omQ⟩, omQ, iter_again hM hag2⟩
 ·rw [if_neg (ne_true h4)] at hM
  refine spQA (And.intro ha1 (And.intro ha3 h4)) ?_
  have nh4 := nzQ h4
  try have hr8 := mpQ nh4
  have hM0 := hM; clear hM; obtain ⟨x9, hx10, hM⟩ := letk_opn hM0; clear hM0
  have hcx9 := cmH hx10 (specieref01_Pow_ok  a_ (p2.1) n_ (by (exact pfQ)) (by (exact pfQ)) (by (exact pfQ)) (by (exact pfQ)))
  refine callC_give hcx9 (clQA (And.intro ha1 ha3)) (clQA (And.intro ha1 ha3)) (fun hw11 => ?_)
  replace hw11 := nzQ hw11
  refine spQA (And.intro ha1 ha3) ?_
  have hq12 := rpow_rng hx10 (by omega) (by omega)
  replace hq12 := nzQ hq12
  refine guardC_f (fun h13 => ?_) (fun h13 => ?_)
  ·rw [if_neg (ne_true h13)] at hM
   refine spQA (And.intro ha1 (And.intro ha3 h13)) ?_
   have nh13 := nzQ h13
   try have hr14 := mpQ nh13
   refine condC_intro (fun h16 => ?_) (fun h16 => ?_)
   ·rw [if_pos h16] at hM
    refine spQA (And.intro ha1 (And.intro ha3 h16)) ?_
    have nh16 := nzQ h16
    try have hr17 := mpQ nh16
    subst hM
    exact retC_view (lfQA (And.intro ha1 (And.intro ha3 (And.intro h4 (And.intro h13 h16)))))
   ·rw [if_neg (ne_true h16)] at hM
    refine spQA (And.intro ha1 (And.intro ha3 h16)) ?_
    have nh16 := nzQ h16
    try have hr18 := mpQ nh16
    have hM0 := hM; clear hM; obtain ⟨f19, d19, hf19, hd19, hM⟩ := iter_opn hM0; clear hM0
    refine ct_loop (fun n S => ∃ p : Int × Int, S = (⟨[(0, .int .i64 n_), (6, .int .i64 p2.2), (7, .int .i64 p.1), (8, .int .i64 p.2)], [], 0⟩ : St) ∧ ((1 ≤ p.2) ∧ (p.2 ≤ p2.2 ∨ p.2 ≤ 1) ∧ (0 ≤ p.1) ∧ (p.1 < n_)) ∧ (p2.2 - p.2).toNat < n ∧ iter n f19 d19 p = r) ((p2.2 - 1).toNat + 1) _ sbQ sbQ ⟨(x9, 1), rfl, ⟨omQ, omQ, omQ, omQ⟩, (Nat.lt_succ_self _), hM⟩ ?_
    clear hM
    rintro n19 S ⟨p19, rfl, hfa19, hm19, hM⟩
    have hM0 := hM; clear hM; obtain ⟨ag19, hag19, hM⟩ := iter_step hM0 (by omega) hf19; clear hM0
    replace hfa19 := nzQ hfa19
    replace hm19 := nzQ hm19
    have ha19 : addI .i64 p19.2 1 = p19.2 + 1 := add_one omQ omQ
    refine spQA (And.intro ha1 (And.intro ha3 ha19)) ?_
    refine condC_intro (fun h20 => ?_) (fun h20 => ?_)
    ·rw [if_pos h20] at hM
     refine spQA (And.intro ha1 (And.intro ha3 (And.intro ha19 h20))) ?_
     have nh20 := nzQ h20
     try have hr21 := mpQ nh20
     have hM0 := hM; clear hM; obtain ⟨x22, hx23, hM⟩ := letk_opn hM0; clear hM0
     have hcx22 := cmH hx23 (specieref01_Mul_ok  (p19.1) (p19.1) n_ (by (exact pfQ)) (by (exact pfQ)) (by (exact pfQ)) (by (exact pfQ)))
     refine callC_give hcx22 (clQA (And.intro ha1 (And.intro ha3 ha19))) (clQA (And.intro ha1 (And.intro ha3 ha19))) (fun hw24 => ?_)
     replace hw24 := nzQ hw24
     refine spQA (And.intro ha1 (And.intro ha3 ha19)) ?_
     have hq25 := rmul_rng hx23 (by omega) (by omega) (by omega)
     replace hq25 := nzQ hq25
     have hF := (And.intro ha1 (And.intro ha3 (And.intro h4 (And.intro h13 (And.intro h16 (And.intro ha19 h20))))))
     exact auQ
    ·rw [if_neg (ne_true h20)] at hM
     refine spQA (And.intro ha1 (And.intro ha3 (And.intro ha19 h20))) ?_
     have nh20 := nzQ h20
     try have hr30 := mpQ nh20
     subst hM
     exact retC_view (lfQA (And.intro ha1 (And.intro ha3 (And.intro ha19 (And.intro h4 (And.intro h13 (And.intro h16 h20)))))))
  ·rw [if_pos h13] at hM
   refine spQA (And.intro ha1 (And.intro ha3 h13)) ?_
   have nh13 := nzQ h13
   try have hr31 := mpQ nh13
   subst hM
   exact retC_view (lfQA (And.intro ha1 (And.intro ha3 (And.intro h4 h13))))
set_option maxHeartbeats 2000000 in
set_option maxRecDepth 100000 in
theorem specieref05_Is_ok   (n_ : Int) (hp0 : n_ < 2305843009213693952) : CM En (specieref05_Is n_) 143 [.int .i64 n_] (fun y => .bool y) (fun _ => []) := by
 refine cmQ fun r hM => ?_
 rw [specieref05_Is.eq_1] at hM
 refine enterV En_ok En_mo noJ Tryz.func143 rfl Tryz.ntmps143 (by kernel_rfl) fun hw => ct_start ?_
 refine spQ ?_
 replace hw := nzQ hw
 refine condC_intro (fun h1 => ?_) (fun h1 => ?_)
 ·rw [if_pos h1] at hM
  refine spQA h1 ?_
  have nh1 := nzQ h1
  try have hr2 := mpQ nh1
  subst hM
  exact retC_view (lfQA h1)
 ·rw [if_neg (ne_true h1)] at hM
  refine spQA h1 ?_
  have nh1 := nzQ h1
  try have hr3 := mpQ nh1
  have hM0 := hM; clear hM; obtain ⟨f4, d4, hf4, hd4, hM⟩ := iter_opn hM0; clear hM0
  refine ct_loop (fun n S => ∃ p : Int, S = (⟨[(0, .int .i64 n_), (3, .own 0), (4, .int .i64 p)], [(0, .own 3 1 false (some false) (([2, 3, 5, 7, 11, 13, 17, 19, 23, 29, 31, 37] : List Int).map (V.int .i64)))], 1⟩ : St) ∧ (((0 ≤ p) ∧ (p ≤ (12 : Int))) ∧ (NoDiv n_ p)) ∧ ((12 : Int) - p).toNat < n ∧ iter n f4 d4 p = r) (((12 : Int) - 0).toNat + 1) _ sbQ sbQ ⟨0, rfl, ⟨⟨by (first | exact omQ | (clear hM; first | (have hk := base_rng (j := p4) (by omega) (by omega); exact omQ'))), by (first | exact omQ | (clear hM; first | (have hk := base_rng (j := p4) (by omega) (by omega); exact omQ')))⟩, by (exact NoDiv_zero)⟩, (Nat.lt_succ_self _), hM⟩ ?_
  clear hM
  rintro n4 S ⟨p4, rfl, ⟨hfa4, hF5_0⟩, hm4, hM⟩
  have hM0 := hM; clear hM; obtain ⟨ag4, hag4, hM⟩ := iter_step hM0 (by omega) hf4; clear hM0
  replace hfa4 := nzQ hfa4
  replace hm4 := nzQ hm4
  have ha4 : addI .i64 p4 1 = p4 + 1 := add_one (by (first | exact omQ | (clear hM; first | (have hk := base_rng (j := p4) (by omega) (by omega); exact omQ')))) (by (first | exact omQ | (clear hM; first | (have hk := base_rng (j := p4) (by omega) (by omega); exact omQ'))))
  refine spQA ha4 ?_
  refine condC_intro (fun h5 => ?_) (fun h5 => ?_)
  ·rw [if_pos h5] at hM
   refine spQA (And.intro ha4 h5) ?_
   have nh5 := nzQ h5
   try have hr6 := mpQ nh5
   refine bindC_intro (by (first | exact omQ | (clear hM; first | (have hk := base_rng (j := p4) (by omega) (by omega); exact omQ')))) ?_
   have he7 := fun d => elt_mp (l := ([2, 3, 5, 7, 11, 13, 17, 19, 23, 29, 31, 37] : List Int)) (f := (V.int .i64)) (i := p4) (by (first | exact omQ | (clear hM; first | (have hk := base_rng (j := p4) (by omega) (by omega); exact omQ')))) d
   refine spQA (And.intro ha4 he7) ?_
   refine bindC_intro (by (first | exact omQ | (clear hM; first | (have hk := base_rng (j := p4) (by omega) (by omega); exact omQ')))) ?_
   refine spQA (And.intro ha4 he7) ?_
   refine bindC_intro (by (first | exact omQ | (clear hM; first | (have hk := base_rng (j := p4) (by omega) (by omega); exact omQ')))) ?_
   refine spQA (And.intro ha4 he7) ?_
   refine condC_intro (fun h8 => ?_) (fun h8 => ?_)
   ·rw [if_pos h8] at hM
    refine spQA (And.intro ha4 (And.intro he7 h8)) ?_
    have nh8 := nzQ h8
    try have hr9 := mpQ nh8
    refine bindC_intro (by (first | exact omQ | (clear hM; first | (have hk := base_rng (j := p4) (by omega) (by omega); exact omQ')))) ?_
    refine spQA (And.intro ha4 he7) ?_
    refine bindC_intro (by (first | exact omQ | (clear hM; first | (have hk := base_rng (j := p4) (by omega) (by omega); exact omQ')))) ?_
    refine spQA (And.intro ha4 he7) ?_
    subst hM
    exact retC_view (lfQA (And.intro ha4 (And.intro he7 (And.intro h1 (And.intro h5 h8)))))
   ·rw [if_neg (ne_true h8)] at hM
    refine spQA (And.intro ha4 (And.intro he7 h8)) ?_
    have nh8 := nzQ h8
    try have hr10 := mpQ nh8
    refine lp_intro (n4 - 1) _ (by omega) sbQ sbQ ⟨(p4 + 1), rfl, ⟨⟨by (first | exact omQ | (clear hM; first | (have hk := base_rng (j := (p4 + 1)) (by omega) (by omega); exact omQ'))), by (first | exact omQ | (clear hM; first | (have hk := base_rng (j := (p4 + 1)) (by omega) (by omega); exact omQ')))⟩, by (clear hM; exact NoDiv_stepR hF5_0 (by omega) (by omega) (by omega) (by assumption))⟩, by (first | exact omQ | (clear hM; first | (have hk := base_rng (j := (p4 + 1)) (by omega) (by omega); exact omQ'))), iter_again hM hag4⟩
  ·rw [if_neg (ne_true h5)] at hM
   refine spQA (And.intro ha4 h5) ?_
   have nh5 := nzQ h5
   try have hr11 := mpQ nh5
   refine condC_intro (fun h12 => ?_) (fun h12 => ?_)
   ·rw [if_pos h12] at hM
    refine spQA (And.intro ha4 h12) ?_
    have nh12 := nzQ h12
    try have hr13 := mpQ nh12
    exact False.elim (by (clear hM; omega))
   ·rw [if_neg (ne_true h12)] at hM
    refine spQA (And.intro ha4 h12) ?_
    have nh12 := nzQ h12
    try have hr14 := mpQ nh12
    have hM0 := hM; clear hM; obtain ⟨f15, d15, hf15, hd15, hM⟩ := iter_opn hM0; clear hM0
    refine ct_loop (fun n S => ∃ p : Int, S = (⟨[(0, .int .i64 n_), (3, .own 0), (5, .int .i64 p)], [(0, .own 3 1 false (some false) (([2, 3, 5, 7, 11, 13, 17, 19, 23, 29, 31, 37] : List Int).map (V.int .i64)))], 1⟩ : St) ∧ (((0 ≤ p) ∧ (p ≤ (12 : Int))) ∧ (37 < n_)) ∧ ((12 : Int) - p).toNat < n ∧ iter n f15 d15 p = r) (((12 : Int) - 0).toNat + 1) _ sbQ sbQ ⟨0, rfl, ⟨⟨by (first | exact omQ | (clear hM; first | (have hk := base_rng (j := p15) (by omega) (by omega); exact omQ'))), by (first | exact omQ | (clear hM; first | (have hk := base_rng (j := p15) (by omega) (by omega); exact omQ')))⟩, by (clear hM; exact NoDiv_all hF5_0 (by omega) (by omega))⟩, (Nat.lt_succ_self _), hM⟩ ?_
    clear hM
    rintro n15 S ⟨p15, rfl, ⟨hfa15, hF12_0⟩, hm15, hM⟩
    have hM0 := hM; clear hM; obtain ⟨ag15, hag15, hM⟩ := iter_step hM0 (by omega) hf15; clear hM0
    replace hfa15 := nzQ hfa15
    replace hm15 := nzQ hm15
    have ha15 : addI .i64 p15 1 = p15 + 1 := add_one (by (first | exact omQ | (clear hM; first | (have hk := base_rng (j := p15) (by omega) (by omega); exact omQ')))) (by (first | exact omQ | (clear hM; first | (have hk := base_rng (j := p15) (by omega) (by omega); exact omQ'))))
    refine spQA (And.intro ha4 ha15) ?_
    refine condC_intro (fun h16 => ?_) (fun h16 => ?_)
    ·rw [if_pos h16] at hM
     refine spQA (And.intro ha4 (And.intro ha15 h16)) ?_
     have nh16 := nzQ h16
     try have hr17 := mpQ nh16
     refine bindC_intro (by (first | exact omQ | (clear hM; first | (have hk := base_rng (j := p15) (by omega) (by omega); exact omQ')))) ?_
     have he18 := fun d => elt_mp (l := ([2, 3, 5, 7, 11, 13, 17, 19, 23, 29, 31, 37] : List Int)) (f := (V.int .i64)) (i := p15) (by (first | exact omQ | (clear hM; first | (have hk := base_rng (j := p15) (by omega) (by omega); exact omQ')))) d
     refine spQA (And.intro ha4 (And.intro ha15 he18)) ?_
     refine bindC_intro (by (first | exact omQ | (clear hM; first | (have hk := base_rng (j := p15) (by omega) (by omega); exact omQ')))) ?_
     refine spQA (And.intro ha4 (And.intro ha15 he18)) ?_
     have hM0 := hM; clear hM; obtain ⟨x19, hx20, hM⟩ := letk_opn hM0; clear hM0
     have hcx19 := cmH hx20 (specieref05_strong_ok  n_ (gt ([2, 3, 5, 7, 11, 13, 17, 19, 23, 29, 31, 37] : List Int) p15) (by (first | omega | (have hk := base_rng (j := p15) (by omega) (by omega); omega))) (by (first | omega | (have hk := base_rng (j := p15) (by omega) (by omega); omega))) (by (first | omega | (have hk := base_rng (j := p15) (by omega) (by omega); omega))) (by (first | omega | (have hk := base_rng (j := p15) (by omega) (by omega); omega))))
     refine callC_give hcx19 (clQA (And.intro ha4 (And.intro ha15 he18))) (clQA (And.intro ha4 (And.intro ha15 he18))) (fun hw21 => ?_)
     replace hw21 := nzQ hw21
     refine spQA (And.intro ha4 (And.intro ha15 he18)) ?_
     refine condC_intro (fun h22 => ?_) (fun h22 => ?_)
     ·rw [if_pos h22] at hM
      refine spQA (And.intro ha4 (And.intro ha15 (And.intro he18 h22))) ?_
      have nh22 := nzQ h22
      try have hr23 := mpQ nh22
      subst hM
      exact retC_view (lfQA (And.intro ha4 (And.intro ha15 (And.intro he18 (And.intro h1 (And.intro h5 (And.intro h12 (And.intro h16 h22))))))))
     ·rw [if_neg (ne_true h22)] at hM
      refine spQA (And.intro ha4 (And.intro ha15 (And.intro he18 h22))) ?_
      have nh22 := nzQ h22
      try have hr24 := mpQ nh22
      refine lp_intro (n15 - 1) _ (by omega) sbQ sbQ ⟨(p15 + 1), rfl, ⟨⟨by (first | exact omQ | (clear hM; first | (have hk := base_rng (j := (p15 + 1)) (by omega) (by omega); exact omQ'))), by (first | exact omQ | (clear hM; first | (have hk := base_rng (j := (p15 + 1)) (by omega) (by omega); exact omQ')))⟩, by (clear hM; exact hF12_0)⟩, by (first | exact omQ | (clear hM; first | (have hk := base_rng (j := (p15 + 1)) (by omega) (by omega); exact omQ'))), iter_again hM hag15⟩
    ·rw [if_neg (ne_true h16)] at hM
     refine spQA (And.intro ha4 (And.intro ha15 h16)) ?_
     have nh16 := nzQ h16
     try have hr25 := mpQ nh16
     subst hM
     exact retC_view (lfQA (And.intro ha4 (And.intro ha15 (And.intro h1 (And.intro h5 (And.intro h12 h16))))))
set_option maxHeartbeats 2000000 in
set_option maxRecDepth 100000 in
instance specieref10_Valid_ok   (g : S_api_Group)  : CM En (specieref10_Valid g) 75 [.agg [.int .i64 g.P, .int .i64 g.Q, .int .i64 g.G]] (fun y => .bool y) (fun _ => []) := by
 refine cmQ fun r hM => ?_
 rw [specieref10_Valid.eq_1] at hM
 refine enterV En_ok En_mo noJ Tryz.func75 rfl Tryz.ntmps75 (by kernel_rfl) fun hw => ct_start ?_
 refine spQ ?_
 replace hw := nzQ hw
 refine guardC_f (fun h1 => ?_) (fun h1 => ?_)
 ·rw [if_neg (ne_true h1)] at hM
  refine spQA h1 ?_
  have nh1 := nzQ h1
  try have hr2 := mpQ nh1
  refine guardC_f (fun h3 => ?_) (fun h3 => ?_)
  ·rw [if_neg (ne_true h3)] at hM
   refine spQA h3 ?_
   have nh3 := nzQ h3
   try have hr4 := mpQ nh3
   refine guardC_f (fun h5 => ?_) (fun h5 => ?_)
   ·rw [if_neg (ne_true h5)] at hM
    refine spQA h5 ?_
    have nh5 := nzQ h5
    try have hr6 := mpQ nh5
    refine bindC_intro omQ ?_
    refine spQ ?_
    refine guardC_f (fun h7 => ?_) (fun h7 => ?_)
    ·rw [if_neg (ne_true h7)] at hM
     refine spQA h7 ?_
     have nh7 := nzQ h7
     try have hr8 := mpQ nh7
     refine bindC_intro omQ ?_
     refine spQ ?_
     refine guardC_f (fun h9 => ?_) (fun h9 => ?_)
     ·rw [if_neg (ne_true h9)] at hM
      refine spQA h9 ?_
      have nh9 := nzQ h9
      try have hr10 := mpQ nh9
      refine guardC_f (fun h11 => ?_) (fun h11 => ?_)
      ·rw [if_neg (ne_true h11)] at hM
       refine spQA h11 ?_
       have nh11 := nzQ h11
       try have hr12 := mpQ nh11
       refine condC_intro (fun h13 => ?_) (fun h13 => ?_)
       ·rw [if_pos h13] at hM
        refine spQA h13 ?_
        have nh13 := nzQ h13
        try have hr14 := mpQ nh13
        subst hM
        exact retC_view (lfQA (And.intro h1 (And.intro h3 (And.intro h5 (And.intro h7 (And.intro h9 (And.intro h11 h13)))))))
       ·rw [if_neg (ne_true h13)] at hM
        refine spQA h13 ?_
        have nh13 := nzQ h13
        try have hr15 := mpQ nh13
        have hM0 := hM; clear hM; obtain ⟨x16, hx17, hM⟩ := letk_opn hM0; clear hM0
        have hcx16 := cmH hx17 (specieref05_Is_ok  (g.P) (by (first | omega | (refine q_le (p := g.P) ?_ ?_ ?_ ?_ <;> first | omega | assumption))))
        refine callC_give hcx16 clQ clQ (fun hw18 => ?_)
        replace hw18 := nzQ hw18
        refine spQ ?_
        refine guardC_t (fun h19 => ?_) (fun h19 => ?_)
        ·subst h19
         rw [if_pos rfl] at hM
         refine spQ ?_
         have hM0 := hM; clear hM; obtain ⟨x20, hx21, hM⟩ := letk_opn hM0; clear hM0
         have hcx20 := cmH hx21 (specieref05_Is_ok  (g.Q) (by (first | omega | (refine q_le (p := g.P) ?_ ?_ ?_ ?_ <;> first | omega | assumption))))
         refine callC_give hcx20 clQ clQ (fun hw22 => ?_)
         replace hw22 := nzQ hw22
         refine spQ ?_
         refine guardC_t (fun h23 => ?_) (fun h23 => ?_)
         ·subst h23
          rw [if_pos rfl] at hM
          refine spQ ?_
          have hM0 := hM; clear hM; obtain ⟨x24, hx25, hM⟩ := letk_opn hM0; clear hM0
          have hcx24 := cmH hx25 (specieref01_Pow_ok  (g.G) (g.Q) (g.P) (by (first | omega | assumption)) (by (first | omega | assumption)) (by (first | omega | assumption)) (by (first | omega | assumption)))
          refine callC_give hcx24 clQ clQ (fun hw26 => ?_)
          replace hw26 := nzQ hw26
          refine spQ ?_
          subst hM
          exact retC_view (lfQA (And.intro h1 (And.intro h3 (And.intro h5 (And.intro h7 (And.intro h9 (And.intro h11 h13)))))))
         ·subst h23
          rw [if_neg (by decide)] at hM
          refine spQ ?_
          subst hM
          exact retC_view (lfQA (And.intro h1 (And.intro h3 (And.intro h5 (And.intro h7 (And.intro h9 (And.intro h11 h13)))))))
        ·subst h19
         rw [if_neg (by decide)] at hM
         refine spQ ?_
         subst hM
         exact retC_view (lfQA (And.intro h1 (And.intro h3 (And.intro h5 (And.intro h7 (And.intro h9 (And.intro h11 h13)))))))
      ·rw [if_pos h11] at hM
       refine spQA h11 ?_
       have nh11 := nzQ h11
       try have hr27 := mpQ nh11
       subst hM
       exact retC_view (lfQA (And.intro h1 (And.intro h3 (And.intro h5 (And.intro h7 (And.intro h9 h11))))))
     ·rw [if_pos h9] at hM
      refine spQA h9 ?_
      have nh9 := nzQ h9
      try have hr28 := mpQ nh9
      subst hM
      exact retC_view (lfQA (And.intro h1 (And.intro h3 (And.intro h5 (And.intro h7 h9)))))
    ·rw [if_pos h7] at hM
     refine spQA h7 ?_
     have nh7 := nzQ h7
     try have hr29 := mpQ nh7
     subst hM
     exact retC_view (lfQA (And.intro h1 (And.intro h3 (And.intro h5 h7))))
   ·rw [if_pos h5] at hM
    refine spQA h5 ?_
    have nh5 := nzQ h5
    try have hr30 := mpQ nh5
    subst hM
    exact retC_view (lfQA (And.intro h1 (And.intro h3 h5)))
  ·rw [if_pos h3] at hM
   refine spQA h3 ?_
   have nh3 := nzQ h3
   try have hr31 := mpQ nh3
   subst hM
   exact retC_view (lfQA (And.intro h1 h3))
 ·rw [if_pos h1] at hM
  refine spQA h1 ?_
  have nh1 := nzQ h1
  try have hr32 := mpQ nh1
  subst hM
  exact retC_view (lfQA h1)
set_option maxHeartbeats 2000000 in
set_option maxRecDepth 100000 in
theorem specieref10_Member_ok   (g : S_api_Group) (x_ : Int) (hp0 : 3 ≤ g.Q) (hp1 : g.P < 2305843009213693952) : CM En (specieref10_Member g x_) 25 [.agg [.int .i64 g.P, .int .i64 g.Q, .int .i64 g.G], .int .i64 x_] (fun y => .bool y) (fun _ => []) := by
 refine cmQ fun r hM => ?_
 rw [specieref10_Member.eq_1] at hM
 refine enterV En_ok En_mo noJ Tryz.func25 rfl Tryz.ntmps25 (by kernel_rfl) fun hw => ct_start ?_
 refine spQ ?_
 replace hw := nzQ hw
 refine guardC_t (fun h1 => ?_) (fun h1 => ?_)
 ·rw [if_pos h1] at hM
  refine spQA h1 ?_
  have nh1 := nzQ h1
  try have hr2 := mpQ nh1
  refine guardC_t (fun h3 => ?_) (fun h3 => ?_)
  ·rw [if_pos h3] at hM
   refine spQA h3 ?_
   have nh3 := nzQ h3
   try have hr4 := mpQ nh3
   have hM0 := hM; clear hM; obtain ⟨x5, hx6, hM⟩ := letk_opn hM0; clear hM0
   have hcx5 := cmH hx6 (specieref01_Pow_ok  x_ (g.Q) (g.P) (by (exact pfQ)) (by (exact pfQ)) (by (exact pfQ)) (by (exact pfQ)))
   refine callC_give hcx5 clQ clQ (fun hw7 => ?_)
   replace hw7 := nzQ hw7
   refine spQ ?_
   subst hM
   exact retC_view (lfQA (And.intro h1 h3))
  ·rw [if_neg (ne_true h3)] at hM
   refine spQA h3 ?_
   have nh3 := nzQ h3
   try have hr8 := mpQ nh3
   subst hM
   exact retC_view (lfQA (And.intro h1 h3))
 ·rw [if_neg (ne_true h1)] at hM
  refine spQA h1 ?_
  have nh1 := nzQ h1
  try have hr9 := mpQ nh1
  subst hM
  exact retC_view (lfQA h1)
set_option maxHeartbeats 2000000 in
set_option maxRecDepth 100000 in
instance specieref11_Valid_ok   (b : S_api_Bases)  : CM En (specieref11_Valid b) 20 [(e_api_Bases b)] (fun y => .bool y) (fun _ => []) := by
 refine cmQ fun r hM => ?_
 rw [specieref11_Valid.eq_1] at hM
 refine enterV En_ok En_mo noJ Tryz.func20 rfl Tryz.ntmps20 (by kernel_rfl) fun hw => ct_start ?_
 refine spQ ?_
 replace hw := nzQ hw
 have hM0 := hM; clear hM; obtain ⟨x1, hx2, hM⟩ := letk_opn hM0; clear hM0
 have hcx1 := cmU hx2
 refine callC_give hcx1 clQ clQ (fun hw3 => ?_)
 replace hw3 := nzQ hw3
 refine spQ ?_
 have hq4 := nzQ (cfU hx2)
 refine guardC_t (fun h5 => ?_) (fun h5 => ?_)
 ·subst h5
  rw [if_pos rfl] at hM
  refine spQ ?_
  try have hr6 := mpQ (a := true = true) rfl
  refine guardC_t (fun h7 => ?_) (fun h7 => ?_)
  ·rw [if_pos h7] at hM
   refine spQA h7 ?_
   have nh7 := nzQ h7
   try have hr8 := mpQ nh7
   refine guardC_t (fun h9 => ?_) (fun h9 => ?_)
   ·rw [if_pos h9] at hM
    refine spQA h9 ?_
    have nh9 := nzQ h9
    try have hr10 := mpQ nh9
    refine guardC_t (fun h11 => ?_) (fun h11 => ?_)
    ·rw [if_pos h11] at hM
     refine spQA h11 ?_
     have nh11 := nzQ h11
     try have hr12 := mpQ nh11
     have hM0 := hM; clear hM; obtain ⟨x13, hx14, hM⟩ := letk_opn hM0; clear hM0
     have hcx13 := cmH hx14 (specieref10_Member_ok  (b.Group) (b.G1) (by (exact pfQ)) (by (exact pfQ)))
     refine callC_give hcx13 clQ clQ (fun hw15 => ?_)
     replace hw15 := nzQ hw15
     refine spQ ?_
     have hq16 := nzQ (cfU hx14)
     refine guardC_t (fun h17 => ?_) (fun h17 => ?_)
     ·subst h17
      rw [if_pos rfl] at hM
      refine spQ ?_
      try have hr18 := mpQ (a := true = true) rfl
      have hM0 := hM; clear hM; obtain ⟨x19, hx20, hM⟩ := letk_opn hM0; clear hM0
      have hcx19 := cmH hx20 (specieref10_Member_ok  (b.Group) (b.G2) (by (exact pfQ)) (by (exact pfQ)))
      refine callC_give hcx19 clQ clQ (fun hw21 => ?_)
      replace hw21 := nzQ hw21
      refine spQ ?_
      have hq22 := nzQ (cfU hx20)
      refine guardC_t (fun h23 => ?_) (fun h23 => ?_)
      ·subst h23
       rw [if_pos rfl] at hM
       refine spQ ?_
       try have hr24 := mpQ (a := true = true) rfl
       have hM0 := hM; clear hM; obtain ⟨x25, hx26, hM⟩ := letk_opn hM0; clear hM0
       have hcx25 := cmH hx26 (specieref10_Member_ok  (b.Group) (b.H) (by (exact pfQ)) (by (exact pfQ)))
       refine callC_give hcx25 clQ clQ (fun hw27 => ?_)
       replace hw27 := nzQ hw27
       refine spQ ?_
       have hq28 := nzQ (cfU hx26)
       subst hM
       exact retC_view (lfQA (And.intro h7 (And.intro h9 h11)))
      ·subst h23
       rw [if_neg (by decide)] at hM
       refine spQ ?_
       subst hM
       exact retC_view (lfQA (And.intro h7 (And.intro h9 h11)))
     ·subst h17
      rw [if_neg (by decide)] at hM
      refine spQ ?_
      subst hM
      exact retC_view (lfQA (And.intro h7 (And.intro h9 h11)))
    ·rw [if_neg (ne_true h11)] at hM
     refine spQA h11 ?_
     have nh11 := nzQ h11
     try have hr29 := mpQ nh11
     subst hM
     exact retC_view (lfQA (And.intro h7 (And.intro h9 h11)))
   ·rw [if_neg (ne_true h9)] at hM
    refine spQA h9 ?_
    have nh9 := nzQ h9
    try have hr30 := mpQ nh9
    subst hM
    exact retC_view (lfQA (And.intro h7 h9))
  ·rw [if_neg (ne_true h7)] at hM
   refine spQA h7 ?_
   have nh7 := nzQ h7
   try have hr31 := mpQ nh7
   subst hM
   exact retC_view (lfQA h7)
 ·subst h5
  rw [if_neg (by decide)] at hM
  refine spQ ?_
  subst hM
  exact retC_view lfQ
set_option maxHeartbeats 2000000 in
set_option maxRecDepth 100000 in
theorem specieref01_Reduce_ok   (a_ : Int) (m : Int) (hp0 : 1 ≤ m) (hp1 : m < 2305843009213693952) : CM En (specieref01_Reduce a_ m) 141 [.int .i64 a_, .int .i64 m] (fun y => .int .i64 y) (fun _ => []) := by
 refine cmQ fun r hM => ?_
 rw [specieref01_Reduce.eq_1] at hM
 refine enterV En_ok En_mo noJ Tryz.func141 rfl Tryz.ntmps141 (by kernel_rfl) fun hw => ct_start ?_
 refine spQ ?_
 replace hw := nzQ hw
 have hF := trueQ
 exact auQ
set_option maxHeartbeats 2000000 in
set_option maxRecDepth 100000 in
theorem specieref10_Power_ok   (g : S_api_Group) (a_ : Int) (e_ : Int) (hp0 : 3 ≤ g.Q) (hp1 : g.Q < 2305843009213693952) (hp2 : g.P < 2305843009213693952) (hp3 : 0 ≤ a_) (hp4 : a_ < g.P) : CM En (specieref10_Power g a_ e_) 72 [.agg [.int .i64 g.P, .int .i64 g.Q, .int .i64 g.G], .int .i64 a_, .int .i64 e_] (fun y => .int .i64 y) (fun _ => []) := by
 refine cmQ fun r hM => ?_
 rw [specieref10_Power.eq_1] at hM
 refine enterV En_ok En_mo noJ Tryz.func72 rfl Tryz.ntmps72 (by kernel_rfl) fun hw => ct_start ?_
 refine spQ ?_
 replace hw := nzQ hw
 refine ct_draw 15 7 [7, 8, 9, 10, 11, 12, 13] [] ([[], [], [], [2], [1, 2, 3], [], [5]] ++ [List.range 7, List.range 8]) [] (by kernel_rfl) (by exact alQ) ?_
 refine spQ ?_
 have hM0 := hM; clear hM; obtain ⟨x1, hx2, hM⟩ := letk_opn hM0; clear hM0
 have hcx1 := cmH hx2 (specieref01_Reduce_ok  e_ (g.Q) (by (exact pfQ)) (by (exact pfQ)))
 refine hcallC_give hcx1 clQ clQ ?_
 refine spQ ?_
 have hq3 := rred_rng hx2 (by omega) (by omega)
 replace hq3 := nzQ hq3
 have hM0 := hM; clear hM; obtain ⟨x4, hx5, hM⟩ := letk_opn hM0; clear hM0
 have hcx4 := cmH hx5 (specieref01_Pow_ok  a_ x1 (g.P) (by (exact pfQ)) (by (exact pfQ)) (by (exact pfQ)) (by (exact pfQ)))
 refine callC_give hcx4 clQ clQ (fun hw6 => ?_)
 replace hw6 := nzQ hw6
 refine spQ ?_
 subst hM
 exact retC_view lfQ
set_option maxHeartbeats 2000000 in
set_option maxRecDepth 100000 in
theorem specieref10_Mul_ok   (g : S_api_Group) (a_ : Int) (b : Int) (hp0 : 0 ≤ a_) (hp1 : a_ < g.P) (hp2 : 0 ≤ b) (hp3 : g.P < 2305843009213693952) : CM En (specieref10_Mul g a_ b) 142 [.agg [.int .i64 g.P, .int .i64 g.Q, .int .i64 g.G], .int .i64 a_, .int .i64 b] (fun y => .int .i64 y) (fun _ => []) := by
 refine cmQ fun r hM => ?_
 rw [specieref10_Mul.eq_1] at hM
 refine enterV En_ok En_mo noJ Tryz.func142 rfl Tryz.ntmps142 (by kernel_rfl) fun hw => ct_start ?_
 refine spQ ?_
 replace hw := nzQ hw
 have hM0 := hM; clear hM; obtain ⟨x1, hx2, hM⟩ := letk_opn hM0; clear hM0
 have hcx1 := cmH hx2 (specieref01_Mul_ok  a_ b (g.P) (by (exact pfQ)) (by (exact pfQ)) (by (exact pfQ)) (by (exact pfQ)))
 refine callC_give hcx1 clQ clQ (fun hw3 => ?_)
 replace hw3 := nzQ hw3
 refine spQ ?_
 subst hM
 exact retC_view lfQ
set_option maxHeartbeats 2000000 in
set_option maxRecDepth 100000 in
theorem specieref31_pair_ok   (b : S_api_Bases) (x_ : Int) (y : Int) (hp0 : 3 ≤ b.Group.Q) (hp1 : b.Group.P < 2305843009213693952) (hp2 : b.Group.Q < b.Group.P) (hp3 : 0 ≤ b.G1) (hp4 : b.G1 < b.Group.P) (hp5 : 0 ≤ b.G2) (hp6 : b.G2 < b.Group.P) : CM En (specieref31_pair b x_ y) 74 [(e_api_Bases b), .int .i64 x_, .int .i64 y] (fun y => .int .i64 y) (fun _ => []) := by
 refine cmQ fun r hM => ?_
 rw [specieref31_pair.eq_1] at hM
 refine enterV En_ok En_mo noJ Tryz.func74 rfl Tryz.ntmps74 (by kernel_rfl) fun hw => ct_start ?_
 refine spQ ?_
 replace hw := nzQ hw
 refine ct_draw 22 11 [10, 11, 12, 13, 14, 15, 16, 17, 18, 19, 20] [] ([[], [], [], [2], [], [1, 2, 3, 4], [], [], [7], [], [6, 7, 8, 9]] ++ [List.range 11, List.range 12]) [] (by kernel_rfl) (by exact alQ) ?_
 refine spQ ?_
 have hM0 := hM; clear hM; obtain ⟨x1, hx2, hM⟩ := letk_opn hM0; clear hM0
 have hcx1 := cmH hx2 (specieref10_Power_ok  (b.Group) (b.G1) x_ (by (exact pfQ)) (by (exact pfQ)) (by (exact pfQ)) (by (exact pfQ)) (by (exact pfQ)))
 refine hcallC_give hcx1 clQ clQ ?_
 refine spQ ?_
 have hq3 := rpower_rng hx2 (by omega) (by omega)
 replace hq3 := nzQ hq3
 have hM0 := hM; clear hM; obtain ⟨x4, hx5, hM⟩ := letk_opn hM0; clear hM0
 have hcx4 := cmH hx5 (specieref10_Power_ok  (b.Group) (b.G2) y (by (exact pfQ)) (by (exact pfQ)) (by (exact pfQ)) (by (exact pfQ)) (by (exact pfQ)))
 refine hcallC_give hcx4 clQ clQ ?_
 refine spQ ?_
 have hq6 := rpower_rng hx5 (by omega) (by omega)
 replace hq6 := nzQ hq6
 have hM0 := hM; clear hM; obtain ⟨x7, hx8, hM⟩ := letk_opn hM0; clear hM0
 have hcx7 := cmH hx8 (specieref10_Mul_ok  (b.Group) x1 x4 (by (exact pfQ)) (by (exact pfQ)) (by (exact pfQ)) (by (exact pfQ)))
 refine callC_give hcx7 clQ clQ (fun hw9 => ?_)
 replace hw9 := nzQ hw9
 refine spQ ?_
 subst hM
 exact retC_view lfQ
set_option maxHeartbeats 2000000 in
set_option maxRecDepth 100000 in
theorem specieref31_Message_ok   (b : S_api_Bases) (u : Int) (hp0 : 3 ≤ b.Group.Q) (hp1 : b.Group.P < 2305843009213693952) (hp2 : b.Group.Q < b.Group.P) (hp3 : 0 ≤ b.G1) (hp4 : b.G1 < b.Group.P) (hp5 : 0 ≤ b.G2) (hp6 : b.G2 < b.Group.P) : CM En (specieref31_Message b u) 73 [(e_api_Bases b), .int .i64 u] (fun y => .int .i64 y) (fun _ => []) := by
 refine cmQ fun r hM => ?_
 rw [specieref31_Message.eq_1] at hM
 refine enterV En_ok En_mo noJ Tryz.func73 rfl Tryz.ntmps73 (by kernel_rfl) fun hw => ct_start ?_
 refine spQ ?_
 replace hw := nzQ hw
 have hM0 := hM; clear hM; obtain ⟨x1, hx2, hM⟩ := letk_opn hM0; clear hM0
 have hcx1 := cmH hx2 (specieref31_pair_ok  b u 1 (by (exact pfQ)) (by (exact pfQ)) (by (exact pfQ)) (by (exact pfQ)) (by (exact pfQ)) (by (exact pfQ)) (by (exact pfQ)))
 refine callC_give hcx1 clQ clQ (fun hw3 => ?_)
 replace hw3 := nzQ hw3
 refine spQ ?_
 subst hM
 exact retC_view lfQ
set_option maxHeartbeats 2000000 in
set_option maxRecDepth 100000 in
theorem specieref31_User_ok   (b : S_api_Bases) (u : Int) (hp0 : 3 ≤ b.Group.Q) (hp1 : b.Group.P < 2305843009213693952) (hp2 : b.Group.Q < b.Group.P) (hp3 : 0 ≤ b.G1) (hp4 : b.G1 < b.Group.P) (hp5 : 0 ≤ b.G2) (hp6 : b.G2 < b.Group.P) : CM En (specieref31_User b u) 69 [(e_api_Bases b), .int .i64 u] (fun y => .bool y) (fun _ => []) := by
 refine cmQ fun r hM => ?_
 rw [specieref31_User.eq_1] at hM
 refine enterV En_ok En_mo noJ Tryz.func69 rfl Tryz.ntmps69 (by kernel_rfl) fun hw => ct_start ?_
 refine spQ ?_
 replace hw := nzQ hw
 refine guardC_t (fun h1 => ?_) (fun h1 => ?_)
 ·rw [if_pos h1] at hM
  refine spQA h1 ?_
  have nh1 := nzQ h1
  try have hr2 := mpQ nh1
  refine guardC_t (fun h3 => ?_) (fun h3 => ?_)
  ·rw [if_pos h3] at hM
   refine spQA h3 ?_
   have nh3 := nzQ h3
   try have hr4 := mpQ nh3
   have hM0 := hM; clear hM; obtain ⟨x5, hx6, hM⟩ := letk_opn hM0; clear hM0
   have hcx5 := cmH hx6 (specieref31_Message_ok  b u (by (exact pfQ)) (by (exact pfQ)) (by (exact pfQ)) (by (exact pfQ)) (by (exact pfQ)) (by (exact pfQ)) (by (exact pfQ)))
   refine callC_give hcx5 clQ clQ (fun hw7 => ?_)
   replace hw7 := nzQ hw7
   refine spQ ?_
   subst hM
   exact retC_view (lfQA (And.intro h1 h3))
  ·rw [if_neg (ne_true h3)] at hM
   refine spQA h3 ?_
   have nh3 := nzQ h3
   try have hr8 := mpQ nh3
   subst hM
   exact retC_view (lfQA (And.intro h1 h3))
 ·rw [if_neg (ne_true h1)] at hM
  refine spQA h1 ?_
  have nh1 := nzQ h1
  try have hr9 := mpQ nh1
  subst hM
  exact retC_view (lfQA h1)
set_option maxHeartbeats 2000000 in
set_option maxRecDepth 100000 in
instance specieref31_Depth_ok   (d_ : Int)  : CM En (specieref31_Depth d_) 21 [.int .i64 d_] (fun y => .bool y) (fun _ => []) := by
 refine cmQ fun r hM => ?_
 rw [specieref31_Depth.eq_1] at hM
 refine enterV En_ok En_mo noJ Tryz.func21 rfl Tryz.ntmps21 (by kernel_rfl) fun hw => ct_start ?_
 refine spQ ?_
 replace hw := nzQ hw
 have hF := trueQ
 exact auQ
set_option maxHeartbeats 2000000 in
set_option maxRecDepth 100000 in
instance specieref31_Scalar_ok   (g : S_api_Group) (x_ : Int)  : CM En (specieref31_Scalar g x_) 70 [.agg [.int .i64 g.P, .int .i64 g.Q, .int .i64 g.G], .int .i64 x_] (fun y => .bool y) (fun _ => []) := by
 refine cmQ fun r hM => ?_
 rw [specieref31_Scalar.eq_1] at hM
 refine enterV En_ok En_mo noJ Tryz.func70 rfl Tryz.ntmps70 (by kernel_rfl) fun hw => ct_start ?_
 refine spQ ?_
 replace hw := nzQ hw
 have hF := trueQ
 exact auQ
set_option maxHeartbeats 2000000 in
set_option maxRecDepth 100000 in
theorem specieref31_Leaves_ok   (b : S_api_Bases) (x_ : (List (List Int))) (hp0 : 3 ≤ b.Group.Q) (hp1 : b.Group.P < 2305843009213693952) (hp2 : b.Group.Q < b.Group.P) (hp3 : 0 ≤ b.G1) (hp4 : b.G1 < b.Group.P) (hp5 : 0 ≤ b.G2) (hp6 : b.G2 < b.Group.P) : CM En (specieref31_Leaves b x_) 19 [(e_api_Bases b), .sl none 2 true (x_.map (fun l => .agg [.int .i64 (gt l 0), .int .i64 (gt l 1)]))] (fun y => .sl none 1 false (y.map (V.int .i64))) (fun _ => []) := by
 refine cmQ fun r hM => ?_
 rw [specieref31_Leaves.eq_1] at hM
 refine enterV En_ok En_mo noJ Tryz.func19 rfl Tryz.ntmps19 (by kernel_rfl) fun hw => ct_start ?_
 refine spQ ?_
 replace hw := nzQ hw
 have hM0 := hM; clear hM; obtain ⟨f1, d1, hf1, hd1, hM⟩ := iter_opn hM0; clear hM0
 refine ct_loopW (fun n S => ∃ p : Int × List Int, S = (⟨[(1, .sl none 2 true (x_.map (fun l => .agg [.int .i64 (gt l 0), .int .i64 (gt l 1)]))), (2, .ptr 0 0), (5, .own 1), (6, .int .i64 p.1)], [(0, .var 6 true ((e_api_Bases b))), (1, .own 3 1 false none (p.2.map (V.int .i64)))], 2⟩ : St) ∧ ((0 ≤ p.1) ∧ (p.1 ≤ (x_.length : Int)) ∧ (((p.2).length : Int) ≤ p.1)) ∧ ((x_.length : Int) - p.1).toNat < n ∧ iter n f1 d1 p = r) (((x_.length : Int) - 0).toNat + 1) _ _ (weak_nil 5 3 rfl (by decide)) sbQ sbQ ⟨(0, ([] : List Int)), rfl, ⟨omQ, omQ, omQ⟩, (Nat.lt_succ_self _), hM⟩ ?_
 clear hM
 rintro n1 S ⟨p1, rfl, hfa1, hm1, hM⟩
 have hM0 := hM; clear hM; obtain ⟨ag1, hag1, hM⟩ := iter_step hM0 (by omega) hf1; clear hM0
 replace hfa1 := nzQ hfa1
 replace hm1 := nzQ hm1
 have ha1 : addI .i64 p1.1 1 = p1.1 + 1 := add_one omQ omQ
 refine spQA ha1 ?_
 refine condC_intro (fun h2 => ?_) (fun h2 => ?_)
 ·rw [if_pos h2] at hM
  refine spQA (And.intro ha1 h2) ?_
  have nh2 := nzQ h2
  try have hr3 := mpQ nh2
  refine ct_draw 29 14 [13, 14, 15, 16, 17, 18, 19, 20, 21, 22, 23, 24, 25, 26] [] ([[], [], [], [], [2, 3], [2, 3, 4], [2, 3, 4, 5], [], [], [7, 8], [7, 8, 9], [7, 8, 9, 10], [1, 2, 3, 4, 5, 6, 7, 8, 9, 10, 11], [1, 2, 3, 4, 5, 6, 7, 8, 9, 10, 11, 12]] ++ [List.range 14, List.range 15]) [] (by kernel_rfl) (by exact alQ) ?_
  refine spQA ha1 ?_
  refine hbindC_intro omQ ?_
  have he4 := fun d => elt_mp (l := x_) (f := (fun l => .agg [.int .i64 (gt l 0), .int .i64 (gt l 1)])) (i := p1.1) omQ d
  refine spQA (And.intro ha1 he4) ?_
  refine hbindC_intro omQ ?_
  refine spQA (And.intro ha1 he4) ?_
  have hM0 := hM; clear hM; obtain ⟨x5, hx6, hM⟩ := letk_opn hM0; clear hM0
  have hcx5 := cmH hx6 (specieref31_pair_ok  b (gt (gt x_ p1.1) 0) (gt (gt x_ p1.1) 1) (by (exact pfQ)) (by (exact pfQ)) (by (exact pfQ)) (by (exact pfQ)) (by (exact pfQ)) (by (exact pfQ)) (by (exact pfQ)))
  refine hcallC_give hcx5 (clQA (And.intro ha1 he4)) (clQA (And.intro ha1 he4)) ?_
  refine spQA (And.intro ha1 he4) ?_
  have hF := (And.intro ha1 (And.intro h2 he4))
  exact auQ
 ·rw [if_neg (ne_true h2)] at hM
  refine spQA (And.intro ha1 h2) ?_
  have nh2 := nzQ h2
  try have hr7 := mpQ nh2
  subst hM
  exact retC_view (lfQA (And.intro ha1 h2))
set_option maxHeartbeats 2000000 in
set_option maxRecDepth 100000 in
instance specieref31_has_ok   (l : (List Int)) (x_ : Int)  : CM En (specieref31_has l x_) 71 [.sl none 1 false (l.map (V.int .i64)), .int .i64 x_] (fun y => .bool y) (fun _ => []) := by
 refine cmQ fun r hM => ?_
 rw [specieref31_has.eq_1] at hM
 refine enterV En_ok En_mo noJ Tryz.func71 rfl Tryz.ntmps71 (by kernel_rfl) fun hw => ct_start ?_
 refine spQ ?_
 replace hw := nzQ hw
 have hM0 := hM; clear hM; obtain ⟨f1, d1, hf1, hd1, hM⟩ := iter_opn hM0; clear hM0
 refine ct_loop (fun n S => ∃ p : Int, S = (⟨[(0, .sl none 1 false (l.map (V.int .i64))), (1, .int .i64 x_), (5, .int .i64 p)], [], 0⟩ : St) ∧ ((0 ≤ p) ∧ (p ≤ (l.length : Int))) ∧ ((l.length : Int) - p).toNat < n ∧ iter n f1 d1 p = r) (((l.length : Int) - 0).toNat + 1) _ sbQ sbQ ⟨0, rfl, ⟨omQ, omQ⟩, (Nat.lt_succ_self _), hM⟩ ?_
 clear hM
 rintro n1 S ⟨p1, rfl, hfa1, hm1, hM⟩
 have hM0 := hM; clear hM; obtain ⟨ag1, hag1, hM⟩ := iter_step hM0 (by omega) hf1; clear hM0
 replace hfa1 := nzQ hfa1
 replace hm1 := nzQ hm1
 have ha1 : addI .i64 p1 1 = p1 + 1 := add_one omQ omQ
 refine spQA ha1 ?_
 have hF := ha1
 exact auQ
instance (priority := 1007) : DRD 8 88 17 [50, 51, 52, 53, 54, 55, 56, 57, 58, 59, 60, 61, 62, 63, 64, 65, 66] [] ([[], [], [1], [], [1, 2, 3], [1, 2, 3, 4], [1, 2, 3, 4, 5], [0, 1, 2, 3, 4, 5, 6], [0, 1, 2, 3, 4, 5, 6, 7], [0, 1, 2, 3, 4, 5, 6, 7, 8], [0, 1, 2, 3, 4, 5, 6, 7, 8, 9], [0, 1, 2, 3, 4, 5, 6, 7, 8, 9], [0, 1, 2, 3, 4, 5, 6, 7, 8, 9, 11], [0, 1, 2, 3, 4, 5, 6, 7, 8, 9], [0, 1, 2, 3, 4, 5, 6, 7, 8, 9, 11, 12, 13], [0, 1, 2, 3, 4, 5, 6, 7, 8, 9, 11, 12, 13, 14], [0, 1, 2, 3, 4, 5, 6, 7, 8, 9, 11, 12, 13, 14, 15]] ++ [List.range 17, List.range 18, List.range 19]) [] := ⟨trivial⟩
instance (priority := 1008) : DRD 14 88 7 [80, 81, 82, 83, 84, 85, 86] [] ([[], [], [0, 1], [], [], [3, 4], [3, 4, 5]] ++ [List.range 7]) [] := ⟨trivial⟩
set_option maxHeartbeats 2000000 in
set_option maxRecDepth 100000 in
instance specieref31_Secret_ok   (b : S_api_Bases) (s : S_api_CoinSecret)  : CM En (specieref31_Secret b s) 16 [(e_api_Bases b), .agg [.int .i64 s.U, .int .i64 s.S, .sl none 2 true (s.X.map (fun l => .agg [.int .i64 (gt l 0), .int .i64 (gt l 1)]))]] (fun y => .bool y) (fun _ => []) := by
 refine cmQ fun r hM => ?_
 rw [specieref31_Secret.eq_1] at hM
 refine enterV En_ok En_mo noJ Tryz.func16 rfl Tryz.ntmps16 (by kernel_rfl) fun hw => ct_start ?_
 refine spQ ?_
 replace hw := nzQ hw
 have hM0 := hM; clear hM; obtain ⟨x1, hx2, hM⟩ := letk_opn hM0; clear hM0
 have hcx1 := cmU hx2
 refine callC_give hcx1 clQ clQ (fun hw3 => ?_)
 replace hw3 := nzQ hw3
 refine spQ ?_
 have hM0 := hM; clear hM; obtain ⟨x4, hx5, hM⟩ := letk_opn hM0; clear hM0
 have hcx4 := cmU hx5
 refine callC_give hcx4 clQ clQ (fun hw6 => ?_)
 replace hw6 := nzQ hw6
 refine spQ ?_
 have hq7 := nzQ (cfU hx5)
 refine guardC_f (fun h8 => ?_) (fun h8 => ?_)
 ·rw [if_neg (ne_true h8)] at hM
  refine spQA h8 ?_
  have nh8 := nzQ h8
  try have hr9 := mpQ nh8
  have hM0 := hM; clear hM; obtain ⟨x10, hx11, hM⟩ := letk_opn hM0; clear hM0
  have hcx10 := cmH hx11 (specieref31_User_ok  b (s.U) (by (exact pfQ)) (by (exact pfQ)) (by (exact pfQ)) (by (exact pfQ)) (by (exact pfQ)) (by (exact pfQ)) (by (exact pfQ)))
  refine callC_give hcx10 clQ clQ (fun hw12 => ?_)
  replace hw12 := nzQ hw12
  refine spQ ?_
  refine guardC_f (fun h13 => ?_) (fun h13 => ?_)
  ·rw [if_neg (ne_true h13)] at hM
   refine spQA h13 ?_
   have nh13 := nzQ h13
   try have hr14 := mpQ nh13
   refine guardC_f (fun h15 => ?_) (fun h15 => ?_)
   ·rw [if_neg (ne_true h15)] at hM
    refine spQA h15 ?_
    have nh15 := nzQ h15
    try have hr16 := mpQ nh15
    refine guardC_f (fun h17 => ?_) (fun h17 => ?_)
    ·rw [if_neg (ne_true h17)] at hM
     refine spQA h17 ?_
     have nh17 := nzQ h17
     try have hr18 := mpQ nh17
     have hM0 := hM; clear hM; obtain ⟨x19, hx20, hM⟩ := letk_opn hM0; clear hM0
     have hcx19 := cmU hx20
     refine callC_give hcx19 clQ clQ (fun hw21 => ?_)
     replace hw21 := nzQ hw21
     refine spQ ?_
     refine condC_intro (fun h22 => ?_) (fun h22 => ?_)
     ·rw [if_pos h22] at hM
      refine spQA h22 ?_
      have nh22 := nzQ h22
      try have hr23 := mpQ nh22
      subst hM
      exact retC_view (lfQA (And.intro h8 (And.intro h13 (And.intro h15 (And.intro h17 h22)))))
     ·rw [if_neg (ne_true h22)] at hM
      refine spQA h22 ?_
      have nh22 := nzQ h22
      try have hr24 := mpQ nh22
      have hM0 := hM; clear hM; obtain ⟨f25, d25, hf25, hd25, hM⟩ := iter_opn hM0; clear hM0
      refine ct_loop (fun n S => ∃ p : Int, S = (⟨[(2, .ptr 0 0), (3, .ptr 1 0), (5, .ptr 2 0), (7, .int .i64 p)], [(0, .var 6 true ((e_api_Bases b))), (1, .var 3 true (.agg [.int .i64 s.U, .int .i64 s.S, .sl none 2 true (s.X.map (fun l => .agg [.int .i64 (gt l 0), .int .i64 (gt l 1)]))])), (2, .var 3 true (.agg [.int .i64 b.Group.P, .int .i64 b.Group.Q, .int .i64 b.Group.G]))], 3⟩ : St) ∧ ((0 ≤ p) ∧ (p ≤ (s.X.length : Int))) ∧ ((s.X.length : Int) - p).toNat < n ∧ iter n f25 d25 p = r) (((s.X.length : Int) - 0).toNat + 1) _ sbQ sbQ ⟨0, rfl, ⟨omQ, omQ⟩, (Nat.lt_succ_self _), hM⟩ ?_
      clear hM
      rintro n25 S ⟨p25, rfl, hfa25, hm25, hM⟩
      have hM0 := hM; clear hM; obtain ⟨ag25, hag25, hM⟩ := iter_step hM0 (by omega) hf25; clear hM0
      replace hfa25 := nzQ hfa25
      replace hm25 := nzQ hm25
      have ha25 : addI .i64 p25 1 = p25 + 1 := add_one omQ omQ
      refine spQA ha25 ?_
      refine condC_intro (fun h26 => ?_) (fun h26 => ?_)
      ·rw [if_pos h26] at hM
       refine spQA (And.intro ha25 h26) ?_
       have nh26 := nzQ h26
       try have hr27 := mpQ nh26
       have hF := (And.intro h8 (And.intro h13 (And.intro h15 (And.intro h17 (And.intro h22 (And.intro ha25 h26))))))
       exact auQ
      ·rw [if_neg (ne_true h26)] at hM
       refine spQA (And.intro ha25 h26) ?_
       have nh26 := nzQ h26
       try have hr40 := mpQ nh26
       have hM0 := hM; clear hM; obtain ⟨x41, hx42, hM⟩ := letk_opn hM0; clear hM0
       have hcx41 := cmH hx42 (specieref31_Leaves_ok  b (s.X) (by (exact pfQ)) (by (exact pfQ)) (by (exact pfQ)) (by (exact pfQ)) (by (exact pfQ)) (by (exact pfQ)) (by (exact pfQ)))
       refine callC_give hcx41 (clQA ha25) (clQA ha25) (fun hw43 => ?_)
       replace hw43 := nzQ hw43
       refine spQA ha25 ?_
       have hM0 := hM; clear hM; obtain ⟨f44, d44, hf44, hd44, hM⟩ := iter_opn hM0; clear hM0
       refine ct_loop (fun n S => ∃ p : Int, S = (⟨[(8, .sl none 1 false (x41.map (V.int .i64))), (9, .int .i64 p)], [], 3⟩ : St) ∧ ((0 ≤ p) ∧ (p ≤ (x41.length : Int))) ∧ ((x41.length : Int) - p).toNat < n ∧ iter n f44 d44 p = r) (((x41.length : Int) - 0).toNat + 1) _ sbQ sbQ ⟨0, rfl, ⟨omQ, omQ⟩, (Nat.lt_succ_self _), hM⟩ ?_
       clear hM
       rintro n44 S ⟨p44, rfl, hfa44, hm44, hM⟩
       have hM0 := hM; clear hM; obtain ⟨ag44, hag44, hM⟩ := iter_step hM0 (by omega) hf44; clear hM0
       replace hfa44 := nzQ hfa44
       replace hm44 := nzQ hm44
       have ha44 : addI .i64 p44 1 = p44 + 1 := add_one omQ omQ
       refine spQA (And.intro ha25 ha44) ?_
       have hF := (And.intro h8 (And.intro h13 (And.intro h15 (And.intro h17 (And.intro h22 (And.intro ha25 (And.intro h26 ha44)))))))
       exact auQ
    ·rw [if_pos h17] at hM
     refine spQA h17 ?_
     have nh17 := nzQ h17
     try have hr53 := mpQ nh17
     subst hM
     exact retC_view (lfQA (And.intro h8 (And.intro h13 (And.intro h15 h17))))
   ·rw [if_pos h15] at hM
    refine spQA h15 ?_
    have nh15 := nzQ h15
    try have hr54 := mpQ nh15
    subst hM
    exact retC_view (lfQA (And.intro h8 (And.intro h13 h15)))
  ·rw [if_pos h13] at hM
   refine spQA h13 ?_
   have nh13 := nzQ h13
   try have hr55 := mpQ nh13
   subst hM
   exact retC_view (lfQA (And.intro h8 h13))
 ·rw [if_pos h8] at hM
  refine spQA h8 ?_
  have nh8 := nzQ h8
  try have hr56 := mpQ nh8
  subst hM
  exact retC_view (lfQA h8)
set_option maxHeartbeats 2000000 in
set_option maxRecDepth 100000 in
theorem specieref31_Pseudonym_ok   (b : S_api_Bases) (s : S_api_CoinSecret) (hp0 : 3 ≤ b.Group.Q) (hp1 : b.Group.P < 2305843009213693952) (hp2 : b.Group.Q < b.Group.P) (hp3 : 0 ≤ b.G1) (hp4 : b.G1 < b.Group.P) (hp5 : 0 ≤ b.G2) (hp6 : b.G2 < b.Group.P) : CM En (specieref31_Pseudonym b s) 17 [(e_api_Bases b), .agg [.int .i64 s.U, .int .i64 s.S, .sl none 2 true (s.X.map (fun l => .agg [.int .i64 (gt l 0), .int .i64 (gt l 1)]))]] (fun y => .int .i64 y) (fun _ => []) := by
 refine cmQ fun r hM => ?_
 rw [specieref31_Pseudonym.eq_1] at hM
 refine enterV En_ok En_mo noJ Tryz.func17 rfl Tryz.ntmps17 (by kernel_rfl) fun hw => ct_start ?_
 refine spQ ?_
 replace hw := nzQ hw
 refine ct_draw 14 8 [5, 6, 7, 8, 9, 10, 11, 12] [] ([[], [0], [], [], [3], [2, 3, 4], [], [6]] ++ [List.range 8, List.range 9]) [] (by kernel_rfl) (by exact alQ) ?_
 refine spQ ?_
 have hM0 := hM; clear hM; obtain ⟨x1, hx2, hM⟩ := letk_opn hM0; clear hM0
 have hcx1 := cmH hx2 (specieref31_Message_ok  b (s.U) (by (exact pfQ)) (by (exact pfQ)) (by (exact pfQ)) (by (exact pfQ)) (by (exact pfQ)) (by (exact pfQ)) (by (exact pfQ)))
 refine hcallC_give hcx1 clQ clQ ?_
 refine spQ ?_
 have hq3 := rmsg_rng hx2 (by omega) (by omega) (by omega) (by omega)
 replace hq3 := nzQ hq3
 have hM0 := hM; clear hM; obtain ⟨x4, hx5, hM⟩ := letk_opn hM0; clear hM0
 have hcx4 := cmH hx5 (specieref10_Power_ok  (b.Group) x1 (s.S) (by (exact pfQ)) (by (exact pfQ)) (by (exact pfQ)) (by (exact pfQ)) (by (exact pfQ)))
 refine callC_give hcx4 clQ clQ (fun hw6 => ?_)
 replace hw6 := nzQ hw6
 refine spQ ?_
 subst hM
 exact retC_view lfQ
set_option maxHeartbeats 2000000 in
set_option maxRecDepth 100000 in
theorem specielaw31_CoinParts_1_ok   (x_ : Int) (c0 : S_api_Bases) (hp0 : 3 ≤ c0.Group.Q) (hp1 : c0.Group.P < 2305843009213693952) : CM En (specielaw31_CoinParts_1 x_ c0) 24 [.int .i64 x_, .pp 6 true ((e_api_Bases c0))] (fun y => .bool y) (fun _ => []) := by
 refine cmQ fun r hM => ?_
 rw [specielaw31_CoinParts_1.eq_1] at hM
 refine enterV En_ok En_mo noJ Tryz.func24 rfl Tryz.ntmps24 (by kernel_rfl) fun hw => ct_start ?_
 refine spQ ?_
 replace hw := nzQ hw
 have hM0 := hM; clear hM; obtain ⟨x1, hx2, hM⟩ := letk_opn hM0; clear hM0
 have hcx1 := cmH hx2 (specieref10_Member_ok  (c0.Group) x_ (by (exact pfQ)) (by (exact pfQ)))
 refine callC_give hcx1 clQ clQ (fun hw3 => ?_)
 replace hw3 := nzQ hw3
 refine spQ ?_
 have hq4 := nzQ (cfU hx2)
 subst hM
 exact retC_view lfQ
set_option maxHeartbeats 2000000 in
set_option maxRecDepth 100000 in
theorem specieref07_number_ok   (n_ : Int) (size : Int) (hp0 : 0 ≤ size) (hp1 : size ≤ 8) : CM En (specieref07_number n_ size) 146 [.int .u64 n_, .int .i64 size] (fun y => .sl none 1 false (y.map (V.int .u8))) (fun _ => []) := by
 refine cmQ fun r hM => ?_
 rw [specieref07_number.eq_1] at hM
 refine enterV En_ok En_mo noJ Tryz.func146 rfl Tryz.ntmps146 (by kernel_rfl) fun hw => ct_start ?_
 refine spQ ?_
 replace hw := nzQ hw
 refine bindC_intro omQ ?_
 refine spQ ?_
 have ha1 : subI .i64 size 1 = (size - 1) := sub_ok omQ omQ
 try simp only [ha1]
 have hM0 := hM; clear hM; obtain ⟨f2, d2, hf2, hd2, hM⟩ := iter_opn hM0; clear hM0
 refine ct_loop (fun n S => ∃ p : Int × Int × List Int, S = (⟨[(0, .int .u64 p.1), (5, .own 0), (6, .int .i64 p.2.1)], [(0, .own 5 1 false none (p.2.2.map (V.int .u8)))], 1⟩ : St) ∧ ((-1 ≤ p.2.1) ∧ (p.2.1 < size) ∧ (((p.2.2).length : Int) = size)) ∧ (p.2.1 + 1).toNat < n ∧ iter n f2 d2 p = r) (((size - 1) + 1).toNat + 1) _ sbQ sbQ ⟨(n_, (size - 1), (rep size.toNat (0 : Int))), rfl, ⟨omQ, omQ, omQ⟩, (Nat.lt_succ_self _), hM⟩ ?_
 clear hM
 rintro n2 S ⟨p2, rfl, hfa2, hm2, hM⟩
 have hM0 := hM; clear hM; obtain ⟨ag2, hag2, hM⟩ := iter_step hM0 (by omega) hf2; clear hM0
 replace hfa2 := nzQ hfa2
 replace hm2 := nzQ hm2
 refine spQA ha1 ?_
 refine condC_intro (fun h3 => ?_) (fun h3 => ?_)
 ·rw [if_pos h3] at hM
  refine spQA (And.intro ha1 h3) ?_
  have nh3 := nzQ h3
  try have hr4 := mpQ nh3
  refine bindC_intro omQ ?_
  refine spQA ha1 ?_
  refine bindC_intro omQ ?_
  have he5 := fun d => elt_mp (l := p2.2.2) (f := (V.int .u8)) (i := p2.2.1) omQ d
  refine spQA (And.intro ha1 he5) ?_
  refine bindC_intro omQ ?_
  refine spQA (And.intro ha1 he5) ?_
  refine bindC_intro omQ ?_
  refine spQA (And.intro ha1 he5) ?_
  have ha6 : subI .i64 p2.2.1 1 = (p2.2.1 - 1) := sub_ok omQ omQ
  try simp only [ha6]
  refine lp_intro (n2 - 1) _ (by omega) sbQ sbQ ⟨((quoI .u64 p2.1 256), (p2.2.1 - 1), (st p2.2.2 p2.2.1 (convI .u8 (remI .u64 p2.1 256)))), rfl, ⟨omQ, omQ, omQ⟩, omQ, iter_again hM hag2⟩
 ·rw [if_neg (ne_true h3)] at hM
  refine spQA (And.intro ha1 h3) ?_
  have nh3 := nzQ h3
  try have hr7 := mpQ nh3
  subst hM
  exact retC_view (lfQA (And.intro ha1 h3))
set_option maxHeartbeats 2000000 in
set_option maxRecDepth 100000 in
theorem specieref07_Encode_ok (N : Nat) (ih : ∀  (i_ : S_api_Item), (hgt i_ ≤ 50000000) → hgt i_ < N → CallOk En 79 [.agg [.int .i64 i_.Kind, .int .i64 i_.N, .sl none 1 false (i_.B.map (V.int .u8)), .sl none 4 true (i_.L.map e_api_Item)]] (.sl none 1 false ((encI i_).map (V.int .u8))) [])  (i_ : S_api_Item) (hp0 : hgt i_ ≤ 50000000) (hp_ : hgt i_ < N + 1) : CallOk En 79 [.agg [.int .i64 i_.Kind, .int .i64 i_.N, .sl none 1 false (i_.B.map (V.int .u8)), .sl none 4 true (i_.L.map e_api_Item)]] (.sl none 1 false ((specieref07_Encode i_).map (V.int .u8))) [] := by
 generalize hM : specieref07_Encode i_ = r
 rw [specieref07_Encode.eq_1] at hM
 refine enterV En_ok En_mo noJ Tryz.func79 rfl Tryz.ntmps79 (by kernel_rfl) fun hw => ct_start ?_
 refine spQ ?_
 replace hw := nzQ hw
 refine condC_intro (fun h1 => ?_) (fun h1 => ?_)
 ·rw [if_pos h1] at hM
  refine spQA h1 ?_
  have nh1 := nzQ h1
  try have hr2 := mpQ nh1
  have hM0 := hM; clear hM; obtain ⟨x3, hx4, hM⟩ := letk_opn hM0; clear hM0
  have hcx3 := cmH hx4 (specieref07_number_ok  (convI .u64 i_.N) 8 (by (exact pfQ)) (by (exact pfQ)))
  refine callC_give hcx3 clQ clQ (fun hw5 => ?_)
  replace hw5 := nzQ hw5
  refine spQ ?_
  have hq6 := rnl hx4 (by decide)
  replace hq6 := nzQ hq6
  refine bindC_intro (by (first | exact omQ | (clear hM; first | (have h9 := hgt_eq i_; exact omQ')))) ?_
  refine spQ ?_
  subst hM
  exact retC_view (lfQA h1)
 ·rw [if_neg (ne_true h1)] at hM
  refine spQA h1 ?_
  have nh1 := nzQ h1
  try have hr7 := mpQ nh1
  refine condC_intro (fun h8 => ?_) (fun h8 => ?_)
  ·rw [if_pos h8] at hM
   refine spQA h8 ?_
   have nh8 := nzQ h8
   try have hr9 := mpQ nh8
   refine ct_draw 50 9 [17, 18, 19, 20, 21, 22, 23, 24, 25] [] ([[], [], [1], [1, 2], [1, 2, 3], [1, 2, 3, 4], [0, 1, 2, 3, 4, 5], [], [7]] ++ [List.range 9, List.range 10]) [(6, 1)] (by kernel_rfl) (by exact alQ) ?_
   refine spQ ?_
   have hM0 := hM; clear hM; obtain ⟨x10, hx11, hM⟩ := letk_opn hM0; clear hM0
   have hcx10 := cmH hx11 (specieref07_number_ok  (convI .u64 (i_.B.length : Int)) 4 (by (exact pfQ)) (by (exact pfQ)))
   refine hcallC_give hcx10 clQ clQ ?_
   refine spQ ?_
   have hq12 := rnl hx11 (by decide)
   replace hq12 := nzQ hq12
   refine hbindC_introA (by (first | exact omQ | (clear hM; first | (have h9 := hgt_eq i_; exact omQ')))) clQ ?_
   refine spQ ?_
   refine bindC_intro (by (first | exact omQ | (clear hM; first | (have h9 := hgt_eq i_; exact omQ')))) ?_
   refine spQ ?_
   subst hM
   exact retC_view (lfQA (And.intro h1 h8))
  ·rw [if_neg (ne_true h8)] at hM
   refine spQA h8 ?_
   have nh8 := nzQ h8
   try have hr13 := mpQ nh8
   have hM0 := hM; clear hM; obtain ⟨x14, hx15, hM⟩ := letk_opn hM0; clear hM0
   have hcx14 := cmH hx15 (specieref07_number_ok  (convI .u64 (i_.L.length : Int)) 4 (by (exact pfQ)) (by (exact pfQ)))
   refine callC_give hcx14 clQ clQ (fun hw16 => ?_)
   replace hw16 := nzQ hw16
   refine spQ ?_
   have hq17 := rnl hx15 (by decide)
   replace hq17 := nzQ hq17
   refine bindC_intro (by (first | exact omQ | (clear hM; first | (have h9 := hgt_eq i_; exact omQ')))) ?_
   refine spQ ?_
   have hM0 := hM; clear hM; obtain ⟨f18, d18, hf18, hd18, hM⟩ := iter_opn hM0; clear hM0
   refine ct_loop (fun n S => ∃ p : Int × List Int, S = (⟨[(1, .ptr 0 0), (3, .own 1), (4, .int .i64 p.1)], [(0, .var 4 true (.agg [.int .i64 i_.Kind, .int .i64 i_.N, .sl none 1 false (i_.B.map (V.int .u8)), .sl none 4 true (i_.L.map e_api_Item)])), (1, .own 5 1 false none (p.2.map (V.int .u8)))], 2⟩ : St) ∧ (((0 ≤ p.1) ∧ (p.1 ≤ (i_.L.length : Int))) ∧ (((p.2).length : Int) + 9 * (hgtL (i_.L.drop (p.1).toNat) : Int) ≤ 9 * (hgt i_ : Int))) ∧ ((i_.L.length : Int) - p.1).toNat < n ∧ iter n f18 d18 p = r) (((i_.L.length : Int) - 0).toNat + 1) _ sbQ sbQ ⟨(0, (([3] : List Int) ++ x14)), rfl, ⟨⟨by (first | exact omQ | (clear hM; first | (have h9 := hgt_eq i_; exact omQ') | (have h9 := hgt_L (i := i_) (gt_mem (l := i_.L) (i := p18.1) (by omega)); exact omQ'))), by (first | exact omQ | (clear hM; first | (have h9 := hgt_eq i_; exact omQ') | (have h9 := hgt_L (i := i_) (gt_mem (l := i_.L) (i := p18.1) (by omega)); exact omQ')))⟩, by (have h9 := hgt_eq i_; simp only [Int.toNat_zero, List.drop_zero, List.length_append, List.length_cons, List.length_nil]; omega)⟩, (Nat.lt_succ_self _), hM⟩ ?_
   clear hM
   rintro n18 S ⟨p18, rfl, ⟨hfa18, hF8_0⟩, hm18, hM⟩
   have hM0 := hM; clear hM; obtain ⟨ag18, hag18, hM⟩ := iter_step hM0 (by omega) hf18; clear hM0
   replace hfa18 := nzQ hfa18
   replace hm18 := nzQ hm18
   have ha18 : addI .i64 p18.1 1 = p18.1 + 1 := add_one (by (first | exact omQ | (clear hM; first | (have h9 := hgt_eq i_; exact omQ') | (have h9 := hgt_L (i := i_) (gt_mem (l := i_.L) (i := p18.1) (by omega)); exact omQ')))) (by (first | exact omQ | (clear hM; first | (have h9 := hgt_eq i_; exact omQ') | (have h9 := hgt_L (i := i_) (gt_mem (l := i_.L) (i := p18.1) (by omega)); exact omQ'))))
   refine spQA ha18 ?_
   refine condC_intro (fun h19 => ?_) (fun h19 => ?_)
   ·rw [if_pos h19] at hM
    refine spQA (And.intro ha18 h19) ?_
    have nh19 := nzQ h19
    try have hr20 := mpQ nh19
    refine bindC_intro (by (first | exact omQ | (clear hM; first | (have h9 := hgt_eq i_; exact omQ') | (have h9 := hgt_L (i := i_) (gt_mem (l := i_.L) (i := p18.1) (by omega)); exact omQ')))) ?_
    have he21 := fun d => elt_mp (l := i_.L) (f := e_api_Item) (i := p18.1) (by (first | exact omQ | (clear hM; first | (have h9 := hgt_eq i_; exact omQ') | (have h9 := hgt_L (i := i_) (gt_mem (l := i_.L) (i := p18.1) (by omega)); exact omQ')))) d
    refine spQA (And.intro ha18 he21) ?_
    have hM0 := hM; clear hM; obtain ⟨x22, hx23, hM⟩ := letk_opn hM0; clear hM0
    have hcx22 := ih  (gt i_.L p18.1) (by (have h9 := hgt_L (i := i_) (gt_mem (l := i_.L) (i := p18.1) (by omega)); omega)) (by (have h9 := hgt_L (i := i_) (gt_mem (l := i_.L) (i := p18.1) (by omega)); omega))
    rw [← hx23] at hcx22
    refine callC_give hcx22 (clQA (And.intro ha18 he21)) (clQA (And.intro ha18 he21)) (fun hw24 => ?_)
    replace hw24 := nzQ hw24
    refine spQA (And.intro ha18 he21) ?_
    have hq25 := enc_after hx23
    replace hq25 := nzQ hq25
    refine bindC_intro (by (first | exact omQ | (clear hM; first | (have h9 := hgt_eq i_; exact omQ') | (have h9 := hgt_L (i := i_) (gt_mem (l := i_.L) (i := p18.1) (by omega)); exact omQ')))) ?_
    refine spQA (And.intro ha18 he21) ?_
    refine lp_intro (n18 - 1) _ (by omega) sbQ sbQ ⟨((p18.1 + 1), (p18.2 ++ x22)), rfl, ⟨⟨by (first | exact omQ | (clear hM; first | (have h9 := hgt_eq i_; exact omQ') | (have h9 := hgt_L (i := i_) (gt_mem (l := i_.L) (i := (p18.1 + 1)) (by omega)); exact omQ'))), by (first | exact omQ | (clear hM; first | (have h9 := hgt_eq i_; exact omQ') | (have h9 := hgt_L (i := i_) (gt_mem (l := i_.L) (i := (p18.1 + 1)) (by omega)); exact omQ')))⟩, by (have h9 := hgtL_drop (l := i_.L) (i := p18.1) (by omega); rw [show (((p18.1 + 1)) : Int).toNat = (p18.1).toNat + 1 by omega]; simp only [List.length_append]; omega)⟩, by (first | exact omQ | (clear hM; first | (have h9 := hgt_eq i_; exact omQ') | (have h9 := hgt_L (i := i_) (gt_mem (l := i_.L) (i := (p18.1 + 1)) (by omega)); exact omQ'))), iter_again hM hag18⟩
   ·rw [if_neg (ne_true h19)] at hM
    refine spQA (And.intro ha18 h19) ?_
    have nh19 := nzQ h19
    try have hr26 := mpQ nh19
    subst hM
    exact retC_view (lfQA (And.intro ha18 (And.intro h1 (And.intro h8 h19))))
theorem encI_okN : ∀ (N : Nat)  (i_ : S_api_Item), (hgt i_ ≤ 50000000) → hgt i_ < N → CallOk En 79 [.agg [.int .i64 i_.Kind, .int .i64 i_.N, .sl none 1 false (i_.B.map (V.int .u8)), .sl none 4 true (i_.L.map e_api_Item)]] (.sl none 1 false ((encI i_).map (V.int .u8))) [] := by
 intro N
 induction N with
 | zero => intro i_ h0 h; exact absurd h (Nat.not_lt_zero _)
 | succ N ih =>
  intro i_ h0 h
  have h9 := specieref07_Encode_ok N ih i_ h0 h
  rw [specieref07_Encode_eqM] at h9
  exact h9
theorem encI_ok  (i_ : S_api_Item) (hp0 : hgt i_ ≤ 50000000) : CallOk En 79 [.agg [.int .i64 i_.Kind, .int .i64 i_.N, .sl none 1 false (i_.B.map (V.int .u8)), .sl none 4 true (i_.L.map e_api_Item)]] (.sl none 1 false ((encI i_).map (V.int .u8))) [] :=
 encI_okN (hgt i_ + 1) i_ hp0 (Nat.lt_succ_self _)
set_option maxHeartbeats 2000000 in
set_option maxRecDepth 100000 in
instance specieref06_constants_ok     : CM En (specieref06_constants) 256 [] (fun y => .sl none 1 false (y.map (V.int .u32))) (fun _ => []) := by
 refine cmQ fun r hM => ?_
 rw [specieref06_constants.eq_1] at hM
 refine enterV En_ok En_mo noJ Tryz.func256 rfl Tryz.ntmps256 (by kernel_rfl) fun hw => ct_start ?_
 refine spQ ?_
 replace hw := nzQ hw
 subst hM
 exact retC_view lfQ
set_option maxHeartbeats 2000000 in
set_option maxRecDepth 100000 in
instance specieref06_bytes_ok   (n_ : Int)  : CM En (specieref06_bytes n_) 285 [.int .i64 n_] (fun y => .sl none 1 false (y.map (V.int .u8))) (fun _ => []) := by
 refine cmQ fun r hM => ?_
 rw [specieref06_bytes.eq_1] at hM
 refine enterV En_ok En_mo noJ Tryz.func285 rfl Tryz.ntmps285 (by kernel_rfl) fun hw => ct_start ?_
 refine spQ ?_
 replace hw := nzQ hw
 have hM0 := hM; clear hM; obtain ⟨f1, d1, hf1, hd1, hM⟩ := iter_opn hM0; clear hM0
 refine ct_loopW (fun n S => ∃ p : Int × List Int, S = (⟨[(0, .int .i64 n_), (3, .own 0), (4, .int .i64 p.1)], [(0, .own 5 1 false none (p.2.map (V.int .u8)))], 1⟩ : St) ∧ ((-1 ≤ p.1) ∧ (p.1 ≤ 7) ∧ (((p.2).length : Int) = 7 - p.1)) ∧ ((p.1 + 1) : Int).toNat < n ∧ iter n f1 d1 p = r) (((7 + 1) : Int).toNat + 1) _ _ (weak_nil 3 5 rfl (by decide)) sbQ sbQ ⟨(7, ([] : List Int)), rfl, ⟨omQ, omQ, omQ⟩, (Nat.lt_succ_self _), hM⟩ ?_
 clear hM
 rintro n1 S ⟨p1, rfl, hfa1, hm1, hM⟩
 have hM0 := hM; clear hM; obtain ⟨ag1, hag1, hM⟩ := iter_step hM0 (by omega) hf1; clear hM0
 replace hfa1 := nzQ hfa1
 replace hm1 := nzQ hm1
 refine spQ ?_
 refine condC_intro (fun h2 => ?_) (fun h2 => ?_)
 ·rw [if_pos h2] at hM
  refine spQA h2 ?_
  have nh2 := nzQ h2
  try have hr3 := mpQ nh2
  obtain ⟨ha4, hbha4⟩ := mul_pos_ok (a := 8) (b := p1.1) 8 8 64 omQ omQ omQ omQ (by decide) (by decide)
  try simp only [ha4]
  refine bindC_intro omQ ?_
  refine spQA ha4 ?_
  refine bindC_intro omQ ?_
  refine spQA ha4 ?_
  have ha5 : subI .i64 p1.1 1 = (p1.1 - 1) := sub_ok omQ omQ
  try simp only [ha5]
  refine lp_intro (n1 - 1) _ (by omega) sbQ sbQ ⟨((p1.1 - 1), (p1.2 ++ ([(convI .u8 (shrI .i64 n_ (8 * p1.1)))] : List Int))), rfl, ⟨omQ, omQ, omQ⟩, omQ, iter_again hM hag1⟩
 ·rw [if_neg (ne_true h2)] at hM
  refine spQA h2 ?_
  have nh2 := nzQ h2
  try have hr6 := mpQ nh2
  subst hM
  exact retC_view (lfQA h2)
set_option maxHeartbeats 2000000 in
set_option maxRecDepth 100000 in
theorem specieref06_padded_ok   (b : (List Int)) (hp0 : b.length ≤ 1000000000) : CM En (specieref06_padded b) 257 [.sl none 1 false (b.map (V.int .u8))] (fun y => .sl none 1 false (y.map (V.int .u8))) (fun _ => []) := by
 refine cmQ fun r hM => ?_
 rw [specieref06_padded.eq_1] at hM
 refine enterV En_ok En_mo noJ Tryz.func257 rfl Tryz.ntmps257 (by kernel_rfl) fun hw => ct_start ?_
 refine spQ ?_
 replace hw := nzQ hw
 refine bindC_intro omQ ?_
 refine spQ ?_
 refine bindC_intro omQ ?_
 refine spQ ?_
 have hM0 := hM; clear hM; obtain ⟨f1, d1, hf1, hd1, hM⟩ := iter_opn hM0; clear hM0
 refine ct_loop (fun n S => ∃ p : List Int, S = (⟨[(0, .sl none 1 false (b.map (V.int .u8))), (3, .own 0)], [(0, .own 5 1 false none (p.map (V.int .u8)))], 2⟩ : St) ∧ ((((p).length : Int) + (56 - ((p).length : Int)) % 64 ≤ (b.length : Int) + 65)) ∧ ((56 - ((p).length : Int)) % 64).toNat < n ∧ iter n f1 d1 p = r) (((56 - ((((([] : List Int) ++ b) ++ ([128] : List Int))).length : Int)) % 64).toNat + 1) _ sbQ sbQ ⟨((([] : List Int) ++ b) ++ ([128] : List Int)), rfl, omQ, (Nat.lt_succ_self _), hM⟩ ?_
 clear hM
 rintro n1 S ⟨p1, rfl, hfa1, hm1, hM⟩
 have hM0 := hM; clear hM; obtain ⟨ag1, hag1, hM⟩ := iter_step hM0 (by omega) hf1; clear hM0
 replace hfa1 := nzQ hfa1
 replace hm1 := nzQ hm1
 refine spQ ?_
 have hF := trueQ
 exact auQ
set_option maxHeartbeats 2000000 in
set_option maxRecDepth 100000 in
theorem specieref06_right_ok   (x_ : Int) (n_ : Int) (hp0 : 0 ≤ n_) (hp1 : n_ ≤ 32) : CM En (specieref06_right x_ n_) 259 [.int .u32 x_, .int .i64 n_] (fun y => .int .u32 y) (fun _ => []) := by
 refine cmQ fun r hM => ?_
 rw [specieref06_right.eq_1] at hM
 refine enterV En_ok En_mo noJ Tryz.func259 rfl Tryz.ntmps259 (by kernel_rfl) fun hw => ct_start ?_
 refine spQ ?_
 replace hw := nzQ hw
 refine ct_draw 13 7 [5, 6, 7, 8, 9, 10, 11] [] ([[], [], [0, 1], [], [], [4], [3, 4, 5]] ++ [List.range 7, List.range 8]) [] (by kernel_rfl) (by exact alQ) ?_
 refine spQ ?_
 refine hbindC_intro omQ ?_
 refine spQ ?_
 have ha1 : subI .i64 32 n_ = (32 - n_) := sub_ok omQ omQ
 try simp only [ha1]
 have hF := ha1
 exact auQ
set_option maxHeartbeats 2000000 in
set_option maxRecDepth 100000 in
theorem specieref06_words_ok   (b : (List Int)) (hp0 : b.length = 64) : CM En (specieref06_words b) 258 [.sl none 1 false (b.map (V.int .u8))] (fun y => .sl none 1 false (y.map (V.int .u32))) (fun _ => []) := by
 refine cmQ fun r hM => ?_
 rw [specieref06_words.eq_1] at hM
 refine enterV En_ok En_mo noJ Tryz.func258 rfl Tryz.ntmps258 (by kernel_rfl) fun hw => ct_start ?_
 refine spQ ?_
 replace hw := nzQ hw
 have hM0 := hM; clear hM; obtain ⟨f1, d1, hf1, hd1, hM⟩ := iter_opn hM0; clear hM0
 refine ct_loopW (fun n S => ∃ p : Int × List Int, S = (⟨[(0, .sl none 1 false (b.map (V.int .u8))), (3, .own 0), (4, .int .i64 p.1)], [(0, .own 113 1 false none (p.2.map (V.int .u32)))], 1⟩ : St) ∧ ((0 ≤ p.1) ∧ (p.1 ≤ 16) ∧ (((p.2).length : Int) = p.1) ∧ (((p.2).length : Int) ≤ p.1)) ∧ ((16 : Int) - p.1).toNat < n ∧ iter n f1 d1 p = r) (((16 : Int) - 0).toNat + 1) _ _ (weak_nil 3 113 rfl (by decide)) sbQ sbQ ⟨(0, ([] : List Int)), rfl, ⟨omQ, omQ, omQ, omQ⟩, (Nat.lt_succ_self _), hM⟩ ?_
 clear hM
 rintro n1 S ⟨p1, rfl, hfa1, hm1, hM⟩
 have hM0 := hM; clear hM; obtain ⟨ag1, hag1, hM⟩ := iter_step hM0 (by omega) hf1; clear hM0
 replace hfa1 := nzQ hfa1
 replace hm1 := nzQ hm1
 have ha1 : addI .i64 p1.1 1 = p1.1 + 1 := add_one omQ omQ
 refine spQA ha1 ?_
 refine condC_intro (fun h2 => ?_) (fun h2 => ?_)
 ·rw [if_pos h2] at hM
  refine spQA (And.intro ha1 h2) ?_
  have nh2 := nzQ h2
  try have hr3 := mpQ nh2
  have hM0 := hM; clear hM; obtain ⟨f4, d4, hf4, hd4, hM⟩ := iter_opn hM0; clear hM0
  refine ct_loop (fun n S => ∃ p : Int × Int, S = (⟨[(0, .sl none 1 false (b.map (V.int .u8))), (3, .own 0), (4, .int .i64 p1.1), (5, .int .u32 p.1), (6, .int .i64 p.2)], [(0, .own 113 1 false none (p1.2.map (V.int .u32)))], 1⟩ : St) ∧ ((0 ≤ p.2) ∧ (p.2 ≤ 4)) ∧ ((4 : Int) - p.2).toNat < n ∧ iter n f4 d4 p = r) (((4 : Int) - 0).toNat + 1) _ sbQ sbQ ⟨(0, 0), rfl, ⟨omQ, omQ⟩, (Nat.lt_succ_self _), hM⟩ ?_
  clear hM
  rintro n4 S ⟨p4, rfl, hfa4, hm4, hM⟩
  have hM0 := hM; clear hM; obtain ⟨ag4, hag4, hM⟩ := iter_step hM0 (by omega) hf4; clear hM0
  replace hfa4 := nzQ hfa4
  replace hm4 := nzQ hm4
  have ha4 : addI .i64 p4.2 1 = p4.2 + 1 := add_one omQ omQ
  refine spQA (And.intro ha1 ha4) ?_
  refine condC_intro (fun h5 => ?_) (fun h5 => ?_)
  ·rw [if_pos h5] at hM
   refine spQA (And.intro ha1 (And.intro ha4 h5)) ?_
   have nh5 := nzQ h5
   try have hr6 := mpQ nh5
   obtain ⟨ha7, hbha7⟩ := mul_pos_ok (a := 4) (b := p1.1) 4 64 256 omQ omQ omQ omQ (by decide) (by decide)
   try simp only [ha7]
   have ha8 : addI .i64 (4 * p1.1) p4.2 = ((4 * p1.1) + p4.2) := add_ok omQ omQ
   try simp only [ha8]
   have hF := (And.intro ha1 (And.intro h2 (And.intro ha4 (And.intro h5 ha8))))
   exact auQ
  ·rw [if_neg (ne_true h5)] at hM
   refine spQA (And.intro ha1 (And.intro ha4 h5)) ?_
   have nh5 := nzQ h5
   try have hr10 := mpQ nh5
   have hF := (And.intro ha1 (And.intro h2 (And.intro ha4 h5)))
   exact auQ
 ·rw [if_neg (ne_true h2)] at hM
  refine spQA (And.intro ha1 h2) ?_
  have nh2 := nzQ h2
  try have hr11 := mpQ nh2
  have hM0 := hM; clear hM; obtain ⟨f12, d12, hf12, hd12, hM⟩ := iter_opn hM0; clear hM0
  refine ct_loop (fun n S => ∃ p : Int × List Int, S = (⟨[(3, .own 0), (7, .int .i64 p.1)], [(0, .own 113 1 false none (p.2.map (V.int .u32)))], 1⟩ : St) ∧ ((16 ≤ p.1) ∧ (p.1 ≤ 64 ∨ p.1 ≤ 16) ∧ (((p.2).length : Int) = p.1)) ∧ ((64 : Int) - p.1).toNat < n ∧ iter n f12 d12 p = r) (((64 : Int) - 16).toNat + 1) _ sbQ sbQ ⟨(16, p1.2), rfl, ⟨omQ, omQ, omQ⟩, (Nat.lt_succ_self _), hM⟩ ?_
  clear hM
  rintro n12 S ⟨p12, rfl, hfa12, hm12, hM⟩
  have hM0 := hM; clear hM; obtain ⟨ag12, hag12, hM⟩ := iter_step hM0 (by omega) hf12; clear hM0
  replace hfa12 := nzQ hfa12
  replace hm12 := nzQ hm12
  have ha12 : addI .i64 p12.1 1 = p12.1 + 1 := add_one omQ omQ
  refine spQA (And.intro ha1 ha12) ?_
  refine condC_intro (fun h13 => ?_) (fun h13 => ?_)
  ·rw [if_pos h13] at hM
   refine spQA (And.intro ha1 (And.intro ha12 h13)) ?_
   have nh13 := nzQ h13
   try have hr14 := mpQ nh13
   refine ct_draw 84 11 [8, 39, 40, 41, 42, 43, 44, 45, 46, 47, 48] [] ([[], [], [1], [0, 1, 2], [0, 1, 2, 3], [], [], [6], [5, 6, 7], [5, 6, 7, 8], [0, 1, 2, 3, 4]] ++ [List.range 11]) [] (by kernel_rfl) (by exact alQ) ?_
   refine spQA (And.intro ha1 ha12) ?_
   have ha15 : subI .i64 p12.1 15 = (p12.1 - 15) := sub_ok omQ omQ
   try simp only [ha15]
   refine hbindC_intro omQ ?_
   have he16 := fun d => elt_mp (l := p12.2) (f := (V.int .u32)) (i := (p12.1 - 15)) omQ d
   refine spQA (And.intro ha1 (And.intro ha12 (And.intro ha15 he16))) ?_
   refine hbindC_intro omQ ?_
   refine spQA (And.intro ha1 (And.intro ha12 (And.intro ha15 he16))) ?_
   have ha17 : subI .i64 p12.1 2 = (p12.1 - 2) := sub_ok omQ omQ
   try simp only [ha17]
   refine hbindC_intro omQ ?_
   have he18 := fun d => elt_mp (l := p12.2) (f := (V.int .u32)) (i := (p12.1 - 2)) omQ d
   refine spQA (And.intro ha1 (And.intro ha12 (And.intro ha15 (And.intro he16 (And.intro ha17 he18))))) ?_
   refine hbindC_intro omQ ?_
   refine spQA (And.intro ha1 (And.intro ha12 (And.intro ha15 (And.intro he16 (And.intro ha17 he18))))) ?_
   have hM0 := hM; clear hM; obtain ⟨x19, hx20, hM⟩ := letk_opn hM0; clear hM0
   have hcx19 := cmH hx20 (specieref06_right_ok  (gt p12.2 (p12.1 - 15)) 7 (by (exact pfQ)) (by (exact pfQ)))
   refine callC_give hcx19 (clQA (And.intro ha1 (And.intro ha12 (And.intro ha15 (And.intro he16 (And.intro ha17 he18)))))) (clQA (And.intro ha1 (And.intro ha12 (And.intro ha15 (And.intro he16 (And.intro ha17 he18)))))) (fun hw21 => ?_)
   replace hw21 := nzQ hw21
   refine spQA (And.intro ha1 (And.intro ha12 (And.intro ha15 (And.intro he16 (And.intro ha17 he18))))) ?_
   have hM0 := hM; clear hM; obtain ⟨x22, hx23, hM⟩ := letk_opn hM0; clear hM0
   have hcx22 := cmH hx23 (specieref06_right_ok  (gt p12.2 (p12.1 - 15)) 18 (by (exact pfQ)) (by (exact pfQ)))
   refine callC_give hcx22 (clQA (And.intro ha1 (And.intro ha12 (And.intro ha15 (And.intro he16 (And.intro ha17 he18)))))) (clQA (And.intro ha1 (And.intro ha12 (And.intro ha15 (And.intro he16 (And.intro ha17 he18)))))) (fun hw24 => ?_)
   replace hw24 := nzQ hw24
   refine spQA (And.intro ha1 (And.intro ha12 (And.intro ha15 (And.intro he16 (And.intro ha17 he18))))) ?_
   have hM0 := hM; clear hM; obtain ⟨x25, hx26, hM⟩ := letk_opn hM0; clear hM0
   have hcx25 := cmH hx26 (specieref06_right_ok  (gt p12.2 (p12.1 - 2)) 17 (by (exact pfQ)) (by (exact pfQ)))
   refine callC_give hcx25 (clQA (And.intro ha1 (And.intro ha12 (And.intro ha15 (And.intro he16 (And.intro ha17 he18)))))) (clQA (And.intro ha1 (And.intro ha12 (And.intro ha15 (And.intro he16 (And.intro ha17 he18)))))) (fun hw27 => ?_)
   replace hw27 := nzQ hw27
   refine spQA (And.intro ha1 (And.intro ha12 (And.intro ha15 (And.intro he16 (And.intro ha17 he18))))) ?_
   have hM0 := hM; clear hM; obtain ⟨x28, hx29, hM⟩ := letk_opn hM0; clear hM0
   have hcx28 := cmH hx29 (specieref06_right_ok  (gt p12.2 (p12.1 - 2)) 19 (by (exact pfQ)) (by (exact pfQ)))
   refine callC_give hcx28 (clQA (And.intro ha1 (And.intro ha12 (And.intro ha15 (And.intro he16 (And.intro ha17 he18)))))) (clQA (And.intro ha1 (And.intro ha12 (And.intro ha15 (And.intro he16 (And.intro ha17 he18)))))) (fun hw30 => ?_)
   replace hw30 := nzQ hw30
   refine spQA (And.intro ha1 (And.intro ha12 (And.intro ha15 (And.intro he16 (And.intro ha17 he18))))) ?_
   refine ct_draw 84 17 [65, 66, 67, 68, 69, 70, 71, 72, 73, 74, 75, 76, 77, 78, 79, 80, 81] [] ([[], [], [], [2], [1, 2, 3], [1, 2, 3, 4], [], [1, 2, 3, 4, 5, 6], [], [], [9], [8, 9, 10], [8, 9, 10, 11], [1, 2, 3, 4, 5, 6, 7, 8, 9, 10, 11, 12], [], [1, 2, 3, 4, 5, 6, 7, 8, 9, 10, 11, 12, 13, 14], [1, 2, 3, 4, 5, 6, 7, 8, 9, 10, 11, 12, 13, 14, 15]] ++ [List.range 17, List.range 18]) [] (by kernel_rfl) (by exact alQ) ?_
   refine spQA (And.intro ha1 (And.intro ha12 (And.intro ha15 (And.intro he16 (And.intro ha17 he18))))) ?_
   have ha31 : subI .i64 p12.1 16 = (p12.1 - 16) := sub_ok omQ omQ
   try simp only [ha31]
   refine hbindC_intro omQ ?_
   have he32 := fun d => elt_mp (l := p12.2) (f := (V.int .u32)) (i := (p12.1 - 16)) omQ d
   refine spQA (And.intro ha1 (And.intro ha12 (And.intro ha15 (And.intro he16 (And.intro ha17 (And.intro he18 (And.intro ha31 he32))))))) ?_
   refine hbindC_intro omQ ?_
   refine spQA (And.intro ha1 (And.intro ha12 (And.intro ha15 (And.intro he16 (And.intro ha17 (And.intro he18 (And.intro ha31 he32))))))) ?_
   have ha33 : subI .i64 p12.1 7 = (p12.1 - 7) := sub_ok omQ omQ
   try simp only [ha33]
   have hF := (And.intro ha1 (And.intro h2 (And.intro ha12 (And.intro h13 (And.intro ha15 (And.intro he16 (And.intro ha17 (And.intro he18 (And.intro ha31 (And.intro he32 ha33))))))))))
   exact auQ
  ·rw [if_neg (ne_true h13)] at hM
   refine spQA (And.intro ha1 (And.intro ha12 h13)) ?_
   have nh13 := nzQ h13
   try have hr35 := mpQ nh13
   subst hM
   exact retC_view (lfQA (And.intro ha1 (And.intro ha12 (And.intro h2 h13))))
end Go.Proofs.YtjnikknlcmbcmaaGreatDoor
namespace Go.Proofs.YtjnikknlcmbcmaaGreatDoor
open Go.RowKit
set_option linter.unusedSimpArgs false
instance (priority := 1009) : DRD 18 182 11 [152, 153, 154, 155, 156, 157, 158, 159, 160, 161, 162] [] ([[], [], [], [], [2, 3], [2, 3, 4], [], [], [6, 7], [6, 7, 8], [2, 3, 4, 5, 6, 7, 8, 9]] ++ [List.range 11, List.range 12]) [] := ⟨trivial⟩
set_option maxHeartbeats 2000000 in
set_option maxRecDepth 100000 in
theorem specieref06_Sum_ok   (b : (List Int)) (hp0 : b.length ≤ 1000000000) : CM En (specieref06_Sum b) 213 [.sl none 1 false (b.map (V.int .u8))] (fun y => (e_arr40 y)) (fun _ => []) := by
 refine cmQ fun r hM => ?_
 rw [specieref06_Sum.eq_1] at hM
 refine enterV En_ok En_mo noJ Tryz.func213 rfl Tryz.ntmps213 (by kernel_rfl) fun hw => ct_start ?_
 refine spQ ?_
 replace hw := nzQ hw
 have hM0 := hM; clear hM; obtain ⟨x1, hx2, hM⟩ := letk_opn hM0; clear hM0
 have hcx1 := cmU hx2
 refine callC_give hcx1 clQ clQ (fun hw3 => ?_)
 replace hw3 := nzQ hw3
 refine spQ ?_
 have hq4 := nzQ (cfU hx2)
 have hM0 := hM; clear hM; obtain ⟨x5, hx6, hM⟩ := letk_opn hM0; clear hM0
 have hcx5 := cmH hx6 (specieref06_padded_ok  b (by (exact pfQ)))
 refine callC_give hcx5 clQ clQ (fun hw7 => ?_)
 replace hw7 := nzQ hw7
 refine spQ ?_
 have hq8 := nzQ (cfU hx6)
 have hM0 := hM; clear hM; obtain ⟨f9, d9, hf9, hd9, hM⟩ := iter_opn hM0; clear hM0
 refine ct_loop (fun n S => ∃ p : Int × List Int, S = (⟨[(2, .ptr 0 0), (3, .own 1), (4, .sl none 1 false (x1.map (V.int .u32))), (5, .sl none 1 false (x5.map (V.int .u8))), (6, .int .i64 p.1)], [(0, .var 32 true (zv_40)), (1, .own 113 1 false none (p.2.map (V.int .u32)))], 2⟩ : St) ∧ ((0 ≤ p.1) ∧ (p.1 ≤ (x5.length : Int)) ∧ (p.1 % 64 = 0) ∧ ((p.2).length = (([1779033703, 3144134277, 1013904242, 2773480762, 1359893119, 2600822924, 528734635, 1541459225] : List Int)).length)) ∧ ((x5.length : Int) - p.1).toNat < n ∧ iter n f9 d9 p = r) (((x5.length : Int) - 0).toNat + 1) _ sbQ sbQ ⟨(0, ([1779033703, 3144134277, 1013904242, 2773480762, 1359893119, 2600822924, 528734635, 1541459225] : List Int)), rfl, ⟨omQ, omQ, omQ, omQ⟩, (Nat.lt_succ_self _), hM⟩ ?_
 clear hM
 rintro n9 S ⟨p9, rfl, hfa9, hm9, hM⟩
 have hM0 := hM; clear hM; obtain ⟨ag9, hag9, hM⟩ := iter_step hM0 (by omega) hf9; clear hM0
 replace hfa9 := nzQ hfa9
 replace hm9 := nzQ hm9
 have ha9 : addI .i64 p9.1 1 = p9.1 + 1 := add_one omQ omQ
 refine spQA ha9 ?_
 refine condC_intro (fun h10 => ?_) (fun h10 => ?_)
 ·rw [if_pos h10] at hM
  refine spQA (And.intro ha9 h10) ?_
  have nh10 := nzQ h10
  try have hr11 := mpQ nh10
  have ha12 : addI .i64 p9.1 64 = (p9.1 + 64) := add_ok omQ omQ
  try simp only [ha12]
  refine bindC_intro omQ ?_
  refine spQA (And.intro ha9 ha12) ?_
  have hM0 := hM; clear hM; obtain ⟨x13, hx14, hM⟩ := letk_opn hM0; clear hM0
  have hcx13 := cmH hx14 (specieref06_words_ok  (sl x5 p9.1 (p9.1 + 64)) (by (exact pfQ)))
  refine callC_give hcx13 (clQA (And.intro ha9 ha12)) (clQA (And.intro ha9 ha12)) (fun hw15 => ?_)
  replace hw15 := nzQ hw15
  refine spQA (And.intro ha9 ha12) ?_
  have hq16 := nzQ (cfU hx14)
  refine bindC_intro omQ ?_
  refine spQA (And.intro ha9 ha12) ?_
  have hM0 := hM; clear hM; obtain ⟨f17, d17, hf17, hd17, hM⟩ := iter_opn hM0; clear hM0
  refine ct_loop (fun n S => ∃ p : Int × List Int, S = (⟨[(2, .ptr 0 0), (3, .own 1), (4, .sl none 1 false (x1.map (V.int .u32))), (5, .sl none 1 false (x5.map (V.int .u8))), (6, .int .i64 p9.1), (7, .sl none 1 false (x13.map (V.int .u32))), (8, .own 2), (9, .int .i64 p.1)], [(0, .var 32 true (zv_40)), (1, .own 113 1 false none (p9.2.map (V.int .u32))), (2, .own 113 1 false none (p.2.map (V.int .u32)))], 3⟩ : St) ∧ ((0 ≤ p.1) ∧ (p.1 ≤ 64) ∧ (((p.2).length : Int) = 8) ∧ ((p.2).length = ((([] : List Int) ++ p9.2)).length)) ∧ ((64 : Int) - p.1).toNat < n ∧ iter n f17 d17 p = r) (((64 : Int) - 0).toNat + 1) _ sbQ sbQ ⟨(0, (([] : List Int) ++ p9.2)), rfl, ⟨omQ, omQ, omQ, omQ⟩, (Nat.lt_succ_self _), hM⟩ ?_
  clear hM
  rintro n17 S ⟨p17, rfl, hfa17, hm17, hM⟩
  have hM0 := hM; clear hM; obtain ⟨ag17, hag17, hM⟩ := iter_step hM0 (by omega) hf17; clear hM0
  replace hfa17 := nzQ hfa17
  replace hm17 := nzQ hm17
  have ha17 : addI .i64 p17.1 1 = p17.1 + 1 := add_one omQ omQ
  refine spQA (And.intro ha9 (And.intro ha12 ha17)) ?_
  refine condC_intro (fun h18 => ?_) (fun h18 => ?_)
  ·rw [if_pos h18] at hM
   refine spQA (And.intro ha9 (And.intro ha12 (And.intro ha17 h18))) ?_
   have nh18 := nzQ h18
   try have hr19 := mpQ nh18
   refine ct_draw 182 44 [38, 39, 40, 41, 42, 43, 44, 45, 46, 47, 48, 49, 50, 51, 52, 53, 54, 55, 56, 57, 58, 59, 60, 61, 62, 63, 64, 65, 66, 67, 68, 69, 70, 71, 72, 73, 74, 75, 76, 77, 78, 79, 80, 81] [] ([[], [0], [0, 1], [], [3], [3, 4], [3, 4, 5], [], [7], [7, 8], [7, 8, 9], [3, 4, 5, 6, 7, 8, 9, 10], [], [12], [12, 13], [12, 13, 14], [3, 4, 5, 6, 7, 8, 9, 10, 11, 12, 13, 14, 15], [0, 1, 2, 3, 4, 5, 6, 7, 8, 9, 10, 11, 12, 13, 14, 15, 16], [], [18], [18, 19], [], [21], [21, 22], [18, 19, 20, 21, 22, 23], [], [25], [25, 26], [25, 26, 27], [], [29], [29, 30], [25, 26, 27, 28, 29, 30, 31], [18, 19, 20, 21, 22, 23, 24, 25, 26, 27, 28, 29, 30, 31, 32], [0, 1, 2, 3, 4, 5, 6, 7, 8, 9, 10, 11, 12, 13, 14, 15, 16, 17, 18, 19, 20, 21, 22, 23, 24, 25, 26, 27, 28, 29, 30, 31, 32, 33], [], [], [35, 36], [35, 36, 37], [0, 1, 2, 3, 4, 5, 6, 7, 8, 9, 10, 11, 12, 13, 14, 15, 16, 17, 18, 19, 20, 21, 22, 23, 24, 25, 26, 27, 28, 29, 30, 31, 32, 33, 34, 35, 36, 37, 38], [], [], [40, 41], [40, 41, 42]] ++ [List.range 44, List.range 45]) [] (by kernel_rfl) (by exact alQ) ?_
   refine spQA (And.intro ha9 (And.intro ha12 ha17)) ?_
   refine hbindC_intro omQ ?_
   have he20 : ∀ d, elt (p17.2.map (V.int .u32)) 7 d = (V.int .u32) (gt p17.2 7) := fun d => elt_mp (l := p17.2) (f := (V.int .u32)) (i := 7) omQ d
   refine spQA (And.intro ha9 (And.intro ha12 (And.intro ha17 he20))) ?_
   refine hbindC_intro omQ ?_
   refine spQA (And.intro ha9 (And.intro ha12 (And.intro ha17 he20))) ?_
   refine hbindC_intro omQ ?_
   have he21 : ∀ d, elt (p17.2.map (V.int .u32)) 4 d = (V.int .u32) (gt p17.2 4) := fun d => elt_mp (l := p17.2) (f := (V.int .u32)) (i := 4) omQ d
   refine spQA (And.intro ha9 (And.intro ha12 (And.intro ha17 (And.intro he20 he21)))) ?_
   refine hbindC_intro omQ ?_
   refine spQA (And.intro ha9 (And.intro ha12 (And.intro ha17 (And.intro he20 he21)))) ?_
   have hM0 := hM; clear hM; obtain ⟨x22, hx23, hM⟩ := letk_opn hM0; clear hM0
   have hcx22 := cmH hx23 (specieref06_right_ok  (gt p17.2 4) 6 (by (exact pfQ)) (by (exact pfQ)))
   refine hcallC_give hcx22 (clQA (And.intro ha9 (And.intro ha12 (And.intro ha17 (And.intro he20 he21))))) (clQA (And.intro ha9 (And.intro ha12 (And.intro ha17 (And.intro he20 he21))))) ?_
   refine spQA (And.intro ha9 (And.intro ha12 (And.intro ha17 (And.intro he20 he21)))) ?_
   refine hbindC_intro omQ ?_
   refine spQA (And.intro ha9 (And.intro ha12 (And.intro ha17 (And.intro he20 he21)))) ?_
   refine hbindC_intro omQ ?_
   refine spQA (And.intro ha9 (And.intro ha12 (And.intro ha17 (And.intro he20 he21)))) ?_
   have hM0 := hM; clear hM; obtain ⟨x24, hx25, hM⟩ := letk_opn hM0; clear hM0
   have hcx24 := cmH hx25 (specieref06_right_ok  (gt p17.2 4) 11 (by (exact pfQ)) (by (exact pfQ)))
   refine hcallC_give hcx24 (clQA (And.intro ha9 (And.intro ha12 (And.intro ha17 (And.intro he20 he21))))) (clQA (And.intro ha9 (And.intro ha12 (And.intro ha17 (And.intro he20 he21))))) ?_
   refine spQA (And.intro ha9 (And.intro ha12 (And.intro ha17 (And.intro he20 he21)))) ?_
   refine hbindC_intro omQ ?_
   refine spQA (And.intro ha9 (And.intro ha12 (And.intro ha17 (And.intro he20 he21)))) ?_
   refine hbindC_intro omQ ?_
   refine spQA (And.intro ha9 (And.intro ha12 (And.intro ha17 (And.intro he20 he21)))) ?_
   have hM0 := hM; clear hM; obtain ⟨x26, hx27, hM⟩ := letk_opn hM0; clear hM0
   have hcx26 := cmH hx27 (specieref06_right_ok  (gt p17.2 4) 25 (by (exact pfQ)) (by (exact pfQ)))
   refine hcallC_give hcx26 (clQA (And.intro ha9 (And.intro ha12 (And.intro ha17 (And.intro he20 he21))))) (clQA (And.intro ha9 (And.intro ha12 (And.intro ha17 (And.intro he20 he21))))) ?_
   refine spQA (And.intro ha9 (And.intro ha12 (And.intro ha17 (And.intro he20 he21)))) ?_
   refine hbindC_intro omQ ?_
   refine spQA (And.intro ha9 (And.intro ha12 (And.intro ha17 (And.intro he20 he21)))) ?_
   refine hbindC_intro omQ ?_
   refine spQA (And.intro ha9 (And.intro ha12 (And.intro ha17 (And.intro he20 he21)))) ?_
   refine hbindC_intro omQ ?_
   have he28 : ∀ d, elt (p17.2.map (V.int .u32)) 5 d = (V.int .u32) (gt p17.2 5) := fun d => elt_mp (l := p17.2) (f := (V.int .u32)) (i := 5) omQ d
   refine spQA (And.intro ha9 (And.intro ha12 (And.intro ha17 (And.intro he20 (And.intro he21 he28))))) ?_
   refine hbindC_intro omQ ?_
   refine spQA (And.intro ha9 (And.intro ha12 (And.intro ha17 (And.intro he20 (And.intro he21 he28))))) ?_
   refine hbindC_intro omQ ?_
   refine spQA (And.intro ha9 (And.intro ha12 (And.intro ha17 (And.intro he20 (And.intro he21 he28))))) ?_
   refine hbindC_intro omQ ?_
   refine spQA (And.intro ha9 (And.intro ha12 (And.intro ha17 (And.intro he20 (And.intro he21 he28))))) ?_
   refine hbindC_intro omQ ?_
   have he29 : ∀ d, elt (p17.2.map (V.int .u32)) 6 d = (V.int .u32) (gt p17.2 6) := fun d => elt_mp (l := p17.2) (f := (V.int .u32)) (i := 6) omQ d
   refine spQA (And.intro ha9 (And.intro ha12 (And.intro ha17 (And.intro he20 (And.intro he21 (And.intro he28 he29)))))) ?_
   refine hbindC_intro omQ ?_
   refine spQA (And.intro ha9 (And.intro ha12 (And.intro ha17 (And.intro he20 (And.intro he21 (And.intro he28 he29)))))) ?_
   refine hbindC_intro omQ ?_
   have he30 := fun d => elt_mp (l := x1) (f := (V.int .u32)) (i := p17.1) omQ d
   refine spQA (And.intro ha9 (And.intro ha12 (And.intro ha17 (And.intro he20 (And.intro he21 (And.intro he28 (And.intro he29 he30))))))) ?_
   refine hbindC_intro omQ ?_
   have he31 := fun d => elt_mp (l := x13) (f := (V.int .u32)) (i := p17.1) omQ d
   refine spQA (And.intro ha9 (And.intro ha12 (And.intro ha17 (And.intro he20 (And.intro he21 (And.intro he28 (And.intro he29 (And.intro he30 he31)))))))) ?_
   refine ct_draw 182 37 [83, 84, 85, 86, 87, 88, 89, 90, 91, 92, 93, 94, 95, 96, 97, 98, 99, 100, 101, 102, 103, 104, 105, 106, 107, 108, 109, 110, 111, 112, 113, 114, 115, 116, 117, 118, 119] [] ([[], [0], [0, 1], [0, 1, 2], [], [4], [4, 5], [4, 5, 6], [0, 1, 2, 3, 4, 5, 6, 7], [], [9], [9, 10], [9, 10, 11], [0, 1, 2, 3, 4, 5, 6, 7, 8, 9, 10, 11, 12], [], [14], [14, 15], [], [17], [17, 18], [14, 15, 16, 17, 18, 19], [], [21], [21, 22], [], [24], [24, 25], [21, 22, 23, 24, 25, 26], [14, 15, 16, 17, 18, 19, 20, 21, 22, 23, 24, 25, 26, 27], [], [29], [29, 30], [], [32], [32, 33], [29, 30, 31, 32, 33, 34], [14, 15, 16, 17, 18, 19, 20, 21, 22, 23, 24, 25, 26, 27, 28, 29, 30, 31, 32, 33, 34, 35]] ++ [List.range 37, List.range 38]) [] (by kernel_rfl) (by exact alQ) ?_
   refine spQA (And.intro ha9 (And.intro ha12 (And.intro ha17 (And.intro he20 (And.intro he21 (And.intro he28 (And.intro he29 (And.intro he30 he31)))))))) ?_
   refine hbindC_intro omQ ?_
   have he32 : ∀ d, elt (p17.2.map (V.int .u32)) 0 d = (V.int .u32) (gt p17.2 0) := fun d => elt_mp (l := p17.2) (f := (V.int .u32)) (i := 0) omQ d
   refine spQA (And.intro ha9 (And.intro ha12 (And.intro ha17 (And.intro he20 (And.intro he21 (And.intro he28 (And.intro he29 (And.intro he30 (And.intro he31 he32))))))))) ?_
   refine hbindC_intro omQ ?_
   refine spQA (And.intro ha9 (And.intro ha12 (And.intro ha17 (And.intro he20 (And.intro he21 (And.intro he28 (And.intro he29 (And.intro he30 (And.intro he31 he32))))))))) ?_
   have hM0 := hM; clear hM; obtain ⟨x33, hx34, hM⟩ := letk_opn hM0; clear hM0
   have hcx33 := cmH hx34 (specieref06_right_ok  (gt p17.2 0) 2 (by (exact pfQ)) (by (exact pfQ)))
   refine hcallC_give hcx33 (clQA (And.intro ha9 (And.intro ha12 (And.intro ha17 (And.intro he20 (And.intro he21 (And.intro he28 (And.intro he29 (And.intro he30 (And.intro he31 he32)))))))))) (clQA (And.intro ha9 (And.intro ha12 (And.intro ha17 (And.intro he20 (And.intro he21 (And.intro he28 (And.intro he29 (And.intro he30 (And.intro he31 he32)))))))))) ?_
   refine spQA (And.intro ha9 (And.intro ha12 (And.intro ha17 (And.intro he20 (And.intro he21 (And.intro he28 (And.intro he29 (And.intro he30 (And.intro he31 he32))))))))) ?_
   refine hbindC_intro omQ ?_
   refine spQA (And.intro ha9 (And.intro ha12 (And.intro ha17 (And.intro he20 (And.intro he21 (And.intro he28 (And.intro he29 (And.intro he30 (And.intro he31 he32))))))))) ?_
   refine hbindC_intro omQ ?_
   refine spQA (And.intro ha9 (And.intro ha12 (And.intro ha17 (And.intro he20 (And.intro he21 (And.intro he28 (And.intro he29 (And.intro he30 (And.intro he31 he32))))))))) ?_
   have hM0 := hM; clear hM; obtain ⟨x35, hx36, hM⟩ := letk_opn hM0; clear hM0
   have hcx35 := cmH hx36 (specieref06_right_ok  (gt p17.2 0) 13 (by (exact pfQ)) (by (exact pfQ)))
   refine hcallC_give hcx35 (clQA (And.intro ha9 (And.intro ha12 (And.intro ha17 (And.intro he20 (And.intro he21 (And.intro he28 (And.intro he29 (And.intro he30 (And.intro he31 he32)))))))))) (clQA (And.intro ha9 (And.intro ha12 (And.intro ha17 (And.intro he20 (And.intro he21 (And.intro he28 (And.intro he29 (And.intro he30 (And.intro he31 he32)))))))))) ?_
   refine spQA (And.intro ha9 (And.intro ha12 (And.intro ha17 (And.intro he20 (And.intro he21 (And.intro he28 (And.intro he29 (And.intro he30 (And.intro he31 he32))))))))) ?_
   refine hbindC_intro omQ ?_
   refine spQA (And.intro ha9 (And.intro ha12 (And.intro ha17 (And.intro he20 (And.intro he21 (And.intro he28 (And.intro he29 (And.intro he30 (And.intro he31 he32))))))))) ?_
   refine hbindC_intro omQ ?_
   refine spQA (And.intro ha9 (And.intro ha12 (And.intro ha17 (And.intro he20 (And.intro he21 (And.intro he28 (And.intro he29 (And.intro he30 (And.intro he31 he32))))))))) ?_
   have hM0 := hM; clear hM; obtain ⟨x37, hx38, hM⟩ := letk_opn hM0; clear hM0
   have hcx37 := cmH hx38 (specieref06_right_ok  (gt p17.2 0) 22 (by (exact pfQ)) (by (exact pfQ)))
   refine hcallC_give hcx37 (clQA (And.intro ha9 (And.intro ha12 (And.intro ha17 (And.intro he20 (And.intro he21 (And.intro he28 (And.intro he29 (And.intro he30 (And.intro he31 he32)))))))))) (clQA (And.intro ha9 (And.intro ha12 (And.intro ha17 (And.intro he20 (And.intro he21 (And.intro he28 (And.intro he29 (And.intro he30 (And.intro he31 he32)))))))))) ?_
   refine spQA (And.intro ha9 (And.intro ha12 (And.intro ha17 (And.intro he20 (And.intro he21 (And.intro he28 (And.intro he29 (And.intro he30 (And.intro he31 he32))))))))) ?_
   refine hbindC_intro omQ ?_
   refine spQA (And.intro ha9 (And.intro ha12 (And.intro ha17 (And.intro he20 (And.intro he21 (And.intro he28 (And.intro he29 (And.intro he30 (And.intro he31 he32))))))))) ?_
   refine hbindC_intro omQ ?_
   refine spQA (And.intro ha9 (And.intro ha12 (And.intro ha17 (And.intro he20 (And.intro he21 (And.intro he28 (And.intro he29 (And.intro he30 (And.intro he31 he32))))))))) ?_
   refine hbindC_intro omQ ?_
   have he39 : ∀ d, elt (p17.2.map (V.int .u32)) 1 d = (V.int .u32) (gt p17.2 1) := fun d => elt_mp (l := p17.2) (f := (V.int .u32)) (i := 1) omQ d
   refine spQA (And.intro ha9 (And.intro ha12 (And.intro ha17 (And.intro he20 (And.intro he21 (And.intro he28 (And.intro he29 (And.intro he30 (And.intro he31 (And.intro he32 he39)))))))))) ?_
   refine hbindC_intro omQ ?_
   refine spQA (And.intro ha9 (And.intro ha12 (And.intro ha17 (And.intro he20 (And.intro he21 (And.intro he28 (And.intro he29 (And.intro he30 (And.intro he31 (And.intro he32 he39)))))))))) ?_
   refine hbindC_intro omQ ?_
   refine spQA (And.intro ha9 (And.intro ha12 (And.intro ha17 (And.intro he20 (And.intro he21 (And.intro he28 (And.intro he29 (And.intro he30 (And.intro he31 (And.intro he32 he39)))))))))) ?_
   refine hbindC_intro omQ ?_
   refine spQA (And.intro ha9 (And.intro ha12 (And.intro ha17 (And.intro he20 (And.intro he21 (And.intro he28 (And.intro he29 (And.intro he30 (And.intro he31 (And.intro he32 he39)))))))))) ?_
   refine hbindC_intro omQ ?_
   have he40 : ∀ d, elt (p17.2.map (V.int .u32)) 2 d = (V.int .u32) (gt p17.2 2) := fun d => elt_mp (l := p17.2) (f := (V.int .u32)) (i := 2) omQ d
   refine spQA (And.intro ha9 (And.intro ha12 (And.intro ha17 (And.intro he20 (And.intro he21 (And.intro he28 (And.intro he29 (And.intro he30 (And.intro he31 (And.intro he32 (And.intro he39 he40))))))))))) ?_
   refine hbindC_intro omQ ?_
   refine spQA (And.intro ha9 (And.intro ha12 (And.intro ha17 (And.intro he20 (And.intro he21 (And.intro he28 (And.intro he29 (And.intro he30 (And.intro he31 (And.intro he32 (And.intro he39 he40))))))))))) ?_
   refine hbindC_intro omQ ?_
   refine spQA (And.intro ha9 (And.intro ha12 (And.intro ha17 (And.intro he20 (And.intro he21 (And.intro he28 (And.intro he29 (And.intro he30 (And.intro he31 (And.intro he32 (And.intro he39 he40))))))))))) ?_
   refine hbindC_intro omQ ?_
   refine spQA (And.intro ha9 (And.intro ha12 (And.intro ha17 (And.intro he20 (And.intro he21 (And.intro he28 (And.intro he29 (And.intro he30 (And.intro he31 (And.intro he32 (And.intro he39 he40))))))))))) ?_
   refine hbindC_intro omQ ?_
   refine spQA (And.intro ha9 (And.intro ha12 (And.intro ha17 (And.intro he20 (And.intro he21 (And.intro he28 (And.intro he29 (And.intro he30 (And.intro he31 (And.intro he32 (And.intro he39 he40))))))))))) ?_
   refine hbindC_intro omQ ?_
   refine spQA (And.intro ha9 (And.intro ha12 (And.intro ha17 (And.intro he20 (And.intro he21 (And.intro he28 (And.intro he29 (And.intro he30 (And.intro he31 (And.intro he32 (And.intro he39 he40))))))))))) ?_
   refine ct_draw 182 26 [121, 122, 123, 124, 125, 126, 127, 128, 129, 130, 131, 132, 133, 134, 135, 136, 137, 138, 139, 140, 141, 142, 143, 144, 145, 146] [] ([[], [], [0, 1], [], [3], [3, 4], [], [6], [6, 7], [], [9], [9, 10], [], [12], [12, 13], [], [12, 13, 14, 15], [], [17], [17, 18], [], [20], [20, 21], [], [23], [23, 24]] ++ [List.range 26, List.range 27]) [] (by kernel_rfl) (by exact alQ) ?_
   refine spQA (And.intro ha9 (And.intro ha12 (And.intro ha17 (And.intro he20 (And.intro he21 (And.intro he28 (And.intro he29 (And.intro he30 (And.intro he31 (And.intro he32 (And.intro he39 he40))))))))))) ?_
   refine hbindC_intro omQ ?_
   refine spQA (And.intro ha9 (And.intro ha12 (And.intro ha17 (And.intro he20 (And.intro he21 (And.intro he28 (And.intro he29 (And.intro he30 (And.intro he31 (And.intro he32 (And.intro he39 he40))))))))))) ?_
   refine hbindC_intro omQ ?_
   refine spQA (And.intro ha9 (And.intro ha12 (And.intro ha17 (And.intro he20 (And.intro he21 (And.intro he28 (And.intro he29 (And.intro he30 (And.intro he31 (And.intro he32 (And.intro he39 he40))))))))))) ?_
   refine hbindC_intro omQ ?_
   refine spQA (And.intro ha9 (And.intro ha12 (And.intro ha17 (And.intro he20 (And.intro he21 (And.intro he28 (And.intro he29 (And.intro he30 (And.intro he31 (And.intro he32 (And.intro he39 he40))))))))))) ?_
   refine hbindC_intro omQ ?_
   refine spQA (And.intro ha9 (And.intro ha12 (And.intro ha17 (And.intro he20 (And.intro he21 (And.intro he28 (And.intro he29 (And.intro he30 (And.intro he31 (And.intro he32 (And.intro he39 he40))))))))))) ?_
   refine hbindC_intro omQ ?_
   refine spQA (And.intro ha9 (And.intro ha12 (And.intro ha17 (And.intro he20 (And.intro he21 (And.intro he28 (And.intro he29 (And.intro he30 (And.intro he31 (And.intro he32 (And.intro he39 he40))))))))))) ?_
   refine hbindC_intro omQ ?_
   refine spQA (And.intro ha9 (And.intro ha12 (And.intro ha17 (And.intro he20 (And.intro he21 (And.intro he28 (And.intro he29 (And.intro he30 (And.intro he31 (And.intro he32 (And.intro he39 he40))))))))))) ?_
   refine hbindC_intro omQ ?_
   have he41 : ∀ d, elt (p17.2.map (V.int .u32)) 3 d = (V.int .u32) (gt p17.2 3) := fun d => elt_mp (l := p17.2) (f := (V.int .u32)) (i := 3) omQ d
   refine spQA (And.intro ha9 (And.intro ha12 (And.intro ha17 (And.intro he20 (And.intro he21 (And.intro he28 (And.intro he29 (And.intro he30 (And.intro he31 (And.intro he32 (And.intro he39 (And.intro he40 he41)))))))))))) ?_
   refine hbindC_intro omQ ?_
   refine spQA (And.intro ha9 (And.intro ha12 (And.intro ha17 (And.intro he20 (And.intro he21 (And.intro he28 (And.intro he29 (And.intro he30 (And.intro he31 (And.intro he32 (And.intro he39 (And.intro he40 he41)))))))))))) ?_
   refine hbindC_intro omQ ?_
   refine spQA (And.intro ha9 (And.intro ha12 (And.intro ha17 (And.intro he20 (And.intro he21 (And.intro he28 (And.intro he29 (And.intro he30 (And.intro he31 (And.intro he32 (And.intro he39 (And.intro he40 he41)))))))))))) ?_
   refine hbindC_intro omQ ?_
   refine spQA (And.intro ha9 (And.intro ha12 (And.intro ha17 (And.intro he20 (And.intro he21 (And.intro he28 (And.intro he29 (And.intro he30 (And.intro he31 (And.intro he32 (And.intro he39 (And.intro he40 he41)))))))))))) ?_
   refine hbindC_intro omQ ?_
   refine spQA (And.intro ha9 (And.intro ha12 (And.intro ha17 (And.intro he20 (And.intro he21 (And.intro he28 (And.intro he29 (And.intro he30 (And.intro he31 (And.intro he32 (And.intro he39 (And.intro he40 he41)))))))))))) ?_
   refine hbindC_intro omQ ?_
   refine spQA (And.intro ha9 (And.intro ha12 (And.intro ha17 (And.intro he20 (And.intro he21 (And.intro he28 (And.intro he29 (And.intro he30 (And.intro he31 (And.intro he32 (And.intro he39 (And.intro he40 he41)))))))))))) ?_
   refine hbindC_intro omQ ?_
   refine spQA (And.intro ha9 (And.intro ha12 (And.intro ha17 (And.intro he20 (And.intro he21 (And.intro he28 (And.intro he29 (And.intro he30 (And.intro he31 (And.intro he32 (And.intro he39 (And.intro he40 he41)))))))))))) ?_
   refine hbindC_intro omQ ?_
   refine spQA (And.intro ha9 (And.intro ha12 (And.intro ha17 (And.intro he20 (And.intro he21 (And.intro he28 (And.intro he29 (And.intro he30 (And.intro he31 (And.intro he32 (And.intro he39 (And.intro he40 he41)))))))))))) ?_
   refine lp_introW (n17 - 1) _ _ (by omega) (weak_ren (S := ⟨_, _, _⟩) 8 2 110 (T := 113) (n := 1) (g := false) (z := (some false)) (l := ([(addI .u32 (addI .u32 (addI .u32 (addI .u32 (addI .u32 (gt p17.2 7) (xorI .u32 (xorI .u32 x22 x24) x26)) (xorI .u32 (andI .u32 (gt p17.2 4) (gt p17.2 5)) (andI .u32 (notI .u32 (gt p17.2 4)) (gt p17.2 6)))) (gt x1 p17.1)) (gt x13 p17.1)) (addI .u32 (xorI .u32 (xorI .u32 x33 x35) x37) (xorI .u32 (xorI .u32 (andI .u32 (gt p17.2 0) (gt p17.2 1)) (andI .u32 (gt p17.2 0) (gt p17.2 2))) (andI .u32 (gt p17.2 1) (gt p17.2 2))))), (gt p17.2 0), (gt p17.2 1), (gt p17.2 2), (addI .u32 (gt p17.2 3) (addI .u32 (addI .u32 (addI .u32 (addI .u32 (gt p17.2 7) (xorI .u32 (xorI .u32 x22 x24) x26)) (xorI .u32 (andI .u32 (gt p17.2 4) (gt p17.2 5)) (andI .u32 (notI .u32 (gt p17.2 4)) (gt p17.2 6)))) (gt x1 p17.1)) (gt x13 p17.1))), (gt p17.2 4), (gt p17.2 5), (gt p17.2 6)] : List Int).map (V.int .u32)) (clQA (And.intro ha9 (And.intro ha12 (And.intro ha17 (And.intro he20 (And.intro he21 (And.intro he28 (And.intro he29 (And.intro he30 (And.intro he31 (And.intro he32 (And.intro he39 (And.intro he40 he41))))))))))))) (clQA (And.intro ha9 (And.intro ha12 (And.intro ha17 (And.intro he20 (And.intro he21 (And.intro he28 (And.intro he29 (And.intro he30 (And.intro he31 (And.intro he32 (And.intro he39 (And.intro he40 he41))))))))))))) (by first | decide | (dsimp only; decide)) (by decide)) sbQ sbQ ⟨((p17.1 + 1), ([(addI .u32 (addI .u32 (addI .u32 (addI .u32 (addI .u32 (gt p17.2 7) (xorI .u32 (xorI .u32 x22 x24) x26)) (xorI .u32 (andI .u32 (gt p17.2 4) (gt p17.2 5)) (andI .u32 (notI .u32 (gt p17.2 4)) (gt p17.2 6)))) (gt x1 p17.1)) (gt x13 p17.1)) (addI .u32 (xorI .u32 (xorI .u32 x33 x35) x37) (xorI .u32 (xorI .u32 (andI .u32 (gt p17.2 0) (gt p17.2 1)) (andI .u32 (gt p17.2 0) (gt p17.2 2))) (andI .u32 (gt p17.2 1) (gt p17.2 2))))), (gt p17.2 0), (gt p17.2 1), (gt p17.2 2), (addI .u32 (gt p17.2 3) (addI .u32 (addI .u32 (addI .u32 (addI .u32 (gt p17.2 7) (xorI .u32 (xorI .u32 x22 x24) x26)) (xorI .u32 (andI .u32 (gt p17.2 4) (gt p17.2 5)) (andI .u32 (notI .u32 (gt p17.2 4)) (gt p17.2 6)))) (gt x1 p17.1)) (gt x13 p17.1))), (gt p17.2 4), (gt p17.2 5), (gt p17.2 6)] : List Int)), rfl, ⟨omQ, omQ, omQ, omQ⟩, omQ, iter_again hM hag17⟩
  ·rw [if_neg (ne_true h18)] at hM
   refine spQA (And.intro ha9 (And.intro ha12 (And.intro ha17 h18))) ?_
   have nh18 := nzQ h18
   try have hr42 := mpQ nh18
   have hM0 := hM; clear hM; obtain ⟨f43, d43, hf43, hd43, hM⟩ := iter_opn hM0; clear hM0
   refine ct_loop (fun n S => ∃ p : Int × List Int, S = (⟨[(2, .ptr 0 0), (3, .own 1), (4, .sl none 1 false (x1.map (V.int .u32))), (5, .sl none 1 false (x5.map (V.int .u8))), (6, .int .i64 p9.1), (8, .own 2), (12, .int .i64 p.1)], [(0, .var 32 true (zv_40)), (1, .own 113 1 false none (p.2.map (V.int .u32))), (2, .own 113 1 false none (p17.2.map (V.int .u32)))], 3⟩ : St) ∧ ((0 ≤ p.1) ∧ (p.1 ≤ 8) ∧ ((p.2).length = (p9.2).length)) ∧ ((8 : Int) - p.1).toNat < n ∧ iter n f43 d43 p = r) (((8 : Int) - 0).toNat + 1) _ sbQ sbQ ⟨(0, p9.2), rfl, ⟨omQ, omQ, omQ⟩, (Nat.lt_succ_self _), hM⟩ ?_
   clear hM
   rintro n43 S ⟨p43, rfl, hfa43, hm43, hM⟩
   have hM0 := hM; clear hM; obtain ⟨ag43, hag43, hM⟩ := iter_step hM0 (by omega) hf43; clear hM0
   replace hfa43 := nzQ hfa43
   replace hm43 := nzQ hm43
   have ha43 : addI .i64 p43.1 1 = p43.1 + 1 := add_one omQ omQ
   refine spQA (And.intro ha9 (And.intro ha12 (And.intro ha17 ha43))) ?_
   have hF := (And.intro ha9 (And.intro h10 (And.intro ha12 (And.intro ha17 (And.intro h18 ha43)))))
   exact auQ
 ·rw [if_neg (ne_true h10)] at hM
  refine spQA (And.intro ha9 h10) ?_
  have nh10 := nzQ h10
  try have hr50 := mpQ nh10
  have hM0 := hM; clear hM; obtain ⟨f51, d51, hf51, hd51, hM⟩ := iter_opn hM0; clear hM0
  refine ct_loop (fun n S => ∃ p : Int × (List Int), S = (⟨[(2, .ptr 0 0), (3, .own 1), (13, .ptr 2 0), (14, .int .i64 p.1)], [(0, .var 32 true (zv_40)), (1, .own 113 1 false none (p9.2.map (V.int .u32))), (2, .var 32 true ((e_arr40 p.2)))], 3⟩ : St) ∧ ((0 ≤ p.1) ∧ (p.1 ≤ 32)) ∧ ((32 : Int) - p.1).toNat < n ∧ iter n f51 d51 p = r) (((32 : Int) - 0).toNat + 1) _ sbQ (by simp only [go_sem, rowV_eq, rowV_eq0, List.length_replicate, rep_len, Int.toNat_natCast, ↓reduceIte, Nat.reduceEqDiff, Nat.reduceAdd, Int.reduceAdd, Nat.reduceMul, Nat.reduceLeDiff, Nat.reduceLT, Int.reduceLE, Int.reduceLT, Int.reduceNeg, Int.reduceToNat, List.isEmpty_nil, map_st, mtL_repE, mtL_repM, subF, subH, mtO, mtB, mt, mtL, mtL_self, mt_self, ltV, ltL, ltB, eq_self, or_true, true_or, or_self, and_self, gt_cons0, gt_conss, Int.reduceSub]) ⟨(0, [0, 0, 0, 0, 0, 0, 0, 0, 0, 0, 0, 0, 0, 0, 0, 0, 0, 0, 0, 0, 0, 0, 0, 0, 0, 0, 0, 0, 0, 0, 0, 0]), rfl, ⟨omQ, omQ⟩, (Nat.lt_succ_self _), hM⟩ ?_
  clear hM
  rintro n51 S ⟨p51, rfl, hfa51, hm51, hM⟩
  have hM0 := hM; clear hM; obtain ⟨ag51, hag51, hM⟩ := iter_step hM0 (by omega) hf51; clear hM0
  replace hfa51 := nzQ hfa51
  replace hm51 := nzQ hm51
  have ha51 : addI .i64 p51.1 1 = p51.1 + 1 := add_one omQ omQ
  refine spQA (And.intro ha9 ha51) ?_
  refine condC_intro (fun h52 => ?_) (fun h52 => ?_)
  ·rw [if_pos h52] at hM
   refine spQA (And.intro ha9 (And.intro ha51 h52)) ?_
   have nh52 := nzQ h52
   try have hr53 := mpQ nh52
   have ha54 : quoI .i64 p51.1 4 = (p51.1 / 4) := quo_ok omQ omQ
   try simp only [ha54]
   refine bindC_intro omQ ?_
   refine spQA (And.intro ha9 (And.intro ha51 ha54)) ?_
   refine bindC_intro omQ ?_
   have he55 := fun d => elt_mp (l := p9.2) (f := (V.int .u32)) (i := (p51.1 / 4)) omQ d
   refine spQA (And.intro ha9 (And.intro ha51 (And.intro ha54 he55))) ?_
   refine bindC_intro omQ ?_
   refine spQA (And.intro ha9 (And.intro ha51 (And.intro ha54 he55))) ?_
   have ha56 : remI .i64 p51.1 4 = (p51.1 % 4) := rem_ok omQ omQ
   try simp only [ha56]
   refine bindC_intro omQ ?_
   refine spQA (And.intro ha9 (And.intro ha51 (And.intro ha54 (And.intro he55 ha56)))) ?_
   obtain ⟨ha57, hbha57⟩ := mul_pos_ok (a := 8) (b := (p51.1 % 4)) 8 64 512 omQ omQ omQ omQ (by decide) (by decide)
   try simp only [ha57]
   have ha58 : subI .i64 24 (8 * (p51.1 % 4)) = (24 - (8 * (p51.1 % 4))) := sub_ok omQ omQ
   try simp only [ha58]
   refine bindC_intro omQ ?_
   refine spQA (And.intro ha9 (And.intro ha51 (And.intro ha54 (And.intro he55 (And.intro ha56 (And.intro ha57 ha58)))))) ?_
   refine bindC_intro omQ ?_
   have he59 : ((p51.1).toNat * 1 + 1 ≤ 32) = True := eq_true omQ
   refine spQA (And.intro ha9 (And.intro ha51 (And.intro ha54 (And.intro he55 (And.intro ha56 (And.intro ha57 (And.intro ha58 he59))))))) ?_
   have he60 := arr_put (f := (V.int .u8)) (l := (arrN 32 p51.2)) (n := 32) (i := p51.1) (v := (convI .u8 (shrI .u32 (gt p9.2 (p51.1 / 4)) (24 - (8 * (p51.1 % 4)))))) arrN_len omQ
   replace he60 := spR he60
   refine spQA (And.intro ha9 (And.intro ha51 (And.intro ha54 (And.intro he55 (And.intro ha56 (And.intro ha57 (And.intro ha58 (And.intro he59 he60)))))))) ?_
   refine lp_intro (n51 - 1) _ (by omega) sbQ (by simp only [go_sem, rowV_eq, rowV_eq0, List.length_replicate, rep_len, Int.toNat_natCast, ↓reduceIte, Nat.reduceEqDiff, Nat.reduceAdd, Int.reduceAdd, Nat.reduceMul, Nat.reduceLeDiff, Nat.reduceLT, Int.reduceLE, Int.reduceLT, Int.reduceNeg, Int.reduceToNat, List.isEmpty_nil, map_st, mtL_repE, mtL_repM, subF, subH, mtO, mtB, mt, mtL, mtL_self, mt_self, ltV, ltL, ltB, eq_self, or_true, true_or, or_self, and_self, gt_cons0, gt_conss, Int.reduceSub]) ⟨((p51.1 + 1), (arrN 32 (st (arrN 32 p51.2) p51.1 (convI .u8 (shrI .u32 (gt p9.2 (p51.1 / 4)) (24 - (8 * (p51.1 % 4)))))))), rfl, ⟨omQ, omQ⟩, omQ, iter_again hM hag51⟩
  ·rw [if_neg (ne_true h52)] at hM
   refine spQA (And.intro ha9 (And.intro ha51 h52)) ?_
   have nh52 := nzQ h52
   try have hr61 := mpQ nh52
   subst hM
   exact retC_view (lfQA (And.intro ha9 (And.intro ha51 (And.intro h10 h52))))
set_option maxHeartbeats 2000000 in
set_option maxRecDepth 100000 in
theorem specieref06_Join_ok   (b : (List Int)) (h_ : (List Int)) (hp0 : b.length ≤ 1000000000) : CM En (specieref06_Join b h_) 214 [.sl none 1 false (b.map (V.int .u8)), (e_arr40 h_)] (fun _ => .own 0) (fun y => [.own 5 1 false none (y.map (V.int .u8))]) := by
 refine cmQ fun r hM => ?_
 rw [specieref06_Join.eq_1] at hM
 refine enterV En_ok En_mo noJ Tryz.func214 rfl Tryz.ntmps214 (by kernel_rfl) fun hw => ct_start ?_
 refine spQ ?_
 replace hw := nzQ hw
 refine bindC_intro omQ ?_
 refine spQ ?_
 have hM0 := hM; clear hM; obtain ⟨f1, d1, hf1, hd1, hM⟩ := iter_opn hM0; clear hM0
 refine ct_loop (fun n S => ∃ p : Int × List Int, S = (⟨[(3, .ptr 0 0), (5, .own 1), (6, .int .i64 p.1)], [(0, .var 32 true ((e_arr40 h_))), (1, .own 5 1 false none (p.2.map (V.int .u8)))], 2⟩ : St) ∧ ((0 ≤ p.1) ∧ (p.1 ≤ 32) ∧ (((p.2).length : Int) ≤ p.1 + ((([] : List Int) ++ b)).length)) ∧ ((32 : Int) - p.1).toNat < n ∧ iter n f1 d1 p = r) (((32 : Int) - 0).toNat + 1) _ sbQ sbQ ⟨(0, (([] : List Int) ++ b)), rfl, ⟨omQ, omQ, omQ⟩, (Nat.lt_succ_self _), hM⟩ ?_
 clear hM
 rintro n1 S ⟨p1, rfl, hfa1, hm1, hM⟩
 have hM0 := hM; clear hM; obtain ⟨ag1, hag1, hM⟩ := iter_step hM0 (by omega) hf1; clear hM0
 replace hfa1 := nzQ hfa1
 replace hm1 := nzQ hm1
 have ha1 : addI .i64 p1.1 1 = p1.1 + 1 := add_one omQ omQ
 refine spQA ha1 ?_
 refine condC_intro (fun h2 => ?_) (fun h2 => ?_)
 ·rw [if_pos h2] at hM
  refine spQA (And.intro ha1 h2) ?_
  have nh2 := nzQ h2
  try have hr3 := mpQ nh2
  refine bindC_intro omQ ?_
  have he4 : ((p1.1).toNat * 1 + 1 ≤ 32) = True := eq_true omQ
  refine spQA (And.intro ha1 he4) ?_
  have he5 := arr_get (f := (V.int .u8)) (l := h_) (n := 32) (i := p1.1) omQ
  replace he5 := spR he5
  try refine spQA (And.intro ha1 (And.intro he4 he5)) ?_
  have hF := (And.intro ha1 (And.intro h2 (And.intro he4 he5)))
  exact auQ
 ·rw [if_neg (ne_true h2)] at hM
  refine spQA (And.intro ha1 h2) ?_
  have nh2 := nzQ h2
  try have hr6 := mpQ nh2
  subst hM
  exact retC_owns [1] (bs := [.own 5 1 false none (p1.2.map (V.int .u8))]) (clQA ha1) (by decide) (lfQA (And.intro ha1 h2))
set_option maxHeartbeats 2000000 in
set_option maxRecDepth 100000 in
theorem specieref06_Tagged_ok   (tag : (List UInt8)) (b : (List Int)) (hp0 : b.length ≤ 900000000) (hp1 : tag.length ≤ 1000) : CM En (specieref06_Tagged tag b) 145 [.str tag, .sl none 1 false (b.map (V.int .u8))] (fun y => (e_arr40 y)) (fun _ => []) := by
 refine cmQ fun r hM => ?_
 rw [specieref06_Tagged.eq_1] at hM
 refine enterV En_ok En_mo noJ Tryz.func145 rfl Tryz.ntmps145 (by kernel_rfl) fun hw => ct_start ?_
 refine spQ ?_
 replace hw := nzQ hw
 have hM0 := hM; clear hM; obtain ⟨x1, hx2, hM⟩ := letk_opn hM0; clear hM0
 have hcx1 := cmH hx2 (specieref06_Sum_ok  (nat8 tag) (by (exact pfQ)))
 refine callC_look hcx1 clQ clQ (fun hw3 => ?_)
 replace hw3 := nzQ hw3
 refine spQ ?_
 refine ct_draw 16 5 [9, 10, 11, 12, 13] [] ([[], [0], [], [0, 1, 2], []] ++ [List.range 5, List.range 6, List.range 7]) [] (by kernel_rfl) (by exact alQ) ?_
 refine spQ ?_
 have hM0 := hM; clear hM; obtain ⟨x4, hx5, hM⟩ := letk_opn hM0; clear hM0
 have hcx4 := CallOk.pub (cmH hx5 (specieref06_Join_ok  ([] : List Int) x1 (by (exact pfQ))))
 refine hcallC_give hcx4 clQ clQ ?_
 refine spQ ?_
 have hq6 := nzQ (cfU hx5)
 have hM0 := hM; clear hM; obtain ⟨x7, hx8, hM⟩ := letk_opn hM0; clear hM0
 have hcx7 := cmH hx8 (specieref06_Join_ok  x4 x1 (by (exact pfQ)))
 refine hcallC_own hcx7 clQ clQ ?_
 refine spQ ?_
 have hq9 := nzQ (cfU hx8)
 refine bindC_intro omQ ?_
 refine spQ ?_
 have hM0 := hM; clear hM; obtain ⟨x10, hx11, hM⟩ := letk_opn hM0; clear hM0
 have hcx10 := cmH hx11 (specieref06_Sum_ok  (x7 ++ b) (by (exact pfQ)))
 refine callC_look hcx10 clQ clQ (fun hw12 => ?_)
 replace hw12 := nzQ hw12
 refine spQ ?_
 subst hM
 exact retC_view lfQ
set_option maxHeartbeats 2000000 in
set_option maxRecDepth 100000 in
theorem specieref27_Leaf_ok   (b : (List Int)) (hp0 : b.length ≤ 900000000) : CM En (specieref27_Leaf b) 78 [.sl none 1 false (b.map (V.int .u8))] (fun y => (e_arr40 y)) (fun _ => []) := by
 refine cmQ fun r hM => ?_
 rw [specieref27_Leaf.eq_1] at hM
 refine enterV En_ok En_mo noJ Tryz.func78 rfl Tryz.ntmps78 (by kernel_rfl) fun hw => ct_start ?_
 refine spQ ?_
 replace hw := nzQ hw
 have hM0 := hM; clear hM; obtain ⟨x1, hx2, hM⟩ := letk_opn hM0; clear hM0
 have hcx1 := cmH hx2 (specieref06_Tagged_ok  ([115, 112, 101, 99, 105, 101, 47, 108, 101, 97, 102]) b (by (exact pfQ)) (by (exact pfQ)))
 refine callC_give hcx1 clQ clQ (fun hw3 => ?_)
 replace hw3 := nzQ hw3
 refine spQ ?_
 subst hM
 exact retC_view lfQ
set_option maxHeartbeats 2000000 in
set_option maxRecDepth 100000 in
instance specieref31_Hashes_ok   (leaves : (List Int))  : CM En (specieref31_Hashes leaves) 27 [.sl none 1 false (leaves.map (V.int .i64))] (fun y => .sl none 32 true (y.map e_arr40)) (fun _ => []) := by
 refine cmQ fun r hM => ?_
 rw [specieref31_Hashes.eq_1] at hM
 refine enterV En_ok En_mo noJ Tryz.func27 rfl Tryz.ntmps27 (by kernel_rfl) fun hw => ct_start ?_
 refine spQ ?_
 replace hw := nzQ hw
 have hM0 := hM; clear hM; obtain ⟨f1, d1, hf1, hd1, hM⟩ := iter_opn hM0; clear hM0
 refine ct_loopW (fun n S => ∃ p : Int × List (List Int), S = (⟨[(0, .sl none 1 false (leaves.map (V.int .i64))), (3, .own 0), (4, .int .i64 p.1)], [(0, .own 40 32 true none (p.2.map e_arr40))], 1⟩ : St) ∧ ((0 ≤ p.1) ∧ (p.1 ≤ (leaves.length : Int)) ∧ (((p.2).length : Int) ≤ p.1)) ∧ ((leaves.length : Int) - p.1).toNat < n ∧ iter n f1 d1 p = r) (((leaves.length : Int) - 0).toNat + 1) _ _ (weak_nil 3 40 rfl (by decide)) sbQ sbQ ⟨(0, ([] : List (List Int))), rfl, ⟨omQ, omQ, omQ⟩, (Nat.lt_succ_self _), hM⟩ ?_
 clear hM
 rintro n1 S ⟨p1, rfl, hfa1, hm1, hM⟩
 have hM0 := hM; clear hM; obtain ⟨ag1, hag1, hM⟩ := iter_step hM0 (by omega) hf1; clear hM0
 replace hfa1 := nzQ hfa1
 replace hm1 := nzQ hm1
 have ha1 : addI .i64 p1.1 1 = p1.1 + 1 := add_one omQ omQ
 refine spQA ha1 ?_
 refine condC_intro (fun h2 => ?_) (fun h2 => ?_)
 ·rw [if_pos h2] at hM
  refine spQA (And.intro ha1 h2) ?_
  have nh2 := nzQ h2
  try have hr3 := mpQ nh2
  refine bindC_intro omQ ?_
  have he4 := fun d => elt_mp (l := leaves) (f := (V.int .i64)) (i := p1.1) omQ d
  refine spQA (And.intro ha1 he4) ?_
  have hM0 := hM; clear hM; obtain ⟨x5, hx6, hM⟩ := letk_opn hM0; clear hM0
  have hcx5 := encI_ok  ({ Kind := 1, N := (gt leaves p1.1), B := ([] : List Int), L := ([] : List S_api_Item) } : S_api_Item) (by (simp [hgt, hgtL]))
  rw [← hx6] at hcx5
  refine callC_give hcx5 (clQA (And.intro ha1 he4)) (clQA (And.intro ha1 he4)) (fun hw7 => ?_)
  replace hw7 := nzQ hw7
  refine spQA (And.intro ha1 he4) ?_
  have hq8 := enc_int hx6
  replace hq8 := nzQ hq8
  have hM0 := hM; clear hM; obtain ⟨x9, hx10, hM⟩ := letk_opn hM0; clear hM0
  have hcx9 := cmH hx10 (specieref27_Leaf_ok  x5 (by (exact pfQ)))
  refine callC_give hcx9 (clQA (And.intro ha1 he4)) (clQA (And.intro ha1 he4)) (fun hw11 => ?_)
  replace hw11 := nzQ hw11
  refine spQA (And.intro ha1 he4) ?_
  have hF := (And.intro ha1 (And.intro h2 he4))
  exact auQ
 ·rw [if_neg (ne_true h2)] at hM
  refine spQA (And.intro ha1 h2) ?_
  have nh2 := nzQ h2
  try have hr12 := mpQ nh2
  subst hM
  exact retC_view (lfQA (And.intro ha1 h2))
instance (priority := 1010) : DRD 6 26 8 [16, 17, 18, 19, 20, 21, 22, 23] [] ([[], [], [0, 1], [0, 1, 2], [], [], [4, 5], [4, 5, 6]] ++ [List.range 8]) [] := ⟨trivial⟩
set_option maxHeartbeats 2000000 in
set_option maxRecDepth 100000 in
instance slices_Equal_api_Hash_api_Hash_ok   (s1 : (List (List Int))) (s2 : (List (List Int)))  : CM En (slices_Equal_api_Hash_api_Hash s1 s2) 26 [.sl none 32 true (s1.map e_arr40), .sl none 32 true (s2.map e_arr40)] (fun y => .bool y) (fun _ => []) := by
 refine cmQ fun r hM => ?_
 rw [slices_Equal_api_Hash_api_Hash.eq_1] at hM
 refine enterV En_ok En_mo noJ Tryz.func26 rfl Tryz.ntmps26 (by kernel_rfl) fun hw => ct_start ?_
 refine spQ ?_
 replace hw := nzQ hw
 refine condC_intro (fun h1 => ?_) (fun h1 => ?_)
 ·rw [if_pos h1] at hM
  refine spQA h1 ?_
  have nh1 := nzQ h1
  try have hr2 := mpQ nh1
  subst hM
  exact retC_view (lfQA h1)
 ·rw [if_neg (ne_true h1)] at hM
  refine spQA h1 ?_
  have nh1 := nzQ h1
  try have hr3 := mpQ nh1
  have hM0 := hM; clear hM; obtain ⟨f4, d4, hf4, hd4, hM⟩ := iter_opn hM0; clear hM0
  refine ct_loop (fun n S => ∃ p : Int, S = (⟨[(0, .sl none 32 true (s1.map e_arr40)), (1, .sl none 32 true (s2.map e_arr40)), (12, .int .i64 (s1.length : Int)), (13, .int .i64 p)], [], 0⟩ : St) ∧ ((0 ≤ p) ∧ (p ≤ (s1.length : Int))) ∧ ((s1.length : Int) - p).toNat < n ∧ iter n f4 d4 p = r) (((s1.length : Int) - 0).toNat + 1) _ sbQ sbQ ⟨0, rfl, ⟨omQ, omQ⟩, (Nat.lt_succ_self _), hM⟩ ?_
  clear hM
  rintro n4 S ⟨p4, rfl, hfa4, hm4, hM⟩
  have hM0 := hM; clear hM; obtain ⟨ag4, hag4, hM⟩ := iter_step hM0 (by omega) hf4; clear hM0
  replace hfa4 := nzQ hfa4
  replace hm4 := nzQ hm4
  have ha4 : addI .i64 p4 1 = p4 + 1 := add_one omQ omQ
  refine spQA ha4 ?_
  have hF := (And.intro h1 ha4)
  exact auQ
set_option maxHeartbeats 2000000 in
set_option maxRecDepth 100000 in
instance specieref27_Inner_ok   (l : (List Int)) (r_ : (List Int))  : CM En (specieref27_Inner l r_) 147 [(e_arr40 l), (e_arr40 r_)] (fun y => (e_arr40 y)) (fun _ => []) := by
 refine cmQ fun r hM => ?_
 rw [specieref27_Inner.eq_1] at hM
 refine enterV En_ok En_mo noJ Tryz.func147 rfl Tryz.ntmps147 (by kernel_rfl) fun hw => ct_start ?_
 refine spQ ?_
 replace hw := nzQ hw
 have hM0 := hM; clear hM; obtain ⟨f1, d1, hf1, hd1, hM⟩ := iter_opn hM0; clear hM0
 refine ct_loopW (fun n S => ∃ p : Int × List Int, S = (⟨[(2, .ptr 0 0), (3, .ptr 1 0), (4, .ptr 2 0), (5, .own 3), (6, .int .i64 p.1)], [(0, .var 32 true ((e_arr40 l))), (1, .var 32 true ((e_arr40 r_))), (2, .var 32 true (zv_40)), (3, .own 5 1 false none (p.2.map (V.int .u8)))], 4⟩ : St) ∧ ((0 ≤ p.1) ∧ (p.1 ≤ 32) ∧ (((p.2).length : Int) ≤ p.1)) ∧ ((32 : Int) - p.1).toNat < n ∧ iter n f1 d1 p = r) (((32 : Int) - 0).toNat + 1) _ _ (weak_nil 5 5 rfl (by decide)) sbQ sbQ ⟨(0, ([] : List Int)), rfl, ⟨omQ, omQ, omQ⟩, (Nat.lt_succ_self _), hM⟩ ?_
 clear hM
 rintro n1 S ⟨p1, rfl, hfa1, hm1, hM⟩
 have hM0 := hM; clear hM; obtain ⟨ag1, hag1, hM⟩ := iter_step hM0 (by omega) hf1; clear hM0
 replace hfa1 := nzQ hfa1
 replace hm1 := nzQ hm1
 have ha1 : addI .i64 p1.1 1 = p1.1 + 1 := add_one omQ omQ
 refine spQA ha1 ?_
 refine condC_intro (fun h2 => ?_) (fun h2 => ?_)
 ·rw [if_pos h2] at hM
  refine spQA (And.intro ha1 h2) ?_
  have nh2 := nzQ h2
  try have hr3 := mpQ nh2
  refine bindC_intro omQ ?_
  have he4 : ((p1.1).toNat * 1 + 1 ≤ 32) = True := eq_true omQ
  refine spQA (And.intro ha1 he4) ?_
  have he5 := arr_get (f := (V.int .u8)) (l := l) (n := 32) (i := p1.1) omQ
  replace he5 := spR he5
  try refine spQA (And.intro ha1 (And.intro he4 he5)) ?_
  have hF := (And.intro ha1 (And.intro h2 (And.intro he4 he5)))
  exact auQ
 ·rw [if_neg (ne_true h2)] at hM
  refine spQA (And.intro ha1 h2) ?_
  have nh2 := nzQ h2
  try have hr6 := mpQ nh2
  have hM0 := hM; clear hM; obtain ⟨f7, d7, hf7, hd7, hM⟩ := iter_opn hM0; clear hM0
  refine ct_loop (fun n S => ∃ p : Int × List Int, S = (⟨[(3, .ptr 1 0), (4, .ptr 2 0), (5, .own 3), (7, .int .i64 p.1)], [(1, .var 32 true ((e_arr40 r_))), (2, .var 32 true (zv_40)), (3, .own 5 1 false none (p.2.map (V.int .u8)))], 4⟩ : St) ∧ ((0 ≤ p.1) ∧ (p.1 ≤ 32) ∧ (((p.2).length : Int) ≤ p.1 + (p1.2).length)) ∧ ((32 : Int) - p.1).toNat < n ∧ iter n f7 d7 p = r) (((32 : Int) - 0).toNat + 1) _ sbQ sbQ ⟨(0, p1.2), rfl, ⟨omQ, omQ, omQ⟩, (Nat.lt_succ_self _), hM⟩ ?_
  clear hM
  rintro n7 S ⟨p7, rfl, hfa7, hm7, hM⟩
  have hM0 := hM; clear hM; obtain ⟨ag7, hag7, hM⟩ := iter_step hM0 (by omega) hf7; clear hM0
  replace hfa7 := nzQ hfa7
  replace hm7 := nzQ hm7
  have ha7 : addI .i64 p7.1 1 = p7.1 + 1 := add_one omQ omQ
  refine spQA (And.intro ha1 ha7) ?_
  refine condC_intro (fun h8 => ?_) (fun h8 => ?_)
  ·rw [if_pos h8] at hM
   refine spQA (And.intro ha1 (And.intro ha7 h8)) ?_
   have nh8 := nzQ h8
   try have hr9 := mpQ nh8
   refine bindC_intro omQ ?_
   have he10 : ((p7.1).toNat * 1 + 1 ≤ 32) = True := eq_true omQ
   refine spQA (And.intro ha1 (And.intro ha7 he10)) ?_
   have he11 := arr_get (f := (V.int .u8)) (l := r_) (n := 32) (i := p7.1) omQ
   replace he11 := spR he11
   try refine spQA (And.intro ha1 (And.intro ha7 (And.intro he10 he11))) ?_
   have hF := (And.intro ha1 (And.intro h2 (And.intro ha7 (And.intro h8 (And.intro he10 he11)))))
   exact auQ
  ·rw [if_neg (ne_true h8)] at hM
   refine spQA (And.intro ha1 (And.intro ha7 h8)) ?_
   have nh8 := nzQ h8
   try have hr12 := mpQ nh8
   have hM0 := hM; clear hM; obtain ⟨x13, hx14, hM⟩ := letk_opn hM0; clear hM0
   have hcx13 := cmH hx14 (specieref06_Tagged_ok  ([115, 112, 101, 99, 105, 101, 47, 110, 111, 100, 101]) (p7.2) (by (exact pfQ)) (by (exact pfQ)))
   refine callC_look hcx13 (clQA (And.intro ha1 ha7)) (clQA (And.intro ha1 ha7)) (fun hw15 => ?_)
   replace hw15 := nzQ hw15
   refine spQA (And.intro ha1 ha7) ?_
   subst hM
   exact retC_view (lfQA (And.intro ha1 (And.intro ha7 (And.intro h2 h8))))
set_option maxHeartbeats 2000000 in
set_option maxRecDepth 100000 in
theorem specieref27_Node_ok (N : Nat) (ih : ∀ (z0 : Option Bool) (l : (List (List Int))) (level : Int) (index : Int), (treeOk l level index) → (11 - level).toNat < N → CallOk En 80 [.sl z0 32 true (l.map e_arr40), .int .i64 level, .int .i64 index] (.agg (.int .u8 (gt (rnodeM l level index) 0) :: .int .u8 (gt (rnodeM l level index) 1) :: .int .u8 (gt (rnodeM l level index) 2) :: .int .u8 (gt (rnodeM l level index) 3) :: .int .u8 (gt (rnodeM l level index) 4) :: .int .u8 (gt (rnodeM l level index) 5) :: .int .u8 (gt (rnodeM l level index) 6) :: .int .u8 (gt (rnodeM l level index) 7) :: .int .u8 (gt (rnodeM l level index) 8) :: .int .u8 (gt (rnodeM l level index) 9) :: .int .u8 (gt (rnodeM l level index) 10) :: .int .u8 (gt (rnodeM l level index) 11) :: .int .u8 (gt (rnodeM l level index) 12) :: .int .u8 (gt (rnodeM l level index) 13) :: .int .u8 (gt (rnodeM l level index) 14) :: .int .u8 (gt (rnodeM l level index) 15) :: .int .u8 (gt (rnodeM l level index) 16) :: .int .u8 (gt (rnodeM l level index) 17) :: .int .u8 (gt (rnodeM l level index) 18) :: .int .u8 (gt (rnodeM l level index) 19) :: .int .u8 (gt (rnodeM l level index) 20) :: .int .u8 (gt (rnodeM l level index) 21) :: .int .u8 (gt (rnodeM l level index) 22) :: .int .u8 (gt (rnodeM l level index) 23) :: .int .u8 (gt (rnodeM l level index) 24) :: .int .u8 (gt (rnodeM l level index) 25) :: .int .u8 (gt (rnodeM l level index) 26) :: .int .u8 (gt (rnodeM l level index) 27) :: .int .u8 (gt (rnodeM l level index) 28) :: .int .u8 (gt (rnodeM l level index) 29) :: .int .u8 (gt (rnodeM l level index) 30) :: .int .u8 (gt (rnodeM l level index) 31) :: [])) []) (z0 : Option Bool) (l : (List (List Int))) (level : Int) (index : Int) (hp0 : treeOk l level index) (hp_ : (11 - level).toNat < N + 1) : CallOk En 80 [.sl z0 32 true (l.map e_arr40), .int .i64 level, .int .i64 index] (.agg (.int .u8 (gt (specieref27_Node l level index) 0) :: .int .u8 (gt (specieref27_Node l level index) 1) :: .int .u8 (gt (specieref27_Node l level index) 2) :: .int .u8 (gt (specieref27_Node l level index) 3) :: .int .u8 (gt (specieref27_Node l level index) 4) :: .int .u8 (gt (specieref27_Node l level index) 5) :: .int .u8 (gt (specieref27_Node l level index) 6) :: .int .u8 (gt (specieref27_Node l level index) 7) :: .int .u8 (gt (specieref27_Node l level index) 8) :: .int .u8 (gt (specieref27_Node l level index) 9) :: .int .u8 (gt (specieref27_Node l level index) 10) :: .int .u8 (gt (specieref27_Node l level index) 11) :: .int .u8 (gt (specieref27_Node l level index) 12) :: .int .u8 (gt (specieref27_Node l level index) 13) :: .int .u8 (gt (specieref27_Node l level index) 14) :: .int .u8 (gt (specieref27_Node l level index) 15) :: .int .u8 (gt (specieref27_Node l level index) 16) :: .int .u8 (gt (specieref27_Node l level index) 17) :: .int .u8 (gt (specieref27_Node l level index) 18) :: .int .u8 (gt (specieref27_Node l level index) 19) :: .int .u8 (gt (specieref27_Node l level index) 20) :: .int .u8 (gt (specieref27_Node l level index) 21) :: .int .u8 (gt (specieref27_Node l level index) 22) :: .int .u8 (gt (specieref27_Node l level index) 23) :: .int .u8 (gt (specieref27_Node l level index) 24) :: .int .u8 (gt (specieref27_Node l level index) 25) :: .int .u8 (gt (specieref27_Node l level index) 26) :: .int .u8 (gt (specieref27_Node l level index) 27) :: .int .u8 (gt (specieref27_Node l level index) 28) :: .int .u8 (gt (specieref27_Node l level index) 29) :: .int .u8 (gt (specieref27_Node l level index) 30) :: .int .u8 (gt (specieref27_Node l level index) 31) :: [])) [] := by
 generalize hM : specieref27_Node l level index = r
 rw [specieref27_Node.eq_1] at hM
 refine enterV En_ok En_mo noJ Tryz.func80 rfl Tryz.ntmps80 (by kernel_rfl) fun hw => ct_start ?_
 refine spQ ?_
 replace hw := nzQ hw
 have h0_0 := treeOk_rng hp0
 refine bindC_intro (by (first | exact omQ | (clear hM; first | (have h9 := treeOk_ix hp0 (by assumption); exact omQ') | (have h9 := treeOk_lm hp0 (by assumption); exact omQ')))) ?_
 refine spQ ?_
 refine condC_intro (fun h1 => ?_) (fun h1 => ?_)
 ·rw [if_pos h1] at hM
  refine spQA h1 ?_
  have nh1 := nzQ h1
  try have hr2 := mpQ nh1
  refine bindC_intro (by (first | exact omQ | (clear hM; first | (have h9 := treeOk_ix hp0 (by assumption); exact omQ') | (have h9 := treeOk_lm hp0 (by assumption); exact omQ')))) ?_
  have he3 := fun d => elt_mp (l := l) (f := e_arr40) (i := index) (by (first | exact omQ | (clear hM; first | (have h9 := treeOk_ix hp0 (by assumption); exact omQ') | (have h9 := treeOk_lm hp0 (by assumption); exact omQ')))) d
  refine spQA he3 ?_
  subst hM
  exact retC_view (lfQA (And.intro he3 h1))
 ·rw [if_neg (ne_true h1)] at hM
  refine spQA h1 ?_
  have nh1 := nzQ h1
  try have hr4 := mpQ nh1
  have ha5 : addI .i64 level 1 = (level + 1) := add_ok (by (first | exact omQ | (clear hM; first | (have h9 := treeOk_ix hp0 (by assumption); exact omQ') | (have h9 := treeOk_lm hp0 (by assumption); exact omQ')))) (by (first | exact omQ | (clear hM; first | (have h9 := treeOk_ix hp0 (by assumption); exact omQ') | (have h9 := treeOk_lm hp0 (by assumption); exact omQ'))))
  try simp only [ha5]
  have hM0 := hM; clear hM; obtain ⟨x6, hx7, hM⟩ := letk_opn hM0; clear hM0
  have hcx6 := ih z0 l (level + 1) (mulI .i64 2 index) (by (first | exact (treeOk_lm hp0 (by assumption)).2.1 | exact (treeOk_lm hp0 (by assumption)).2.2.1)) (by (have h9 := treeOk_lm hp0 (by assumption); omega))
  rw [← hx7] at hcx6
  refine callC_give hcx6 (clQA ha5) (clQA ha5) (fun hw8 => ?_)
  replace hw8 := nzQ hw8
  refine spQA ha5 ?_
  have ha10 : addI .i64 (mulI .i64 2 index) 1 = ((mulI .i64 2 index) + 1) := add_ok (by (first | exact omQ | (clear hM; first | (have h9 := treeOk_ix hp0 (by assumption); exact omQ') | (have h9 := treeOk_lm hp0 (by assumption); exact omQ')))) (by (first | exact omQ | (clear hM; first | (have h9 := treeOk_ix hp0 (by assumption); exact omQ') | (have h9 := treeOk_lm hp0 (by assumption); exact omQ'))))
  try simp only [ha10]
  have hM0 := hM; clear hM; obtain ⟨x11, hx12, hM⟩ := letk_opn hM0; clear hM0
  have hcx11 := ih z0 l (level + 1) ((mulI .i64 2 index) + 1) (by (first | exact (treeOk_lm hp0 (by assumption)).2.1 | exact (treeOk_lm hp0 (by assumption)).2.2.1)) (by (have h9 := treeOk_lm hp0 (by assumption); omega))
  rw [← hx12] at hcx11
  refine callC_give hcx11 (clQA (And.intro ha5 ha10)) (clQA (And.intro ha5 ha10)) (fun hw13 => ?_)
  replace hw13 := nzQ hw13
  refine spQA (And.intro ha5 ha10) ?_
  have hF := (And.intro h1 (And.intro ha5 ha10))
  exact auQ
theorem rnodeM_okN : ∀ (N : Nat) (z0 : Option Bool) (l : (List (List Int))) (level : Int) (index : Int), (treeOk l level index) → (11 - level).toNat < N → CallOk En 80 [.sl z0 32 true (l.map e_arr40), .int .i64 level, .int .i64 index] (.agg (.int .u8 (gt (rnodeM l level index) 0) :: .int .u8 (gt (rnodeM l level index) 1) :: .int .u8 (gt (rnodeM l level index) 2) :: .int .u8 (gt (rnodeM l level index) 3) :: .int .u8 (gt (rnodeM l level index) 4) :: .int .u8 (gt (rnodeM l level index) 5) :: .int .u8 (gt (rnodeM l level index) 6) :: .int .u8 (gt (rnodeM l level index) 7) :: .int .u8 (gt (rnodeM l level index) 8) :: .int .u8 (gt (rnodeM l level index) 9) :: .int .u8 (gt (rnodeM l level index) 10) :: .int .u8 (gt (rnodeM l level index) 11) :: .int .u8 (gt (rnodeM l level index) 12) :: .int .u8 (gt (rnodeM l level index) 13) :: .int .u8 (gt (rnodeM l level index) 14) :: .int .u8 (gt (rnodeM l level index) 15) :: .int .u8 (gt (rnodeM l level index) 16) :: .int .u8 (gt (rnodeM l level index) 17) :: .int .u8 (gt (rnodeM l level index) 18) :: .int .u8 (gt (rnodeM l level index) 19) :: .int .u8 (gt (rnodeM l level index) 20) :: .int .u8 (gt (rnodeM l level index) 21) :: .int .u8 (gt (rnodeM l level index) 22) :: .int .u8 (gt (rnodeM l level index) 23) :: .int .u8 (gt (rnodeM l level index) 24) :: .int .u8 (gt (rnodeM l level index) 25) :: .int .u8 (gt (rnodeM l level index) 26) :: .int .u8 (gt (rnodeM l level index) 27) :: .int .u8 (gt (rnodeM l level index) 28) :: .int .u8 (gt (rnodeM l level index) 29) :: .int .u8 (gt (rnodeM l level index) 30) :: .int .u8 (gt (rnodeM l level index) 31) :: [])) [] := by
 intro N
 induction N with
 | zero => intro z0 l level index h0 h; exact absurd h (Nat.not_lt_zero _)
 | succ N ih =>
  intro z0 l level index h0 h
  have h9 := specieref27_Node_ok N ih z0 l level index h0 h
  rw [specieref27_Node_eqM h0] at h9
  exact h9
theorem rnodeM_ok (z0 : Option Bool) (l : (List (List Int))) (level : Int) (index : Int) (hp0 : treeOk l level index) : CallOk En 80 [.sl z0 32 true (l.map e_arr40), .int .i64 level, .int .i64 index] (.agg (.int .u8 (gt (rnodeM l level index) 0) :: .int .u8 (gt (rnodeM l level index) 1) :: .int .u8 (gt (rnodeM l level index) 2) :: .int .u8 (gt (rnodeM l level index) 3) :: .int .u8 (gt (rnodeM l level index) 4) :: .int .u8 (gt (rnodeM l level index) 5) :: .int .u8 (gt (rnodeM l level index) 6) :: .int .u8 (gt (rnodeM l level index) 7) :: .int .u8 (gt (rnodeM l level index) 8) :: .int .u8 (gt (rnodeM l level index) 9) :: .int .u8 (gt (rnodeM l level index) 10) :: .int .u8 (gt (rnodeM l level index) 11) :: .int .u8 (gt (rnodeM l level index) 12) :: .int .u8 (gt (rnodeM l level index) 13) :: .int .u8 (gt (rnodeM l level index) 14) :: .int .u8 (gt (rnodeM l level index) 15) :: .int .u8 (gt (rnodeM l level index) 16) :: .int .u8 (gt (rnodeM l level index) 17) :: .int .u8 (gt (rnodeM l level index) 18) :: .int .u8 (gt (rnodeM l level index) 19) :: .int .u8 (gt (rnodeM l level index) 20) :: .int .u8 (gt (rnodeM l level index) 21) :: .int .u8 (gt (rnodeM l level index) 22) :: .int .u8 (gt (rnodeM l level index) 23) :: .int .u8 (gt (rnodeM l level index) 24) :: .int .u8 (gt (rnodeM l level index) 25) :: .int .u8 (gt (rnodeM l level index) 26) :: .int .u8 (gt (rnodeM l level index) 27) :: .int .u8 (gt (rnodeM l level index) 28) :: .int .u8 (gt (rnodeM l level index) 29) :: .int .u8 (gt (rnodeM l level index) 30) :: .int .u8 (gt (rnodeM l level index) 31) :: [])) [] :=
 rnodeM_okN ((11 - level).toNat + 1) z0 l level index hp0 (Nat.lt_succ_self _)
set_option maxHeartbeats 2000000 in
set_option maxRecDepth 100000 in
theorem specieref31_Root_ok   (leaves : (List Int)) (hp0 : treeOk (specieref31_Hashes leaves) 0 0) : CM En (specieref31_Root leaves) 28 [.sl none 1 false (leaves.map (V.int .i64))] (fun y => (e_arr40 y)) (fun _ => []) := by
 refine cmQ fun r hM => ?_
 rw [specieref31_Root.eq_1] at hM
 refine enterV En_ok En_mo noJ Tryz.func28 rfl Tryz.ntmps28 (by kernel_rfl) fun hw => ct_start ?_
 refine spQ ?_
 replace hw := nzQ hw
 have hM0 := hM; clear hM; obtain ⟨x1, hx2, hM⟩ := letk_opn hM0; clear hM0
 have hcx1 := cmU hx2
 refine callC_give hcx1 clQ clQ (fun hw3 => ?_)
 replace hw3 := nzQ hw3
 refine spQ ?_
 have hM0 := hM; clear hM; obtain ⟨x4, hx5, hM⟩ := letk_opn hM0; clear hM0
 have hcx4 := rnodeM_ok none x1 0 0 (by (first | exact hp0 | (subst_vars; exact hp0)))
 rw [← hx5] at hcx4
 refine callC_give hcx4 clQ clQ (fun hw6 => ?_)
 replace hw6 := nzQ hw6
 refine spQ ?_
 subst hM
 exact retC_view lfQ
set_option maxHeartbeats 2000000 in
set_option maxRecDepth 100000 in
theorem slices_IndexFunc_int_int_at_specielaw31_CoinParts_1_ok   (s : (List Int)) (f__c0 : S_api_Bases) (hp0 : 3 ≤ f__c0.Group.Q) (hp1 : f__c0.Group.P < 2305843009213693952) : CM En (slices_IndexFunc_int_int_at_specielaw31_CoinParts_1 s f__c0) 76 [.sl none 1 false (s.map (V.int .i64)), .fn 24 [.pp 6 true ((e_api_Bases f__c0))]] (fun y => .int .i64 y) (fun _ => []) := by
 refine cmQ fun r hM => ?_
 rw [slices_IndexFunc_int_int_at_specielaw31_CoinParts_1.eq_1] at hM
 refine enterV En_ok En_mo noJ Tryz.func76 rfl Tryz.ntmps76 (by kernel_rfl) fun hw => ct_start ?_
 refine spQ ?_
 replace hw := nzQ hw
 have hM0 := hM; clear hM; obtain ⟨f1, d1, hf1, hd1, hM⟩ := iter_opn hM0; clear hM0
 refine ct_loop (fun n S => ∃ p : Int, S = (⟨[(0, .sl none 1 false (s.map (V.int .i64))), (1, .fn 24 [.pp 6 true ((e_api_Bases f__c0))]), (7, .int .i64 (s.length : Int)), (8, .int .i64 p)], [], 0⟩ : St) ∧ ((0 ≤ p) ∧ (p ≤ (s.length : Int))) ∧ ((s.length : Int) - p).toNat < n ∧ iter n f1 d1 p = r) (((s.length : Int) - 0).toNat + 1) _ sbQ sbQ ⟨0, rfl, ⟨omQ, omQ⟩, (Nat.lt_succ_self _), hM⟩ ?_
 clear hM
 rintro n1 S ⟨p1, rfl, hfa1, hm1, hM⟩
 have hM0 := hM; clear hM; obtain ⟨ag1, hag1, hM⟩ := iter_step hM0 (by omega) hf1; clear hM0
 replace hfa1 := nzQ hfa1
 replace hm1 := nzQ hm1
 have ha1 : addI .i64 p1 1 = p1 + 1 := add_one omQ omQ
 refine spQA ha1 ?_
 refine condC_intro (fun h2 => ?_) (fun h2 => ?_)
 ·rw [if_pos h2] at hM
  refine spQA (And.intro ha1 h2) ?_
  have nh2 := nzQ h2
  try have hr3 := mpQ nh2
  refine bindC_intro omQ ?_
  have he4 := fun d => elt_mp (l := s) (f := (V.int .i64)) (i := p1) omQ d
  refine spQA (And.intro ha1 he4) ?_
  have hM0 := hM; clear hM; obtain ⟨x5, hx6, hM⟩ := letk_opn hM0; clear hM0
  have hcx5 := cmH hx6 (specielaw31_CoinParts_1_ok  (gt s p1) f__c0 (by (exact pfQ)) (by (exact pfQ)))
  refine callC_give hcx5 (clQA (And.intro ha1 he4)) (clQA (And.intro ha1 he4)) (fun hw7 => ?_)
  replace hw7 := nzQ hw7
  refine spQA (And.intro ha1 he4) ?_
  have hF := (And.intro ha1 (And.intro h2 he4))
  exact auQ
 ·rw [if_neg (ne_true h2)] at hM
  refine spQA (And.intro ha1 h2) ?_
  have nh2 := nzQ h2
  try have hr9 := mpQ nh2
  subst hM
  exact retC_view (lfQA (And.intro ha1 h2))
set_option maxHeartbeats 2000000 in
set_option maxRecDepth 100000 in
theorem slices_ContainsFunc_int_int_at_specielaw31_CoinParts_1_ok   (s : (List Int)) (f__c0 : S_api_Bases) (hp0 : 3 ≤ f__c0.Group.Q) (hp1 : f__c0.Group.P < 2305843009213693952) : CM En (slices_ContainsFunc_int_int_at_specielaw31_CoinParts_1 s f__c0) 23 [.sl none 1 false (s.map (V.int .i64)), .fn 24 [.pp 6 true ((e_api_Bases f__c0))]] (fun y => .bool y) (fun _ => []) := by
 refine cmQ fun r hM => ?_
 rw [slices_ContainsFunc_int_int_at_specielaw31_CoinParts_1.eq_1] at hM
 refine enterV En_ok En_mo noJ Tryz.func23 rfl Tryz.ntmps23 (by kernel_rfl) fun hw => ct_start ?_
 refine spQ ?_
 replace hw := nzQ hw
 have hM0 := hM; clear hM; obtain ⟨x1, hx2, hM⟩ := letk_opn hM0; clear hM0
 have hcx1 := cmH hx2 (slices_IndexFunc_int_int_at_specielaw31_CoinParts_1_ok  s f__c0 (by (exact pfQ)) (by (exact pfQ)))
 refine callC_give hcx1 clQ clQ (fun hw3 => ?_)
 replace hw3 := nzQ hw3
 refine spQ ?_
 subst hM
 exact retC_view lfQ
set_option maxHeartbeats 2000000 in
set_option maxRecDepth 100000 in
instance specielaw31_CoinParts_ok   (b : S_api_Bases) (s : S_api_CoinSecret) (leaves : (List Int))  : CM En (specielaw31_CoinParts b s leaves) 3 [(e_api_Bases b), .agg [.int .i64 s.U, .int .i64 s.S, .sl none 2 true (s.X.map (fun l => .agg [.int .i64 (gt l 0), .int .i64 (gt l 1)]))], .sl none 1 false (leaves.map (V.int .i64))] (fun y => .bool y) (fun _ => []) := by
 refine cmQ fun r hM => ?_
 rw [specielaw31_CoinParts.eq_1] at hM
 refine enterV En_ok En_mo [12, 17] Tryz.func3 rfl Tryz.ntmps3 (by kernel_rfl) fun hw => ct_start ?_
 refine spQ ?_
 replace hw := nzQ hw
 have hM0 := hM; clear hM; obtain ⟨x1, hx2, hM⟩ := letk_opn hM0; clear hM0
 have hcx1 := cmU hx2
 refine callC_give hcx1 clQ clQ (fun hw3 => ?_)
 replace hw3 := nzQ hw3
 refine spQ ?_
 refine guardC_f (fun h4 => ?_) (fun h4 => ?_)
 ·rw [if_neg (ne_true h4)] at hM
  refine spQA h4 ?_
  have nh4 := nzQ h4
  try have hr5 := mpQ nh4
  refine guardC_f (fun h6 => ?_) (fun h6 => ?_)
  ·rw [if_neg (ne_true h6)] at hM
   refine spQA h6 ?_
   have nh6 := nzQ h6
   try have hr7 := mpQ nh6
   refine condC_intro (fun h8 => ?_) (fun h8 => ?_)
   ·rw [if_pos h8] at hM
    refine spQA h8 ?_
    have nh8 := nzQ h8
    try have hr9 := mpQ nh8
    have hF := (And.intro h4 (And.intro h6 h8))
    exact auQ
   ·rw [if_neg (ne_true h8)] at hM
    refine spQA h8 ?_
    have nh8 := nzQ h8
    try have hr13 := mpQ nh8
    have hM0 := hM; clear hM; obtain ⟨x14, hx15, hM⟩ := letk_opn hM0; clear hM0
    have hcx14 := cmU hx15
    refine callC_give hcx14 clQ clQ (fun hw16 => ?_)
    replace hw16 := nzQ hw16
    refine spQ ?_
    have hM0 := hM; clear hM; obtain ⟨x17, hx18, hM⟩ := letk_opn hM0; clear hM0
    have hcx17 := cmU hx18
    refine callC_give hcx17 clQ clQ (fun hw19 => ?_)
    replace hw19 := nzQ hw19
    refine spQ ?_
    have hM0 := hM; clear hM; obtain ⟨x20, hx21, hM⟩ := letk_opn hM0; clear hM0
    have hcx20 := cmU hx21
    refine callC_give hcx20 clQ clQ (fun hw22 => ?_)
    replace hw22 := nzQ hw22
    refine spQ ?_
    have hM0 := hM; clear hM; obtain ⟨x23, hx24, hM⟩ := letk_opn hM0; clear hM0
    have hcx23 := cmU hx24
    refine callC_give hcx23 clQ clQ (fun hw25 => ?_)
    replace hw25 := nzQ hw25
    refine spQ ?_
    have hM0 := hM; clear hM; obtain ⟨j26, hj26, hM⟩ := letj_opn hM0; clear hM0
    refine seqC_intro (fun S => ∃ p : Unit, S = (⟨[(2, .sl none 1 false (leaves.map (V.int .i64))), (3, .ptr 0 0), (11, .sl none 32 true (x20.1.map e_arr40)), (12, .int .i64 x20.2), (13, .ptr 2 0), (14, .int .i64 x23.2)], [(0, .var 6 true ((e_api_Bases b))), (2, .var 32 true ((e_arr40 x23.1)))], 3⟩ : St) ∧ (True) ∧ j26 p = r) ?_ (fun hcut26 => ?_)
    ·clear hM
     rintro S ⟨p26, rfl, hfa26, hM⟩
     have hM0 := hM; clear hM; have hM := letj_use hM0 hj26; clear hM0
     try refine spQ ?_
     have hM0 := hM; clear hM; obtain ⟨j27, hj27, hM⟩ := letj_opn hM0; clear hM0
     refine seqC_intro (fun S => ∃ p : Int, S = (⟨[(2, .sl none 1 false (leaves.map (V.int .i64))), (11, .sl none 32 true (x20.1.map e_arr40)), (12, .int .i64 x20.2), (13, .ptr 2 0), (14, .int .i64 x23.2), (15, .int .i64 p)], [(2, .var 32 true ((e_arr40 x23.1)))], 3⟩ : St) ∧ ((p ≠ 0 ∨ treeOk (specieref31_Hashes leaves) 0 0)) ∧ j27 p = r) ?_ (fun hcut27 => ?_)
     ·clear hM
      rintro S ⟨p27, rfl, hF17_0, hM⟩
      have hM0 := hM; clear hM; have hM := letj_use hM0 hj27; clear hM0
      try refine spQ ?_
      refine condC_intro (fun h28 => ?_) (fun h28 => ?_)
      ·rw [if_pos h28] at hM
       refine spQA h28 ?_
       have nh28 := nzQ h28
       try have hr29 := mpQ nh28
       have hF := (And.intro h4 (And.intro h6 (And.intro h8 h28)))
       exact auQ
      ·rw [if_neg (ne_true h28)] at hM
       refine spQA h28 ?_
       have nh28 := nzQ h28
       try have hr39 := mpQ nh28
       refine ct_draw 148 12 [130, 131, 132, 133, 134, 135, 136, 137, 138, 139, 140, 141] [] ([[], [], [1], [0, 1, 2], [0, 1, 2, 3], [0, 1, 2, 3, 4], [0, 1, 2, 3, 4, 5], [0, 1, 2, 3, 4, 5, 6], [0, 1, 2, 3, 4, 5, 6, 7], [0, 1, 2, 3, 4, 5, 6, 7, 8], [0, 1, 2, 3, 4, 5, 6, 7, 8], [0, 1, 2, 3, 4, 5, 6, 7, 8, 10]] ++ [List.range 12, List.range 13, List.range 14, List.range 15, List.range 16, List.range 17, List.range 18]) [] (by kernel_rfl) (by exact alQ) ?_
       refine spQ ?_
       have hM0 := hM; clear hM; obtain ⟨x40, hx41, hM⟩ := letk_opn hM0; clear hM0
       have hcx40 := cmU hx41
       refine hcallC_give hcx40 clQ clQ ?_
       refine spQ ?_
       have hM0 := hM; clear hM; obtain ⟨x42, hx43, hM⟩ := letk_opn hM0; clear hM0
       have hcx42 := cmU hx43
       refine hcallC_give hcx42 clQ clQ ?_
       refine spQ ?_
       refine hguardC_t (fun h44 => ?_) (fun h44 => ?_)
       ·subst h44
        rw [if_pos rfl] at hM
        refine spQ ?_
        refine hguardC_t (fun h45 => ?_) (fun h45 => ?_)
        ·rw [if_pos h45] at hM
         refine spQA h45 ?_
         have nh45 := nzQ h45
         try have hr46 := mpQ nh45
         have hM0 := hM; clear hM; obtain ⟨x47, hx48, hM⟩ := letk_opn hM0; clear hM0
         have hcx47 := cmH hx48 (specieref31_Root_ok  leaves (by (exact hF17_0.resolve_left (fun h => h (by assumption)))))
         refine hcallC_give hcx47 clQ clQ ?_
         refine spQ ?_
         have hF := (And.intro h4 (And.intro h6 (And.intro h8 (And.intro h28 h45))))
         exact auQ
        ·rw [if_neg (ne_true h45)] at hM
         refine spQA h45 ?_
         have nh45 := nzQ h45
         try have hr52 := mpQ nh45
         subst hM
         exact retC_view (lfQA (And.intro h4 (And.intro h6 (And.intro h8 (And.intro h28 h45)))))
       ·subst h44
        rw [if_neg (by decide)] at hM
        refine spQ ?_
        subst hM
        exact retC_view (lfQA (And.intro h4 (And.intro h6 (And.intro h8 h28))))
     ·refine spQ ?_
      have hM0 := hM; clear hM; obtain ⟨x53, hx54, hM⟩ := letk_opn hM0; clear hM0
      have hcx53 := cmU hx54
      refine callC_give hcx53 clQ clQ (fun hw55 => ?_)
      replace hw55 := nzQ hw55
      refine spQ ?_
      have hq56 := nzQ (cfU hx54)
      refine guardC_f (fun h57 => ?_) (fun h57 => ?_)
      ·rw [if_neg (ne_true h57)] at hM
       refine spQA h57 ?_
       have nh57 := nzQ h57
       try have hr58 := mpQ nh57
       have hM0 := hM; clear hM; obtain ⟨x59, hx60, hM⟩ := letk_opn hM0; clear hM0
       have hcx59 := cmU hx60
       refine callC_give hcx59 clQ clQ (fun hw61 => ?_)
       replace hw61 := nzQ hw61
       refine spQ ?_
       have hM0 := hM; clear hM; obtain ⟨x62, hx63, hM⟩ := letk_opn hM0; clear hM0
       have hcx62 := cmU hx63
       refine callC_give hcx62 clQ clQ (fun hw64 => ?_)
       replace hw64 := nzQ hw64
       refine spQ ?_
       refine condC_intro (fun h65 => ?_) (fun h65 => ?_)
       ·rw [if_pos h65] at hM
        refine spQA h65 ?_
        have nh65 := nzQ h65
        try have hr66 := mpQ nh65
        exact cut_intro _ sbQ sbQ (hcut27 _ ⟨1, rfl, by (first | exact .inl (by decide) | exact .inr (rootOk ‹_ = specieref27_Depth _› ‹_ = specieref31_Depth _› (by first | assumption | simp_all))), hM⟩)
       ·rw [if_neg (ne_true h65)] at hM
        refine spQA h65 ?_
        have nh65 := nzQ h65
        try have hr67 := mpQ nh65
        have hM0 := hM; clear hM; obtain ⟨x68, hx69, hM⟩ := letk_opn hM0; clear hM0
        have hcx68 := cmH hx69 (slices_ContainsFunc_int_int_at_specielaw31_CoinParts_1_ok  leaves b (by (exact pfQ)) (by (exact pfQ)))
        refine callC_look hcx68 clQ clQ (fun hw70 => ?_)
        replace hw70 := nzQ hw70
        refine spQ ?_
        refine condC_intro (fun h71 => ?_) (fun h71 => ?_)
        ·subst h71
         rw [if_pos rfl] at hM
         refine spQ ?_
         exact cut_intro _ sbQ sbQ (hcut27 _ ⟨2, rfl, by (first | exact .inl (by decide) | exact .inr (rootOk ‹_ = specieref27_Depth _› ‹_ = specieref31_Depth _› (by first | assumption | simp_all))), hM⟩)
        ·subst h71
         rw [if_neg (by decide)] at hM
         refine spQ ?_
         exact cut_intro _ sbQ sbQ (hcut27 _ ⟨0, rfl, by (first | exact .inl (by decide) | exact .inr (rootOk ‹_ = specieref27_Depth _› ‹_ = specieref31_Depth _› (by first | assumption | simp_all))), hM⟩)
      ·rw [if_pos h57] at hM
       refine spQA h57 ?_
       have nh57 := nzQ h57
       try have hr72 := mpQ nh57
       exact cut_intro _ sbQ sbQ (hcut27 _ ⟨1, rfl, by (first | exact .inl (by decide) | exact .inr (rootOk ‹_ = specieref27_Depth _› ‹_ = specieref31_Depth _› (by first | assumption | simp_all))), hM⟩)
    ·refine spQ ?_
     have hM0 := hM; clear hM; obtain ⟨x73, hx74, hM⟩ := letk_opn hM0; clear hM0
     have hcx73 := cmU hx74
     refine callC_give hcx73 clQ clQ (fun hw75 => ?_)
     replace hw75 := nzQ hw75
     refine spQ ?_
     have hq76 := nzQ (cfU hx74)
     refine condC_intro (fun h77 => ?_) (fun h77 => ?_)
     ·rw [if_pos h77] at hM
      refine spQA h77 ?_
      have nh77 := nzQ h77
      try have hr78 := mpQ nh77
      refine guardC_f (fun h79 => ?_) (fun h79 => ?_)
      ·rw [if_neg (ne_true h79)] at hM
       refine spQA h79 ?_
       have nh79 := nzQ h79
       try have hr80 := mpQ nh79
       refine guardC_f (fun h81 => ?_) (fun h81 => ?_)
       ·rw [if_neg (ne_true h81)] at hM
        refine spQA h81 ?_
        have nh81 := nzQ h81
        try have hr82 := mpQ nh81
        refine guardC_f (fun h83 => ?_) (fun h83 => ?_)
        ·rw [if_neg (ne_true h83)] at hM
         refine spQA h83 ?_
         have nh83 := nzQ h83
         try have hr84 := mpQ nh83
         refine condC_intro (fun h85 => ?_) (fun h85 => ?_)
         ·rw [if_pos h85] at hM
          refine spQA h85 ?_
          have nh85 := nzQ h85
          try have hr86 := mpQ nh85
          subst hM
          exact retC_view (lfQA (And.intro h4 (And.intro h6 (And.intro h8 (And.intro h77 (And.intro h79 (And.intro h81 (And.intro h83 h85))))))))
         ·rw [if_neg (ne_true h85)] at hM
          refine spQA h85 ?_
          have nh85 := nzQ h85
          try have hr87 := mpQ nh85
          exact cut_intro _ sbQ sbQ (hcut26 _ ⟨(), rfl, trivial, hM⟩)
        ·rw [if_pos h83] at hM
         refine spQA h83 ?_
         have nh83 := nzQ h83
         try have hr88 := mpQ nh83
         subst hM
         exact retC_view (lfQA (And.intro h4 (And.intro h6 (And.intro h8 (And.intro h77 (And.intro h79 (And.intro h81 h83)))))))
       ·rw [if_pos h81] at hM
        refine spQA h81 ?_
        have nh81 := nzQ h81
        try have hr89 := mpQ nh81
        subst hM
        exact retC_view (lfQA (And.intro h4 (And.intro h6 (And.intro h8 (And.intro h77 (And.intro h79 h81))))))
      ·rw [if_pos h79] at hM
       refine spQA h79 ?_
       have nh79 := nzQ h79
       try have hr90 := mpQ nh79
       subst hM
       exact retC_view (lfQA (And.intro h4 (And.intro h6 (And.intro h8 (And.intro h77 h79)))))
     ·rw [if_neg (ne_true h77)] at hM
      refine spQA h77 ?_
      have nh77 := nzQ h77
      try have hr91 := mpQ nh77
      have hM0 := hM; clear hM; obtain ⟨x92, hx93, hM⟩ := letk_opn hM0; clear hM0
      have hcx92 := cmH hx93 (specieref31_Pseudonym_ok  b s (by (exact pfQ)) (by (exact pfQ)) (by (exact pfQ)) (by (exact pfQ)) (by (exact pfQ)) (by (exact pfQ)) (by (exact pfQ)))
      refine callC_give hcx92 clQ clQ (fun hw94 => ?_)
      replace hw94 := nzQ hw94
      refine spQ ?_
      refine guardC_f (fun h95 => ?_) (fun h95 => ?_)
      ·rw [if_neg (ne_true h95)] at hM
       refine spQA h95 ?_
       have nh95 := nzQ h95
       try have hr96 := mpQ nh95
       refine guardC_f (fun h97 => ?_) (fun h97 => ?_)
       ·rw [if_neg (ne_true h97)] at hM
        refine spQA h97 ?_
        have nh97 := nzQ h97
        try have hr98 := mpQ nh97
        have hM0 := hM; clear hM; obtain ⟨x99, hx100, hM⟩ := letk_opn hM0; clear hM0
        have hcx99 := cmH hx100 (specieref31_Leaves_ok  b (s.X) (by (exact pfQ)) (by (exact pfQ)) (by (exact pfQ)) (by (exact pfQ)) (by (exact pfQ)) (by (exact pfQ)) (by (exact pfQ)))
        refine callC_give hcx99 clQ clQ (fun hw101 => ?_)
        replace hw101 := nzQ hw101
        refine spQ ?_
        have hM0 := hM; clear hM; obtain ⟨x102, hx103, hM⟩ := letk_opn hM0; clear hM0
        have hcx102 := cmU hx103
        refine callC_give hcx102 clQ clQ (fun hw104 => ?_)
        replace hw104 := nzQ hw104
        refine spQ ?_
        refine guardC_f (fun h105 => ?_) (fun h105 => ?_)
        ·rw [if_neg (ne_true h105)] at hM
         refine spQA h105 ?_
         have nh105 := nzQ h105
         try have hr106 := mpQ nh105
         refine condC_intro (fun h107 => ?_) (fun h107 => ?_)
         ·rw [if_pos h107] at hM
          refine spQA h107 ?_
          have nh107 := nzQ h107
          try have hr108 := mpQ nh107
          subst hM
          exact retC_view (lfQA (And.intro h4 (And.intro h6 (And.intro h8 (And.intro h77 (And.intro h95 (And.intro h97 (And.intro h105 h107))))))))
         ·rw [if_neg (ne_true h107)] at hM
          refine spQA h107 ?_
          have nh107 := nzQ h107
          try have hr109 := mpQ nh107
          exact cut_intro _ sbQ sbQ (hcut26 _ ⟨(), rfl, trivial, hM⟩)
        ·rw [if_pos h105] at hM
         refine spQA h105 ?_
         have nh105 := nzQ h105
         try have hr110 := mpQ nh105
         subst hM
         exact retC_view (lfQA (And.intro h4 (And.intro h6 (And.intro h8 (And.intro h77 (And.intro h95 (And.intro h97 h105)))))))
       ·rw [if_pos h97] at hM
        refine spQA h97 ?_
        have nh97 := nzQ h97
        try have hr111 := mpQ nh97
        subst hM
        exact retC_view (lfQA (And.intro h4 (And.intro h6 (And.intro h8 (And.intro h77 (And.intro h95 h97))))))
      ·rw [if_pos h95] at hM
       refine spQA h95 ?_
       have nh95 := nzQ h95
       try have hr112 := mpQ nh95
       subst hM
       exact retC_view (lfQA (And.intro h4 (And.intro h6 (And.intro h8 (And.intro h77 h95)))))
  ·rw [if_pos h6] at hM
   refine spQA h6 ?_
   have nh6 := nzQ h6
   try have hr113 := mpQ nh6
   have hF := (And.intro h4 h6)
   exact auQ
 ·rw [if_pos h4] at hM
  refine spQA h4 ?_
  have nh4 := nzQ h4
  try have hr117 := mpQ nh4
  have hF := h4
  exact auQ
end Go.Proofs.YtjnikknlcmbcmaaGreatDoor
namespace Go.Proofs.YtjnikknlcmbcmaaGreatDoor
open Go.RowKit
theorem iter_eq {α β R : Type} {F : (α → R) → α → R} {G : (β → R) → β → R} {x : R} (Rel : α → β → Prop)
  (h : ∀ ag bg, (∀ a b, Rel a b → ag a = bg b) → ∀ a b, Rel a b → F ag a = G bg b) : ∀ (n : Nat) (a : α) (b : β), Rel a b → iter n F (fun _ => x) a = iter n G (fun _ => x) b
 | 0, a, b, _ => rfl
 | n + 1, a, b, hr => by
  rw [iter, iter]
  exact h _ _ (fun a b hr => iter_eq Rel h n a b hr) a b hr
theorem orI_comm (k : IntKind) (a b : Int) : orI k a b = orI k b a := by unfold orI; rw [BitVec.or_comm]
theorem right_eq (x : Int) {n : Int} (h : n ∈ [(2 : Int), 3, 6, 7, 11, 13, 17, 18, 19, 22, 25]) : digest_right x n = specieref06_right x n := by
 unfold digest_right math_bits_RotateLeft32 specieref06_right
 simp only [letk]
 rw [orI_comm]
 simp only [List.mem_cons, List.not_mem_nil, or_false] at h
 rcases h with rfl | rfl | rfl | rfl | rfl | rfl | rfl | rfl | rfl | rfl | rfl <;> rfl
theorem w32 (a : Int) : IntKind.wrap .u32 a = a % 4294967296 := by simp [IntKind.wrap, IntKind.bits, IntKind.signed]
theorem or_nat (a c : Nat) (hc : c < 256) : (BitVec.ofInt 32 (((a * 256 : Nat) : Int) % 4294967296) ||| BitVec.ofInt 32 (c : Int)).toNat = (a * 256) % 4294967296 + c := by
 have e1 : (BitVec.ofInt 32 (((a * 256 : Nat) : Int) % 4294967296)).toNat = (a % 16777216) <<< 8 := by
  rw [BitVec.toNat_ofInt, Nat.shiftLeft_eq]
  omega
 have e2 : (BitVec.ofInt 32 (c : Int)).toNat = c := by rw [BitVec.toNat_ofInt]; omega
 rw [BitVec.toNat_or, e1, e2, ← Nat.shiftLeft_add_eq_or_of_lt (show c < 2 ^ 8 by omega), Nat.shiftLeft_eq]
 omega
theorem or_shl8 {x c : Int} (hx : 0 ≤ x ∧ x ≤ 4294967295) (hc : 0 ≤ c ∧ c ≤ 255) : orI .u32 (shlI .u32 x 8) (convI .u32 c) = addI .u32 (mulI .u32 x 256) (convI .u32 c) := by
 obtain ⟨a, rfl⟩ := Int.eq_ofNat_of_zero_le hx.1
 obtain ⟨d, rfl⟩ := Int.eq_ofNat_of_zero_le hc.1
 have h1 : shlI .u32 (a : Int) 8 = ((a * 256 : Nat) : Int) % 4294967296 := by
  unfold shlI; rw [w32]; simp [IntKind.bits]
 have h2 : convI .u32 (d : Int) = (d : Int) := by unfold convI; rw [w32]; omega
 have h3 : mulI .u32 (a : Int) 256 = ((a * 256 : Nat) : Int) % 4294967296 := by
  unfold mulI; rw [w32]; simp
 have h4 := or_nat a d (by omega)
 rw [h1, h2, h3]
 have key : orI .u32 (((a * 256 : Nat) : Int) % 4294967296) (d : Int) = IntKind.wrap .u32 ((BitVec.ofInt 32 (((a * 256 : Nat) : Int) % 4294967296) ||| BitVec.ofInt 32 (d : Int)).toNat : Int) := rfl
 rw [key, h4]
 unfold addI
 rw [w32, w32]
 omega
theorem st_app {q : List Int} {z : List Int} {a x : Int} {t : Int} (h : (q.length : Int) = t) : st (q ++ a :: z) t x = q ++ x :: z := by
 unfold st
 rw [show t.toNat = q.length by omega]
 simp
theorem gt_app {q z : List Int} {t : Int} (h : 0 ≤ t) (h1 : t < (q.length : Int)) : gt (q ++ z) t = gt q t := by
 unfold gt
 have : t.toNat < q.length := by omega
 simp [List.getD_eq_getElem?_getD, List.getElem?_append_left this]
theorem gt_app0 {q z : List Int} {a t : Int} (h : (q.length : Int) = t) : gt (q ++ a :: z) t = a := by
 unfold gt
 rw [show t.toNat = q.length by omega]
 simp [List.getD_eq_getElem?_getD]
theorem arr64 {l : List Int} (h : l.length = 64) : arrN 64 l = l := arrN_full h
theorem sl_get {b : List Int} {i k : Int} (h0 : 0 ≤ i) (hk : 0 ≤ k) (hk4 : k < 4) (h : i + 4 ≤ (b.length : Int)) : gt (sl b i (i + 4)) k = gt b (i + k) := by
 unfold gt sl
 have e : (i + k).toNat = i.toNat + k.toNat := by omega
 simp only [List.getD_eq_getElem?_getD]
 rw [List.getElem?_take_of_lt (by omega), List.getElem?_drop, e]
theorem gt_isB {b : List Int} (hb : ∀ x ∈ b, 0 ≤ x ∧ x ≤ 255) (i : Int) : 0 ≤ gt b i ∧ gt b i ≤ 255 := by
 unfold gt
 rw [List.getD_eq_getElem?_getD]
 cases h : b[i.toNat]? with
 | none => exact ⟨by decide, by decide⟩
 | some x => exact hb x (List.mem_of_getElem? h)
theorem words_eq {b : List Int} (hl : b.length = 64) (hb : ∀ x ∈ b, 0 ≤ x ∧ x ≤ 255) : digest_schedule b = specieref06_words b := by
 unfold digest_schedule specieref06_words
 refine iter_eq (fun (a : Int × List Int) (c : Int × List Int) => a.1 = c.1 ∧ 0 ≤ a.1 ∧ a.1 ≤ 16 ∧ (c.2.length : Int) = a.1 ∧ a.2 = c.2 ++ List.replicate (64 - a.1).toNat 0) ?_ _ _ _ ⟨rfl, by decide, by decide, rfl, rfl⟩
 rintro ag bg hag ⟨i, w⟩ ⟨i', q⟩ ⟨e1, h0, h1, h2, h3⟩
 simp only at e1 h0 h1 h2 h3
 subst e1
 subst h3
 by_cases hi : i < 16
 ·simp only [hi, decide_true, if_true]
  have hz : List.replicate (64 - i).toNat (0 : Int) = 0 :: List.replicate (63 - i).toNat 0 := by
   rw [show (64 - i).toNat = (63 - i).toNat + 1 by omega]; rfl
  have hsl : ((sl b (4 * i) (4 * i + 4)).length : Int) = 4 := by rw [sl_len]; omega
  rw [hsl, hz]
  refine iter_eq (fun (a : Int × List Int) (c : Int × Int) => a.1 = c.2 ∧ 0 ≤ a.1 ∧ a.1 ≤ 4 ∧ (0 ≤ c.1 ∧ c.1 ≤ 4294967295) ∧ a.2 = q ++ c.1 :: List.replicate (63 - i).toNat 0) ?_ _ _ _ ⟨rfl, show (0 : Int) ≤ 0 by decide, show (0 : Int) ≤ 4 by decide, show (0 : Int) ≤ 0 ∧ (0 : Int) ≤ 4294967295 by decide, rfl⟩
  rintro ag2 bg2 hag2 ⟨k, w⟩ ⟨x, k'⟩ ⟨e1, g0, g1, g2, g3⟩
  simp only at e1 g0 g1 g2 g3
  subst e1
  subst g3
  by_cases hk : k < 4
  ·simp only [hk, decide_true, if_true]
   have hlen : (q ++ x :: List.replicate (63 - i).toNat 0).length = 64 := by simp; omega
   have hg := gt_isB hb (4 * i + k)
   rw [gt_app0 h2, sl_get (by omega) g0 hk (by omega), arr64 hlen, st_app h2, arr64 (by simp; omega), or_shl8 g2 hg]
   refine hag2 _ _ ⟨rfl, by omega, by omega, ?_, rfl⟩
   have := rng_addI .u32 (mulI .u32 x 256) (convI .u32 (gt b (4 * i + k)))
   rw [rng_u32] at this
   exact this
  ·simp only [hk, decide_false, Bool.false_eq_true, if_false]
   refine hag _ _ ⟨rfl, by omega, by omega, by simp; omega, ?_⟩
   rw [show (64 - (i + 1)).toNat = (63 - i).toNat by omega]
   simp
 ·simp only [hi, decide_false, Bool.false_eq_true, if_false]
  have e16 : i = 16 := by omega
  subst e16
  refine iter_eq (fun (a : Int × List Int) (c : Int × List Int) => a.1 = c.1 ∧ 16 ≤ a.1 ∧ a.1 ≤ 64 ∧ (c.2.length : Int) = a.1 ∧ a.2 = c.2 ++ List.replicate (64 - a.1).toNat 0) ?_ _ _ _ ⟨rfl, show (16 : Int) ≤ 16 by decide, show (16 : Int) ≤ 64 by decide, h2, rfl⟩
  rintro ag2 bg2 hag2 ⟨t, w⟩ ⟨t', p⟩ ⟨e1, g0, g1, g2, g3⟩
  simp only at e1 g0 g1 g2 g3
  subst e1
  subst g3
  by_cases ht : t < 64
  ·simp only [ht, decide_true, if_true, letk]
   have hz : List.replicate (64 - t).toNat (0 : Int) = 0 :: List.replicate (63 - t).toNat 0 := by
    rw [show (64 - t).toNat = (63 - t).toNat + 1 by omega]; rfl
   rw [hz, gt_app (t := t - 15) (by omega) (by omega), gt_app (t := t - 2) (by omega) (by omega), gt_app (t := t - 16) (by omega) (by omega), gt_app (t := t - 7) (by omega) (by omega)]
   rw [right_eq _ (by decide), right_eq _ (by decide), right_eq _ (by decide), right_eq _ (by decide)]
   have hlen : ∀ y : Int, (p ++ y :: List.replicate (63 - t).toNat 0).length = 64 := fun y => by simp; omega
   rw [arr64 (hlen 0), st_app g2, arr64 (hlen _)]
   refine hag2 _ _ ⟨rfl, by omega, by omega, by simp; omega, ?_⟩
   rw [show (64 - (t + 1)).toNat = (63 - t).toNat by omega]
   simp
  ·simp only [ht, decide_false, Bool.false_eq_true, if_false]
   rw [show (64 - t).toNat = 0 by omega]
   simp
end Go.Proofs.YtjnikknlcmbcmaaGreatDoor
namespace Go.Proofs.YtjnikknlcmbcmaaGreatDoor
open Go.RowKit
theorem iter_rel {α β R S : Type} {F : (α → R) → α → R} {G : (β → S) → β → S} {d : α → R} {e : β → S} (Rel : α → β → Prop) (Q : R → S → Prop) (mu : α → Nat)
  (h : ∀ ag bg a b, Rel a b → (∀ a' b', Rel a' b' → mu a' < mu a → Q (ag a') (bg b')) → Q (F ag a) (G bg b)) : ∀ (n m : Nat) (a : α) (b : β), Rel a b → mu a < n → mu a < m → Q (iter n F d a) (iter m G e b)
 | 0, _, _, _, _, h1, _ => absurd h1 (Nat.not_lt_zero _)
 | _, 0, _, _, _, _, h1 => absurd h1 (Nat.not_lt_zero _)
 | n + 1, m + 1, a, b, hr, h1, h2 => by
  rw [iter, iter]
  exact h _ _ a b hr fun a' b' hr' hm => iter_rel Rel Q mu h n m a' b' hr' (by omega) (by omega)
def rnd (K : List Int → List Int) (h w : List Int) : List Int := (iter (((64 : Int) - 0).toNat + 1) (fun (ag17 : (Int × List Int) → (List Int)) (p17 : Int × List Int) => (if (decide (p17.1 < 64)) then (letk (specieref06_right (gt p17.2 4) 6) (fun (x22 : Int) => (letk (specieref06_right (gt p17.2 4) 11) (fun (x24 : Int) => (letk (specieref06_right (gt p17.2 4) 25) (fun (x26 : Int) => (letk (specieref06_right (gt p17.2 0) 2) (fun (x33 : Int) => (letk (specieref06_right (gt p17.2 0) 13) (fun (x35 : Int) => (letk (specieref06_right (gt p17.2 0) 22) (fun (x37 : Int) => (ag17 ((p17.1 + 1), ([(addI .u32 (addI .u32 (addI .u32 (addI .u32 (addI .u32 (gt p17.2 7) (xorI .u32 (xorI .u32 x22 x24) x26)) (xorI .u32 (andI .u32 (gt p17.2 4) (gt p17.2 5)) (andI .u32 (notI .u32 (gt p17.2 4)) (gt p17.2 6)))) (gt specieref06_constants p17.1)) (gt w p17.1)) (addI .u32 (xorI .u32 (xorI .u32 x33 x35) x37) (xorI .u32 (xorI .u32 (andI .u32 (gt p17.2 0) (gt p17.2 1)) (andI .u32 (gt p17.2 0) (gt p17.2 2))) (andI .u32 (gt p17.2 1) (gt p17.2 2))))), (gt p17.2 0), (gt p17.2 1), (gt p17.2 2), (addI .u32 (gt p17.2 3) (addI .u32 (addI .u32 (addI .u32 (addI .u32 (gt p17.2 7) (xorI .u32 (xorI .u32 x22 x24) x26)) (xorI .u32 (andI .u32 (gt p17.2 4) (gt p17.2 5)) (andI .u32 (notI .u32 (gt p17.2 4)) (gt p17.2 6)))) (gt specieref06_constants p17.1)) (gt w p17.1))), (gt p17.2 4), (gt p17.2 5), (gt p17.2 6)] : List Int))))))))))))))) else (iter (((8 : Int) - 0).toNat + 1) (fun (ag43 : (Int × List Int) → (List Int)) (p43 : Int × List Int) => (if (decide (p43.1 < 8)) then (ag43 ((p43.1 + 1), (st p43.2 p43.1 (addI .u32 (gt p43.2 p43.1) (gt p17.2 p43.1))))) else (K p43.2))) (fun _ => default) (0, h)))) (fun _ => default) (0, (([] : List Int) ++ h)))
theorem list8 {l : List Int} (h : l.length = 8) : l = [gt l 0, gt l 1, gt l 2, gt l 3, gt l 4, gt l 5, gt l 6, gt l 7] := by
 match l, h with
 | [a, b, c, d, e, f, g, i], _ => rfl
theorem arr8 {l : List Int} (h : l.length = 8) : arrN 8 l = l := arrN_full h
theorem kg_eq : kg_5 = specieref06_constants := rfl
theorem rnd_eq (K : List Int → List Int) {h b : List Int} (hl : h.length = 8) : rnd K h (digest_schedule b) = K (digest_mix h b) := by
 unfold rnd digest_mix
 simp only [letk]
 generalize digest_schedule b = w
 refine iter_rel (fun (a : Int × Int × Int × Int × Int × Int × Int × Int × Int) (c : Int × List Int) => a.2.2.2.2.2.2.2.2 = c.1 ∧ 0 ≤ c.1 ∧ c.1 ≤ 64 ∧ c.2 = [a.1, a.2.1, a.2.2.1, a.2.2.2.1, a.2.2.2.2.1, a.2.2.2.2.2.1, a.2.2.2.2.2.2.1, a.2.2.2.2.2.2.2.1]) (fun r s => s = K r) (fun a => (64 - a.2.2.2.2.2.2.2.2).toNat) ?_ _ _ _ _ ⟨rfl, show (0 : Int) ≤ 0 by decide, show (0 : Int) ≤ 64 by decide, list8 hl⟩ (show ((64 : Int) - 0).toNat < ((64 : Int) - 0).toNat + 1 by decide) (show ((64 : Int) - 0).toNat < ((64 : Int) - 0).toNat + 1 by decide)
 rintro ag bg ⟨a0, a1, a2, a3, a4, a5, a6, a7, t⟩ ⟨t', v⟩ ⟨e1, g0, g1, g2⟩ hag
 simp only at e1 g0 g1 g2 hag
 subst e1
 subst g2
 by_cases ht : t < 64
 ·simp only [ht, decide_true, if_true]
  rw [right_eq _ (by decide), right_eq _ (by decide), right_eq _ (by decide), right_eq _ (by decide), right_eq _ (by decide), right_eq _ (by decide), kg_eq]
  refine hag _ _ ⟨rfl, by omega, by omega, ?_⟩ (by simp only; omega)
  rfl
 ·simp only [ht, decide_false, Bool.false_eq_true, if_false]
  refine iter_rel (fun (a : Int × List Int) (c : Int × List Int) => a = c ∧ 0 ≤ a.1 ∧ a.1 ≤ 8 ∧ a.2.length = 8) (fun r s => s = K r) (fun a => (8 - a.1).toNat) ?_ _ _ _ _ ⟨rfl, show (0 : Int) ≤ 0 by decide, show (0 : Int) ≤ 8 by decide, hl⟩ (show ((8 : Int) - 0).toNat < ((8 : Int) - 0).toNat + 1 by decide) (show ((8 : Int) - 0).toNat < ((8 : Int) - 0).toNat + 1 by decide)
  rintro ag2 bg2 ⟨i, s⟩ ⟨i', s'⟩ ⟨e1, k0, k1, k2⟩ hag2
  cases e1
  simp only at k0 k1 k2 hag2
  by_cases hi : i < 8
  ·simp only [hi, decide_true, if_true]
   rw [arr8 k2, arr8 (by rw [st_len]; exact k2)]
   exact hag2 _ _ ⟨rfl, by simp only; omega, by simp only; omega, by simp only [st_len]; exact k2⟩ (by simp only; omega)
  ·simp only [hi, decide_false, Bool.false_eq_true, if_false]
end Go.Proofs.YtjnikknlcmbcmaaGreatDoor
