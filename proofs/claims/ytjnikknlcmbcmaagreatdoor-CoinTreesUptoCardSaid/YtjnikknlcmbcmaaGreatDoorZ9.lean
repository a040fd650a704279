/- Texts of this proof, one after the other: EG, U3, U4, A1, A2, L1, L2, L3, L4, L5. -/
import Derived.Test.YtjnikknlcmbcmaaGreatDoorZ8
import Derived.Lib.AppendZeros
import Derived.Test.YtjnikknlcmbcmaaGreatDoorZ6
import Derived.Lib.TrailingZeros
set_option linter.unusedVariables false
set_option linter.unusedSimpArgs false
namespace Go.Proofs.YtjnikknlcmbcmaaGreatDoor
open Go.RowKit
set_option linter.unusedVariables false
set_option linter.unusedSimpArgs false
theorem grow_nil {n : Int} {x : List Int} (h : x = slices_Grow_byte_byte [] n) : x.length = 0 := by subst h; rfl
theorem u8_info : ∃ i : TypeInfo, Tryz.prog.info? 5 = some i ∧ i.zero = some (.int .u8 0) ∧ i.size = 1 ∧ i.bytes = 1 := by
 have h : (Tryz.prog.info? 5).map (fun i => (i.zero, i.size, i.bytes)) = some (some (.int .u8 0), 1, 1) := by kernel_rfl
 cases hi : Tryz.prog.info? 5 with
 | none => rw [hi] at h; cases h
 | some i =>
  rw [hi] at h
  simp only [Option.map_some, Option.some.injEq, Prod.mk.injEq] at h
  exact ⟨i, rfl, h.1, h.2.1, h.2.2⟩
set_option maxHeartbeats 4000000 in
set_option maxRecDepth 100000 in
theorem grow_run (n : Nat) (hn : 0 < n) (h9 : n ≤ 100000000) (w : World) : Calls Tryz.prog 262 #[.slice none 0 0, .int .i64 (n : Int)] w fun e w' =>
  e = .returned (.slice (some ⟨w.heap.size, 0, none⟩) 0 (grownCap w n 0 5)) ∧ w' = w.drew.alloc (.cells (Builtin.zeroCells (Value.int .u8 0).cells n ++ Builtin.zeroCells (Value.int .u8 0).cells (grownCap w n 0 5 - n)) 5) := by
 obtain ⟨i, hi, hz, hs, hb⟩ := u8_info
 have hap := fun ty => Lib.run_append_nil_zeros (P := Tryz.prog) w 87 3 ty 5 i (.int .u8 0) .i64 .i64 Tryz.underlying87 Tryz.underlying3 hi hz n hn (by omega) (by omega) (by rw [hb]; omega)
 have hge := grownCap_ge w n 0 5
 have hq1 : ¬ ((n : Int) < 0) := by omega
 have hq2 : (0 : Int) < (n : Int) := by omega
 go_enter Tryz.func262, Tryz.ntmps262
 have hb5 : Tryz.t5.bytes = 1 := by kernel_rfl
 have hns : Builtin.nextslicecap n 0 = n := by unfold Builtin.nextslicecap; simp; omega
 go_wp2
 all_goals first | (exfalso; rw [hb5] at *; omega) | (exfalso; omega) | skip
 refine ⟨rfl, _, results_tmp rfl _ _ _, ?_, ?_⟩
 ·rfl
 ·rfl
set_option maxHeartbeats 4000000 in
set_option maxRecDepth 100000 in
theorem grow_run0 (w : World) : Calls Tryz.prog 262 #[.slice none 0 0, .int .i64 0] w fun e w' =>
  e = .returned (.slice none 0 0) ∧ w' = w := by
 go_enter Tryz.func262, Tryz.ntmps262
 go_wp2
 exact ⟨rfl, _, results_tmp rfl _ _ _, rfl, rfl⟩
theorem slices_Grow_byte_byte_ok (z0 : Option Bool) (a0 : List Int) (a1 : Int) (hp0 : z0 = some true) (hp1 : a0 = []) (hp2 : 0 ≤ a1) (hp3 : a1 ≤ 100000000) : CallOk En 262 [.sl z0 1 false (a0.map (V.int .u8)), .int .i64 a1] (.own 0) [.own 5 1 false none ((slices_Grow_byte_byte a0 a1).map (V.int .u8))] := by
 subst hp0 hp1
 refine ⟨show ∀ xs w, (callFunc 262 xs).run En.P w = .ok (.enter 262 xs) w from enters_of Tryz.func262 (by kernel_rfl) rfl, fun c us _ hg hus => ?_⟩
 simp only [rdT] at hus
 obtain ⟨u0, c0, rfl, h0, u1, c1, rfl, h1, rfl⟩ := hus
 simp only [rd, List.map_nil, List.length_nil] at h0 h1
 obtain ⟨a, cap, rfl, _, ⟨rfl, rfl⟩, _⟩ := h0
 obtain ⟨rfl, _⟩ := h1
 show Calls Tryz.prog _ _ _ _
 obtain ⟨n, rfl⟩ : ∃ n : Nat, a1 = n := ⟨a1.toNat, by omega⟩
 by_cases h9 : n = 0
 ·subst h9
  refine (grow_run0 c.w).mono ?_
  rintro e w' ⟨rfl, rfl⟩
  refine ⟨_, c, fun i => if i = 0 then some (.slice none 0 0) else none, rfl, rfl, Cx.le.refl c, ⟨rfl, rfl⟩, ?_, fun i hi => ?_, fun i j bi bj k hij hi hj => ?_⟩
  ·intro i b hb
   match i, hb with
   | 0, hb =>
    simp only [List.getElem?_cons_zero, Option.some.injEq] at hb
    subst hb
    exact ⟨⟨_, _, _, _, _, rfl⟩, _, rfl, Own.nil, fun k hk => (by cases hk), fun _ => rfl, _, _, rfl, fun _ => rfl⟩
  ·exact if_neg (by simp only [List.length_cons, List.length_nil] at hi; omega)
  ·have : i = 0 := by
    have := (List.getElem?_eq_some_iff.1 hi).1
    simp at this; exact this
   have : j = 0 := by
    have := (List.getElem?_eq_some_iff.1 hj).1
    simp at this; exact this
   omega
 ·refine (grow_run n (by omega) (by omega) c.w).mono ?_
  rintro e w' ⟨rfl, rfl⟩
  have hge := grownCap_ge c.w n 0 5
  have hcm : grownCap c.w n 0 5 ≤ maxLen := grownCap_le_maxLen c.w _ 0 5 (by unfold maxLen; omega)
  obtain ⟨c', h1, h2, h3, h4⟩ := own_new c 5 (rV ro0 1 false) [] [] (Builtin.zeroCells (Value.int .u8 0).cells n ++ Builtin.zeroCells (Value.int .u8 0).cells (grownCap c.w n 0 5 - n)) (grownCap c.w n 0 5) (by omega) (Nat.zero_le _) hcm (Nat.zero_le _)
   rfl (by rw [Array.size_append, size_zeroCells, size_zeroCells]; show n * 1 + (grownCap c.w n 0 5 - n) * 1 = (grownCap c.w n 0 5 - 0) * 1; omega) c.w.drew ⟨rfl, rfl, rfl, rfl⟩
  refine ⟨_, c', fun i => if i = 0 then some (.slice (some ⟨c.w.heap.size, 0, none⟩) 0 (grownCap c.w n 0 5)) else none, rfl, by rw [h1]; simp, h2, ⟨rfl, rfl⟩, ?_, fun i hi => ?_, fun i j bi bj k hij hi hj => ?_⟩
  ·intro i b hb
   match i, hb with
   | 0, hb =>
    simp only [List.getElem?_cons_zero, Option.some.injEq] at hb
    subst hb
    refine ⟨⟨_, _, _, _, _, rfl⟩, _, rfl, h3, fun k hk => ?_, fun _ => rfl, _, _, rfl, fun h => (by cases h)⟩
    obtain rfl := blk_new hk
    exact .inl (Nat.le_refl _)
  ·exact if_neg (by simp only [List.length_cons, List.length_nil] at hi; omega)
  ·have : i = 0 := by
    have := (List.getElem?_eq_some_iff.1 hi).1
    simp at this; exact this
   have : j = 0 := by
    have := (List.getElem?_eq_some_iff.1 hj).1
    simp at this; exact this
   omega
end Go.Proofs.YtjnikknlcmbcmaaGreatDoor
namespace Go.Proofs.YtjnikknlcmbcmaaGreatDoor
open Go.RowKit
set_option linter.unusedSimpArgs false
set_option maxHeartbeats 2000000 in
set_option maxRecDepth 100000 in
theorem slices_Concat_byte_byte_ok   (slices : (List (List Int))) (hp0 : slices.length ≤ 2) (hp1 : ∀ j : Int, (gt slices j).length ≤ 32) : CM En (slices_Concat_byte_byte slices) 220 [.sl none 1 false (slices.map (fun (l : List Int) => V.sl none 1 false (l.map (V.int .u8))))] (fun _ => .own 0) (fun y => [.own 5 1 false none (y.map (V.int .u8))]) := by
 refine cmQ fun r hM => ?_
 rw [slices_Concat_byte_byte.eq_1] at hM
 refine enterV En_ok En_mo noJ Tryz.func220 rfl Tryz.ntmps220 (by kernel_rfl) fun hw => ct_start ?_
 refine spQ ?_
 replace hw := nzQ hw
 have hM0 := hM; clear hM; obtain ⟨f1, d1, hf1, hd1, hM⟩ := iter_opn hM0; clear hM0
 refine ct_loop (fun n S => ∃ p : Int × Int, S = (⟨[(0, .sl none 1 false (slices.map (fun (l : List Int) => V.sl none 1 false (l.map (V.int .u8))))), (3, .int .i64 p.1), (9, .sl none 1 false (slices.map (fun (l : List Int) => V.sl none 1 false (l.map (V.int .u8))))), (10, .int .i64 (slices.length : Int)), (11, .int .i64 p.2)], [], 0⟩ : St) ∧ ((0 ≤ p.2) ∧ (p.2 ≤ (slices.length : Int)) ∧ (0 ≤ p.1) ∧ (p.1 ≤ 32 * p.2)) ∧ ((slices.length : Int) - p.2).toNat < n ∧ iter n f1 d1 p = r) (((slices.length : Int) - 0).toNat + 1) _ sbQ sbQ ⟨(0, 0), rfl, ⟨by (first | exact omQ | (clear hM; first | (have h9 := hp1 p1.2; exact omQ') | (have h9 := hp1 p13.1; exact omQ') | (have h9 := hp1 p14.1; exact omQ'))), by (first | exact omQ | (clear hM; first | (have h9 := hp1 p1.2; exact omQ') | (have h9 := hp1 p13.1; exact omQ') | (have h9 := hp1 p14.1; exact omQ'))), by (first | exact omQ | (clear hM; first | (have h9 := hp1 p1.2; exact omQ') | (have h9 := hp1 p13.1; exact omQ') | (have h9 := hp1 p14.1; exact omQ'))), by (first | exact omQ | (clear hM; first | (have h9 := hp1 p1.2; exact omQ') | (have h9 := hp1 p13.1; exact omQ') | (have h9 := hp1 p14.1; exact omQ')))⟩, (Nat.lt_succ_self _), hM⟩ ?_
 clear hM
 rintro n1 S ⟨p1, rfl, hfa1, hm1, hM⟩
 have hM0 := hM; clear hM; obtain ⟨ag1, hag1, hM⟩ := iter_step hM0 (by omega) hf1; clear hM0
 replace hfa1 := nzQ hfa1
 replace hm1 := nzQ hm1
 have ha1 : addI .i64 p1.2 1 = p1.2 + 1 := add_one (by (first | exact omQ | (clear hM; first | (have h9 := hp1 p1.2; exact omQ') | (have h9 := hp1 p13.1; exact omQ') | (have h9 := hp1 p14.1; exact omQ')))) (by (first | exact omQ | (clear hM; first | (have h9 := hp1 p1.2; exact omQ') | (have h9 := hp1 p13.1; exact omQ') | (have h9 := hp1 p14.1; exact omQ'))))
 refine spQA ha1 ?_
 refine condC_intro (fun h2 => ?_) (fun h2 => ?_)
 ·rw [if_pos h2] at hM
  refine spQA (And.intro ha1 h2) ?_
  have nh2 := nzQ h2
  try have hr3 := mpQ nh2
  refine bindC_intro (by (first | exact omQ | (clear hM; first | (have h9 := hp1 p1.2; exact omQ') | (have h9 := hp1 p13.1; exact omQ') | (have h9 := hp1 p14.1; exact omQ')))) ?_
  have he4 := fun d => elt_mp (l := slices) (f := (fun (l : List Int) => V.sl none 1 false (l.map (V.int .u8)))) (i := p1.2) (by (first | exact omQ | (clear hM; first | (have h9 := hp1 p1.2; exact omQ') | (have h9 := hp1 p13.1; exact omQ') | (have h9 := hp1 p14.1; exact omQ')))) d
  refine spQA (And.intro ha1 he4) ?_
  have ha5 : addI .i64 p1.1 ((gt slices p1.2).length : Int) = (p1.1 + ((gt slices p1.2).length : Int)) := add_ok (by (first | exact omQ | (clear hM; first | (have h9 := hp1 p1.2; exact omQ') | (have h9 := hp1 p13.1; exact omQ') | (have h9 := hp1 p14.1; exact omQ')))) (by (first | exact omQ | (clear hM; first | (have h9 := hp1 p1.2; exact omQ') | (have h9 := hp1 p13.1; exact omQ') | (have h9 := hp1 p14.1; exact omQ'))))
  try simp only [ha5]
  refine condC_intro (fun h6 => ?_) (fun h6 => ?_)
  ·rw [if_pos h6] at hM
   refine spQA (And.intro ha1 (And.intro he4 (And.intro ha5 h6))) ?_
   have nh6 := nzQ h6
   try have hr7 := mpQ nh6
   exact False.elim (by (first | exact omQ | (clear hM; first | (have h9 := hp1 p1.2; exact omQ') | (have h9 := hp1 p13.1; exact omQ') | (have h9 := hp1 p14.1; exact omQ'))))
  ·rw [if_neg (ne_true h6)] at hM
   refine spQA (And.intro ha1 (And.intro he4 (And.intro ha5 h6))) ?_
   have nh6 := nzQ h6
   try have hr8 := mpQ nh6
   refine lp_intro (n1 - 1) _ (by omega) sbQ sbQ ⟨((p1.1 + ((gt slices p1.2).length : Int)), (p1.2 + 1)), rfl, ⟨by (first | exact omQ | (clear hM; first | (have h9 := hp1 p1.2; exact omQ') | (have h9 := hp1 p13.1; exact omQ') | (have h9 := hp1 p14.1; exact omQ'))), by (first | exact omQ | (clear hM; first | (have h9 := hp1 p1.2; exact omQ') | (have h9 := hp1 p13.1; exact omQ') | (have h9 := hp1 p14.1; exact omQ'))), by (first | exact omQ | (clear hM; first | (have h9 := hp1 p1.2; exact omQ') | (have h9 := hp1 p13.1; exact omQ') | (have h9 := hp1 p14.1; exact omQ'))), by (first | exact omQ | (clear hM; first | (have h9 := hp1 p1.2; exact omQ') | (have h9 := hp1 p13.1; exact omQ') | (have h9 := hp1 p14.1; exact omQ')))⟩, by (first | exact omQ | (clear hM; first | (have h9 := hp1 p1.2; exact omQ') | (have h9 := hp1 p13.1; exact omQ') | (have h9 := hp1 p14.1; exact omQ'))), iter_again hM hag1⟩
 ·rw [if_neg (ne_true h2)] at hM
  refine spQA (And.intro ha1 h2) ?_
  have nh2 := nzQ h2
  try have hr9 := mpQ nh2
  have hM0 := hM; clear hM; obtain ⟨x10, hx11, hM⟩ := letk_opn hM0; clear hM0
  have hcx10 := slices_Grow_byte_byte_ok (some true) ([] : List Int) (p1.1) (by (first | rfl | omega)) (by (first | rfl | omega)) (by (first | rfl | omega)) (by (first | rfl | omega))
  rw [← hx11] at hcx10
  refine callC_give hcx10 (clQA ha1) (clQA ha1) (fun hw12 => ?_)
  replace hw12 := nzQ hw12
  refine spQA ha1 ?_
  have hq13 := grow_nil hx11
  replace hq13 := nzQ hq13
  have hM0 := hM; clear hM; obtain ⟨f14, d14, hf14, hd14, hM⟩ := iter_opn hM0; clear hM0
  refine ct_loop (fun n S => ∃ p : Int × List Int, S = (⟨[(6, .own 0), (25, .sl none 1 false (slices.map (fun (l : List Int) => V.sl none 1 false (l.map (V.int .u8))))), (26, .int .i64 (slices.length : Int)), (27, .int .i64 p.1)], [(0, .own 5 1 false none (p.2.map (V.int .u8)))], 1⟩ : St) ∧ ((0 ≤ p.1) ∧ (p.1 ≤ (slices.length : Int)) ∧ (((p.2).length : Int) ≤ 32 * p.1)) ∧ ((slices.length : Int) - p.1).toNat < n ∧ iter n f14 d14 p = r) (((slices.length : Int) - 0).toNat + 1) _ sbQ sbQ ⟨(0, x10), rfl, ⟨by (first | exact omQ | (clear hM; first | (have h9 := hp1 p1.2; exact omQ') | (have h9 := hp1 p13.1; exact omQ') | (have h9 := hp1 p14.1; exact omQ'))), by (first | exact omQ | (clear hM; first | (have h9 := hp1 p1.2; exact omQ') | (have h9 := hp1 p13.1; exact omQ') | (have h9 := hp1 p14.1; exact omQ'))), by (first | exact omQ | (clear hM; first | (have h9 := hp1 p1.2; exact omQ') | (have h9 := hp1 p13.1; exact omQ') | (have h9 := hp1 p14.1; exact omQ')))⟩, (Nat.lt_succ_self _), hM⟩ ?_
  clear hM
  rintro n14 S ⟨p14, rfl, hfa14, hm14, hM⟩
  have hM0 := hM; clear hM; obtain ⟨ag14, hag14, hM⟩ := iter_step hM0 (by omega) hf14; clear hM0
  replace hfa14 := nzQ hfa14
  replace hm14 := nzQ hm14
  have ha14 : addI .i64 p14.1 1 = p14.1 + 1 := add_one (by (first | exact omQ | (clear hM; first | (have h9 := hp1 p1.2; exact omQ') | (have h9 := hp1 p13.1; exact omQ') | (have h9 := hp1 p14.1; exact omQ')))) (by (first | exact omQ | (clear hM; first | (have h9 := hp1 p1.2; exact omQ') | (have h9 := hp1 p13.1; exact omQ') | (have h9 := hp1 p14.1; exact omQ'))))
  refine spQA (And.intro ha1 ha14) ?_
  refine condC_intro (fun h15 => ?_) (fun h15 => ?_)
  ·rw [if_pos h15] at hM
   refine spQA (And.intro ha1 (And.intro ha14 h15)) ?_
   have nh15 := nzQ h15
   try have hr16 := mpQ nh15
   refine bindC_intro (by (first | exact omQ | (clear hM; first | (have h9 := hp1 p1.2; exact omQ') | (have h9 := hp1 p13.1; exact omQ') | (have h9 := hp1 p14.1; exact omQ')))) ?_
   have he17 := fun d => elt_mp (l := slices) (f := (fun (l : List Int) => V.sl none 1 false (l.map (V.int .u8)))) (i := p14.1) (by (first | exact omQ | (clear hM; first | (have h9 := hp1 p1.2; exact omQ') | (have h9 := hp1 p13.1; exact omQ') | (have h9 := hp1 p14.1; exact omQ')))) d
   refine spQA (And.intro ha1 (And.intro ha14 he17)) ?_
   refine bindC_intro (by (first | exact omQ | (clear hM; first | (have h9 := hp1 p1.2; exact omQ') | (have h9 := hp1 p13.1; exact omQ') | (have h9 := hp1 p14.1; exact omQ')))) ?_
   refine spQA (And.intro ha1 (And.intro ha14 he17)) ?_
   refine lp_intro (n14 - 1) _ (by omega) sbQ sbQ ⟨((p14.1 + 1), (p14.2 ++ (gt slices p14.1))), rfl, ⟨by (first | exact omQ | (clear hM; first | (have h9 := hp1 p1.2; exact omQ') | (have h9 := hp1 p13.1; exact omQ') | (have h9 := hp1 p14.1; exact omQ'))), by (first | exact omQ | (clear hM; first | (have h9 := hp1 p1.2; exact omQ') | (have h9 := hp1 p13.1; exact omQ') | (have h9 := hp1 p14.1; exact omQ'))), by (first | exact omQ | (clear hM; first | (have h9 := hp1 p1.2; exact omQ') | (have h9 := hp1 p13.1; exact omQ') | (have h9 := hp1 p14.1; exact omQ')))⟩, by (first | exact omQ | (clear hM; first | (have h9 := hp1 p1.2; exact omQ') | (have h9 := hp1 p13.1; exact omQ') | (have h9 := hp1 p14.1; exact omQ'))), iter_again hM hag14⟩
  ·rw [if_neg (ne_true h15)] at hM
   refine spQA (And.intro ha1 (And.intro ha14 h15)) ?_
   have nh15 := nzQ h15
   try have hr18 := mpQ nh15
   subst hM
   exact retC_owns [0] (bs := [.own 5 1 false none (p14.2.map (V.int .u8))]) (clQA (And.intro ha1 ha14)) (by decide) (lfQA (And.intro ha1 (And.intro ha14 (And.intro h2 h15))))
set_option maxHeartbeats 2000000 in
set_option maxRecDepth 100000 in
instance tree_inner_ok   (l : (List Int)) (r_ : (List Int))  : CM En (tree_inner l r_) 151 [(e_arr40 l), (e_arr40 r_)] (fun y => (e_arr40 y)) (fun _ => []) := by
 refine cmQ fun r hM => ?_
 rw [tree_inner.eq_1] at hM
 refine enterV En_ok En_mo [1] Tryz.func151 rfl Tryz.ntmps151 (by kernel_rfl) fun hw => ct_start ?_
 refine spQ ?_
 replace hw := nzQ hw
 refine seqC_pass ?_
 try refine spQ ?_
 refine cut_weakW _ (⟨[(2, .ptr 0 0), (3, .ptr 1 0), (4, .ptr 2 0)], [(0, .pvar 32 true ((e_arr40 l))), (1, .pvar 32 true ((e_arr40 r_))), (2, .var 32 true (zv_40))], 3⟩ : St) ((weak_pubv (S := ⟨_, _, _⟩) 0 (n := 32) (g := true) (d := (e_arr40 l)) clQ clQ).trans (weak_pubv (S := ⟨_, _, _⟩) 1 (n := 32) (g := true) (d := (e_arr40 r_)) clQ clQ)) sbQ sbQ ?_
 try refine spQ ?_
 refine ct_draw 16 10 [5, 7, 8, 9, 10, 11, 12, 13, 14] [] ([[], [], [0, 1], [0, 1, 2], [0, 1, 2, 3], [0, 1, 2, 3, 4], [0, 1, 2, 3, 4, 5], [0, 1, 2, 3, 4, 5], [], [0, 1, 2, 3, 4, 5, 6, 8]] ++ [List.range 10]) [(2, 5), (9, 11)] (by kernel_rfl) (by exact alQ) ?_
 refine spQ ?_
 have hM0 := hM; clear hM; obtain ⟨x1, hx2, hM⟩ := letk_opn hM0; clear hM0
 have hcx1 := CallOk.pub (cmH hx2 (slices_Concat_byte_byte_ok  ([(arrN 32 l), (arrN 32 r_)] : List (List Int)) (by (first | exact gt2_le (Nat.le_of_eq arrN_len) (Nat.le_of_eq arrN_len) | exact Nat.le_refl _)) (by (first | exact gt2_le (Nat.le_of_eq arrN_len) (Nat.le_of_eq arrN_len) | exact Nat.le_refl _))))
 refine hcallC_give hcx1 clQ clQ ?_
 refine spQ ?_
 have hq3 := concat_len hx2 (Nat.le_of_eq arrN_len) (Nat.le_of_eq arrN_len)
 replace hq3 := nzQ hq3
 have hM0 := hM; clear hM; obtain ⟨x4, hx5, hM⟩ := letk_opn hM0; clear hM0
 have hcx4 := cmH hx5 (digest_Tagged_ok  ([115, 112, 101, 99, 105, 101, 47, 110, 111, 100, 101]) x1 (by (omega)))
 refine hcallC_give hcx4 clQ clQ ?_
 refine spQ ?_
 subst hM
 exact retC_view lfQ
set_option maxHeartbeats 2000000 in
set_option maxRecDepth 100000 in
theorem slices_Reverse_api_Hash_api_Hash_ok  (z0 : Option Bool) (s : (List (List (List Int))))  : InPlace En 219 36 1 false z0 (s.map (fun (l : List (List Int)) => V.sl none 32 true (l.map e_arr40))) ((slices_Reverse_api_Hash_api_Hash s).map (fun (l : List (List Int)) => V.sl none 32 true (l.map e_arr40))) := by
 generalize hM : slices_Reverse_api_Hash_api_Hash s = r
 rw [slices_Reverse_api_Hash_api_Hash.eq_1] at hM
 refine enterAt En_ok En_mo noJ Tryz.func219 rfl Tryz.ntmps219 (by kernel_rfl) fun hw0 hw => ct_start ?_
 simp only [HOFF]
 replace hw0 := nzQ hw0
 refine spQ ?_
 replace hw := nzQ hw
 have ha1 : subI .i64 (s.length : Int) 1 = ((s.length : Int) - 1) := sub_ok omQ omQ
 try simp only [ha1]
 have hM0 := hM; clear hM; obtain ⟨f2, d2, hf2, hd2, hM⟩ := iter_opn hM0; clear hM0
 refine ct_loop (fun n S => ∃ p : Int × Int × List (List (List Int)), S = (⟨[(0, .own 0), (2, .int .i64 p.1), (3, .int .i64 p.2.1), (100000, .own 0)], [(0, .own 36 1 false none (p.2.2.map (fun (l : List (List Int)) => V.sl none 32 true (l.map e_arr40))))], 1⟩ : St) ∧ ((0 ≤ p.1) ∧ (p.1 ≤ (s.length : Int)) ∧ (-1 ≤ p.2.1) ∧ (p.2.1 < (s.length : Int)) ∧ ((p.2.2).length = (s).length)) ∧ (p.2.1 - p.1).toNat < n ∧ iter n f2 d2 p = r) ((((s.length : Int) - 1) - 0).toNat + 1) _ sbQ sbQ ⟨(0, ((s.length : Int) - 1), s), rfl, ⟨omQ, omQ, omQ, omQ, omQ⟩, (Nat.lt_succ_self _), hM⟩ ?_
 clear hM
 rintro n2 S ⟨p2, rfl, hfa2, hm2, hM⟩
 have hM0 := hM; clear hM; obtain ⟨ag2, hag2, hM⟩ := iter_step hM0 (by omega) hf2; clear hM0
 replace hfa2 := nzQ hfa2
 replace hm2 := nzQ hm2
 have ha2 : addI .i64 p2.1 1 = p2.1 + 1 := add_one omQ omQ
 refine spQA (And.intro ha1 ha2) ?_
 refine condC_intro (fun h3 => ?_) (fun h3 => ?_)
 ·rw [if_pos h3] at hM
  refine spQA (And.intro ha1 (And.intro ha2 h3)) ?_
  have nh3 := nzQ h3
  try have hr4 := mpQ nh3
  refine ct_draw 28 14 [14, 15, 16, 17, 18, 19, 20, 21, 22, 23, 24, 25, 26] [] ([[], [], [], [], [], [], [4, 5], [4, 5, 6], [], [], [8, 9], [8, 9, 10], [0, 1], [0, 1, 4, 5, 6, 7, 8, 9, 10, 11, 12]] ++ [List.range 14, List.range 15]) [(13, 0)] (by kernel_rfl) (by exact alQ) ?_
  refine spQA (And.intro ha1 ha2) ?_
  refine hbindC_intro omQ ?_
  have he5 := fun d => elt_mp (l := p2.2.2) (f := (fun (l : List (List Int)) => V.sl none 32 true (l.map e_arr40))) (i := p2.2.1) omQ d
  refine spQA (And.intro ha1 (And.intro ha2 he5)) ?_
  refine hbindC_intro omQ ?_
  refine spQA (And.intro ha1 (And.intro ha2 he5)) ?_
  refine hbindC_intro omQ ?_
  have he6 := fun d => elt_mp (l := p2.2.2) (f := (fun (l : List (List Int)) => V.sl none 32 true (l.map e_arr40))) (i := p2.1) omQ d
  refine spQA (And.intro ha1 (And.intro ha2 (And.intro he5 he6))) ?_
  refine hbindC_intro omQ ?_
  refine spQA (And.intro ha1 (And.intro ha2 (And.intro he5 he6))) ?_
  refine hbindC_intro omQ ?_
  refine spQA (And.intro ha1 (And.intro ha2 (And.intro he5 he6))) ?_
  refine hbindC_introU omQ clQ ?_
  refine spQA (And.intro ha1 (And.intro ha2 (And.intro he5 he6))) ?_
  refine bindC_intro omQ ?_
  have he7 := fun d => elt_mp (l := (st p2.2.2 p2.1 (gt p2.2.2 p2.2.1))) (f := (fun (l : List (List Int)) => V.sl none 32 true (l.map e_arr40))) (i := p2.2.1) omQ d
  refine spQA (And.intro ha1 (And.intro ha2 (And.intro he5 (And.intro he6 he7)))) ?_
  refine bindC_intro omQ ?_
  refine spQA (And.intro ha1 (And.intro ha2 (And.intro he5 (And.intro he6 he7)))) ?_
  have ha8 : subI .i64 p2.2.1 1 = (p2.2.1 - 1) := sub_ok omQ omQ
  try simp only [ha8]
  refine lp_intro (n2 - 1) _ (by omega) sbQ sbQ ⟨((p2.1 + 1), (p2.2.1 - 1), (st (st p2.2.2 p2.1 (gt p2.2.2 p2.2.1)) p2.2.1 (gt p2.2.2 p2.1))), rfl, ⟨omQ, omQ, omQ, omQ, omQ⟩, omQ, iter_again hM hag2⟩
 ·rw [if_neg (ne_true h3)] at hM
  refine spQA (And.intro ha1 (And.intro ha2 h3)) ?_
  have nh3 := nzQ h3
  try have hr9 := mpQ nh3
  subst hM
  first | exact at_end (by simp) rfl rfl (lfQA (And.intro ha1 (And.intro ha2 h3))) | exact ct_finN (at_end (by simp) rfl rfl (lfQA (And.intro ha1 (And.intro ha2 h3))))
set_option maxHeartbeats 2000000 in
set_option maxRecDepth 100000 in
theorem tree_levels_ok   (l : (List (List Int))) (hp0 : lenOk l) : CM En (tree_levels l) 150 [.sl none 32 true (l.map e_arr40)] (fun y => .sl none 1 false (y.map (fun (l : List (List Int)) => V.sl none 32 true (l.map e_arr40)))) (fun _ => []) := by
 refine cmQ fun r hM => ?_
 rw [tree_levels.eq_1] at hM
 refine enterV En_ok En_mo [7] Tryz.func150 rfl Tryz.ntmps150 (by kernel_rfl) fun hw => ct_start ?_
 refine spQ ?_
 replace hw := nzQ hw
 have hM0 := hM; clear hM; obtain ⟨f1, d1, hf1, hd1, hM⟩ := iter_opn hM0; clear hM0
 refine ct_loop (fun n S => ∃ p : List (List Int) × List (List (List Int)), S = (⟨[(0, .sl none 32 true (p.1.map e_arr40)), (3, .own 0)], [(0, .own 36 1 false none (p.2.map (fun (l : List (List Int)) => V.sl none 32 true (l.map e_arr40))))], 1⟩ : St) ∧ ((lenOk p.1) ∧ ((p.2).length + (p.1).length ≤ l.length + 1)) ∧ (p.1).length < n ∧ iter n f1 d1 p = r) ((l).length + 1) _ sbQ sbQ ⟨(l, ([l] : List (List (List Int)))), rfl, ⟨by exact hp0, by (simp only [List.length_cons, List.length_nil]; omega)⟩, (Nat.lt_succ_self _), hM⟩ ?_
 clear hM
 rintro n1 S ⟨p1, rfl, ⟨hF2_0, hF2_1⟩, hm1, hM⟩
 have hM0 := hM; clear hM; obtain ⟨ag1, hag1, hM⟩ := iter_step hM0 (by omega) hf1; clear hM0
 replace hm1 := nzQ hm1
 refine spQ ?_
 refine condC_intro (fun h2 => ?_) (fun h2 => ?_)
 ·rw [if_pos h2] at hM
  refine spQA h2 ?_
  have nh2 := nzQ h2
  try have hr3 := mpQ nh2
  refine seqC_pass ?_
  try refine spQ ?_
  refine callC_give (chunk_call none (p1.1)) clQ clQ (fun hw4 => ?_)
  refine spQ ?_
  have hM0 := hM; clear hM; obtain ⟨f5, d5, hf5, hd5, hM⟩ := riter_opn hM0; clear hM0
  refine ct_rangeF (chunk2 p1.1) (fun y5 => [.sl none 32 true (y5.map e_arr40)]) (fun p : List (List Int) => (⟨[(3, .own 0), (4, .ptr 1 0), (12, .fn 261 [.pp 1 false (.sl none 32 true (p1.1.map e_arr40)), .pp 1 false (.int .i64 2)])], [(0, .own 36 1 false none (p1.2.map (fun (l : List (List Int)) => V.sl none 32 true (l.map e_arr40)))), (1, .var 1 false (.own 2)), (2, .own 40 32 true none (p.map e_arr40))], 3⟩ : St)) (fun (k5 : Nat) (p : List (List Int)) => ((p).length = k5)) hM (chunk_iter (pair_even hF2_0 (by omega))) clQ clQ ⟨rfl, by decide, by decide⟩ (fun _ => rfl) (weak_nilC 1 40 rfl (by decide)) sbQ sbQ (by rfl) (fun _ _ _ => rfl) (fun ag5 k5 y5 p5 r5 K5 hy5 hk5 hf5a hM hN5 hR5 => ?_) (fun p5 hf5a hM => ?_)
  ·have hM0 := hM; clear hM; have hM := riter_in hM0 hf5; clear hM0
   have hF6_0 := hf5a
   have hl5 := chunk2_len hy5
   have hc5 := chunk2_le (l := p1.1)
   refine cont_st (S' := (⟨[(5, .sl none 32 true (y5.map e_arr40)), (13, .sl none 32 true (y5.map e_arr40)), (3, .own 0), (4, .ptr 1 0), (12, .fn 261 [.pp 1 false (.sl none 32 true (p1.1.map e_arr40)), .pp 1 false (.int .i64 2)]), (100003, .own 0), (100004, .ptr 1 0), (100012, .fn 261 [.pp 1 false (.sl none 32 true (p1.1.map e_arr40)), .pp 1 false (.int .i64 2)])], [(0, .own 36 1 false none (p1.2.map (fun (l : List (List Int)) => V.sl none 32 true (l.map e_arr40)))), (1, .var 1 false (.own 2)), (2, .own 40 32 true none (p5.map e_arr40))], 3⟩ : St)) rfl ?_
   try refine spQ ?_
   refine ct_draw 32 9 [14, 15, 16, 17, 18, 19, 20, 21, 22] [] ([[], [], [1], [1, 2], [], [4], [4, 5], [1, 2, 3, 4, 5, 6], [1, 2, 3, 4, 5, 6, 7]] ++ [List.range 9, List.range 10]) [] (by kernel_rfl) (by exact alQ) ?_
   refine spQ ?_
   refine hbindC_intro omQ ?_
   have he6 : ∀ d, elt (y5.map e_arr40) 0 d = e_arr40 (gt y5 0) := fun d => elt_mp (l := y5) (f := e_arr40) (i := 0) omQ d
   refine spQA he6 ?_
   refine hbindC_intro omQ ?_
   have he7 : ∀ d, elt (y5.map e_arr40) 1 d = e_arr40 (gt y5 1) := fun d => elt_mp (l := y5) (f := e_arr40) (i := 1) omQ d
   refine spQA (And.intro he6 he7) ?_
   have hM0 := hM; clear hM; obtain ⟨x8, hx9, hM⟩ := letk_opn hM0; clear hM0
   have hcx8 := cmU hx9
   refine hcallC_give hcx8 (clQA (And.intro he6 he7)) (clQA (And.intro he6 he7)) ?_
   refine spQA (And.intro he6 he7) ?_
   refine bindC_intro omQ ?_
   refine spQA (And.intro he6 he7) ?_
   try rw [ct_fin]
   exact (hN5 (p5 ++ ([x8] : List (List Int))) _ (weak_dn (by first | rfl | (simp only [dnF, HOFF, List.filterMap_cons, List.filterMap_nil, Nat.reduceLeDiff, if_true, if_false, ↓reduceIte, Nat.reduceSub]; exact sbQ)) sbQ) (by simp only [List.length_append, List.length_cons, List.length_nil, hF6_0]) hM)
  ·have hM0 := hM; clear hM; have hM := letj_use hM0 hd5; clear hM0
   have hF6_0 := hf5a
   try refine spQ ?_
   refine cut_weakW _ (⟨[(3, .own 0), (4, .ptr 1 0)], [(0, .own 36 1 false none (p1.2.map (fun (l : List (List Int)) => V.sl none 32 true (l.map e_arr40)))), (1, .var 1 false (.sl none 32 true (p5.map e_arr40))), (2, .pown 32 true none (p5.map e_arr40))], 3⟩ : St) ((weak_pub (S := ⟨_, _, _⟩) 2 (T := 40) (n := 32) (g := true) (z := none) (l := p5.map e_arr40) clQ).trans (weak_cell1 (S := ⟨_, _, _⟩) 1 2 (n := 32) (g := true) (z := none) (m := p5.map e_arr40) clQ clQ)) sbQ sbQ ?_
   try refine spQ ?_
   refine bindC_intro omQ ?_
   refine spQ ?_
   refine lp_intro (n1 - 1) _ (by omega) sbQ sbQ ⟨(p5, (p1.2 ++ ([p5] : List (List (List Int))))), rfl, ⟨by exact pair_ok hF2_0 (by omega) hF6_0, by (have h9 := pair_lt hF2_0 (by omega) hF6_0; simp only [List.length_append, List.length_cons, List.length_nil]; omega)⟩, by (have h9 := pair_lt hF2_0 (by omega) hF6_0; dsimp only; omega), iter_again hM hag1⟩
 ·rw [if_neg (ne_true h2)] at hM
  refine spQA h2 ?_
  have nh2 := nzQ h2
  try have hr10 := mpQ nh2
  have hM0 := hM; clear hM; obtain ⟨x11, hx12, hM⟩ := letk_opn hM0; clear hM0
  have hcx11 := slices_Reverse_api_Hash_api_Hash_ok none (p1.2) 
  rw [← hx12] at hcx11
  refine callC_at hcx11 rfl ?_
  refine spQ ?_
  subst hM
  exact retC_view (lfQA h2)
end Go.Proofs.YtjnikknlcmbcmaaGreatDoor
namespace Go.Proofs.YtjnikknlcmbcmaaGreatDoor
open Go.RowKit
set_option linter.unusedSimpArgs false
set_option maxHeartbeats 2000000 in
set_option maxRecDepth 100000 in
instance tree_open_ok   (l : (List (List Int))) (level : Int) (index : Int)  : CM En (tree_open l level index) 85 [.sl none 32 true (l.map e_arr40), .int .i64 level, .int .i64 index] (fun y => .tup [.sl none 1 false (y.1.map (fun (l : List (List Int)) => V.sl none 32 true (l.map e_arr40))), .int .i64 y.2]) (fun _ => []) := by
 refine cmQ fun r hM => ?_
 rw [tree_open.eq_1] at hM
 refine enterV En_ok En_mo noJ Tryz.func85 rfl Tryz.ntmps85 (by kernel_rfl) fun hw => ct_start ?_
 refine spQ ?_
 replace hw := nzQ hw
 have hM0 := hM; clear hM; obtain ⟨x1, hx2, hM⟩ := letk_opn hM0; clear hM0
 have hcx1 := cmU hx2
 refine callC_give hcx1 clQ clQ (fun hw3 => ?_)
 replace hw3 := nzQ hw3
 refine spQ ?_
 refine condC_intro (fun h4 => ?_) (fun h4 => ?_)
 ·rw [if_pos h4] at hM
  refine spQA h4 ?_
  have nh4 := nzQ h4
  try have hr5 := mpQ nh4
  subst hM
  exact retC_view (lfQA h4)
 ·rw [if_neg (ne_true h4)] at hM
  refine spQA h4 ?_
  have nh4 := nzQ h4
  try have hr6 := mpQ nh4
  refine guardC_f (fun h7 => ?_) (fun h7 => ?_)
  ·rw [if_neg (ne_true h7)] at hM
   refine spQA h7 ?_
   have nh7 := nzQ h7
   try have hr8 := mpQ nh7
   refine guardC_f (fun h9 => ?_) (fun h9 => ?_)
   ·rw [if_neg (ne_true h9)] at hM
    refine spQA h9 ?_
    have nh9 := nzQ h9
    try have hr10 := mpQ nh9
    refine guardC_f (fun h11 => ?_) (fun h11 => ?_)
    ·rw [if_neg (ne_true h11)] at hM
     refine spQA h11 ?_
     have nh11 := nzQ h11
     try have hr12 := mpQ nh11
     refine bindC_intro omQ ?_
     refine spQ ?_
     refine condC_intro (fun h13 => ?_) (fun h13 => ?_)
     ·rw [if_pos h13] at hM
      refine spQA h13 ?_
      have nh13 := nzQ h13
      try have hr14 := mpQ nh13
      subst hM
      exact retC_view (lfQA (And.intro h4 (And.intro h7 (And.intro h9 (And.intro h11 h13)))))
     ·rw [if_neg (ne_true h13)] at hM
      refine spQA h13 ?_
      have nh13 := nzQ h13
      try have hr15 := mpQ nh13
      have hM0 := hM; clear hM; obtain ⟨x16, hx17, hM⟩ := letk_opn hM0; clear hM0
      have hcx16 := cmH hx17 (tree_levels_ok  l (by (exact depth_ok ‹_ = tree_Depth _› (by assumption))))
      refine callC_give hcx16 clQ clQ (fun hw18 => ?_)
      replace hw18 := nzQ hw18
      refine spQ ?_
      subst hM
      exact retC_view (lfQA (And.intro h4 (And.intro h7 (And.intro h9 (And.intro h11 h13)))))
    ·rw [if_pos h11] at hM
     refine spQA h11 ?_
     have nh11 := nzQ h11
     try have hr19 := mpQ nh11
     subst hM
     exact retC_view (lfQA (And.intro h4 (And.intro h7 (And.intro h9 h11))))
   ·rw [if_pos h9] at hM
    refine spQA h9 ?_
    have nh9 := nzQ h9
    try have hr20 := mpQ nh9
    subst hM
    exact retC_view (lfQA (And.intro h4 (And.intro h7 h9)))
  ·rw [if_pos h7] at hM
   refine spQA h7 ?_
   have nh7 := nzQ h7
   try have hr21 := mpQ nh7
   subst hM
   exact retC_view (lfQA (And.intro h4 h7))
set_option maxHeartbeats 2000000 in
set_option maxRecDepth 100000 in
instance tree_Node_ok   (l : (List (List Int))) (level : Int) (index : Int)  : CM En (tree_Node l level index) 140 [.sl none 32 true (l.map e_arr40), .int .i64 level, .int .i64 index] (fun y => .tup [(e_arr40 y.1), .int .i64 y.2]) (fun _ => []) := by
 refine cmQ fun r hM => ?_
 rw [tree_Node.eq_1] at hM
 refine enterV En_ok En_mo noJ Tryz.func140 rfl Tryz.ntmps140 (by kernel_rfl) fun hw => ct_start ?_
 refine spQ ?_
 replace hw := nzQ hw
 have hM0 := hM; clear hM; obtain ⟨x1, hx2, hM⟩ := letk_opn hM0; clear hM0
 have hcx1 := cmU hx2
 refine callC_give hcx1 clQ clQ (fun hw3 => ?_)
 replace hw3 := nzQ hw3
 refine spQ ?_
 have hq4 := open_after hx2
 replace hq4 := nzQ hq4
 have hF := trueQ
 exact auQ
set_option maxHeartbeats 2000000 in
set_option maxRecDepth 100000 in
instance tree_Root_ok   (l : (List (List Int)))  : CM En (tree_Root l) 68 [.sl none 32 true (l.map e_arr40)] (fun y => .tup [(e_arr40 y.1), .int .i64 y.2]) (fun _ => []) := by
 refine cmQ fun r hM => ?_
 rw [tree_Root.eq_1] at hM
 refine enterV En_ok En_mo noJ Tryz.func68 rfl Tryz.ntmps68 (by kernel_rfl) fun hw => ct_start ?_
 refine spQ ?_
 replace hw := nzQ hw
 have hF := trueQ
 exact auQ
set_option maxHeartbeats 2000000 in
set_option maxRecDepth 100000 in
instance coin_Root_ok   (b : S_api_Bases) (l : (List Int))  : CM En (coin_Root b l) 15 [(e_api_Bases b), .sl none 1 false (l.map (V.int .i64))] (fun y => .tup [(e_arr40 y.1), .int .i64 y.2]) (fun _ => []) := by
 refine cmQ fun r hM => ?_
 rw [coin_Root.eq_1] at hM
 refine enterV En_ok En_mo noJ Tryz.func15 rfl Tryz.ntmps15 (by kernel_rfl) fun hw => ct_start ?_
 refine spQ ?_
 replace hw := nzQ hw
 have hF := trueQ
 exact auQ
set_option maxHeartbeats 2000000 in
set_option maxRecDepth 100000 in
instance specieref27_Depth_ok   (n_ : Int)  : CM En (specieref27_Depth n_) 22 [.int .i64 n_] (fun y => .int .i64 y) (fun _ => []) := by
 refine cmQ fun r hM => ?_
 rw [specieref27_Depth.eq_1] at hM
 refine enterV En_ok En_mo noJ Tryz.func22 rfl Tryz.ntmps22 (by kernel_rfl) fun hw => ct_start ?_
 refine spQ ?_
 replace hw := nzQ hw
 have hM0 := hM; clear hM; obtain ⟨f1, d1, hf1, hd1, hM⟩ := iter_opn hM0; clear hM0
 refine ct_loop (fun n S => ∃ p : Int, S = (⟨[(0, .int .i64 n_), (3, .int .i64 p)], [], 0⟩ : St) ∧ ((0 ≤ p) ∧ (p ≤ 11)) ∧ ((11 : Int) - p).toNat < n ∧ iter n f1 d1 p = r) (((11 : Int) - 0).toNat + 1) _ sbQ sbQ ⟨0, rfl, ⟨omQ, omQ⟩, (Nat.lt_succ_self _), hM⟩ ?_
 clear hM
 rintro n1 S ⟨p1, rfl, hfa1, hm1, hM⟩
 have hM0 := hM; clear hM; obtain ⟨ag1, hag1, hM⟩ := iter_step hM0 (by omega) hf1; clear hM0
 replace hfa1 := nzQ hfa1
 replace hm1 := nzQ hm1
 refine spQ ?_
 refine condC_intro (fun h2 => ?_) (fun h2 => ?_)
 ·rw [if_pos h2] at hM
  refine spQA h2 ?_
  have nh2 := nzQ h2
  try have hr3 := mpQ nh2
  refine bindC_intro omQ ?_
  refine spQ ?_
  refine condC_intro (fun h4 => ?_) (fun h4 => ?_)
  ·rw [if_pos h4] at hM
   refine spQA h4 ?_
   have nh4 := nzQ h4
   try have hr5 := mpQ nh4
   subst hM
   exact retC_view (lfQA (And.intro h2 h4))
  ·rw [if_neg (ne_true h4)] at hM
   refine spQA h4 ?_
   have nh4 := nzQ h4
   try have hr6 := mpQ nh4
   have ha7 : addI .i64 p1 1 = (p1 + 1) := add_ok omQ omQ
   try simp only [ha7]
   refine lp_intro (n1 - 1) _ (by omega) sbQ sbQ ⟨(p1 + 1), rfl, ⟨omQ, omQ⟩, omQ, iter_again hM hag1⟩
 ·rw [if_neg (ne_true h2)] at hM
  refine spQA h2 ?_
  have nh2 := nzQ h2
  try have hr8 := mpQ nh2
  subst hM
  exact retC_view (lfQA h2)
set_option maxHeartbeats 2000000 in
set_option maxRecDepth 100000 in
theorem specieref01_Mul_ok   (a_ : Int) (b : Int) (m : Int) (hp0 : 0 ≤ a_) (hp1 : a_ < m) (hp2 : 0 ≤ b) (hp3 : m < 2305843009213693952) : CM En (specieref01_Mul a_ b m) 144 [.int .i64 a_, .int .i64 b, .int .i64 m] (fun y => .int .i64 y) (fun _ => []) := by
 refine cmQ fun r hM => ?_
 rw [specieref01_Mul.eq_1] at hM
 refine enterV En_ok En_mo noJ Tryz.func144 rfl Tryz.ntmps144 (by kernel_rfl) fun hw => ct_start ?_
 refine spQ ?_
 replace hw := nzQ hw
 refine guardC_t (fun h1 => ?_) (fun h1 => ?_)
 ·rw [if_pos h1] at hM
  refine spQA h1 ?_
  have nh1 := nzQ h1
  try have hr2 := mpQ nh1
  refine condC_intro (fun h3 => ?_) (fun h3 => ?_)
  ·rw [if_pos h3] at hM
   refine spQA h3 ?_
   have nh3 := nzQ h3
   try have hr4 := mpQ nh3
   have hF := (And.intro h1 h3)
   exact auQ
  ·rw [if_neg (ne_true h3)] at hM
   refine spQA h3 ?_
   have nh3 := nzQ h3
   try have hr5 := mpQ nh3
   have hM0 := hM; clear hM; obtain ⟨f6, d6, hf6, hd6, hM⟩ := iter_opn hM0; clear hM0
   refine ct_loop (fun n S => ∃ p : Int × Int × Int, S = (⟨[(0, .int .i64 p.1), (1, .int .i64 p.2.1), (2, .int .i64 m), (7, .int .i64 p.2.2)], [], 0⟩ : St) ∧ ((0 ≤ p.1 ∧ p.1 < m ∧ 0 ≤ p.2.1 ∧ p.2.1 ≤ b ∧ 0 ≤ p.2.2 ∧ p.2.2 < m)) ∧ p.2.1.toNat < n ∧ iter n f6 d6 p = r) (b.toNat + 1) _ sbQ sbQ ⟨(a_, b, 0), rfl, by ((try dsimp only); omega), (Nat.lt_succ_self _), hM⟩ ?_
   clear hM
   rintro n6 S ⟨p6, rfl, hF4_0, hm6, hM⟩
   have hM0 := hM; clear hM; obtain ⟨ag6, hag6, hM⟩ := iter_step hM0 (by omega) hf6; clear hM0
   replace hm6 := nzQ hm6
   refine spQ ?_
   refine condC_intro (fun h7 => ?_) (fun h7 => ?_)
   ·rw [if_pos h7] at hM
    refine spQA h7 ?_
    have nh7 := nzQ h7
    try have hr8 := mpQ nh7
    have ha9 : remI .i64 p6.2.1 2 = (p6.2.1 % 2) := rem_ok omQ omQ
    try simp only [ha9]
    refine bindC_intro omQ ?_
    refine spQA ha9 ?_
    refine condC_intro (fun h10 => ?_) (fun h10 => ?_)
    ·rw [if_pos h10] at hM
     refine spQA (And.intro ha9 h10) ?_
     have nh10 := nzQ h10
     try have hr11 := mpQ nh10
     have ha12 : addI .i64 p6.2.2 p6.1 = (p6.2.2 + p6.1) := add_ok omQ omQ
     try simp only [ha12]
     refine bindC_intro omQ ?_
     refine spQA (And.intro ha9 ha12) ?_
     have ha13 : addI .i64 p6.1 p6.1 = (p6.1 + p6.1) := add_ok omQ omQ
     try simp only [ha13]
     refine bindC_intro omQ ?_
     refine spQA (And.intro ha9 (And.intro ha12 ha13)) ?_
     have ha14 : quoI .i64 p6.2.1 2 = (p6.2.1 / 2) := quo_ok omQ omQ
     try simp only [ha14]
     refine bindC_intro omQ ?_
     refine spQA (And.intro ha9 (And.intro ha12 (And.intro ha13 ha14))) ?_
     refine lp_intro (n6 - 1) _ (by omega) sbQ sbQ ⟨((remI .i64 (p6.1 + p6.1) m), (p6.2.1 / 2), (remI .i64 (p6.2.2 + p6.1) m)), rfl, by (clear hM; have h9 := rem_rngN (a := p6.1 + p6.1) (m := m) (by omega) (by omega); have h8 := rem_rngN (a := p6.2.2 + p6.1) (m := m) (by omega) (by omega); (try dsimp only); omega), omQ, iter_again hM hag6⟩
    ·rw [if_neg (ne_true h10)] at hM
     refine spQA (And.intro ha9 h10) ?_
     have nh10 := nzQ h10
     try have hr15 := mpQ nh10
     have ha16 : addI .i64 p6.1 p6.1 = (p6.1 + p6.1) := add_ok omQ omQ
     try simp only [ha16]
     refine bindC_intro omQ ?_
     refine spQA (And.intro ha9 ha16) ?_
     have ha17 : quoI .i64 p6.2.1 2 = (p6.2.1 / 2) := quo_ok omQ omQ
     try simp only [ha17]
     refine bindC_intro omQ ?_
     refine spQA (And.intro ha9 (And.intro ha16 ha17)) ?_
     refine lp_intro (n6 - 1) _ (by omega) sbQ sbQ ⟨((remI .i64 (p6.1 + p6.1) m), (p6.2.1 / 2), p6.2.2), rfl, by (clear hM; have h9 := rem_rngN (a := p6.1 + p6.1) (m := m) (by omega) (by omega); have h8 := rem_rngN (a := p6.2.2 + p6.1) (m := m) (by omega) (by omega); (try dsimp only); omega), omQ, iter_again hM hag6⟩
   ·rw [if_neg (ne_true h7)] at hM
    refine spQA h7 ?_
    have nh7 := nzQ h7
    try have hr18 := mpQ nh7
    subst hM
    exact retC_view (lfQA (And.intro h1 (And.intro h3 h7)))
 ·rw [if_neg (ne_true h1)] at hM
  refine spQA h1 ?_
  have nh1 := nzQ h1
  try have hr19 := mpQ nh1
  have hM0 := hM; clear hM; obtain ⟨f20, d20, hf20, hd20, hM⟩ := iter_opn hM0; clear hM0
  refine ct_loop (fun n S => ∃ p : Int × Int × Int, S = (⟨[(0, .int .i64 p.1), (1, .int .i64 p.2.1), (2, .int .i64 m), (7, .int .i64 p.2.2)], [], 0⟩ : St) ∧ ((0 ≤ p.1 ∧ p.1 < m ∧ 0 ≤ p.2.1 ∧ p.2.1 ≤ b ∧ 0 ≤ p.2.2 ∧ p.2.2 < m)) ∧ p.2.1.toNat < n ∧ iter n f20 d20 p = r) (b.toNat + 1) _ sbQ sbQ ⟨(a_, b, 0), rfl, by ((try dsimp only); omega), (Nat.lt_succ_self _), hM⟩ ?_
  clear hM
  rintro n20 S ⟨p20, rfl, hF4_0, hm20, hM⟩
  have hM0 := hM; clear hM; obtain ⟨ag20, hag20, hM⟩ := iter_step hM0 (by omega) hf20; clear hM0
  replace hm20 := nzQ hm20
  refine spQ ?_
  refine condC_intro (fun h21 => ?_) (fun h21 => ?_)
  ·rw [if_pos h21] at hM
   refine spQA h21 ?_
   have nh21 := nzQ h21
   try have hr22 := mpQ nh21
   have ha23 : remI .i64 p20.2.1 2 = (p20.2.1 % 2) := rem_ok omQ omQ
   try simp only [ha23]
   refine bindC_intro omQ ?_
   refine spQA ha23 ?_
   refine condC_intro (fun h24 => ?_) (fun h24 => ?_)
   ·rw [if_pos h24] at hM
    refine spQA (And.intro ha23 h24) ?_
    have nh24 := nzQ h24
    try have hr25 := mpQ nh24
    have ha26 : addI .i64 p20.2.2 p20.1 = (p20.2.2 + p20.1) := add_ok omQ omQ
    try simp only [ha26]
    refine bindC_intro omQ ?_
    refine spQA (And.intro ha23 ha26) ?_
    have ha27 : addI .i64 p20.1 p20.1 = (p20.1 + p20.1) := add_ok omQ omQ
    try simp only [ha27]
    refine bindC_intro omQ ?_
    refine spQA (And.intro ha23 (And.intro ha26 ha27)) ?_
    have ha28 : quoI .i64 p20.2.1 2 = (p20.2.1 / 2) := quo_ok omQ omQ
    try simp only [ha28]
    refine bindC_intro omQ ?_
    refine spQA (And.intro ha23 (And.intro ha26 (And.intro ha27 ha28))) ?_
    refine lp_intro (n20 - 1) _ (by omega) sbQ sbQ ⟨((remI .i64 (p20.1 + p20.1) m), (p20.2.1 / 2), (remI .i64 (p20.2.2 + p20.1) m)), rfl, by (clear hM; have h9 := rem_rngN (a := p20.1 + p20.1) (m := m) (by omega) (by omega); have h8 := rem_rngN (a := p20.2.2 + p20.1) (m := m) (by omega) (by omega); (try dsimp only); omega), omQ, iter_again hM hag20⟩
   ·rw [if_neg (ne_true h24)] at hM
    refine spQA (And.intro ha23 h24) ?_
    have nh24 := nzQ h24
    try have hr29 := mpQ nh24
    have ha30 : addI .i64 p20.1 p20.1 = (p20.1 + p20.1) := add_ok omQ omQ
    try simp only [ha30]
    refine bindC_intro omQ ?_
    refine spQA (And.intro ha23 ha30) ?_
    have ha31 : quoI .i64 p20.2.1 2 = (p20.2.1 / 2) := quo_ok omQ omQ
    try simp only [ha31]
    refine bindC_intro omQ ?_
    refine spQA (And.intro ha23 (And.intro ha30 ha31)) ?_
    refine lp_intro (n20 - 1) _ (by omega) sbQ sbQ ⟨((remI .i64 (p20.1 + p20.1) m), (p20.2.1 / 2), p20.2.2), rfl, by (clear hM; have h9 := rem_rngN (a := p20.1 + p20.1) (m := m) (by omega) (by omega); have h8 := rem_rngN (a := p20.2.2 + p20.1) (m := m) (by omega) (by omega); (try dsimp only); omega), omQ, iter_again hM hag20⟩
  ·rw [if_neg (ne_true h21)] at hM
   refine spQA h21 ?_
   have nh21 := nzQ h21
   try have hr32 := mpQ nh21
   subst hM
   exact retC_view (lfQA (And.intro h1 h21))
set_option maxHeartbeats 2000000 in
set_option maxRecDepth 100000 in
theorem specieref01_Pow_ok   (a_ : Int) (e_ : Int) (m : Int) (hp0 : 0 ≤ a_) (hp1 : a_ < m) (hp2 : 0 ≤ e_) (hp3 : m < 2305843009213693952) : CM En (specieref01_Pow a_ e_ m) 77 [.int .i64 a_, .int .i64 e_, .int .i64 m] (fun y => .int .i64 y) (fun _ => []) := by
 refine cmQ fun r hM => ?_
 rw [specieref01_Pow.eq_1] at hM
 refine enterV En_ok En_mo noJ Tryz.func77 rfl Tryz.ntmps77 (by kernel_rfl) fun hw => ct_start ?_
 refine spQ ?_
 replace hw := nzQ hw
 have h0_0 := rem1_rng (m := m) (by omega)
 refine bindC_intro omQ ?_
 refine spQ ?_
 have hM0 := hM; clear hM; obtain ⟨f1, d1, hf1, hd1, hM⟩ := iter_opn hM0; clear hM0
 refine ct_loop (fun n S => ∃ p : Int × Int × Int, S = (⟨[(0, .int .i64 p.1), (1, .int .i64 p.2.1), (2, .int .i64 m), (7, .int .i64 p.2.2)], [], 0⟩ : St) ∧ ((0 ≤ p.1) ∧ (p.1 < m) ∧ (0 ≤ p.2.1) ∧ (p.2.1 ≤ e_) ∧ (0 ≤ p.2.2) ∧ (p.2.2 < m)) ∧ p.2.1.toNat < n ∧ iter n f1 d1 p = r) (e_.toNat + 1) _ sbQ sbQ ⟨(a_, e_, (remI .i64 1 m)), rfl, ⟨omQ, omQ, omQ, omQ, omQ, omQ⟩, (Nat.lt_succ_self _), hM⟩ ?_
 clear hM
 rintro n1 S ⟨p1, rfl, hfa1, hm1, hM⟩
 have hM0 := hM; clear hM; obtain ⟨ag1, hag1, hM⟩ := iter_step hM0 (by omega) hf1; clear hM0
 replace hfa1 := nzQ hfa1
 replace hm1 := nzQ hm1
 refine spQ ?_
 refine condC_intro (fun h2 => ?_) (fun h2 => ?_)
 ·rw [if_pos h2] at hM
  refine spQA h2 ?_
  have nh2 := nzQ h2
  try have hr3 := mpQ nh2
  have ha4 : remI .i64 p1.2.1 2 = (p1.2.1 % 2) := rem_ok omQ omQ
  try simp only [ha4]
  refine bindC_intro omQ ?_
  refine spQA ha4 ?_
  refine condC_intro (fun h5 => ?_) (fun h5 => ?_)
  ·rw [if_pos h5] at hM
   refine spQA (And.intro ha4 h5) ?_
   have nh5 := nzQ h5
   try have hr6 := mpQ nh5
   have hM0 := hM; clear hM; obtain ⟨x7, hx8, hM⟩ := letk_opn hM0; clear hM0
   have hcx7 := cmH hx8 (specieref01_Mul_ok  (p1.2.2) (p1.1) m (by (exact pfQ)) (by (exact pfQ)) (by (exact pfQ)) (by (exact pfQ)))
   refine callC_give hcx7 (clQA ha4) (clQA ha4) (fun hw9 => ?_)
   replace hw9 := nzQ hw9
   refine spQA ha4 ?_
   have hq10 := rmul_rng hx8 (by omega) (by omega) (by omega)
   replace hq10 := nzQ hq10
   have hM0 := hM; clear hM; obtain ⟨x11, hx12, hM⟩ := letk_opn hM0; clear hM0
   have hcx11 := cmH hx12 (specieref01_Mul_ok  (p1.1) (p1.1) m (by (exact pfQ)) (by (exact pfQ)) (by (exact pfQ)) (by (exact pfQ)))
   refine callC_give hcx11 (clQA ha4) (clQA ha4) (fun hw13 => ?_)
   replace hw13 := nzQ hw13
   refine spQA ha4 ?_
   have hq14 := rmul_rng hx12 (by omega) (by omega) (by omega)
   replace hq14 := nzQ hq14
   have ha15 : quoI .i64 p1.2.1 2 = (p1.2.1 / 2) := quo_ok omQ omQ
   try simp only [ha15]
   have hF := (And.intro h2 (And.intro ha4 (And.intro h5 ha15)))
   exact auQ
  ·rw [if_neg (ne_true h5)] at hM
   refine spQA (And.intro ha4 h5) ?_
   have nh5 := nzQ h5
   try have hr16 := mpQ nh5
   have hM0 := hM; clear hM; obtain ⟨x17, hx18, hM⟩ := letk_opn hM0; clear hM0
   have hcx17 := cmH hx18 (specieref01_Mul_ok  (p1.1) (p1.1) m (by (exact pfQ)) (by (exact pfQ)) (by (exact pfQ)) (by (exact pfQ)))
   refine callC_give hcx17 (clQA ha4) (clQA ha4) (fun hw19 => ?_)
   replace hw19 := nzQ hw19
   refine spQA ha4 ?_
   have hq20 := rmul_rng hx18 (by omega) (by omega) (by omega)
   replace hq20 := nzQ hq20
   have ha21 : quoI .i64 p1.2.1 2 = (p1.2.1 / 2) := quo_ok omQ omQ
   try simp only [ha21]
   have hF := (And.intro h2 (And.intro ha4 (And.intro h5 ha21)))
   exact auQ
 ·rw [if_neg (ne_true h2)] at hM
  refine spQA h2 ?_
  have nh2 := nzQ h2
  try have hr22 := mpQ nh2
  subst hM
  exact retC_view (lfQA h2)
set_option maxHeartbeats 2000000 in
set_option maxRecDepth 100000 in
theorem specieref05_strong_ok   (n_ : Int) (a_ : Int) (hp0 : 0 ≤ a_) (hp1 : a_ < n_) (hp2 : 1 < n_) (hp3 : n_ < 2305843009213693952) : CM En (specieref05_strong n_ a_) 212 [.int .i64 n_, .int .i64 a_] (fun y => .bool y) (fun _ => []) := by
 refine cmQ fun r hM => ?_
 rw [specieref05_strong.eq_1] at hM
 refine enterV En_ok En_mo noJ Tryz.func212 rfl Tryz.ntmps212 (by kernel_rfl) fun hw => ct_start ?_
 refine spQ ?_
 replace hw := nzQ hw
 have ha1 : subI .i64 n_ 1 = (n_ - 1) := sub_ok omQ omQ
 try simp only [ha1]
 have hM0 := hM; clear hM; obtain ⟨f2, d2, hf2, hd2, hM⟩ := iter_opn hM0; clear hM0
 refine ct_loop (fun n S => ∃ p : Int × Int, S = (⟨[(0, .int .i64 n_), (1, .int .i64 a_), (5, .int .i64 p.1), (6, .int .i64 p.2)], [], 0⟩ : St) ∧ ((1 ≤ p.1) ∧ (p.1 < n_) ∧ (0 ≤ p.2) ∧ (p.2 + p.1 ≤ n_)) ∧ p.1.toNat < n ∧ iter n f2 d2 p = r) ((n_ - 1).toNat + 1) _ sbQ sbQ ⟨((n_ - 1), 0), rfl, ⟨omQ, omQ, omQ, omQ⟩, (Nat.lt_succ_self _), hM⟩ ?_
 clear hM
 rintro n2 S ⟨p2, rfl, hfa2, hm2, hM⟩
 have hM0 := hM; clear hM; obtain ⟨ag2, hag2, hM⟩ := iter_step hM0 (by omega) hf2; clear hM0
 replace hfa2 := nzQ hfa2
 replace hm2 := nzQ hm2
 refine spQA ha1 ?_
 have ha3 : remI .i64 p2.1 2 = (p2.1 % 2) := rem_ok omQ omQ
 try simp only [ha3]
 refine bindC_intro omQ ?_
 refine spQA (And.intro ha1 ha3) ?_
 refine condC_intro (fun h4 => ?_) (fun h4 => ?_)
 ·rw [if_pos h4] at hM
  refine spQA (And.intro ha1 (And.intro ha3 h4)) ?_
  have nh4 := nzQ h4
  try have hr5 := mpQ nh4
  have ha6 : quoI .i64 p2.1 2 = (p2.1 / 2) := quo_ok omQ omQ
  try simp only [ha6]
  refine bindC_intro omQ ?_
  refine spQA (And.intro ha1 (And.intro ha3 ha6)) ?_
  have ha7 : addI .i64 p2.2 1 = (p2.2 + 1) := add_ok omQ omQ
  try simp only [ha7]
  refine lp_intro (n2 - 1) _ (by omega) sbQ sbQ ⟨((p2.1 / 2), (p2.2 + 1)), rfl, ⟨omQ, omQ, omQ, omQ⟩, omQ, iter_again hM hag2⟩
 ·rw [if_neg (ne_true h4)] at hM
  refine spQA (And.intro ha1 (And.intro ha3 h4)) ?_
  have nh4 := nzQ h4
  try have hr8 := mpQ nh4
  have hM0 := hM; clear hM; obtain ⟨x9, hx10, hM⟩ := letk_opn hM0; clear hM0
  have hcx9 := cmH hx10 (specieref01_Pow_ok  a_ (p2.1) n_ (by (exact pfQ)) (by (exact pfQ)) (by (exact pfQ)) (by (exact pfQ)))
  refine callC_give hcx9 (clQA (And.intro ha1 ha3)) (clQA (And.intro ha1 ha3)) (fun hw11 => ?_)
  replace hw11 := nzQ hw11
  refine spQA (And.intro ha1 ha3) ?_
  have hq12 := rpow_rng hx10 (by omega) (by omega)
  replace hq12 := nzQ hq12
  refine guardC_f (fun h13 => ?_) (fun h13 => ?_)
  ·rw [if_neg (ne_true h13)] at hM
   refine spQA (And.intro ha1 (And.intro ha3 h13)) ?_
   have nh13 := nzQ h13
   try have hr14 := mpQ nh13
   refine condC_intro (fun h16 => ?_) (fun h16 => ?_)
   ·rw [if_pos h16] at hM
    refine spQA (And.intro ha1 (And.intro ha3 h16)) ?_
    have nh16 := nzQ h16
    try have hr17 := mpQ nh16
    subst hM
    exact retC_view (lfQA (And.intro ha1 (And.intro ha3 (And.intro h4 (And.intro h13 h16)))))
   ·rw [if_neg (ne_true h16)] at hM
    refine spQA (And.intro ha1 (And.intro ha3 h16)) ?_
    have nh16 := nzQ h16
    try have hr18 := mpQ nh16
    have hM0 := hM; clear hM; obtain ⟨f19, d19, hf19, hd19, hM⟩ := iter_opn hM0; clear hM0
    refine ct_loop (fun n S => ∃ p : Int × Int, S = (⟨[(0, .int .i64 n_), (6, .int .i64 p2.2), (7, .int .i64 p.1), (8, .int .i64 p.2)], [], 0⟩ : St) ∧ ((1 ≤ p.2) ∧ (p.2 ≤ p2.2 ∨ p.2 ≤ 1) ∧ (0 ≤ p.1) ∧ (p.1 < n_)) ∧ (p2.2 - p.2).toNat < n ∧ iter n f19 d19 p = r) ((p2.2 - 1).toNat + 1) _ sbQ sbQ ⟨(x9, 1), rfl, ⟨omQ, omQ, omQ, omQ⟩, (Nat.lt_succ_self _), hM⟩ ?_
    clear hM
    rintro n19 S ⟨p19, rfl, hfa19, hm19, hM⟩
    have hM0 := hM; clear hM; obtain ⟨ag19, hag19, hM⟩ := iter_step hM0 (by omega) hf19; clear hM0
    replace hfa19 := nzQ hfa19
    replace hm19 := nzQ hm19
    have ha19 : addI .i64 p19.2 1 = p19.2 + 1 := add_one omQ omQ
    refine spQA (And.intro ha1 (And.intro ha3 ha19)) ?_
    refine condC_intro (fun h20 => ?_) (fun h20 => ?_)
    ·rw [if_pos h20] at hM
     refine spQA (And.intro ha1 (And.intro ha3 (And.intro ha19 h20))) ?_
     have nh20 := nzQ h20
     try have hr21 := mpQ nh20
     have hM0 := hM; clear hM; obtain ⟨x22, hx23, hM⟩ := letk_opn hM0; clear hM0
     have hcx22 := cmH hx23 (specieref01_Mul_ok  (p19.1) (p19.1) n_ (by (exact pfQ)) (by (exact pfQ)) (by (exact pfQ)) (by (exact pfQ)))
     refine callC_give hcx22 (clQA (And.intro ha1 (And.intro ha3 ha19))) (clQA (And.intro ha1 (And.intro ha3 ha19))) (fun hw24 => ?_)
     replace hw24 := nzQ hw24
     refine spQA (And.intro ha1 (And.intro ha3 ha19)) ?_
     have hq25 := rmul_rng hx23 (by omega) (by omega) (by omega)
     replace hq25 := nzQ hq25
     have hF := (And.intro ha1 (And.intro ha3 (And.intro h4 (And.intro h13 (And.intro h16 (And.intro ha19 h20))))))
     exact auQ
    ·rw [if_neg (ne_true h20)] at hM
     refine spQA (And.intro ha1 (And.intro ha3 (And.intro ha19 h20))) ?_
     have nh20 := nzQ h20
     try have hr30 := mpQ nh20
     subst hM
     exact retC_view (lfQA (And.intro ha1 (And.intro ha3 (And.intro ha19 (And.intro h4 (And.intro h13 (And.intro h16 h20)))))))
  ·rw [if_pos h13] at hM
   refine spQA (And.intro ha1 (And.intro ha3 h13)) ?_
   have nh13 := nzQ h13
   try have hr31 := mpQ nh13
   subst hM
   exact retC_view (lfQA (And.intro ha1 (And.intro ha3 (And.intro h4 h13))))
set_option maxHeartbeats 2000000 in
set_option maxRecDepth 100000 in
theorem specieref05_Is_ok   (n_ : Int) (hp0 : n_ < 2305843009213693952) : CM En (specieref05_Is n_) 143 [.int .i64 n_] (fun y => .bool y) (fun _ => []) := by
 refine cmQ fun r hM => ?_
 rw [specieref05_Is.eq_1] at hM
 refine enterV En_ok En_mo noJ Tryz.func143 rfl Tryz.ntmps143 (by kernel_rfl) fun hw => ct_start ?_
 refine spQ ?_
 replace hw := nzQ hw
 refine condC_intro (fun h1 => ?_) (fun h1 => ?_)
 ·rw [if_pos h1] at hM
  refine spQA h1 ?_
  have nh1 := nzQ h1
  try have hr2 := mpQ nh1
  subst hM
  exact retC_view (lfQA h1)
 ·rw [if_neg (ne_true h1)] at hM
  refine spQA h1 ?_
  have nh1 := nzQ h1
  try have hr3 := mpQ nh1
  have hM0 := hM; clear hM; obtain ⟨f4, d4, hf4, hd4, hM⟩ := iter_opn hM0; clear hM0
  refine ct_loop (fun n S => ∃ p : Int, S = (⟨[(0, .int .i64 n_), (3, .own 0), (4, .int .i64 p)], [(0, .own 3 1 false (some false) (([2, 3, 5, 7, 11, 13, 17, 19, 23, 29, 31, 37] : List Int).map (V.int .i64)))], 1⟩ : St) ∧ (((0 ≤ p) ∧ (p ≤ (12 : Int))) ∧ (NoDiv n_ p)) ∧ ((12 : Int) - p).toNat < n ∧ iter n f4 d4 p = r) (((12 : Int) - 0).toNat + 1) _ sbQ sbQ ⟨0, rfl, ⟨⟨by (first | exact omQ | (clear hM; first | (have hk := base_rng (j := p4) (by omega) (by omega); exact omQ'))), by (first | exact omQ | (clear hM; first | (have hk := base_rng (j := p4) (by omega) (by omega); exact omQ')))⟩, by (exact NoDiv_zero)⟩, (Nat.lt_succ_self _), hM⟩ ?_
  clear hM
  rintro n4 S ⟨p4, rfl, ⟨hfa4, hF5_0⟩, hm4, hM⟩
  have hM0 := hM; clear hM; obtain ⟨ag4, hag4, hM⟩ := iter_step hM0 (by omega) hf4; clear hM0
  replace hfa4 := nzQ hfa4
  replace hm4 := nzQ hm4
  have ha4 : addI .i64 p4 1 = p4 + 1 := add_one (by (first | exact omQ | (clear hM; first | (have hk := base_rng (j := p4) (by omega) (by omega); exact omQ')))) (by (first | exact omQ | (clear hM; first | (have hk := base_rng (j := p4) (by omega) (by omega); exact omQ'))))
  refine spQA ha4 ?_
  refine condC_intro (fun h5 => ?_) (fun h5 => ?_)
  ·rw [if_pos h5] at hM
   refine spQA (And.intro ha4 h5) ?_
   have nh5 := nzQ h5
   try have hr6 := mpQ nh5
   refine bindC_intro (by (first | exact omQ | (clear hM; first | (have hk := base_rng (j := p4) (by omega) (by omega); exact omQ')))) ?_
   have he7 := fun d => elt_mp (l := ([2, 3, 5, 7, 11, 13, 17, 19, 23, 29, 31, 37] : List Int)) (f := (V.int .i64)) (i := p4) (by (first | exact omQ | (clear hM; first | (have hk := base_rng (j := p4) (by omega) (by omega); exact omQ')))) d
   refine spQA (And.intro ha4 he7) ?_
   refine bindC_intro (by (first | exact omQ | (clear hM; first | (have hk := base_rng (j := p4) (by omega) (by omega); exact omQ')))) ?_
   refine spQA (And.intro ha4 he7) ?_
   refine bindC_intro (by (first | exact omQ | (clear hM; first | (have hk := base_rng (j := p4) (by omega) (by omega); exact omQ')))) ?_
   refine spQA (And.intro ha4 he7) ?_
   refine condC_intro (fun h8 => ?_) (fun h8 => ?_)
   ·rw [if_pos h8] at hM
    refine spQA (And.intro ha4 (And.intro he7 h8)) ?_
    have nh8 := nzQ h8
    try have hr9 := mpQ nh8
    refine bindC_intro (by (first | exact omQ | (clear hM; first | (have hk := base_rng (j := p4) (by omega) (by omega); exact omQ')))) ?_
    refine spQA (And.intro ha4 he7) ?_
    refine bindC_intro (by (first | exact omQ | (clear hM; first | (have hk := base_rng (j := p4) (by omega) (by omega); exact omQ')))) ?_
    refine spQA (And.intro ha4 he7) ?_
    subst hM
    exact retC_view (lfQA (And.intro ha4 (And.intro he7 (And.intro h1 (And.intro h5 h8)))))
   ·rw [if_neg (ne_true h8)] at hM
    refine spQA (And.intro ha4 (And.intro he7 h8)) ?_
    have nh8 := nzQ h8
    try have hr10 := mpQ nh8
    refine lp_intro (n4 - 1) _ (by omega) sbQ sbQ ⟨(p4 + 1), rfl, ⟨⟨by (first | exact omQ | (clear hM; first | (have hk := base_rng (j := (p4 + 1)) (by omega) (by omega); exact omQ'))), by (first | exact omQ | (clear hM; first | (have hk := base_rng (j := (p4 + 1)) (by omega) (by omega); exact omQ')))⟩, by (clear hM; exact NoDiv_stepR hF5_0 (by omega) (by omega) (by omega) (by assumption))⟩, by (first | exact omQ | (clear hM; first | (have hk := base_rng (j := (p4 + 1)) (by omega) (by omega); exact omQ'))), iter_again hM hag4⟩
  ·rw [if_neg (ne_true h5)] at hM
   refine spQA (And.intro ha4 h5) ?_
   have nh5 := nzQ h5
   try have hr11 := mpQ nh5
   refine condC_intro (fun h12 => ?_) (fun h12 => ?_)
   ·rw [if_pos h12] at hM
    refine spQA (And.intro ha4 h12) ?_
    have nh12 := nzQ h12
    try have hr13 := mpQ nh12
    exact False.elim (by (clear hM; omega))
   ·rw [if_neg (ne_true h12)] at hM
    refine spQA (And.intro ha4 h12) ?_
    have nh12 := nzQ h12
    try have hr14 := mpQ nh12
    have hM0 := hM; clear hM; obtain ⟨f15, d15, hf15, hd15, hM⟩ := iter_opn hM0; clear hM0
    refine ct_loop (fun n S => ∃ p : Int, S = (⟨[(0, .int .i64 n_), (3, .own 0), (5, .int .i64 p)], [(0, .own 3 1 false (some false) (([2, 3, 5, 7, 11, 13, 17, 19, 23, 29, 31, 37] : List Int).map (V.int .i64)))], 1⟩ : St) ∧ (((0 ≤ p) ∧ (p ≤ (12 : Int))) ∧ (37 < n_)) ∧ ((12 : Int) - p).toNat < n ∧ iter n f15 d15 p = r) (((12 : Int) - 0).toNat + 1) _ sbQ sbQ ⟨0, rfl, ⟨⟨by (first | exact omQ | (clear hM; first | (have hk := base_rng (j := p15) (by omega) (by omega); exact omQ'))), by (first | exact omQ | (clear hM; first | (have hk := base_rng (j := p15) (by omega) (by omega); exact omQ')))⟩, by (clear hM; exact NoDiv_all hF5_0 (by omega) (by omega))⟩, (Nat.lt_succ_self _), hM⟩ ?_
    clear hM
    rintro n15 S ⟨p15, rfl, ⟨hfa15, hF12_0⟩, hm15, hM⟩
    have hM0 := hM; clear hM; obtain ⟨ag15, hag15, hM⟩ := iter_step hM0 (by omega) hf15; clear hM0
    replace hfa15 := nzQ hfa15
    replace hm15 := nzQ hm15
    have ha15 : addI .i64 p15 1 = p15 + 1 := add_one (by (first | exact omQ | (clear hM; first | (have hk := base_rng (j := p15) (by omega) (by omega); exact omQ')))) (by (first | exact omQ | (clear hM; first | (have hk := base_rng (j := p15) (by omega) (by omega); exact omQ'))))
    refine spQA (And.intro ha4 ha15) ?_
    refine condC_intro (fun h16 => ?_) (fun h16 => ?_)
    ·rw [if_pos h16] at hM
     refine spQA (And.intro ha4 (And.intro ha15 h16)) ?_
     have nh16 := nzQ h16
     try have hr17 := mpQ nh16
     refine bindC_intro (by (first | exact omQ | (clear hM; first | (have hk := base_rng (j := p15) (by omega) (by omega); exact omQ')))) ?_
     have he18 := fun d => elt_mp (l := ([2, 3, 5, 7, 11, 13, 17, 19, 23, 29, 31, 37] : List Int)) (f := (V.int .i64)) (i := p15) (by (first | exact omQ | (clear hM; first | (have hk := base_rng (j := p15) (by omega) (by omega); exact omQ')))) d
     refine spQA (And.intro ha4 (And.intro ha15 he18)) ?_
     refine bindC_intro (by (first | exact omQ | (clear hM; first | (have hk := base_rng (j := p15) (by omega) (by omega); exact omQ')))) ?_
     refine spQA (And.intro ha4 (And.intro ha15 he18)) ?_
     have hM0 := hM; clear hM; obtain ⟨x19, hx20, hM⟩ := letk_opn hM0; clear hM0
     have hcx19 := cmH hx20 (specieref05_strong_ok  n_ (gt ([2, 3, 5, 7, 11, 13, 17, 19, 23, 29, 31, 37] : List Int) p15) (by (first | omega | (have hk := base_rng (j := p15) (by omega) (by omega); omega))) (by (first | omega | (have hk := base_rng (j := p15) (by omega) (by omega); omega))) (by (first | omega | (have hk := base_rng (j := p15) (by omega) (by omega); omega))) (by (first | omega | (have hk := base_rng (j := p15) (by omega) (by omega); omega))))
     refine callC_give hcx19 (clQA (And.intro ha4 (And.intro ha15 he18))) (clQA (And.intro ha4 (And.intro ha15 he18))) (fun hw21 => ?_)
     replace hw21 := nzQ hw21
     refine spQA (And.intro ha4 (And.intro ha15 he18)) ?_
     refine condC_intro (fun h22 => ?_) (fun h22 => ?_)
     ·rw [if_pos h22] at hM
      refine spQA (And.intro ha4 (And.intro ha15 (And.intro he18 h22))) ?_
      have nh22 := nzQ h22
      try have hr23 := mpQ nh22
      subst hM
      exact retC_view (lfQA (And.intro ha4 (And.intro ha15 (And.intro he18 (And.intro h1 (And.intro h5 (And.intro h12 (And.intro h16 h22))))))))
     ·rw [if_neg (ne_true h22)] at hM
      refine spQA (And.intro ha4 (And.intro ha15 (And.intro he18 h22))) ?_
      have nh22 := nzQ h22
      try have hr24 := mpQ nh22
      refine lp_intro (n15 - 1) _ (by omega) sbQ sbQ ⟨(p15 + 1), rfl, ⟨⟨by (first | exact omQ | (clear hM; first | (have hk := base_rng (j := (p15 + 1)) (by omega) (by omega); exact omQ'))), by (first | exact omQ | (clear hM; first | (have hk := base_rng (j := (p15 + 1)) (by omega) (by omega); exact omQ')))⟩, by (clear hM; exact hF12_0)⟩, by (first | exact omQ | (clear hM; first | (have hk := base_rng (j := (p15 + 1)) (by omega) (by omega); exact omQ'))), iter_again hM hag15⟩
    ·rw [if_neg (ne_true h16)] at hM
     refine spQA (And.intro ha4 (And.intro ha15 h16)) ?_
     have nh16 := nzQ h16
     try have hr25 := mpQ nh16
     subst hM
     exact retC_view (lfQA (And.intro ha4 (And.intro ha15 (And.intro h1 (And.intro h5 (And.intro h12 h16))))))
set_option maxHeartbeats 2000000 in
set_option maxRecDepth 100000 in
instance specieref10_Valid_ok   (g : S_api_Group)  : CM En (specieref10_Valid g) 75 [.agg [.int .i64 g.P, .int .i64 g.Q, .int .i64 g.G]] (fun y => .bool y) (fun _ => []) := by
 refine cmQ fun r hM => ?_
 rw [specieref10_Valid.eq_1] at hM
 refine enterV En_ok En_mo noJ Tryz.func75 rfl Tryz.ntmps75 (by kernel_rfl) fun hw => ct_start ?_
 refine spQ ?_
 replace hw := nzQ hw
 refine guardC_f (fun h1 => ?_) (fun h1 => ?_)
 ·rw [if_neg (ne_true h1)] at hM
  refine spQA h1 ?_
  have nh1 := nzQ h1
  try have hr2 := mpQ nh1
  refine guardC_f (fun h3 => ?_) (fun h3 => ?_)
  ·rw [if_neg (ne_true h3)] at hM
   refine spQA h3 ?_
   have nh3 := nzQ h3
   try have hr4 := mpQ nh3
   refine guardC_f (fun h5 => ?_) (fun h5 => ?_)
   ·rw [if_neg (ne_true h5)] at hM
    refine spQA h5 ?_
    have nh5 := nzQ h5
    try have hr6 := mpQ nh5
    refine bindC_intro omQ ?_
    refine spQ ?_
    refine guardC_f (fun h7 => ?_) (fun h7 => ?_)
    ·rw [if_neg (ne_true h7)] at hM
     refine spQA h7 ?_
     have nh7 := nzQ h7
     try have hr8 := mpQ nh7
     refine bindC_intro omQ ?_
     refine spQ ?_
     refine guardC_f (fun h9 => ?_) (fun h9 => ?_)
     ·rw [if_neg (ne_true h9)] at hM
      refine spQA h9 ?_
      have nh9 := nzQ h9
      try have hr10 := mpQ nh9
      refine guardC_f (fun h11 => ?_) (fun h11 => ?_)
      ·rw [if_neg (ne_true h11)] at hM
       refine spQA h11 ?_
       have nh11 := nzQ h11
       try have hr12 := mpQ nh11
       refine condC_intro (fun h13 => ?_) (fun h13 => ?_)
       ·rw [if_pos h13] at hM
        refine spQA h13 ?_
        have nh13 := nzQ h13
        try have hr14 := mpQ nh13
        subst hM
        exact retC_view (lfQA (And.intro h1 (And.intro h3 (And.intro h5 (And.intro h7 (And.intro h9 (And.intro h11 h13)))))))
       ·rw [if_neg (ne_true h13)] at hM
        refine spQA h13 ?_
        have nh13 := nzQ h13
        try have hr15 := mpQ nh13
        have hM0 := hM; clear hM; obtain ⟨x16, hx17, hM⟩ := letk_opn hM0; clear hM0
        have hcx16 := cmH hx17 (specieref05_Is_ok  (g.P) (by (first | omega | (refine q_le (p := g.P) ?_ ?_ ?_ ?_ <;> first | omega | assumption))))
        refine callC_give hcx16 clQ clQ (fun hw18 => ?_)
        replace hw18 := nzQ hw18
        refine spQ ?_
        refine guardC_t (fun h19 => ?_) (fun h19 => ?_)
        ·subst h19
         rw [if_pos rfl] at hM
         refine spQ ?_
         have hM0 := hM; clear hM; obtain ⟨x20, hx21, hM⟩ := letk_opn hM0; clear hM0
         have hcx20 := cmH hx21 (specieref05_Is_ok  (g.Q) (by (first | omega | (refine q_le (p := g.P) ?_ ?_ ?_ ?_ <;> first | omega | assumption))))
         refine callC_give hcx20 clQ clQ (fun hw22 => ?_)
         replace hw22 := nzQ hw22
         refine spQ ?_
         refine guardC_t (fun h23 => ?_) (fun h23 => ?_)
         ·subst h23
          rw [if_pos rfl] at hM
          refine spQ ?_
          have hM0 := hM; clear hM; obtain ⟨x24, hx25, hM⟩ := letk_opn hM0; clear hM0
          have hcx24 := cmH hx25 (specieref01_Pow_ok  (g.G) (g.Q) (g.P) (by (first | omega | assumption)) (by (first | omega | assumption)) (by (first | omega | assumption)) (by (first | omega | assumption)))
          refine callC_give hcx24 clQ clQ (fun hw26 => ?_)
          replace hw26 := nzQ hw26
          refine spQ ?_
          subst hM
          exact retC_view (lfQA (And.intro h1 (And.intro h3 (And.intro h5 (And.intro h7 (And.intro h9 (And.intro h11 h13)))))))
         ·subst h23
          rw [if_neg (by decide)] at hM
          refine spQ ?_
          subst hM
          exact retC_view (lfQA (And.intro h1 (And.intro h3 (And.intro h5 (And.intro h7 (And.intro h9 (And.intro h11 h13)))))))
        ·subst h19
         rw [if_neg (by decide)] at hM
         refine spQ ?_
         subst hM
         exact retC_view (lfQA (And.intro h1 (And.intro h3 (And.intro h5 (And.intro h7 (And.intro h9 (And.intro h11 h13)))))))
      ·rw [if_pos h11] at hM
       refine spQA h11 ?_
       have nh11 := nzQ h11
       try have hr27 := mpQ nh11
       subst hM
       exact retC_view (lfQA (And.intro h1 (And.intro h3 (And.intro h5 (And.intro h7 (And.intro h9 h11))))))
     ·rw [if_pos h9] at hM
      refine spQA h9 ?_
      have nh9 := nzQ h9
      try have hr28 := mpQ nh9
      subst hM
      exact retC_view (lfQA (And.intro h1 (And.intro h3 (And.intro h5 (And.intro h7 h9)))))
    ·rw [if_pos h7] at hM
     refine spQA h7 ?_
     have nh7 := nzQ h7
     try have hr29 := mpQ nh7
     subst hM
     exact retC_view (lfQA (And.intro h1 (And.intro h3 (And.intro h5 h7))))
   ·rw [if_pos h5] at hM
    refine spQA h5 ?_
    have nh5 := nzQ h5
    try have hr30 := mpQ nh5
    subst hM
    exact retC_view (lfQA (And.intro h1 (And.intro h3 h5)))
  ·rw [if_pos h3] at hM
   refine spQA h3 ?_
   have nh3 := nzQ h3
   try have hr31 := mpQ nh3
   subst hM
   exact retC_view (lfQA (And.intro h1 h3))
 ·rw [if_pos h1] at hM
  refine spQA h1 ?_
  have nh1 := nzQ h1
  try have hr32 := mpQ nh1
  subst hM
  exact retC_view (lfQA h1)
set_option maxHeartbeats 2000000 in
set_option maxRecDepth 100000 in
theorem specieref10_Member_ok   (g : S_api_Group) (x_ : Int) (hp0 : 3 ≤ g.Q) (hp1 : g.P < 2305843009213693952) : CM En (specieref10_Member g x_) 25 [.agg [.int .i64 g.P, .int .i64 g.Q, .int .i64 g.G], .int .i64 x_] (fun y => .bool y) (fun _ => []) := by
 refine cmQ fun r hM => ?_
 rw [specieref10_Member.eq_1] at hM
 refine enterV En_ok En_mo noJ Tryz.func25 rfl Tryz.ntmps25 (by kernel_rfl) fun hw => ct_start ?_
 refine spQ ?_
 replace hw := nzQ hw
 refine guardC_t (fun h1 => ?_) (fun h1 => ?_)
 ·rw [if_pos h1] at hM
  refine spQA h1 ?_
  have nh1 := nzQ h1
  try have hr2 := mpQ nh1
  refine guardC_t (fun h3 => ?_) (fun h3 => ?_)
  ·rw [if_pos h3] at hM
   refine spQA h3 ?_
   have nh3 := nzQ h3
   try have hr4 := mpQ nh3
   have hM0 := hM; clear hM; obtain ⟨x5, hx6, hM⟩ := letk_opn hM0; clear hM0
   have hcx5 := cmH hx6 (specieref01_Pow_ok  x_ (g.Q) (g.P) (by (exact pfQ)) (by (exact pfQ)) (by (exact pfQ)) (by (exact pfQ)))
   refine callC_give hcx5 clQ clQ (fun hw7 => ?_)
   replace hw7 := nzQ hw7
   refine spQ ?_
   subst hM
   exact retC_view (lfQA (And.intro h1 h3))
  ·rw [if_neg (ne_true h3)] at hM
   refine spQA h3 ?_
   have nh3 := nzQ h3
   try have hr8 := mpQ nh3
   subst hM
   exact retC_view (lfQA (And.intro h1 h3))
 ·rw [if_neg (ne_true h1)] at hM
  refine spQA h1 ?_
  have nh1 := nzQ h1
  try have hr9 := mpQ nh1
  subst hM
  exact retC_view (lfQA h1)
set_option maxHeartbeats 2000000 in
set_option maxRecDepth 100000 in
instance specieref11_Valid_ok   (b : S_api_Bases)  : CM En (specieref11_Valid b) 20 [(e_api_Bases b)] (fun y => .bool y) (fun _ => []) := by
 refine cmQ fun r hM => ?_
 rw [specieref11_Valid.eq_1] at hM
 refine enterV En_ok En_mo noJ Tryz.func20 rfl Tryz.ntmps20 (by kernel_rfl) fun hw => ct_start ?_
 refine spQ ?_
 replace hw := nzQ hw
 have hM0 := hM; clear hM; obtain ⟨x1, hx2, hM⟩ := letk_opn hM0; clear hM0
 have hcx1 := cmU hx2
 refine callC_give hcx1 clQ clQ (fun hw3 => ?_)
 replace hw3 := nzQ hw3
 refine spQ ?_
 have hq4 := nzQ (cfU hx2)
 refine guardC_t (fun h5 => ?_) (fun h5 => ?_)
 ·subst h5
  rw [if_pos rfl] at hM
  refine spQ ?_
  try have hr6 := mpQ (a := true = true) rfl
  refine guardC_t (fun h7 => ?_) (fun h7 => ?_)
  ·rw [if_pos h7] at hM
   refine spQA h7 ?_
   have nh7 := nzQ h7
   try have hr8 := mpQ nh7
   refine guardC_t (fun h9 => ?_) (fun h9 => ?_)
   ·rw [if_pos h9] at hM
    refine spQA h9 ?_
    have nh9 := nzQ h9
    try have hr10 := mpQ nh9
    refine guardC_t (fun h11 => ?_) (fun h11 => ?_)
    ·rw [if_pos h11] at hM
     refine spQA h11 ?_
     have nh11 := nzQ h11
     try have hr12 := mpQ nh11
     have hM0 := hM; clear hM; obtain ⟨x13, hx14, hM⟩ := letk_opn hM0; clear hM0
     have hcx13 := cmH hx14 (specieref10_Member_ok  (b.Group) (b.G1) (by (exact pfQ)) (by (exact pfQ)))
     refine callC_give hcx13 clQ clQ (fun hw15 => ?_)
     replace hw15 := nzQ hw15
     refine spQ ?_
     have hq16 := nzQ (cfU hx14)
     refine guardC_t (fun h17 => ?_) (fun h17 => ?_)
     ·subst h17
      rw [if_pos rfl] at hM
      refine spQ ?_
      try have hr18 := mpQ (a := true = true) rfl
      have hM0 := hM; clear hM; obtain ⟨x19, hx20, hM⟩ := letk_opn hM0; clear hM0
      have hcx19 := cmH hx20 (specieref10_Member_ok  (b.Group) (b.G2) (by (exact pfQ)) (by (exact pfQ)))
      refine callC_give hcx19 clQ clQ (fun hw21 => ?_)
      replace hw21 := nzQ hw21
      refine spQ ?_
      have hq22 := nzQ (cfU hx20)
      refine guardC_t (fun h23 => ?_) (fun h23 => ?_)
      ·subst h23
       rw [if_pos rfl] at hM
       refine spQ ?_
       try have hr24 := mpQ (a := true = true) rfl
       have hM0 := hM; clear hM; obtain ⟨x25, hx26, hM⟩ := letk_opn hM0; clear hM0
       have hcx25 := cmH hx26 (specieref10_Member_ok  (b.Group) (b.H) (by (exact pfQ)) (by (exact pfQ)))
       refine callC_give hcx25 clQ clQ (fun hw27 => ?_)
       replace hw27 := nzQ hw27
       refine spQ ?_
       have hq28 := nzQ (cfU hx26)
       subst hM
       exact retC_view (lfQA (And.intro h7 (And.intro h9 h11)))
      ·subst h23
       rw [if_neg (by decide)] at hM
       refine spQ ?_
       subst hM
       exact retC_view (lfQA (And.intro h7 (And.intro h9 h11)))
     ·subst h17
      rw [if_neg (by decide)] at hM
      refine spQ ?_
      subst hM
      exact retC_view (lfQA (And.intro h7 (And.intro h9 h11)))
    ·rw [if_neg (ne_true h11)] at hM
     refine spQA h11 ?_
     have nh11 := nzQ h11
     try have hr29 := mpQ nh11
     subst hM
     exact retC_view (lfQA (And.intro h7 (And.intro h9 h11)))
   ·rw [if_neg (ne_true h9)] at hM
    refine spQA h9 ?_
    have nh9 := nzQ h9
    try have hr30 := mpQ nh9
    subst hM
    exact retC_view (lfQA (And.intro h7 h9))
  ·rw [if_neg (ne_true h7)] at hM
   refine spQA h7 ?_
   have nh7 := nzQ h7
   try have hr31 := mpQ nh7
   subst hM
   exact retC_view (lfQA h7)
 ·subst h5
  rw [if_neg (by decide)] at hM
  refine spQ ?_
  subst hM
  exact retC_view lfQ
set_option maxHeartbeats 2000000 in
set_option maxRecDepth 100000 in
theorem specieref01_Reduce_ok   (a_ : Int) (m : Int) (hp0 : 1 ≤ m) (hp1 : m < 2305843009213693952) : CM En (specieref01_Reduce a_ m) 141 [.int .i64 a_, .int .i64 m] (fun y => .int .i64 y) (fun _ => []) := by
 refine cmQ fun r hM => ?_
 rw [specieref01_Reduce.eq_1] at hM
 refine enterV En_ok En_mo noJ Tryz.func141 rfl Tryz.ntmps141 (by kernel_rfl) fun hw => ct_start ?_
 refine spQ ?_
 replace hw := nzQ hw
 have hF := trueQ
 exact auQ
set_option maxHeartbeats 2000000 in
set_option maxRecDepth 100000 in
theorem specieref10_Power_ok   (g : S_api_Group) (a_ : Int) (e_ : Int) (hp0 : 3 ≤ g.Q) (hp1 : g.Q < 2305843009213693952) (hp2 : g.P < 2305843009213693952) (hp3 : 0 ≤ a_) (hp4 : a_ < g.P) : CM En (specieref10_Power g a_ e_) 72 [.agg [.int .i64 g.P, .int .i64 g.Q, .int .i64 g.G], .int .i64 a_, .int .i64 e_] (fun y => .int .i64 y) (fun _ => []) := by
 refine cmQ fun r hM => ?_
 rw [specieref10_Power.eq_1] at hM
 refine enterV En_ok En_mo noJ Tryz.func72 rfl Tryz.ntmps72 (by kernel_rfl) fun hw => ct_start ?_
 refine spQ ?_
 replace hw := nzQ hw
 refine ct_draw 15 7 [7, 8, 9, 10, 11, 12, 13] [] ([[], [], [], [2], [1, 2, 3], [], [5]] ++ [List.range 7, List.range 8]) [] (by kernel_rfl) (by exact alQ) ?_
 refine spQ ?_
 have hM0 := hM; clear hM; obtain ⟨x1, hx2, hM⟩ := letk_opn hM0; clear hM0
 have hcx1 := cmH hx2 (specieref01_Reduce_ok  e_ (g.Q) (by (exact pfQ)) (by (exact pfQ)))
 refine hcallC_give hcx1 clQ clQ ?_
 refine spQ ?_
 have hq3 := rred_rng hx2 (by omega) (by omega)
 replace hq3 := nzQ hq3
 have hM0 := hM; clear hM; obtain ⟨x4, hx5, hM⟩ := letk_opn hM0; clear hM0
 have hcx4 := cmH hx5 (specieref01_Pow_ok  a_ x1 (g.P) (by (exact pfQ)) (by (exact pfQ)) (by (exact pfQ)) (by (exact pfQ)))
 refine callC_give hcx4 clQ clQ (fun hw6 => ?_)
 replace hw6 := nzQ hw6
 refine spQ ?_
 subst hM
 exact retC_view lfQ
set_option maxHeartbeats 2000000 in
set_option maxRecDepth 100000 in
theorem specieref10_Mul_ok   (g : S_api_Group) (a_ : Int) (b : Int) (hp0 : 0 ≤ a_) (hp1 : a_ < g.P) (hp2 : 0 ≤ b) (hp3 : g.P < 2305843009213693952) : CM En (specieref10_Mul g a_ b) 142 [.agg [.int .i64 g.P, .int .i64 g.Q, .int .i64 g.G], .int .i64 a_, .int .i64 b] (fun y => .int .i64 y) (fun _ => []) := by
 refine cmQ fun r hM => ?_
 rw [specieref10_Mul.eq_1] at hM
 refine enterV En_ok En_mo noJ Tryz.func142 rfl Tryz.ntmps142 (by kernel_rfl) fun hw => ct_start ?_
 refine spQ ?_
 replace hw := nzQ hw
 have hM0 := hM; clear hM; obtain ⟨x1, hx2, hM⟩ := letk_opn hM0; clear hM0
 have hcx1 := cmH hx2 (specieref01_Mul_ok  a_ b (g.P) (by (exact pfQ)) (by (exact pfQ)) (by (exact pfQ)) (by (exact pfQ)))
 refine callC_give hcx1 clQ clQ (fun hw3 => ?_)
 replace hw3 := nzQ hw3
 refine spQ ?_
 subst hM
 exact retC_view lfQ
set_option maxHeartbeats 2000000 in
set_option maxRecDepth 100000 in
theorem specieref31_pair_ok   (b : S_api_Bases) (x_ : Int) (y : Int) (hp0 : 3 ≤ b.Group.Q) (hp1 : b.Group.P < 2305843009213693952) (hp2 : b.Group.Q < b.Group.P) (hp3 : 0 ≤ b.G1) (hp4 : b.G1 < b.Group.P) (hp5 : 0 ≤ b.G2) (hp6 : b.G2 < b.Group.P) : CM En (specieref31_pair b x_ y) 74 [(e_api_Bases b), .int .i64 x_, .int .i64 y] (fun y => .int .i64 y) (fun _ => []) := by
 refine cmQ fun r hM => ?_
 rw [specieref31_pair.eq_1] at hM
 refine enterV En_ok En_mo noJ Tryz.func74 rfl Tryz.ntmps74 (by kernel_rfl) fun hw => ct_start ?_
 refine spQ ?_
 replace hw := nzQ hw
 refine ct_draw 22 11 [10, 11, 12, 13, 14, 15, 16, 17, 18, 19, 20] [] ([[], [], [], [2], [], [1, 2, 3, 4], [], [], [7], [], [6, 7, 8, 9]] ++ [List.range 11, List.range 12]) [] (by kernel_rfl) (by exact alQ) ?_
 refine spQ ?_
 have hM0 := hM; clear hM; obtain ⟨x1, hx2, hM⟩ := letk_opn hM0; clear hM0
 have hcx1 := cmH hx2 (specieref10_Power_ok  (b.Group) (b.G1) x_ (by (exact pfQ)) (by (exact pfQ)) (by (exact pfQ)) (by (exact pfQ)) (by (exact pfQ)))
 refine hcallC_give hcx1 clQ clQ ?_
 refine spQ ?_
 have hq3 := rpower_rng hx2 (by omega) (by omega)
 replace hq3 := nzQ hq3
 have hM0 := hM; clear hM; obtain ⟨x4, hx5, hM⟩ := letk_opn hM0; clear hM0
 have hcx4 := cmH hx5 (specieref10_Power_ok  (b.Group) (b.G2) y (by (exact pfQ)) (by (exact pfQ)) (by (exact pfQ)) (by (exact pfQ)) (by (exact pfQ)))
 refine hcallC_give hcx4 clQ clQ ?_
 refine spQ ?_
 have hq6 := rpower_rng hx5 (by omega) (by omega)
 replace hq6 := nzQ hq6
 have hM0 := hM; clear hM; obtain ⟨x7, hx8, hM⟩ := letk_opn hM0; clear hM0
 have hcx7 := cmH hx8 (specieref10_Mul_ok  (b.Group) x1 x4 (by (exact pfQ)) (by (exact pfQ)) (by (exact pfQ)) (by (exact pfQ)))
 refine callC_give hcx7 clQ clQ (fun hw9 => ?_)
 replace hw9 := nzQ hw9
 refine spQ ?_
 subst hM
 exact retC_view lfQ
set_option maxHeartbeats 2000000 in
set_option maxRecDepth 100000 in
theorem specieref31_Message_ok   (b : S_api_Bases) (u : Int) (hp0 : 3 ≤ b.Group.Q) (hp1 : b.Group.P < 2305843009213693952) (hp2 : b.Group.Q < b.Group.P) (hp3 : 0 ≤ b.G1) (hp4 : b.G1 < b.Group.P) (hp5 : 0 ≤ b.G2) (hp6 : b.G2 < b.Group.P) : CM En (specieref31_Message b u) 73 [(e_api_Bases b), .int .i64 u] (fun y => .int .i64 y) (fun _ => []) := by
 refine cmQ fun r hM => ?_
 rw [specieref31_Message.eq_1] at hM
 refine enterV En_ok En_mo noJ Tryz.func73 rfl Tryz.ntmps73 (by kernel_rfl) fun hw => ct_start ?_
 refine spQ ?_
 replace hw := nzQ hw
 have hM0 := hM; clear hM; obtain ⟨x1, hx2, hM⟩ := letk_opn hM0; clear hM0
 have hcx1 := cmH hx2 (specieref31_pair_ok  b u 1 (by (exact pfQ)) (by (exact pfQ)) (by (exact pfQ)) (by (exact pfQ)) (by (exact pfQ)) (by (exact pfQ)) (by (exact pfQ)))
 refine callC_give hcx1 clQ clQ (fun hw3 => ?_)
 replace hw3 := nzQ hw3
 refine spQ ?_
 subst hM
 exact retC_view lfQ
set_option maxHeartbeats 2000000 in
set_option maxRecDepth 100000 in
theorem specieref31_User_ok   (b : S_api_Bases) (u : Int) (hp0 : 3 ≤ b.Group.Q) (hp1 : b.Group.P < 2305843009213693952) (hp2 : b.Group.Q < b.Group.P) (hp3 : 0 ≤ b.G1) (hp4 : b.G1 < b.Group.P) (hp5 : 0 ≤ b.G2) (hp6 : b.G2 < b.Group.P) : CM En (specieref31_User b u) 69 [(e_api_Bases b), .int .i64 u] (fun y => .bool y) (fun _ => []) := by
 refine cmQ fun r hM => ?_
 rw [specieref31_User.eq_1] at hM
 refine enterV En_ok En_mo noJ Tryz.func69 rfl Tryz.ntmps69 (by kernel_rfl) fun hw => ct_start ?_
 refine spQ ?_
 replace hw := nzQ hw
 refine guardC_t (fun h1 => ?_) (fun h1 => ?_)
 ·rw [if_pos h1] at hM
  refine spQA h1 ?_
  have nh1 := nzQ h1
  try have hr2 := mpQ nh1
  refine guardC_t (fun h3 => ?_) (fun h3 => ?_)
  ·rw [if_pos h3] at hM
   refine spQA h3 ?_
   have nh3 := nzQ h3
   try have hr4 := mpQ nh3
   have hM0 := hM; clear hM; obtain ⟨x5, hx6, hM⟩ := letk_opn hM0; clear hM0
   have hcx5 := cmH hx6 (specieref31_Message_ok  b u (by (exact pfQ)) (by (exact pfQ)) (by (exact pfQ)) (by (exact pfQ)) (by (exact pfQ)) (by (exact pfQ)) (by (exact pfQ)))
   refine callC_give hcx5 clQ clQ (fun hw7 => ?_)
   replace hw7 := nzQ hw7
   refine spQ ?_
   subst hM
   exact retC_view (lfQA (And.intro h1 h3))
  ·rw [if_neg (ne_true h3)] at hM
   refine spQA h3 ?_
   have nh3 := nzQ h3
   try have hr8 := mpQ nh3
   subst hM
   exact retC_view (lfQA (And.intro h1 h3))
 ·rw [if_neg (ne_true h1)] at hM
  refine spQA h1 ?_
  have nh1 := nzQ h1
  try have hr9 := mpQ nh1
  subst hM
  exact retC_view (lfQA h1)
set_option maxHeartbeats 2000000 in
set_option maxRecDepth 100000 in
instance specieref31_Depth_ok   (d_ : Int)  : CM En (specieref31_Depth d_) 21 [.int .i64 d_] (fun y => .bool y) (fun _ => []) := by
 refine cmQ fun r hM => ?_
 rw [specieref31_Depth.eq_1] at hM
 refine enterV En_ok En_mo noJ Tryz.func21 rfl Tryz.ntmps21 (by kernel_rfl) fun hw => ct_start ?_
 refine spQ ?_
 replace hw := nzQ hw
 have hF := trueQ
 exact auQ
set_option maxHeartbeats 2000000 in
set_option maxRecDepth 100000 in
instance specieref31_Scalar_ok   (g : S_api_Group) (x_ : Int)  : CM En (specieref31_Scalar g x_) 70 [.agg [.int .i64 g.P, .int .i64 g.Q, .int .i64 g.G], .int .i64 x_] (fun y => .bool y) (fun _ => []) := by
 refine cmQ fun r hM => ?_
 rw [specieref31_Scalar.eq_1] at hM
 refine enterV En_ok En_mo noJ Tryz.func70 rfl Tryz.ntmps70 (by kernel_rfl) fun hw => ct_start ?_
 refine spQ ?_
 replace hw := nzQ hw
 have hF := trueQ
 exact auQ
set_option maxHeartbeats 2000000 in
set_option maxRecDepth 100000 in
theorem specieref31_Leaves_ok   (b : S_api_Bases) (x_ : (List (List Int))) (hp0 : 3 ≤ b.Group.Q) (hp1 : b.Group.P < 2305843009213693952) (hp2 : b.Group.Q < b.Group.P) (hp3 : 0 ≤ b.G1) (hp4 : b.G1 < b.Group.P) (hp5 : 0 ≤ b.G2) (hp6 : b.G2 < b.Group.P) : CM En (specieref31_Leaves b x_) 19 [(e_api_Bases b), .sl none 2 true (x_.map (fun l => .agg [.int .i64 (gt l 0), .int .i64 (gt l 1)]))] (fun y => .sl none 1 false (y.map (V.int .i64))) (fun _ => []) := by
 refine cmQ fun r hM => ?_
 rw [specieref31_Leaves.eq_1] at hM
 refine enterV En_ok En_mo noJ Tryz.func19 rfl Tryz.ntmps19 (by kernel_rfl) fun hw => ct_start ?_
 refine spQ ?_
 replace hw := nzQ hw
 have hM0 := hM; clear hM; obtain ⟨f1, d1, hf1, hd1, hM⟩ := iter_opn hM0; clear hM0
 refine ct_loopW (fun n S => ∃ p : Int × List Int, S = (⟨[(1, .sl none 2 true (x_.map (fun l => .agg [.int .i64 (gt l 0), .int .i64 (gt l 1)]))), (2, .ptr 0 0), (5, .own 1), (6, .int .i64 p.1)], [(0, .var 6 true ((e_api_Bases b))), (1, .own 3 1 false none (p.2.map (V.int .i64)))], 2⟩ : St) ∧ ((0 ≤ p.1) ∧ (p.1 ≤ (x_.length : Int)) ∧ (((p.2).length : Int) ≤ p.1)) ∧ ((x_.length : Int) - p.1).toNat < n ∧ iter n f1 d1 p = r) (((x_.length : Int) - 0).toNat + 1) _ _ (weak_nil 5 3 rfl (by decide)) sbQ sbQ ⟨(0, ([] : List Int)), rfl, ⟨omQ, omQ, omQ⟩, (Nat.lt_succ_self _), hM⟩ ?_
 clear hM
 rintro n1 S ⟨p1, rfl, hfa1, hm1, hM⟩
 have hM0 := hM; clear hM; obtain ⟨ag1, hag1, hM⟩ := iter_step hM0 (by omega) hf1; clear hM0
 replace hfa1 := nzQ hfa1
 replace hm1 := nzQ hm1
 have ha1 : addI .i64 p1.1 1 = p1.1 + 1 := add_one omQ omQ
 refine spQA ha1 ?_
 refine condC_intro (fun h2 => ?_) (fun h2 => ?_)
 ·rw [if_pos h2] at hM
  refine spQA (And.intro ha1 h2) ?_
  have nh2 := nzQ h2
  try have hr3 := mpQ nh2
  refine ct_draw 29 14 [13, 14, 15, 16, 17, 18, 19, 20, 21, 22, 23, 24, 25, 26] [] ([[], [], [], [], [2, 3], [2, 3, 4], [2, 3, 4, 5], [], [], [7, 8], [7, 8, 9], [7, 8, 9, 10], [1, 2, 3, 4, 5, 6, 7, 8, 9, 10, 11], [1, 2, 3, 4, 5, 6, 7, 8, 9, 10, 11, 12]] ++ [List.range 14, List.range 15]) [] (by kernel_rfl) (by exact alQ) ?_
  refine spQA ha1 ?_
  refine hbindC_intro omQ ?_
  have he4 := fun d => elt_mp (l := x_) (f := (fun l => .agg [.int .i64 (gt l 0), .int .i64 (gt l 1)])) (i := p1.1) omQ d
  refine spQA (And.intro ha1 he4) ?_
  refine hbindC_intro omQ ?_
  refine spQA (And.intro ha1 he4) ?_
  have hM0 := hM; clear hM; obtain ⟨x5, hx6, hM⟩ := letk_opn hM0; clear hM0
  have hcx5 := cmH hx6 (specieref31_pair_ok  b (gt (gt x_ p1.1) 0) (gt (gt x_ p1.1) 1) (by (exact pfQ)) (by (exact pfQ)) (by (exact pfQ)) (by (exact pfQ)) (by (exact pfQ)) (by (exact pfQ)) (by (exact pfQ)))
  refine hcallC_give hcx5 (clQA (And.intro ha1 he4)) (clQA (And.intro ha1 he4)) ?_
  refine spQA (And.intro ha1 he4) ?_
  have hF := (And.intro ha1 (And.intro h2 he4))
  exact auQ
 ·rw [if_neg (ne_true h2)] at hM
  refine spQA (And.intro ha1 h2) ?_
  have nh2 := nzQ h2
  try have hr7 := mpQ nh2
  subst hM
  exact retC_view (lfQA (And.intro ha1 h2))
set_option maxHeartbeats 2000000 in
set_option maxRecDepth 100000 in
instance specieref31_has_ok   (l : (List Int)) (x_ : Int)  : CM En (specieref31_has l x_) 71 [.sl none 1 false (l.map (V.int .i64)), .int .i64 x_] (fun y => .bool y) (fun _ => []) := by
 refine cmQ fun r hM => ?_
 rw [specieref31_has.eq_1] at hM
 refine enterV En_ok En_mo noJ Tryz.func71 rfl Tryz.ntmps71 (by kernel_rfl) fun hw => ct_start ?_
 refine spQ ?_
 replace hw := nzQ hw
 have hM0 := hM; clear hM; obtain ⟨f1, d1, hf1, hd1, hM⟩ := iter_opn hM0; clear hM0
 refine ct_loop (fun n S => ∃ p : Int, S = (⟨[(0, .sl none 1 false (l.map (V.int .i64))), (1, .int .i64 x_), (5, .int .i64 p)], [], 0⟩ : St) ∧ ((0 ≤ p) ∧ (p ≤ (l.length : Int))) ∧ ((l.length : Int) - p).toNat < n ∧ iter n f1 d1 p = r) (((l.length : Int) - 0).toNat + 1) _ sbQ sbQ ⟨0, rfl, ⟨omQ, omQ⟩, (Nat.lt_succ_self _), hM⟩ ?_
 clear hM
 rintro n1 S ⟨p1, rfl, hfa1, hm1, hM⟩
 have hM0 := hM; clear hM; obtain ⟨ag1, hag1, hM⟩ := iter_step hM0 (by omega) hf1; clear hM0
 replace hfa1 := nzQ hfa1
 replace hm1 := nzQ hm1
 have ha1 : addI .i64 p1 1 = p1 + 1 := add_one omQ omQ
 refine spQA ha1 ?_
 have hF := ha1
 exact auQ
instance (priority := 1007) : DRD 8 88 17 [50, 51, 52, 53, 54, 55, 56, 57, 58, 59, 60, 61, 62, 63, 64, 65, 66] [] ([[], [], [1], [], [1, 2, 3], [1, 2, 3, 4], [1, 2, 3, 4, 5], [0, 1, 2, 3, 4, 5, 6], [0, 1, 2, 3, 4, 5, 6, 7], [0, 1, 2, 3, 4, 5, 6, 7, 8], [0, 1, 2, 3, 4, 5, 6, 7, 8, 9], [0, 1, 2, 3, 4, 5, 6, 7, 8, 9], [0, 1, 2, 3, 4, 5, 6, 7, 8, 9, 11], [0, 1, 2, 3, 4, 5, 6, 7, 8, 9], [0, 1, 2, 3, 4, 5, 6, 7, 8, 9, 11, 12, 13], [0, 1, 2, 3, 4, 5, 6, 7, 8, 9, 11, 12, 13, 14], [0, 1, 2, 3, 4, 5, 6, 7, 8, 9, 11, 12, 13, 14, 15]] ++ [List.range 17, List.range 18, List.range 19]) [] := ⟨trivial⟩
instance (priority := 1008) : DRD 14 88 7 [80, 81, 82, 83, 84, 85, 86] [] ([[], [], [0, 1], [], [], [3, 4], [3, 4, 5]] ++ [List.range 7]) [] := ⟨trivial⟩
set_option maxHeartbeats 2000000 in
set_option maxRecDepth 100000 in
instance specieref31_Secret_ok   (b : S_api_Bases) (s : S_api_CoinSecret)  : CM En (specieref31_Secret b s) 16 [(e_api_Bases b), .agg [.int .i64 s.U, .int .i64 s.S, .sl none 2 true (s.X.map (fun l => .agg [.int .i64 (gt l 0), .int .i64 (gt l 1)]))]] (fun y => .bool y) (fun _ => []) := by
 refine cmQ fun r hM => ?_
 rw [specieref31_Secret.eq_1] at hM
 refine enterV En_ok En_mo noJ Tryz.func16 rfl Tryz.ntmps16 (by kernel_rfl) fun hw => ct_start ?_
 refine spQ ?_
 replace hw := nzQ hw
 have hM0 := hM; clear hM; obtain ⟨x1, hx2, hM⟩ := letk_opn hM0; clear hM0
 have hcx1 := cmU hx2
 refine callC_give hcx1 clQ clQ (fun hw3 => ?_)
 replace hw3 := nzQ hw3
 refine spQ ?_
 have hM0 := hM; clear hM; obtain ⟨x4, hx5, hM⟩ := letk_opn hM0; clear hM0
 have hcx4 := cmU hx5
 refine callC_give hcx4 clQ clQ (fun hw6 => ?_)
 replace hw6 := nzQ hw6
 refine spQ ?_
 have hq7 := nzQ (cfU hx5)
 refine guardC_f (fun h8 => ?_) (fun h8 => ?_)
 ·rw [if_neg (ne_true h8)] at hM
  refine spQA h8 ?_
  have nh8 := nzQ h8
  try have hr9 := mpQ nh8
  have hM0 := hM; clear hM; obtain ⟨x10, hx11, hM⟩ := letk_opn hM0; clear hM0
  have hcx10 := cmH hx11 (specieref31_User_ok  b (s.U) (by (exact pfQ)) (by (exact pfQ)) (by (exact pfQ)) (by (exact pfQ)) (by (exact pfQ)) (by (exact pfQ)) (by (exact pfQ)))
  refine callC_give hcx10 clQ clQ (fun hw12 => ?_)
  replace hw12 := nzQ hw12
  refine spQ ?_
  refine guardC_f (fun h13 => ?_) (fun h13 => ?_)
  ·rw [if_neg (ne_true h13)] at hM
   refine spQA h13 ?_
   have nh13 := nzQ h13
   try have hr14 := mpQ nh13
   refine guardC_f (fun h15 => ?_) (fun h15 => ?_)
   ·rw [if_neg (ne_true h15)] at hM
    refine spQA h15 ?_
    have nh15 := nzQ h15
    try have hr16 := mpQ nh15
    refine guardC_f (fun h17 => ?_) (fun h17 => ?_)
    ·rw [if_neg (ne_true h17)] at hM
     refine spQA h17 ?_
     have nh17 := nzQ h17
     try have hr18 := mpQ nh17
     have hM0 := hM; clear hM; obtain ⟨x19, hx20, hM⟩ := letk_opn hM0; clear hM0
     have hcx19 := cmU hx20
     refine callC_give hcx19 clQ clQ (fun hw21 => ?_)
     replace hw21 := nzQ hw21
     refine spQ ?_
     refine condC_intro (fun h22 => ?_) (fun h22 => ?_)
     ·rw [if_pos h22] at hM
      refine spQA h22 ?_
      have nh22 := nzQ h22
      try have hr23 := mpQ nh22
      subst hM
      exact retC_view (lfQA (And.intro h8 (And.intro h13 (And.intro h15 (And.intro h17 h22)))))
     ·rw [if_neg (ne_true h22)] at hM
      refine spQA h22 ?_
      have nh22 := nzQ h22
      try have hr24 := mpQ nh22
      have hM0 := hM; clear hM; obtain ⟨f25, d25, hf25, hd25, hM⟩ := iter_opn hM0; clear hM0
      refine ct_loop (fun n S => ∃ p : Int, S = (⟨[(2, .ptr 0 0), (3, .ptr 1 0), (5, .ptr 2 0), (7, .int .i64 p)], [(0, .var 6 true ((e_api_Bases b))), (1, .var 3 true (.agg [.int .i64 s.U, .int .i64 s.S, .sl none 2 true (s.X.map (fun l => .agg [.int .i64 (gt l 0), .int .i64 (gt l 1)]))])), (2, .var 3 true (.agg [.int .i64 b.Group.P, .int .i64 b.Group.Q, .int .i64 b.Group.G]))], 3⟩ : St) ∧ ((0 ≤ p) ∧ (p ≤ (s.X.length : Int))) ∧ ((s.X.length : Int) - p).toNat < n ∧ iter n f25 d25 p = r) (((s.X.length : Int) - 0).toNat + 1) _ sbQ sbQ ⟨0, rfl, ⟨omQ, omQ⟩, (Nat.lt_succ_self _), hM⟩ ?_
      clear hM
      rintro n25 S ⟨p25, rfl, hfa25, hm25, hM⟩
      have hM0 := hM; clear hM; obtain ⟨ag25, hag25, hM⟩ := iter_step hM0 (by omega) hf25; clear hM0
      replace hfa25 := nzQ hfa25
      replace hm25 := nzQ hm25
      have ha25 : addI .i64 p25 1 = p25 + 1 := add_one omQ omQ
      refine spQA ha25 ?_
      refine condC_intro (fun h26 => ?_) (fun h26 => ?_)
      ·rw [if_pos h26] at hM
       refine spQA (And.intro ha25 h26) ?_
       have nh26 := nzQ h26
       try have hr27 := mpQ nh26
       have hF := (And.intro h8 (And.intro h13 (And.intro h15 (And.intro h17 (And.intro h22 (And.intro ha25 h26))))))
       exact auQ
      ·rw [if_neg (ne_true h26)] at hM
       refine spQA (And.intro ha25 h26) ?_
       have nh26 := nzQ h26
       try have hr40 := mpQ nh26
       have hM0 := hM; clear hM; obtain ⟨x41, hx42, hM⟩ := letk_opn hM0; clear hM0
       have hcx41 := cmH hx42 (specieref31_Leaves_ok  b (s.X) (by (exact pfQ)) (by (exact pfQ)) (by (exact pfQ)) (by (exact pfQ)) (by (exact pfQ)) (by (exact pfQ)) (by (exact pfQ)))
       refine callC_give hcx41 (clQA ha25) (clQA ha25) (fun hw43 => ?_)
       replace hw43 := nzQ hw43
       refine spQA ha25 ?_
       have hM0 := hM; clear hM; obtain ⟨f44, d44, hf44, hd44, hM⟩ := iter_opn hM0; clear hM0
       refine ct_loop (fun n S => ∃ p : Int, S = (⟨[(8, .sl none 1 false (x41.map (V.int .i64))), (9, .int .i64 p)], [], 3⟩ : St) ∧ ((0 ≤ p) ∧ (p ≤ (x41.length : Int))) ∧ ((x41.length : Int) - p).toNat < n ∧ iter n f44 d44 p = r) (((x41.length : Int) - 0).toNat + 1) _ sbQ sbQ ⟨0, rfl, ⟨omQ, omQ⟩, (Nat.lt_succ_self _), hM⟩ ?_
       clear hM
       rintro n44 S ⟨p44, rfl, hfa44, hm44, hM⟩
       have hM0 := hM; clear hM; obtain ⟨ag44, hag44, hM⟩ := iter_step hM0 (by omega) hf44; clear hM0
       replace hfa44 := nzQ hfa44
       replace hm44 := nzQ hm44
       have ha44 : addI .i64 p44 1 = p44 + 1 := add_one omQ omQ
       refine spQA (And.intro ha25 ha44) ?_
       have hF := (And.intro h8 (And.intro h13 (And.intro h15 (And.intro h17 (And.intro h22 (And.intro ha25 (And.intro h26 ha44)))))))
       exact auQ
    ·rw [if_pos h17] at hM
     refine spQA h17 ?_
     have nh17 := nzQ h17
     try have hr53 := mpQ nh17
     subst hM
     exact retC_view (lfQA (And.intro h8 (And.intro h13 (And.intro h15 h17))))
   ·rw [if_pos h15] at hM
    refine spQA h15 ?_
    have nh15 := nzQ h15
    try have hr54 := mpQ nh15
    subst hM
    exact retC_view (lfQA (And.intro h8 (And.intro h13 h15)))
  ·rw [if_pos h13] at hM
   refine spQA h13 ?_
   have nh13 := nzQ h13
   try have hr55 := mpQ nh13
   subst hM
   exact retC_view (lfQA (And.intro h8 h13))
 ·rw [if_pos h8] at hM
  refine spQA h8 ?_
  have nh8 := nzQ h8
  try have hr56 := mpQ nh8
  subst hM
  exact retC_view (lfQA h8)
set_option maxHeartbeats 2000000 in
set_option maxRecDepth 100000 in
theorem tree_Path_1_ok  (z1_1 : Option Bool) (h_ : (List Int)) (c0 : S_api_Path) (hp0 : c0.L.length ≤ 1000) : CallIn En 86 [(e_arr40 h_), .ptr 0 0] [.var 2 true (.agg [.int .i64 c0.Index, .own 1]), .own 40 32 true z1_1 (c0.L.map e_arr40)] (.tup []) [.var 2 true (.agg [.int .i64 (tree_Path_1 h_ c0).Index, .own 1]), .own 40 32 true none ((tree_Path_1 h_ c0).L.map e_arr40)] [] := by
 generalize hM : tree_Path_1 h_ c0 = r
 rw [tree_Path_1.eq_1] at hM
 refine enterI En_ok En_mo noJ Tryz.func86 rfl Tryz.ntmps86 (by kernel_rfl) rfl fun ks hw hwB => ct_start ?_
 refine spQ ?_
 replace hw := nzQ hw
 try simp only [wfBs, wfB, decide_eq_true_eq, decide_eq_false_iff_not, Bool.and_eq_true, Bool.or_eq_true, Bool.not_eq_true', Bool.not_eq_false', beq_iff_eq, bne_iff_ne, beq_eq_false_iff_ne, bne_eq_false_iff_eq, ne_eq, Int.not_lt, Int.not_le, gt_iff_lt, ge_iff_le, List.length_map, wfL, wfV, and_true, true_and, LEN_eq, rng_i64, rng_u64, rng_u32, rng_i32, sl_len, st_len, List.length_append, List.length_cons, List.length_nil, List.length_replicate, rep_len, rowV_len, spl_len, cutN_len, arrN_len, nat8_len, remI_nn] at hwB
 refine bindC_intro omQ ?_
 refine spQ ?_
 subst hM
 exact retCI_in [0, 1] (by simp only [go_sem, rowV_eq, rowV_eq0, List.length_replicate, rep_len, Int.toNat_natCast, ↓reduceIte, Nat.reduceEqDiff, Nat.reduceAdd, Int.reduceAdd, Nat.reduceMul, Nat.reduceLeDiff, Nat.reduceLT, Int.reduceLE, Int.reduceLT, Int.reduceNeg, Int.reduceToNat, mt, mtL, mtL_self, mt_self, mtZ, and_self, eq_self, or_true, true_or, map_st, gt_cons0, gt_conss, Int.reduceSub, or_self]) (by decide) (by simp only [go_sem, rowV_eq, rowV_eq0, List.length_replicate, rep_len, Int.toNat_natCast, ↓reduceIte, Nat.reduceEqDiff, Nat.reduceAdd, Int.reduceAdd, Nat.reduceMul, Nat.reduceLeDiff, Nat.reduceLT, Int.reduceLE, Int.reduceLT, Int.reduceNeg, Int.reduceToNat, mt, mtL, mtL_self, mt_self, mtZ, and_self, eq_self, or_true, true_or, map_st, gt_cons0, gt_conss, Int.reduceSub, or_self])
set_option maxHeartbeats 2000000 in
set_option maxRecDepth 100000 in
instance tree_Path_ok   (l : (List (List Int))) (level : Int) (index : Int)  : CM En (tree_Path l level index) 32 [.sl none 32 true (l.map e_arr40), .int .i64 level, .int .i64 index] (fun y => .tup [.agg [.int .i64 y.1.Index, .sl none 32 true (y.1.L.map e_arr40)], .int .i64 y.2]) (fun _ => []) := by
 refine cmQ fun r hM => ?_
 rw [tree_Path.eq_1] at hM
 refine enterV En_ok En_mo noJ Tryz.func32 rfl Tryz.ntmps32 (by kernel_rfl) fun hw => ct_start ?_
 refine spQ ?_
 replace hw := nzQ hw
 have hM0 := hM; clear hM; obtain ⟨x1, hx2, hM⟩ := letk_opn hM0; clear hM0
 have hcx1 := cmU hx2
 refine callC_give hcx1 clQ clQ (fun hw3 => ?_)
 replace hw3 := nzQ hw3
 refine spQ ?_
 have hq4 := path_after hx2
 replace hq4 := nzQ hq4
 refine condC_intro (fun h5 => ?_) (fun h5 => ?_)
 ·rw [if_pos h5] at hM
  refine spQA h5 ?_
  have nh5 := nzQ h5
  try have hr6 := mpQ nh5
  subst hM
  exact retC_view (lfQA h5)
 ·rw [if_neg (ne_true h5)] at hM
  refine spQA h5 ?_
  have nh5 := nzQ h5
  try have hr7 := mpQ nh5
  have hM0 := hM; clear hM; obtain ⟨f8, d8, hf8, hd8, hM⟩ := iter_opn hM0; clear hM0
  refine ct_loopW (fun n S => ∃ p : Int × Int × Int × List (List Int), S = (⟨[(6, .ptr 0 0), (8, .sl none 1 false (x1.1.map (fun (l : List (List Int)) => V.sl none 32 true (l.map e_arr40)))), (10, .ptr 1 0), (11, .fn 86 [.ptr 1 0]), (12, .int .i64 p.1), (13, .int .i64 p.2.1)], [(0, .var 2 true (.agg [.int .i64 0, .sl (some true) 32 true []])), (1, .var 2 true (.agg [.int .i64 p.2.2.1, .own 2])), (2, .own 40 32 true none (p.2.2.2.map e_arr40))], 3⟩ : St) ∧ ((pathOk x1.1 p.1 p.2.1) ∧ (((p.2.2.2).length : Int) + p.1 ≤ 10)) ∧ p.1.toNat < n ∧ iter n f8 d8 p = r) (level.toNat + 1) _ _ (weak_nilV 1 1 40 rfl rfl (by decide)) sbQ sbQ ⟨(level, index, index, ([] : List (List Int))), rfl, ⟨by (exact path_in (path_after ‹_ = tree_open _ _ _›) (by assumption)), by (have h9 := path_in (path_after ‹_ = tree_open _ _ _›) (by assumption); have h8 := h9.2.1; have h7 := h9.2.2.1; simp only [List.length_nil]; omega)⟩, (Nat.lt_succ_self _), hM⟩ ?_
  clear hM
  rintro n8 S ⟨p8, rfl, ⟨hF7_0, hF7_1⟩, hm8, hM⟩
  have hM0 := hM; clear hM; obtain ⟨ag8, hag8, hM⟩ := iter_step hM0 (by omega) hf8; clear hM0
  replace hm8 := nzQ hm8
  refine spQ ?_
  refine condC_intro (fun h9 => ?_) (fun h9 => ?_)
  ·rw [if_pos h9] at hM
   refine spQA h9 ?_
   have nh9 := nzQ h9
   try have hr10 := mpQ nh9
   refine bindC_intro (by (first | exact omQ | (clear hM; first | (have h9 := path_ix hF7_0 (by omega); exact omQ')))) ?_
   have he11 := fun d => elt_mp (l := x1.1) (f := (fun (l : List (List Int)) => V.sl none 32 true (l.map e_arr40))) (i := p8.1) (by (first | exact omQ | (clear hM; first | (have h9 := path_ix hF7_0 (by omega); exact omQ')))) d
   refine spQA he11 ?_
   refine bindC_intro (by (first | exact omQ | (clear hM; first | (have h9 := path_ix hF7_0 (by omega); exact omQ')))) ?_
   have he12 := fun d => elt_mp (l := (gt x1.1 p8.1)) (f := e_arr40) (i := (xorI .i64 p8.2.1 1)) (by (first | exact omQ | (clear hM; first | (have h9 := path_ix hF7_0 (by omega); exact omQ')))) d
   refine spQA (And.intro he11 he12) ?_
   have hM0 := hM; clear hM; obtain ⟨x13, hx14, hM⟩ := letk_opn hM0; clear hM0
   have hcx13 := tree_Path_1_ok none (gt (gt x1.1 p8.1) (xorI .i64 p8.2.1 1)) ({ Index := p8.2.2.1, L := p8.2.2.2 } : S_api_Path) (by (exact pfQ))
   rw [← hx14] at hcx13
   refine callC_in [1, 2] hcx13 (by decide) (by simp only [go_sem, rowV_eq, rowV_eq0, List.length_replicate, rep_len, Int.toNat_natCast, ↓reduceIte, Nat.reduceEqDiff, Nat.reduceAdd, Int.reduceAdd, Nat.reduceMul, Nat.reduceLeDiff, Nat.reduceLT, Int.reduceLE, Int.reduceLT, Int.reduceNeg, Int.reduceToNat, mt, mtL, mtL_self, mt_self, mtZ, and_self, eq_self, or_true, true_or, he11, he12]) (by simp only [go_sem, rowV_eq, rowV_eq0, List.length_replicate, rep_len, Int.toNat_natCast, ↓reduceIte, Nat.reduceEqDiff, Nat.reduceAdd, Int.reduceAdd, Nat.reduceMul, Nat.reduceLeDiff, Nat.reduceLT, Int.reduceLE, Int.reduceLT, Int.reduceNeg, Int.reduceToNat, mt, mtL, mtL_self, mt_self, mtZ, and_self, eq_self, or_true, true_or, he11, he12]) (fun hw15 => ?_)
   replace hw15 := nzQ hw15
   refine spQA (And.intro he11 he12) ?_
   have hq16 := path1_len hx14
   replace hq16 := nzQ hq16
   refine bindC_intro (by (first | exact omQ | (clear hM; first | (have h9 := path_ix hF7_0 (by omega); exact omQ')))) ?_
   refine spQA (And.intro he11 he12) ?_
   refine lp_intro (n8 - 1) _ (by omega) sbQ sbQ ⟨((subI .i64 p8.1 1), (quoI .i64 p8.2.1 2), x13.Index, x13.L), rfl, ⟨by (exact path_step hF7_0 (by omega) (by first | exact .inl rfl | exact .inr rfl) (by first | exact .inl rfl | exact .inr rfl)), by (have h9 := path_ix hF7_0 (by omega); have e9 := sub_ok (a := p8.1) (b := 1) (by omega) (by omega); dsimp only; omega)⟩, by (have h9 := path_ix hF7_0 (by omega); have e9 := sub_ok (a := p8.1) (b := 1) (by omega) (by omega); dsimp only; omega), iter_again hM hag8⟩
  ·rw [if_neg (ne_true h9)] at hM
   refine spQA h9 ?_
   have nh9 := nzQ h9
   try have hr17 := mpQ nh9
   subst hM
   exact retC_view (lfQA (And.intro h5 h9))
set_option maxHeartbeats 2000000 in
set_option maxRecDepth 100000 in
instance tree_Follow_ok   (h_ : (List Int)) (level : Int) (p_ : S_api_Path)  : CM En (tree_Follow h_ level p_) 87 [(e_arr40 h_), .int .i64 level, .agg [.int .i64 p_.Index, .sl none 32 true (p_.L.map e_arr40)]] (fun y => .tup [(e_arr40 y.1), .int .i64 y.2]) (fun _ => []) := by
 refine cmQ fun r hM => ?_
 rw [tree_Follow.eq_1] at hM
 refine enterV En_ok En_mo noJ Tryz.func87 rfl Tryz.ntmps87 (by kernel_rfl) fun hw => ct_start ?_
 refine spQ ?_
 replace hw := nzQ hw
 refine ct_draw 58 16 [11, 12, 13, 14, 15, 16, 17, 18, 19, 20, 21, 22, 23, 24, 25, 26] [] ([[], [0], [0, 1], [0, 1, 2], [0, 1, 2, 3], [0, 1, 2, 3, 4], [0, 1, 2, 3, 4, 5], [0, 1, 2, 3, 4, 5, 6], [0, 1, 2, 3, 4, 5, 6, 7], [0, 1, 2, 3, 4, 5, 6, 7, 8], [0, 1, 2, 3, 4, 5, 6, 7, 8, 9], [0, 1, 2, 3, 4, 5, 6, 7, 8, 9, 10], [0, 1, 2, 3, 4, 5, 6, 7, 8, 9, 10, 11], [0, 1, 2, 3, 4, 5, 6, 7, 8, 9, 10, 11, 12], [0, 1, 2, 3, 4, 5, 6, 7, 8, 9, 10, 11], [0, 1, 2, 3, 4, 5, 6, 7, 8, 9, 10, 11, 14]] ++ [List.range 16, List.range 17]) [] (by kernel_rfl) (by exact alQ) ?_
 refine spQ ?_
 refine hguardC_f (fun h1 => ?_) (fun h1 => ?_)
 ·rw [if_neg (ne_true h1)] at hM
  refine spQA h1 ?_
  have nh1 := nzQ h1
  try have hr2 := mpQ nh1
  refine hguardC_f (fun h3 => ?_) (fun h3 => ?_)
  ·rw [if_neg (ne_true h3)] at hM
   refine spQA h3 ?_
   have nh3 := nzQ h3
   try have hr4 := mpQ nh3
   refine hguardC_f (fun h5 => ?_) (fun h5 => ?_)
   ·rw [if_neg (ne_true h5)] at hM
    refine spQA h5 ?_
    have nh5 := nzQ h5
    try have hr6 := mpQ nh5
    refine hbindC_intro omQ ?_
    refine spQ ?_
    refine condC_intro (fun h7 => ?_) (fun h7 => ?_)
    ·rw [if_pos h7] at hM
     refine spQA h7 ?_
     have nh7 := nzQ h7
     try have hr8 := mpQ nh7
     subst hM
     exact retC_view (lfQA (And.intro h1 (And.intro h3 (And.intro h5 h7))))
    ·rw [if_neg (ne_true h7)] at hM
     refine spQA h7 ?_
     have nh7 := nzQ h7
     try have hr9 := mpQ nh7
     refine condC_intro (fun h10 => ?_) (fun h10 => ?_)
     ·rw [if_pos h10] at hM
      refine spQA h10 ?_
      have nh10 := nzQ h10
      try have hr11 := mpQ nh10
      subst hM
      exact retC_view (lfQA (And.intro h1 (And.intro h3 (And.intro h5 (And.intro h7 h10)))))
     ·rw [if_neg (ne_true h10)] at hM
      refine spQA h10 ?_
      have nh10 := nzQ h10
      try have hr12 := mpQ nh10
      have hM0 := hM; clear hM; obtain ⟨f13, d13, hf13, hd13, hM⟩ := iter_opn hM0; clear hM0
      refine ct_loop (fun n S => ∃ p : Int × Int × (List Int), S = (⟨[(3, .ptr 0 0), (6, .ptr 2 0), (8, .int .i64 p.1), (39, .sl none 32 true (p_.L.map e_arr40)), (40, .int .i64 (p_.L.length : Int)), (41, .int .i64 p.2.1)], [(0, .var 32 true ((e_arr40 p.2.2))), (2, .var 32 true (zv_40))], 19⟩ : St) ∧ ((0 ≤ p.2.1) ∧ (p.2.1 ≤ (p_.L.length : Int))) ∧ ((p_.L.length : Int) - p.2.1).toNat < n ∧ iter n f13 d13 p = r) (((p_.L.length : Int) - 0).toNat + 1) _ sbQ sbQ ⟨(p_.Index, 0, h_), rfl, ⟨omQ, omQ⟩, (Nat.lt_succ_self _), hM⟩ ?_
      clear hM
      rintro n13 S ⟨p13, rfl, hfa13, hm13, hM⟩
      have hM0 := hM; clear hM; obtain ⟨ag13, hag13, hM⟩ := iter_step hM0 (by omega) hf13; clear hM0
      replace hfa13 := nzQ hfa13
      replace hm13 := nzQ hm13
      have ha13 : addI .i64 p13.2.1 1 = p13.2.1 + 1 := add_one omQ omQ
      refine spQA ha13 ?_
      have hF := (And.intro h1 (And.intro h3 (And.intro h5 (And.intro h7 (And.intro h10 ha13)))))
      exact auQ
   ·rw [if_pos h5] at hM
    refine spQA h5 ?_
    have nh5 := nzQ h5
    try have hr27 := mpQ nh5
    subst hM
    exact retC_view (lfQA (And.intro h1 (And.intro h3 h5)))
  ·rw [if_pos h3] at hM
   refine spQA h3 ?_
   have nh3 := nzQ h3
   try have hr28 := mpQ nh3
   subst hM
   exact retC_view (lfQA (And.intro h1 h3))
 ·rw [if_pos h1] at hM
  refine spQA h1 ?_
  have nh1 := nzQ h1
  try have hr29 := mpQ nh1
  subst hM
  exact retC_view (lfQA h1)
set_option maxHeartbeats 2000000 in
set_option maxRecDepth 100000 in
instance tree_Verify_ok   (root : (List Int)) (h_ : (List Int)) (level : Int) (p_ : S_api_Path)  : CM En (tree_Verify root h_ level p_) 33 [(e_arr40 root), (e_arr40 h_), .int .i64 level, .agg [.int .i64 p_.Index, .sl none 32 true (p_.L.map e_arr40)]] (fun y => .bool y) (fun _ => []) := by
 refine cmQ fun r hM => ?_
 rw [tree_Verify.eq_1] at hM
 refine enterV En_ok En_mo noJ Tryz.func33 rfl Tryz.ntmps33 (by kernel_rfl) fun hw => ct_start ?_
 refine spQ ?_
 replace hw := nzQ hw
 have hF := trueQ
 exact auQ
set_option maxRecDepth 100000 in
theorem slices_Clone_int_int_ok (z0 : Option Bool) (s : List Int) : CallOk En 34 [.sl z0 1 false (s.map (V.int .i64))] (.own 0) [.own 3 1 false none ((slices_Clone_int_int s).map (V.int .i64))] := by
 show CallOk En 34 [.sl z0 1 false (s.map (V.int .i64))] (.own 0) [.own 3 1 false none (s.map (V.int .i64))]
 refine callOk_nil (pre := []) (post := []) (fun hl => ?_) ?_ z0
 ·have hl : s = [] := by cases s with | nil => rfl | cons a s => cases hl
  subst hl
  refine enterV En_ok En_mo noJ Tryz.func34 rfl Tryz.ntmps34 (by kernel_rfl) fun hw => ct_start ?_
  simp only [go_sem, rowV_eq, rowV_eq0, List.length_replicate, rep_len, Int.toNat_natCast, ↓reduceIte, Nat.reduceEqDiff, Nat.reduceAdd, Int.reduceAdd, Nat.reduceMul, Nat.reduceLeDiff, Nat.reduceLT, Int.reduceLE, Int.reduceLT, Int.reduceNeg, Int.reduceToNat, List.nil_append]
  exact retC_nil (by decide)
 ·refine enterV En_ok En_mo noJ Tryz.func34 rfl Tryz.ntmps34 (by kernel_rfl) fun hw => ct_start ?_
  simp only [go_sem, rowV_eq, rowV_eq0, List.length_replicate, rep_len, Int.toNat_natCast, ↓reduceIte, Nat.reduceEqDiff, Nat.reduceAdd, Int.reduceAdd, Nat.reduceMul, Nat.reduceLeDiff, Nat.reduceLT, Int.reduceLE, Int.reduceLT, Int.reduceNeg, Int.reduceToNat, List.nil_append]
  have hn : s.length ≤ 1073741824 := by have h := hw; simp only [wfL, wfV, List.nil_append, LEN_eq, List.length_map] at h; exact h.1.1
  refine bindC_intro (by first | omega | (simp only [List.length_map, List.length_nil, List.nil_append]; omega)) ?_
  refine spQ ?_
  refine retC_ownZ 0 rfl clQ
set_option maxHeartbeats 2000000 in
set_option maxRecDepth 100000 in
instance specielaw31_CoinTrees_ok   (b : S_api_Bases) (s : S_api_CoinSecret) (which : Int)  : CM En (specielaw31_CoinTrees b s which) 4 [(e_api_Bases b), .agg [.int .i64 s.U, .int .i64 s.S, .sl none 2 true (s.X.map (fun l => .agg [.int .i64 (gt l 0), .int .i64 (gt l 1)]))], .int .u8 which] (fun y => .bool y) (fun _ => []) := by
 refine cmQ fun r hM => ?_
 rw [specielaw31_CoinTrees.eq_1] at hM
 refine enterV En_ok En_mo noJ Tryz.func4 rfl Tryz.ntmps4 (by kernel_rfl) fun hw => ct_start ?_
 refine spQ ?_
 replace hw := nzQ8 hw
 have hM0 := hM; clear hM; obtain ⟨x1, hx2, hM⟩ := letk_opn hM0; clear hM0
 have hcx1 := cmU hx2
 refine callC_give hcx1 clQ clQ (fun hw3 => ?_)
 replace hw3 := nzQ8 hw3
 refine spQ ?_
 refine guardC_f (fun h4 => ?_) (fun h4 => ?_)
 ·rw [if_neg (ne_true h4)] at hM
  refine spQA h4 ?_
  have nh4 := nzQ8 h4
  try have hr5 := mpQ nh4
  refine guardC_f (fun h6 => ?_) (fun h6 => ?_)
  ·rw [if_neg (ne_true h6)] at hM
   refine spQA h6 ?_
   have nh6 := nzQ8 h6
   try have hr7 := mpQ nh6
   have hM0 := hM; clear hM; obtain ⟨x8, hx9, hM⟩ := letk_opn hM0; clear hM0
   have hcx8 := cmU hx9
   refine callC_give hcx8 clQ clQ (fun hw10 => ?_)
   replace hw10 := nzQ8 hw10
   refine spQ ?_
   have hq11 := nzQ (cfU hx9)
   refine condC_intro (fun h12 => ?_) (fun h12 => ?_)
   ·rw [if_pos h12] at hM
    refine spQA h12 ?_
    have nh12 := nzQ8 h12
    try have hr13 := mpQ nh12
    have hM0 := hM; clear hM; obtain ⟨x14, hx15, hM⟩ := letk_opn hM0; clear hM0
    have hcx14 := cmU hx15
    refine callC_give hcx14 clQ clQ (fun hw16 => ?_)
    replace hw16 := nzQ8 hw16
    refine spQ ?_
    subst hM
    exact retC_view (lfQA (And.intro h4 (And.intro h6 h12)))
   ·rw [if_neg (ne_true h12)] at hM
    refine spQA h12 ?_
    have nh12 := nzQ8 h12
    try have hr17 := mpQ nh12
    have hM0 := hM; clear hM; obtain ⟨x18, hx19, hM⟩ := letk_opn hM0; clear hM0
    have hcx18 := cmU hx19
    refine callC_give hcx18 clQ clQ (fun hw20 => ?_)
    replace hw20 := nzQ8 hw20
    refine spQ ?_
    have hM0 := hM; clear hM; obtain ⟨x21, hx22, hM⟩ := letk_opn hM0; clear hM0
    have hcx21 := cmU hx22
    refine callC_give hcx21 clQ clQ (fun hw23 => ?_)
    replace hw23 := nzQ8 hw23
    refine spQ ?_
    have hM0 := hM; clear hM; obtain ⟨x24, hx25, hM⟩ := letk_opn hM0; clear hM0
    have hcx24 := cmU hx25
    refine callC_give hcx24 clQ clQ (fun hw26 => ?_)
    replace hw26 := nzQ8 hw26
    refine spQ ?_
    refine guardC_f (fun h27 => ?_) (fun h27 => ?_)
    ·rw [if_neg (ne_true h27)] at hM
     refine spQA h27 ?_
     have nh27 := nzQ8 h27
     try have hr28 := mpQ nh27
     refine guardC_f (fun h29 => ?_) (fun h29 => ?_)
     ·rw [if_neg (ne_true h29)] at hM
      refine spQA h29 ?_
      have nh29 := nzQ8 h29
      try have hr30 := mpQ nh29
      refine guardC_f (fun h31 => ?_) (fun h31 => ?_)
      ·rw [if_neg (ne_true h31)] at hM
       refine spQA h31 ?_
       have nh31 := nzQ8 h31
       try have hr32 := mpQ nh31
       refine guardC_f (fun h33 => ?_) (fun h33 => ?_)
       ·rw [if_neg (ne_true h33)] at hM
        refine spQA h33 ?_
        have nh33 := nzQ8 h33
        try have hr34 := mpQ nh33
        refine condC_intro (fun h35 => ?_) (fun h35 => ?_)
        ·rw [if_pos h35] at hM
         refine spQA h35 ?_
         have nh35 := nzQ8 h35
         try have hr36 := mpQ nh35
         subst hM
         exact retC_view (lfQA (And.intro h4 (And.intro h6 (And.intro h12 (And.intro h27 (And.intro h29 (And.intro h31 (And.intro h33 h35))))))))
        ·rw [if_neg (ne_true h35)] at hM
         refine spQA h35 ?_
         have nh35 := nzQ8 h35
         try have hr37 := mpQ nh35
         refine bindC_intro (by (first | exact omQ | (clear hM; first | (have h9 := rem_ix (w := which) (n := (x18.1.length : Int)) (by omega) (by omega) (by omega); exact omQ')))) ?_
         refine spQ ?_
         refine ct_draw 175 15 [14, 83, 84, 85, 86, 87, 88, 89, 90, 91, 92, 93, 94, 95, 96] [] ([[], [0], [], [2], [], [4], [], [4, 5, 6], [4, 5, 6, 7], [4, 5, 6, 7, 8], [0, 1, 2, 3, 4, 5, 6, 7, 8, 9], [0, 1, 2, 3, 4, 5, 6, 7, 8, 9, 10], [0, 1, 2, 3, 4, 5, 6, 7, 8, 9, 10, 11], [0, 1, 2, 3, 4, 5, 6, 7, 8, 9, 10, 11], [0, 1, 2, 3, 4, 5, 6, 7, 8, 9, 10, 11, 12]] ++ [List.range 15]) [] (by kernel_rfl) (by exact alQ) ?_
         refine spQ ?_
         refine hbindC_intro (by (first | exact omQ | (clear hM; first | (have h9 := rem_ix (w := which) (n := (x18.1.length : Int)) (by omega) (by omega) (by omega); exact omQ')))) ?_
         have he38 := fun d => elt_mp (l := s.X) (f := (fun l => .agg [.int .i64 (gt l 0), .int .i64 (gt l 1)])) (i := (remI .i64 (convI .i64 which) (x18.1.length : Int))) (by (first | exact omQ | (clear hM; first | (have h9 := rem_ix (w := which) (n := (x18.1.length : Int)) (by omega) (by omega) (by omega); exact omQ')))) d
         refine spQA he38 ?_
         have hM0 := hM; clear hM; obtain ⟨x39, hx40, hM⟩ := letk_opn hM0; clear hM0
         have hcx39 := cmU hx40
         refine hcallC_give hcx39 (clQA he38) (clQA he38) ?_
         refine spQA he38 ?_
         refine ct_draw 175 15 [15, 97, 98, 99, 100, 101, 102, 103, 104, 105, 106, 107, 108, 109, 110] [] ([[], [0], [], [2], [], [4], [], [4, 5, 6], [4, 5, 6, 7], [4, 5, 6, 7, 8], [0, 1, 2, 3, 4, 5, 6, 7, 8, 9], [0, 1, 2, 3, 4, 5, 6, 7, 8, 9, 10], [0, 1, 2, 3, 4, 5, 6, 7, 8, 9, 10, 11], [0, 1, 2, 3, 4, 5, 6, 7, 8, 9, 10, 11], [0, 1, 2, 3, 4, 5, 6, 7, 8, 9, 10, 11, 12]] ++ [List.range 15]) [] (by kernel_rfl) (by exact alQ) ?_
         refine spQA he38 ?_
         refine hbindC_intro (by (first | exact omQ | (clear hM; first | (have h9 := rem_ix (w := which) (n := (x18.1.length : Int)) (by omega) (by omega) (by omega); exact omQ')))) ?_
         refine spQA he38 ?_
         have hM0 := hM; clear hM; obtain ⟨x41, hx42, hM⟩ := letk_opn hM0; clear hM0
         have hcx41 := cmU hx42
         refine hcallC_give hcx41 (clQA he38) (clQA he38) ?_
         refine spQA he38 ?_
         refine guardC_f (fun h43 => ?_) (fun h43 => ?_)
         ·rw [if_neg (ne_true h43)] at hM
          refine spQA (And.intro he38 h43) ?_
          have nh43 := nzQ8 h43
          try have hr44 := mpQ nh43
          refine condC_intro (fun h45 => ?_) (fun h45 => ?_)
          ·rw [if_pos h45] at hM
           refine spQA (And.intro he38 h45) ?_
           have nh45 := nzQ8 h45
           try have hr46 := mpQ nh45
           subst hM
           exact retC_view (lfQA (And.intro he38 (And.intro h4 (And.intro h6 (And.intro h12 (And.intro h27 (And.intro h29 (And.intro h31 (And.intro h33 (And.intro h35 (And.intro h43 h45)))))))))))
          ·rw [if_neg (ne_true h45)] at hM
           refine spQA (And.intro he38 h45) ?_
           have nh45 := nzQ8 h45
           try have hr47 := mpQ nh45
           have hM0 := hM; clear hM; obtain ⟨x48, hx49, hM⟩ := letk_opn hM0; clear hM0
           have hcx48 := cmU hx49
           refine callC_give hcx48 (clQA he38) (clQA he38) (fun hw50 => ?_)
           replace hw50 := nzQ8 hw50
           refine spQA he38 ?_
           have hM0 := hM; clear hM; obtain ⟨x51, hx52, hM⟩ := letk_opn hM0; clear hM0
           have hcx51 := cmU hx52
           refine callC_give hcx51 (clQA he38) (clQA he38) (fun hw53 => ?_)
           replace hw53 := nzQ8 hw53
           refine spQA he38 ?_
           refine guardC_f (fun h54 => ?_) (fun h54 => ?_)
           ·rw [if_neg (ne_true h54)] at hM
            refine spQA (And.intro he38 h54) ?_
            have nh54 := nzQ8 h54
            try have hr55 := mpQ nh54
            refine guardC_f (fun h56 => ?_) (fun h56 => ?_)
            ·rw [if_neg (ne_true h56)] at hM
             refine spQA (And.intro he38 h56) ?_
             have nh56 := nzQ8 h56
             try have hr57 := mpQ nh56
             refine bindC_intro (by (first | exact omQ | (clear hM; first | (have h9 := rem_ix (w := which) (n := (x18.1.length : Int)) (by omega) (by omega) (by omega); exact omQ')))) ?_
             have he58 := fun d => elt_mp (l := x18.1) (f := (V.int .i64)) (i := (remI .i64 (convI .i64 which) (x18.1.length : Int))) (by (first | exact omQ | (clear hM; first | (have h9 := rem_ix (w := which) (n := (x18.1.length : Int)) (by omega) (by omega) (by omega); exact omQ')))) d
             refine spQA (And.intro he38 he58) ?_
             refine condC_intro (fun h59 => ?_) (fun h59 => ?_)
             ·rw [if_pos h59] at hM
              refine spQA (And.intro he38 (And.intro he58 h59)) ?_
              have nh59 := nzQ8 h59
              try have hr60 := mpQ nh59
              subst hM
              exact retC_view (lfQA (And.intro he38 (And.intro he58 (And.intro h4 (And.intro h6 (And.intro h12 (And.intro h27 (And.intro h29 (And.intro h31 (And.intro h33 (And.intro h35 (And.intro h43 (And.intro h45 (And.intro h54 (And.intro h56 h59)))))))))))))))
             ·rw [if_neg (ne_true h59)] at hM
              refine spQA (And.intro he38 (And.intro he58 h59)) ?_
              have nh59 := nzQ8 h59
              try have hr61 := mpQ nh59
              have hM0 := hM; clear hM; obtain ⟨x62, hx63, hM⟩ := letk_opn hM0; clear hM0
              have hcx62 := cmU hx63
              refine callC_give hcx62 (clQA (And.intro he38 he58)) (clQA (And.intro he38 he58)) (fun hw64 => ?_)
              replace hw64 := nzQ8 hw64
              refine spQA (And.intro he38 he58) ?_
              refine ct_draw 175 10 [152, 153, 154, 155, 156, 157, 158, 159, 160, 161] [] ([[], [0], [0, 1], [0, 1, 2], [0, 1, 2], [0, 1, 2], [0, 1, 2, 4, 5], [0, 1, 2, 4, 5, 6], [0, 1, 2], [0, 1, 2]] ++ [List.range 10, List.range 11, List.range 12]) [] (by kernel_rfl) (by exact alQ) ?_
              refine spQA (And.intro he38 he58) ?_
              refine hguardC_f (fun h65 => ?_) (fun h65 => ?_)
              ·rw [if_neg (ne_true h65)] at hM
               refine spQA (And.intro he38 (And.intro he58 h65)) ?_
               have nh65 := nzQ8 h65
               try have hr66 := mpQ nh65
               refine hbindC_intro (by (first | exact omQ | (clear hM; first | (have h9 := rem_ix (w := which) (n := (x18.1.length : Int)) (by omega) (by omega) (by omega); exact omQ')))) ?_
               have he67 := fun d => elt_mp (l := x21.1) (f := e_arr40) (i := (remI .i64 (convI .i64 which) (x18.1.length : Int))) (by (first | exact omQ | (clear hM; first | (have h9 := rem_ix (w := which) (n := (x18.1.length : Int)) (by omega) (by omega) (by omega); exact omQ')))) d
               refine spQA (And.intro he38 (And.intro he58 he67)) ?_
               have hM0 := hM; clear hM; obtain ⟨x68, hx69, hM⟩ := letk_opn hM0; clear hM0
               have hcx68 := cmU hx69
               refine callC_give hcx68 (clQA (And.intro he38 (And.intro he58 he67))) (clQA (And.intro he38 (And.intro he58 he67))) (fun hw70 => ?_)
               replace hw70 := nzQ8 hw70
               refine spQA (And.intro he38 (And.intro he58 he67)) ?_
               refine condC_intro (fun h71 => ?_) (fun h71 => ?_)
               ·rw [if_pos h71] at hM
                refine spQA (And.intro he38 (And.intro he58 (And.intro he67 h71))) ?_
                have nh71 := nzQ8 h71
                try have hr72 := mpQ nh71
                subst hM
                exact retC_view (lfQA (And.intro he38 (And.intro he58 (And.intro he67 (And.intro h4 (And.intro h6 (And.intro h12 (And.intro h27 (And.intro h29 (And.intro h31 (And.intro h33 (And.intro h35 (And.intro h43 (And.intro h45 (And.intro h54 (And.intro h56 (And.intro h59 (And.intro h65 h71))))))))))))))))))
               ·rw [if_neg (ne_true h71)] at hM
                refine spQA (And.intro he38 (And.intro he58 (And.intro he67 h71))) ?_
                have nh71 := nzQ8 h71
                try have hr73 := mpQ nh71
                have hM0 := hM; clear hM; obtain ⟨x74, hx75, hM⟩ := letk_opn hM0; clear hM0
                have hcx74 := slices_Clone_int_int_ok none (x18.1) 
                rw [← hx75] at hcx74
                refine callC_give hcx74 (clQA (And.intro he38 (And.intro he58 he67))) (clQA (And.intro he38 (And.intro he58 he67))) (fun hw76 => ?_)
                replace hw76 := nzQ8 hw76
                refine spQA (And.intro he38 (And.intro he58 he67)) ?_
                have hq77 := clone_len hx75
                replace hq77 := nzQ8 hq77
                have hM0 := hM; clear hM; obtain ⟨x78, hx79, hM⟩ := letk_opn hM0; clear hM0
                have hcx78 := slices_Sort_int_int_ok none x74 (by (exact pfQ))
                rw [← hx79] at hcx78
                refine callC_at hcx78 rfl ?_
                refine spQA (And.intro he38 (And.intro he58 he67)) ?_
                have hq80 := sortx_len hx79
                replace hq80 := nzQ8 hq80
                have hM0 := hM; clear hM; obtain ⟨x81, hx82, hM⟩ := letk_opn hM0; clear hM0
                have hcx81 := slices_Compact_int_int_ok none x78 (by (exact pfQ))
                rw [← hx82] at hcx81
                refine callC_atR hcx81 rfl ?_
                refine spQA (And.intro he38 (And.intro he58 he67)) ?_
                subst hM
                exact retC_view (lfQA (And.intro he38 (And.intro he58 (And.intro he67 (And.intro h4 (And.intro h6 (And.intro h12 (And.intro h27 (And.intro h29 (And.intro h31 (And.intro h33 (And.intro h35 (And.intro h43 (And.intro h45 (And.intro h54 (And.intro h56 (And.intro h59 (And.intro h65 h71))))))))))))))))))
              ·rw [if_pos h65] at hM
               refine spQA (And.intro he38 (And.intro he58 h65)) ?_
               have nh65 := nzQ8 h65
               try have hr83 := mpQ nh65
               subst hM
               exact retC_view (lfQA (And.intro he38 (And.intro he58 (And.intro h4 (And.intro h6 (And.intro h12 (And.intro h27 (And.intro h29 (And.intro h31 (And.intro h33 (And.intro h35 (And.intro h43 (And.intro h45 (And.intro h54 (And.intro h56 (And.intro h59 h65))))))))))))))))
            ·rw [if_pos h56] at hM
             refine spQA (And.intro he38 h56) ?_
             have nh56 := nzQ8 h56
             try have hr84 := mpQ nh56
             subst hM
             exact retC_view (lfQA (And.intro he38 (And.intro h4 (And.intro h6 (And.intro h12 (And.intro h27 (And.intro h29 (And.intro h31 (And.intro h33 (And.intro h35 (And.intro h43 (And.intro h45 (And.intro h54 h56)))))))))))))
           ·rw [if_pos h54] at hM
            refine spQA (And.intro he38 h54) ?_
            have nh54 := nzQ8 h54
            try have hr85 := mpQ nh54
            subst hM
            exact retC_view (lfQA (And.intro he38 (And.intro h4 (And.intro h6 (And.intro h12 (And.intro h27 (And.intro h29 (And.intro h31 (And.intro h33 (And.intro h35 (And.intro h43 (And.intro h45 h54))))))))))))
         ·rw [if_pos h43] at hM
          refine spQA (And.intro he38 h43) ?_
          have nh43 := nzQ8 h43
          try have hr86 := mpQ nh43
          subst hM
          exact retC_view (lfQA (And.intro he38 (And.intro h4 (And.intro h6 (And.intro h12 (And.intro h27 (And.intro h29 (And.intro h31 (And.intro h33 (And.intro h35 h43))))))))))
       ·rw [if_pos h33] at hM
        refine spQA h33 ?_
        have nh33 := nzQ8 h33
        try have hr87 := mpQ nh33
        subst hM
        exact retC_view (lfQA (And.intro h4 (And.intro h6 (And.intro h12 (And.intro h27 (And.intro h29 (And.intro h31 h33)))))))
      ·rw [if_pos h31] at hM
       refine spQA h31 ?_
       have nh31 := nzQ8 h31
       try have hr88 := mpQ nh31
       subst hM
       exact retC_view (lfQA (And.intro h4 (And.intro h6 (And.intro h12 (And.intro h27 (And.intro h29 h31))))))
     ·rw [if_pos h29] at hM
      refine spQA h29 ?_
      have nh29 := nzQ8 h29
      try have hr89 := mpQ nh29
      subst hM
      exact retC_view (lfQA (And.intro h4 (And.intro h6 (And.intro h12 (And.intro h27 h29)))))
    ·rw [if_pos h27] at hM
     refine spQA h27 ?_
     have nh27 := nzQ8 h27
     try have hr90 := mpQ nh27
     subst hM
     exact retC_view (lfQA (And.intro h4 (And.intro h6 (And.intro h12 h27))))
  ·rw [if_pos h6] at hM
   refine spQA h6 ?_
   have nh6 := nzQ8 h6
   try have hr91 := mpQ nh6
   have hM0 := hM; clear hM; obtain ⟨x92, hx93, hM⟩ := letk_opn hM0; clear hM0
   have hcx92 := cmU hx93
   refine callC_give hcx92 clQ clQ (fun hw94 => ?_)
   replace hw94 := nzQ8 hw94
   refine spQ ?_
   subst hM
   exact retC_view (lfQA (And.intro h4 h6))
 ·rw [if_pos h4] at hM
  refine spQA h4 ?_
  have nh4 := nzQ8 h4
  try have hr95 := mpQ nh4
  have hM0 := hM; clear hM; obtain ⟨x96, hx97, hM⟩ := letk_opn hM0; clear hM0
  have hcx96 := cmU hx97
  refine callC_give hcx96 clQ clQ (fun hw98 => ?_)
  replace hw98 := nzQ8 hw98
  refine spQ ?_
  subst hM
  exact retC_view (lfQA h4)
end Go.Proofs.YtjnikknlcmbcmaaGreatDoor
namespace Go.Proofs.YtjnikknlcmbcmaaGreatDoor
open Go.RowKit
theorem iter_rel {α β R S : Type} {F : (α → R) → α → R} {G : (β → S) → β → S} {d : α → R} {e : β → S} (Rel : α → β → Prop) (Q : R → S → Prop) (mu : α → Nat)
  (h : ∀ ag bg a b, Rel a b → (∀ a' b', Rel a' b' → mu a' < mu a → Q (ag a') (bg b')) → Q (F ag a) (G bg b)) : ∀ (n m : Nat) (a : α) (b : β), Rel a b → mu a < n → mu a < m → Q (iter n F d a) (iter m G e b)
 | 0, _, _, _, _, h1, _ => absurd h1 (Nat.not_lt_zero _)
 | _, 0, _, _, _, _, h1 => absurd h1 (Nat.not_lt_zero _)
 | n + 1, m + 1, a, b, hr, h1, h2 => by
  rw [iter, iter]
  exact h _ _ a b hr fun a' b' hr' hm => iter_rel Rel Q mu h n m a' b' hr' (by omega) (by omega)
theorem and1u {e : Int} (h0 : 0 ≤ e) (h1 : e ≤ 18446744073709551615) : andI .u64 e 1 = e % 2 := by
 obtain ⟨k, rfl⟩ := Int.eq_ofNat_of_zero_le h0
 unfold andI
 have e1 : (BitVec.ofInt IntKind.u64.bits (k : Int)).toNat = k := by
  show (BitVec.ofInt 64 (k : Int)).toNat = k
  rw [BitVec.toNat_ofInt]; omega
 have e2 : (BitVec.ofInt IntKind.u64.bits 1).toNat = 2 ^ 1 - 1 := by decide
 rw [BitVec.toNat_and, e1, e2, Nat.and_two_pow_sub_one_eq_mod, w64]
 omega
theorem and1i {e : Int} (h0 : 0 ≤ e) (h1 : e ≤ 9223372036854775807) : andI .i64 e 1 = e % 2 := by
 obtain ⟨k, rfl⟩ := Int.eq_ofNat_of_zero_le h0
 unfold andI
 have e1 : (BitVec.ofInt IntKind.i64.bits (k : Int)).toNat = k := by
  show (BitVec.ofInt 64 (k : Int)).toNat = k
  rw [BitVec.toNat_ofInt]; omega
 have e2 : (BitVec.ofInt IntKind.i64.bits 1).toNat = 2 ^ 1 - 1 := by decide
 rw [BitVec.toNat_and, e1, e2, Nat.and_two_pow_sub_one_eq_mod, IntKind.wrap_i64]
 omega
theorem rem_one {m : Int} (h : 1 < m) : remI .i64 1 m = 1 := by
 rw [rem_nn (by decide)]; exact Int.emod_eq_of_lt (by decide) h
theorem mod_rng {x m : Int} (h : 0 < m) : 0 ≤ x % m ∧ x % m < m := ⟨Int.emod_nonneg _ (by omega), Int.emod_lt_of_pos _ h⟩
theorem pow_rel {m : Int} (hm : 0 < m) {M1 M2 : Int → Int → Int} (h1 : ∀ a b, 0 ≤ a → a < m → 0 ≤ b → b < m → M1 a b = a * b % m) (h2 : ∀ a b, 0 ≤ a → a < m → 0 ≤ b → b < m → M2 a b = a * b % m)
  {A H : Int → Int} {U : Int} (hA : ∀ e, 0 ≤ e → e ≤ U → A e = e % 2) (hH : ∀ e, 0 ≤ e → e ≤ U → H e = e / 2) {R : Type} {out : Int → R}
  {F : (Int × Int × Int → R) → Int × Int × Int → R} {G : (Int × Int × Int → Int) → Int × Int × Int → Int} {d1 : Int × Int × Int → R} {d2 : Int × Int × Int → Int}
  (hF : ∀ ag p, F ag p = if decide (p.2.1 > 0) = true then (if (A p.2.1 == 1) = true then ag (M1 p.1 p.1, H p.2.1, M1 p.2.2 p.1) else ag (M1 p.1 p.1, H p.2.1, p.2.2)) else out p.2.2)
  (hG : ∀ ag p, G ag p = if decide (p.2.1 > 0) = true then (if (p.2.1 % 2 == 1) = true then ag (M2 p.1 p.1, p.2.1 / 2, M2 p.2.2 p.1) else ag (M2 p.1 p.1, p.2.1 / 2, p.2.2)) else p.2.2)
  {a e o : Int} (ha : 0 ≤ a ∧ a < m) (he : 0 ≤ e ∧ e ≤ U) (ho : 0 ≤ o ∧ o < m) {n k : Nat} (hn : e.toNat < n) (hk : e.toNat < k) :
  iter n F d1 (a, e, o) = out (iter k G d2 (a, e, o)) := by
 refine iter_rel (fun p q : Int × Int × Int => p = q ∧ (0 ≤ p.1 ∧ p.1 < m) ∧ (0 ≤ p.2.1 ∧ p.2.1 ≤ U) ∧ 0 ≤ p.2.2 ∧ p.2.2 < m) (fun r s => r = out s) (fun p => p.2.1.toNat) ?_ n k _ _ ⟨rfl, ha, he, ho⟩ hn hk
 rintro ag bg ⟨a, e, o⟩ q ⟨rfl, p1, p2, p3⟩ ih
 simp only at p1 p2 p3 ih
 rw [hF, hG]
 simp only
 by_cases hc : e > 0
 ·have hd : decide (e > 0) = true := by simpa using hc
  rw [if_pos hd, if_pos hd]
  have e1 := h1 a a p1.1 p1.2 p1.1 p1.2
  have e2 := h2 a a p1.1 p1.2 p1.1 p1.2
  have e3 := h1 o a p3.1 p3.2 p1.1 p1.2
  have e4 := h2 o a p3.1 p3.2 p1.1 p1.2
  rw [hA e p2.1 p2.2, hH e p2.1 p2.2, e1, e2, e3, e4]
  have hr : 0 ≤ e / 2 ∧ e / 2 ≤ U := by omega
  split
  ·exact ih _ _ ⟨rfl, mod_rng hm, hr, mod_rng hm⟩ (by show (e / 2).toNat < e.toNat; omega)
  ·exact ih _ _ ⟨rfl, mod_rng hm, hr, p3⟩ (by show (e / 2).toNat < e.toNat; omega)
 ·have hd : ¬ decide (e > 0) = true := by simpa using hc
  rw [if_neg hd, if_neg hd]
theorem ppow_eq {a e n : Int} (ha : 0 ≤ a) (hn : a < n) (h1 : 1 < n) (hn1 : n < 2305843009213693952) (he : 0 ≤ e ∧ e ≤ 18446744073709551615) : prime_pow a e n = specieref01_Pow a e n := by
 unfold prime_pow specieref01_Pow
 rw [rem_one h1]
 exact pow_rel (m := n) (by omega) (M1 := fun a b => prime_mul a b n) (M2 := fun a b => specieref01_Mul a b n) (A := fun e => andI .u64 e 1) (H := fun e => shrI .u64 e 1) (U := 18446744073709551615) (out := fun x => x)
  (fun a b x1 x2 x3 x4 => prime_mul_eq x1 x2 x3 (by omega) (by omega)) (fun a b x1 x2 x3 x4 => rmul_eq x1 x2 x3)
  (fun e x1 x2 => and1u x1 x2) (fun e x1 x2 => shr1 e) (fun ag p => rfl) (fun ag p => rfl) ⟨ha, hn⟩ he ⟨by decide, h1⟩ (Nat.lt_succ_self _) (Nat.lt_succ_self _)
theorem word_check_self {a m : Int} (h0 : 0 ≤ a) (h1 : a < m) (h2 : m < 2305843009213693952) : word_check a a m = 0 := by
 unfold word_check word_residue letk
 rw [if_neg (by simp; omega), if_neg (by simp; omega), if_pos (by simpa using h0)]
 simp [h1]
theorem wpow_eq {a e m : Int} (ha : 0 ≤ a) (hm : a < m) (hm1 : m < 2305843009213693952) (he : 0 ≤ e ∧ e ≤ 9223372036854775807) : word_Pow a e m = (specieref01_Pow a e m, 0) := by
 unfold word_Pow specieref01_Pow
 refine letk_go fun x1 h1 => ?_
 rw [word_check_self ha hm hm1] at h1
 subst h1
 rw [if_neg (by decide), if_neg (by simp; omega)]
 exact pow_rel (m := m) (by omega) (M1 := fun a b => word_mul a b m) (M2 := fun a b => specieref01_Mul a b m) (A := fun e => andI .i64 e 1) (H := fun e => shrI .i64 e 1) (U := 9223372036854775807) (out := fun x => (x, 0))
  (fun a b x1 x2 x3 x4 => word_mul_eq x1 x2 x3 (by omega) (by omega)) (fun a b x1 x2 x3 x4 => rmul_eq x1 x2 x3)
  (fun e x1 x2 => and1i x1 x2) (fun e x1 x2 => shr1i e) (fun ag p => rfl) (fun ag p => rfl) ⟨ha, hm⟩ he (rem1_rng (by omega)) (Nat.lt_succ_self _) (Nat.lt_succ_self _)
theorem getD_cast {l : List Nat} {i : Nat} : (l.map (fun n : Nat => (n : Int))).getD i default = ((l.getD i 0 : Nat) : Int) := by
 simp only [List.getD_eq_getElem?_getD, List.getElem?_map]
 cases l[i]? <;> rfl
theorem tz_eq {x : Nat} (h0 : x ≠ 0) (h1 : x < 18446744073709551616) : math_bits_TrailingZeros64 (x : Int) = (Lib.ctz 64 x : Int) := by
 obtain ⟨hlow, hk⟩ := Lib.lowest_bit 64 x h0 h1
 obtain ⟨hi, htab⟩ := Lib.deBruijn64_at _ hk
 rw [show (2 : Nat) ^ 64 = 18446744073709551616 by decide] at hlow
 unfold math_bits_TrailingZeros64
 generalize Lib.ctz 64 x = c at hlow hk hi htab
 rw [if_neg (by simp; omega)]
 have e0 : negI .u64 (x : Int) = ((18446744073709551616 - x : Nat) : Int) := by unfold negI; rw [w64]; omega
 have e1 : andI .u64 (x : Int) (negI .u64 (x : Int)) = ((2 ^ c : Nat) : Int) := by
  rw [e0, ← hlow]
  unfold andI
  have a1 : (BitVec.ofInt IntKind.u64.bits (x : Int)).toNat = x := by
   show (BitVec.ofInt 64 (x : Int)).toNat = x
   rw [BitVec.toNat_ofInt]; omega
  have a2 : (BitVec.ofInt IntKind.u64.bits ((18446744073709551616 - x : Nat) : Int)).toNat = 18446744073709551616 - x := by
   show (BitVec.ofInt 64 ((18446744073709551616 - x : Nat) : Int)).toNat = _
   rw [BitVec.toNat_ofInt]; omega
  rw [BitVec.toNat_and, a1, a2]
  have := Nat.and_le_left (n := x) (m := 18446744073709551616 - x)
  exact w_id (by omega) (by omega)
 have e2 : shrI .u64 (mulI .u64 (andI .u64 (x : Int) (negI .u64 (x : Int))) 285870213051353865) 58 = ((2 ^ c * 285870213051353865 % 18446744073709551616 / 288230376151711744 : Nat) : Int) := by
  rw [e1, shr58]
  unfold mulI
  rw [w64]
  generalize 2 ^ c = t
  omega
 rw [e2, gt_nat]
 have e3 : kg_4.getD (2 ^ c * 285870213051353865 % 18446744073709551616 / 288230376151711744) default = ((Lib.deBruijn64tab.getD (2 ^ c * 285870213051353865 % 18446744073709551616 / 288230376151711744) 0 : Nat) : Int) := by
  have hm : kg_4 = Lib.deBruijn64tab.map (fun n : Nat => (n : Int)) := by decide +kernel
  rw [hm, getD_cast]
 rw [e3]
 have e4 : Lib.deBruijn64tab.getD (2 ^ c * 285870213051353865 % 18446744073709551616 / 288230376151711744) 0 = c := htab
 rw [e4]
 clear hlow hi htab e0 e1 e2 e3 e4
 exact conv_i64 (by omega) (by omega)
def mrTail (n a d s : Int) : Bool :=
 if specieref01_Pow a d n == 1 then true else if specieref01_Pow a d n == n - 1 then true else
  iter ((s - 1).toNat + 1) (fun (ag : Int × Int → Bool) (p : Int × Int) => if decide (p.2 < s) = true then (if (specieref01_Mul p.1 p.1 n == n - 1) = true then true else ag (specieref01_Mul p.1 p.1 n, p.2 + 1)) else false) (fun _ => default) (specieref01_Pow a d n, 1)
theorem strong_loop {n a : Int} {F : (Int × Int → Bool) → Int × Int → Bool} {d : Int × Int → Bool} (hF : ∀ ag p, F ag p = if (p.1 % 2 == 0) = true then ag (p.1 / 2, p.2 + 1) else mrTail n a p.1 p.2) (m : Int) (hm : 0 ≤ m) :
  ∀ (k fuel : Nat) (s : Int), k < fuel → iter fuel F d (2 ^ k * (2 * m + 1), s) = mrTail n a (2 * m + 1) (s + k)
 | 0, fuel, s, hf => by
  obtain ⟨f, rfl⟩ : ∃ f, fuel = f + 1 := ⟨fuel - 1, by omega⟩
  rw [iter, hF]
  simp only [Int.pow_zero, Int.one_mul]
  have hd : ¬ ((2 * m + 1) % 2 == 0) = true := by
   rw [beq_iff_eq]; omega
  rw [if_neg hd]
  simp
 | k + 1, fuel, s, hf => by
  obtain ⟨f, rfl⟩ : ∃ f, fuel = f + 1 := ⟨fuel - 1, by omega⟩
  have e : (2 : Int) ^ (k + 1) * (2 * m + 1) = 2 * (2 ^ k * (2 * m + 1)) := by rw [Int.pow_succ, Int.mul_comm (2 ^ k) 2, Int.mul_assoc]
  rw [iter, hF, e]
  generalize hT : (2 : Int) ^ k * (2 * m + 1) = T
  simp only
  rw [if_pos (by rw [beq_iff_eq]; omega), show 2 * T / 2 = T by omega, ← hT, strong_loop hF m hm k f (s + 1) (by omega)]
  congr 1
  push_cast
  omega
theorem two_pow_ge (k : Nat) : k < 2 ^ k := Nat.lt_two_pow_self
theorem strong_eq {n a : Int} {k : Nat} {m : Int} (hm : 0 ≤ m) (hn : n - 1 = 2 ^ k * (2 * m + 1)) : specieref05_strong n a = mrTail n a (2 * m + 1) k := by
 unfold specieref05_strong
 rw [hn]
 have h := strong_loop (n := n) (a := a) (F := fun (ag2 : (Int × Int) → Bool) (p2 : Int × Int) => (if ((p2.1 % 2) == 0) then (ag2 ((p2.1 / 2), (p2.2 + 1))) else mrTail n a p2.1 p2.2)) (d := fun _ => default) (fun ag p => rfl) m hm k ((2 ^ k * (2 * m + 1)).toNat + 1) 0 (by
  have h1 : (2 : Int) ^ k * 1 ≤ 2 ^ k * (2 * m + 1) := Int.mul_le_mul_of_nonneg_left (by omega) (Int.le_of_lt (Int.pow_pos (by decide)))
  have h2 := two_pow_ge k
  have h3 : ((2 ^ k : Nat) : Int) = 2 ^ k := by push_cast; rfl
  omega)
 rw [Int.zero_add] at h
 rw [← h, ← hn]
 rfl
theorem comp_eq {n a d s : Int} (ha : 0 ≤ a) (han : a < n) (h1 : 1 < n) (hn : n < 2305843009213693952) (hd : 0 ≤ d ∧ d ≤ 18446744073709551615) (hs : 0 ≤ s ∧ s ≤ 64) : prime_composite a n d s = !(mrTail n a d s) := by
 unfold prime_composite mrTail
 have e1 : subI .u64 n 1 = n - 1 := by unfold subI; rw [w_id (by omega) (by omega)]
 rw [ppow_eq ha han h1 hn hd, e1, si64 hs.1 hs.2]
 simp only [letk]
 have hx := rpow_rng (x := specieref01_Pow a d n) rfl ha han (e := d)
 generalize specieref01_Pow a d n = x at hx
 by_cases c1 : (x == 1) = true
 ·rw [if_pos c1, if_pos c1]; rfl
 rw [if_neg c1, if_neg c1]
 by_cases c2 : (x == n - 1) = true
 ·rw [if_pos c2, if_pos c2]; rfl
 rw [if_neg c2, if_neg c2]
 refine iter_rel (fun p q : Int × Int => q = (p.1, p.2 + 1) ∧ (0 ≤ p.1 ∧ p.1 < n) ∧ 0 ≤ p.2) (fun r s : Bool => r = !s) (fun p => (s - 1 - p.2).toNat) ?_ _ _ _ _ ⟨rfl, hx, Int.le_refl 0⟩ (by show (s - 1 - 0).toNat < _; omega) (by show (s - 1 - 0).toNat < _; omega)
 rintro ag bg ⟨x, i⟩ q ⟨rfl, p1, p2⟩ ih
 simp only at p1 p2 ih ⊢
 by_cases hi : i < s - 1
 ·rw [if_pos (show decide (i < s - 1) = true by simpa using hi), if_pos (show decide (i + 1 < s) = true by simp only [decide_eq_true_eq]; omega)]
  have e2 := prime_mul_eq p1.1 p1.2 p1.1 (by omega) (show n ≤ 18446744073709551615 by omega)
  have e3 := rmul_eq p1.1 p1.2 p1.1
  rw [e2, e3]
  split
  ·rfl
  ·exact ih _ _ ⟨rfl, mod_rng (by omega), by show 0 ≤ i + 1; omega⟩ (by show (s - 1 - (i + 1)).toNat < (s - 1 - i).toNat; omega)
 ·rw [if_neg (show ¬ decide (i < s - 1) = true by simpa using hi), if_neg (show ¬ decide (i + 1 < s) = true by simp only [decide_eq_true_eq]; omega)]
  rfl
theorem base_at {p : Int} : gt kg_0 p = gt ([2, 3, 5, 7, 11, 13, 17, 19, 23, 29, 31, 37] : List Int) p := rfl
theorem is_eq {n : Int} (hn : n < 2305843009213693952) : prime_Is n = specieref05_Is n := by
 unfold prime_Is specieref05_Is
 by_cases h2 : n < 2
 ·rw [if_pos (by simpa using h2), if_pos (by simpa using h2)]
 rw [if_neg (by simpa using h2), if_neg (by simpa using h2)]
 have ec : convI .u64 n = n := conv_u64 (by omega) (by omega)
 rw [ec]
 refine iter_rel (fun p q : Int => p = q ∧ 0 ≤ p ∧ p ≤ 12 ∧ NoDiv n p) (fun r s : Bool => r = s) (fun p => (12 - p).toNat) ?_ _ _ _ _ ⟨rfl, by decide, by decide, NoDiv_zero⟩ (by decide) (by decide)
 rintro ag bg p q ⟨rfl, p1, p2, p3⟩ ih
 by_cases hp : p < 12
 ·rw [if_pos (show decide (p < 12) = true by simpa using hp), if_pos (show decide (p < 12) = true by simpa using hp), ← base_at]
  by_cases hr : (remI .u64 n (gt kg_0 p) == 0) = true
  ·rw [if_pos hr, if_pos (show (remI .i64 n (gt kg_0 p) == 0) = true from hr)]
  ·rw [if_neg hr, if_neg (show ¬ (remI .i64 n (gt kg_0 p) == 0) = true from hr)]
   exact ih _ _ ⟨rfl, by omega, by omega, NoDiv_step p3 (by omega) p1 hp (by simpa using hr)⟩ (by omega)
 ·rw [if_neg (show ¬ decide (p < 12) = true by simpa using hp), if_neg (show ¬ decide (p < 12) = true by simpa using hp), if_neg (show ¬ decide (n ≥ 2305843009213693952) = true by simp only [decide_eq_true_eq]; omega)]
  have h37 := NoDiv_all p3 (by omega) (by omega)
  have es : subI .u64 n 1 = n - 1 := by unfold subI; rw [w_id (by omega) (by omega)]
  rw [es]
  obtain ⟨x, hx⟩ := Int.eq_ofNat_of_zero_le (show 0 ≤ n - 1 by omega)
  obtain ⟨m, hm, hk⟩ := Lib.ctzFrom_spec 64 x (by omega) (by omega)
  have ez : math_bits_TrailingZeros64 (n - 1) = (Lib.ctzFrom 64 x : Nat) := by
   rw [hx, tz_eq (by omega) (by omega)]
   unfold Lib.ctz
   rw [if_neg (by omega)]
  simp only [letk, ez]
  generalize Lib.ctzFrom 64 x = k at hm hk
  have hxi : n - 1 = 2 ^ k * (2 * (m : Int) + 1) := by rw [hx, hm]; push_cast; rfl
  have esh : shrI .u64 (n - 1) (k : Int) = 2 * (m : Int) + 1 := by
   rw [shr_eq (m := k) (by rw [Int.toNat_natCast]; show min k 64 = k; omega), hxi]
   exact Int.mul_ediv_cancel_left _ (Int.ne_of_gt (Int.pow_pos (by decide)))
  have hpk : (1 : Int) ≤ 2 ^ k := by
   have h3 : ((2 ^ k : Nat) : Int) = 2 ^ k := by push_cast; rfl
   have := two_pow_ge k
   omega
  have hd : 2 * (m : Int) + 1 ≤ n - 1 := by
   have h1 : (1 : Int) * (2 * m + 1) ≤ 2 ^ k * (2 * m + 1) := Int.mul_le_mul_of_nonneg_right hpk (by omega)
   omega
  rw [esh]
  refine iter_rel (fun p q : Int => p = q ∧ 0 ≤ p) (fun r s : Bool => r = s) (fun p => (12 - p).toNat) ?_ _ _ _ _ ⟨rfl, by decide⟩ (by decide) (by decide)
  rintro ag bg p q ⟨rfl, p1⟩ ih
  by_cases hp : p < 12
  ·rw [if_pos (show decide (p < 12) = true by simpa using hp), if_pos (show decide (p < 12) = true by simpa using hp), ← base_at]
   obtain ⟨b0, b1⟩ := kg2_rng p1 hp
   rw [comp_eq (by omega) (by omega) (by omega) hn (by omega) (by omega), strong_eq (by omega) hxi]
   split
   ·rfl
   ·exact ih _ _ ⟨rfl, by omega⟩ (by omega)
  ·rw [if_neg (show ¬ decide (p < 12) = true by simpa using hp), if_neg (show ¬ decide (p < 12) = true by simpa using hp)]
end Go.Proofs.YtjnikknlcmbcmaaGreatDoor
namespace Go.Proofs.YtjnikknlcmbcmaaGreatDoor
open Go.RowKit
theorem iteF {c : Prop} [Decidable c] {a : Bool} : ((if c then false else a) = true) ↔ (¬ c ∧ a = true) := by
 by_cases h : c <;> simp [h]
theorem iteA {c : Prop} [Decidable c] {a : Bool} : ((if c then a else false) = true) ↔ (c ∧ a = true) := by
 by_cases h : c <;> simp [h]
theorem lk {α β : Type} {a : α} {f : α → β} : letk a f = f a := rfl
theorem is_ge {n : Int} (h : prime_Is n = true) : 2 ≤ n := by
 unfold prime_Is at h
 rw [iteF] at h
 have := h.1
 simp only [decide_eq_true_eq] at this
 omega
theorem group_eq (g : S_api_Group) : group_Valid g = specieref10_Valid g := by
 rw [Bool.eq_iff_iff]
 unfold group_Valid specieref10_Valid
 simp only [lk, iteF, iteA, decide_eq_true_eq, beq_iff_eq, bne_iff_ne, ne_eq, Bool.not_eq_true', Bool.not_eq_false, Decidable.not_not]
 constructor
 ·rintro ⟨h1, h2, h3, h4, h5, h6, h7, h8, h9, h10⟩
  have hp := is_ge h4
  have hq := q_le (p := g.P) (by omega) (by omega) (show 3 ≤ g.Q by omega) h6
  rw [wpow_eq (by omega) (by omega) (by omega) (by omega)] at h10
  rw [is_eq (by omega)] at h4
  rw [is_eq (by omega)] at h5
  exact ⟨by omega, h1, h2, h3, h6, h7, h8, h4, h5, h10⟩
 ·rintro ⟨h0, h1, h2, h3, h6, h7, h8, h4, h5, h10⟩
  have hq := q_le (p := g.P) (by omega) (by omega) (show 3 ≤ g.Q by omega) h6
  have hw := wpow_eq (a := g.G) (e := g.Q) (m := g.P) (by omega) (by omega) (by omega) (by omega)
  exact ⟨h1, h2, h3, by rw [is_eq (by omega)]; exact h4, by rw [is_eq (by omega)]; exact h5, h6, h7, h8, by rw [hw], by rw [hw]; exact h10⟩
theorem okG_of {g : S_api_Group} (h : specieref10_Valid g = true) : okG g := (rvalid_cf g).1 h
theorem elem_eq {g : S_api_Group} (h : okG g) (x : Int) : group_element g x = specieref10_Member g x := by
 obtain ⟨h1, h2, h3, h4, h5, h6⟩ := h
 rw [Bool.eq_iff_iff]
 unfold group_element specieref10_Member
 simp only [lk, iteF, iteA, decide_eq_true_eq, beq_iff_eq]
 constructor
 ·rintro ⟨a1, a2, a3⟩
  rw [wpow_eq (by omega) (by omega) (by omega) (by omega)] at a3
  exact ⟨by omega, by omega, a3⟩
 ·rintro ⟨a1, a2, a3⟩
  exact ⟨by omega, by omega, by rw [wpow_eq (by omega) (by omega) (by omega) (by omega)]; exact a3⟩
theorem contains_eq {g : S_api_Group} (h : specieref10_Valid g = true) (x : Int) : group_Contains g x = specieref10_Member g x := by
 unfold group_Contains
 simp only [lk, group_eq, h, if_true]
 exact elem_eq (okG_of h) x
theorem base_eq (b : S_api_Bases) : base_Valid b = specieref11_Valid b := by
 rw [Bool.eq_iff_iff]
 unfold base_Valid specieref11_Valid
 rw [show ((3 : Int) - 0).toNat + 1 = 4 from rfl]
 simp only [lk, group_eq]
 by_cases h : specieref10_Valid b.Group = true
 ·simp only [iter, h, iteF, iteA, contains_eq h, decide_eq_true_eq, beq_iff_eq, bne_iff_ne, ne_eq, Bool.not_eq_true', Bool.not_eq_false, Int.reduceLT, Int.reduceAdd, gt, Int.reduceToNat, List.getD_cons_zero, List.getD_cons_succ, if_true, Bool.not_true, Bool.false_eq_true, not_false_eq_true, true_and, and_true, if_false, Decidable.not_not]
  constructor
  ·rintro ⟨a1, a2, a3, a4, a5, a6⟩; exact ⟨a1, a3, a5, a2, a4, a6⟩
  ·rintro ⟨a1, a3, a5, a2, a4, a6⟩; exact ⟨a1, a2, a3, a4, a5, a6⟩
 ·simp only [h, Bool.not_false, if_true, if_false, Bool.false_eq_true]
theorem base_ok {b : S_api_Bases} (h : specieref11_Valid b = true) : specieref10_Valid b.Group = true ∧ okG b.Group := by
 have h0 := h
 unfold specieref11_Valid at h
 have h1 := (letB h rfl).1
 exact ⟨h1, okG_of h1⟩
theorem wmul_eq {a b m : Int} (ha : 0 ≤ a ∧ a < m) (hb : 0 ≤ b ∧ b < m) (hm : m < 2305843009213693952) : word_Mul a b m = (a * b % m, 0) := by
 unfold word_Mul word_check word_residue
 simp only [lk]
 rw [if_neg (show ¬ decide (m < 1) = true by simp only [decide_eq_true_eq]; omega), if_neg (show ¬ decide (m ≥ 2305843009213693952) = true by simp only [decide_eq_true_eq]; omega)]
 simp [ha.1, ha.2, hb.1, hb.2, word_mul_eq ha.1 ha.2 hb.1 (by omega) (by omega)]
end Go.Proofs.YtjnikknlcmbcmaaGreatDoor
namespace Go.Proofs.YtjnikknlcmbcmaaGreatDoor
open Go.RowKit
set_option linter.unusedVariables false
set_option linter.unusedSimpArgs false
theorem pow_md (a m : Int) : ∀ n : Nat, (a % m) ^ n % m = a ^ n % m
 | 0 => by rw [Int.pow_zero, Int.pow_zero]
 | n + 1 => by rw [Int.pow_succ, Int.pow_succ, Int.mul_emod, pow_md a m n, Int.emod_emod_of_dvd _ (Int.dvd_refl m), ← Int.mul_emod]
theorem mul_md (a b m : Int) : a % m * (b % m) % m = a * b % m := (Int.mul_emod a b m).symm
theorem mul_mdl (a b m : Int) : a % m * b % m = a * b % m := by rw [Int.mul_emod, Int.emod_emod_of_dvd _ (Int.dvd_refl m), ← Int.mul_emod]
theorem pow_ad (a : Int) (i : Nat) : ∀ j : Nat, a ^ (i + j) = a ^ i * a ^ j
 | 0 => by rw [Int.pow_zero, Int.mul_one, Nat.add_zero]
 | j + 1 => by rw [← Nat.add_assoc, Int.pow_succ, Int.pow_succ, pow_ad a i j, Int.mul_assoc]
theorem pow_mu (a : Int) (i : Nat) : ∀ j : Nat, a ^ (i * j) = (a ^ i) ^ j
 | 0 => by rw [Int.pow_zero, Nat.mul_zero, Int.pow_zero]
 | j + 1 => by rw [Nat.mul_succ, pow_ad, Int.pow_succ, pow_mu a i j]
theorem mul_pw (a b : Int) : ∀ j : Nat, (a * b) ^ j = a ^ j * b ^ j
 | 0 => by simp
 | j + 1 => by
  rw [Int.pow_succ, Int.pow_succ, Int.pow_succ, mul_pw a b j]
  simp only [Int.mul_assoc]
  congr 1
  rw [Int.mul_left_comm]
theorem one_pw : ∀ j : Nat, (1 : Int) ^ j = 1
 | 0 => rfl
 | j + 1 => by rw [Int.pow_succ, one_pw j]; rfl
theorem rpow_spec {a e m : Int} (ha : 0 ≤ a) (hm : a < m) (h1 : 1 < m) (he : 0 ≤ e) : specieref01_Pow a e m = a ^ e.toNat % m := by
 unfold specieref01_Pow
 rw [rem_one h1]
 refine iter_rule (P := fun p : Int × Int × Int => (0 ≤ p.1 ∧ p.1 < m) ∧ 0 ≤ p.2.1 ∧ (0 ≤ p.2.2 ∧ p.2.2 < m) ∧ p.2.2 * p.1 ^ p.2.1.toNat % m = a ^ e.toNat % m) (Q := fun r => r = a ^ e.toNat % m) (meas := fun p => p.2.1.toNat) ?_ _ _ ⟨⟨ha, hm⟩, he, ⟨by show (0 : Int) ≤ 1; decide, h1⟩, by show 1 * a ^ e.toNat % m = _; rw [Int.one_mul]⟩ (by show e.toNat < e.toNat + 1; omega)
 rintro ag ⟨x, k, o⟩ ⟨p1, p2, p3, p4⟩ ih
 simp only at p1 p2 p3 p4 ih
 simp only [lk]
 by_cases hk : k > 0
 ·rw [if_pos (by simpa using hk)]
  have hx := rmul_eq p1.1 p1.2 p1.1
  have ho := rmul_eq p3.1 p3.2 p1.1
  have r1 := mod_rng (x := x * x) (show 0 < m by omega)
  have r2 := mod_rng (x := o * x) (show 0 < m by omega)
  have hk2 : k.toNat = k.toNat / 2 + k.toNat / 2 + k.toNat % 2 := by omega
  have hk3 : (k / 2).toNat = k.toNat / 2 := by omega
  have hpw : (x * x % m) ^ (k / 2).toNat % m = x ^ (k.toNat / 2 + k.toNat / 2) % m := by rw [pow_md, hk3, mul_pw, ← pow_ad]
  rw [hx, ho]
  by_cases hc : k % 2 = 1
  ·rw [if_pos (by simpa using hc)]
   refine ih _ ⟨r1, by show 0 ≤ k / 2; omega, r2, ?_⟩ (by show (k / 2).toNat < k.toNat; omega)
   show o * x % m * (x * x % m) ^ (k / 2).toNat % m = _
   rw [Int.mul_emod, hpw, mul_mdl, mul_md, ← p4, Int.mul_assoc]
   have e9 : k.toNat = k.toNat / 2 + k.toNat / 2 + 1 := by omega
   have e8 : x ^ k.toNat = x * x ^ (k.toNat / 2 + k.toNat / 2) := by
    conv => lhs; rw [e9]
    rw [Int.pow_succ, Int.mul_comm]
   rw [e8]
  ·rw [if_neg (by simpa using hc)]
   refine ih _ ⟨r1, by show 0 ≤ k / 2; omega, p3, ?_⟩ (by show (k / 2).toNat < k.toNat; omega)
   show o * (x * x % m) ^ (k / 2).toNat % m = _
   rw [Int.mul_emod, hpw, mul_md, ← p4]
   congr 3
   omega
 ·rw [if_neg (by simpa using hk)]
  have : k = 0 := by omega
  subst this
  rw [show ((0 : Int)).toNat = 0 from rfl, Int.pow_zero, Int.mul_one, Int.emod_eq_of_lt p3.1 p3.2] at p4
  exact p4
def El (g : S_api_Group) (x : Int) : Prop := 1 ≤ x ∧ x < g.P ∧ x ^ g.Q.toNat % g.P = 1
theorem mem_iff {g : S_api_Group} (h : okG g) (x : Int) : specieref10_Member g x = true ↔ El g x := by
 obtain ⟨h1, h2, h3, h4, h5, h6⟩ := h
 unfold specieref10_Member El
 simp only [lk, iteA, decide_eq_true_eq, beq_iff_eq]
 constructor
 ·rintro ⟨a1, a2, a3⟩
  rw [rpow_spec (by omega) a2 (by omega) (by omega)] at a3
  exact ⟨a1, a2, a3⟩
 ·rintro ⟨a1, a2, a3⟩
  exact ⟨a1, a2, by rw [rpow_spec (by omega) a2 (by omega) (by omega)]; exact a3⟩
theorem el_of {g : S_api_Group} (h : okG g) {x : Int} (hx : x ^ g.Q.toNat % g.P = 1) : El g (x % g.P) := by
 obtain ⟨h1, h2, h3, h4, h5, h6⟩ := h
 have hr := mod_rng (x := x) (show 0 < g.P by omega)
 have hp := pow_md x g.P g.Q.toNat
 rw [hx] at hp
 refine ⟨?_, hr.2, hp⟩
 rcases Int.lt_or_eq_of_le hr.1 with h | h
 ·omega
 ·exfalso
  rw [← h] at hp
  obtain ⟨n, hn⟩ : ∃ n, g.Q.toNat = n + 1 := ⟨g.Q.toNat - 1, by omega⟩
  rw [hn, Int.pow_succ, Int.mul_zero, Int.zero_emod] at hp
  cases hp
theorem el_one {g : S_api_Group} (h : okG g) : El g 1 := by
 obtain ⟨h1, h2, h3, h4, h5, h6⟩ := h
 exact ⟨by decide, by omega, by rw [one_pw]; exact Int.emod_eq_of_lt (by decide) (by omega)⟩
theorem el_pow {g : S_api_Group} (h : okG g) {x : Int} (hx : El g x) (n : Nat) : El g (x ^ n % g.P) := by
 refine el_of h ?_
 have h1 : (1 : Int) < g.P := by have := h.2.1; omega
 rw [← pow_mu, Nat.mul_comm, pow_mu, ← pow_md, hx.2.2, one_pw]
 exact Int.emod_eq_of_lt (by decide) h1
theorem el_mul {g : S_api_Group} (h : okG g) {x y : Int} (hx : El g x) (hy : El g y) : El g (x * y % g.P) := by
 refine el_of h ?_
 have h1 : (1 : Int) < g.P := by have := h.2.1; omega
 rw [mul_pw, Int.mul_emod, hx.2.2, hy.2.2]
 exact Int.emod_eq_of_lt (by decide) h1
end Go.Proofs.YtjnikknlcmbcmaaGreatDoor
namespace Go.Proofs.YtjnikknlcmbcmaaGreatDoor
open Go.RowKit
set_option linter.unusedVariables false
set_option linter.unusedSimpArgs false
theorem wred_eq {e m : Int} (h0 : 0 ≤ e) (h1 : e < m) (hm : m < 2305843009213693952) : word_Reduce e m = (e, 0) := by
 unfold word_Reduce word_check word_residue
 simp only [lk]
 rw [if_neg (show ¬ decide (m < 1) = true by simp only [decide_eq_true_eq]; omega), if_neg (show ¬ decide (m ≥ 2305843009213693952) = true by simp only [decide_eq_true_eq]; omega)]
 have e1 : e % m = e := Int.emod_eq_of_lt h0 h1
 have hm0 : 0 < m := by omega
 have hn : ¬ e < 0 := by omega
 simp [rem_nn h0, e1, hm0, hn]
theorem gel_iff {g : S_api_Group} (h : okG g) (x : Int) : group_element g x = true ↔ El g x := by rw [elem_eq h]; exact mem_iff h x
theorem chk1 {g : S_api_Group} (hv : specieref10_Valid g = true) {a : Int} (ha : El g a) : group_check g [a] = 0 := by
 have h9 := (gel_iff (okG_of hv) a).2 ha
 unfold group_check
 simp only [lk, group_eq, hv]
 rw [if_neg (by decide)]
 show iter 2 _ _ 0 = 0
 simp [iter, gt, h9]
theorem chk2 {g : S_api_Group} (hv : specieref10_Valid g = true) {a b : Int} (ha : El g a) (hb : El g b) : group_check g [a, b] = 0 := by
 have h9 := (gel_iff (okG_of hv) a).2 ha
 have h8 := (gel_iff (okG_of hv) b).2 hb
 unfold group_check
 simp only [lk, group_eq, hv]
 rw [if_neg (by decide)]
 show iter 3 _ _ 0 = 0
 simp [iter, gt, h9, h8]
theorem gpow_eq {g : S_api_Group} (hv : specieref10_Valid g = true) {a e : Int} (ha : El g a) (h0 : 0 ≤ e) (h1 : e < g.Q) : group_Power g a e = (a ^ e.toNat % g.P, 0) := by
 obtain ⟨k1, k2, k3, k4, k5, k6⟩ := okG_of hv
 have h5 := ha.1
 unfold group_Power
 rw [letk_x, chk1 hv ha, if_neg (by decide), letk_x, wred_eq h0 h1 (by omega), letk_x, wpow_eq (by omega) ha.2.1 (by omega) (by omega), rpow_spec (by omega) ha.2.1 (by omega) h0]
theorem gmul_eq {g : S_api_Group} (hv : specieref10_Valid g = true) {a b : Int} (ha : El g a) (hb : El g b) : group_Mul g a b = (a * b % g.P, 0) := by
 obtain ⟨k1, k2, k3, k4, k5, k6⟩ := okG_of hv
 have h5 := ha.1
 have h6 := hb.1
 unfold group_Mul
 rw [letk_x, chk2 hv ha hb, if_neg (by decide), letk_x, wmul_eq ⟨by omega, ha.2.1⟩ ⟨by omega, hb.2.1⟩ (by omega)]
theorem rpw_eq {g : S_api_Group} (hv : specieref10_Valid g = true) {a e : Int} (ha : El g a) (h0 : 0 ≤ e) (h1 : e < g.Q) : specieref10_Power g a e = a ^ e.toNat % g.P := by
 obtain ⟨k1, k2, k3, k4, k5, k6⟩ := okG_of hv
 have h5 := ha.1
 unfold specieref10_Power
 rw [letk_x, letk_x, rred_eq (by omega) (by omega), Int.emod_eq_of_lt h0 h1, rpow_spec (by omega) ha.2.1 (by omega) h0]
theorem base_el {b : S_api_Bases} (h : specieref11_Valid b = true) : specieref10_Valid b.Group = true ∧ El b.Group b.G1 ∧ El b.Group b.G2 := by
 obtain ⟨h1, h2⟩ := base_ok h
 unfold specieref11_Valid at h
 obtain ⟨h1', h⟩ := letB h rfl
 obtain ⟨_, h⟩ := ifB (ifB h).2
 obtain ⟨_, h⟩ := ifB h
 obtain ⟨_, h⟩ := ifB h
 obtain ⟨h3, h⟩ := letB h rfl
 obtain ⟨h4, h⟩ := letB (ifB h).2 rfl
 exact ⟨h1, (mem_iff h2 _).1 h3, (mem_iff h2 _).1 h4⟩
def Sc (b : S_api_Bases) (x : Int) : Prop := 0 ≤ x ∧ x < b.Group.Q
theorem pair_eq {b : S_api_Bases} (h : specieref11_Valid b = true) {x y : Int} (hx : Sc b x) (hy : Sc b y) : specieref31_pair b x y = (b.G1 ^ x.toNat % b.Group.P) * (b.G2 ^ y.toNat % b.Group.P) % b.Group.P := by
 obtain ⟨hv, e1, e2⟩ := base_el h
 have p1 := el_pow (okG_of hv) e1 x.toNat
 have p2 := el_pow (okG_of hv) e2 y.toNat
 have q1 := p1.1
 have q2 := p2.1
 unfold specieref31_pair specieref10_Mul
 rw [letk_x, letk_x, letk_x, letk_x, rpw_eq hv e1 hx.1 hx.2, rpw_eq hv e2 hy.1 hy.2, rmul_eq (by omega) p1.2.1 (by omega)]
theorem pair_el {b : S_api_Bases} (h : specieref11_Valid b = true) {x y : Int} (hx : Sc b x) (hy : Sc b y) : El b.Group (specieref31_pair b x y) := by
 obtain ⟨hv, e1, e2⟩ := base_el h
 rw [pair_eq h hx hy]
 exact el_mul (okG_of hv) (el_pow (okG_of hv) e1 _) (el_pow (okG_of hv) e2 _)
theorem prod_eq {b : S_api_Bases} (h : specieref11_Valid b = true) {x y : Int} (hx : Sc b x) (hy : Sc b y) : product_Product b.Group [b.G1, b.G2] [x, y] = (specieref31_pair b x y, 0) := by
 obtain ⟨hv, e1, e2⟩ := base_el h
 have hg := okG_of hv
 have p1 := el_pow hg e1 x.toNat
 have p2 := el_pow hg e2 y.toNat
 have c1 : group_Contains b.Group b.G1 = true := by rw [contains_eq hv]; exact (mem_iff hg _).2 e1
 have c2 : group_Contains b.Group b.G2 = true := by rw [contains_eq hv]; exact (mem_iff hg _).2 e2
 have a1 : product_elements b.Group [b.G1, b.G2] = true := by
  unfold product_elements slices_ContainsFunc_int_int_at_product_elements_1 slices_IndexFunc_int_int_at_product_elements_1 product_elements_1
  simp only [lk]
  show (!(decide (iter 3 _ _ 0 ≥ 0))) = true
  simp [iter, gt, c1, c2]
 have n1 : ¬ x < 0 := by have := hx.1; omega
 have n2 : ¬ y < 0 := by have := hy.1; omega
 have n3 : ¬ b.Group.Q ≤ x := by have := hx.2; omega
 have n4 : ¬ b.Group.Q ≤ y := by have := hy.2; omega
 have a2 : product_exponents b.Group [x, y] = true := by
  unfold product_exponents slices_ContainsFunc_int_int_at_product_exponents_1 slices_IndexFunc_int_int_at_product_exponents_1 product_exponents_1
  simp only [lk]
  show (!(decide (iter 3 _ _ 0 ≥ 0))) = true
  simp [iter, gt, n1, n2, n3, n4]
 have m1 : (1 : Int) * (b.G1 ^ x.toNat % b.Group.P) % b.Group.P = b.G1 ^ x.toNat % b.Group.P := by rw [Int.one_mul, Int.emod_emod_of_dvd _ (Int.dvd_refl _)]
 have a3 : product_powers b.Group [b.G1, b.G2] [x, y] = (specieref31_pair b x y, 0) := by
  have w1 := gpow_eq hv e1 hx.1 hx.2
  have w2 := gpow_eq hv e2 hy.1 hy.2
  have w3 := gmul_eq hv (el_one hg) p1
  have w4 := gmul_eq hv p1 p2
  rw [m1] at w3
  unfold product_powers
  simp only [lk]
  show iter 3 _ _ (1, 0) = _
  simp [iter, gt, w1, w2, w3, w4, pair_eq h hx hy]
 unfold product_Product
 rw [letk_x, group_eq, hv, if_neg (by decide), if_neg (by simp), if_neg (by simp), letk_x, a1, if_neg (by decide), letk_x, a2, if_neg (by decide), letk_x, a3]
theorem leaf_eq {b : S_api_Bases} (h : specieref11_Valid b = true) {l : List Int} (hx : Sc b (gt l 0)) (hy : Sc b (gt l 1)) : coin_leaf b l = specieref31_pair b (gt l 0) (gt l 1) := by
 unfold coin_leaf
 rw [letk_x, show arrN 2 l = [gt l 0, gt l 1] from rfl, prod_eq h hx hy]
theorem cmsg_eq {b : S_api_Bases} (h : specieref11_Valid b = true) {u : Int} (hx : Sc b u) : coin_message b u = specieref31_Message b u := by
 obtain ⟨hv, e1, e2⟩ := base_el h
 have := (okG_of hv).1
 unfold coin_message specieref31_Message
 rw [letk_x, letk_x, prod_eq h hx ⟨by decide, by omega⟩]
end Go.Proofs.YtjnikknlcmbcmaaGreatDoor
namespace Go.Proofs.YtjnikknlcmbcmaaGreatDoor
open Go.RowKit
set_option linter.unusedVariables false
set_option linter.unusedSimpArgs false
theorem gtm {α β : Type} [Inhabited α] [Inhabited β] (f : α → β) {l : List α} {k : Nat} (h : k < l.length) : gt (l.map f) (k : Int) = f (gt l (k : Int)) := by
 simp [gt, List.getD, h]
theorem map_iterG {α β R : Type} [Inhabited α] [Inhabited R] (F : α → β) (out : List β → R) (l : List α) : iter (((l.length : Int) - 0).toNat + 1) (fun (ag : (Int × List β) → R) (p : Int × List β) => if (decide (p.1 < (l.length : Int))) then ag ((p.1 + 1), (p.2 ++ ([F (gt l p.1)] : List β))) else out p.2) (fun _ => default) (0, ([] : List β)) = out (l.map F) := by
 refine (iter_rule (P := fun p : Int × List β => 0 ≤ p.1 ∧ p.1 ≤ l.length ∧ p.2 = (l.take p.1.toNat).map F) (Q := fun x => x = out (l.map F)) (meas := fun p => ((l.length : Int) - p.1).toNat) ?_ _ _ ⟨by simp, by simp, by simp⟩ (by simp))
 rintro ag ⟨i, o⟩ ⟨h0, h1, h2⟩ ih
 dsimp only at h0 h1 h2
 subst h2
 by_cases hi : i < (l.length : Int)
 ·rw [if_pos (by simpa using hi)]
  refine ih _ ⟨by dsimp only; omega, by dsimp only; omega, ?_⟩ (by dsimp only; omega)
  dsimp only
  obtain ⟨k, rfl⟩ : ∃ k : Nat, i = k := ⟨i.toNat, by omega⟩
  have hk : k < l.length := by omega
  rw [show ((k : Int) + 1).toNat = k + 1 by omega, List.take_succ_eq_append_getElem hk, List.map_append]
  congr 1
  simp [gt, List.getD, hk]
 ·rw [if_neg (by simpa using hi)]
  dsimp only
  rw [List.take_of_length_le (by omega)]
def prs (b : S_api_Bases) (X : List (List Int)) : List Int := X.map fun l => specieref31_pair b (gt l 0) (gt l 1)
theorem rleaves_eq (b : S_api_Bases) (X : List (List Int)) : specieref31_Leaves b X = prs b X := map_iterG (fun l => specieref31_pair b (gt l 0) (gt l 1)) (fun x => x) X
theorem has_iff {l : List Int} {x : Int} : specieref31_has l x = true ↔ ∃ j : Nat, j < l.length ∧ gt l (j : Int) = x := by
 unfold specieref31_has
 refine iter_rule (P := fun p : Int => ∃ k : Nat, p = k ∧ ∀ j : Nat, j < k → gt l (j : Int) ≠ x) (Q := fun r => r = true ↔ ∃ j : Nat, j < l.length ∧ gt l (j : Int) = x) (meas := fun p => ((l.length : Int) - p).toNat) ?_ _ _ ⟨0, rfl, fun j h => absurd h (by omega)⟩ (by simp)
 rintro ag p ⟨k, rfl, h⟩ ih
 by_cases hk : k < l.length
 ·rw [if_pos (by simpa using hk)]
  by_cases he : gt l (k : Int) = x
  ·rw [if_pos (by simpa using he)]
   exact ⟨fun _ => ⟨k, hk, he⟩, fun _ => rfl⟩
  ·rw [if_neg (by simpa using he)]
   refine ih _ ⟨k + 1, by push_cast; rfl, fun j hj => ?_⟩ (by omega)
   rcases Nat.lt_succ_iff_lt_or_eq.1 hj with h1 | rfl
   ·exact h j h1
   ·exact he
 ·rw [if_neg (by simpa using hk)]
  exact ⟨fun e => absurd e (by decide), fun ⟨j, hj, e⟩ => absurd e (h j (by omega))⟩
def Df (L : List Int) (j : Nat) : Prop := ∀ k : Nat, k < j → gt L (k : Int) ≠ gt L (j : Int)
theorem has_take {L : List Int} {j : Nat} (hj : j < L.length) : specieref31_has (sl L 0 (j : Int)) (gt L (j : Int)) = false ↔ Df L j := by
 have hl : (sl L 0 (j : Int)).length = j := by rw [sl_len]; simp; omega
 have hg : ∀ k : Nat, k < j → gt (sl L 0 (j : Int)) (k : Int) = gt L (k : Int) := fun k hk => by
  simp [sl, gt, List.getD, hk]
 rw [← Bool.not_eq_true, has_iff, hl]
 constructor
 ·intro h k hk he
  exact h ⟨k, hk, by rw [hg k hk]; exact he⟩
 ·rintro h ⟨k, hk, he⟩
  rw [hg k hk] at he
  exact h k hk he
def ScN (b : S_api_Bases) (X : List (List Int)) (j : Nat) : Prop := Sc b (gt (gt X (j : Int)) 0) ∧ Sc b (gt (gt X (j : Int)) 1)
theorem cscal_iff {b : S_api_Bases} {x : Int} : coin_scalar b x = true ↔ Sc b x := by
 unfold coin_scalar Sc
 rw [iteA]; simp
theorem rscal_iff {b : S_api_Bases} {x : Int} : specieref31_Scalar b.Group x = true ↔ Sc b x := by
 unfold specieref31_Scalar Sc
 rw [iteA]; simp
def Pairs (b : S_api_Bases) (X : List (List Int)) : Prop := ∀ j : Nat, j < X.length → ScN b X j ∧ Df (prs b X) j
theorem rloop {b : S_api_Bases} {X : List (List Int)} : (iter (((X.length : Int) - 0).toNat + 1) (fun (ag25 : Int → Bool) (p25 : Int) => (if (decide (p25 < (X.length : Int))) then (letk (specieref31_Scalar (b.Group) (gt (gt X p25) 0)) (fun (x29 : Bool) => (if (!x29) then false else (letk (specieref31_Scalar (b.Group) (gt (gt X p25) 1)) (fun (x33 : Bool) => (if (!x33) then false else (ag25 (p25 + 1)))))))) else (letk (specieref31_Leaves b X) (fun (x41 : (List Int)) => (iter (((x41.length : Int) - 0).toNat + 1) (fun (ag44 : Int → Bool) (p44 : Int) => (if (decide (p44 < (x41.length : Int))) then (letk (specieref31_has (sl x41 0 p44) (gt x41 p44)) (fun (x48 : Bool) => (if x48 then false else (ag44 (p44 + 1))))) else true)) (fun _ => default) 0))))) (fun _ => default) 0) = true ↔ Pairs b X := by
 simp only [lk]
 refine iter_rule (P := fun p : Int => ∃ k : Nat, p = k ∧ k ≤ X.length ∧ ∀ j : Nat, j < k → ScN b X j) (Q := fun r => r = true ↔ Pairs b X) (meas := fun p => ((X.length : Int) - p).toNat) ?_ _ _ ⟨0, rfl, Nat.zero_le _, fun j h => absurd h (by omega)⟩ (by simp)
 rintro ag p ⟨k, rfl, hk9, h⟩ ih
 by_cases hk : k < X.length
 ·rw [if_pos (by simpa using hk)]
  have no : ¬ ScN b X k → (false = true ↔ Pairs b X) := fun hn => ⟨fun e => absurd e (by decide), fun hp => absurd (hp k hk).1 hn⟩
  by_cases h1 : Sc b (gt (gt X (k : Int)) 0)
  ·rw [if_neg (by rw [rscal_iff.2 h1]; decide)]
   by_cases h2 : Sc b (gt (gt X (k : Int)) 1)
   ·rw [if_neg (by rw [rscal_iff.2 h2]; decide)]
    refine ih _ ⟨k + 1, by push_cast; rfl, hk, fun j hj => ?_⟩ (by omega)
    rcases Nat.lt_succ_iff_lt_or_eq.1 hj with h3 | rfl
    ·exact h j h3
    ·exact ⟨h1, h2⟩
   ·rw [if_pos (by rw [Bool.not_eq_true', ← Bool.not_eq_true, rscal_iff]; exact h2)]
    exact no fun x => h2 x.2
  ·rw [if_pos (by rw [Bool.not_eq_true', ← Bool.not_eq_true, rscal_iff]; exact h1)]
   exact no fun x => h1 x.1
 ·rw [if_neg (by simpa using hk)]
  have hk' : k = X.length := by omega
  have hall : ∀ j : Nat, j < X.length → ScN b X j := hk' ▸ h
  rw [rleaves_eq]
  have hL : (prs b X).length = X.length := List.length_map ..
  refine iter_rule (P := fun p : Int => ∃ k : Nat, p = k ∧ k ≤ X.length ∧ ∀ j : Nat, j < k → Df (prs b X) j) (Q := fun r => r = true ↔ Pairs b X) (meas := fun p => (((prs b X).length : Int) - p).toNat) ?_ _ _ ⟨0, rfl, Nat.zero_le _, fun j h => absurd h (by omega)⟩ (by simp)
  rintro ag p ⟨m, rfl, hm9, h8⟩ ih
  by_cases hm : m < (prs b X).length
  ·rw [if_pos (by simpa using hm)]
   by_cases hd : Df (prs b X) m
   ·rw [if_neg (by rw [(has_take hm).2 hd]; decide)]
    refine ih _ ⟨m + 1, by push_cast; rfl, by omega, fun j hj => ?_⟩ (by omega)
    rcases Nat.lt_succ_iff_lt_or_eq.1 hj with h3 | rfl
    ·exact h8 j h3
    ·exact hd
   ·rw [if_pos (by rw [← Bool.not_eq_false, has_take hm]; exact hd)]
    exact ⟨fun e => absurd e (by decide), fun hp => absurd (hp m (by omega)).2 hd⟩
  ·rw [if_neg (by simpa using hm)]
   exact ⟨fun _ j hj => ⟨hall j hj, h8 j (by omega)⟩, fun _ => rfl⟩
theorem ploop {b : S_api_Bases} (hv : specieref11_Valid b = true) {X : List (List Int)} : (iter (((X.length : Int) - 0).toNat + 1) (fun (ag27 : (Int × List (List Int)) → Bool) (p27 : Int × List (List Int)) => (if (decide (p27.1 < (X.length : Int))) then (letk (coin_scalar b (gt (gt X p27.1) 0)) (fun (x31 : Bool) => (if (!x31) then false else (letk (coin_scalar b (gt (gt X p27.1) 1)) (fun (x36 : Bool) => (if (!x36) then false else (letk (coin_leaf b (gt X p27.1)) (fun (x41 : Int) => (if (List.contains p27.2 [x41]) then false else (letk (coin_leaf b (gt X p27.1)) (fun (x47 : Int) => (ag27 ((p27.1 + 1), (addK p27.2 [x47])))))))))))))) else true)) (fun _ => default) (0, ([] : List (List Int)))) = true ↔ Pairs b X := by
 simp only [lk]
 refine iter_rule (P := fun p : Int × List (List Int) => ∃ k : Nat, p.1 = k ∧ k ≤ X.length ∧ (∀ v, p.2.contains [v] = true ↔ ∃ j : Nat, j < k ∧ gt (prs b X) (j : Int) = v) ∧ ∀ j : Nat, j < k → ScN b X j ∧ Df (prs b X) j) (Q := fun r => r = true ↔ Pairs b X) (meas := fun p => ((X.length : Int) - p.1).toNat) ?_ _ _ ⟨0, rfl, Nat.zero_le _, fun v => ⟨fun e => by simp at e, fun ⟨j, hj, _⟩ => absurd hj (by omega)⟩, fun j h => absurd h (by omega)⟩ (by simp)
 rintro ag ⟨p, S⟩ ⟨k, e, hk9, hS, h⟩ ih
 dsimp only at e hS ih ⊢
 subst e
 by_cases hk : k < X.length
 ·rw [if_pos (by simpa using hk)]
  have no : ¬ (ScN b X k ∧ Df (prs b X) k) → (false = true ↔ Pairs b X) := fun hn => ⟨fun e => absurd e (by decide), fun hp => absurd (hp k hk) hn⟩
  by_cases h1 : Sc b (gt (gt X (k : Int)) 0)
  ·rw [if_neg (by rw [cscal_iff.2 h1]; decide)]
   by_cases h2 : Sc b (gt (gt X (k : Int)) 1)
   ·rw [if_neg (by rw [cscal_iff.2 h2]; decide)]
    have el : coin_leaf b (gt X (k : Int)) = gt (prs b X) (k : Int) := by
     rw [leaf_eq hv h1 h2]
     exact (gtm (fun l => specieref31_pair b (gt l 0) (gt l 1)) hk).symm
    rw [el]
    by_cases hd : S.contains [gt (prs b X) (k : Int)] = true
    ·rw [if_pos hd]
     obtain ⟨j, hj, he⟩ := (hS _).1 hd
     exact no fun x => x.2 j hj he
    ·rw [if_neg hd]
     have hD : Df (prs b X) k := fun j hj he => hd ((hS _).2 ⟨j, hj, he⟩)
     refine ih _ ⟨k + 1, by push_cast; rfl, hk, fun v => ?_, fun j hj => ?_⟩ (by dsimp only; omega)
     ·dsimp only
      unfold addK
      rw [if_neg hd, List.contains_iff_mem, List.mem_append, ← List.contains_iff_mem, hS]
      constructor
      ·rintro (⟨j, hj, he⟩ | h9)
       ·exact ⟨j, by omega, he⟩
       ·simp at h9
        exact ⟨k, by omega, h9.symm⟩
      ·rintro ⟨j, hj, he⟩
       rcases Nat.lt_succ_iff_lt_or_eq.1 hj with h3 | rfl
       ·exact .inl ⟨j, h3, he⟩
       ·exact .inr (by simp [he])
     ·rcases Nat.lt_succ_iff_lt_or_eq.1 hj with h3 | rfl
      ·exact h j h3
      ·exact ⟨⟨h1, h2⟩, hD⟩
   ·rw [if_pos (by rw [Bool.not_eq_true', ← Bool.not_eq_true, cscal_iff]; exact h2)]
    exact no fun x => h2 x.1.2
  ·rw [if_pos (by rw [Bool.not_eq_true', ← Bool.not_eq_true, cscal_iff]; exact h1)]
   exact no fun x => h1 x.1.1
 ·rw [if_neg (by simpa using hk)]
  exact ⟨fun _ j hj => h j (by omega), fun _ => rfl⟩
noncomputable def pB (b : S_api_Bases) (X : List (List Int)) : Bool := @decide (Pairs b X) (Classical.propDecidable _)
theorem pB_iff {b : S_api_Bases} {X : List (List Int)} : pB b X = true ↔ Pairs b X := @decide_eq_true_iff (Pairs b X) (Classical.propDecidable _)
theorem ploopB {b : S_api_Bases} (hv : specieref11_Valid b = true) {X : List (List Int)} : (iter (((X.length : Int) - 0).toNat + 1) (fun (ag27 : (Int × List (List Int)) → Bool) (p27 : Int × List (List Int)) => (if (decide (p27.1 < (X.length : Int))) then (letk (coin_scalar b (gt (gt X p27.1) 0)) (fun (x31 : Bool) => (if (!x31) then false else (letk (coin_scalar b (gt (gt X p27.1) 1)) (fun (x36 : Bool) => (if (!x36) then false else (letk (coin_leaf b (gt X p27.1)) (fun (x41 : Int) => (if (List.contains p27.2 [x41]) then false else (letk (coin_leaf b (gt X p27.1)) (fun (x47 : Int) => (ag27 ((p27.1 + 1), (addK p27.2 [x47])))))))))))))) else true)) (fun _ => default) (0, ([] : List (List Int)))) = pB b X := Bool.eq_iff_iff.2 ((ploop hv).trans pB_iff.symm)
theorem rloopB {b : S_api_Bases} {X : List (List Int)} : (iter (((X.length : Int) - 0).toNat + 1) (fun (ag25 : Int → Bool) (p25 : Int) => (if (decide (p25 < (X.length : Int))) then (letk (specieref31_Scalar (b.Group) (gt (gt X p25) 0)) (fun (x29 : Bool) => (if (!x29) then false else (letk (specieref31_Scalar (b.Group) (gt (gt X p25) 1)) (fun (x33 : Bool) => (if (!x33) then false else (ag25 (p25 + 1)))))))) else (letk (specieref31_Leaves b X) (fun (x41 : (List Int)) => (iter (((x41.length : Int) - 0).toNat + 1) (fun (ag44 : Int → Bool) (p44 : Int) => (if (decide (p44 < (x41.length : Int))) then (letk (specieref31_has (sl x41 0 p44) (gt x41 p44)) (fun (x48 : Bool) => (if x48 then false else (ag44 (p44 + 1))))) else true)) (fun _ => default) 0))))) (fun _ => default) 0) = pB b X := Bool.eq_iff_iff.2 (rloop.trans pB_iff.symm)
theorem cdep_iff {n : Int} : coin_leaves n = true ↔ ∃ d : Nat, d ≤ 5 ∧ n = 2 ^ d := by
 unfold coin_leaves slices_ContainsFunc_int_int_at_coin_leaves_1 slices_IndexFunc_int_int_at_coin_leaves_1 coin_leaves_1
 simp only [lk]
 show decide (iter 7 _ _ 0 ≥ 0) = true ↔ _
 have s0 : shlI .i64 1 0 = 1 := by decide
 have s1 : shlI .i64 1 1 = 2 := by decide
 have s2 : shlI .i64 1 2 = 4 := by decide
 have s3 : shlI .i64 1 3 = 8 := by decide
 have s4 : shlI .i64 1 4 = 16 := by decide
 have s5 : shlI .i64 1 5 = 32 := by decide
 simp only [iter, gt, List.length_cons, List.length_nil, Int.reduceToNat, List.getD_cons_zero, List.getD_cons_succ, Int.reduceAdd, s0, s1, s2, s3, s4, s5]
 constructor
 ·intro h
  by_cases h0 : n = 1
  ·exact ⟨0, by decide, h0⟩
  by_cases h1 : n = 2
  ·exact ⟨1, by decide, h1⟩
  by_cases h2 : n = 4
  ·exact ⟨2, by decide, h2⟩
  by_cases h3 : n = 8
  ·exact ⟨3, by decide, h3⟩
  by_cases h4 : n = 16
  ·exact ⟨4, by decide, h4⟩
  by_cases h5 : n = 32
  ·exact ⟨5, by decide, h5⟩
  exfalso
  simp [h0, h1, h2, h3, h4, h5] at h
 ·rintro ⟨d, hd, rfl⟩
  match d, hd with
  | 0, _ => rfl
  | 1, _ => rfl
  | 2, _ => rfl
  | 3, _ => rfl
  | 4, _ => rfl
  | 5, _ => rfl
  | d + 6, h => omega
theorem rdep_iff {n : Int} : specieref31_Depth (specieref27_Depth n) = true ↔ ∃ d : Nat, d ≤ 5 ∧ n = 2 ^ d := by
 unfold specieref31_Depth
 rw [iteA]
 simp only [decide_eq_true_eq]
 rcases rdepth_spec n with ⟨k, hk, e, e2⟩ | ⟨e2, h⟩
 ·rw [e2]
  constructor
  ·rintro ⟨_, h⟩; exact ⟨k, by omega, e⟩
  ·rintro ⟨d, hd, e3⟩
   have : (2 : Nat) ^ k = 2 ^ d := by have := e.symm.trans e3; exact_mod_cast this
   have := pow2_inj this
   omega
 ·rw [e2]
  constructor
  ·rintro ⟨h0, _⟩; exact absurd h0 (by decide)
  ·rintro ⟨d, hd, e3⟩; exact absurd e3 (h d (by omega))
theorem secret_eq (b : S_api_Bases) (s : S_api_CoinSecret) : coin_ValidSecret b s = specieref31_Secret b s := by
 rw [Bool.eq_iff_iff]
 unfold coin_ValidSecret specieref31_Secret
 by_cases hv : specieref11_Valid b = true
 ·rw [ploopB hv, rloopB]
  have hq := (base_ok hv).2.1
  have hl := cdep_iff (n := (s.X.length : Int))
  rw [← rdep_iff] at hl
  simp only [letk_x, base_eq, hv, iteF, Bool.not_eq_true', Bool.not_eq_false, Bool.not_true, Bool.false_eq_true, not_false_eq_true, true_and]
  rw [hl]
  unfold coin_nonzero specieref31_User
  simp only [letk_x, iteA, decide_eq_true_eq, beq_iff_eq, bne_iff_ne, ne_eq]
  constructor
  ·rintro ⟨⟨a1, a2⟩, ⟨a3, a4⟩, a5, a6, a7⟩
   rw [cmsg_eq hv ⟨by omega, a2⟩] at a5
   exact ⟨⟨a1, a2, a5⟩, by omega, by omega, a6, a7⟩
  ·rintro ⟨⟨a1, a2, a5⟩, a3, a4, a6, a7⟩
   refine ⟨⟨a1, a2⟩, ⟨by omega, by omega⟩, ?_, a6, a7⟩
   rw [cmsg_eq hv ⟨by omega, a2⟩]
   exact a5
 ·have hv' : specieref11_Valid b = false := by simpa using hv
  simp only [letk_x, base_eq, hv', Bool.not_false, if_true]
theorem secret_ok {b : S_api_Bases} {s : S_api_CoinSecret} (h : specieref31_Secret b s = true) : specieref11_Valid b = true ∧ Sc b s.U ∧ Sc b s.S ∧ Pairs b s.X := by
 unfold specieref31_Secret at h
 rw [rloopB] at h
 simp only [letk_x, iteF, Bool.not_eq_true', Bool.not_eq_false] at h
 obtain ⟨h1, h2, h3, h4, h5, h6⟩ := h
 unfold specieref31_User at h2
 simp only [letk_x, iteA, decide_eq_true_eq] at h2 h3 h4
 exact ⟨h1, ⟨by omega, h2.2.1⟩, ⟨by omega, by omega⟩, pB_iff.1 h6⟩
theorem mem_gt {l : List (List Int)} {x : List Int} (h : x ∈ l) : ∃ j : Nat, j < l.length ∧ gt l (j : Int) = x := by
 obtain ⟨j, hj, e⟩ := List.getElem_of_mem h
 exact ⟨j, hj, by simp [gt, List.getD, hj, e]⟩
theorem leaves_eq {b : S_api_Bases} {s : S_api_CoinSecret} (h : specieref31_Secret b s = true) : coin_Leaves b s = (specieref31_Leaves b s.X, 0) := by
 obtain ⟨hv, hu, hs, hp⟩ := secret_ok h
 have key := map_iterG (fun l => coin_leaf b l) (fun x => (x, (0 : Int))) s.X
 have hm : (s.X.map fun l => coin_leaf b l) = prs b s.X := List.map_congr_left fun l hl => by
  obtain ⟨j, hj, rfl⟩ := mem_gt hl
  obtain ⟨⟨h1, h2⟩, _⟩ := hp j hj
  exact leaf_eq hv h1 h2
 rw [hm] at key
 unfold coin_Leaves
 simp only [letk_x, secret_eq, h, Bool.not_true, Bool.false_eq_true, if_false]
 rw [rleaves_eq]
 exact key
end Go.Proofs.YtjnikknlcmbcmaaGreatDoor
namespace Go.Proofs.YtjnikknlcmbcmaaGreatDoor
open Go.RowKit
set_option linter.unusedVariables false
set_option linter.unusedSimpArgs false
def Mem (b : S_api_Bases) (l : List Int) : Prop := ∀ j : Nat, j < l.length → specieref10_Member b.Group (gt l (j : Int)) = true
theorem ploopH {b : S_api_Bases} (hv : specieref11_Valid b = true) {l : List Int} {r : List (List Int) × Int} {E : Int → List Int} (hE : ∀ n : Int, -9223372036854775808 ≤ n → n ≤ 9223372036854775807 → (tree_Leaf (encode_Encode ⟨1, n, [], []⟩).1).1 = E n) (hr : (Mem b l → r = (l.map E, 0)) ∧ (¬ Mem b l → r = ([], 2))) : (iter (((l.length : Int) - 0).toNat + 1) (fun (ag12 : (Int × List (List Int)) → ((List (List Int)) × Int)) (p12 : Int × List (List Int)) => (if (decide (p12.1 < (l.length : Int))) then (letk (group_Contains (b.Group) (gt l p12.1)) (fun (x16 : Bool) => (if (!x16) then (([] : List (List Int)), 2) else (letk (encode_Encode ({ Kind := 1, N := (gt l p12.1), B := ([] : List Int), L := ([] : List S_api_Item) } : S_api_Item)) (fun (x22 : ((List Int) × Int)) => (letk (tree_Leaf (x22.1)) (fun (x26 : ((List Int) × Int)) => (ag12 ((p12.1 + 1), (p12.2 ++ ([x26.1] : List (List Int)))))))))))) else (p12.2, 0))) (fun _ => default) (0, ([] : List (List Int)))) = r := by
 obtain ⟨hg, ho⟩ := base_ok hv
 refine iter_rule (P := fun p : Int × List (List Int) => ∃ k : Nat, p.1 = k ∧ k ≤ l.length ∧ p.2 = (l.take k).map E ∧ ∀ j : Nat, j < k → specieref10_Member b.Group (gt l (j : Int)) = true) (Q := fun x => x = r) (meas := fun p => ((l.length : Int) - p.1).toNat) ?_ _ _ ⟨0, rfl, Nat.zero_le _, rfl, fun j h => absurd h (by omega)⟩ (by simp)
 rintro ag ⟨p, S⟩ ⟨k, e, hk9, hS, h⟩ ih
 dsimp only at e hS ih ⊢
 subst e
 by_cases hk : k < l.length
 ·rw [if_pos (by simpa using hk), letk_x, contains_eq hg]
  by_cases hm : specieref10_Member b.Group (gt l (k : Int)) = true
  ·rw [hm, if_neg (by decide), letk_x, letk_x]
   have he := (mem_iff ho _).1 hm
   obtain ⟨k1, k2, k3, k4, k5, k6⟩ := ho
   simp only [hE (gt l (k : Int)) (by have := he.1; omega) (by have := he.2.1; omega)]
   refine ih _ ⟨k + 1, by push_cast; rfl, hk, ?_, fun j hj => ?_⟩ (by dsimp only; omega)
   ·dsimp only
    rw [hS, List.take_succ_eq_append_getElem hk, List.map_append]
    congr 1
    simp [gt, List.getD, hk]
   ·rcases Nat.lt_succ_iff_lt_or_eq.1 hj with h3 | rfl
    ·exact h j h3
    ·exact hm
  ·have hm' : specieref10_Member b.Group (gt l (k : Int)) = false := by simpa using hm
   rw [hm', if_pos (by decide)]
   exact (hr.2 fun x => hm (x k hk)).symm
 ·rw [if_neg (by simpa using hk)]
  have hk' : k = l.length := by omega
  rw [hr.1 fun j hj => h j (by omega), hS, hk', List.take_length]
theorem upL_succ {I : List Int → List Int → List Int} : ∀ {k : Nat} {l : List (List Int)}, upL I (k + 1) l = pairM I (upL I k l)
 | 0, _ => rfl
 | k + 1, l => by rw [upL, upL_succ (k := k), upL]
theorem gt_pair {I : List Int → List Int → List Int} : ∀ {i : Nat} {l : List (List Int)}, 2 * i + 1 < l.length → gt (pairM I l) (i : Int) = I (gt l ((2 * i : Nat) : Int)) (gt l ((2 * i + 1 : Nat) : Int))
 | 0, a :: b :: l, h => rfl
 | i + 1, a :: b :: l, h => by
  have e := gt_pair (I := I) (i := i) (l := l) (by simp only [List.length_cons] at h; omega)
  simp only [gt_nat] at e ⊢
  rw [pairM, show 2 * (i + 1) = 2 * i + 1 + 1 by omega]
  simp only [List.getD_cons_succ]
  exact e
 | _, [], h => by simp at h
 | _, [_], h => by simp at h
def hF (n : Int) : List Int := (tree_Leaf (encode_Encode ⟨1, n, [], []⟩).1).1
theorem hashes_eq {b : S_api_Bases} {l : List Int} (hv : specieref11_Valid b = true) (hd : specieref31_Depth (specieref27_Depth (l.length : Int)) = true) (hm : Mem b l) : coin_Hashes b l = (l.map hF, 0) := by
 unfold coin_Hashes
 have hl : coin_leaves (l.length : Int) = true := cdep_iff.2 (rdep_iff.1 hd)
 rw [letk_x, base_eq, hv, if_neg (by decide), letk_x, hl, if_neg (by decide)]
 exact ploopH hv (E := hF) (fun n _ _ => rfl) ⟨fun _ => rfl, fun h => absurd hm h⟩
theorem open_ok {h : List (List Int)} {d : Nat} {v i : Int} (hl : h.length = 2 ^ d) (hd : d ≤ 10) (h0 : 0 ≤ v) (h1 : v ≤ d) (h2 : 0 ≤ i) (h3 : i < 2 ^ v.toNat) : tree_open h v i = (tree_levels h, 0) := by
 unfold tree_open
 have e := shl_one (v := v) h0 (by omega)
 rcases depth_spec (h.length : Int) with ⟨k, g1, g2, g3⟩ | ⟨_, g⟩
 ·have hk : k = d := by
   have : (2 : Nat) ^ k = 2 ^ d := by rw [← hl]; exact_mod_cast g2.symm
   exact pow2_inj this
  subst hk
  rw [letk_x, g3, if_neg (show ¬ ((0 : Int) != 0) = true by decide), if_neg (by rw [decide_eq_true_eq]; omega), if_neg (by rw [decide_eq_true_eq]; dsimp only; omega), if_neg (by rw [decide_eq_true_eq]; omega), if_neg (by rw [decide_eq_true_eq, e]; omega), letk_x]
 ·exact absurd (by rw [hl]; push_cast; rfl) (g d hd)
theorem root_eq {h : List (List Int)} {d : Nat} (hl : h.length = 2 ^ d) (hd : d ≤ 10) : tree_Root h = (gt (upL tree_inner d h) (0 : Int), 0) := by
 unfold tree_Root tree_Node
 rw [letk_x, letk_x, open_ok hl hd (Int.le_refl 0) (by omega) (Int.le_refl 0) (by decide), if_neg (show ¬ ((0 : Int) != 0) = true by decide), levs_get hl hd (Int.le_refl 0) (by omega)]
 rfl
def nodeN (h : List (List Int)) (i t : Nat) : List Int := gt (upL tree_inner t h) ((i / 2 ^ t : Nat) : Int)
def sibN (h : List (List Int)) (i t : Nat) : List Int := gt (upL tree_inner t h) (xorI .i64 ((i / 2 ^ t : Nat) : Int) 1)
theorem div_lt {i d t : Nat} (hi : i < 2 ^ d) (ht : t ≤ d) : i / 2 ^ t < 2 ^ (d - t) := by
 rw [Nat.div_lt_iff_lt_mul (Nat.pow_pos (by decide)), ← Nat.pow_add, show d - t + t = d by omega]; exact hi
theorem up_step {h : List (List Int)} {d i t : Nat} (hl : h.length = 2 ^ d) (hd : d ≤ 10) (hi : i < 2 ^ d) (ht : t < d) :
  (if (remI .i64 ((i / 2 ^ t : Nat) : Int) 2 == 0) = true then tree_inner (nodeN h i t) (sibN h i t) else tree_inner (sibN h i t) (nodeN h i t)) = nodeN h i (t + 1) := by
 have hlt := div_lt hi (Nat.le_of_lt ht)
 have hp : 2 ^ (d - t) ≤ 1024 := Nat.le_trans (Nat.pow_le_pow_right (by decide) (show _ ≤ 10 by omega)) (by decide)
 have h2 : 2 ^ (d - t) = 2 * 2 ^ (d - t - 1) := by
  conv => lhs; rw [show d - t = d - t - 1 + 1 by omega]
  rw [Nat.pow_succ]; omega
 have hj : i / 2 ^ (t + 1) = i / 2 ^ t / 2 := by rw [Nat.pow_succ, Nat.div_div_eq_div_mul]
 unfold nodeN sibN
 rw [hj, upL_succ]
 generalize i / 2 ^ t = a at hlt
 have hlen := upL_len (I := tree_inner) (k := t) hl (Nat.le_of_lt ht)
 rw [gt_pair (by rw [hlen]; omega), rem_nn (by omega), xor1_eq (by omega) (by omega)]
 by_cases hc : a % 2 = 0
 ·rw [if_pos (by simp; omega), if_pos (by omega), show 2 * (a / 2) = a by omega, show ((a : Int) + 1) = ((a + 1 : Nat) : Int) by push_cast; rfl]
 ·rw [if_neg (by simp; omega), if_neg (by omega), show 2 * (a / 2) = a - 1 by omega, show a - 1 + 1 = a by omega, show ((a : Int) - 1) = ((a - 1 : Nat) : Int) by omega]
theorem quo_two {a : Nat} (h : a ≤ 1000000) : quoI .i64 (a : Int) 2 = ((a / 2 : Nat) : Int) := by
 rw [quo_ok ⟨by omega, by omega⟩ (by decide)]; omega
theorem path_eq {h : List (List Int)} {d i : Nat} (hl : h.length = 2 ^ d) (hd : d ≤ 10) (hi : i < 2 ^ d) : tree_Path h (d : Int) (i : Int) = ({ Index := (i : Int), L := (List.range d).map (sibN h i) }, 0) := by
 have hp : 2 ^ d ≤ 1024 := Nat.le_trans (Nat.pow_le_pow_right (by decide) (show _ ≤ 10 by omega)) (by decide)
 unfold tree_Path
 rw [letk_x, open_ok hl hd (by omega) (Int.le_refl _) (by omega) (by simp only [Int.toNat_natCast]; exact_mod_cast hi), if_neg (show ¬ ((0 : Int) != 0) = true by decide)]
 refine iter_rule (P := fun p : Int × Int × Int × List (List Int) => ∃ t : Nat, t ≤ d ∧ p.1 = ((d - t : Nat) : Int) ∧ p.2.1 = ((i / 2 ^ t : Nat) : Int) ∧ p.2.2.1 = (i : Int) ∧ p.2.2.2 = (List.range t).map (sibN h i)) (Q := fun r => r = _) (meas := fun p => p.1.toNat) ?_ _ _ ⟨0, Nat.zero_le _, by simp, by simp, rfl, rfl⟩ (by simp)
 rintro ag ⟨k, i', idx, L⟩ ⟨t, ht, e1, e2, e3, e4⟩ ih
 dsimp only at e1 e2 e3 e4 ih ⊢
 subst e1 e2 e3 e4
 by_cases hk : t < d
 ·rw [if_pos (by rw [decide_eq_true_eq]; omega), letk_x]
  have hlv := levs_get hl hd (k := ((d - t : Nat) : Int)) (by omega) (by omega)
  rw [Int.toNat_natCast, show d - (d - t) = t by omega] at hlv
  have hs : gt (gt (tree_levels h) ((d - t : Nat) : Int)) (xorI .i64 ((i / 2 ^ t : Nat) : Int) 1) = sibN h i t := by rw [hlv]; rfl
  rw [hs]
  unfold tree_Path_1
  dsimp only
  have hq := quo_two (a := i / 2 ^ t) (by have := Nat.div_le_self i (2 ^ t); omega)
  rw [hq]
  refine ih _ ⟨t + 1, hk, ?_, ?_, rfl, ?_⟩ ?_
  ·dsimp only
   rw [sub_ok (by omega) (by omega)]; omega
  ·dsimp only
   rw [Nat.pow_succ, Nat.div_div_eq_div_mul]
  ·dsimp only
   rw [List.range_succ, List.map_append]; rfl
  ·dsimp only
   rw [sub_ok (by omega) (by omega)]; omega
 ·rw [if_neg (by rw [decide_eq_true_eq]; omega), show t = d by omega]
theorem follow_eq {h : List (List Int)} {d i : Nat} (hl : h.length = 2 ^ d) (hd : d ≤ 10) (hi : i < 2 ^ d) : tree_Follow (gt h (i : Int)) (d : Int) { Index := (i : Int), L := (List.range d).map (sibN h i) } = (gt (upL tree_inner d h) (0 : Int), 0) := by
 have hp : 2 ^ d ≤ 1024 := Nat.le_trans (Nat.pow_le_pow_right (by decide) (show _ ≤ 10 by omega)) (by decide)
 have e := shl_one (v := (d : Int)) (by omega) (by omega)
 rw [Int.toNat_natCast] at e
 have hi' : (i : Int) < 2 ^ d := by exact_mod_cast hi
 have hz : nodeN h i d = gt (upL tree_inner d h) (0 : Int) := by
  unfold nodeN
  rw [Nat.div_eq_of_lt hi]; rfl
 unfold tree_Follow
 dsimp only
 rw [if_neg (by rw [decide_eq_true_eq]; omega), if_neg (by rw [decide_eq_true_eq]; omega), if_neg (by rw [decide_eq_true_eq]; omega), if_neg (by rw [decide_eq_true_eq, e]; omega), if_neg (by simp), ← hz]
 refine iter_rule (P := fun p : Int × Int × List Int => ∃ t : Nat, t ≤ d ∧ p.1 = ((i / 2 ^ t : Nat) : Int) ∧ p.2.1 = (t : Int) ∧ p.2.2 = nodeN h i t) (Q := fun r => r = _) (meas := fun p => (d - p.2.1).toNat) ?_ _ _ ⟨0, Nat.zero_le _, by simp, rfl, by unfold nodeN; simp [upL]⟩ (by simp)
 rintro ag ⟨i', q, x⟩ ⟨t, ht, e1, e2, e3⟩ ih
 dsimp only at e1 e2 e3 ih ⊢
 subst e1 e2 e3
 by_cases hk : t < d
 ·rw [if_pos (by rw [decide_eq_true_eq]; simp; omega)]
  have hs : gt ((List.range d).map (sibN h i)) (t : Int) = sibN h i t := by simp [gt, List.getD, hk]
  have hu := up_step hl hd hi hk
  have hq := quo_two (a := i / 2 ^ t) (by have := Nat.div_le_self i (2 ^ t); omega)
  rw [hs, hq, letk_x, letk_x]
  have key : ag (((i / 2 ^ t / 2 : Nat) : Int), ((t : Int) + 1), nodeN h i (t + 1)) = (nodeN h i d, 0) := ih _ ⟨t + 1, hk, by dsimp only; rw [Nat.pow_succ, Nat.div_div_eq_div_mul], by push_cast; rfl, rfl⟩ (by dsimp only; omega)
  by_cases hc : (remI .i64 ((i / 2 ^ t : Nat) : Int) 2 == 0) = true
  ·rw [if_pos hc] at hu ⊢
   rw [hu]; exact key
  ·rw [if_neg hc] at hu ⊢
   rw [hu]; exact key
 ·rw [if_neg (by rw [decide_eq_true_eq]; simp; omega), show t = d by omega]
end Go.Proofs.YtjnikknlcmbcmaaGreatDoor
namespace Go.Proofs.YtjnikknlcmbcmaaGreatDoor
open Go.RowKit
set_option linter.unusedVariables false
set_option linter.unusedSimpArgs false
theorem coin_awake : specielaw31_awake = true := by decide +kernel
theorem q40_refl (a : List Int) : q_arr40 a a = true := by unfold q_arr40; simp
theorem secret_dep {b : S_api_Bases} {s : S_api_CoinSecret} (h : specieref31_Secret b s = true) : specieref31_Depth (specieref27_Depth (s.X.length : Int)) = true := by
 unfold specieref31_Secret at h
 rw [rloopB] at h
 simp only [letk_x, iteF, Bool.not_eq_true', Bool.not_eq_false] at h
 exact h.2.2.2.2.1
theorem prs_len (b : S_api_Bases) (X : List (List Int)) : (prs b X).length = X.length := List.length_map ..
theorem prs_nodup {b : S_api_Bases} {X : List (List Int)} (h : Pairs b X) : (prs b X).Nodup := by
 unfold List.Nodup
 rw [List.pairwise_iff_getElem]
 intro i j hi hj hij e
 have := (h j (by rw [← prs_len b X]; exact hj)).2 i hij
 apply this
 simp [gt, List.getD, hi, hj, e]
theorem sorted_all {l : List Int} (h : l.Nodup) : (slices_Compact_int_int (slices_Sort_int_int l)).length = l.length := by
 have hn : (slices_Sort_int_int l).Nodup := (List.mergeSort_perm l _).nodup_iff.2 h
 have hl : (slices_Sort_int_int l).length = l.length := List.length_mergeSort l
 generalize slices_Sort_int_int l = t at hn hl
 have : slices_Compact_int_int t = t := by
  refine Lib.compact_all t fun j hj => ?_
  unfold Lib.keeps
  rw [decide_eq_true_eq]
  rcases Nat.eq_zero_or_pos j with h0 | h0
  ·exact .inl h0
  ·right
   unfold List.Nodup at hn
   rw [List.pairwise_iff_getElem] at hn
   have := hn (j - 1) j (by omega) hj (by omega)
   simp only [List.getElem!_toArray]
   rw [getElem!_pos t j hj, getElem!_pos t (j - 1) (by omega)]
   exact fun e => this e.symm
 rw [this, hl]
theorem trees_true (b : S_api_Bases) (s : S_api_CoinSecret) (which : Int) (h0 : 0 ≤ which) (h9 : which ≤ 255) : specielaw31_CoinTrees b s which = true := by
 unfold specielaw31_CoinTrees
 rw [letk_x, coin_awake, if_neg (by decide)]
 by_cases c1 : decide ((s.X.length : Int) > 32) = true
 ·rw [if_pos c1, letk_x]
 rw [if_neg c1, letk_x]
 by_cases c2 : specieref31_Secret b s = true
 ·obtain ⟨hv, hu, hs, hp⟩ := secret_ok c2
  have hg := (base_el hv).1
  obtain ⟨d, hd5, e⟩ := rdep_iff.1 (secret_dep c2)
  have hd : s.X.length = 2 ^ d := by exact_mod_cast e
  have hll := prs_len b s.X
  have hm : Mem b (prs b s.X) := fun j hj => by
   rw [hll] at hj
   unfold prs
   rw [gtm _ hj]
   exact (mem_iff (okG_of hg) _).2 (pair_el hv (hp j hj).1.1 (hp j hj).1.2)
  have hH := hashes_eq hv (l := prs b s.X) (by rw [hll]; exact secret_dep c2) hm
  have hhl : ((prs b s.X).map hF).length = 2 ^ d := by rw [List.length_map, hll, hd]
  have hR : coin_Root b (prs b s.X) = (gt (upL tree_inner d ((prs b s.X).map hF)) (0 : Int), 0) := by
   unfold coin_Root
   rw [letk_x, hH, if_neg (show ¬ ((0 : Int) != 0) = true by decide), letk_x, root_eq hhl (by omega)]
  have hpos : 0 < 2 ^ d := Nat.pow_pos (by decide)
  obtain ⟨r1, r2⟩ := rem_ix (w := which) (n := ((prs b s.X).length : Int)) (by omega) h0 h9
  rw [c2, if_neg (by decide), letk_x, leaves_eq c2, letk_x, rleaves_eq, hH, letk_x, hR]
  obtain ⟨k, hk⟩ := Int.eq_ofNat_of_zero_le r1
  rw [hk] at r2 ⊢
  have hkn : k < s.X.length := by omega
  obtain ⟨⟨s1, s2⟩, _⟩ := hp k hkn
  have e1 := (base_el hv).2.1
  have e2 := (base_el hv).2.2
  have hx := gpow_eq hg e1 s1.1 s1.2
  have hy := gpow_eq hg e2 s2.1 s2.2
  have hxy := gmul_eq hg (el_pow (okG_of hg) e1 (gt (gt s.X (k : Int)) 0).toNat) (el_pow (okG_of hg) e2 (gt (gt s.X (k : Int)) 1).toNat)
  have hlk : gt (prs b s.X) (k : Int) = (b.G1 ^ (gt (gt s.X (k : Int)) 0).toNat % b.Group.P) * (b.G2 ^ (gt (gt s.X (k : Int)) 1).toNat % b.Group.P) % b.Group.P := by
   unfold prs
   rw [gtm _ hkn]
   exact pair_eq hv s1 s2
  have hD : tree_Depth ((prs b s.X).length : Int) = ((d : Int), 0) := by
   rcases depth_spec ((prs b s.X).length : Int) with ⟨k2, g1, g2, g3⟩ | ⟨_, g⟩
   ·have : k2 = d := by
     have : (2 : Nat) ^ k2 = 2 ^ d := by rw [← hd, ← hll]; exact_mod_cast g2.symm
     exact pow2_inj this
    rw [g3, this]
   ·exact absurd (by rw [hll, hd]; push_cast; rfl) (g d (by omega))
  have hP := path_eq hhl (by omega) (i := k) (by omega)
  have hF2 := follow_eq hhl (by omega) (i := k) (by omega)
  have hV : tree_Verify (gt (upL tree_inner d ((prs b s.X).map hF)) (0 : Int)) (gt ((prs b s.X).map hF) (k : Int)) (d : Int) { Index := (k : Int), L := (List.range d).map (sibN ((prs b s.X).map hF) k) } = true := by
   unfold tree_Verify
   rw [letk_x, hF2, if_pos (show ((0 : Int) == 0) = true by decide)]
   exact q40_refl _
  have hS := sorted_all (prs_nodup hp)
  have hC : slices_Clone_int_int (prs b s.X) = prs b s.X := rfl
  rw [hll] at hD
  simp only [letk_x, hx, hy, hxy, hlk, hD, hP, hV, hC, hS, List.length_map, hll, bne_self_eq_false, Bool.false_eq_true, if_false, Bool.not_true, Nat.sub_zero, beq_self_eq_true]
 ·have c2' : specieref31_Secret b s = false := by simpa using c2
  rw [c2', if_pos (by decide), letk_x]
theorem specielaw31_CoinTrees_true (b : S_api_Bases) (s : S_api_CoinSecret) (which : Int) (hw : wfL [e_api_Bases b, .agg [.int .i64 s.U, .int .i64 s.S, .sl none 2 true (s.X.map (fun l => .agg [.int .i64 (gt l 0), .int .i64 (gt l 1)]))], .int .u8 which]) : specielaw31_CoinTrees b s which = true := by
 have h : Rng .u8 which := hw.2.2.1
 rw [rng_u8] at h
 exact trees_true b s which h.1 h.2
end Go.Proofs.YtjnikknlcmbcmaaGreatDoor
