/- BaseElements: the law holds of what holds at most 1048576 values and letters together (printed by program, but for the law itself). -/
import Derived.Test.YteolfhljhnplpaaGreatDoorZ9
import Derived.Test.YteolfhljhnplpaaGreatDoorZ7
import Derived.Test.YteolfhljhnplpaaGreatDoorZ8
import Derived.Test.YteolfhljhnplpaaGreatDoorCards
import Derived.Test.YteolfhljhnplpaaGreatDoorTie
import Derived.Deep.DeepHandedRow
import Derived.Lay
import Derived.LaidMore
import Derived.SevenTiedAt
import Derived.Stop.Joined
namespace Go.Proofs.YteolfhljhnplpaaGreatDoor
open Go.ChangeShapes Go.WideShapes Go.ChangeAt Go.RowKit
set_option maxHeartbeats 4000000 in
set_option maxRecDepth 100000 in
theorem op3 : OpensQ En (fun v => ∃ n : Int, v = V.int .i64 n) 3 := by
 have h := opens_int En_ok (T := 3) (by rw [tb3]) (by rw [tb3])
 rw [tb3] at h
 exact h
set_option maxHeartbeats 4000000 in
set_option maxRecDepth 100000 in
theorem op23 : OpensQ En (fun v => ∃ x : S_api_Group, v = e_api_Group x) 23 := by
 have h := opens_struct En_ok (T := 23) (by rw [tb23]) (by rw [tb23]) [(fun v => ∃ n : Int, v = V.int .i64 n), (fun v => ∃ n : Int, v = V.int .i64 n), (fun v => ∃ n : Int, v = V.int .i64 n)] (by rw [tb23]; exact ⟨op3, op3, op3, trivial⟩)
 rw [tb23] at h
 refine h.mono ?_
 rintro v ⟨vs, h, rfl⟩
 obtain ⟨v0, vs0, rfl, ⟨x0, h0⟩, h⟩ := FQ_cons h
 obtain ⟨v1, vs1, rfl, ⟨x1, h1⟩, h⟩ := FQ_cons h
 obtain ⟨v2, vs2, rfl, ⟨x2, h2⟩, h⟩ := FQ_cons h
 cases FQ_nil h
 exact ⟨⟨x0, x1, x2⟩, by subst h0 h1 h2; simp only [go_sem, flatC]⟩
set_option maxHeartbeats 4000000 in
set_option maxRecDepth 100000 in
theorem op9 : OpensQ En (fun v => ∃ s : List UInt8, v = V.str s) 9 := by
 have h := opens_str En_ok (T := 9) (by rw [tb9]) (by rw [tb9])
 exact h
set_option maxHeartbeats 4000000 in
set_option maxRecDepth 100000 in
theorem op5 : OpensQ En (fun v => ∃ n : Int, v = V.int .u8 n) 5 := by
 have h := opens_int En_ok (T := 5) (by rw [tb5]) (by rw [tb5])
 rw [tb5] at h
 exact h
set_option maxHeartbeats 4000000 in
set_option maxRecDepth 100000 in
theorem op67 : OpensQ En (fun v => ∃ l : List Int, v = V.sl none 1 false (l.map (V.int .u8))) 67 := by
 have h := opens_slice En_ok (T := 67) (Q := (fun v => ∃ n : Int, v = V.int .u8 n)) (by rw [tb67]) (by rw [tb67]) (by rw [tb67]; exact op5)
 rw [tb67] at h
 refine h.mono ?_
 rintro v ⟨l, hl, rfl⟩
 obtain ⟨m, rfl⟩ := choose_list (f := (V.int .u8)) (fun d hd => by obtain ⟨x, hx⟩ := hl d hd; exact ⟨x, hx⟩)
 exact ⟨m, by simp only [tb5]⟩
set_option maxRecDepth 100000 in
theorem baseElements_call (H : Type) (enc : TypeId × Value → H) (W : World) (base : Nat) (args : Array Value) (ds : List (DataW H)) (ps : List MemPlace) (hA : DataW.TrodAll enc En.P W 0 (fun _ => true) true Tryz.f5.params.toList args.toList ds ps)
  (hval : ∀ (j : Nat) t v, Tryz.f5.params[j]? = some t → args[j]? = some v → Value.okWide En.P W .any base t v) (hb : Rows.uptoBulkAll ds ≤ 1048576) : ∃ ws, rdT ro0 (base0 W) ws args.toList ∧ CallOk En 5 ws (.bool true) [] := by
 rw [Tryz.params5] at hA hval
 obtain ⟨v0, vs0, d0, ds0, p0, q0, hargs, rfl, rfl, h0, r0⟩ := trodAll_cons hA
 obtain ⟨v1, vs1, d1, ds1, p1, q1, rfl, rfl, rfl, h1, r1⟩ := trodAll_cons r0
 obtain ⟨v2, vs2, d2, ds2, p2, q2, rfl, rfl, rfl, h2, r2⟩ := trodAll_cons r1
 obtain ⟨rfl, rfl, rfl⟩ := trodAll_nil r2
 obtain rfl : args = #[v0, v1, v2] := by cases args; simp_all
 simp only [Rows.uptoBulkAll] at hb
 obtain ⟨u0, ⟨x0, rfl⟩, e0⟩ := open_arg En_ok (T := 23) (by rw [tb23]) (by rw [tb23]; decide) op23 (hval 0 23 v0 rfl rfl) h0 (by omega)
 obtain ⟨u1, ⟨x1, rfl⟩, e1⟩ := open_arg En_ok (T := 9) (by rw [tb9]) (by rw [tb9]; decide) op9 (hval 1 9 v1 rfl rfl) h1 (by omega)
 obtain ⟨u2, ⟨x2, rfl⟩, e2⟩ := open_arg En_ok (T := 67) (by rw [tb67]) (by rw [tb67]; decide) op67 (hval 2 67 v2 rfl rfl) h2 (by omega)
 refine ⟨[e_api_Group x0, .str x1, .sl none 1 false (x2.map (V.int .u8))], ⟨v0, [v1, v2], rfl, e0, v1, [v2], rfl, e1, v2, [], rfl, e2, rfl⟩, ?_⟩
 have h := (specielaw11_BaseElements_ok x0 x1 x2).ok
 rw [specielaw11_BaseElements_true x0 x1 x2 (rdT_wf (c := base0 W) (cs := [v0, v1, v2]) ⟨v0, [v1, v2], rfl, e0, v1, [v2], rfl, e1, v2, [], rfl, e2, rfl⟩)] at h
 exact h
theorem baseElements_own : ownKnob Tryz.prog.godebug = none := by kernel_rfl
theorem baseElements_laid : laidOutB Tryz.prog = true := by kernel_rfl
set_option maxRecDepth 100000 in
theorem baseElements_types : ∀ t ∈ Tryz.f5.params.toList, Tryz.prog.readableRec t = true ∧ t < Tryz.prog.types.size := by
 intro t ht
 rw [Tryz.params5] at ht
 simp only [List.mem_cons, List.not_mem_nil, or_false] at ht
 rcases ht with rfl | rfl | rfl <;> exact ⟨by kernel_rfl, of_decide_eq_true (by kernel_rfl)⟩
set_option maxRecDepth 100000 in
theorem baseElements_spec (H : Type) (ds : List (DataW H)) (h : ds.length = Tryz.f5.params.toList.length) : Rows.baseElementsSpec.fn H ds = { results := [.lit (.bool true)], args := ds } := by
 rw [Tryz.params5] at h
 match ds, h with
 | [d0, d1, d2], _ => rfl
def baseElements_vals : Array Value := #[.agg #[.int .i64 0, .int .i64 0, .int .i64 0], .string .empty, .slice none 0 0]
theorem baseElements_met (os : Os) : laidMetH Tryz.prog Rows.baseElementsUptoRow.laid ((World.laidAll Tryz.prog os Rows.baseElementsUptoRow.laid).forCall (fun _ _ => 0) ⟨#[], baseElements_vals, []⟩).memory := by
 rw [MakeChecks.laidMetH_plain _ _ _ (by kernel_rfl)]
 exact laidMet_laidAll _ (by kernel_rfl) (by kernel_rfl)
theorem baseElements_reads (os : Os) {H : Type} (enc : TypeId × Value → H) : ∃ places, DataW.whole enc Tryz.prog ((World.laidAll Tryz.prog os Rows.baseElementsUptoRow.laid).forCall (fun _ _ => 0) ⟨#[], baseElements_vals, []⟩).memory Tryz.f5.params.toList Rows.baseElementsSpec.vars false (baseElements_vals : Array Value).toList 8 = some ([.agg [.lit (.int .i64 0), .lit (.int .i64 0), .lit (.int .i64 0)], .lit (.string []), .nil], [], places) := ⟨[], by kernel_rfl⟩
set_option maxRecDepth 100000 in
theorem baseElements_lifted (os : Os) (started : os.Started) (H : Type) (enc : TypeId × Value → H) (F : Stop.Interp) :
  ReturnsInHanded {} Tryz.checked os 5 .any ((Rows.OpenSpec.upto Rows.baseElementsSpec).preRow enc Tryz.prog Tryz.f5 Rows.baseElementsUptoRow.domain false Rows.baseElementsUptoRow.laid) (((Rows.OpenSpec.upto Rows.baseElementsSpec).at F).post enc Tryz.prog Tryz.f5 false true false false) := by
 obtain ⟨places, hx⟩ := baseElements_reads os enc
 refine returnsInHanded_of_row (C := Tryz.checked) (s := (Rows.OpenSpec.upto Rows.baseElementsSpec)) baseElements_own started (by kernel_rfl) Tryz.func5
  (witness_row_at (enc := enc) (C := Tryz.checked) false (World.laidAll Tryz.prog os Rows.baseElementsUptoRow.laid) baseElements_vals (World.laidAll_os _ _ _) (by kernel_rfl) (by kernel_rfl) (by kernel_rfl)
   (OpenSpec.preRow_of_cond 8 hx (by kernel_rfl) (fun k hk => by cases hk; kernel_rfl) (by kernel_rfl) (baseElements_met os))) ?_
 intro W base args ds gs before hval hW _ hk _ hL hsh _
 exact law_contractG (E := En) (bt := 4) Tryz.underlying4 rfl rfl baseElements_laid baseElements_types baseElements_spec baseElements_call H enc W base args ds gs before hval hW (hk _ rfl) rfl (gl_of hL hsh)
theorem baseElements_said : Rows.BaseElementsUptoSaid :=
 OpenClaim.holds_of_cond 5 Tryz.f5 rfl rfl rfl rfl rfl rfl rfl ⟨rfl, rfl, rfl, rfl, rfl⟩ rfl rfl rfl rfl rfl (by kernel_rfl) Tryz.func5 (by kernel_rfl)
  (of_decide_eq_true (by kernel_rfl)) (by unfold Func.isWrapper; first | (rw [if_pos (by decide +kernel)]; kernel_rfl) | (rw [if_neg (by decide +kernel)]; exact ⟨rfl, rfl⟩))
  (fun os started H enc _ F => by rw [OpenClaim.pre_eq_preRow]; exact baseElements_lifted os started H enc F)
theorem baseElements_plain (f : FuncId) (fn : Func) (hf : Tryz.pinned.checked.prog.funcNamed "specie/specielaw11.BaseElements" = some f) (hfn : Tryz.pinned.checked.prog.funcs[f]? = some fn) :
  true = Tryz.pinned.checked.prog.looks [] ∧ ∀ (j : Nat) t, fn.params[j]? = some t → Tryz.pinned.checked.prog.wantsStandIn t = false := by
 obtain rfl : f = 5 := Option.some.inj ((show Tryz.prog.funcNamed "specie/specielaw11.BaseElements" = some 5 by kernel_rfl).symm.trans hf) |>.symm
 obtain rfl : fn = Tryz.f5 := (Option.some.inj (Tryz.func5.symm.trans hfn)).symm
 refine ⟨by kernel_rfl, fun j t ht => ?_⟩
 have hall : (Tryz.f5.params.toList.all fun u => !Tryz.prog.wantsStandIn u) = true := by kernel_rfl
 have h0 := List.all_eq_true.1 hall t (Array.mem_toList_iff.2 (Array.mem_of_getElem? ht))
 exact (show Tryz.prog.wantsStandIn t = false by simpa using h0)
theorem baseElements_holds : Rows.BaseElementsUptoCardSaid :=
 Claim7.holds_tied_plain_at .later [] _ _ _ _ baseElements_said (fun _ h => by cases h) (by kernel_rfl) (fun _ h => by cases h) baseElementsUpto_row_tie rfl ⟨rfl, rfl⟩ (by kernel_rfl) rfl baseElements_plain (by kernel_rfl)
end Go.Proofs.YteolfhljhnplpaaGreatDoor
