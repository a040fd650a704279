/- BaseForms: the law holds of what holds at most 1048576 values and letters together (printed by program, but for the law itself). -/
import Derived.Test.YtbfeamknaiaghaaGreatDoorZ8
import Derived.Test.YtbfeamknaiaghaaGreatDoorZ7
import Derived.Test.YtbfeamknaiaghaaGreatDoorCards
import Derived.Test.YtbfeamknaiaghaaGreatDoorTie
import Derived.Deep.DeepHandedRow
import Derived.Lay
import Derived.LaidMore
import Derived.SevenTiedAt
import Derived.Stop.Joined
namespace Go.Proofs.YtbfeamknaiaghaaGreatDoor
open Go.ChangeShapes Go.WideShapes Go.ChangeAt Go.RowKit
set_option maxHeartbeats 4000000 in
set_option maxRecDepth 100000 in
theorem op3 : OpensQ En (fun v => ∃ n : Int, v = V.int .i64 n) 3 := by
 have h := opens_int En_ok (T := 3) (by rw [tb3]) (by rw [tb3])
 rw [tb3] at h
 exact h
set_option maxHeartbeats 4000000 in
set_option maxRecDepth 100000 in
theorem op23 : OpensQ En (fun v => ∃ x : S_api_Group, v = e_api_Group x) 23 := by
 have h := opens_struct En_ok (T := 23) (by rw [tb23]) (by rw [tb23]) [(fun v => ∃ n : Int, v = V.int .i64 n), (fun v => ∃ n : Int, v = V.int .i64 n), (fun v => ∃ n : Int, v = V.int .i64 n)] (by rw [tb23]; exact ⟨op3, op3, op3, trivial⟩)
 rw [tb23] at h
 refine h.mono ?_
 rintro v ⟨vs, h, rfl⟩
 obtain ⟨v0, vs0, rfl, ⟨x0, h0⟩, h⟩ := FQ_cons h
 obtain ⟨v1, vs1, rfl, ⟨x1, h1⟩, h⟩ := FQ_cons h
 obtain ⟨v2, vs2, rfl, ⟨x2, h2⟩, h⟩ := FQ_cons h
 cases FQ_nil h
 exact ⟨⟨x0, x1, x2⟩, by subst h0 h1 h2; simp only [go_sem, flatC]⟩
set_option maxHeartbeats 4000000 in
set_option maxRecDepth 100000 in
theorem op25 : OpensQ En (fun v => ∃ x : S_api_Bases, v = e_api_Bases x) 25 := by
 have h := opens_struct En_ok (T := 25) (by rw [tb25]) (by rw [tb25]) [(fun v => ∃ x : S_api_Group, v = e_api_Group x), (fun v => ∃ n : Int, v = V.int .i64 n), (fun v => ∃ n : Int, v = V.int .i64 n), (fun v => ∃ n : Int, v = V.int .i64 n)] (by rw [tb25]; exact ⟨op23, op3, op3, op3, trivial⟩)
 rw [tb25] at h
 refine h.mono ?_
 rintro v ⟨vs, h, rfl⟩
 obtain ⟨v0, vs0, rfl, ⟨x0, h0⟩, h⟩ := FQ_cons h
 obtain ⟨v1, vs1, rfl, ⟨x1, h1⟩, h⟩ := FQ_cons h
 obtain ⟨v2, vs2, rfl, ⟨x2, h2⟩, h⟩ := FQ_cons h
 obtain ⟨v3, vs3, rfl, ⟨x3, h3⟩, h⟩ := FQ_cons h
 cases FQ_nil h
 exact ⟨⟨x0, x1, x2, x3⟩, by subst h0 h1 h2 h3; simp only [go_sem, flatC]⟩
set_option maxHeartbeats 4000000 in
set_option maxRecDepth 100000 in
theorem op9 : OpensQ En (fun v => ∃ s : List UInt8, v = V.str s) 9 := by
 have h := opens_str En_ok (T := 9) (by rw [tb9]) (by rw [tb9])
 exact h
set_option maxRecDepth 100000 in
theorem baseForms_call (H : Type) (enc : TypeId × Value → H) (W : World) (base : Nat) (args : Array Value) (ds : List (DataW H)) (ps : List MemPlace) (hA : DataW.TrodAll enc En.P W 0 (fun _ => true) true Tryz.f3.params.toList args.toList ds ps)
  (hval : ∀ (j : Nat) t v, Tryz.f3.params[j]? = some t → args[j]? = some v → Value.okWide En.P W .any base t v) (hb : Rows.uptoBulkAll ds ≤ 1048576) : ∃ ws, rdT ro0 (base0 W) ws args.toList ∧ CallOk En 3 ws (.bool true) [] := by
 rw [Tryz.params3] at hA hval
 obtain ⟨v0, vs0, d0, ds0, p0, q0, hargs, rfl, rfl, h0, r0⟩ := trodAll_cons hA
 obtain ⟨v1, vs1, d1, ds1, p1, q1, rfl, rfl, rfl, h1, r1⟩ := trodAll_cons r0
 obtain ⟨rfl, rfl, rfl⟩ := trodAll_nil r1
 obtain rfl : args = #[v0, v1] := by cases args; simp_all
 simp only [Rows.uptoBulkAll] at hb
 obtain ⟨u0, ⟨x0, rfl⟩, e0⟩ := open_arg En_ok (T := 25) (by rw [tb25]) (by rw [tb25]; decide) op25 (hval 0 25 v0 rfl rfl) h0 (by omega)
 obtain ⟨u1, ⟨x1, rfl⟩, e1⟩ := open_arg En_ok (T := 9) (by rw [tb9]) (by rw [tb9]; decide) op9 (hval 1 9 v1 rfl rfl) h1 (by omega)
 refine ⟨[e_api_Bases x0, .str x1], ⟨v0, [v1], rfl, e0, v1, [], rfl, e1, rfl⟩, ?_⟩
 have h := (specielaw11_BaseForms_ok x0 x1).ok
 rw [specielaw11_BaseForms_true x0 x1] at h
 exact h
theorem baseForms_own : ownKnob Tryz.prog.godebug = none := by kernel_rfl
theorem baseForms_laid : laidOutB Tryz.prog = true := by kernel_rfl
set_option maxRecDepth 100000 in
theorem baseForms_types : ∀ t ∈ Tryz.f3.params.toList, Tryz.prog.readableRec t = true ∧ t < Tryz.prog.types.size := by
 intro t ht
 rw [Tryz.params3] at ht
 simp only [List.mem_cons, List.not_mem_nil, or_false] at ht
 rcases ht with rfl | rfl <;> exact ⟨by kernel_rfl, of_decide_eq_true (by kernel_rfl)⟩
set_option maxRecDepth 100000 in
theorem baseForms_spec (H : Type) (ds : List (DataW H)) (h : ds.length = Tryz.f3.params.toList.length) : Rows.baseFormsSpec.fn H ds = { results := [.lit (.bool true)], args := ds } := by
 rw [Tryz.params3] at h
 match ds, h with
 | [d0, d1], _ => rfl
def baseForms_vals : Array Value := #[.agg #[.int .i64 0, .int .i64 0, .int .i64 0, .int .i64 0, .int .i64 0, .int .i64 0], .string .empty]
theorem baseForms_met (os : Os) : laidMetH Tryz.prog Rows.baseFormsUptoRow.laid ((World.laidAll Tryz.prog os Rows.baseFormsUptoRow.laid).forCall (fun _ _ => 0) ⟨#[], baseForms_vals, []⟩).memory := by
 rw [MakeChecks.laidMetH_plain _ _ _ (by kernel_rfl)]
 exact laidMet_laidAll _ (by kernel_rfl) (by kernel_rfl)
theorem baseForms_reads (os : Os) {H : Type} (enc : TypeId × Value → H) : ∃ places, DataW.whole enc Tryz.prog ((World.laidAll Tryz.prog os Rows.baseFormsUptoRow.laid).forCall (fun _ _ => 0) ⟨#[], baseForms_vals, []⟩).memory Tryz.f3.params.toList Rows.baseFormsSpec.vars false (baseForms_vals : Array Value).toList 8 = some ([.agg [.agg [.lit (.int .i64 0), .lit (.int .i64 0), .lit (.int .i64 0)], .lit (.int .i64 0), .lit (.int .i64 0), .lit (.int .i64 0)], .lit (.string [])], [], places) := ⟨[], by kernel_rfl⟩
set_option maxRecDepth 100000 in
theorem baseForms_lifted (os : Os) (started : os.Started) (H : Type) (enc : TypeId × Value → H) (F : Stop.Interp) :
  ReturnsInHanded {} Tryz.checked os 3 .any ((Rows.OpenSpec.upto Rows.baseFormsSpec).preRow enc Tryz.prog Tryz.f3 Rows.baseFormsUptoRow.domain false Rows.baseFormsUptoRow.laid) (((Rows.OpenSpec.upto Rows.baseFormsSpec).at F).post enc Tryz.prog Tryz.f3 false true false false) := by
 obtain ⟨places, hx⟩ := baseForms_reads os enc
 refine returnsInHanded_of_row (C := Tryz.checked) (s := (Rows.OpenSpec.upto Rows.baseFormsSpec)) baseForms_own started (by kernel_rfl) Tryz.func3
  (witness_row_at (enc := enc) (C := Tryz.checked) false (World.laidAll Tryz.prog os Rows.baseFormsUptoRow.laid) baseForms_vals (World.laidAll_os _ _ _) (by kernel_rfl) (by kernel_rfl) (by kernel_rfl)
   (OpenSpec.preRow_of_cond 8 hx (by kernel_rfl) (fun k hk => by cases hk; kernel_rfl) (by kernel_rfl) (baseForms_met os))) ?_
 intro W base args ds gs before hval hW _ hk _ hL hsh _
 exact law_contractG (E := En) (bt := 4) Tryz.underlying4 rfl rfl baseForms_laid baseForms_types baseForms_spec baseForms_call H enc W base args ds gs before hval hW (hk _ rfl) rfl (gl_of hL hsh)
theorem baseForms_said : Rows.BaseFormsUptoSaid :=
 OpenClaim.holds_of_cond 3 Tryz.f3 rfl rfl rfl rfl rfl rfl rfl ⟨rfl, rfl, rfl, rfl, rfl⟩ rfl rfl rfl rfl rfl (by kernel_rfl) Tryz.func3 (by kernel_rfl)
  (of_decide_eq_true (by kernel_rfl)) (by unfold Func.isWrapper; first | (rw [if_pos (by decide +kernel)]; kernel_rfl) | (rw [if_neg (by decide +kernel)]; exact ⟨rfl, rfl⟩))
  (fun os started H enc _ F => by rw [OpenClaim.pre_eq_preRow]; exact baseForms_lifted os started H enc F)
theorem baseForms_plain (f : FuncId) (fn : Func) (hf : Tryz.pinned.checked.prog.funcNamed "specie/specielaw11.BaseForms" = some f) (hfn : Tryz.pinned.checked.prog.funcs[f]? = some fn) :
  true = Tryz.pinned.checked.prog.looks [] ∧ ∀ (j : Nat) t, fn.params[j]? = some t → Tryz.pinned.checked.prog.wantsStandIn t = false := by
 obtain rfl : f = 3 := Option.some.inj ((show Tryz.prog.funcNamed "specie/specielaw11.BaseForms" = some 3 by kernel_rfl).symm.trans hf) |>.symm
 obtain rfl : fn = Tryz.f3 := (Option.some.inj (Tryz.func3.symm.trans hfn)).symm
 refine ⟨by kernel_rfl, fun j t ht => ?_⟩
 have hall : (Tryz.f3.params.toList.all fun u => !Tryz.prog.wantsStandIn u) = true := by kernel_rfl
 have h0 := List.all_eq_true.1 hall t (Array.mem_toList_iff.2 (Array.mem_of_getElem? ht))
 exact (show Tryz.prog.wantsStandIn t = false by simpa using h0)
theorem baseForms_holds : Rows.BaseFormsUptoCardSaid :=
 Claim7.holds_tied_plain_at .later [] _ _ _ _ baseForms_said (fun _ h => by cases h) (by kernel_rfl) (fun _ h => by cases h) baseFormsUpto_row_tie rfl ⟨rfl, rfl⟩ (by kernel_rfl) rfl baseForms_plain (by kernel_rfl)
end Go.Proofs.YtbfeamknaiaghaaGreatDoor
