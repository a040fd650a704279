/- PolicyMonotone: the law holds of what holds at most 1048576 values and letters together (printed by program, but for the law itself). -/
import Derived.Test.YtbjbogfjiifcpaaDoorF
import Derived.Test.YtbjbogfjiifcpaaDoorU1
import Derived.Test.YtbjbogfjiifcpaaDoorL7
import Derived.Test.YtbjbogfjiifcpaaDoorCards
import Derived.Test.YtbjbogfjiifcpaaDoorTie
import Derived.Test.YtbjbogfjiifcpaaDoorG1
import Derived.Deep.DeepHandedRow
import Derived.Lay
import Derived.LaidMore
import Derived.SevenTiedAt
import Derived.Stop.Joined
namespace Go.Proofs.YtbjbogfjiifcpaaDoor
open Go.ChangeShapes Go.WideShapes Go.ChangeAt Go.RowKit
set_option maxHeartbeats 4000000 in
set_option maxRecDepth 100000 in
theorem op3 : OpensQ En (fun v => ∃ n : Int, v = V.int .i64 n) 3 := by
  have h := opens_int En_ok (T := 3) (by rw [tb3]) (by rw [tb3])
  rw [tb3] at h
  exact h
set_option maxHeartbeats 4000000 in
set_option maxRecDepth 100000 in
theorem op53 : OpensQ En (fun v => ∃ x : S_api_Rule, v = e_api_Rule x) 53 := by
  have h := opens_struct En_ok (T := 53) (by rw [tb53]) (by rw [tb53]) [(fun v => ∃ n : Int, v = V.int .i64 n), (fun v => ∃ n : Int, v = V.int .i64 n), (fun v => ∃ n : Int, v = V.int .i64 n)] (by rw [tb53]; exact ⟨op3, op3, op3, trivial⟩)
  rw [tb53] at h
  refine h.mono ?_
  rintro v ⟨vs, h, rfl⟩
  obtain ⟨v0, vs0, rfl, ⟨x0, h0⟩, h⟩ := FQ_cons h
  obtain ⟨v1, vs1, rfl, ⟨x1, h1⟩, h⟩ := FQ_cons h
  obtain ⟨v2, vs2, rfl, ⟨x2, h2⟩, h⟩ := FQ_cons h
  cases FQ_nil h
  exact ⟨⟨x0, x1, x2⟩, by subst h0 h1 h2; simp only [go_sem, flatC]⟩
set_option maxHeartbeats 4000000 in
set_option maxRecDepth 100000 in
theorem op35 : OpensQ En (fun v => ∃ l : List S_api_Rule, v = V.sl none 3 true (l.map e_api_Rule)) 35 := by
  have h := opens_slice En_ok (T := 35) (Q := (fun v => ∃ x : S_api_Rule, v = e_api_Rule x)) (by rw [tb35]) (by rw [tb35]) (by rw [tb35]; exact op53)
  rw [tb35] at h
  refine h.mono ?_
  rintro v ⟨l, hl, rfl⟩
  obtain ⟨m, rfl⟩ := choose_list (f := e_api_Rule) (fun d hd => by obtain ⟨x, hx⟩ := hl d hd; exact ⟨x, hx⟩)
  exact ⟨m, by simp only [tb53]⟩
set_option maxHeartbeats 4000000 in
set_option maxRecDepth 100000 in
theorem op37 : OpensQ En (fun v => ∃ x : S_api_Policy, v = e_api_Policy x) 37 := by
  have h := opens_struct En_ok (T := 37) (by rw [tb37]) (by rw [tb37]) [(fun v => ∃ l : List S_api_Rule, v = V.sl none 3 true (l.map e_api_Rule))] (by rw [tb37]; exact ⟨op35, trivial⟩)
  rw [tb37] at h
  refine h.mono ?_
  rintro v ⟨vs, h, rfl⟩
  obtain ⟨v0, vs0, rfl, ⟨x0, h0⟩, h⟩ := FQ_cons h
  cases FQ_nil h
  exact ⟨⟨x0⟩, by subst h0; simp only [go_sem, flatC]⟩
set_option maxHeartbeats 4000000 in
set_option maxRecDepth 100000 in
theorem op49 : OpensQ En (fun v => ∃ x : (List Int), v = (fun l => .agg [.int .i64 (gt l 0), .int .i64 (gt l 1)]) x) 49 := by
  have h := opens_array En_ok (T := 49) (Q := (fun v => ∃ n : Int, v = V.int .i64 n)) (by rw [tb49]) (by rw [tb49]) (by rw [tb49]; exact op3)
  rw [tb49] at h
  refine h.mono ?_
  rintro v ⟨l, hn, hl, rfl⟩
  obtain ⟨m, rfl⟩ := choose_list (f := (V.int .i64)) (fun d hd => by obtain ⟨x, hx⟩ := hl d hd; exact ⟨x, hx⟩)
  refine ⟨m, ?_⟩
  have hm : m.length = 2 := by simpa only [List.length_map, tb49] using hn
  rw [map_range (f := (V.int .i64)) hm]
  simp only [tb3]
  rfl
set_option maxRecDepth 100000 in
theorem policyMonotone_call (H : Type) (enc : TypeId × Value → H) (W : World) (base : Nat) (args : Array Value) (ds : List (DataW H)) (ps : List MemPlace) (hA : DataW.TrodAll enc En.P W 0 (fun _ => true) true Tryd.f5.params.toList args.toList ds ps)
    (hval : ∀ (j : Nat) t v, Tryd.f5.params[j]? = some t → args[j]? = some v → Value.okWide En.P W .any base t v) (hb : Rows.uptoBulkAll ds ≤ 1048576) : ∃ ws, rdT ro0 (base0 W) ws args.toList ∧ CallOk En 5 ws (.bool true) [] := by
  rw [Tryd.params5] at hA hval
  obtain ⟨v0, vs0, d0, ds0, p0, q0, hargs, rfl, rfl, h0, r0⟩ := trodAll_cons hA
  obtain ⟨v1, vs1, d1, ds1, p1, q1, rfl, rfl, rfl, h1, r1⟩ := trodAll_cons r0
  obtain ⟨v2, vs2, d2, ds2, p2, q2, rfl, rfl, rfl, h2, r2⟩ := trodAll_cons r1
  obtain ⟨v3, vs3, d3, ds3, p3, q3, rfl, rfl, rfl, h3, r3⟩ := trodAll_cons r2
  obtain ⟨v4, vs4, d4, ds4, p4, q4, rfl, rfl, rfl, h4, r4⟩ := trodAll_cons r3
  obtain ⟨v5, vs5, d5, ds5, p5, q5, rfl, rfl, rfl, h5, r5⟩ := trodAll_cons r4
  obtain ⟨rfl, rfl, rfl⟩ := trodAll_nil r5
  obtain rfl : args = #[v0, v1, v2, v3, v4, v5] := by cases args; simp_all
  simp only [Rows.uptoBulkAll] at hb
  obtain ⟨u0, ⟨x0, rfl⟩, e0⟩ := open_arg En_ok (T := 37) (by rw [tb37]) (by rw [tb37]; decide) op37 (hval 0 37 v0 rfl rfl) h0 (by omega)
  obtain ⟨u1, ⟨x1, rfl⟩, e1⟩ := open_arg En_ok (T := 49) (by rw [tb49]) (by rw [tb49]; decide) op49 (hval 1 49 v1 rfl rfl) h1 (by omega)
  obtain ⟨u2, ⟨x2, rfl⟩, e2⟩ := open_arg En_ok (T := 49) (by rw [tb49]) (by rw [tb49]; decide) op49 (hval 2 49 v2 rfl rfl) h2 (by omega)
  obtain ⟨u3, ⟨x3, rfl⟩, e3⟩ := open_arg En_ok (T := 49) (by rw [tb49]) (by rw [tb49]; decide) op49 (hval 3 49 v3 rfl rfl) h3 (by omega)
  obtain ⟨u4, ⟨x4, rfl⟩, e4⟩ := open_arg En_ok (T := 49) (by rw [tb49]) (by rw [tb49]; decide) op49 (hval 4 49 v4 rfl rfl) h4 (by omega)
  obtain ⟨u5, ⟨x5, rfl⟩, e5⟩ := open_arg En_ok (T := 3) (by rw [tb3]) (by rw [tb3]; decide) op3 (hval 5 3 v5 rfl rfl) h5 (by omega)
  refine ⟨[e_api_Policy x0, (fun l => .agg [.int .i64 (gt l 0), .int .i64 (gt l 1)]) x1, (fun l => .agg [.int .i64 (gt l 0), .int .i64 (gt l 1)]) x2, (fun l => .agg [.int .i64 (gt l 0), .int .i64 (gt l 1)]) x3, (fun l => .agg [.int .i64 (gt l 0), .int .i64 (gt l 1)]) x4, .int .i64 x5], ⟨v0, [v1, v2, v3, v4, v5], rfl, e0, v1, [v2, v3, v4, v5], rfl, e1, v2, [v3, v4, v5], rfl, e2, v3, [v4, v5], rfl, e3, v4, [v5], rfl, e4, v5, [], rfl, e5, rfl⟩, ?_⟩
  have h := specielaw46_PolicyMonotone_ok  x0 x1 x2 x3 x4 x5
  rw [specielaw46_PolicyMonotone_true x0 x1 x2 x3 x4 x5] at h
  exact h
theorem policyMonotone_own : ownKnob Tryd.prog.godebug = none := by kernel_rfl
theorem policyMonotone_laid : laidOutB Tryd.prog = true := by kernel_rfl
set_option maxRecDepth 100000 in
theorem policyMonotone_types : ∀ t ∈ Tryd.f5.params.toList, Tryd.prog.readableRec t = true ∧ t < Tryd.prog.types.size := by
  intro t ht
  rw [Tryd.params5] at ht
  simp only [List.mem_cons, List.not_mem_nil, or_false] at ht
  rcases ht with rfl | rfl | rfl | rfl | rfl | rfl <;> exact ⟨by kernel_rfl, of_decide_eq_true (by kernel_rfl)⟩
set_option maxRecDepth 100000 in
theorem policyMonotone_spec (H : Type) (ds : List (DataW H)) (h : ds.length = Tryd.f5.params.toList.length) : Rows.policyMonotoneSpec.fn H ds = { results := [.lit (.bool true)], args := ds } := by
  rw [Tryd.params5] at h
  match ds, h with
  | [d0, d1, d2, d3, d4, d5], _ => rfl
theorem policyMonotone_met (os : Os) : laidMetH Tryd.prog Rows.policyMonotoneUptoRow.laid ((World.laidAll Tryd.prog os Rows.policyMonotoneUptoRow.laid).forCall (fun _ _ => 0) ⟨#[], #[.agg #[.slice none 0 0], .agg #[.int .i64 0, .int .i64 0], .agg #[.int .i64 0, .int .i64 0], .agg #[.int .i64 0, .int .i64 0], .agg #[.int .i64 0, .int .i64 0], .int .i64 0], []⟩).memory := by
  rw [MakeChecks.laidMetH_plain _ _ _ (by kernel_rfl)]
  exact laidMet_laidAll _ (by kernel_rfl) (by kernel_rfl)
theorem policyMonotone_reads (os : Os) {H : Type} (enc : TypeId × Value → H) : ∃ places, DataW.whole enc Tryd.prog ((World.laidAll Tryd.prog os Rows.policyMonotoneUptoRow.laid).forCall (fun _ _ => 0) ⟨#[], #[.agg #[.slice none 0 0], .agg #[.int .i64 0, .int .i64 0], .agg #[.int .i64 0, .int .i64 0], .agg #[.int .i64 0, .int .i64 0], .agg #[.int .i64 0, .int .i64 0], .int .i64 0], []⟩).memory Tryd.f5.params.toList Rows.policyMonotoneSpec.vars false (#[.agg #[.slice none 0 0], .agg #[.int .i64 0, .int .i64 0], .agg #[.int .i64 0, .int .i64 0], .agg #[.int .i64 0, .int .i64 0], .agg #[.int .i64 0, .int .i64 0], .int .i64 0] : Array Value).toList 8 = some ([.agg [.nil], .agg (List.replicate 2 (.lit (.int .i64 0))), .agg (List.replicate 2 (.lit (.int .i64 0))), .agg (List.replicate 2 (.lit (.int .i64 0))), .agg (List.replicate 2 (.lit (.int .i64 0))), .lit (.int .i64 0)], [], places) := ⟨[], by kernel_rfl⟩
set_option maxRecDepth 100000 in
theorem policyMonotone_lifted (os : Os) (started : os.Started) (H : Type) (enc : TypeId × Value → H) (F : Stop.Interp) :
    ReturnsInHanded {} Tryd.checked os 5 .any ((Rows.OpenSpec.upto Rows.policyMonotoneSpec).preRow enc Tryd.prog Tryd.f5 Rows.policyMonotoneUptoRow.domain false Rows.policyMonotoneUptoRow.laid) (((Rows.OpenSpec.upto Rows.policyMonotoneSpec).at F).post enc Tryd.prog Tryd.f5 false true false false) := by
  obtain ⟨places, hx⟩ := policyMonotone_reads os enc
  refine returnsInHanded_of_row (C := Tryd.checked) (s := (Rows.OpenSpec.upto Rows.policyMonotoneSpec)) policyMonotone_own started (by kernel_rfl) Tryd.func5
    (witness_row_at (enc := enc) (C := Tryd.checked) false (World.laidAll Tryd.prog os Rows.policyMonotoneUptoRow.laid) #[.agg #[.slice none 0 0], .agg #[.int .i64 0, .int .i64 0], .agg #[.int .i64 0, .int .i64 0], .agg #[.int .i64 0, .int .i64 0], .agg #[.int .i64 0, .int .i64 0], .int .i64 0] (World.laidAll_os _ _ _) (by kernel_rfl) (by kernel_rfl) (by kernel_rfl)
      (OpenSpec.preRow_of_cond 8 hx (by kernel_rfl) (fun k hk => by cases hk; kernel_rfl) (by kernel_rfl) (policyMonotone_met os))) ?_
  intro W base args ds gs before hval hW _ hk _ hL hsh _
  exact law_contractG (E := En) (bt := 4) Tryd.underlying4 rfl rfl policyMonotone_laid policyMonotone_types policyMonotone_spec policyMonotone_call H enc W base args ds gs before hval hW (hk _ rfl) rfl (gl_of hsh)
theorem policyMonotone_said : Rows.PolicyMonotoneUptoSaid :=
  OpenClaim.holds_of_cond 5 Tryd.f5 rfl rfl rfl rfl rfl rfl rfl ⟨rfl, rfl, rfl, rfl, rfl⟩ rfl rfl rfl rfl rfl (by kernel_rfl) Tryd.func5 (by kernel_rfl)
    (of_decide_eq_true (by kernel_rfl)) (by unfold Func.isWrapper; first | (rw [if_pos (by decide +kernel)]; kernel_rfl) | (rw [if_neg (by decide +kernel)]; exact ⟨rfl, rfl⟩))
    (fun os started H enc _ F => by rw [OpenClaim.pre_eq_preRow]; exact policyMonotone_lifted os started H enc F)
theorem policyMonotone_plain (f : FuncId) (fn : Func) (hf : Tryd.pinned.checked.prog.funcNamed "specie/specielaw46.PolicyMonotone" = some f) (hfn : Tryd.pinned.checked.prog.funcs[f]? = some fn) :
    true = Tryd.pinned.checked.prog.looks [] ∧ ∀ (j : Nat) t, fn.params[j]? = some t → Tryd.pinned.checked.prog.wantsStandIn t = false := by
  obtain rfl : f = 5 := Option.some.inj ((show Tryd.prog.funcNamed "specie/specielaw46.PolicyMonotone" = some 5 by kernel_rfl).symm.trans hf) |>.symm
  obtain rfl : fn = Tryd.f5 := (Option.some.inj (Tryd.func5.symm.trans hfn)).symm
  refine ⟨by kernel_rfl, fun j t ht => ?_⟩
  have hall : (Tryd.f5.params.toList.all fun u => !Tryd.prog.wantsStandIn u) = true := by kernel_rfl
  have h0 := List.all_eq_true.1 hall t (Array.mem_toList_iff.2 (Array.mem_of_getElem? ht))
  exact (show Tryd.prog.wantsStandIn t = false by simpa using h0)
/-- PolicyMonotone, for what holds at most 1048576 values and letters: the tied card. -/
theorem policyMonotone_holds : Rows.PolicyMonotoneUptoCardSaid :=
  Claim7.holds_tied_plain_at .later [] _ _ _ _ policyMonotone_said (fun _ h => by cases h) (by kernel_rfl) (fun _ h => by cases h) policyMonotoneUpto_row_tie rfl ⟨rfl, rfl⟩ (by kernel_rfl) rfl policyMonotone_plain (by kernel_rfl)
end Go.Proofs.YtbjbogfjiifcpaaDoor
