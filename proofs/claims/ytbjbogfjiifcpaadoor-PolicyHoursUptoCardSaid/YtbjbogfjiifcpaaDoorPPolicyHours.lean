/- PolicyHours: the law holds of what holds at most 1048576 values and letters together (printed by program, but for the law itself). -/
import Derived.Test.YtbjbogfjiifcpaaDoorF
import Derived.Test.YtbjbogfjiifcpaaDoorU1
import Derived.Test.YtbjbogfjiifcpaaDoorL6
import Derived.Test.YtbjbogfjiifcpaaDoorCards
import Derived.Test.YtbjbogfjiifcpaaDoorTie
import Derived.Test.YtbjbogfjiifcpaaDoorG1
import Derived.Deep.DeepHandedRow
import Derived.Lay
import Derived.LaidMore
import Derived.SevenTiedAt
import Derived.Stop.Joined
namespace Go.Proofs.YtbjbogfjiifcpaaDoor
open Go.ChangeShapes Go.WideShapes Go.ChangeAt Go.RowKit
set_option maxHeartbeats 4000000 in
set_option maxRecDepth 100000 in
theorem op5 : OpensQ En (fun v => ∃ n : Int, v = V.int .u8 n) 5 := by
  have h := opens_int En_ok (T := 5) (by rw [tb5]) (by rw [tb5])
  rw [tb5] at h
  exact h
set_option maxRecDepth 100000 in
theorem policyHours_call (H : Type) (enc : TypeId × Value → H) (W : World) (base : Nat) (args : Array Value) (ds : List (DataW H)) (ps : List MemPlace) (hA : DataW.TrodAll enc En.P W 0 (fun _ => true) true Tryd.f7.params.toList args.toList ds ps)
    (hval : ∀ (j : Nat) t v, Tryd.f7.params[j]? = some t → args[j]? = some v → Value.okWide En.P W .any base t v) (hb : Rows.uptoBulkAll ds ≤ 1048576) : ∃ ws, rdT ro0 (base0 W) ws args.toList ∧ CallOk En 7 ws (.bool true) [] := by
  rw [Tryd.params7] at hA hval
  obtain ⟨v0, vs0, d0, ds0, p0, q0, hargs, rfl, rfl, h0, r0⟩ := trodAll_cons hA
  obtain ⟨v1, vs1, d1, ds1, p1, q1, rfl, rfl, rfl, h1, r1⟩ := trodAll_cons r0
  obtain ⟨rfl, rfl, rfl⟩ := trodAll_nil r1
  obtain rfl : args = #[v0, v1] := by cases args; simp_all
  simp only [Rows.uptoBulkAll] at hb
  obtain ⟨u0, ⟨x0, rfl⟩, e0⟩ := open_arg En_ok (T := 5) (by rw [tb5]) (by rw [tb5]; decide) op5 (hval 0 5 v0 rfl rfl) h0 (by omega)
  obtain ⟨u1, ⟨x1, rfl⟩, e1⟩ := open_arg En_ok (T := 5) (by rw [tb5]) (by rw [tb5]; decide) op5 (hval 1 5 v1 rfl rfl) h1 (by omega)
  refine ⟨[.int .u8 x0, .int .u8 x1], ⟨v0, [v1], rfl, e0, v1, [], rfl, e1, rfl⟩, ?_⟩
  have h := specielaw46_PolicyHours_ok  x0 x1
  rw [specielaw46_PolicyHours_true x0 x1 (rdT_wf (c := base0 W) (cs := [v0, v1]) ⟨v0, [v1], rfl, e0, v1, [], rfl, e1, rfl⟩)] at h
  exact h
theorem policyHours_own : ownKnob Tryd.prog.godebug = none := by kernel_rfl
theorem policyHours_laid : laidOutB Tryd.prog = true := by kernel_rfl
set_option maxRecDepth 100000 in
theorem policyHours_types : ∀ t ∈ Tryd.f7.params.toList, Tryd.prog.readableRec t = true ∧ t < Tryd.prog.types.size := by
  intro t ht
  rw [Tryd.params7] at ht
  simp only [List.mem_cons, List.not_mem_nil, or_false] at ht
  rcases ht with rfl | rfl <;> exact ⟨by kernel_rfl, of_decide_eq_true (by kernel_rfl)⟩
set_option maxRecDepth 100000 in
theorem policyHours_spec (H : Type) (ds : List (DataW H)) (h : ds.length = Tryd.f7.params.toList.length) : Rows.policyHoursSpec.fn H ds = { results := [.lit (.bool true)], args := ds } := by
  rw [Tryd.params7] at h
  match ds, h with
  | [d0, d1], _ => rfl
theorem policyHours_met (os : Os) : laidMetH Tryd.prog Rows.policyHoursUptoRow.laid ((World.laidAll Tryd.prog os Rows.policyHoursUptoRow.laid).forCall (fun _ _ => 0) ⟨#[], #[.int .u8 0, .int .u8 0], []⟩).memory := by
  rw [MakeChecks.laidMetH_plain _ _ _ (by kernel_rfl)]
  exact laidMet_laidAll _ (by kernel_rfl) (by kernel_rfl)
theorem policyHours_reads (os : Os) {H : Type} (enc : TypeId × Value → H) : ∃ places, DataW.whole enc Tryd.prog ((World.laidAll Tryd.prog os Rows.policyHoursUptoRow.laid).forCall (fun _ _ => 0) ⟨#[], #[.int .u8 0, .int .u8 0], []⟩).memory Tryd.f7.params.toList Rows.policyHoursSpec.vars false (#[.int .u8 0, .int .u8 0] : Array Value).toList 8 = some ([.lit (.int .u8 0), .lit (.int .u8 0)], [], places) := ⟨[], by kernel_rfl⟩
set_option maxRecDepth 100000 in
theorem policyHours_lifted (os : Os) (started : os.Started) (H : Type) (enc : TypeId × Value → H) (F : Stop.Interp) :
    ReturnsInHanded {} Tryd.checked os 7 .any ((Rows.OpenSpec.upto Rows.policyHoursSpec).preRow enc Tryd.prog Tryd.f7 Rows.policyHoursUptoRow.domain false Rows.policyHoursUptoRow.laid) (((Rows.OpenSpec.upto Rows.policyHoursSpec).at F).post enc Tryd.prog Tryd.f7 false true false false) := by
  obtain ⟨places, hx⟩ := policyHours_reads os enc
  refine returnsInHanded_of_row (C := Tryd.checked) (s := (Rows.OpenSpec.upto Rows.policyHoursSpec)) policyHours_own started (by kernel_rfl) Tryd.func7
    (witness_row_at (enc := enc) (C := Tryd.checked) false (World.laidAll Tryd.prog os Rows.policyHoursUptoRow.laid) #[.int .u8 0, .int .u8 0] (World.laidAll_os _ _ _) (by kernel_rfl) (by kernel_rfl) (by kernel_rfl)
      (OpenSpec.preRow_of_cond 8 hx (by kernel_rfl) (fun k hk => by cases hk; kernel_rfl) (by kernel_rfl) (policyHours_met os))) ?_
  intro W base args ds gs before hval hW _ hk _ hL hsh _
  exact law_contractG (E := En) (bt := 4) Tryd.underlying4 rfl rfl policyHours_laid policyHours_types policyHours_spec policyHours_call H enc W base args ds gs before hval hW (hk _ rfl) rfl (gl_of hsh)
theorem policyHours_said : Rows.PolicyHoursUptoSaid :=
  OpenClaim.holds_of_cond 7 Tryd.f7 rfl rfl rfl rfl rfl rfl rfl ⟨rfl, rfl, rfl, rfl, rfl⟩ rfl rfl rfl rfl rfl (by kernel_rfl) Tryd.func7 (by kernel_rfl)
    (of_decide_eq_true (by kernel_rfl)) (by unfold Func.isWrapper; first | (rw [if_pos (by decide +kernel)]; kernel_rfl) | (rw [if_neg (by decide +kernel)]; exact ⟨rfl, rfl⟩))
    (fun os started H enc _ F => by rw [OpenClaim.pre_eq_preRow]; exact policyHours_lifted os started H enc F)
theorem policyHours_plain (f : FuncId) (fn : Func) (hf : Tryd.pinned.checked.prog.funcNamed "specie/specielaw46.PolicyHours" = some f) (hfn : Tryd.pinned.checked.prog.funcs[f]? = some fn) :
    true = Tryd.pinned.checked.prog.looks [] ∧ ∀ (j : Nat) t, fn.params[j]? = some t → Tryd.pinned.checked.prog.wantsStandIn t = false := by
  obtain rfl : f = 7 := Option.some.inj ((show Tryd.prog.funcNamed "specie/specielaw46.PolicyHours" = some 7 by kernel_rfl).symm.trans hf) |>.symm
  obtain rfl : fn = Tryd.f7 := (Option.some.inj (Tryd.func7.symm.trans hfn)).symm
  refine ⟨by kernel_rfl, fun j t ht => ?_⟩
  have hall : (Tryd.f7.params.toList.all fun u => !Tryd.prog.wantsStandIn u) = true := by kernel_rfl
  have h0 := List.all_eq_true.1 hall t (Array.mem_toList_iff.2 (Array.mem_of_getElem? ht))
  exact (show Tryd.prog.wantsStandIn t = false by simpa using h0)
/-- PolicyHours, for what holds at most 1048576 values and letters: the tied card. -/
theorem policyHours_holds : Rows.PolicyHoursUptoCardSaid :=
  Claim7.holds_tied_plain_at .later [] _ _ _ _ policyHours_said (fun _ h => by cases h) (by kernel_rfl) (fun _ h => by cases h) policyHoursUpto_row_tie rfl ⟨rfl, rfl⟩ (by kernel_rfl) rfl policyHours_plain (by kernel_rfl)
end Go.Proofs.YtbjbogfjiifcpaaDoor
