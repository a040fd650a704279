/- BaseDigests: the law holds of what holds at most 1048576 values and letters together (printed by program, but for the law itself). -/
import Derived.Test.YtbfeamknaiaghaaDoorZ7
import Derived.Test.YtbfeamknaiaghaaDoorZ6
import Derived.Test.YtbfeamknaiaghaaDoorCards
import Derived.Test.YtbfeamknaiaghaaDoorTie
import Derived.Deep.DeepHandedRow
import Derived.Lay
import Derived.LaidMore
import Derived.SevenTiedAt
import Derived.Stop.Joined
namespace Go.Proofs.YtbfeamknaiaghaaDoor
open Go.ChangeShapes Go.WideShapes Go.ChangeAt Go.RowKit
set_option maxHeartbeats 4000000 in
set_option maxRecDepth 100000 in
theorem op3 : OpensQ En (fun v => ∃ n : Int, v = V.int .i64 n) 3 := by
 have h := opens_int En_ok (T := 3) (by rw [tb3]) (by rw [tb3])
 rw [tb3] at h
 exact h
set_option maxHeartbeats 4000000 in
set_option maxRecDepth 100000 in
theorem op36 : OpensQ En (fun v => ∃ x : S_api_Group, v = e_api_Group x) 36 := by
 have h := opens_struct En_ok (T := 36) (by rw [tb36]) (by rw [tb36]) [(fun v => ∃ n : Int, v = V.int .i64 n), (fun v => ∃ n : Int, v = V.int .i64 n), (fun v => ∃ n : Int, v = V.int .i64 n)] (by rw [tb36]; exact ⟨op3, op3, op3, trivial⟩)
 rw [tb36] at h
 refine h.mono ?_
 rintro v ⟨vs, h, rfl⟩
 obtain ⟨v0, vs0, rfl, ⟨x0, h0⟩, h⟩ := FQ_cons h
 obtain ⟨v1, vs1, rfl, ⟨x1, h1⟩, h⟩ := FQ_cons h
 obtain ⟨v2, vs2, rfl, ⟨x2, h2⟩, h⟩ := FQ_cons h
 cases FQ_nil h
 exact ⟨⟨x0, x1, x2⟩, by subst h0 h1 h2; simp only [go_sem, flatC]⟩
set_option maxHeartbeats 4000000 in
set_option maxRecDepth 100000 in
theorem op38 : OpensQ En (fun v => ∃ x : S_api_Bases, v = e_api_Bases x) 38 := by
 have h := opens_struct En_ok (T := 38) (by rw [tb38]) (by rw [tb38]) [(fun v => ∃ x : S_api_Group, v = e_api_Group x), (fun v => ∃ n : Int, v = V.int .i64 n), (fun v => ∃ n : Int, v = V.int .i64 n), (fun v => ∃ n : Int, v = V.int .i64 n)] (by rw [tb38]; exact ⟨op36, op3, op3, op3, trivial⟩)
 rw [tb38] at h
 refine h.mono ?_
 rintro v ⟨vs, h, rfl⟩
 obtain ⟨v0, vs0, rfl, ⟨x0, h0⟩, h⟩ := FQ_cons h
 obtain ⟨v1, vs1, rfl, ⟨x1, h1⟩, h⟩ := FQ_cons h
 obtain ⟨v2, vs2, rfl, ⟨x2, h2⟩, h⟩ := FQ_cons h
 obtain ⟨v3, vs3, rfl, ⟨x3, h3⟩, h⟩ := FQ_cons h
 cases FQ_nil h
 exact ⟨⟨x0, x1, x2, x3⟩, by subst h0 h1 h2 h3; simp only [go_sem, flatC]⟩
set_option maxRecDepth 100000 in
theorem baseDigests_call (H : Type) (enc : TypeId × Value → H) (W : World) (base : Nat) (args : Array Value) (ds : List (DataW H)) (ps : List MemPlace) (hA : DataW.TrodAll enc En.P W 0 (fun _ => true) true Tryd.f5.params.toList args.toList ds ps)
  (hval : ∀ (j : Nat) t v, Tryd.f5.params[j]? = some t → args[j]? = some v → Value.okWide En.P W .any base t v) (hb : Rows.uptoBulkAll ds ≤ 1048576) : ∃ ws, rdT ro0 (base0 W) ws args.toList ∧ CallOk En 5 ws (.bool true) [] := by
 rw [Tryd.params5] at hA hval
 obtain ⟨v0, vs0, d0, ds0, p0, q0, hargs, rfl, rfl, h0, r0⟩ := trodAll_cons hA
 obtain ⟨v1, vs1, d1, ds1, p1, q1, rfl, rfl, rfl, h1, r1⟩ := trodAll_cons r0
 obtain ⟨rfl, rfl, rfl⟩ := trodAll_nil r1
 obtain rfl : args = #[v0, v1] := by cases args; simp_all
 simp only [Rows.uptoBulkAll] at hb
 obtain ⟨u0, ⟨x0, rfl⟩, e0⟩ := open_arg En_ok (T := 38) (by rw [tb38]) (by rw [tb38]; decide) op38 (hval 0 38 v0 rfl rfl) h0 (by omega)
 obtain ⟨u1, ⟨x1, rfl⟩, e1⟩ := open_arg En_ok (T := 38) (by rw [tb38]) (by rw [tb38]; decide) op38 (hval 1 38 v1 rfl rfl) h1 (by omega)
 refine ⟨[e_api_Bases x0, e_api_Bases x1], ⟨v0, [v1], rfl, e0, v1, [], rfl, e1, rfl⟩, ?_⟩
 have h := (specielaw11_BaseDigests_ok x0 x1).ok
 rw [specielaw11_BaseDigests_true x0 x1] at h
 exact h
theorem baseDigests_own : ownKnob Tryd.prog.godebug = none := by kernel_rfl
theorem baseDigests_laid : laidOutB Tryd.prog = true := by kernel_rfl
set_option maxRecDepth 100000 in
theorem baseDigests_types : ∀ t ∈ Tryd.f5.params.toList, Tryd.prog.readableRec t = true ∧ t < Tryd.prog.types.size := by
 intro t ht
 rw [Tryd.params5] at ht
 simp only [List.mem_cons, List.not_mem_nil, or_false] at ht
 rcases ht with rfl | rfl <;> exact ⟨by kernel_rfl, of_decide_eq_true (by kernel_rfl)⟩
set_option maxRecDepth 100000 in
theorem baseDigests_spec (H : Type) (ds : List (DataW H)) (h : ds.length = Tryd.f5.params.toList.length) : Rows.baseDigestsSpec.fn H ds = { results := [.lit (.bool true)], args := ds } := by
 rw [Tryd.params5] at h
 match ds, h with
 | [d0, d1], _ => rfl
def baseDigests_vals : Array Value := #[.agg #[.int .i64 0, .int .i64 0, .int .i64 0, .int .i64 0, .int .i64 0, .int .i64 0], .agg #[.int .i64 0, .int .i64 0, .int .i64 0, .int .i64 0, .int .i64 0, .int .i64 0]]
theorem baseDigests_met (os : Os) : laidMetH Tryd.prog Rows.baseDigestsUptoRow.laid ((World.laidAll Tryd.prog os Rows.baseDigestsUptoRow.laid).forCall (fun _ _ => 0) ⟨#[], baseDigests_vals, []⟩).memory := by
 rw [MakeChecks.laidMetH_plain _ _ _ (by kernel_rfl)]
 exact laidMet_laidAll _ (by kernel_rfl) (by kernel_rfl)
theorem baseDigests_reads (os : Os) {H : Type} (enc : TypeId × Value → H) : ∃ places, DataW.whole enc Tryd.prog ((World.laidAll Tryd.prog os Rows.baseDigestsUptoRow.laid).forCall (fun _ _ => 0) ⟨#[], baseDigests_vals, []⟩).memory Tryd.f5.params.toList Rows.baseDigestsSpec.vars false (baseDigests_vals : Array Value).toList 8 = some ([.agg [.agg [.lit (.int .i64 0), .lit (.int .i64 0), .lit (.int .i64 0)], .lit (.int .i64 0), .lit (.int .i64 0), .lit (.int .i64 0)], .agg [.agg [.lit (.int .i64 0), .lit (.int .i64 0), .lit (.int .i64 0)], .lit (.int .i64 0), .lit (.int .i64 0), .lit (.int .i64 0)]], [], places) := ⟨[], by kernel_rfl⟩
set_option maxRecDepth 100000 in
theorem baseDigests_lifted (os : Os) (started : os.Started) (H : Type) (enc : TypeId × Value → H) (F : Stop.Interp) :
  ReturnsInHanded {} Tryd.checked os 5 .any ((Rows.OpenSpec.upto Rows.baseDigestsSpec).preRow enc Tryd.prog Tryd.f5 Rows.baseDigestsUptoRow.domain false Rows.baseDigestsUptoRow.laid) (((Rows.OpenSpec.upto Rows.baseDigestsSpec).at F).post enc Tryd.prog Tryd.f5 false true false false) := by
 obtain ⟨places, hx⟩ := baseDigests_reads os enc
 refine returnsInHanded_of_row (C := Tryd.checked) (s := (Rows.OpenSpec.upto Rows.baseDigestsSpec)) baseDigests_own started (by kernel_rfl) Tryd.func5
  (witness_row_at (enc := enc) (C := Tryd.checked) false (World.laidAll Tryd.prog os Rows.baseDigestsUptoRow.laid) baseDigests_vals (World.laidAll_os _ _ _) (by kernel_rfl) (by kernel_rfl) (by kernel_rfl)
   (OpenSpec.preRow_of_cond 8 hx (by kernel_rfl) (fun k hk => by cases hk; kernel_rfl) (by kernel_rfl) (baseDigests_met os))) ?_
 intro W base args ds gs before hval hW _ hk _ hL hsh _
 exact law_contractG (E := En) (bt := 4) Tryd.underlying4 rfl rfl baseDigests_laid baseDigests_types baseDigests_spec baseDigests_call H enc W base args ds gs before hval hW (hk _ rfl) rfl (gl_of hL hsh)
theorem baseDigests_said : Rows.BaseDigestsUptoSaid :=
 OpenClaim.holds_of_cond 5 Tryd.f5 rfl rfl rfl rfl rfl rfl rfl ⟨rfl, rfl, rfl, rfl, rfl⟩ rfl rfl rfl rfl rfl (by kernel_rfl) Tryd.func5 (by kernel_rfl)
  (of_decide_eq_true (by kernel_rfl)) (by unfold Func.isWrapper; first | (rw [if_pos (by decide +kernel)]; kernel_rfl) | (rw [if_neg (by decide +kernel)]; exact ⟨rfl, rfl⟩))
  (fun os started H enc _ F => by rw [OpenClaim.pre_eq_preRow]; exact baseDigests_lifted os started H enc F)
theorem baseDigests_plain (f : FuncId) (fn : Func) (hf : Tryd.pinned.checked.prog.funcNamed "specie/specielaw11.BaseDigests" = some f) (hfn : Tryd.pinned.checked.prog.funcs[f]? = some fn) :
  true = Tryd.pinned.checked.prog.looks [] ∧ ∀ (j : Nat) t, fn.params[j]? = some t → Tryd.pinned.checked.prog.wantsStandIn t = false := by
 obtain rfl : f = 5 := Option.some.inj ((show Tryd.prog.funcNamed "specie/specielaw11.BaseDigests" = some 5 by kernel_rfl).symm.trans hf) |>.symm
 obtain rfl : fn = Tryd.f5 := (Option.some.inj (Tryd.func5.symm.trans hfn)).symm
 refine ⟨by kernel_rfl, fun j t ht => ?_⟩
 have hall : (Tryd.f5.params.toList.all fun u => !Tryd.prog.wantsStandIn u) = true := by kernel_rfl
 have h0 := List.all_eq_true.1 hall t (Array.mem_toList_iff.2 (Array.mem_of_getElem? ht))
 exact (show Tryd.prog.wantsStandIn t = false by simpa using h0)
theorem baseDigests_holds : Rows.BaseDigestsUptoCardSaid :=
 Claim7.holds_tied_plain_at .later [] _ _ _ _ baseDigests_said (fun _ h => by cases h) (by kernel_rfl) (fun _ h => by cases h) baseDigestsUpto_row_tie rfl ⟨rfl, rfl⟩ (by kernel_rfl) rfl baseDigests_plain (by kernel_rfl)
end Go.Proofs.YtbfeamknaiaghaaDoor
