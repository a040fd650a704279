/- PolicyTexts: the law holds of what holds at most 1048576 values and letters together (printed by program, but for the law itself). -/
import Derived.Test.YteolfhljhnplpaaDoorZ6
import Derived.Test.YteolfhljhnplpaaDoorZ4
import Derived.Test.YteolfhljhnplpaaDoorZ5
import Derived.Test.YteolfhljhnplpaaDoorCards
import Derived.Test.YteolfhljhnplpaaDoorTie
import Derived.Deep.DeepHandedRow
import Derived.Lay
import Derived.LaidMore
import Derived.SevenTiedAt
import Derived.Stop.Joined
namespace Go.Proofs.YteolfhljhnplpaaDoor
open Go.ChangeShapes Go.WideShapes Go.ChangeAt Go.RowKit
set_option maxHeartbeats 4000000 in
set_option maxRecDepth 100000 in
theorem op3 : OpensQ En (fun v => ∃ n : Int, v = V.int .i64 n) 3 := by
 have h := opens_int En_ok (T := 3) (by rw [tb3]) (by rw [tb3])
 rw [tb3] at h
 exact h
set_option maxHeartbeats 4000000 in
set_option maxRecDepth 100000 in
theorem op49 : OpensQ En (fun v => ∃ x : S_api_Rule, v = e_api_Rule x) 49 := by
 have h := opens_struct En_ok (T := 49) (by rw [tb49]) (by rw [tb49]) [(fun v => ∃ n : Int, v = V.int .i64 n), (fun v => ∃ n : Int, v = V.int .i64 n), (fun v => ∃ n : Int, v = V.int .i64 n)] (by rw [tb49]; exact ⟨op3, op3, op3, trivial⟩)
 rw [tb49] at h
 refine h.mono ?_
 rintro v ⟨vs, h, rfl⟩
 obtain ⟨v0, vs0, rfl, ⟨x0, h0⟩, h⟩ := FQ_cons h
 obtain ⟨v1, vs1, rfl, ⟨x1, h1⟩, h⟩ := FQ_cons h
 obtain ⟨v2, vs2, rfl, ⟨x2, h2⟩, h⟩ := FQ_cons h
 cases FQ_nil h
 exact ⟨⟨x0, x1, x2⟩, by subst h0 h1 h2; simp only [go_sem, flatC]⟩
set_option maxHeartbeats 4000000 in
set_option maxRecDepth 100000 in
theorem op22 : OpensQ En (fun v => ∃ l : List S_api_Rule, v = V.sl none 3 true (l.map e_api_Rule)) 22 := by
 have h := opens_slice En_ok (T := 22) (Q := (fun v => ∃ x : S_api_Rule, v = e_api_Rule x)) (by rw [tb22]) (by rw [tb22]) (by rw [tb22]; exact op49)
 rw [tb22] at h
 refine h.mono ?_
 rintro v ⟨l, hl, rfl⟩
 obtain ⟨m, rfl⟩ := choose_list (f := e_api_Rule) (fun d hd => by obtain ⟨x, hx⟩ := hl d hd; exact ⟨x, hx⟩)
 exact ⟨m, by simp only [tb49]⟩
set_option maxHeartbeats 4000000 in
set_option maxRecDepth 100000 in
theorem op24 : OpensQ En (fun v => ∃ x : S_api_Policy, v = e_api_Policy x) 24 := by
 have h := opens_struct En_ok (T := 24) (by rw [tb24]) (by rw [tb24]) [(fun v => ∃ l : List S_api_Rule, v = V.sl none 3 true (l.map e_api_Rule))] (by rw [tb24]; exact ⟨op22, trivial⟩)
 rw [tb24] at h
 refine h.mono ?_
 rintro v ⟨vs, h, rfl⟩
 obtain ⟨v0, vs0, rfl, ⟨x0, h0⟩, h⟩ := FQ_cons h
 cases FQ_nil h
 exact ⟨⟨x0⟩, by subst h0; simp only [go_sem, flatC]⟩
set_option maxHeartbeats 4000000 in
set_option maxRecDepth 100000 in
theorem op9 : OpensQ En (fun v => ∃ s : List UInt8, v = V.str s) 9 := by
 have h := opens_str En_ok (T := 9) (by rw [tb9]) (by rw [tb9])
 exact h
set_option maxRecDepth 100000 in
theorem policyTexts_call (H : Type) (enc : TypeId × Value → H) (W : World) (base : Nat) (args : Array Value) (ds : List (DataW H)) (ps : List MemPlace) (hA : DataW.TrodAll enc En.P W 0 (fun _ => true) true Tryd.f3.params.toList args.toList ds ps)
  (hval : ∀ (j : Nat) t v, Tryd.f3.params[j]? = some t → args[j]? = some v → Value.okWide En.P W .any base t v) (hb : Rows.uptoBulkAll ds ≤ 1048576) : ∃ ws, rdT ro0 (base0 W) ws args.toList ∧ CallOk En 3 ws (.bool true) [] := by
 rw [Tryd.params3] at hA hval
 obtain ⟨v0, vs0, d0, ds0, p0, q0, hargs, rfl, rfl, h0, r0⟩ := trodAll_cons hA
 obtain ⟨v1, vs1, d1, ds1, p1, q1, rfl, rfl, rfl, h1, r1⟩ := trodAll_cons r0
 obtain ⟨rfl, rfl, rfl⟩ := trodAll_nil r1
 obtain rfl : args = #[v0, v1] := by cases args; simp_all
 simp only [Rows.uptoBulkAll] at hb
 obtain ⟨u0, ⟨x0, rfl⟩, e0⟩ := open_arg En_ok (T := 24) (by rw [tb24]) (by rw [tb24]; decide) op24 (hval 0 24 v0 rfl rfl) h0 (by omega)
 obtain ⟨u1, ⟨x1, rfl⟩, e1⟩ := open_arg En_ok (T := 9) (by rw [tb9]) (by rw [tb9]; decide) op9 (hval 1 9 v1 rfl rfl) h1 (by omega)
 refine ⟨[e_api_Policy x0, .str x1], ⟨v0, [v1], rfl, e0, v1, [], rfl, e1, rfl⟩, ?_⟩
 have h := (specielaw46_PolicyTexts_ok x0 x1).ok
 rw [specielaw46_PolicyTexts_true x0 x1] at h
 exact h
theorem policyTexts_own : ownKnob Tryd.prog.godebug = none := by kernel_rfl
theorem policyTexts_laid : laidOutB Tryd.prog = true := by kernel_rfl
set_option maxRecDepth 100000 in
theorem policyTexts_types : ∀ t ∈ Tryd.f3.params.toList, Tryd.prog.readableRec t = true ∧ t < Tryd.prog.types.size := by
 intro t ht
 rw [Tryd.params3] at ht
 simp only [List.mem_cons, List.not_mem_nil, or_false] at ht
 rcases ht with rfl | rfl <;> exact ⟨by kernel_rfl, of_decide_eq_true (by kernel_rfl)⟩
set_option maxRecDepth 100000 in
theorem policyTexts_spec (H : Type) (ds : List (DataW H)) (h : ds.length = Tryd.f3.params.toList.length) : Rows.policyTextsSpec.fn H ds = { results := [.lit (.bool true)], args := ds } := by
 rw [Tryd.params3] at h
 match ds, h with
 | [d0, d1], _ => rfl
def policyTexts_vals : Array Value := #[.agg #[.slice none 0 0], .string .empty]
theorem policyTexts_met (os : Os) : laidMetH Tryd.prog Rows.policyTextsUptoRow.laid ((World.laidAll Tryd.prog os Rows.policyTextsUptoRow.laid).forCall (fun _ _ => 0) ⟨#[], policyTexts_vals, []⟩).memory := by
 rw [MakeChecks.laidMetH_plain _ _ _ (by kernel_rfl)]
 exact laidMet_laidAll _ (by kernel_rfl) (by kernel_rfl)
theorem policyTexts_reads (os : Os) {H : Type} (enc : TypeId × Value → H) : ∃ places, DataW.whole enc Tryd.prog ((World.laidAll Tryd.prog os Rows.policyTextsUptoRow.laid).forCall (fun _ _ => 0) ⟨#[], policyTexts_vals, []⟩).memory Tryd.f3.params.toList Rows.policyTextsSpec.vars false (policyTexts_vals : Array Value).toList 8 = some ([.agg [.nil], .lit (.string [])], [], places) := ⟨[], by kernel_rfl⟩
set_option maxRecDepth 100000 in
theorem policyTexts_lifted (os : Os) (started : os.Started) (H : Type) (enc : TypeId × Value → H) (F : Stop.Interp) :
  ReturnsInHanded {} Tryd.checked os 3 .any ((Rows.OpenSpec.upto Rows.policyTextsSpec).preRow enc Tryd.prog Tryd.f3 Rows.policyTextsUptoRow.domain false Rows.policyTextsUptoRow.laid) (((Rows.OpenSpec.upto Rows.policyTextsSpec).at F).post enc Tryd.prog Tryd.f3 false true false false) := by
 obtain ⟨places, hx⟩ := policyTexts_reads os enc
 refine returnsInHanded_of_row (C := Tryd.checked) (s := (Rows.OpenSpec.upto Rows.policyTextsSpec)) policyTexts_own started (by kernel_rfl) Tryd.func3
  (witness_row_at (enc := enc) (C := Tryd.checked) false (World.laidAll Tryd.prog os Rows.policyTextsUptoRow.laid) policyTexts_vals (World.laidAll_os _ _ _) (by kernel_rfl) (by kernel_rfl) (by kernel_rfl)
   (OpenSpec.preRow_of_cond 8 hx (by kernel_rfl) (fun k hk => by cases hk; kernel_rfl) (by kernel_rfl) (policyTexts_met os))) ?_
 intro W base args ds gs before hval hW _ hk _ hL hsh _
 exact law_contractG (E := En) (bt := 4) Tryd.underlying4 rfl rfl policyTexts_laid policyTexts_types policyTexts_spec policyTexts_call H enc W base args ds gs before hval hW (hk _ rfl) rfl (gl_of hL hsh)
theorem policyTexts_said : Rows.PolicyTextsUptoSaid :=
 OpenClaim.holds_of_cond 3 Tryd.f3 rfl rfl rfl rfl rfl rfl rfl ⟨rfl, rfl, rfl, rfl, rfl⟩ rfl rfl rfl rfl rfl (by kernel_rfl) Tryd.func3 (by kernel_rfl)
  (of_decide_eq_true (by kernel_rfl)) (by unfold Func.isWrapper; first | (rw [if_pos (by decide +kernel)]; kernel_rfl) | (rw [if_neg (by decide +kernel)]; exact ⟨rfl, rfl⟩))
  (fun os started H enc _ F => by rw [OpenClaim.pre_eq_preRow]; exact policyTexts_lifted os started H enc F)
theorem policyTexts_plain (f : FuncId) (fn : Func) (hf : Tryd.pinned.checked.prog.funcNamed "specie/specielaw46.PolicyTexts" = some f) (hfn : Tryd.pinned.checked.prog.funcs[f]? = some fn) :
  true = Tryd.pinned.checked.prog.looks [] ∧ ∀ (j : Nat) t, fn.params[j]? = some t → Tryd.pinned.checked.prog.wantsStandIn t = false := by
 obtain rfl : f = 3 := Option.some.inj ((show Tryd.prog.funcNamed "specie/specielaw46.PolicyTexts" = some 3 by kernel_rfl).symm.trans hf) |>.symm
 obtain rfl : fn = Tryd.f3 := (Option.some.inj (Tryd.func3.symm.trans hfn)).symm
 refine ⟨by kernel_rfl, fun j t ht => ?_⟩
 have hall : (Tryd.f3.params.toList.all fun u => !Tryd.prog.wantsStandIn u) = true := by kernel_rfl
 have h0 := List.all_eq_true.1 hall t (Array.mem_toList_iff.2 (Array.mem_of_getElem? ht))
 exact (show Tryd.prog.wantsStandIn t = false by simpa using h0)
theorem policyTexts_holds : Rows.PolicyTextsUptoCardSaid :=
 Claim7.holds_tied_plain_at .later [] _ _ _ _ policyTexts_said (fun _ h => by cases h) (by kernel_rfl) (fun _ h => by cases h) policyTextsUpto_row_tie rfl ⟨rfl, rfl⟩ (by kernel_rfl) rfl policyTexts_plain (by kernel_rfl)
end Go.Proofs.YteolfhljhnplpaaDoor
