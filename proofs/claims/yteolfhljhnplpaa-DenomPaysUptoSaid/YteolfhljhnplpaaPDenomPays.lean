/- DenomPays: the law holds of what holds at most 1048576 values and letters together (printed by program, but for the law itself). -/
import Derived.Test.YteolfhljhnplpaaZ7
import Derived.Test.YteolfhljhnplpaaZ6
namespace Go.Proofs.Yteolfhljhnplpaa
open Go.ChangeShapes Go.WideShapes Go.ChangeAt Go.RowKit
set_option maxHeartbeats 4000000 in
set_option maxRecDepth 100000 in
theorem op3 : OpensQ En (fun v => ∃ n : Int, v = V.int .i64 n) 3 := by
 have h := opens_int En_ok (T := 3) (by rw [tb3]) (by rw [tb3])
 rw [tb3] at h
 exact h
set_option maxHeartbeats 4000000 in
set_option maxRecDepth 100000 in
theorem op38 : OpensQ En (fun v => ∃ x : S_api_Denom, v = e_api_Denom x) 38 := by
 have h := opens_struct En_ok (T := 38) (by rw [tb38]) (by rw [tb38]) [(fun v => ∃ n : Int, v = V.int .i64 n), (fun v => ∃ n : Int, v = V.int .i64 n)] (by rw [tb38]; exact ⟨op3, op3, trivial⟩)
 rw [tb38] at h
 refine h.mono ?_
 rintro v ⟨vs, h, rfl⟩
 obtain ⟨v0, vs0, rfl, ⟨x0, h0⟩, h⟩ := FQ_cons h
 obtain ⟨v1, vs1, rfl, ⟨x1, h1⟩, h⟩ := FQ_cons h
 cases FQ_nil h
 exact ⟨⟨x0, x1⟩, by subst h0 h1; simp only [go_sem, flatC]⟩
set_option maxHeartbeats 4000000 in
set_option maxRecDepth 100000 in
theorem op22 : OpensQ En (fun v => ∃ l : List S_api_Denom, v = V.sl none 2 true (l.map e_api_Denom)) 22 := by
 have h := opens_slice En_ok (T := 22) (Q := (fun v => ∃ x : S_api_Denom, v = e_api_Denom x)) (by rw [tb22]) (by rw [tb22]) (by rw [tb22]; exact op38)
 rw [tb22] at h
 refine h.mono ?_
 rintro v ⟨l, hl, rfl⟩
 obtain ⟨m, rfl⟩ := choose_list (f := e_api_Denom) (fun d hd => by obtain ⟨x, hx⟩ := hl d hd; exact ⟨x, hx⟩)
 exact ⟨m, by simp only [tb38]⟩
set_option maxHeartbeats 4000000 in
set_option maxRecDepth 100000 in
theorem op23 : OpensQ En (fun v => ∃ l : List Int, v = V.sl none 1 false (l.map (V.int .i64))) 23 := by
 have h := opens_slice En_ok (T := 23) (Q := (fun v => ∃ n : Int, v = V.int .i64 n)) (by rw [tb23]) (by rw [tb23]) (by rw [tb23]; exact op3)
 rw [tb23] at h
 refine h.mono ?_
 rintro v ⟨l, hl, rfl⟩
 obtain ⟨m, rfl⟩ := choose_list (f := (V.int .i64)) (fun d hd => by obtain ⟨x, hx⟩ := hl d hd; exact ⟨x, hx⟩)
 exact ⟨m, by simp only [tb3]⟩
set_option maxRecDepth 100000 in
theorem denomPays_call (H : Type) (enc : TypeId × Value → H) (W : World) (base : Nat) (args : Array Value) (ds : List (DataW H)) (ps : List MemPlace) (hA : DataW.TrodAll enc En.P W 0 (fun _ => true) true Try.f3.params.toList args.toList ds ps)
  (hval : ∀ (j : Nat) t v, Try.f3.params[j]? = some t → args[j]? = some v → Value.okWide En.P W .any base t v) (hb : Rows.uptoBulkAll ds ≤ 1048576) : ∃ ws, rdT ro0 (base0 W) ws args.toList ∧ CallOk En 3 ws (.bool true) [] := by
 rw [Try.params3] at hA hval
 obtain ⟨v0, vs0, d0, ds0, p0, q0, hargs, rfl, rfl, h0, r0⟩ := trodAll_cons hA
 obtain ⟨v1, vs1, d1, ds1, p1, q1, rfl, rfl, rfl, h1, r1⟩ := trodAll_cons r0
 obtain ⟨v2, vs2, d2, ds2, p2, q2, rfl, rfl, rfl, h2, r2⟩ := trodAll_cons r1
 obtain ⟨rfl, rfl, rfl⟩ := trodAll_nil r2
 obtain rfl : args = #[v0, v1, v2] := by cases args; simp_all
 simp only [Rows.uptoBulkAll] at hb
 obtain ⟨u0, ⟨x0, rfl⟩, e0⟩ := open_arg En_ok (T := 22) (by rw [tb22]) (by rw [tb22]; decide) op22 (hval 0 22 v0 rfl rfl) h0 (by omega)
 obtain ⟨u1, ⟨x1, rfl⟩, e1⟩ := open_arg En_ok (T := 23) (by rw [tb23]) (by rw [tb23]; decide) op23 (hval 1 23 v1 rfl rfl) h1 (by omega)
 obtain ⟨u2, ⟨x2, rfl⟩, e2⟩ := open_arg En_ok (T := 3) (by rw [tb3]) (by rw [tb3]; decide) op3 (hval 2 3 v2 rfl rfl) h2 (by omega)
 refine ⟨[.sl none 2 true (x0.map e_api_Denom), .sl none 1 false (x1.map (V.int .i64)), .int .i64 x2], ⟨v0, [v1, v2], rfl, e0, v1, [v2], rfl, e1, v2, [], rfl, e2, rfl⟩, ?_⟩
 have h := (specielaw28_DenomPays_ok x0 x1 x2).ok
 rw [specielaw28_DenomPays_true x0 x1 x2] at h
 exact h
theorem denomPays_own : ownKnob Try.prog.godebug = none := by kernel_rfl
theorem denomPays_laid : laidOutB Try.prog = true := by kernel_rfl
set_option maxRecDepth 100000 in
theorem denomPays_types : ∀ t ∈ Try.f3.params.toList, Try.prog.readableRec t = true ∧ t < Try.prog.types.size := by
 intro t ht
 rw [Try.params3] at ht
 simp only [List.mem_cons, List.not_mem_nil, or_false] at ht
 rcases ht with rfl | rfl | rfl <;> exact ⟨by kernel_rfl, of_decide_eq_true (by kernel_rfl)⟩
set_option maxRecDepth 100000 in
theorem denomPays_spec (H : Type) (ds : List (DataW H)) (h : ds.length = Try.f3.params.toList.length) : Rows.denomPaysSpec.fn H ds = { results := [.lit (.bool true)], args := ds } := by
 rw [Try.params3] at h
 match ds, h with
 | [d0, d1, d2], _ => rfl
set_option maxRecDepth 100000 in
theorem denomPays_lifted (os : Os) (started : os.Started) (H : Type) (enc : TypeId × Value → H) (F : Stop.Interp) :
  ReturnsInHanded {} Try.checked os 3 .any ((Rows.OpenSpec.upto Rows.denomPaysSpec).pre6 enc Try.prog Try.f3 Rows.denomPaysUptoRow.domain false) (((Rows.OpenSpec.upto Rows.denomPaysSpec).at F).post enc Try.prog Try.f3 false true false false) := by
 refine returnsInHanded_of_cond (C := Try.checked) (s := (Rows.OpenSpec.upto Rows.denomPaysSpec)) (k := Rows.uptoSmall) rfl denomPays_own started (by kernel_rfl) Try.func3
  (OpenSpec.witness (enc := enc) (C := Try.checked) (s := (Rows.OpenSpec.upto Rows.denomPaysSpec)) (k := Rows.uptoSmall) rfl false ⟨#[], #[.slice none 0 0, .slice none 0 0, .int .i64 0], []⟩ 8 (by kernel_rfl) (by kernel_rfl) (by kernel_rfl)
   (x := ([.nil, .nil, .lit (.int .i64 0)], [], [])) (by kernel_rfl) rfl (by kernel_rfl)) ?_
 intro W base args ds gs before hval hW _ hk _
 exact law_contract (E := En) rfl (bt := 4) Try.underlying4 rfl rfl denomPays_laid denomPays_types denomPays_spec denomPays_call H enc W base args ds gs before hval hW hk rfl
theorem denomPays_holds : Rows.DenomPaysUptoSaid :=
 OpenClaim.holds_of_cond 3 Try.f3 rfl rfl rfl rfl rfl rfl rfl ⟨rfl, rfl, rfl, rfl, rfl⟩ rfl rfl rfl rfl rfl (by kernel_rfl) Try.func3 (by kernel_rfl)
  (of_decide_eq_true (by kernel_rfl)) (by unfold Func.isWrapper; first | (rw [if_pos (by decide +kernel)]; kernel_rfl) | (rw [if_neg (by decide +kernel)]; exact ⟨rfl, rfl⟩))
  (fun os started H enc _ F => denomPays_lifted os started H enc F)
end Go.Proofs.Yteolfhljhnplpaa
