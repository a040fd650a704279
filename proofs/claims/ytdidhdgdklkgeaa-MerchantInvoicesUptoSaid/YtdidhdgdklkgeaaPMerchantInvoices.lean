/- MerchantInvoices: the law holds of what holds at most 1048576 values and letters together (printed by program, but for the law itself). -/
import Derived.Test.YtdidhdgdklkgeaaF
import Derived.Test.YtdidhdgdklkgeaaU2
import Derived.Test.YtdidhdgdklkgeaaL2
namespace Go.Proofs.Ytdidhdgdklkgeaa
open Go.ChangeShapes Go.WideShapes Go.ChangeAt Go.RowKit
set_option maxRecDepth 100000 in
theorem op5 : OpensQ En (fun v => ∃ n : Int, v = V.int .u8 n) 5 := by
  have h := opens_int En_ok (T := 5) (by rw [tb5]) (by rw [tb5])
  rw [tb5] at h
  exact h
set_option maxRecDepth 100000 in
theorem op23 : OpensQ En (fun v => ∃ x : (List Int), v = (fun l => .agg (.int .u8 (gt l 0) :: .int .u8 (gt l 1) :: .int .u8 (gt l 2) :: .int .u8 (gt l 3) :: .int .u8 (gt l 4) :: .int .u8 (gt l 5) :: .int .u8 (gt l 6) :: .int .u8 (gt l 7) :: .int .u8 (gt l 8) :: .int .u8 (gt l 9) :: .int .u8 (gt l 10) :: .int .u8 (gt l 11) :: .int .u8 (gt l 12) :: .int .u8 (gt l 13) :: .int .u8 (gt l 14) :: .int .u8 (gt l 15) :: .int .u8 (gt l 16) :: .int .u8 (gt l 17) :: .int .u8 (gt l 18) :: .int .u8 (gt l 19) :: .int .u8 (gt l 20) :: .int .u8 (gt l 21) :: .int .u8 (gt l 22) :: .int .u8 (gt l 23) :: .int .u8 (gt l 24) :: .int .u8 (gt l 25) :: .int .u8 (gt l 26) :: .int .u8 (gt l 27) :: .int .u8 (gt l 28) :: .int .u8 (gt l 29) :: .int .u8 (gt l 30) :: .int .u8 (gt l 31) :: [])) x) 23 := by
  have h := opens_array En_ok (T := 23) (Q := (fun v => ∃ n : Int, v = V.int .u8 n)) (by rw [tb23]) (by rw [tb23]) (by rw [tb23]; exact op5)
  rw [tb23] at h
  refine h.mono ?_
  rintro v ⟨l, hn, hl, rfl⟩
  obtain ⟨m, rfl⟩ := choose_list (f := (V.int .u8)) (fun d hd => by obtain ⟨x, hx⟩ := hl d hd; exact ⟨x, hx⟩)
  refine ⟨m, ?_⟩
  have hm : m.length = 32 := by simpa only [List.length_map, tb23] using hn
  rw [map_range (f := (V.int .u8)) hm]
  simp only [tb5]
  rfl
set_option maxRecDepth 100000 in
theorem op3 : OpensQ En (fun v => ∃ n : Int, v = V.int .i64 n) 3 := by
  have h := opens_int En_ok (T := 3) (by rw [tb3]) (by rw [tb3])
  rw [tb3] at h
  exact h
set_option maxRecDepth 100000 in
theorem op64 : OpensQ En (fun v => ∃ x : S_api_Rule, v = e_api_Rule x) 64 := by
  have h := opens_struct En_ok (T := 64) (by rw [tb64]) (by rw [tb64]) [(fun v => ∃ n : Int, v = V.int .i64 n), (fun v => ∃ n : Int, v = V.int .i64 n), (fun v => ∃ n : Int, v = V.int .i64 n)] (by rw [tb64]; exact ⟨op3, op3, op3, trivial⟩)
  rw [tb64] at h
  refine h.mono ?_
  rintro v ⟨vs, h, rfl⟩
  match vs, h with
  | [v0, v1, v2], ⟨⟨x0, h0⟩, ⟨x1, h1⟩, ⟨x2, h2⟩, _⟩ =>
    exact ⟨⟨x0, x1, x2⟩, by subst h0 h1 h2; simp only [go_sem, flatC]⟩
set_option maxRecDepth 100000 in
theorem op24 : OpensQ En (fun v => ∃ l : List S_api_Rule, v = V.sl none 3 true (l.map e_api_Rule)) 24 := by
  have h := opens_slice En_ok (T := 24) (Q := (fun v => ∃ x : S_api_Rule, v = e_api_Rule x)) (by rw [tb24]) (by rw [tb24]) (by rw [tb24]; exact op64)
  rw [tb24] at h
  refine h.mono ?_
  rintro v ⟨l, hl, rfl⟩
  obtain ⟨m, rfl⟩ := choose_list (f := e_api_Rule) (fun d hd => by obtain ⟨x, hx⟩ := hl d hd; exact ⟨x, hx⟩)
  exact ⟨m, by simp only [tb64]⟩
set_option maxRecDepth 100000 in
theorem op26 : OpensQ En (fun v => ∃ x : S_api_Policy, v = e_api_Policy x) 26 := by
  have h := opens_struct En_ok (T := 26) (by rw [tb26]) (by rw [tb26]) [(fun v => ∃ l : List S_api_Rule, v = V.sl none 3 true (l.map e_api_Rule))] (by rw [tb26]; exact ⟨op24, trivial⟩)
  rw [tb26] at h
  refine h.mono ?_
  rintro v ⟨vs, h, rfl⟩
  match vs, h with
  | [v0], ⟨⟨x0, h0⟩, _⟩ =>
    exact ⟨⟨x0⟩, by subst h0; simp only [go_sem, flatC]⟩
set_option maxRecDepth 100000 in
theorem op54 : OpensQ En (fun v => ∃ n : Int, v = V.int .u16 n) 54 := by
  have h := opens_int En_ok (T := 54) (by rw [tb54]) (by rw [tb54])
  rw [tb54] at h
  exact h
set_option maxRecDepth 100000 in
theorem op50 : OpensQ En (fun v => ∃ l : List Int, v = V.sl none 1 false (l.map (V.int .u16))) 50 := by
  have h := opens_slice En_ok (T := 50) (Q := (fun v => ∃ n : Int, v = V.int .u16 n)) (by rw [tb50]) (by rw [tb50]) (by rw [tb50]; exact op54)
  rw [tb50] at h
  refine h.mono ?_
  rintro v ⟨l, hl, rfl⟩
  obtain ⟨m, rfl⟩ := choose_list (f := (V.int .u16)) (fun d hd => by obtain ⟨x, hx⟩ := hl d hd; exact ⟨x, hx⟩)
  exact ⟨m, by simp only [tb54]⟩
set_option maxRecDepth 100000 in
theorem merchantInvoices_call (H : Type) (enc : TypeId × Value → H) (W : World) (base : Nat) (args : Array Value) (ds : List (DataW H)) (ps : List MemPlace) (hA : DataW.TrodAll enc En.P W 0 (fun _ => true) true Try.f4.params.toList args.toList ds ps)
    (hval : ∀ (j : Nat) t v, Try.f4.params[j]? = some t → args[j]? = some v → Value.okWide En.P W .any base t v) (hb : Rows.uptoBulkAll ds ≤ 1048576) : ∃ ws, rdT ro0 (base0 W) ws args.toList ∧ CallOk En 4 ws (.bool true) [] := by
  rw [Try.params4] at hA hval
  obtain ⟨v0, vs0, d0, ds0, p0, q0, hargs, rfl, rfl, h0, r0⟩ := trodAll_cons hA
  obtain ⟨v1, vs1, d1, ds1, p1, q1, rfl, rfl, rfl, h1, r1⟩ := trodAll_cons r0
  obtain ⟨v2, vs2, d2, ds2, p2, q2, rfl, rfl, rfl, h2, r2⟩ := trodAll_cons r1
  obtain ⟨v3, vs3, d3, ds3, p3, q3, rfl, rfl, rfl, h3, r3⟩ := trodAll_cons r2
  obtain ⟨rfl, rfl, rfl⟩ := trodAll_nil r3
  obtain rfl : args = #[v0, v1, v2, v3] := by cases args; simp_all
  simp only [Rows.uptoBulkAll] at hb
  obtain ⟨u0, ⟨x0, rfl⟩, e0⟩ := open_arg En_ok (T := 23) (by rw [tb23]) (by rw [tb23]; decide) op23 (hval 0 23 v0 rfl rfl) h0 (by omega)
  obtain ⟨u1, ⟨x1, rfl⟩, e1⟩ := open_arg En_ok (T := 26) (by rw [tb26]) (by rw [tb26]; decide) op26 (hval 1 26 v1 rfl rfl) h1 (by omega)
  obtain ⟨u2, ⟨x2, rfl⟩, e2⟩ := open_arg En_ok (T := 50) (by rw [tb50]) (by rw [tb50]; decide) op50 (hval 2 50 v2 rfl rfl) h2 (by omega)
  obtain ⟨u3, ⟨x3, rfl⟩, e3⟩ := open_arg En_ok (T := 50) (by rw [tb50]) (by rw [tb50]; decide) op50 (hval 3 50 v3 rfl rfl) h3 (by omega)
  refine ⟨[(fun l => .agg (.int .u8 (gt l 0) :: .int .u8 (gt l 1) :: .int .u8 (gt l 2) :: .int .u8 (gt l 3) :: .int .u8 (gt l 4) :: .int .u8 (gt l 5) :: .int .u8 (gt l 6) :: .int .u8 (gt l 7) :: .int .u8 (gt l 8) :: .int .u8 (gt l 9) :: .int .u8 (gt l 10) :: .int .u8 (gt l 11) :: .int .u8 (gt l 12) :: .int .u8 (gt l 13) :: .int .u8 (gt l 14) :: .int .u8 (gt l 15) :: .int .u8 (gt l 16) :: .int .u8 (gt l 17) :: .int .u8 (gt l 18) :: .int .u8 (gt l 19) :: .int .u8 (gt l 20) :: .int .u8 (gt l 21) :: .int .u8 (gt l 22) :: .int .u8 (gt l 23) :: .int .u8 (gt l 24) :: .int .u8 (gt l 25) :: .int .u8 (gt l 26) :: .int .u8 (gt l 27) :: .int .u8 (gt l 28) :: .int .u8 (gt l 29) :: .int .u8 (gt l 30) :: .int .u8 (gt l 31) :: [])) x0, e_api_Policy x1, .sl none 1 false (x2.map (V.int .u16)), .sl none 1 false (x3.map (V.int .u16))], ⟨v0, [v1, v2, v3], rfl, e0, v1, [v2, v3], rfl, e1, v2, [v3], rfl, e2, v3, [], rfl, e3, rfl⟩, ?_⟩
  have h := specielaw47_MerchantInvoices_ok none none x0 x1 x2 x3
  rw [specielaw47_MerchantInvoices_true x0 x1 x2 x3 (rdT_wf (c := base0 W) (cs := [v0, v1, v2, v3]) ⟨v0, [v1, v2, v3], rfl, e0, v1, [v2, v3], rfl, e1, v2, [v3], rfl, e2, v3, [], rfl, e3, rfl⟩)] at h
  exact h
theorem merchantInvoices_own : ownKnob Try.prog.godebug = none := by kernel_rfl
theorem merchantInvoices_laid : laidOutB Try.prog = true := by kernel_rfl
set_option maxRecDepth 100000 in
theorem merchantInvoices_types : ∀ t ∈ Try.f4.params.toList, Try.prog.readableRec t = true ∧ t < Try.prog.types.size := by
  intro t ht
  rw [Try.params4] at ht
  simp only [List.mem_cons, List.not_mem_nil, or_false] at ht
  rcases ht with rfl | rfl | rfl | rfl <;> exact ⟨by kernel_rfl, of_decide_eq_true (by kernel_rfl)⟩
set_option maxRecDepth 100000 in
theorem merchantInvoices_spec (H : Type) (ds : List (DataW H)) (h : ds.length = Try.f4.params.toList.length) : Rows.merchantInvoicesSpec.fn H ds = { results := [.lit (.bool true)], args := ds } := by
  rw [Try.params4] at h
  match ds, h with
  | [d0, d1, d2, d3], _ => rfl
set_option maxRecDepth 100000 in
theorem merchantInvoices_lifted (os : Os) (started : os.Started) (H : Type) (enc : TypeId × Value → H) (F : Stop.Interp) :
    ReturnsInHanded {} Try.checked os 4 .any ((Rows.OpenSpec.upto Rows.merchantInvoicesSpec).pre6 enc Try.prog Try.f4 Rows.merchantInvoicesUptoRow.domain false) (((Rows.OpenSpec.upto Rows.merchantInvoicesSpec).at F).post enc Try.prog Try.f4 false true false false) := by
  refine returnsInHanded_of_cond (C := Try.checked) (s := (Rows.OpenSpec.upto Rows.merchantInvoicesSpec)) (k := Rows.uptoSmall) rfl merchantInvoices_own started (by kernel_rfl) Try.func4
    (OpenSpec.witness (enc := enc) (C := Try.checked) (s := (Rows.OpenSpec.upto Rows.merchantInvoicesSpec)) (k := Rows.uptoSmall) rfl false ⟨#[], #[.agg #[.int .u8 0, .int .u8 0, .int .u8 0, .int .u8 0, .int .u8 0, .int .u8 0, .int .u8 0, .int .u8 0, .int .u8 0, .int .u8 0, .int .u8 0, .int .u8 0, .int .u8 0, .int .u8 0, .int .u8 0, .int .u8 0, .int .u8 0, .int .u8 0, .int .u8 0, .int .u8 0, .int .u8 0, .int .u8 0, .int .u8 0, .int .u8 0, .int .u8 0, .int .u8 0, .int .u8 0, .int .u8 0, .int .u8 0, .int .u8 0, .int .u8 0, .int .u8 0], .agg #[.slice none 0 0], .slice none 0 0, .slice none 0 0], []⟩ 8 (by kernel_rfl) (by kernel_rfl) (by kernel_rfl)
      (x := ([.agg (List.replicate 32 (.lit (.int .u8 0))), .agg [.nil], .nil, .nil], [], [])) (by kernel_rfl) rfl (by kernel_rfl)) ?_
  intro W base args ds gs before hval hW _ hk _
  exact law_contract (E := En) rfl (bt := 4) Try.underlying4 rfl rfl merchantInvoices_laid merchantInvoices_types merchantInvoices_spec merchantInvoices_call H enc W base args ds gs before hval hW hk rfl
/-- MerchantInvoices, for what holds at most 1048576 values and letters. -/
theorem merchantInvoices_holds : Rows.MerchantInvoicesUptoSaid :=
  OpenClaim.holds_of_cond 4 Try.f4 rfl rfl rfl rfl rfl rfl rfl ⟨rfl, rfl, rfl, rfl, rfl⟩ rfl rfl rfl rfl rfl (by kernel_rfl) Try.func4 (by kernel_rfl)
    (of_decide_eq_true (by kernel_rfl)) (by unfold Func.isWrapper; first | (rw [if_pos (by decide +kernel)]; kernel_rfl) | (rw [if_neg (by decide +kernel)]; exact ⟨rfl, rfl⟩))
    (fun os started H enc _ F => merchantInvoices_lifted os started H enc F)
end Go.Proofs.Ytdidhdgdklkgeaa
