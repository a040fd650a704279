/- PaymentInvoices: the law holds of what holds at most 1048576 values and letters together (printed by program, but for the law itself). -/
import Derived.Test.YtcbdmoihobdjaaaDoorZ8
import Derived.Test.YtcbdmoihobdjaaaDoorZ6
import Derived.Test.YtcbdmoihobdjaaaDoorZ7
import Derived.Test.YtcbdmoihobdjaaaDoorCards
import Derived.Test.YtcbdmoihobdjaaaDoorTie
import Derived.Deep.DeepHandedRow
import Derived.Lay
import Derived.LaidMore
import Derived.SevenTiedAt
import Derived.Stop.Joined
namespace Go.Proofs.YtcbdmoihobdjaaaDoor
open Go.ChangeShapes Go.WideShapes Go.ChangeAt Go.RowKit
set_option maxHeartbeats 4000000 in
set_option maxRecDepth 100000 in
theorem op5 : OpensQ En (fun v => ∃ n : Int, v = V.int .u8 n) 5 := by
 have h := opens_int En_ok (T := 5) (by rw [tb5]) (by rw [tb5])
 rw [tb5] at h
 exact h
set_option maxHeartbeats 4000000 in
set_option maxRecDepth 100000 in
theorem op23 : OpensQ En (fun v => ∃ x : (List Int), v = e_arr23 x) 23 := by
 have h := opens_array En_ok (T := 23) (Q := (fun v => ∃ n : Int, v = V.int .u8 n)) (by rw [tb23]) (by rw [tb23]) (by rw [tb23]; exact op5)
 rw [tb23] at h
 refine h.mono ?_
 rintro v ⟨l, hn, hl, rfl⟩
 obtain ⟨m, rfl⟩ := choose_list (f := (V.int .u8)) (fun d hd => by obtain ⟨x, hx⟩ := hl d hd; exact ⟨x, hx⟩)
 refine ⟨m, ?_⟩
 have hm : m.length = 32 := by simpa only [List.length_map, tb23] using hn
 rw [map_range (f := (V.int .u8)) hm]
 simp only [tb5]
 rfl
set_option maxHeartbeats 4000000 in
set_option maxRecDepth 100000 in
theorem op3 : OpensQ En (fun v => ∃ n : Int, v = V.int .i64 n) 3 := by
 have h := opens_int En_ok (T := 3) (by rw [tb3]) (by rw [tb3])
 rw [tb3] at h
 exact h
set_option maxHeartbeats 4000000 in
set_option maxRecDepth 100000 in
theorem op25 : OpensQ En (fun v => ∃ x : S_api_Invoice, v = e_api_Invoice x) 25 := by
 have h := opens_struct En_ok (T := 25) (by rw [tb25]) (by rw [tb25]) [(fun v => ∃ x : (List Int), v = e_arr23 x), (fun v => ∃ n : Int, v = V.int .i64 n), (fun v => ∃ n : Int, v = V.int .i64 n), (fun v => ∃ n : Int, v = V.int .i64 n)] (by rw [tb25]; exact ⟨op23, op3, op3, op3, trivial⟩)
 rw [tb25] at h
 refine h.mono ?_
 rintro v ⟨vs, h, rfl⟩
 obtain ⟨v0, vs0, rfl, ⟨x0, h0⟩, h⟩ := FQ_cons h
 obtain ⟨v1, vs1, rfl, ⟨x1, h1⟩, h⟩ := FQ_cons h
 obtain ⟨v2, vs2, rfl, ⟨x2, h2⟩, h⟩ := FQ_cons h
 obtain ⟨v3, vs3, rfl, ⟨x3, h3⟩, h⟩ := FQ_cons h
 cases FQ_nil h
 exact ⟨⟨x0, x1, x2, x3⟩, by subst h0 h1 h2 h3; simp only [go_sem, flatC]⟩
set_option maxHeartbeats 4000000 in
set_option maxRecDepth 100000 in
theorem op26 : OpensQ En (fun v => ∃ l : List Int, v = V.sl none 1 false (l.map (V.int .u8))) 26 := by
 have h := opens_slice En_ok (T := 26) (Q := (fun v => ∃ n : Int, v = V.int .u8 n)) (by rw [tb26]) (by rw [tb26]) (by rw [tb26]; exact op5)
 rw [tb26] at h
 refine h.mono ?_
 rintro v ⟨l, hl, rfl⟩
 obtain ⟨m, rfl⟩ := choose_list (f := (V.int .u8)) (fun d hd => by obtain ⟨x, hx⟩ := hl d hd; exact ⟨x, hx⟩)
 exact ⟨m, by simp only [tb5]⟩
set_option maxRecDepth 100000 in
theorem paymentInvoices_call (H : Type) (enc : TypeId × Value → H) (W : World) (base : Nat) (args : Array Value) (ds : List (DataW H)) (ps : List MemPlace) (hA : DataW.TrodAll enc En.P W 0 (fun _ => true) true Tryd.f3.params.toList args.toList ds ps)
  (hval : ∀ (j : Nat) t v, Tryd.f3.params[j]? = some t → args[j]? = some v → Value.okWide En.P W .any base t v) (hb : Rows.uptoBulkAll ds ≤ 1048576) : ∃ ws, rdT ro0 (base0 W) ws args.toList ∧ CallOk En 3 ws (.bool true) [] := by
 rw [Tryd.params3] at hA hval
 obtain ⟨v0, vs0, d0, ds0, p0, q0, hargs, rfl, rfl, h0, r0⟩ := trodAll_cons hA
 obtain ⟨v1, vs1, d1, ds1, p1, q1, rfl, rfl, rfl, h1, r1⟩ := trodAll_cons r0
 obtain ⟨rfl, rfl, rfl⟩ := trodAll_nil r1
 obtain rfl : args = #[v0, v1] := by cases args; simp_all
 simp only [Rows.uptoBulkAll] at hb
 obtain ⟨u0, ⟨x0, rfl⟩, e0⟩ := open_arg En_ok (T := 25) (by rw [tb25]) (by rw [tb25]; decide) op25 (hval 0 25 v0 rfl rfl) h0 (by omega)
 obtain ⟨u1, ⟨x1, rfl⟩, e1⟩ := open_arg En_ok (T := 26) (by rw [tb26]) (by rw [tb26]; decide) op26 (hval 1 26 v1 rfl rfl) h1 (by omega)
 refine ⟨[e_api_Invoice x0, .sl none 1 false (x1.map (V.int .u8))], ⟨v0, [v1], rfl, e0, v1, [], rfl, e1, rfl⟩, ?_⟩
 have h := (specielaw38_PaymentInvoices_ok x0 x1).ok
 rw [specielaw38_PaymentInvoices_true x0 x1 (rdT_wf (c := base0 W) (cs := [v0, v1]) ⟨v0, [v1], rfl, e0, v1, [], rfl, e1, rfl⟩)] at h
 exact h
theorem paymentInvoices_own : ownKnob Tryd.prog.godebug = none := by kernel_rfl
theorem paymentInvoices_laid : laidOutB Tryd.prog = true := by kernel_rfl
set_option maxRecDepth 100000 in
theorem paymentInvoices_types : ∀ t ∈ Tryd.f3.params.toList, Tryd.prog.readableRec t = true ∧ t < Tryd.prog.types.size := by
 intro t ht
 rw [Tryd.params3] at ht
 simp only [List.mem_cons, List.not_mem_nil, or_false] at ht
 rcases ht with rfl | rfl <;> exact ⟨by kernel_rfl, of_decide_eq_true (by kernel_rfl)⟩
set_option maxRecDepth 100000 in
theorem paymentInvoices_spec (H : Type) (ds : List (DataW H)) (h : ds.length = Tryd.f3.params.toList.length) : Rows.paymentInvoicesSpec.fn H ds = { results := [.lit (.bool true)], args := ds } := by
 rw [Tryd.params3] at h
 match ds, h with
 | [d0, d1], _ => rfl
def paymentInvoices_vals : Array Value := #[.agg #[.int .u8 0, .int .u8 0, .int .u8 0, .int .u8 0, .int .u8 0, .int .u8 0, .int .u8 0, .int .u8 0, .int .u8 0, .int .u8 0, .int .u8 0, .int .u8 0, .int .u8 0, .int .u8 0, .int .u8 0, .int .u8 0, .int .u8 0, .int .u8 0, .int .u8 0, .int .u8 0, .int .u8 0, .int .u8 0, .int .u8 0, .int .u8 0, .int .u8 0, .int .u8 0, .int .u8 0, .int .u8 0, .int .u8 0, .int .u8 0, .int .u8 0, .int .u8 0, .int .i64 0, .int .i64 0, .int .i64 0], .slice none 0 0]
theorem paymentInvoices_met (os : Os) : laidMetH Tryd.prog Rows.paymentInvoicesUptoRow.laid ((World.laidAll Tryd.prog os Rows.paymentInvoicesUptoRow.laid).forCall (fun _ _ => 0) ⟨#[], paymentInvoices_vals, []⟩).memory := by
 rw [MakeChecks.laidMetH_plain _ _ _ (by kernel_rfl)]
 exact laidMet_laidAll _ (by kernel_rfl) (by kernel_rfl)
theorem paymentInvoices_reads (os : Os) {H : Type} (enc : TypeId × Value → H) : ∃ places, DataW.whole enc Tryd.prog ((World.laidAll Tryd.prog os Rows.paymentInvoicesUptoRow.laid).forCall (fun _ _ => 0) ⟨#[], paymentInvoices_vals, []⟩).memory Tryd.f3.params.toList Rows.paymentInvoicesSpec.vars false (paymentInvoices_vals : Array Value).toList 8 = some ([.agg [.agg (List.replicate 32 (.lit (.int .u8 0))), .lit (.int .i64 0), .lit (.int .i64 0), .lit (.int .i64 0)], .nil], [], places) := ⟨[], by kernel_rfl⟩
set_option maxRecDepth 100000 in
theorem paymentInvoices_lifted (os : Os) (started : os.Started) (H : Type) (enc : TypeId × Value → H) (F : Stop.Interp) :
  ReturnsInHanded {} Tryd.checked os 3 .any ((Rows.OpenSpec.upto Rows.paymentInvoicesSpec).preRow enc Tryd.prog Tryd.f3 Rows.paymentInvoicesUptoRow.domain false Rows.paymentInvoicesUptoRow.laid) (((Rows.OpenSpec.upto Rows.paymentInvoicesSpec).at F).post enc Tryd.prog Tryd.f3 false true false false) := by
 obtain ⟨places, hx⟩ := paymentInvoices_reads os enc
 refine returnsInHanded_of_row (C := Tryd.checked) (s := (Rows.OpenSpec.upto Rows.paymentInvoicesSpec)) paymentInvoices_own started (by kernel_rfl) Tryd.func3
  (witness_row_at (enc := enc) (C := Tryd.checked) false (World.laidAll Tryd.prog os Rows.paymentInvoicesUptoRow.laid) paymentInvoices_vals (World.laidAll_os _ _ _) (by kernel_rfl) (by kernel_rfl) (by kernel_rfl)
   (OpenSpec.preRow_of_cond 8 hx (by kernel_rfl) (fun k hk => by cases hk; kernel_rfl) (by kernel_rfl) (paymentInvoices_met os))) ?_
 intro W base args ds gs before hval hW _ hk _ hL hsh _
 exact law_contractG (E := En) (bt := 4) Tryd.underlying4 rfl rfl paymentInvoices_laid paymentInvoices_types paymentInvoices_spec paymentInvoices_call H enc W base args ds gs before hval hW (hk _ rfl) rfl (gl_of hL)
theorem paymentInvoices_said : Rows.PaymentInvoicesUptoSaid :=
 OpenClaim.holds_of_cond 3 Tryd.f3 rfl rfl rfl rfl rfl rfl rfl ⟨rfl, rfl, rfl, rfl, rfl⟩ rfl rfl rfl rfl rfl (by kernel_rfl) Tryd.func3 (by kernel_rfl)
  (of_decide_eq_true (by kernel_rfl)) (by unfold Func.isWrapper; first | (rw [if_pos (by decide +kernel)]; kernel_rfl) | (rw [if_neg (by decide +kernel)]; exact ⟨rfl, rfl⟩))
  (fun os started H enc _ F => by rw [OpenClaim.pre_eq_preRow]; exact paymentInvoices_lifted os started H enc F)
theorem paymentInvoices_plain (f : FuncId) (fn : Func) (hf : Tryd.pinned.checked.prog.funcNamed "specie/specielaw38.PaymentInvoices" = some f) (hfn : Tryd.pinned.checked.prog.funcs[f]? = some fn) :
  false = Tryd.pinned.checked.prog.looks [] ∧ ∀ (j : Nat) t, fn.params[j]? = some t → Tryd.pinned.checked.prog.wantsStandIn t = false := by
 obtain rfl : f = 3 := Option.some.inj ((show Tryd.prog.funcNamed "specie/specielaw38.PaymentInvoices" = some 3 by kernel_rfl).symm.trans hf) |>.symm
 obtain rfl : fn = Tryd.f3 := (Option.some.inj (Tryd.func3.symm.trans hfn)).symm
 refine ⟨by kernel_rfl, fun j t ht => ?_⟩
 have hall : (Tryd.f3.params.toList.all fun u => !Tryd.prog.wantsStandIn u) = true := by kernel_rfl
 have h0 := List.all_eq_true.1 hall t (Array.mem_toList_iff.2 (Array.mem_of_getElem? ht))
 exact (show Tryd.prog.wantsStandIn t = false by simpa using h0)
theorem paymentInvoices_holds : Rows.PaymentInvoicesUptoCardSaid :=
 Claim7.holds_tied_plain_at .later [] _ _ _ _ paymentInvoices_said (fun _ h => by cases h) (by kernel_rfl) (fun _ h => by cases h) paymentInvoicesUpto_row_tie rfl ⟨rfl, rfl⟩ (by kernel_rfl) rfl paymentInvoices_plain (by kernel_rfl)
end Go.Proofs.YtcbdmoihobdjaaaDoor
