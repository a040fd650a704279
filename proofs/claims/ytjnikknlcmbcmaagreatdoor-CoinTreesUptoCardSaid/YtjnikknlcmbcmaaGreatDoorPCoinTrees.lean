/- CoinTrees: the law holds of what holds at most 1048576 values and letters together (printed by program, but for the law itself). -/
import Derived.Test.YtjnikknlcmbcmaaGreatDoorZ10
import Derived.Test.YtjnikknlcmbcmaaGreatDoorZ9
import Derived.Test.YtjnikknlcmbcmaaGreatDoorCards
import Derived.Test.YtjnikknlcmbcmaaGreatDoorTie
import Derived.Deep.DeepHandedRow
import Derived.Lay
import Derived.LaidMore
import Derived.SevenTiedAt
import Derived.Stop.Joined
namespace Go.Proofs.YtjnikknlcmbcmaaGreatDoor
open Go.ChangeShapes Go.WideShapes Go.ChangeAt Go.RowKit
set_option maxHeartbeats 4000000 in
set_option maxRecDepth 100000 in
theorem op3 : OpensQ En (fun v => ∃ n : Int, v = V.int .i64 n) 3 := by
 have h := opens_int En_ok (T := 3) (by rw [tb3]) (by rw [tb3])
 rw [tb3] at h
 exact h
set_option maxHeartbeats 4000000 in
set_option maxRecDepth 100000 in
theorem op23 : OpensQ En (fun v => ∃ x : S_api_Group, v = e_api_Group x) 23 := by
 have h := opens_struct En_ok (T := 23) (by rw [tb23]) (by rw [tb23]) [(fun v => ∃ n : Int, v = V.int .i64 n), (fun v => ∃ n : Int, v = V.int .i64 n), (fun v => ∃ n : Int, v = V.int .i64 n)] (by rw [tb23]; exact ⟨op3, op3, op3, trivial⟩)
 rw [tb23] at h
 refine h.mono ?_
 rintro v ⟨vs, h, rfl⟩
 obtain ⟨v0, vs0, rfl, ⟨x0, h0⟩, h⟩ := FQ_cons h
 obtain ⟨v1, vs1, rfl, ⟨x1, h1⟩, h⟩ := FQ_cons h
 obtain ⟨v2, vs2, rfl, ⟨x2, h2⟩, h⟩ := FQ_cons h
 cases FQ_nil h
 exact ⟨⟨x0, x1, x2⟩, by subst h0 h1 h2; simp only [go_sem, flatC]⟩
set_option maxHeartbeats 4000000 in
set_option maxRecDepth 100000 in
theorem op25 : OpensQ En (fun v => ∃ x : S_api_Bases, v = e_api_Bases x) 25 := by
 have h := opens_struct En_ok (T := 25) (by rw [tb25]) (by rw [tb25]) [(fun v => ∃ x : S_api_Group, v = e_api_Group x), (fun v => ∃ n : Int, v = V.int .i64 n), (fun v => ∃ n : Int, v = V.int .i64 n), (fun v => ∃ n : Int, v = V.int .i64 n)] (by rw [tb25]; exact ⟨op23, op3, op3, op3, trivial⟩)
 rw [tb25] at h
 refine h.mono ?_
 rintro v ⟨vs, h, rfl⟩
 obtain ⟨v0, vs0, rfl, ⟨x0, h0⟩, h⟩ := FQ_cons h
 obtain ⟨v1, vs1, rfl, ⟨x1, h1⟩, h⟩ := FQ_cons h
 obtain ⟨v2, vs2, rfl, ⟨x2, h2⟩, h⟩ := FQ_cons h
 obtain ⟨v3, vs3, rfl, ⟨x3, h3⟩, h⟩ := FQ_cons h
 cases FQ_nil h
 exact ⟨⟨x0, x1, x2, x3⟩, by subst h0 h1 h2 h3; simp only [go_sem, flatC]⟩
set_option maxHeartbeats 4000000 in
set_option maxRecDepth 100000 in
theorem op57 : OpensQ En (fun v => ∃ x : (List Int), v = (fun l => .agg [.int .i64 (gt l 0), .int .i64 (gt l 1)]) x) 57 := by
 have h := opens_array En_ok (T := 57) (Q := (fun v => ∃ n : Int, v = V.int .i64 n)) (by rw [tb57]) (by rw [tb57]) (by rw [tb57]; exact op3)
 rw [tb57] at h
 refine h.mono ?_
 rintro v ⟨l, hn, hl, rfl⟩
 obtain ⟨m, rfl⟩ := choose_list (f := (V.int .i64)) (fun d hd => by obtain ⟨x, hx⟩ := hl d hd; exact ⟨x, hx⟩)
 refine ⟨m, ?_⟩
 have hm : m.length = 2 := by simpa only [List.length_map, tb57] using hn
 rw [map_range (f := (V.int .i64)) hm]
 simp only [tb3]
 rfl
set_option maxHeartbeats 4000000 in
set_option maxRecDepth 100000 in
theorem op26 : OpensQ En (fun v => ∃ l : List (List Int), v = V.sl none 2 true (l.map (fun l => .agg [.int .i64 (gt l 0), .int .i64 (gt l 1)]))) 26 := by
 have h := opens_slice En_ok (T := 26) (Q := (fun v => ∃ x : (List Int), v = (fun l => .agg [.int .i64 (gt l 0), .int .i64 (gt l 1)]) x)) (by rw [tb26]) (by rw [tb26]) (by rw [tb26]; exact op57)
 rw [tb26] at h
 refine h.mono ?_
 rintro v ⟨l, hl, rfl⟩
 obtain ⟨m, rfl⟩ := choose_list (f := (fun l => .agg [.int .i64 (gt l 0), .int .i64 (gt l 1)])) (fun d hd => by obtain ⟨x, hx⟩ := hl d hd; exact ⟨x, hx⟩)
 exact ⟨m, by simp only [tb57]⟩
set_option maxHeartbeats 4000000 in
set_option maxRecDepth 100000 in
theorem op28 : OpensQ En (fun v => ∃ x : S_api_CoinSecret, v = e_api_CoinSecret x) 28 := by
 have h := opens_struct En_ok (T := 28) (by rw [tb28]) (by rw [tb28]) [(fun v => ∃ n : Int, v = V.int .i64 n), (fun v => ∃ n : Int, v = V.int .i64 n), (fun v => ∃ l : List (List Int), v = V.sl none 2 true (l.map (fun l => .agg [.int .i64 (gt l 0), .int .i64 (gt l 1)])))] (by rw [tb28]; exact ⟨op3, op3, op26, trivial⟩)
 rw [tb28] at h
 refine h.mono ?_
 rintro v ⟨vs, h, rfl⟩
 obtain ⟨v0, vs0, rfl, ⟨x0, h0⟩, h⟩ := FQ_cons h
 obtain ⟨v1, vs1, rfl, ⟨x1, h1⟩, h⟩ := FQ_cons h
 obtain ⟨v2, vs2, rfl, ⟨x2, h2⟩, h⟩ := FQ_cons h
 cases FQ_nil h
 exact ⟨⟨x0, x1, x2⟩, by subst h0 h1 h2; simp only [go_sem, flatC]⟩
set_option maxHeartbeats 4000000 in
set_option maxRecDepth 100000 in
theorem op5 : OpensQ En (fun v => ∃ n : Int, v = V.int .u8 n) 5 := by
 have h := opens_int En_ok (T := 5) (by rw [tb5]) (by rw [tb5])
 rw [tb5] at h
 exact h
set_option maxRecDepth 100000 in
theorem coinTrees_call (H : Type) (enc : TypeId × Value → H) (W : World) (base : Nat) (args : Array Value) (ds : List (DataW H)) (ps : List MemPlace) (hA : DataW.TrodAll enc En.P W 0 (fun _ => true) true Tryz.f4.params.toList args.toList ds ps)
  (hval : ∀ (j : Nat) t v, Tryz.f4.params[j]? = some t → args[j]? = some v → Value.okWide En.P W .any base t v) (hb : Rows.uptoBulkAll ds ≤ 1048576) : ∃ ws, rdT ro0 (base0 W) ws args.toList ∧ CallOk En 4 ws (.bool true) [] := by
 rw [Tryz.params4] at hA hval
 obtain ⟨v0, vs0, d0, ds0, p0, q0, hargs, rfl, rfl, h0, r0⟩ := trodAll_cons hA
 obtain ⟨v1, vs1, d1, ds1, p1, q1, rfl, rfl, rfl, h1, r1⟩ := trodAll_cons r0
 obtain ⟨v2, vs2, d2, ds2, p2, q2, rfl, rfl, rfl, h2, r2⟩ := trodAll_cons r1
 obtain ⟨rfl, rfl, rfl⟩ := trodAll_nil r2
 obtain rfl : args = #[v0, v1, v2] := by cases args; simp_all
 simp only [Rows.uptoBulkAll] at hb
 obtain ⟨u0, ⟨x0, rfl⟩, e0⟩ := open_arg En_ok (T := 25) (by rw [tb25]) (by rw [tb25]; decide) op25 (hval 0 25 v0 rfl rfl) h0 (by omega)
 obtain ⟨u1, ⟨x1, rfl⟩, e1⟩ := open_arg En_ok (T := 28) (by rw [tb28]) (by rw [tb28]; decide) op28 (hval 1 28 v1 rfl rfl) h1 (by omega)
 obtain ⟨u2, ⟨x2, rfl⟩, e2⟩ := open_arg En_ok (T := 5) (by rw [tb5]) (by rw [tb5]; decide) op5 (hval 2 5 v2 rfl rfl) h2 (by omega)
 refine ⟨[e_api_Bases x0, e_api_CoinSecret x1, .int .u8 x2], ⟨v0, [v1, v2], rfl, e0, v1, [v2], rfl, e1, v2, [], rfl, e2, rfl⟩, ?_⟩
 have h := (specielaw31_CoinTrees_ok x0 x1 x2).ok
 rw [specielaw31_CoinTrees_true x0 x1 x2 (rdT_wf (c := base0 W) (cs := [v0, v1, v2]) ⟨v0, [v1, v2], rfl, e0, v1, [v2], rfl, e1, v2, [], rfl, e2, rfl⟩)] at h
 exact h
theorem coinTrees_own : ownKnob Tryz.prog.godebug = none := by kernel_rfl
theorem coinTrees_laid : laidOutB Tryz.prog = true := by kernel_rfl
set_option maxRecDepth 100000 in
theorem coinTrees_types : ∀ t ∈ Tryz.f4.params.toList, Tryz.prog.readableRec t = true ∧ t < Tryz.prog.types.size := by
 intro t ht
 rw [Tryz.params4] at ht
 simp only [List.mem_cons, List.not_mem_nil, or_false] at ht
 rcases ht with rfl | rfl | rfl <;> exact ⟨by kernel_rfl, of_decide_eq_true (by kernel_rfl)⟩
set_option maxRecDepth 100000 in
theorem coinTrees_spec (H : Type) (ds : List (DataW H)) (h : ds.length = Tryz.f4.params.toList.length) : Rows.coinTreesSpec.fn H ds = { results := [.lit (.bool true)], args := ds } := by
 rw [Tryz.params4] at h
 match ds, h with
 | [d0, d1, d2], _ => rfl
def coinTrees_vals : Array Value := #[.agg #[.int .i64 0, .int .i64 0, .int .i64 0, .int .i64 0, .int .i64 0, .int .i64 0], .agg #[.int .i64 0, .int .i64 0, .slice none 0 0], .int .u8 0]
theorem coinTrees_met (os : Os) : laidMetH Tryz.prog Rows.coinTreesUptoRow.laid ((World.laidAll Tryz.prog os Rows.coinTreesUptoRow.laid).forCall (fun _ _ => 0) ⟨#[], coinTrees_vals, []⟩).memory := by
 rw [MakeChecks.laidMetH_plain _ _ _ (by kernel_rfl)]
 exact laidMet_laidAll _ (by kernel_rfl) (by kernel_rfl)
theorem coinTrees_reads (os : Os) {H : Type} (enc : TypeId × Value → H) : ∃ places, DataW.whole enc Tryz.prog ((World.laidAll Tryz.prog os Rows.coinTreesUptoRow.laid).forCall (fun _ _ => 0) ⟨#[], coinTrees_vals, []⟩).memory Tryz.f4.params.toList Rows.coinTreesSpec.vars false (coinTrees_vals : Array Value).toList 8 = some ([.agg [.agg [.lit (.int .i64 0), .lit (.int .i64 0), .lit (.int .i64 0)], .lit (.int .i64 0), .lit (.int .i64 0), .lit (.int .i64 0)], .agg [.lit (.int .i64 0), .lit (.int .i64 0), .nil], .lit (.int .u8 0)], [], places) := ⟨[], by kernel_rfl⟩
set_option maxRecDepth 100000 in
theorem coinTrees_lifted (os : Os) (started : os.Started) (H : Type) (enc : TypeId × Value → H) (F : Stop.Interp) :
  ReturnsInHanded {} Tryz.checked os 4 .any ((Rows.OpenSpec.upto Rows.coinTreesSpec).preRow enc Tryz.prog Tryz.f4 Rows.coinTreesUptoRow.domain false Rows.coinTreesUptoRow.laid) (((Rows.OpenSpec.upto Rows.coinTreesSpec).at F).post enc Tryz.prog Tryz.f4 false true false false) := by
 obtain ⟨places, hx⟩ := coinTrees_reads os enc
 refine returnsInHanded_of_row (C := Tryz.checked) (s := (Rows.OpenSpec.upto Rows.coinTreesSpec)) coinTrees_own started (by kernel_rfl) Tryz.func4
  (witness_row_at (enc := enc) (C := Tryz.checked) false (World.laidAll Tryz.prog os Rows.coinTreesUptoRow.laid) coinTrees_vals (World.laidAll_os _ _ _) (by kernel_rfl) (by kernel_rfl) (by kernel_rfl)
   (OpenSpec.preRow_of_cond 8 hx (by kernel_rfl) (fun k hk => by cases hk; kernel_rfl) (by kernel_rfl) (coinTrees_met os))) ?_
 intro W base args ds gs before hval hW _ hk _ hL hsh _
 exact law_contractG (E := En) (bt := 4) Tryz.underlying4 rfl rfl coinTrees_laid coinTrees_types coinTrees_spec coinTrees_call H enc W base args ds gs before hval hW (hk _ rfl) rfl (gl_of hL)
theorem coinTrees_said : Rows.CoinTreesUptoSaid :=
 OpenClaim.holds_of_cond 4 Tryz.f4 rfl rfl rfl rfl rfl rfl rfl ⟨rfl, rfl, rfl, rfl, rfl⟩ rfl rfl rfl rfl rfl (by kernel_rfl) Tryz.func4 (by kernel_rfl)
  (of_decide_eq_true (by kernel_rfl)) (by unfold Func.isWrapper; first | (rw [if_pos (by decide +kernel)]; kernel_rfl) | (rw [if_neg (by decide +kernel)]; exact ⟨rfl, rfl⟩))
  (fun os started H enc _ F => by rw [OpenClaim.pre_eq_preRow]; exact coinTrees_lifted os started H enc F)
theorem coinTrees_plain (f : FuncId) (fn : Func) (hf : Tryz.pinned.checked.prog.funcNamed "specie/specielaw31.CoinTrees" = some f) (hfn : Tryz.pinned.checked.prog.funcs[f]? = some fn) :
  false = Tryz.pinned.checked.prog.looks [] ∧ ∀ (j : Nat) t, fn.params[j]? = some t → Tryz.pinned.checked.prog.wantsStandIn t = false := by
 obtain rfl : f = 4 := Option.some.inj ((show Tryz.prog.funcNamed "specie/specielaw31.CoinTrees" = some 4 by kernel_rfl).symm.trans hf) |>.symm
 obtain rfl : fn = Tryz.f4 := (Option.some.inj (Tryz.func4.symm.trans hfn)).symm
 refine ⟨by kernel_rfl, fun j t ht => ?_⟩
 have hall : (Tryz.f4.params.toList.all fun u => !Tryz.prog.wantsStandIn u) = true := by kernel_rfl
 have h0 := List.all_eq_true.1 hall t (Array.mem_toList_iff.2 (Array.mem_of_getElem? ht))
 exact (show Tryz.prog.wantsStandIn t = false by simpa using h0)
theorem coinTrees_holds : Rows.CoinTreesUptoCardSaid :=
 Claim7.holds_tied_plain_at .later [] _ _ _ _ coinTrees_said (fun _ h => by cases h) (by kernel_rfl) (fun _ h => by cases h) coinTreesUpto_row_tie rfl ⟨rfl, rfl⟩ (by kernel_rfl) rfl coinTrees_plain (by kernel_rfl)
end Go.Proofs.YtjnikknlcmbcmaaGreatDoor
