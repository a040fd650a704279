/- WithdrawItems: the law holds of what holds at most 1048576 values and letters together (printed by program, but for the law itself). -/
import Derived.Test.YtjnikknlcmbcmaaGreatDoorZ10
import Derived.Test.YtjnikknlcmbcmaaGreatDoorZ9
import Derived.Test.YtjnikknlcmbcmaaGreatDoorCards
import Derived.Test.YtjnikknlcmbcmaaGreatDoorTie
import Derived.Deep.DeepHandedRow
import Derived.Lay
import Derived.LaidMore
import Derived.SevenTiedAt
import Derived.Stop.Joined
namespace Go.Proofs.YtjnikknlcmbcmaaGreatDoor
open Go.ChangeShapes Go.WideShapes Go.ChangeAt Go.RowKit
set_option maxHeartbeats 4000000 in
set_option maxRecDepth 100000 in
theorem op3 : OpensQ En (fun v => ∃ n : Int, v = V.int .i64 n) 3 := by
 have h := opens_int En_ok (T := 3) (by rw [tb3]) (by rw [tb3])
 rw [tb3] at h
 exact h
set_option maxHeartbeats 4000000 in
set_option maxRecDepth 100000 in
theorem op57 : OpensQ En (fun v => ∃ x : (List Int), v = (fun l => .agg [.int .i64 (gt l 0), .int .i64 (gt l 1)]) x) 57 := by
 have h := opens_array En_ok (T := 57) (Q := (fun v => ∃ n : Int, v = V.int .i64 n)) (by rw [tb57]) (by rw [tb57]) (by rw [tb57]; exact op3)
 rw [tb57] at h
 refine h.mono ?_
 rintro v ⟨l, hn, hl, rfl⟩
 obtain ⟨m, rfl⟩ := choose_list (f := (V.int .i64)) (fun d hd => by obtain ⟨x, hx⟩ := hl d hd; exact ⟨x, hx⟩)
 refine ⟨m, ?_⟩
 have hm : m.length = 2 := by simpa only [List.length_map, tb57] using hn
 rw [map_range (f := (V.int .i64)) hm]
 simp only [tb3]
 rfl
set_option maxHeartbeats 4000000 in
set_option maxRecDepth 100000 in
theorem op26 : OpensQ En (fun v => ∃ l : List (List Int), v = V.sl none 2 true (l.map (fun l => .agg [.int .i64 (gt l 0), .int .i64 (gt l 1)]))) 26 := by
 have h := opens_slice En_ok (T := 26) (Q := (fun v => ∃ x : (List Int), v = (fun l => .agg [.int .i64 (gt l 0), .int .i64 (gt l 1)]) x)) (by rw [tb26]) (by rw [tb26]) (by rw [tb26]; exact op57)
 rw [tb26] at h
 refine h.mono ?_
 rintro v ⟨l, hl, rfl⟩
 obtain ⟨m, rfl⟩ := choose_list (f := (fun l => .agg [.int .i64 (gt l 0), .int .i64 (gt l 1)])) (fun d hd => by obtain ⟨x, hx⟩ := hl d hd; exact ⟨x, hx⟩)
 exact ⟨m, by simp only [tb57]⟩
set_option maxHeartbeats 4000000 in
set_option maxRecDepth 100000 in
theorem op28 : OpensQ En (fun v => ∃ x : S_api_CoinSecret, v = e_api_CoinSecret x) 28 := by
 have h := opens_struct En_ok (T := 28) (by rw [tb28]) (by rw [tb28]) [(fun v => ∃ n : Int, v = V.int .i64 n), (fun v => ∃ n : Int, v = V.int .i64 n), (fun v => ∃ l : List (List Int), v = V.sl none 2 true (l.map (fun l => .agg [.int .i64 (gt l 0), .int .i64 (gt l 1)])))] (by rw [tb28]; exact ⟨op3, op3, op26, trivial⟩)
 rw [tb28] at h
 refine h.mono ?_
 rintro v ⟨vs, h, rfl⟩
 obtain ⟨v0, vs0, rfl, ⟨x0, h0⟩, h⟩ := FQ_cons h
 obtain ⟨v1, vs1, rfl, ⟨x1, h1⟩, h⟩ := FQ_cons h
 obtain ⟨v2, vs2, rfl, ⟨x2, h2⟩, h⟩ := FQ_cons h
 cases FQ_nil h
 exact ⟨⟨x0, x1, x2⟩, by subst h0 h1 h2; simp only [go_sem, flatC]⟩
set_option maxHeartbeats 4000000 in
set_option maxRecDepth 100000 in
theorem op72 : OpensQ En (fun v => ∃ x : S_api_CoinFactors, v = e_api_CoinFactors x) 72 := by
 have h := opens_struct En_ok (T := 72) (by rw [tb72]) (by rw [tb72]) [(fun v => ∃ n : Int, v = V.int .i64 n), (fun v => ∃ n : Int, v = V.int .i64 n), (fun v => ∃ n : Int, v = V.int .i64 n)] (by rw [tb72]; exact ⟨op3, op3, op3, trivial⟩)
 rw [tb72] at h
 refine h.mono ?_
 rintro v ⟨vs, h, rfl⟩
 obtain ⟨v0, vs0, rfl, ⟨x0, h0⟩, h⟩ := FQ_cons h
 obtain ⟨v1, vs1, rfl, ⟨x1, h1⟩, h⟩ := FQ_cons h
 obtain ⟨v2, vs2, rfl, ⟨x2, h2⟩, h⟩ := FQ_cons h
 cases FQ_nil h
 exact ⟨⟨x0, x1, x2⟩, by subst h0 h1 h2; simp only [go_sem, flatC]⟩
set_option maxHeartbeats 4000000 in
set_option maxRecDepth 100000 in
theorem op74 : OpensQ En (fun v => ∃ x : S_api_CoinView, v = e_api_CoinView x) 74 := by
 have h := opens_struct En_ok (T := 74) (by rw [tb74]) (by rw [tb74]) [(fun v => ∃ n : Int, v = V.int .i64 n), (fun v => ∃ n : Int, v = V.int .i64 n), (fun v => ∃ n : Int, v = V.int .i64 n), (fun v => ∃ n : Int, v = V.int .i64 n), (fun v => ∃ n : Int, v = V.int .i64 n), (fun v => ∃ n : Int, v = V.int .i64 n)] (by rw [tb74]; exact ⟨op3, op3, op3, op3, op3, op3, trivial⟩)
 rw [tb74] at h
 refine h.mono ?_
 rintro v ⟨vs, h, rfl⟩
 obtain ⟨v0, vs0, rfl, ⟨x0, h0⟩, h⟩ := FQ_cons h
 obtain ⟨v1, vs1, rfl, ⟨x1, h1⟩, h⟩ := FQ_cons h
 obtain ⟨v2, vs2, rfl, ⟨x2, h2⟩, h⟩ := FQ_cons h
 obtain ⟨v3, vs3, rfl, ⟨x3, h3⟩, h⟩ := FQ_cons h
 obtain ⟨v4, vs4, rfl, ⟨x4, h4⟩, h⟩ := FQ_cons h
 obtain ⟨v5, vs5, rfl, ⟨x5, h5⟩, h⟩ := FQ_cons h
 cases FQ_nil h
 exact ⟨⟨x0, x1, x2, x3, x4, x5⟩, by subst h0 h1 h2 h3 h4 h5; simp only [go_sem, flatC]⟩
set_option maxHeartbeats 4000000 in
set_option maxRecDepth 100000 in
theorem op5 : OpensQ En (fun v => ∃ n : Int, v = V.int .u8 n) 5 := by
 have h := opens_int En_ok (T := 5) (by rw [tb5]) (by rw [tb5])
 rw [tb5] at h
 exact h
set_option maxHeartbeats 4000000 in
set_option maxRecDepth 100000 in
theorem op40 : OpensQ En (fun v => ∃ x : (List Int), v = e_arr40 x) 40 := by
 have h := opens_array En_ok (T := 40) (Q := (fun v => ∃ n : Int, v = V.int .u8 n)) (by rw [tb40]) (by rw [tb40]) (by rw [tb40]; exact op5)
 rw [tb40] at h
 refine h.mono ?_
 rintro v ⟨l, hn, hl, rfl⟩
 obtain ⟨m, rfl⟩ := choose_list (f := (V.int .u8)) (fun d hd => by obtain ⟨x, hx⟩ := hl d hd; exact ⟨x, hx⟩)
 refine ⟨m, ?_⟩
 have hm : m.length = 32 := by simpa only [List.length_map, tb40] using hn
 rw [map_range (f := (V.int .u8)) hm]
 simp only [tb5]
 rfl
set_option maxHeartbeats 4000000 in
set_option maxRecDepth 100000 in
theorem op76 : OpensQ En (fun v => ∃ x : S_api_CoinSign, v = e_api_CoinSign x) 76 := by
 have h := opens_struct En_ok (T := 76) (by rw [tb76]) (by rw [tb76]) [(fun v => ∃ n : Int, v = V.int .i64 n), (fun v => ∃ n : Int, v = V.int .i64 n), (fun v => ∃ n : Int, v = V.int .i64 n), (fun v => ∃ n : Int, v = V.int .i64 n)] (by rw [tb76]; exact ⟨op3, op3, op3, op3, trivial⟩)
 rw [tb76] at h
 refine h.mono ?_
 rintro v ⟨vs, h, rfl⟩
 obtain ⟨v0, vs0, rfl, ⟨x0, h0⟩, h⟩ := FQ_cons h
 obtain ⟨v1, vs1, rfl, ⟨x1, h1⟩, h⟩ := FQ_cons h
 obtain ⟨v2, vs2, rfl, ⟨x2, h2⟩, h⟩ := FQ_cons h
 obtain ⟨v3, vs3, rfl, ⟨x3, h3⟩, h⟩ := FQ_cons h
 cases FQ_nil h
 exact ⟨⟨x0, x1, x2, x3⟩, by subst h0 h1 h2 h3; simp only [go_sem, flatC]⟩
set_option maxHeartbeats 4000000 in
set_option maxRecDepth 100000 in
theorem op78 : OpensQ En (fun v => ∃ x : S_api_Coin, v = e_api_Coin x) 78 := by
 have h := opens_struct En_ok (T := 78) (by rw [tb78]) (by rw [tb78]) [(fun v => ∃ n : Int, v = V.int .i64 n), (fun v => ∃ n : Int, v = V.int .i64 n), (fun v => ∃ n : Int, v = V.int .i64 n), (fun v => ∃ n : Int, v = V.int .i64 n), (fun v => ∃ n : Int, v = V.int .i64 n), (fun v => ∃ x : (List Int), v = e_arr40 x), (fun v => ∃ x : S_api_CoinSign, v = e_api_CoinSign x)] (by rw [tb78]; exact ⟨op3, op3, op3, op3, op3, op40, op76, trivial⟩)
 rw [tb78] at h
 refine h.mono ?_
 rintro v ⟨vs, h, rfl⟩
 obtain ⟨v0, vs0, rfl, ⟨x0, h0⟩, h⟩ := FQ_cons h
 obtain ⟨v1, vs1, rfl, ⟨x1, h1⟩, h⟩ := FQ_cons h
 obtain ⟨v2, vs2, rfl, ⟨x2, h2⟩, h⟩ := FQ_cons h
 obtain ⟨v3, vs3, rfl, ⟨x3, h3⟩, h⟩ := FQ_cons h
 obtain ⟨v4, vs4, rfl, ⟨x4, h4⟩, h⟩ := FQ_cons h
 obtain ⟨v5, vs5, rfl, ⟨x5, h5⟩, h⟩ := FQ_cons h
 obtain ⟨v6, vs6, rfl, ⟨x6, h6⟩, h⟩ := FQ_cons h
 cases FQ_nil h
 exact ⟨⟨x0, x1, x2, x3, x4, x5, x6⟩, by subst h0 h1 h2 h3 h4 h5 h6; simp only [go_sem, flatC]⟩
set_option maxHeartbeats 4000000 in
set_option maxRecDepth 100000 in
theorem op80 : OpensQ En (fun v => ∃ x : S_api_Withdrawal, v = e_api_Withdrawal x) 80 := by
 have h := opens_struct En_ok (T := 80) (by rw [tb80]) (by rw [tb80]) [(fun v => ∃ n : Int, v = V.int .i64 n), (fun v => ∃ n : Int, v = V.int .i64 n), (fun v => ∃ n : Int, v = V.int .i64 n), (fun v => ∃ n : Int, v = V.int .i64 n), (fun v => ∃ n : Int, v = V.int .i64 n), (fun v => ∃ n : Int, v = V.int .i64 n), (fun v => ∃ x : S_api_CoinSecret, v = e_api_CoinSecret x), (fun v => ∃ x : S_api_CoinFactors, v = e_api_CoinFactors x), (fun v => ∃ x : S_api_CoinView, v = e_api_CoinView x), (fun v => ∃ x : S_api_Coin, v = e_api_Coin x)] (by rw [tb80]; exact ⟨op3, op3, op3, op3, op3, op3, op28, op72, op74, op78, trivial⟩)
 rw [tb80] at h
 refine h.mono ?_
 rintro v ⟨vs, h, rfl⟩
 obtain ⟨v0, vs0, rfl, ⟨x0, h0⟩, h⟩ := FQ_cons h
 obtain ⟨v1, vs1, rfl, ⟨x1, h1⟩, h⟩ := FQ_cons h
 obtain ⟨v2, vs2, rfl, ⟨x2, h2⟩, h⟩ := FQ_cons h
 obtain ⟨v3, vs3, rfl, ⟨x3, h3⟩, h⟩ := FQ_cons h
 obtain ⟨v4, vs4, rfl, ⟨x4, h4⟩, h⟩ := FQ_cons h
 obtain ⟨v5, vs5, rfl, ⟨x5, h5⟩, h⟩ := FQ_cons h
 obtain ⟨v6, vs6, rfl, ⟨x6, h6⟩, h⟩ := FQ_cons h
 obtain ⟨v7, vs7, rfl, ⟨x7, h7⟩, h⟩ := FQ_cons h
 obtain ⟨v8, vs8, rfl, ⟨x8, h8⟩, h⟩ := FQ_cons h
 obtain ⟨v9, vs9, rfl, ⟨x9, h9⟩, h⟩ := FQ_cons h
 cases FQ_nil h
 exact ⟨⟨x0, x1, x2, x3, x4, x5, x6, x7, x8, x9⟩, by subst h0 h1 h2 h3 h4 h5 h6 h7 h8 h9; simp only [go_sem, flatC]⟩
set_option maxHeartbeats 4000000 in
set_option maxRecDepth 100000 in
theorem op87 : OpensQ En (fun v => ∃ l : List Int, v = V.sl none 1 false (l.map (V.int .u8))) 87 := by
 have h := opens_slice En_ok (T := 87) (Q := (fun v => ∃ n : Int, v = V.int .u8 n)) (by rw [tb87]) (by rw [tb87]) (by rw [tb87]; exact op5)
 rw [tb87] at h
 refine h.mono ?_
 rintro v ⟨l, hl, rfl⟩
 obtain ⟨m, rfl⟩ := choose_list (f := (V.int .u8)) (fun d hd => by obtain ⟨x, hx⟩ := hl d hd; exact ⟨x, hx⟩)
 exact ⟨m, by simp only [tb5]⟩
set_option maxHeartbeats 4000000 in
set_option maxRecDepth 100000 in
theorem op90_B : ∀ B, B ≤ 1048576 → OpensB En (fun v => ∃ x : S_api_Item, v = e_api_Item x) 90 B := by
 intro B
 induction B using Nat.strongRecOn with
 | ind B ih =>
 intro hB
 cases B with
 | zero => exact OpensB.zero
 | succ B =>
  have hs88 : OpensB En (fun v => ∃ l : List S_api_Item, v = V.sl none 4 true (l.map e_api_Item)) 88 B := by
   have h := opens_sliceB En_ok (B := B) (by omega) (T := 88) (Q := (fun v => ∃ x : S_api_Item, v = e_api_Item x)) (by rw [tb88]) (by rw [tb88]) (by rw [tb88]; exact ih (B - 1) (by omega) (by omega))
   rw [tb88] at h
   refine h.mono ?_
   rintro v ⟨l, hl, rfl⟩
   obtain ⟨m, rfl⟩ := choose_list (f := e_api_Item) (fun d hd => by obtain ⟨x, hx⟩ := hl d hd; exact ⟨x, hx⟩)
   exact ⟨m, by simp only [tb90]⟩
  have h := opens_structB En_ok hB (T := 90) (by rw [tb90]) (by rw [tb90]) [(fun v => ∃ n : Int, v = V.int .i64 n), (fun v => ∃ n : Int, v = V.int .i64 n), (fun v => ∃ l : List Int, v = V.sl none 1 false (l.map (V.int .u8))), (fun v => ∃ l : List S_api_Item, v = V.sl none 4 true (l.map e_api_Item))] (by rw [tb90]; exact ⟨op3.le (by omega), op3.le (by omega), op87.le (by omega), hs88, trivial⟩)
  rw [tb90] at h
  refine h.mono ?_
  rintro v ⟨vs, h, rfl⟩
  obtain ⟨v0, vs0, rfl, ⟨x0, h0⟩, h⟩ := FQ_cons h
  obtain ⟨v1, vs1, rfl, ⟨x1, h1⟩, h⟩ := FQ_cons h
  obtain ⟨v2, vs2, rfl, ⟨x2, h2⟩, h⟩ := FQ_cons h
  obtain ⟨v3, vs3, rfl, ⟨x3, h3⟩, h⟩ := FQ_cons h
  cases FQ_nil h
  exact ⟨⟨x0, x1, x2, x3⟩, by subst h0 h1 h2 h3; simp only [go_sem, flatC]⟩
theorem op90 : OpensQ En (fun v => ∃ x : S_api_Item, v = e_api_Item x) 90 := op90_B _ (Nat.le_refl _)
set_option maxRecDepth 100000 in
theorem withdrawItems_call (H : Type) (enc : TypeId × Value → H) (W : World) (base : Nat) (args : Array Value) (ds : List (DataW H)) (ps : List MemPlace) (hA : DataW.TrodAll enc En.P W 0 (fun _ => true) true Tryz.f6.params.toList args.toList ds ps)
  (hval : ∀ (j : Nat) t v, Tryz.f6.params[j]? = some t → args[j]? = some v → Value.okWide En.P W .any base t v) (hb : Rows.uptoBulkAll ds ≤ 1048576) : ∃ ws, rdT ro0 (base0 W) ws args.toList ∧ CallOk En 6 ws (.bool true) [] := by
 rw [Tryz.params6] at hA hval
 obtain ⟨v0, vs0, d0, ds0, p0, q0, hargs, rfl, rfl, h0, r0⟩ := trodAll_cons hA
 obtain ⟨v1, vs1, d1, ds1, p1, q1, rfl, rfl, rfl, h1, r1⟩ := trodAll_cons r0
 obtain ⟨rfl, rfl, rfl⟩ := trodAll_nil r1
 obtain rfl : args = #[v0, v1] := by cases args; simp_all
 simp only [Rows.uptoBulkAll] at hb
 obtain ⟨u0, ⟨x0, rfl⟩, e0⟩ := open_arg En_ok (T := 80) (by rw [tb80]) (by rw [tb80]; decide) op80 (hval 0 80 v0 rfl rfl) h0 (by omega)
 obtain ⟨u1, ⟨x1, rfl⟩, e1⟩ := open_arg En_ok (T := 90) (by rw [tb90]) (by rw [tb90]; decide) op90 (hval 1 90 v1 rfl rfl) h1 (by omega)
 refine ⟨[e_api_Withdrawal x0, e_api_Item x1], ⟨v0, [v1], rfl, e0, v1, [], rfl, e1, rfl⟩, ?_⟩
 have h := (specielaw37_WithdrawItems_ok x0 x1).ok
 rw [specielaw37_WithdrawItems_true x0 x1] at h
 simp only [e_api_Item]
 exact h
theorem withdrawItems_own : ownKnob Tryz.prog.godebug = none := by kernel_rfl
theorem withdrawItems_laid : laidOutB Tryz.prog = true := by kernel_rfl
set_option maxRecDepth 100000 in
theorem withdrawItems_types : ∀ t ∈ Tryz.f6.params.toList, Tryz.prog.readableRec t = true ∧ t < Tryz.prog.types.size := by
 intro t ht
 rw [Tryz.params6] at ht
 simp only [List.mem_cons, List.not_mem_nil, or_false] at ht
 rcases ht with rfl | rfl <;> exact ⟨by kernel_rfl, of_decide_eq_true (by kernel_rfl)⟩
set_option maxRecDepth 100000 in
theorem withdrawItems_spec (H : Type) (ds : List (DataW H)) (h : ds.length = Tryz.f6.params.toList.length) : Rows.withdrawItemsSpec.fn H ds = { results := [.lit (.bool true)], args := ds } := by
 rw [Tryz.params6] at h
 match ds, h with
 | [d0, d1], _ => rfl
def withdrawItems_vals : Array Value := #[.agg #[.int .i64 0, .int .i64 0, .int .i64 0, .int .i64 0, .int .i64 0, .int .i64 0, .int .i64 0, .int .i64 0, .slice none 0 0, .int .i64 0, .int .i64 0, .int .i64 0, .int .i64 0, .int .i64 0, .int .i64 0, .int .i64 0, .int .i64 0, .int .i64 0, .int .i64 0, .int .i64 0, .int .i64 0, .int .i64 0, .int .i64 0, .int .u8 0, .int .u8 0, .int .u8 0, .int .u8 0, .int .u8 0, .int .u8 0, .int .u8 0, .int .u8 0, .int .u8 0, .int .u8 0, .int .u8 0, .int .u8 0, .int .u8 0, .int .u8 0, .int .u8 0, .int .u8 0, .int .u8 0, .int .u8 0, .int .u8 0, .int .u8 0, .int .u8 0, .int .u8 0, .int .u8 0, .int .u8 0, .int .u8 0, .int .u8 0, .int .u8 0, .int .u8 0, .int .u8 0, .int .u8 0, .int .u8 0, .int .u8 0, .int .i64 0, .int .i64 0, .int .i64 0, .int .i64 0], .agg #[.int .i64 0, .int .i64 0, .slice none 0 0, .slice none 0 0]]
theorem withdrawItems_met (os : Os) : laidMetH Tryz.prog Rows.withdrawItemsUptoRow.laid ((World.laidAll Tryz.prog os Rows.withdrawItemsUptoRow.laid).forCall (fun _ _ => 0) ⟨#[], withdrawItems_vals, []⟩).memory := by
 rw [MakeChecks.laidMetH_plain _ _ _ (by kernel_rfl)]
 exact laidMet_laidAll _ (by kernel_rfl) (by kernel_rfl)
theorem withdrawItems_reads (os : Os) {H : Type} (enc : TypeId × Value → H) : ∃ places, DataW.whole enc Tryz.prog ((World.laidAll Tryz.prog os Rows.withdrawItemsUptoRow.laid).forCall (fun _ _ => 0) ⟨#[], withdrawItems_vals, []⟩).memory Tryz.f6.params.toList Rows.withdrawItemsSpec.vars false (withdrawItems_vals : Array Value).toList 8 = some ([.agg [.lit (.int .i64 0), .lit (.int .i64 0), .lit (.int .i64 0), .lit (.int .i64 0), .lit (.int .i64 0), .lit (.int .i64 0), .agg [.lit (.int .i64 0), .lit (.int .i64 0), .nil], .agg [.lit (.int .i64 0), .lit (.int .i64 0), .lit (.int .i64 0)], .agg [.lit (.int .i64 0), .lit (.int .i64 0), .lit (.int .i64 0), .lit (.int .i64 0), .lit (.int .i64 0), .lit (.int .i64 0)], .agg [.lit (.int .i64 0), .lit (.int .i64 0), .lit (.int .i64 0), .lit (.int .i64 0), .lit (.int .i64 0), .agg (List.replicate 32 (.lit (.int .u8 0))), .agg [.lit (.int .i64 0), .lit (.int .i64 0), .lit (.int .i64 0), .lit (.int .i64 0)]]], .agg [.lit (.int .i64 0), .lit (.int .i64 0), .nil, .nil]], [], places) := ⟨[], by kernel_rfl⟩
set_option maxRecDepth 100000 in
theorem withdrawItems_lifted (os : Os) (started : os.Started) (H : Type) (enc : TypeId × Value → H) (F : Stop.Interp) :
  ReturnsInHanded {} Tryz.checked os 6 .any ((Rows.OpenSpec.upto Rows.withdrawItemsSpec).preRow enc Tryz.prog Tryz.f6 Rows.withdrawItemsUptoRow.domain false Rows.withdrawItemsUptoRow.laid) (((Rows.OpenSpec.upto Rows.withdrawItemsSpec).at F).post enc Tryz.prog Tryz.f6 false true false false) := by
 obtain ⟨places, hx⟩ := withdrawItems_reads os enc
 refine returnsInHanded_of_row (C := Tryz.checked) (s := (Rows.OpenSpec.upto Rows.withdrawItemsSpec)) withdrawItems_own started (by kernel_rfl) Tryz.func6
  (witness_row_at (enc := enc) (C := Tryz.checked) false (World.laidAll Tryz.prog os Rows.withdrawItemsUptoRow.laid) withdrawItems_vals (World.laidAll_os _ _ _) (by kernel_rfl) (by kernel_rfl) (by kernel_rfl)
   (OpenSpec.preRow_of_cond 8 hx (by kernel_rfl) (fun k hk => by cases hk; kernel_rfl) (by kernel_rfl) (withdrawItems_met os))) ?_
 intro W base args ds gs before hval hW _ hk _ hL hsh _
 exact law_contractG (E := En) (bt := 4) Tryz.underlying4 rfl rfl withdrawItems_laid withdrawItems_types withdrawItems_spec withdrawItems_call H enc W base args ds gs before hval hW (hk _ rfl) rfl (gl_of hL)
theorem and_tt {a b : Bool} (ha : a = true) (hb : b = true) : (a && b) = true := by rw [ha, hb]; rfl
theorem withdrawItems_k0 : (Rows.withdrawItemsUptoRow.wf (OpenSpec.ofChange (Rows.OpenSpec.upto Rows.withdrawItemsSpec).bare)) = true := by kernel_rfl
theorem withdrawItems_k1 : (laidOutB Tryz.prog) = true := by kernel_rfl
theorem withdrawItems_k2 : (mapsRowed Tryz.prog) = true := by kernel_rfl
theorem withdrawItems_k3 : (Rows.withdrawItemsUptoRow.inPlace == Tryz.prog.inPlace 6) = true := by kernel_rfl
theorem withdrawItems_k4 : (Rows.withdrawItemsUptoRow.unfollowed == Tryz.prog.unfollowed 6) = true := by kernel_rfl
theorem withdrawItems_k5 : (Rows.withdrawItemsUptoRow.recurses == Tryz.prog.recurses 6) = true := by kernel_rfl
theorem withdrawItems_k6 : (Rows.withdrawItemsUptoRow.named == Tryz.prog.varsNamed 6) = true := by kernel_rfl
theorem withdrawItems_k7 : (Rows.withdrawItemsUptoRow.plainKeys == Tryz.prog.plainKeys) = true := by kernel_rfl
theorem withdrawItems_k8 : (Tryz.prog.stopsHeard) = true := by kernel_rfl
theorem withdrawItems_k9 : (Tryz.prog.mayEnter) = true := by kernel_rfl
theorem withdrawItems_k10 : (Rows.withdrawItemsUptoRow.lifted == Tryz.prog.liftsFinal) = true := by kernel_rfl
theorem withdrawItems_facts : joinedFacts Tryz.prog 6 Tryz.f6 (Rows.OpenSpec.upto Rows.withdrawItemsSpec).bare Rows.withdrawItemsUptoRow = true := by
 unfold joinedFacts
 repeat' (with_reducible refine and_tt ?_ ?_)
 all_goals first | with_reducible exact withdrawItems_k0 | with_reducible exact withdrawItems_k1 | with_reducible exact withdrawItems_k2 | with_reducible exact withdrawItems_k3 | with_reducible exact withdrawItems_k4 | with_reducible exact withdrawItems_k5 | with_reducible exact withdrawItems_k6 | with_reducible exact withdrawItems_k7 | with_reducible exact withdrawItems_k8 | with_reducible exact withdrawItems_k9 | with_reducible exact withdrawItems_k10 | kernel_rfl
theorem withdrawItems_said : Rows.WithdrawItemsUptoSaid :=
 OpenClaim.holds_of_cond 6 Tryz.f6 rfl rfl rfl rfl rfl rfl rfl ⟨rfl, rfl, rfl, rfl, rfl⟩ rfl rfl rfl rfl rfl (by kernel_rfl) Tryz.func6 withdrawItems_facts
  (of_decide_eq_true (by kernel_rfl)) (by unfold Func.isWrapper; first | (rw [if_pos (by decide +kernel)]; kernel_rfl) | (rw [if_neg (by decide +kernel)]; exact ⟨rfl, rfl⟩))
  (fun os started H enc _ F => by rw [OpenClaim.pre_eq_preRow]; exact withdrawItems_lifted os started H enc F)
theorem withdrawItems_plain (f : FuncId) (fn : Func) (hf : Tryz.pinned.checked.prog.funcNamed "specie/specielaw37.WithdrawItems" = some f) (hfn : Tryz.pinned.checked.prog.funcs[f]? = some fn) :
  false = Tryz.pinned.checked.prog.looks [] ∧ ∀ (j : Nat) t, fn.params[j]? = some t → Tryz.pinned.checked.prog.wantsStandIn t = false := by
 obtain rfl : f = 6 := Option.some.inj ((show Tryz.prog.funcNamed "specie/specielaw37.WithdrawItems" = some 6 by kernel_rfl).symm.trans hf) |>.symm
 obtain rfl : fn = Tryz.f6 := (Option.some.inj (Tryz.func6.symm.trans hfn)).symm
 refine ⟨by kernel_rfl, fun j t ht => ?_⟩
 have hall : (Tryz.f6.params.toList.all fun u => !Tryz.prog.wantsStandIn u) = true := by kernel_rfl
 have h0 := List.all_eq_true.1 hall t (Array.mem_toList_iff.2 (Array.mem_of_getElem? ht))
 exact (show Tryz.prog.wantsStandIn t = false by simpa using h0)
theorem withdrawItems_holds : Rows.WithdrawItemsUptoCardSaid :=
 Claim7.holds_tied_plain_at .later [] _ _ _ _ withdrawItems_said (fun _ h => by cases h) (by kernel_rfl) (fun _ h => by cases h) withdrawItemsUpto_row_tie rfl ⟨rfl, rfl⟩ (by kernel_rfl) rfl withdrawItems_plain (by kernel_rfl)
end Go.Proofs.YtjnikknlcmbcmaaGreatDoor
