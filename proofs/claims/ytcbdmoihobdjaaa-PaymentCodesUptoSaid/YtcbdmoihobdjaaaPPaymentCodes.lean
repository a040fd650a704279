import Derived.Test.YtcbdmoihobdjaaaF
import Derived.Test.YtcbdmoihobdjaaaU2
import Derived.Test.YtcbdmoihobdjaaaL2
namespace Go.Proofs.Ytcbdmoihobdjaaa
open Go.ChangeShapes Go.WideShapes Go.ChangeAt Go.RowKit
set_option maxHeartbeats 4000000 in
set_option maxRecDepth 100000 in
theorem op3 : OpensQ En (fun v => ∃ n : Int, v = V.int .i64 n) 3 := by
 have h := opens_int En_ok (T := 3) (by rw [tb3]) (by rw [tb3])
 rw [tb3] at h
 exact h
set_option maxHeartbeats 4000000 in
set_option maxRecDepth 100000 in
theorem op5 : OpensQ En (fun v => ∃ n : Int, v = V.int .u8 n) 5 := by
 have h := opens_int En_ok (T := 5) (by rw [tb5]) (by rw [tb5])
 rw [tb5] at h
 exact h
set_option maxHeartbeats 4000000 in
set_option maxRecDepth 100000 in
theorem op45 : OpensQ En (fun v => ∃ x : (List Int), v = e_arr45 x) 45 := by
 have h := opens_array En_ok (T := 45) (Q := (fun v => ∃ n : Int, v = V.int .u8 n)) (by rw [tb45]) (by rw [tb45]) (by rw [tb45]; exact op5)
 rw [tb45] at h
 refine h.mono ?_
 rintro v ⟨l, hn, hl, rfl⟩
 obtain ⟨m, rfl⟩ := choose_list (f := (V.int .u8)) (fun d hd => by obtain ⟨x, hx⟩ := hl d hd; exact ⟨x, hx⟩)
 refine ⟨m, ?_⟩
 have hm : m.length = 32 := by simpa only [List.length_map, tb45] using hn
 rw [map_range (f := (V.int .u8)) hm]
 simp only [tb5]
 rfl
set_option maxHeartbeats 4000000 in
set_option maxRecDepth 100000 in
theorem op47 : OpensQ En (fun v => ∃ x : S_api_CoinSign, v = e_api_CoinSign x) 47 := by
 have h := opens_struct En_ok (T := 47) (by rw [tb47]) (by rw [tb47]) [(fun v => ∃ n : Int, v = V.int .i64 n), (fun v => ∃ n : Int, v = V.int .i64 n), (fun v => ∃ n : Int, v = V.int .i64 n), (fun v => ∃ n : Int, v = V.int .i64 n)] (by rw [tb47]; exact ⟨op3, op3, op3, op3, trivial⟩)
 rw [tb47] at h
 refine h.mono ?_
 rintro v ⟨vs, h, rfl⟩
 obtain ⟨v0, vs0, rfl, ⟨x0, h0⟩, h⟩ := FQ_cons h
 obtain ⟨v1, vs1, rfl, ⟨x1, h1⟩, h⟩ := FQ_cons h
 obtain ⟨v2, vs2, rfl, ⟨x2, h2⟩, h⟩ := FQ_cons h
 obtain ⟨v3, vs3, rfl, ⟨x3, h3⟩, h⟩ := FQ_cons h
 cases FQ_nil h
 exact ⟨⟨x0, x1, x2, x3⟩, by subst h0 h1 h2 h3; simp only [go_sem, flatC]⟩
set_option maxHeartbeats 4000000 in
set_option maxRecDepth 100000 in
theorem op49 : OpensQ En (fun v => ∃ x : S_api_Coin, v = e_api_Coin x) 49 := by
 have h := opens_struct En_ok (T := 49) (by rw [tb49]) (by rw [tb49]) [(fun v => ∃ n : Int, v = V.int .i64 n), (fun v => ∃ n : Int, v = V.int .i64 n), (fun v => ∃ n : Int, v = V.int .i64 n), (fun v => ∃ n : Int, v = V.int .i64 n), (fun v => ∃ n : Int, v = V.int .i64 n), (fun v => ∃ x : (List Int), v = e_arr45 x), (fun v => ∃ x : S_api_CoinSign, v = e_api_CoinSign x)] (by rw [tb49]; exact ⟨op3, op3, op3, op3, op3, op45, op47, trivial⟩)
 rw [tb49] at h
 refine h.mono ?_
 rintro v ⟨vs, h, rfl⟩
 obtain ⟨v0, vs0, rfl, ⟨x0, h0⟩, h⟩ := FQ_cons h
 obtain ⟨v1, vs1, rfl, ⟨x1, h1⟩, h⟩ := FQ_cons h
 obtain ⟨v2, vs2, rfl, ⟨x2, h2⟩, h⟩ := FQ_cons h
 obtain ⟨v3, vs3, rfl, ⟨x3, h3⟩, h⟩ := FQ_cons h
 obtain ⟨v4, vs4, rfl, ⟨x4, h4⟩, h⟩ := FQ_cons h
 obtain ⟨v5, vs5, rfl, ⟨x5, h5⟩, h⟩ := FQ_cons h
 obtain ⟨v6, vs6, rfl, ⟨x6, h6⟩, h⟩ := FQ_cons h
 cases FQ_nil h
 exact ⟨⟨x0, x1, x2, x3, x4, x5, x6⟩, by subst h0 h1 h2 h3 h4 h5 h6; simp only [go_sem, flatC]⟩
set_option maxHeartbeats 4000000 in
set_option maxRecDepth 100000 in
theorem op51 : OpensQ En (fun v => ∃ x : S_api_Node, v = e_api_Node x) 51 := by
 have h := opens_struct En_ok (T := 51) (by rw [tb51]) (by rw [tb51]) [(fun v => ∃ n : Int, v = V.int .i64 n), (fun v => ∃ n : Int, v = V.int .i64 n)] (by rw [tb51]; exact ⟨op3, op3, trivial⟩)
 rw [tb51] at h
 refine h.mono ?_
 rintro v ⟨vs, h, rfl⟩
 obtain ⟨v0, vs0, rfl, ⟨x0, h0⟩, h⟩ := FQ_cons h
 obtain ⟨v1, vs1, rfl, ⟨x1, h1⟩, h⟩ := FQ_cons h
 cases FQ_nil h
 exact ⟨⟨x0, x1⟩, by subst h0 h1; simp only [go_sem, flatC]⟩
set_option maxHeartbeats 4000000 in
set_option maxRecDepth 100000 in
theorem op53 : OpensQ En (fun v => ∃ x : S_api_Context, v = e_api_Context x) 53 := by
 have h := opens_struct En_ok (T := 53) (by rw [tb53]) (by rw [tb53]) [(fun v => ∃ x : (List Int), v = e_arr45 x), (fun v => ∃ n : Int, v = V.int .i64 n), (fun v => ∃ n : Int, v = V.int .i64 n)] (by rw [tb53]; exact ⟨op45, op3, op3, trivial⟩)
 rw [tb53] at h
 refine h.mono ?_
 rintro v ⟨vs, h, rfl⟩
 obtain ⟨v0, vs0, rfl, ⟨x0, h0⟩, h⟩ := FQ_cons h
 obtain ⟨v1, vs1, rfl, ⟨x1, h1⟩, h⟩ := FQ_cons h
 obtain ⟨v2, vs2, rfl, ⟨x2, h2⟩, h⟩ := FQ_cons h
 cases FQ_nil h
 exact ⟨⟨x0, x1, x2⟩, by subst h0 h1 h2; simp only [go_sem, flatC]⟩
set_option maxHeartbeats 4000000 in
set_option maxRecDepth 100000 in
theorem op116 : OpensQ En (fun v => ∃ x : S_api_Leaf, v = e_api_Leaf x) 116 := by
 have h := opens_struct En_ok (T := 116) (by rw [tb116]) (by rw [tb116]) [(fun v => ∃ n : Int, v = V.int .i64 n), (fun v => ∃ n : Int, v = V.int .i64 n), (fun v => ∃ n : Int, v = V.int .i64 n)] (by rw [tb116]; exact ⟨op3, op3, op3, trivial⟩)
 rw [tb116] at h
 refine h.mono ?_
 rintro v ⟨vs, h, rfl⟩
 obtain ⟨v0, vs0, rfl, ⟨x0, h0⟩, h⟩ := FQ_cons h
 obtain ⟨v1, vs1, rfl, ⟨x1, h1⟩, h⟩ := FQ_cons h
 obtain ⟨v2, vs2, rfl, ⟨x2, h2⟩, h⟩ := FQ_cons h
 cases FQ_nil h
 exact ⟨⟨x0, x1, x2⟩, by subst h0 h1 h2; simp only [go_sem, flatC]⟩
set_option maxHeartbeats 4000000 in
set_option maxRecDepth 100000 in
theorem op54 : OpensQ En (fun v => ∃ l : List S_api_Leaf, v = V.sl none 3 true (l.map e_api_Leaf)) 54 := by
 have h := opens_slice En_ok (T := 54) (Q := (fun v => ∃ x : S_api_Leaf, v = e_api_Leaf x)) (by rw [tb54]) (by rw [tb54]) (by rw [tb54]; exact op116)
 rw [tb54] at h
 refine h.mono ?_
 rintro v ⟨l, hl, rfl⟩
 obtain ⟨m, rfl⟩ := choose_list (f := e_api_Leaf) (fun d hd => by obtain ⟨x, hx⟩ := hl d hd; exact ⟨x, hx⟩)
 exact ⟨m, by simp only [tb116]⟩
set_option maxHeartbeats 4000000 in
set_option maxRecDepth 100000 in
theorem op55 : OpensQ En (fun v => ∃ l : List (List Int), v = V.sl none 32 true (l.map e_arr45)) 55 := by
 have h := opens_slice En_ok (T := 55) (Q := (fun v => ∃ x : (List Int), v = e_arr45 x)) (by rw [tb55]) (by rw [tb55]) (by rw [tb55]; exact op45)
 rw [tb55] at h
 refine h.mono ?_
 rintro v ⟨l, hl, rfl⟩
 obtain ⟨m, rfl⟩ := choose_list (f := e_arr45) (fun d hd => by obtain ⟨x, hx⟩ := hl d hd; exact ⟨x, hx⟩)
 exact ⟨m, by simp only [tb45]⟩
set_option maxHeartbeats 4000000 in
set_option maxRecDepth 100000 in
theorem op57 : OpensQ En (fun v => ∃ x : S_api_Path, v = e_api_Path x) 57 := by
 have h := opens_struct En_ok (T := 57) (by rw [tb57]) (by rw [tb57]) [(fun v => ∃ n : Int, v = V.int .i64 n), (fun v => ∃ l : List (List Int), v = V.sl none 32 true (l.map e_arr45))] (by rw [tb57]; exact ⟨op3, op55, trivial⟩)
 rw [tb57] at h
 refine h.mono ?_
 rintro v ⟨vs, h, rfl⟩
 obtain ⟨v0, vs0, rfl, ⟨x0, h0⟩, h⟩ := FQ_cons h
 obtain ⟨v1, vs1, rfl, ⟨x1, h1⟩, h⟩ := FQ_cons h
 cases FQ_nil h
 exact ⟨⟨x0, x1⟩, by subst h0 h1; simp only [go_sem, flatC]⟩
set_option maxHeartbeats 4000000 in
set_option maxRecDepth 100000 in
theorem op59 : OpensQ En (fun v => ∃ x : S_api_Spend, v = e_api_Spend x) 59 := by
 have h := opens_struct En_ok (T := 59) (by rw [tb59]) (by rw [tb59]) [(fun v => ∃ x : S_api_Coin, v = e_api_Coin x), (fun v => ∃ x : S_api_Node, v = e_api_Node x), (fun v => ∃ x : S_api_Context, v = e_api_Context x), (fun v => ∃ l : List S_api_Leaf, v = V.sl none 3 true (l.map e_api_Leaf)), (fun v => ∃ x : S_api_Path, v = e_api_Path x)] (by rw [tb59]; exact ⟨op49, op51, op53, op54, op57, trivial⟩)
 rw [tb59] at h
 refine h.mono ?_
 rintro v ⟨vs, h, rfl⟩
 obtain ⟨v0, vs0, rfl, ⟨x0, h0⟩, h⟩ := FQ_cons h
 obtain ⟨v1, vs1, rfl, ⟨x1, h1⟩, h⟩ := FQ_cons h
 obtain ⟨v2, vs2, rfl, ⟨x2, h2⟩, h⟩ := FQ_cons h
 obtain ⟨v3, vs3, rfl, ⟨x3, h3⟩, h⟩ := FQ_cons h
 obtain ⟨v4, vs4, rfl, ⟨x4, h4⟩, h⟩ := FQ_cons h
 cases FQ_nil h
 exact ⟨⟨x0, x1, x2, x3, x4⟩, by subst h0 h1 h2 h3 h4; simp only [go_sem, flatC]⟩
set_option maxHeartbeats 4000000 in
set_option maxRecDepth 100000 in
theorem op22 : OpensQ En (fun v => ∃ l : List S_api_Spend, v = V.sl none 80 true (l.map e_api_Spend)) 22 := by
 have h := opens_slice En_ok (T := 22) (Q := (fun v => ∃ x : S_api_Spend, v = e_api_Spend x)) (by rw [tb22]) (by rw [tb22]) (by rw [tb22]; exact op59)
 rw [tb22] at h
 refine h.mono ?_
 rintro v ⟨l, hl, rfl⟩
 obtain ⟨m, rfl⟩ := choose_list (f := e_api_Spend) (fun d hd => by obtain ⟨x, hx⟩ := hl d hd; exact ⟨x, hx⟩)
 exact ⟨m, by simp only [tb59]⟩
set_option maxHeartbeats 4000000 in
set_option maxRecDepth 100000 in
theorem op74 : OpensQ En (fun v => ∃ x : S_api_Chain, v = e_api_Chain x) 74 := by
 have h := opens_struct En_ok (T := 74) (by rw [tb74]) (by rw [tb74]) [(fun v => ∃ x : S_api_Spend, v = e_api_Spend x), (fun v => ∃ l : List S_api_Spend, v = V.sl none 80 true (l.map e_api_Spend))] (by rw [tb74]; exact ⟨op59, op22, trivial⟩)
 rw [tb74] at h
 refine h.mono ?_
 rintro v ⟨vs, h, rfl⟩
 obtain ⟨v0, vs0, rfl, ⟨x0, h0⟩, h⟩ := FQ_cons h
 obtain ⟨v1, vs1, rfl, ⟨x1, h1⟩, h⟩ := FQ_cons h
 cases FQ_nil h
 exact ⟨⟨x0, x1⟩, by subst h0 h1; simp only [go_sem, flatC]⟩
set_option maxHeartbeats 4000000 in
set_option maxRecDepth 100000 in
theorem op23 : OpensQ En (fun v => ∃ l : List S_api_Chain, v = V.sl none 81 true (l.map e_api_Chain)) 23 := by
 have h := opens_slice En_ok (T := 23) (Q := (fun v => ∃ x : S_api_Chain, v = e_api_Chain x)) (by rw [tb23]) (by rw [tb23]) (by rw [tb23]; exact op74)
 rw [tb23] at h
 refine h.mono ?_
 rintro v ⟨l, hl, rfl⟩
 obtain ⟨m, rfl⟩ := choose_list (f := e_api_Chain) (fun d hd => by obtain ⟨x, hx⟩ := hl d hd; exact ⟨x, hx⟩)
 exact ⟨m, by simp only [tb74]⟩
set_option maxHeartbeats 4000000 in
set_option maxRecDepth 100000 in
theorem op77 : OpensQ En (fun v => ∃ l : List Int, v = V.sl none 1 false (l.map (V.int .i64))) 77 := by
 have h := opens_slice En_ok (T := 77) (Q := (fun v => ∃ n : Int, v = V.int .i64 n)) (by rw [tb77]) (by rw [tb77]) (by rw [tb77]; exact op3)
 rw [tb77] at h
 refine h.mono ?_
 rintro v ⟨l, hl, rfl⟩
 obtain ⟨m, rfl⟩ := choose_list (f := (V.int .i64)) (fun d hd => by obtain ⟨x, hx⟩ := hl d hd; exact ⟨x, hx⟩)
 exact ⟨m, by simp only [tb3]⟩
set_option maxHeartbeats 4000000 in
set_option maxRecDepth 100000 in
theorem op79 : OpensQ En (fun v => ∃ x : S_api_Proof, v = e_api_Proof x) 79 := by
 have h := opens_struct En_ok (T := 79) (by rw [tb79]) (by rw [tb79]) [(fun v => ∃ l : List Int, v = V.sl none 1 false (l.map (V.int .i64))), (fun v => ∃ n : Int, v = V.int .i64 n), (fun v => ∃ l : List Int, v = V.sl none 1 false (l.map (V.int .i64)))] (by rw [tb79]; exact ⟨op77, op3, op77, trivial⟩)
 rw [tb79] at h
 refine h.mono ?_
 rintro v ⟨vs, h, rfl⟩
 obtain ⟨v0, vs0, rfl, ⟨x0, h0⟩, h⟩ := FQ_cons h
 obtain ⟨v1, vs1, rfl, ⟨x1, h1⟩, h⟩ := FQ_cons h
 obtain ⟨v2, vs2, rfl, ⟨x2, h2⟩, h⟩ := FQ_cons h
 cases FQ_nil h
 exact ⟨⟨x0, x1, x2⟩, by subst h0 h1 h2; simp only [go_sem, flatC]⟩
set_option maxHeartbeats 4000000 in
set_option maxRecDepth 100000 in
theorem op81 : OpensQ En (fun v => ∃ x : S_api_Escrow, v = e_api_Escrow x) 81 := by
 have h := opens_struct En_ok (T := 81) (by rw [tb81]) (by rw [tb81]) [(fun v => ∃ n : Int, v = V.int .i64 n), (fun v => ∃ n : Int, v = V.int .i64 n), (fun v => ∃ x : S_api_Proof, v = e_api_Proof x)] (by rw [tb81]; exact ⟨op3, op3, op79, trivial⟩)
 rw [tb81] at h
 refine h.mono ?_
 rintro v ⟨vs, h, rfl⟩
 obtain ⟨v0, vs0, rfl, ⟨x0, h0⟩, h⟩ := FQ_cons h
 obtain ⟨v1, vs1, rfl, ⟨x1, h1⟩, h⟩ := FQ_cons h
 obtain ⟨v2, vs2, rfl, ⟨x2, h2⟩, h⟩ := FQ_cons h
 cases FQ_nil h
 exact ⟨⟨x0, x1, x2⟩, by subst h0 h1 h2; simp only [go_sem, flatC]⟩
set_option maxHeartbeats 4000000 in
set_option maxRecDepth 100000 in
theorem op24 : OpensQ En (fun v => ∃ l : List S_api_Escrow, v = V.sl none 5 true (l.map e_api_Escrow)) 24 := by
 have h := opens_slice En_ok (T := 24) (Q := (fun v => ∃ x : S_api_Escrow, v = e_api_Escrow x)) (by rw [tb24]) (by rw [tb24]) (by rw [tb24]; exact op81)
 rw [tb24] at h
 refine h.mono ?_
 rintro v ⟨l, hl, rfl⟩
 obtain ⟨m, rfl⟩ := choose_list (f := e_api_Escrow) (fun d hd => by obtain ⟨x, hx⟩ := hl d hd; exact ⟨x, hx⟩)
 exact ⟨m, by simp only [tb81]⟩
set_option maxHeartbeats 4000000 in
set_option maxRecDepth 100000 in
theorem op26 : OpensQ En (fun v => ∃ x : S_api_Payment, v = e_api_Payment x) 26 := by
 have h := opens_struct En_ok (T := 26) (by rw [tb26]) (by rw [tb26]) [(fun v => ∃ n : Int, v = V.int .i64 n), (fun v => ∃ l : List S_api_Spend, v = V.sl none 80 true (l.map e_api_Spend)), (fun v => ∃ l : List S_api_Chain, v = V.sl none 81 true (l.map e_api_Chain)), (fun v => ∃ l : List S_api_Escrow, v = V.sl none 5 true (l.map e_api_Escrow))] (by rw [tb26]; exact ⟨op3, op22, op23, op24, trivial⟩)
 rw [tb26] at h
 refine h.mono ?_
 rintro v ⟨vs, h, rfl⟩
 obtain ⟨v0, vs0, rfl, ⟨x0, h0⟩, h⟩ := FQ_cons h
 obtain ⟨v1, vs1, rfl, ⟨x1, h1⟩, h⟩ := FQ_cons h
 obtain ⟨v2, vs2, rfl, ⟨x2, h2⟩, h⟩ := FQ_cons h
 obtain ⟨v3, vs3, rfl, ⟨x3, h3⟩, h⟩ := FQ_cons h
 cases FQ_nil h
 exact ⟨⟨x0, x1, x2, x3⟩, by subst h0 h1 h2 h3; simp only [go_sem, flatC]⟩
set_option maxHeartbeats 4000000 in
set_option maxRecDepth 100000 in
theorem op27 : OpensQ En (fun v => ∃ l : List Int, v = V.sl none 1 false (l.map (V.int .u8))) 27 := by
 have h := opens_slice En_ok (T := 27) (Q := (fun v => ∃ n : Int, v = V.int .u8 n)) (by rw [tb27]) (by rw [tb27]) (by rw [tb27]; exact op5)
 rw [tb27] at h
 refine h.mono ?_
 rintro v ⟨l, hl, rfl⟩
 obtain ⟨m, rfl⟩ := choose_list (f := (V.int .u8)) (fun d hd => by obtain ⟨x, hx⟩ := hl d hd; exact ⟨x, hx⟩)
 exact ⟨m, by simp only [tb5]⟩
set_option maxRecDepth 100000 in
theorem paymentCodes_call (H : Type) (enc : TypeId × Value → H) (W : World) (base : Nat) (args : Array Value) (ds : List (DataW H)) (ps : List MemPlace) (hA : DataW.TrodAll enc En.P W 0 (fun _ => true) true Try.f4.params.toList args.toList ds ps)
  (hval : ∀ (j : Nat) t v, Try.f4.params[j]? = some t → args[j]? = some v → Value.okWide En.P W .any base t v) (hb : Rows.uptoBulkAll ds ≤ 1048576) : ∃ ws, rdT ro0 (base0 W) ws args.toList ∧ CallOk En 4 ws (.bool true) [] := by
 rw [Try.params4] at hA hval
 obtain ⟨v0, vs0, d0, ds0, p0, q0, hargs, rfl, rfl, h0, r0⟩ := trodAll_cons hA
 obtain ⟨v1, vs1, d1, ds1, p1, q1, rfl, rfl, rfl, h1, r1⟩ := trodAll_cons r0
 obtain ⟨rfl, rfl, rfl⟩ := trodAll_nil r1
 obtain rfl : args = #[v0, v1] := by cases args; simp_all
 simp only [Rows.uptoBulkAll] at hb
 obtain ⟨u0, ⟨x0, rfl⟩, e0⟩ := open_arg En_ok (T := 26) (by rw [tb26]) (by rw [tb26]; decide) op26 (hval 0 26 v0 rfl rfl) h0 (by omega)
 obtain ⟨u1, ⟨x1, rfl⟩, e1⟩ := open_arg En_ok (T := 27) (by rw [tb27]) (by rw [tb27]; decide) op27 (hval 1 27 v1 rfl rfl) h1 (by omega)
 refine ⟨[e_api_Payment x0, .sl none 1 false (x1.map (V.int .u8))], ⟨v0, [v1], rfl, e0, v1, [], rfl, e1, rfl⟩, ?_⟩
 have h := (specielaw38_PaymentCodes_ok x0 x1).ok
 rw [specielaw38_PaymentCodes_true x0 x1 (rdT_wf (c := base0 W) (cs := [v0, v1]) ⟨v0, [v1], rfl, e0, v1, [], rfl, e1, rfl⟩)] at h
 exact h
theorem paymentCodes_own : ownKnob Try.prog.godebug = none := by kernel_rfl
theorem paymentCodes_laid : laidOutB Try.prog = true := by kernel_rfl
set_option maxRecDepth 100000 in
theorem paymentCodes_types : ∀ t ∈ Try.f4.params.toList, Try.prog.readableRec t = true ∧ t < Try.prog.types.size := by
 intro t ht
 rw [Try.params4] at ht
 simp only [List.mem_cons, List.not_mem_nil, or_false] at ht
 rcases ht with rfl | rfl <;> exact ⟨by kernel_rfl, of_decide_eq_true (by kernel_rfl)⟩
set_option maxRecDepth 100000 in
theorem paymentCodes_spec (H : Type) (ds : List (DataW H)) (h : ds.length = Try.f4.params.toList.length) : Rows.paymentCodesSpec.fn H ds = { results := [.lit (.bool true)], args := ds } := by
 rw [Try.params4] at h
 match ds, h with
 | [d0, d1], _ => rfl
set_option maxRecDepth 100000 in
theorem paymentCodes_lifted (os : Os) (started : os.Started) (H : Type) (enc : TypeId × Value → H) (F : Stop.Interp) :
  ReturnsInHanded {} Try.checked os 4 .any ((Rows.OpenSpec.upto Rows.paymentCodesSpec).pre6 enc Try.prog Try.f4 Rows.paymentCodesUptoRow.domain false) (((Rows.OpenSpec.upto Rows.paymentCodesSpec).at F).post enc Try.prog Try.f4 false true false false) := by
 refine returnsInHanded_of_cond (C := Try.checked) (s := (Rows.OpenSpec.upto Rows.paymentCodesSpec)) (k := Rows.uptoSmall) rfl paymentCodes_own started (by kernel_rfl) Try.func4
  (OpenSpec.witness (enc := enc) (C := Try.checked) (s := (Rows.OpenSpec.upto Rows.paymentCodesSpec)) (k := Rows.uptoSmall) rfl false ⟨#[], #[.agg #[.int .i64 0, .slice none 0 0, .slice none 0 0, .slice none 0 0], .slice none 0 0], []⟩ 8 (by kernel_rfl) (by kernel_rfl) (by kernel_rfl)
   (x := ([.agg [.lit (.int .i64 0), .nil, .nil, .nil], .nil], [], [])) (by kernel_rfl) rfl (by kernel_rfl)) ?_
 intro W base args ds gs before hval hW _ hk _
 exact law_contract (E := En) rfl (bt := 4) Try.underlying4 rfl rfl paymentCodes_laid paymentCodes_types paymentCodes_spec paymentCodes_call H enc W base args ds gs before hval hW hk rfl
theorem paymentCodes_holds : Rows.PaymentCodesUptoSaid :=
 OpenClaim.holds_of_cond 4 Try.f4 rfl rfl rfl rfl rfl rfl rfl ⟨rfl, rfl, rfl, rfl, rfl⟩ rfl rfl rfl rfl rfl (by kernel_rfl) Try.func4 (by kernel_rfl)
  (of_decide_eq_true (by kernel_rfl)) (by unfold Func.isWrapper; first | (rw [if_pos (by decide +kernel)]; kernel_rfl) | (rw [if_neg (by decide +kernel)]; exact ⟨rfl, rfl⟩))
  (fun os started H enc _ F => paymentCodes_lifted os started H enc F)
end Go.Proofs.Ytcbdmoihobdjaaa
