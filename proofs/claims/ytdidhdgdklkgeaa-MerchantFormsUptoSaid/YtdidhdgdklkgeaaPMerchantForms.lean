/- MerchantForms: the law holds of what holds at most 1048576 values and letters together (printed by program, but for the law itself). -/
import Derived.Test.YtdidhdgdklkgeaaF
import Derived.Test.YtdidhdgdklkgeaaU2
import Derived.Test.YtdidhdgdklkgeaaLF
namespace Go.Proofs.Ytdidhdgdklkgeaa
open Go.ChangeShapes Go.WideShapes Go.ChangeAt Go.RowKit
set_option maxHeartbeats 4000000 in
set_option maxRecDepth 100000 in
theorem op5 : OpensQ En (fun v => ∃ n : Int, v = V.int .u8 n) 5 := by
  have h := opens_int En_ok (T := 5) (by rw [tb5]) (by rw [tb5])
  rw [tb5] at h
  exact h
set_option maxHeartbeats 4000000 in
set_option maxRecDepth 100000 in
theorem op23 : OpensQ En (fun v => ∃ x : (List Int), v = (fun l => .agg (.int .u8 (gt l 0) :: .int .u8 (gt l 1) :: .int .u8 (gt l 2) :: .int .u8 (gt l 3) :: .int .u8 (gt l 4) :: .int .u8 (gt l 5) :: .int .u8 (gt l 6) :: .int .u8 (gt l 7) :: .int .u8 (gt l 8) :: .int .u8 (gt l 9) :: .int .u8 (gt l 10) :: .int .u8 (gt l 11) :: .int .u8 (gt l 12) :: .int .u8 (gt l 13) :: .int .u8 (gt l 14) :: .int .u8 (gt l 15) :: .int .u8 (gt l 16) :: .int .u8 (gt l 17) :: .int .u8 (gt l 18) :: .int .u8 (gt l 19) :: .int .u8 (gt l 20) :: .int .u8 (gt l 21) :: .int .u8 (gt l 22) :: .int .u8 (gt l 23) :: .int .u8 (gt l 24) :: .int .u8 (gt l 25) :: .int .u8 (gt l 26) :: .int .u8 (gt l 27) :: .int .u8 (gt l 28) :: .int .u8 (gt l 29) :: .int .u8 (gt l 30) :: .int .u8 (gt l 31) :: [])) x) 23 := by
  have h := opens_array En_ok (T := 23) (Q := (fun v => ∃ n : Int, v = V.int .u8 n)) (by rw [tb23]) (by rw [tb23]) (by rw [tb23]; exact op5)
  rw [tb23] at h
  refine h.mono ?_
  rintro v ⟨l, hn, hl, rfl⟩
  obtain ⟨m, rfl⟩ := choose_list (f := (V.int .u8)) (fun d hd => by obtain ⟨x, hx⟩ := hl d hd; exact ⟨x, hx⟩)
  refine ⟨m, ?_⟩
  have hm : m.length = 32 := by simpa only [List.length_map, tb23] using hn
  rw [map_range (f := (V.int .u8)) hm]
  simp only [tb5]
  rfl
set_option maxHeartbeats 4000000 in
set_option maxRecDepth 100000 in
theorem op3 : OpensQ En (fun v => ∃ n : Int, v = V.int .i64 n) 3 := by
  have h := opens_int En_ok (T := 3) (by rw [tb3]) (by rw [tb3])
  rw [tb3] at h
  exact h
set_option maxHeartbeats 4000000 in
set_option maxRecDepth 100000 in
theorem op64 : OpensQ En (fun v => ∃ x : S_api_Rule, v = e_api_Rule x) 64 := by
  have h := opens_struct En_ok (T := 64) (by rw [tb64]) (by rw [tb64]) [(fun v => ∃ n : Int, v = V.int .i64 n), (fun v => ∃ n : Int, v = V.int .i64 n), (fun v => ∃ n : Int, v = V.int .i64 n)] (by rw [tb64]; exact ⟨op3, op3, op3, trivial⟩)
  rw [tb64] at h
  refine h.mono ?_
  rintro v ⟨vs, h, rfl⟩
  obtain ⟨v0, vs0, rfl, ⟨x0, h0⟩, h⟩ := FQ_cons h
  obtain ⟨v1, vs1, rfl, ⟨x1, h1⟩, h⟩ := FQ_cons h
  obtain ⟨v2, vs2, rfl, ⟨x2, h2⟩, h⟩ := FQ_cons h
  cases FQ_nil h
  exact ⟨⟨x0, x1, x2⟩, by subst h0 h1 h2; simp only [go_sem, flatC]⟩
set_option maxHeartbeats 4000000 in
set_option maxRecDepth 100000 in
theorem op24 : OpensQ En (fun v => ∃ l : List S_api_Rule, v = V.sl none 3 true (l.map e_api_Rule)) 24 := by
  have h := opens_slice En_ok (T := 24) (Q := (fun v => ∃ x : S_api_Rule, v = e_api_Rule x)) (by rw [tb24]) (by rw [tb24]) (by rw [tb24]; exact op64)
  rw [tb24] at h
  refine h.mono ?_
  rintro v ⟨l, hl, rfl⟩
  obtain ⟨m, rfl⟩ := choose_list (f := e_api_Rule) (fun d hd => by obtain ⟨x, hx⟩ := hl d hd; exact ⟨x, hx⟩)
  exact ⟨m, by simp only [tb64]⟩
set_option maxHeartbeats 4000000 in
set_option maxRecDepth 100000 in
theorem op26 : OpensQ En (fun v => ∃ x : S_api_Policy, v = e_api_Policy x) 26 := by
  have h := opens_struct En_ok (T := 26) (by rw [tb26]) (by rw [tb26]) [(fun v => ∃ l : List S_api_Rule, v = V.sl none 3 true (l.map e_api_Rule))] (by rw [tb26]; exact ⟨op24, trivial⟩)
  rw [tb26] at h
  refine h.mono ?_
  rintro v ⟨vs, h, rfl⟩
  obtain ⟨v0, vs0, rfl, ⟨x0, h0⟩, h⟩ := FQ_cons h
  cases FQ_nil h
  exact ⟨⟨x0⟩, by subst h0; simp only [go_sem, flatC]⟩
set_option maxHeartbeats 4000000 in
set_option maxRecDepth 100000 in
theorem op35 : OpensQ En (fun v => ∃ x : S_api_Invoice, v = e_api_Invoice x) 35 := by
  have h := opens_struct En_ok (T := 35) (by rw [tb35]) (by rw [tb35]) [(fun v => ∃ x : (List Int), v = (fun l => .agg (.int .u8 (gt l 0) :: .int .u8 (gt l 1) :: .int .u8 (gt l 2) :: .int .u8 (gt l 3) :: .int .u8 (gt l 4) :: .int .u8 (gt l 5) :: .int .u8 (gt l 6) :: .int .u8 (gt l 7) :: .int .u8 (gt l 8) :: .int .u8 (gt l 9) :: .int .u8 (gt l 10) :: .int .u8 (gt l 11) :: .int .u8 (gt l 12) :: .int .u8 (gt l 13) :: .int .u8 (gt l 14) :: .int .u8 (gt l 15) :: .int .u8 (gt l 16) :: .int .u8 (gt l 17) :: .int .u8 (gt l 18) :: .int .u8 (gt l 19) :: .int .u8 (gt l 20) :: .int .u8 (gt l 21) :: .int .u8 (gt l 22) :: .int .u8 (gt l 23) :: .int .u8 (gt l 24) :: .int .u8 (gt l 25) :: .int .u8 (gt l 26) :: .int .u8 (gt l 27) :: .int .u8 (gt l 28) :: .int .u8 (gt l 29) :: .int .u8 (gt l 30) :: .int .u8 (gt l 31) :: [])) x), (fun v => ∃ n : Int, v = V.int .i64 n), (fun v => ∃ n : Int, v = V.int .i64 n), (fun v => ∃ n : Int, v = V.int .i64 n)] (by rw [tb35]; exact ⟨op23, op3, op3, op3, trivial⟩)
  rw [tb35] at h
  refine h.mono ?_
  rintro v ⟨vs, h, rfl⟩
  obtain ⟨v0, vs0, rfl, ⟨x0, h0⟩, h⟩ := FQ_cons h
  obtain ⟨v1, vs1, rfl, ⟨x1, h1⟩, h⟩ := FQ_cons h
  obtain ⟨v2, vs2, rfl, ⟨x2, h2⟩, h⟩ := FQ_cons h
  obtain ⟨v3, vs3, rfl, ⟨x3, h3⟩, h⟩ := FQ_cons h
  cases FQ_nil h
  exact ⟨⟨x0, x1, x2, x3⟩, by subst h0 h1 h2 h3; simp only [go_sem, flatC]⟩
set_option maxHeartbeats 4000000 in
set_option maxRecDepth 100000 in
theorem op27 : OpensQ En (fun v => ∃ l : List S_api_Invoice, v = V.sl none 35 true (l.map e_api_Invoice)) 27 := by
  have h := opens_slice En_ok (T := 27) (Q := (fun v => ∃ x : S_api_Invoice, v = e_api_Invoice x)) (by rw [tb27]) (by rw [tb27]) (by rw [tb27]; exact op35)
  rw [tb27] at h
  refine h.mono ?_
  rintro v ⟨l, hl, rfl⟩
  obtain ⟨m, rfl⟩ := choose_list (f := e_api_Invoice) (fun d hd => by obtain ⟨x, hx⟩ := hl d hd; exact ⟨x, hx⟩)
  exact ⟨m, by simp only [tb35]⟩
set_option maxHeartbeats 4000000 in
set_option maxRecDepth 100000 in
theorem op72 : OpensQ En (fun v => ∃ x : S_api_CoinSign, v = e_api_CoinSign x) 72 := by
  have h := opens_struct En_ok (T := 72) (by rw [tb72]) (by rw [tb72]) [(fun v => ∃ n : Int, v = V.int .i64 n), (fun v => ∃ n : Int, v = V.int .i64 n), (fun v => ∃ n : Int, v = V.int .i64 n), (fun v => ∃ n : Int, v = V.int .i64 n)] (by rw [tb72]; exact ⟨op3, op3, op3, op3, trivial⟩)
  rw [tb72] at h
  refine h.mono ?_
  rintro v ⟨vs, h, rfl⟩
  obtain ⟨v0, vs0, rfl, ⟨x0, h0⟩, h⟩ := FQ_cons h
  obtain ⟨v1, vs1, rfl, ⟨x1, h1⟩, h⟩ := FQ_cons h
  obtain ⟨v2, vs2, rfl, ⟨x2, h2⟩, h⟩ := FQ_cons h
  obtain ⟨v3, vs3, rfl, ⟨x3, h3⟩, h⟩ := FQ_cons h
  cases FQ_nil h
  exact ⟨⟨x0, x1, x2, x3⟩, by subst h0 h1 h2 h3; simp only [go_sem, flatC]⟩
set_option maxHeartbeats 4000000 in
set_option maxRecDepth 100000 in
theorem op74 : OpensQ En (fun v => ∃ x : S_api_Coin, v = e_api_Coin x) 74 := by
  have h := opens_struct En_ok (T := 74) (by rw [tb74]) (by rw [tb74]) [(fun v => ∃ n : Int, v = V.int .i64 n), (fun v => ∃ n : Int, v = V.int .i64 n), (fun v => ∃ n : Int, v = V.int .i64 n), (fun v => ∃ n : Int, v = V.int .i64 n), (fun v => ∃ n : Int, v = V.int .i64 n), (fun v => ∃ x : (List Int), v = (fun l => .agg (.int .u8 (gt l 0) :: .int .u8 (gt l 1) :: .int .u8 (gt l 2) :: .int .u8 (gt l 3) :: .int .u8 (gt l 4) :: .int .u8 (gt l 5) :: .int .u8 (gt l 6) :: .int .u8 (gt l 7) :: .int .u8 (gt l 8) :: .int .u8 (gt l 9) :: .int .u8 (gt l 10) :: .int .u8 (gt l 11) :: .int .u8 (gt l 12) :: .int .u8 (gt l 13) :: .int .u8 (gt l 14) :: .int .u8 (gt l 15) :: .int .u8 (gt l 16) :: .int .u8 (gt l 17) :: .int .u8 (gt l 18) :: .int .u8 (gt l 19) :: .int .u8 (gt l 20) :: .int .u8 (gt l 21) :: .int .u8 (gt l 22) :: .int .u8 (gt l 23) :: .int .u8 (gt l 24) :: .int .u8 (gt l 25) :: .int .u8 (gt l 26) :: .int .u8 (gt l 27) :: .int .u8 (gt l 28) :: .int .u8 (gt l 29) :: .int .u8 (gt l 30) :: .int .u8 (gt l 31) :: [])) x), (fun v => ∃ x : S_api_CoinSign, v = e_api_CoinSign x)] (by rw [tb74]; exact ⟨op3, op3, op3, op3, op3, op23, op72, trivial⟩)
  rw [tb74] at h
  refine h.mono ?_
  rintro v ⟨vs, h, rfl⟩
  obtain ⟨v0, vs0, rfl, ⟨x0, h0⟩, h⟩ := FQ_cons h
  obtain ⟨v1, vs1, rfl, ⟨x1, h1⟩, h⟩ := FQ_cons h
  obtain ⟨v2, vs2, rfl, ⟨x2, h2⟩, h⟩ := FQ_cons h
  obtain ⟨v3, vs3, rfl, ⟨x3, h3⟩, h⟩ := FQ_cons h
  obtain ⟨v4, vs4, rfl, ⟨x4, h4⟩, h⟩ := FQ_cons h
  obtain ⟨v5, vs5, rfl, ⟨x5, h5⟩, h⟩ := FQ_cons h
  obtain ⟨v6, vs6, rfl, ⟨x6, h6⟩, h⟩ := FQ_cons h
  cases FQ_nil h
  exact ⟨⟨x0, x1, x2, x3, x4, x5, x6⟩, by subst h0 h1 h2 h3 h4 h5 h6; simp only [go_sem, flatC]⟩
set_option maxHeartbeats 4000000 in
set_option maxRecDepth 100000 in
theorem op76 : OpensQ En (fun v => ∃ x : S_api_Node, v = e_api_Node x) 76 := by
  have h := opens_struct En_ok (T := 76) (by rw [tb76]) (by rw [tb76]) [(fun v => ∃ n : Int, v = V.int .i64 n), (fun v => ∃ n : Int, v = V.int .i64 n)] (by rw [tb76]; exact ⟨op3, op3, trivial⟩)
  rw [tb76] at h
  refine h.mono ?_
  rintro v ⟨vs, h, rfl⟩
  obtain ⟨v0, vs0, rfl, ⟨x0, h0⟩, h⟩ := FQ_cons h
  obtain ⟨v1, vs1, rfl, ⟨x1, h1⟩, h⟩ := FQ_cons h
  cases FQ_nil h
  exact ⟨⟨x0, x1⟩, by subst h0 h1; simp only [go_sem, flatC]⟩
set_option maxHeartbeats 4000000 in
set_option maxRecDepth 100000 in
theorem op78 : OpensQ En (fun v => ∃ x : S_api_Context, v = e_api_Context x) 78 := by
  have h := opens_struct En_ok (T := 78) (by rw [tb78]) (by rw [tb78]) [(fun v => ∃ x : (List Int), v = (fun l => .agg (.int .u8 (gt l 0) :: .int .u8 (gt l 1) :: .int .u8 (gt l 2) :: .int .u8 (gt l 3) :: .int .u8 (gt l 4) :: .int .u8 (gt l 5) :: .int .u8 (gt l 6) :: .int .u8 (gt l 7) :: .int .u8 (gt l 8) :: .int .u8 (gt l 9) :: .int .u8 (gt l 10) :: .int .u8 (gt l 11) :: .int .u8 (gt l 12) :: .int .u8 (gt l 13) :: .int .u8 (gt l 14) :: .int .u8 (gt l 15) :: .int .u8 (gt l 16) :: .int .u8 (gt l 17) :: .int .u8 (gt l 18) :: .int .u8 (gt l 19) :: .int .u8 (gt l 20) :: .int .u8 (gt l 21) :: .int .u8 (gt l 22) :: .int .u8 (gt l 23) :: .int .u8 (gt l 24) :: .int .u8 (gt l 25) :: .int .u8 (gt l 26) :: .int .u8 (gt l 27) :: .int .u8 (gt l 28) :: .int .u8 (gt l 29) :: .int .u8 (gt l 30) :: .int .u8 (gt l 31) :: [])) x), (fun v => ∃ n : Int, v = V.int .i64 n), (fun v => ∃ n : Int, v = V.int .i64 n)] (by rw [tb78]; exact ⟨op23, op3, op3, trivial⟩)
  rw [tb78] at h
  refine h.mono ?_
  rintro v ⟨vs, h, rfl⟩
  obtain ⟨v0, vs0, rfl, ⟨x0, h0⟩, h⟩ := FQ_cons h
  obtain ⟨v1, vs1, rfl, ⟨x1, h1⟩, h⟩ := FQ_cons h
  obtain ⟨v2, vs2, rfl, ⟨x2, h2⟩, h⟩ := FQ_cons h
  cases FQ_nil h
  exact ⟨⟨x0, x1, x2⟩, by subst h0 h1 h2; simp only [go_sem, flatC]⟩
set_option maxHeartbeats 4000000 in
set_option maxRecDepth 100000 in
theorem op122 : OpensQ En (fun v => ∃ x : S_api_Leaf, v = e_api_Leaf x) 122 := by
  have h := opens_struct En_ok (T := 122) (by rw [tb122]) (by rw [tb122]) [(fun v => ∃ n : Int, v = V.int .i64 n), (fun v => ∃ n : Int, v = V.int .i64 n), (fun v => ∃ n : Int, v = V.int .i64 n)] (by rw [tb122]; exact ⟨op3, op3, op3, trivial⟩)
  rw [tb122] at h
  refine h.mono ?_
  rintro v ⟨vs, h, rfl⟩
  obtain ⟨v0, vs0, rfl, ⟨x0, h0⟩, h⟩ := FQ_cons h
  obtain ⟨v1, vs1, rfl, ⟨x1, h1⟩, h⟩ := FQ_cons h
  obtain ⟨v2, vs2, rfl, ⟨x2, h2⟩, h⟩ := FQ_cons h
  cases FQ_nil h
  exact ⟨⟨x0, x1, x2⟩, by subst h0 h1 h2; simp only [go_sem, flatC]⟩
set_option maxHeartbeats 4000000 in
set_option maxRecDepth 100000 in
theorem op79 : OpensQ En (fun v => ∃ l : List S_api_Leaf, v = V.sl none 3 true (l.map e_api_Leaf)) 79 := by
  have h := opens_slice En_ok (T := 79) (Q := (fun v => ∃ x : S_api_Leaf, v = e_api_Leaf x)) (by rw [tb79]) (by rw [tb79]) (by rw [tb79]; exact op122)
  rw [tb79] at h
  refine h.mono ?_
  rintro v ⟨l, hl, rfl⟩
  obtain ⟨m, rfl⟩ := choose_list (f := e_api_Leaf) (fun d hd => by obtain ⟨x, hx⟩ := hl d hd; exact ⟨x, hx⟩)
  exact ⟨m, by simp only [tb122]⟩
set_option maxHeartbeats 4000000 in
set_option maxRecDepth 100000 in
theorem op80 : OpensQ En (fun v => ∃ l : List (List Int), v = V.sl none 32 true (l.map (fun l => .agg (.int .u8 (gt l 0) :: .int .u8 (gt l 1) :: .int .u8 (gt l 2) :: .int .u8 (gt l 3) :: .int .u8 (gt l 4) :: .int .u8 (gt l 5) :: .int .u8 (gt l 6) :: .int .u8 (gt l 7) :: .int .u8 (gt l 8) :: .int .u8 (gt l 9) :: .int .u8 (gt l 10) :: .int .u8 (gt l 11) :: .int .u8 (gt l 12) :: .int .u8 (gt l 13) :: .int .u8 (gt l 14) :: .int .u8 (gt l 15) :: .int .u8 (gt l 16) :: .int .u8 (gt l 17) :: .int .u8 (gt l 18) :: .int .u8 (gt l 19) :: .int .u8 (gt l 20) :: .int .u8 (gt l 21) :: .int .u8 (gt l 22) :: .int .u8 (gt l 23) :: .int .u8 (gt l 24) :: .int .u8 (gt l 25) :: .int .u8 (gt l 26) :: .int .u8 (gt l 27) :: .int .u8 (gt l 28) :: .int .u8 (gt l 29) :: .int .u8 (gt l 30) :: .int .u8 (gt l 31) :: [])))) 80 := by
  have h := opens_slice En_ok (T := 80) (Q := (fun v => ∃ x : (List Int), v = (fun l => .agg (.int .u8 (gt l 0) :: .int .u8 (gt l 1) :: .int .u8 (gt l 2) :: .int .u8 (gt l 3) :: .int .u8 (gt l 4) :: .int .u8 (gt l 5) :: .int .u8 (gt l 6) :: .int .u8 (gt l 7) :: .int .u8 (gt l 8) :: .int .u8 (gt l 9) :: .int .u8 (gt l 10) :: .int .u8 (gt l 11) :: .int .u8 (gt l 12) :: .int .u8 (gt l 13) :: .int .u8 (gt l 14) :: .int .u8 (gt l 15) :: .int .u8 (gt l 16) :: .int .u8 (gt l 17) :: .int .u8 (gt l 18) :: .int .u8 (gt l 19) :: .int .u8 (gt l 20) :: .int .u8 (gt l 21) :: .int .u8 (gt l 22) :: .int .u8 (gt l 23) :: .int .u8 (gt l 24) :: .int .u8 (gt l 25) :: .int .u8 (gt l 26) :: .int .u8 (gt l 27) :: .int .u8 (gt l 28) :: .int .u8 (gt l 29) :: .int .u8 (gt l 30) :: .int .u8 (gt l 31) :: [])) x)) (by rw [tb80]) (by rw [tb80]) (by rw [tb80]; exact op23)
  rw [tb80] at h
  refine h.mono ?_
  rintro v ⟨l, hl, rfl⟩
  obtain ⟨m, rfl⟩ := choose_list (f := (fun l => .agg (.int .u8 (gt l 0) :: .int .u8 (gt l 1) :: .int .u8 (gt l 2) :: .int .u8 (gt l 3) :: .int .u8 (gt l 4) :: .int .u8 (gt l 5) :: .int .u8 (gt l 6) :: .int .u8 (gt l 7) :: .int .u8 (gt l 8) :: .int .u8 (gt l 9) :: .int .u8 (gt l 10) :: .int .u8 (gt l 11) :: .int .u8 (gt l 12) :: .int .u8 (gt l 13) :: .int .u8 (gt l 14) :: .int .u8 (gt l 15) :: .int .u8 (gt l 16) :: .int .u8 (gt l 17) :: .int .u8 (gt l 18) :: .int .u8 (gt l 19) :: .int .u8 (gt l 20) :: .int .u8 (gt l 21) :: .int .u8 (gt l 22) :: .int .u8 (gt l 23) :: .int .u8 (gt l 24) :: .int .u8 (gt l 25) :: .int .u8 (gt l 26) :: .int .u8 (gt l 27) :: .int .u8 (gt l 28) :: .int .u8 (gt l 29) :: .int .u8 (gt l 30) :: .int .u8 (gt l 31) :: []))) (fun d hd => by obtain ⟨x, hx⟩ := hl d hd; exact ⟨x, hx⟩)
  exact ⟨m, by simp only [tb23]⟩
set_option maxHeartbeats 4000000 in
set_option maxRecDepth 100000 in
theorem op82 : OpensQ En (fun v => ∃ x : S_api_Path, v = e_api_Path x) 82 := by
  have h := opens_struct En_ok (T := 82) (by rw [tb82]) (by rw [tb82]) [(fun v => ∃ n : Int, v = V.int .i64 n), (fun v => ∃ l : List (List Int), v = V.sl none 32 true (l.map (fun l => .agg (.int .u8 (gt l 0) :: .int .u8 (gt l 1) :: .int .u8 (gt l 2) :: .int .u8 (gt l 3) :: .int .u8 (gt l 4) :: .int .u8 (gt l 5) :: .int .u8 (gt l 6) :: .int .u8 (gt l 7) :: .int .u8 (gt l 8) :: .int .u8 (gt l 9) :: .int .u8 (gt l 10) :: .int .u8 (gt l 11) :: .int .u8 (gt l 12) :: .int .u8 (gt l 13) :: .int .u8 (gt l 14) :: .int .u8 (gt l 15) :: .int .u8 (gt l 16) :: .int .u8 (gt l 17) :: .int .u8 (gt l 18) :: .int .u8 (gt l 19) :: .int .u8 (gt l 20) :: .int .u8 (gt l 21) :: .int .u8 (gt l 22) :: .int .u8 (gt l 23) :: .int .u8 (gt l 24) :: .int .u8 (gt l 25) :: .int .u8 (gt l 26) :: .int .u8 (gt l 27) :: .int .u8 (gt l 28) :: .int .u8 (gt l 29) :: .int .u8 (gt l 30) :: .int .u8 (gt l 31) :: []))))] (by rw [tb82]; exact ⟨op3, op80, trivial⟩)
  rw [tb82] at h
  refine h.mono ?_
  rintro v ⟨vs, h, rfl⟩
  obtain ⟨v0, vs0, rfl, ⟨x0, h0⟩, h⟩ := FQ_cons h
  obtain ⟨v1, vs1, rfl, ⟨x1, h1⟩, h⟩ := FQ_cons h
  cases FQ_nil h
  exact ⟨⟨x0, x1⟩, by subst h0 h1; simp only [go_sem, flatC]⟩
set_option maxHeartbeats 4000000 in
set_option maxRecDepth 100000 in
theorem op84 : OpensQ En (fun v => ∃ x : S_api_Spend, v = e_api_Spend x) 84 := by
  have h := opens_struct En_ok (T := 84) (by rw [tb84]) (by rw [tb84]) [(fun v => ∃ x : S_api_Coin, v = e_api_Coin x), (fun v => ∃ x : S_api_Node, v = e_api_Node x), (fun v => ∃ x : S_api_Context, v = e_api_Context x), (fun v => ∃ l : List S_api_Leaf, v = V.sl none 3 true (l.map e_api_Leaf)), (fun v => ∃ x : S_api_Path, v = e_api_Path x)] (by rw [tb84]; exact ⟨op74, op76, op78, op79, op82, trivial⟩)
  rw [tb84] at h
  refine h.mono ?_
  rintro v ⟨vs, h, rfl⟩
  obtain ⟨v0, vs0, rfl, ⟨x0, h0⟩, h⟩ := FQ_cons h
  obtain ⟨v1, vs1, rfl, ⟨x1, h1⟩, h⟩ := FQ_cons h
  obtain ⟨v2, vs2, rfl, ⟨x2, h2⟩, h⟩ := FQ_cons h
  obtain ⟨v3, vs3, rfl, ⟨x3, h3⟩, h⟩ := FQ_cons h
  obtain ⟨v4, vs4, rfl, ⟨x4, h4⟩, h⟩ := FQ_cons h
  cases FQ_nil h
  exact ⟨⟨x0, x1, x2, x3, x4⟩, by subst h0 h1 h2 h3 h4; simp only [go_sem, flatC]⟩
set_option maxHeartbeats 4000000 in
set_option maxRecDepth 100000 in
theorem op39 : OpensQ En (fun v => ∃ l : List S_api_Spend, v = V.sl none 80 true (l.map e_api_Spend)) 39 := by
  have h := opens_slice En_ok (T := 39) (Q := (fun v => ∃ x : S_api_Spend, v = e_api_Spend x)) (by rw [tb39]) (by rw [tb39]) (by rw [tb39]; exact op84)
  rw [tb39] at h
  refine h.mono ?_
  rintro v ⟨l, hl, rfl⟩
  obtain ⟨m, rfl⟩ := choose_list (f := e_api_Spend) (fun d hd => by obtain ⟨x, hx⟩ := hl d hd; exact ⟨x, hx⟩)
  exact ⟨m, by simp only [tb84]⟩
set_option maxHeartbeats 4000000 in
set_option maxRecDepth 100000 in
theorem op87 : OpensQ En (fun v => ∃ x : S_api_Chain, v = e_api_Chain x) 87 := by
  have h := opens_struct En_ok (T := 87) (by rw [tb87]) (by rw [tb87]) [(fun v => ∃ x : S_api_Spend, v = e_api_Spend x), (fun v => ∃ l : List S_api_Spend, v = V.sl none 80 true (l.map e_api_Spend))] (by rw [tb87]; exact ⟨op84, op39, trivial⟩)
  rw [tb87] at h
  refine h.mono ?_
  rintro v ⟨vs, h, rfl⟩
  obtain ⟨v0, vs0, rfl, ⟨x0, h0⟩, h⟩ := FQ_cons h
  obtain ⟨v1, vs1, rfl, ⟨x1, h1⟩, h⟩ := FQ_cons h
  cases FQ_nil h
  exact ⟨⟨x0, x1⟩, by subst h0 h1; simp only [go_sem, flatC]⟩
set_option maxHeartbeats 4000000 in
set_option maxRecDepth 100000 in
theorem op40 : OpensQ En (fun v => ∃ l : List S_api_Chain, v = V.sl none 81 true (l.map e_api_Chain)) 40 := by
  have h := opens_slice En_ok (T := 40) (Q := (fun v => ∃ x : S_api_Chain, v = e_api_Chain x)) (by rw [tb40]) (by rw [tb40]) (by rw [tb40]; exact op87)
  rw [tb40] at h
  refine h.mono ?_
  rintro v ⟨l, hl, rfl⟩
  obtain ⟨m, rfl⟩ := choose_list (f := e_api_Chain) (fun d hd => by obtain ⟨x, hx⟩ := hl d hd; exact ⟨x, hx⟩)
  exact ⟨m, by simp only [tb87]⟩
set_option maxHeartbeats 4000000 in
set_option maxRecDepth 100000 in
theorem op29 : OpensQ En (fun v => ∃ l : List Int, v = V.sl none 1 false (l.map (V.int .i64))) 29 := by
  have h := opens_slice En_ok (T := 29) (Q := (fun v => ∃ n : Int, v = V.int .i64 n)) (by rw [tb29]) (by rw [tb29]) (by rw [tb29]; exact op3)
  rw [tb29] at h
  refine h.mono ?_
  rintro v ⟨l, hl, rfl⟩
  obtain ⟨m, rfl⟩ := choose_list (f := (V.int .i64)) (fun d hd => by obtain ⟨x, hx⟩ := hl d hd; exact ⟨x, hx⟩)
  exact ⟨m, by simp only [tb3]⟩
set_option maxHeartbeats 4000000 in
set_option maxRecDepth 100000 in
theorem op90 : OpensQ En (fun v => ∃ x : S_api_Proof, v = e_api_Proof x) 90 := by
  have h := opens_struct En_ok (T := 90) (by rw [tb90]) (by rw [tb90]) [(fun v => ∃ l : List Int, v = V.sl none 1 false (l.map (V.int .i64))), (fun v => ∃ n : Int, v = V.int .i64 n), (fun v => ∃ l : List Int, v = V.sl none 1 false (l.map (V.int .i64)))] (by rw [tb90]; exact ⟨op29, op3, op29, trivial⟩)
  rw [tb90] at h
  refine h.mono ?_
  rintro v ⟨vs, h, rfl⟩
  obtain ⟨v0, vs0, rfl, ⟨x0, h0⟩, h⟩ := FQ_cons h
  obtain ⟨v1, vs1, rfl, ⟨x1, h1⟩, h⟩ := FQ_cons h
  obtain ⟨v2, vs2, rfl, ⟨x2, h2⟩, h⟩ := FQ_cons h
  cases FQ_nil h
  exact ⟨⟨x0, x1, x2⟩, by subst h0 h1 h2; simp only [go_sem, flatC]⟩
set_option maxHeartbeats 4000000 in
set_option maxRecDepth 100000 in
theorem op92 : OpensQ En (fun v => ∃ x : S_api_Escrow, v = e_api_Escrow x) 92 := by
  have h := opens_struct En_ok (T := 92) (by rw [tb92]) (by rw [tb92]) [(fun v => ∃ n : Int, v = V.int .i64 n), (fun v => ∃ n : Int, v = V.int .i64 n), (fun v => ∃ x : S_api_Proof, v = e_api_Proof x)] (by rw [tb92]; exact ⟨op3, op3, op90, trivial⟩)
  rw [tb92] at h
  refine h.mono ?_
  rintro v ⟨vs, h, rfl⟩
  obtain ⟨v0, vs0, rfl, ⟨x0, h0⟩, h⟩ := FQ_cons h
  obtain ⟨v1, vs1, rfl, ⟨x1, h1⟩, h⟩ := FQ_cons h
  obtain ⟨v2, vs2, rfl, ⟨x2, h2⟩, h⟩ := FQ_cons h
  cases FQ_nil h
  exact ⟨⟨x0, x1, x2⟩, by subst h0 h1 h2; simp only [go_sem, flatC]⟩
set_option maxHeartbeats 4000000 in
set_option maxRecDepth 100000 in
theorem op41 : OpensQ En (fun v => ∃ l : List S_api_Escrow, v = V.sl none 5 true (l.map e_api_Escrow)) 41 := by
  have h := opens_slice En_ok (T := 41) (Q := (fun v => ∃ x : S_api_Escrow, v = e_api_Escrow x)) (by rw [tb41]) (by rw [tb41]) (by rw [tb41]; exact op92)
  rw [tb41] at h
  refine h.mono ?_
  rintro v ⟨l, hl, rfl⟩
  obtain ⟨m, rfl⟩ := choose_list (f := e_api_Escrow) (fun d hd => by obtain ⟨x, hx⟩ := hl d hd; exact ⟨x, hx⟩)
  exact ⟨m, by simp only [tb92]⟩
set_option maxHeartbeats 4000000 in
set_option maxRecDepth 100000 in
theorem op43 : OpensQ En (fun v => ∃ x : S_api_Payment, v = e_api_Payment x) 43 := by
  have h := opens_struct En_ok (T := 43) (by rw [tb43]) (by rw [tb43]) [(fun v => ∃ n : Int, v = V.int .i64 n), (fun v => ∃ l : List S_api_Spend, v = V.sl none 80 true (l.map e_api_Spend)), (fun v => ∃ l : List S_api_Chain, v = V.sl none 81 true (l.map e_api_Chain)), (fun v => ∃ l : List S_api_Escrow, v = V.sl none 5 true (l.map e_api_Escrow))] (by rw [tb43]; exact ⟨op3, op39, op40, op41, trivial⟩)
  rw [tb43] at h
  refine h.mono ?_
  rintro v ⟨vs, h, rfl⟩
  obtain ⟨v0, vs0, rfl, ⟨x0, h0⟩, h⟩ := FQ_cons h
  obtain ⟨v1, vs1, rfl, ⟨x1, h1⟩, h⟩ := FQ_cons h
  obtain ⟨v2, vs2, rfl, ⟨x2, h2⟩, h⟩ := FQ_cons h
  obtain ⟨v3, vs3, rfl, ⟨x3, h3⟩, h⟩ := FQ_cons h
  cases FQ_nil h
  exact ⟨⟨x0, x1, x2, x3⟩, by subst h0 h1 h2 h3; simp only [go_sem, flatC]⟩
set_option maxHeartbeats 4000000 in
set_option maxRecDepth 100000 in
theorem op28 : OpensQ En (fun v => ∃ l : List S_api_Payment, v = V.sl none 4 true (l.map e_api_Payment)) 28 := by
  have h := opens_slice En_ok (T := 28) (Q := (fun v => ∃ x : S_api_Payment, v = e_api_Payment x)) (by rw [tb28]) (by rw [tb28]) (by rw [tb28]; exact op43)
  rw [tb28] at h
  refine h.mono ?_
  rintro v ⟨l, hl, rfl⟩
  obtain ⟨m, rfl⟩ := choose_list (f := e_api_Payment) (fun d hd => by obtain ⟨x, hx⟩ := hl d hd; exact ⟨x, hx⟩)
  exact ⟨m, by simp only [tb43]⟩
set_option maxHeartbeats 4000000 in
set_option maxRecDepth 100000 in
theorem op31 : OpensQ En (fun v => ∃ x : S_api_Merchant, v = e_api_Merchant x) 31 := by
  have h := opens_struct En_ok (T := 31) (by rw [tb31]) (by rw [tb31]) [(fun v => ∃ x : (List Int), v = (fun l => .agg (.int .u8 (gt l 0) :: .int .u8 (gt l 1) :: .int .u8 (gt l 2) :: .int .u8 (gt l 3) :: .int .u8 (gt l 4) :: .int .u8 (gt l 5) :: .int .u8 (gt l 6) :: .int .u8 (gt l 7) :: .int .u8 (gt l 8) :: .int .u8 (gt l 9) :: .int .u8 (gt l 10) :: .int .u8 (gt l 11) :: .int .u8 (gt l 12) :: .int .u8 (gt l 13) :: .int .u8 (gt l 14) :: .int .u8 (gt l 15) :: .int .u8 (gt l 16) :: .int .u8 (gt l 17) :: .int .u8 (gt l 18) :: .int .u8 (gt l 19) :: .int .u8 (gt l 20) :: .int .u8 (gt l 21) :: .int .u8 (gt l 22) :: .int .u8 (gt l 23) :: .int .u8 (gt l 24) :: .int .u8 (gt l 25) :: .int .u8 (gt l 26) :: .int .u8 (gt l 27) :: .int .u8 (gt l 28) :: .int .u8 (gt l 29) :: .int .u8 (gt l 30) :: .int .u8 (gt l 31) :: [])) x), (fun v => ∃ x : S_api_Policy, v = e_api_Policy x), (fun v => ∃ l : List S_api_Invoice, v = V.sl none 35 true (l.map e_api_Invoice)), (fun v => ∃ n : Int, v = V.int .i64 n), (fun v => ∃ l : List S_api_Payment, v = V.sl none 4 true (l.map e_api_Payment)), (fun v => ∃ l : List S_api_Invoice, v = V.sl none 35 true (l.map e_api_Invoice)), (fun v => ∃ n : Int, v = V.int .i64 n), (fun v => ∃ l : List Int, v = V.sl none 1 false (l.map (V.int .i64))), (fun v => ∃ n : Int, v = V.int .i64 n)] (by rw [tb31]; exact ⟨op23, op26, op27, op3, op28, op27, op3, op29, op3, trivial⟩)
  rw [tb31] at h
  refine h.mono ?_
  rintro v ⟨vs, h, rfl⟩
  obtain ⟨v0, vs0, rfl, ⟨x0, h0⟩, h⟩ := FQ_cons h
  obtain ⟨v1, vs1, rfl, ⟨x1, h1⟩, h⟩ := FQ_cons h
  obtain ⟨v2, vs2, rfl, ⟨x2, h2⟩, h⟩ := FQ_cons h
  obtain ⟨v3, vs3, rfl, ⟨x3, h3⟩, h⟩ := FQ_cons h
  obtain ⟨v4, vs4, rfl, ⟨x4, h4⟩, h⟩ := FQ_cons h
  obtain ⟨v5, vs5, rfl, ⟨x5, h5⟩, h⟩ := FQ_cons h
  obtain ⟨v6, vs6, rfl, ⟨x6, h6⟩, h⟩ := FQ_cons h
  obtain ⟨v7, vs7, rfl, ⟨x7, h7⟩, h⟩ := FQ_cons h
  obtain ⟨v8, vs8, rfl, ⟨x8, h8⟩, h⟩ := FQ_cons h
  cases FQ_nil h
  exact ⟨⟨x0, x1, x2, x3, x4, x5, x6, x7, x8⟩, by subst h0 h1 h2 h3 h4 h5 h6 h7 h8; simp only [go_sem, flatC]⟩
set_option maxRecDepth 100000 in
theorem merchantForms_call (H : Type) (enc : TypeId × Value → H) (W : World) (base : Nat) (args : Array Value) (ds : List (DataW H)) (ps : List MemPlace) (hA : DataW.TrodAll enc En.P W 0 (fun _ => true) true Try.f5.params.toList args.toList ds ps)
    (hval : ∀ (j : Nat) t v, Try.f5.params[j]? = some t → args[j]? = some v → Value.okWide En.P W .any base t v) (hb : Rows.uptoBulkAll ds ≤ 1048576) : ∃ ws, rdT ro0 (base0 W) ws args.toList ∧ CallOk En 5 ws (.bool true) [] := by
  rw [Try.params5] at hA hval
  obtain ⟨v0, vs0, d0, ds0, p0, q0, hargs, rfl, rfl, h0, r0⟩ := trodAll_cons hA
  obtain ⟨v1, vs1, d1, ds1, p1, q1, rfl, rfl, rfl, h1, r1⟩ := trodAll_cons r0
  obtain ⟨v2, vs2, d2, ds2, p2, q2, rfl, rfl, rfl, h2, r2⟩ := trodAll_cons r1
  obtain ⟨rfl, rfl, rfl⟩ := trodAll_nil r2
  obtain rfl : args = #[v0, v1, v2] := by cases args; simp_all
  simp only [Rows.uptoBulkAll] at hb
  obtain ⟨u0, ⟨x0, rfl⟩, e0⟩ := open_arg En_ok (T := 31) (by rw [tb31]) (by rw [tb31]; decide) op31 (hval 0 31 v0 rfl rfl) h0 (by omega)
  obtain ⟨u1, ⟨x1, rfl⟩, e1⟩ := open_arg En_ok (T := 3) (by rw [tb3]) (by rw [tb3]; decide) op3 (hval 1 3 v1 rfl rfl) h1 (by omega)
  obtain ⟨u2, ⟨x2, rfl⟩, e2⟩ := open_arg En_ok (T := 3) (by rw [tb3]) (by rw [tb3]; decide) op3 (hval 2 3 v2 rfl rfl) h2 (by omega)
  refine ⟨[e_api_Merchant x0, .int .i64 x1, .int .i64 x2], ⟨v0, [v1, v2], rfl, e0, v1, [v2], rfl, e1, v2, [], rfl, e2, rfl⟩, ?_⟩
  have h := specielaw47_MerchantForms_ok  x0 x1 x2
  rw [specielaw47_MerchantForms_true x0 x1 x2] at h
  exact h
theorem merchantForms_own : ownKnob Try.prog.godebug = none := by kernel_rfl
theorem merchantForms_laid : laidOutB Try.prog = true := by kernel_rfl
set_option maxRecDepth 100000 in
theorem merchantForms_types : ∀ t ∈ Try.f5.params.toList, Try.prog.readableRec t = true ∧ t < Try.prog.types.size := by
  intro t ht
  rw [Try.params5] at ht
  simp only [List.mem_cons, List.not_mem_nil, or_false] at ht
  rcases ht with rfl | rfl | rfl <;> exact ⟨by kernel_rfl, of_decide_eq_true (by kernel_rfl)⟩
set_option maxRecDepth 100000 in
theorem merchantForms_spec (H : Type) (ds : List (DataW H)) (h : ds.length = Try.f5.params.toList.length) : Rows.merchantFormsSpec.fn H ds = { results := [.lit (.bool true)], args := ds } := by
  rw [Try.params5] at h
  match ds, h with
  | [d0, d1, d2], _ => rfl
set_option maxRecDepth 100000 in
theorem merchantForms_lifted (os : Os) (started : os.Started) (H : Type) (enc : TypeId × Value → H) (F : Stop.Interp) :
    ReturnsInHanded {} Try.checked os 5 .any ((Rows.OpenSpec.upto Rows.merchantFormsSpec).pre6 enc Try.prog Try.f5 Rows.merchantFormsUptoRow.domain false) (((Rows.OpenSpec.upto Rows.merchantFormsSpec).at F).post enc Try.prog Try.f5 false true false false) := by
  refine returnsInHanded_of_cond (C := Try.checked) (s := (Rows.OpenSpec.upto Rows.merchantFormsSpec)) (k := Rows.uptoSmall) rfl merchantForms_own started (by kernel_rfl) Try.func5
    (OpenSpec.witness (enc := enc) (C := Try.checked) (s := (Rows.OpenSpec.upto Rows.merchantFormsSpec)) (k := Rows.uptoSmall) rfl false ⟨#[], #[.agg #[.int .u8 0, .int .u8 0, .int .u8 0, .int .u8 0, .int .u8 0, .int .u8 0, .int .u8 0, .int .u8 0, .int .u8 0, .int .u8 0, .int .u8 0, .int .u8 0, .int .u8 0, .int .u8 0, .int .u8 0, .int .u8 0, .int .u8 0, .int .u8 0, .int .u8 0, .int .u8 0, .int .u8 0, .int .u8 0, .int .u8 0, .int .u8 0, .int .u8 0, .int .u8 0, .int .u8 0, .int .u8 0, .int .u8 0, .int .u8 0, .int .u8 0, .int .u8 0, .slice none 0 0, .slice none 0 0, .int .i64 0, .slice none 0 0, .slice none 0 0, .int .i64 0, .slice none 0 0, .int .i64 0], .int .i64 0, .int .i64 0], []⟩ 8 (by kernel_rfl) (by kernel_rfl) (by kernel_rfl)
      (x := ([.agg [.agg (List.replicate 32 (.lit (.int .u8 0))), .agg [.nil], .nil, .lit (.int .i64 0), .nil, .nil, .lit (.int .i64 0), .nil, .lit (.int .i64 0)], .lit (.int .i64 0), .lit (.int .i64 0)], [], [])) (by kernel_rfl) rfl (by kernel_rfl)) ?_
  intro W base args ds gs before hval hW _ hk _
  exact law_contract (E := En) rfl (bt := 4) Try.underlying4 rfl rfl merchantForms_laid merchantForms_types merchantForms_spec merchantForms_call H enc W base args ds gs before hval hW hk rfl
/-- MerchantForms, for what holds at most 1048576 values and letters. -/
theorem merchantForms_holds : Rows.MerchantFormsUptoSaid :=
  OpenClaim.holds_of_cond 5 Try.f5 rfl rfl rfl rfl rfl rfl rfl ⟨rfl, rfl, rfl, rfl, rfl⟩ rfl rfl rfl rfl rfl (by kernel_rfl) Try.func5 (by kernel_rfl)
    (of_decide_eq_true (by kernel_rfl)) (by unfold Func.isWrapper; first | (rw [if_pos (by decide +kernel)]; kernel_rfl) | (rw [if_neg (by decide +kernel)]; exact ⟨rfl, rfl⟩))
    (fun os started H enc _ F => merchantForms_lifted os started H enc F)
end Go.Proofs.Ytdidhdgdklkgeaa
