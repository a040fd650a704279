/- The law of payments back and forth, on typed data (plain Lean). -/
import Derived.Test.YtcbdmoihobdjaaaH3
namespace Go.Proofs.Ytcbdmoihobdjaaa
open Go.RowKit
theorem awake_true : specielaw38_awake = true := by decide +kernel
/-! What is what it is like: the references' equalities. -/
theorem arrF_get {α : Type} [Inhabited α] {l : List α} : ∀ {k : Nat} {i j : Nat}, j < k → (arrF l k i).getD j default = gt l ((i + j : Nat) : Int)
  | k + 1, i, 0, _ => by simp [arrF]
  | k + 1, i, j + 1, h => by
    have := arrF_get (l := l) (k := k) (i := i + 1) (j := j) (by omega)
    simp only [arrF, List.getD_cons_succ]
    rw [show ((i : Int) + 1) = ((i + 1 : Nat) : Int) from rfl, this]
    congr 1; omega
theorem gt_arrN {α : Type} [Inhabited α] {l : List α} {n : Nat} {i : Int} (h0 : 0 ≤ i) (h : i.toNat < n) : gt (arrN n l) i = gt l i := by
  have := arrF_get (l := l) (k := n) (i := 0) (j := i.toNat) h
  unfold arrN
  rw [show gt (arrF l n 0) i = (arrF l n ((0 : Nat) : Int)).getD i.toNat default from rfl, this]
  congr 1; omega
theorem notif {b x : Bool} : (if (!b) = true then false else x) = (if b = true then x else false) := by cases b <;> rfl
theorem same_arr (a : List Int) : q_arr45 a (arrN 32 a) = true := by simp [q_arr45, gt_arrN]
theorem same_coin (c : S_api_Coin) : q_api_Coin c (normC c) = true := by simp [q_api_Coin, normC, gt_arrN]
theorem same_ctx (c : S_api_Context) : q_api_Context c (normX c) = true := by simp [q_api_Context, normX, gt_arrN]
theorem same_loop {n : Int} {C : Int → Bool} {X : Bool} {F : (Int → Bool) → Int → Bool} {d : Int → Bool} (hF : ∀ ag p, F ag p = if decide (p < n) = true then (if C p = true then ag (p + 1) else false) else X)
    (hC : ∀ p, 0 ≤ p → p < n → C p = true) (hX : X = true) : iter ((n - 0).toNat + 1) F d 0 = true :=
  (iter_allX hF _ 0 (by omega)).2 ⟨hC, hX⟩
theorem same_path (p : S_api_Path) : specieref27_Same p { p with L := p.L.map (arrN 32) } = true := by
  unfold specieref27_Same
  simp only [bne_self_eq_false, List.length_map, Bool.false_eq_true, if_false]
  refine same_loop (C := fun j => q_arr45 (gt p.L j) (gt (p.L.map (arrN 32)) j)) (X := true) (fun ag j => by simp only [notif]) (fun j h0 h1 => ?_) rfl
  rw [gt_map (by omega)]; exact same_arr _
theorem same_spend (s : S_api_Spend) : specieref32_Same s (normS s) = true := by
  unfold specieref32_Same
  have h1 : q_api_Coin s.Coin (normS s).Coin = true := same_coin _
  have h2 : q_api_Node s.Node (normS s).Node = true := by simp [q_api_Node, normS]
  have h3 : q_api_Context s.Context (normS s).Context = true := same_ctx _
  have h4 : specieref27_Same s.Path (normS s).Path = true := same_path _
  have h5 : (normS s).Leaves = s.Leaves := rfl
  simp only [letk, h1, h2, h3, h4, h5, bne_self_eq_false, Bool.not_true, Bool.false_eq_true, if_false]
  refine same_loop (C := fun j => q_api_Leaf (gt s.Leaves j) (gt s.Leaves j)) (X := true) (fun ag j => by simp only [notif]) (fun j h0 h1 => ?_) rfl
  simp [q_api_Leaf]
theorem same_chain (h : S_api_Chain) : specieref35_Same h (normH h) = true := by
  unfold specieref35_Same specieref35_Spends
  have e : [(normH h).First] ++ (normH h).L = ([h.First] ++ h.L).map normS := by simp [normH]
  simp only [letk, e, List.length_map, bne_self_eq_false, Bool.false_eq_true, if_false]
  refine same_loop (C := fun j => specieref32_Same (gt ([h.First] ++ h.L) j) (gt (([h.First] ++ h.L).map normS) j)) (X := true) (fun ag j => by simp only [notif]) (fun j h0 h1 => ?_) rfl
  rw [gt_map (by omega)]; exact same_spend _
theorem same_ints (a : List Int) : specieref17_Same a a = true := by
  unfold specieref17_Same
  simp only [bne_self_eq_false, Bool.false_eq_true, if_false]
  refine same_loop (C := fun j => true) (X := true) (fun ag j => by simp) (fun j h0 h1 => rfl) rfl
theorem same_escrow (x : S_api_Escrow) : specieref36_Same x x = true := by
  simp [specieref36_Same, specieref17_SameProof, letk, same_ints]
def normP (p : S_api_Payment) : S_api_Payment := ⟨p.Number, p.Spends.map normS, p.Chains.map normH, p.Escrow⟩
theorem same_pay (p : S_api_Payment) : specieref38_Same p (normP p) = true := by
  unfold specieref38_Same
  have l0 : (normP p).Number = p.Number := rfl
  have l1 : (normP p).Spends.length = p.Spends.length := by simp [normP]
  have l2 : (normP p).Chains.length = p.Chains.length := by simp [normP]
  have l3 : (normP p).Escrow.length = p.Escrow.length := rfl
  simp only [letk, notif, l0, l1, l2, l3, bne_self_eq_false, Bool.false_eq_true, if_false]
  refine same_loop (C := fun j => specieref32_Same (gt p.Spends j) (gt (normP p).Spends j)) (fun ag j => rfl) (fun j h0 h1 => by show specieref32_Same _ (gt (p.Spends.map normS) j) = true; rw [gt_map (by omega)]; exact same_spend _) ?_
  refine same_loop (C := fun j => specieref35_Same (gt p.Chains j) (gt (normP p).Chains j)) (fun ag j => rfl) (fun j h0 h1 => by show specieref35_Same _ (gt (p.Chains.map normH) j) = true; rw [gt_map (by omega)]; exact same_chain _) ?_
  exact same_loop (C := fun j => specieref36_Same (gt p.Escrow j) (gt (normP p).Escrow j)) (X := true) (fun ag j => rfl) (fun j h0 h1 => same_escrow _) rfl
theorem same_zero : specieref38_Same z_api_Payment z_api_Payment = true := by
  have : normP z_api_Payment = z_api_Payment := rfl
  have h := same_pay z_api_Payment
  rwa [this] at h
/-! Bytes. -/
theorem isB_app {l m : List Int} (h1 : isB l) (h2 : isB m) : isB (l ++ m) := fun x hx => by
  rcases List.mem_append.1 hx with h | h
  · exact h1 x h
  · exact h2 x h
theorem isB_cons {x : Int} {l : List Int} (h1 : 0 ≤ x ∧ x ≤ 255) (h2 : isB l) : isB (x :: l) := fun y hy => by
  rcases List.mem_cons.1 hy with rfl | h
  · exact h1
  · exact h2 y h
mutual
theorem encI_isB : ∀ (i : S_api_Item), okI i → isB (encI i)
  | ⟨k, n, b, l⟩, h => by
    simp only [okI] at h
    simp only [encI]
    split
    · exact isB_cons (by omega) be_isB
    split
    · exact isB_cons (by omega) (isB_app be_isB h.2.1)
    · exact isB_cons (by omega) (isB_app be_isB (encL_isB l h.2.2.2))
theorem encL_isB : ∀ (l : List S_api_Item), okL l → isB (encL l)
  | [], _ => fun x hx => by cases hx
  | x :: l, h => by
    simp only [okL] at h
    simp only [encL]
    exact isB_app (encI_isB x h.1) (encL_isB l h.2)
end
/-! What an item of a payment is made of can be encoded. -/
theorem okL_mem : ∀ {l : List S_api_Item}, (∀ x ∈ l, okI x) → okL l
  | [], _ => trivial
  | x :: l, h => ⟨h x (by simp), okL_mem (fun y hy => h y (by simp [hy]))⟩
theorem isB_nil : isB [] := fun x hx => by cases hx
def r64 (n : Int) : Prop := -9223372036854775808 ≤ n ∧ n ≤ 9223372036854775807
theorem ok_int {n : Int} (h : r64 n) : okI (intI n) := ⟨h, isB_nil, by decide, trivial⟩
theorem ok_list {l : List S_api_Item} (h : ∀ x ∈ l, okI x) : okI (listI l) := ⟨by omega, isB_nil, by simp, okL_mem h⟩
theorem ok_ints {l : List Int} (h : ∀ x ∈ l, r64 x) : okI (intsI l) := ok_list (fun x hx => by
  obtain ⟨n, hn, rfl⟩ := List.mem_map.1 hx
  exact ok_int (h n hn))
theorem ok_byt {b : List Int} (h : isB b) (hl : b.length = 32) : okI (bytI b) := ⟨by omega, h, by omega, trivial⟩
theorem wf_mem {α : Type} {f : α → V} : ∀ {l : List α}, wfL (l.map f) → ∀ x ∈ l, wfV (f x)
  | a :: l, h, x, hx => by
    simp only [List.map_cons, wfL] at h
    rcases List.mem_cons.1 hx with rfl | h1
    · exact h.1
    · exact wf_mem h.2 x h1
theorem wf_ints {l : List Int} (h : wfL (l.map (V.int .i64))) : ∀ x ∈ l, r64 x := fun x hx => by
  have := wf_mem h x hx
  simp only [wfV, rng_i64] at this
  exact this
theorem ok_arr {l : List Int} (h : wfV (e_arr45 l)) : isB (arrN 32 l) := by
  refine isB_wf ?_
  simp only [e_arr45, wfV, wfL] at h
  simp only [arrN, arrF, List.map_cons, List.map_nil, wfL, wfV, Int.zero_add, Int.reduceAdd]
  exact h
theorem ok_coin {c : S_api_Coin} (h : wfV (e_api_Coin c)) : okI (coinI c) := by
  have ha : wfV (e_arr45 c.Root) := by
    simp only [e_api_Coin, e_arr45, wfV, wfL] at h ⊢
    simp only [h, and_self]
  simp only [e_api_Coin, wfV, wfL, rng_i64] at h
  refine ok_list (fun x hx => ?_)
  simp only [List.mem_cons, List.not_mem_nil, or_false] at hx
  rcases hx with rfl | rfl | rfl
  · refine ok_ints (fun x hx => ?_)
    simp only [List.mem_cons, List.not_mem_nil, or_false] at hx
    rcases hx with rfl | rfl | rfl | rfl | rfl <;> simp only [r64, h, and_self]
  · exact ok_byt (ok_arr ha) arrN_len
  · refine ok_ints (fun x hx => ?_)
    simp only [List.mem_cons, List.not_mem_nil, or_false] at hx
    rcases hx with rfl | rfl | rfl | rfl <;> simp only [r64, h, and_self]
theorem ok_leaves {l : List S_api_Leaf} (h : wfL (l.map e_api_Leaf)) : ∀ x ∈ leavesF l, r64 x := by
  intro x hx
  obtain ⟨y, hy, hx⟩ := List.mem_flatMap.1 hx
  have := wf_mem h y hy
  simp only [e_api_Leaf, wfV, wfL, rng_i64] at this
  simp only [List.mem_cons, List.not_mem_nil, or_false] at hx
  rcases hx with rfl | rfl | rfl <;> simp only [r64, this, and_self]
theorem ok_spend {s : S_api_Spend} (h : wfV (e_api_Spend s)) : okI (spendI s) := by
  have hc : wfV (e_api_Coin s.Coin) := by
    simp only [e_api_Spend, e_api_Coin, wfV, wfL] at h ⊢
    simp only [h, and_self]
  have hp : wfV (e_arr45 s.Context.Payee) := by
    simp only [e_api_Spend, e_arr45, wfV, wfL] at h ⊢
    simp only [h, and_self]
  have hn : r64 s.Node.Level ∧ r64 s.Node.Index ∧ r64 s.Context.Time ∧ r64 s.Context.Number ∧ r64 s.Path.Index ∧ wfL (s.Leaves.map e_api_Leaf) ∧ wfL (s.Path.L.map e_arr45) := by
    simp only [e_api_Spend, wfV, wfL, rng_i64] at h
    simp only [r64, h, and_self]
  obtain ⟨n1, n2, n3, n4, n5, n6, n7⟩ := hn
  refine ok_list (fun x hx => ?_)
  simp only [List.mem_cons, List.not_mem_nil, or_false] at hx
  rcases hx with rfl | rfl | rfl | rfl | rfl | rfl
  · exact ok_coin hc
  · exact ok_ints (fun x hx => by simp only [List.mem_cons, List.not_mem_nil, or_false] at hx; rcases hx with rfl | rfl <;> assumption)
  · exact ok_byt (ok_arr hp) arrN_len
  · exact ok_ints (fun x hx => by simp only [List.mem_cons, List.not_mem_nil, or_false] at hx; rcases hx with rfl | rfl <;> assumption)
  · exact ok_ints (ok_leaves n6)
  · refine ok_list (fun x hx => ?_)
    rcases List.mem_cons.1 hx with rfl | hx
    · exact ok_int n5
    · obtain ⟨y, hy, rfl⟩ := List.mem_map.1 hx
      exact ok_byt (ok_arr (wf_mem n7 y hy)) arrN_len
theorem ok_spends {l : List S_api_Spend} (h : wfL (l.map e_api_Spend)) : okI (listI (l.map spendI)) := ok_list (fun x hx => by
  obtain ⟨y, hy, rfl⟩ := List.mem_map.1 hx
  exact ok_spend (wf_mem h y hy))
theorem ok_chain {c : S_api_Chain} (h : wfV (e_api_Chain c)) : okI (chainI c) := by
  have hc : wfV (e_api_Spend c.First) ∧ wfL (c.L.map e_api_Spend) := by
    simp only [e_api_Spend, e_api_Chain, wfV, wfL] at h ⊢
    simp only [h, and_self]
  refine ok_list (fun x hx => ?_)
  simp only [List.mem_cons, List.not_mem_nil, or_false] at hx
  rcases hx with rfl | rfl
  · exact ok_spend hc.1
  · exact ok_spends hc.2
theorem ok_escrow {x : S_api_Escrow} (h : wfV (e_api_Escrow x)) : okI (escrowI x) := by
  simp only [e_api_Escrow, wfV, wfL, rng_i64] at h
  obtain ⟨h1, h2, h3, h4, h5, _⟩ := h
  refine ok_list (fun y hy => ?_)
  simp only [List.mem_cons, List.not_mem_nil, or_false] at hy
  rcases hy with rfl | rfl | rfl | rfl
  · exact ok_ints (fun x hx => by simp only [List.mem_cons, List.not_mem_nil, or_false] at hx; rcases hx with rfl | rfl <;> assumption)
  · exact ok_ints (wf_ints h3.2)
  · exact ok_int h4
  · exact ok_ints (wf_ints h5.2)
theorem ok_pay {p : S_api_Payment} (h : wfV (e_api_Payment p)) : okI (payI p) := by
  simp only [e_api_Payment, wfV, wfL, rng_i64] at h
  obtain ⟨h1, h2, h3, h4, _⟩ := h
  refine ok_list (fun y hy => ?_)
  simp only [List.mem_cons, List.not_mem_nil, or_false] at hy
  rcases hy with rfl | rfl | rfl | rfl
  · exact ok_int h1
  · exact ok_spends h2.2
  · exact ok_list (fun x hx => by
      obtain ⟨y, hy, rfl⟩ := List.mem_map.1 hx
      exact ok_chain (wf_mem h3.2 y hy))
  · exact ok_list (fun x hx => by
      obtain ⟨y, hy, rfl⟩ := List.mem_map.1 hx
      exact ok_escrow (wf_mem h4.2 y hy))
/-! Payments, there and back. -/
theorem within_len {l : List S_api_Item} {d : Int} (h : withinM (listI l) d = true) : l.length ≤ 1000 := by
  simp [listI, withinM] at h
  exact h.2.1
theorem payment_Encode_eq (p : S_api_Payment) : payment_Encode p = if p.Spends.length > 1000 ∨ p.Chains.length > 1000 ∨ p.Escrow.length > 1000 ∨ withinM (payI p) 8 = false ∨ (encI (payI p)).length > 16384 then ([], 5) else (encI (payI p), 0) := by
  unfold payment_Encode
  have e := payItem_eq p
  unfold payItem at e
  simp only [letk, e, encode_Encode_eq]
  by_cases h1 : p.Spends.length > 1000
  · have : (p.Spends.length : Int) > 1000 := by omega
    simp [h1, this]
  by_cases h2 : p.Chains.length > 1000
  · have : (p.Chains.length : Int) > 1000 := by omega
    simp [h2, this]
  by_cases h3 : p.Escrow.length > 1000
  · have : (p.Escrow.length : Int) > 1000 := by omega
    simp [h3, this]
  have g1 : ¬ (p.Spends.length : Int) > 1000 := by omega
  have g2 : ¬ (p.Chains.length : Int) > 1000 := by omega
  have g3 : ¬ (p.Escrow.length : Int) > 1000 := by omega
  simp only [g1, g2, g3, h1, h2, h3, decide_false, Bool.false_eq_true, if_false, false_or]
  cases h4 : withinM (payI p) 8 with
  | false => simp
  | true =>
    by_cases h5 : (encI (payI p)).length > 16384
    · simp [h5]
    · simp [h5]
theorem pay_lens {p : S_api_Payment} (h : withinM (payI p) 8 = true) : p.Spends.length ≤ 1000 ∧ p.Chains.length ≤ 1000 ∧ p.Escrow.length ≤ 1000 := by
  have hs := within_of_list h (by omega)
  have a := within_len (hs (listI (p.Spends.map spendI)) (by simp))
  have b := within_len (hs (listI (p.Chains.map chainI)) (by simp))
  have c := within_len (hs (listI (p.Escrow.map escrowI)) (by simp))
  simp at a b c
  exact ⟨a, b, c⟩
theorem pay_fwd {p : S_api_Payment} (hw : withinM (payI p) 8 = true) (ho : okI (payI p)) (hl : (encI (payI p)).length ≤ 16384) : payment_Decode (encI (payI p)) = (normP p, 0) := by
  have e1 : encode_Decode (encI (payI p)) = (payI p, 0) := by
    have hr := rdI_full hw ho
    rcases encode_Decode_eq (encI_isB _ ho) with ⟨i, g1, g2, _⟩ | ⟨_, g2⟩
    · rw [hr] at g2; cases g2; exact g1
    · exact absurd hr (g2 hl _)
  have hs := within_of_list hw (by omega)
  have a := things_fwdS (hs (listI (p.Spends.map spendI)) (by simp))
  have b := things_fwdC (hs (listI (p.Chains.map chainI)) (by simp))
  have c := things_fwdE (hs (listI (p.Escrow.map escrowI)) (by simp))
  unfold payment_Decode
  simp only [letk, e1]
  have k1 : gt (payI p).L 1 = listI (p.Spends.map spendI) := rfl
  have k2 : gt (payI p).L 2 = listI (p.Chains.map chainI) := rfl
  have k3 : gt (payI p).L 3 = listI (p.Escrow.map escrowI) := rfl
  have k0 : gt (payI p).L 0 = intI p.Number := rfl
  have k4 : (payI p).Kind = 3 := rfl
  have k5 : (payI p).L.length = 4 := rfl
  simp only [k0, k1, k2, k3, k4, k5, a, b, c]
  simp [intI, normP]
theorem dec_zero {x : List Int} (h : (payment_Decode x).2 ≠ 0) : (payment_Decode x).1 = z_api_Payment := by
  unfold payment_Decode at h ⊢
  simp only [letk] at h ⊢
  split
  · rfl
  split
  · rfl
  split
  · rfl
  split
  · rfl
  split
  · rfl
  split
  · rfl
  split
  · rfl
  · simp_all
theorem half2 {x : List Int} (hb : isB x) : (if ((payment_Decode x).2 != 0) = true then specieref38_Same (payment_Decode x).1 z_api_Payment else if ((payment_Encode (payment_Decode x).1).2 == 0) = true then bytes_Equal (payment_Encode (payment_Decode x).1).1 x else false) = true := by
  by_cases h : (payment_Decode x).2 = 0
  · obtain ⟨h1, h2⟩ := pay_back hb (q := (payment_Decode x).1) (Prod.ext rfl h)
    obtain ⟨h3, h4, _⟩ := rdI_back 8 x _ _ hb h1
    rw [List.append_nil] at h3
    obtain ⟨l1, l2, l3⟩ := pay_lens h4
    have e : payment_Encode (payment_Decode x).1 = (x, 0) := by
      rw [payment_Encode_eq, if_neg, ← h3]
      rw [← h3, show withinM (payI (payment_Decode x).1) 8 = true from h4]
      simp only [Bool.true_eq_false, false_or]
      omega
    simp only [e]
    simp [h, bytes_Equal]
  · rw [dec_zero h, same_zero]
    simp [h]
theorem specielaw38_PaymentBack_true (p : S_api_Payment) (x : List Int) (hw : wfL [e_api_Payment p, .sl none 1 false (x.map (V.int .u8))]) : specielaw38_PaymentBack p x = true := by
  simp only [wfL] at hw
  have hp := ok_pay hw.1
  have hb : isB x := isB_wf (by have := hw.2.1; simp only [wfV] at this; exact this.2)
  have h2 := half2 hb
  unfold specielaw38_PaymentBack
  simp only [letk, letj, awake_true, h2, Bool.not_true, Bool.false_eq_true, if_false]
  cases specielaw38_great p with
  | true => rfl
  | false =>
    simp only [Bool.false_eq_true, if_false]
    split
    · rfl
    · rw [payment_Encode_eq]
      split
      · rfl
      · rename_i hn
        simp only [not_or, Bool.not_eq_false, Nat.not_lt, gt_iff_lt] at hn
        obtain ⟨_, _, _, h4, h5⟩ := hn
        have hd := pay_fwd h4 hp h5
        simp only [hd, same_pay]
        have : ¬ ((encI (payI p)).length : Int) > 16384 := by omega
        simp [this]
end Go.Proofs.Ytcbdmoihobdjaaa
