import Derived.Test.YtcbdmoihobdjaaaH2
namespace Go.Proofs.Ytcbdmoihobdjaaa
open Go.RowKit
theorem hgt_list {l : List S_api_Item} : hgt (listI l) = 1 + hgtL l := by simp [listI, hgt]
theorem hgt_ints {l : List Int} : hgt (intsI l) = 1 + l.length := by
 have : ∀ l : List Int, hgtL (l.map intI) = l.length := by
  intro l
  induction l with
  | nil => rfl
  | cons a l ih => simp [hgtL, ih, intI, hgt]; omega
 simp [intsI, hgt, this]
theorem hgt_byt {b : List Int} : hgt (bytI b) = 1 + b.length := by simp [bytI, hgt, hgtL]
theorem hgt_int1 {n : Int} : hgt (intI n) = 1 := rfl
theorem hgtL_map {α : Type} {f : α → S_api_Item} {B : Nat} : ∀ {l : List α}, (∀ x ∈ l, hgt (f x) ≤ B) → hgtL (l.map f) ≤ l.length * B
 | [], _ => by simp [hgtL]
 | a :: l, h => by
  have h1 := h a (by simp)
  have h2 := hgtL_map (l := l) (fun x hx => h x (by simp [hx]))
  simp only [List.map_cons, hgtL, List.length_cons, Nat.add_mul, Nat.one_mul]; omega
theorem leavesF_len {l : List S_api_Leaf} : (leavesF l).length = 3 * l.length := by
 unfold leavesF
 induction l with
 | nil => rfl
 | cons a l ih => rw [List.flatMap_cons, List.length_append, ih]; simp; omega
theorem hgt_paths : ∀ {l : List (List Int)}, hgtL (l.map fun h => bytI (arrN 32 h)) = 33 * l.length
 | [] => rfl
 | a :: l => by simp only [List.map_cons, hgtL, hgt_paths (l := l), hgt_byt, arrN_len, List.length_cons]; omega
theorem hgt_spend (s : S_api_Spend) : hgt (spendI s) = 88 + 3 * s.Leaves.length + 33 * s.Path.L.length := by
 simp only [spendI, coinI, hgt_list, hgtL, hgt_ints, hgt_byt, hgt_int1, arrN_len, leavesF_len, hgt_paths, List.length_cons, List.length_nil]
 omega
theorem long_eq (s : S_api_Spend) : specielaw38_long s = (decide (s.Leaves.length > 40) || decide (s.Path.L.length > 20)) := by
 unfold specielaw38_long
 by_cases h : s.Leaves.length > 40
 ·have : (s.Leaves.length : Int) > 40 := by omega
  simp [h, this]
 ·have : ¬ (s.Leaves.length : Int) > 40 := by omega
  have e : decide ((s.Path.L.length : Int) > 20) = decide (s.Path.L.length > 20) := by
   rw [decide_eq_decide]; omega
  simp [h, this, e]
def smallS (s : S_api_Spend) : Prop := s.Leaves.length ≤ 40 ∧ s.Path.L.length ≤ 20
theorem long_small {s : S_api_Spend} (h : specielaw38_long s = false) : smallS s := by
 rw [long_eq] at h
 simp at h
 exact ⟨h.1, h.2⟩
theorem anyS (l : List S_api_Spend) : slices_ContainsFunc_api_Spend_api_Spend_at_specielaw38_long l = l.any specielaw38_long := by
 unfold slices_ContainsFunc_api_Spend_api_Spend_at_specielaw38_long slices_IndexFunc_api_Spend_api_Spend_at_specielaw38_long
 exact iter_any (fun ag p => rfl)
theorem anyC (l : List S_api_Chain) : slices_ContainsFunc_api_Chain_api_Chain_at_specielaw38_great_1 l = l.any specielaw38_great_1 := by
 unfold slices_ContainsFunc_api_Chain_api_Chain_at_specielaw38_great_1 slices_IndexFunc_api_Chain_api_Chain_at_specielaw38_great_1
 exact iter_any (fun ag p => rfl)
theorem anyE (l : List S_api_Escrow) : slices_ContainsFunc_api_Escrow_api_Escrow_at_specielaw38_great_2 l = l.any specielaw38_great_2 := by
 unfold slices_ContainsFunc_api_Escrow_api_Escrow_at_specielaw38_great_2 slices_IndexFunc_api_Escrow_api_Escrow_at_specielaw38_great_2
 exact iter_any (fun ag p => rfl)
def smallC (h : S_api_Chain) : Prop := h.L.length ≤ 12 ∧ smallS h.First ∧ ∀ x ∈ h.L, smallS x
theorem great1_small {h : S_api_Chain} (e : specielaw38_great_1 h = false) : smallC h := by
 unfold specielaw38_great_1 at e
 simp only [letk, anyS] at e
 by_cases h1 : (h.L.length : Int) > 12
 ·simp [h1] at e
 ·simp only [h1, decide_false, Bool.false_eq_true, if_false] at e
  cases h2 : specielaw38_long h.First with
  | true => simp [h2] at e
  | false =>
   simp only [h2, Bool.false_eq_true, if_false] at e
   refine ⟨by omega, long_small h2, fun x hx => long_small ?_⟩
   have := List.any_eq_false.1 e x hx
   simpa using this
def smallE (x : S_api_Escrow) : Prop := x.Proof.A.length ≤ 30 ∧ x.Proof.Z.length ≤ 30
theorem great2_small {x : S_api_Escrow} (e : specielaw38_great_2 x = false) : smallE x := by
 unfold specielaw38_great_2 at e
 by_cases h1 : (x.Proof.A.length : Int) > 30
 ·simp [h1] at e
 ·simp [h1] at e
  exact ⟨by omega, by omega⟩
structure SmallP (p : S_api_Payment) : Prop where
 s : p.Spends.length ≤ 60 ∧ ∀ x ∈ p.Spends, smallS x
 c : p.Chains.length ≤ 10 ∧ ∀ x ∈ p.Chains, smallC x
 e : p.Escrow.length ≤ 60 ∧ ∀ x ∈ p.Escrow, smallE x
theorem great_small {p : S_api_Payment} (e : specielaw38_great p = false) : SmallP p := by
 unfold specielaw38_great at e
 simp only [letk, anyS, anyC, anyE] at e
 by_cases h1 : (p.Spends.length : Int) > 60
 ·simp [h1] at e
 by_cases h2 : (p.Chains.length : Int) > 10
 ·simp [h1, h2] at e
 by_cases h3 : (p.Escrow.length : Int) > 60
 ·simp [h1, h2, h3] at e
 simp only [h1, h2, h3, decide_false, Bool.false_eq_true, if_false] at e
 cases h4 : p.Spends.any specielaw38_long with
 | true => simp [h4] at e
 | false =>
  cases h5 : p.Chains.any specielaw38_great_1 with
  | true => simp [h4, h5] at e
  | false =>
   simp only [h4, h5, Bool.false_eq_true, if_false] at e
   refine ⟨⟨by omega, fun x hx => long_small (by simpa using List.any_eq_false.1 h4 x hx)⟩, ⟨by omega, fun x hx => great1_small (by simpa using List.any_eq_false.1 h5 x hx)⟩, ⟨by omega, fun x hx => great2_small (by simpa using List.any_eq_false.1 e x hx)⟩⟩
theorem hgt_small {s : S_api_Spend} (h : smallS s) : hgt (spendI s) ≤ 1000 := by
 rw [hgt_spend]; have := h.1; have := h.2; omega
theorem hgt_chain {c : S_api_Chain} (h : smallC c) : hgt (chainI c) ≤ 14000 := by
 have h1 := hgt_small h.2.1
 have h2 := hgtL_map (f := spendI) (B := 1000) (l := c.L) (fun x hx => hgt_small (h.2.2 x hx))
 have h3 := h.1
 have h4 : c.L.length * 1000 ≤ 12 * 1000 := Nat.mul_le_mul_right _ h3
 simp only [chainI, hgt_list, hgtL]; omega
theorem hgt_escrow {x : S_api_Escrow} (h : smallE x) : hgt (escrowI x) ≤ 1000 := by
 have := h.1; have := h.2
 simp only [escrowI, hgt_list, hgtL, hgt_ints, hgt_int1, List.length_cons, List.length_nil]; omega
theorem hgt_pay {p : S_api_Payment} (h : SmallP p) : hgt (payI p) ≤ 500000000 := by
 have h1 := hgtL_map (f := spendI) (B := 1000) (l := p.Spends) (fun x hx => hgt_small (h.s.2 x hx))
 have h2 := hgtL_map (f := chainI) (B := 14000) (l := p.Chains) (fun x hx => hgt_chain (h.c.2 x hx))
 have h3 := hgtL_map (f := escrowI) (B := 1000) (l := p.Escrow) (fun x hx => hgt_escrow (h.e.2 x hx))
 have g1 := Nat.mul_le_mul_right 1000 h.s.1
 have g2 := Nat.mul_le_mul_right 14000 h.c.1
 have g3 := Nat.mul_le_mul_right 1000 h.e.1
 simp only [payI, hgt_list, hgtL, hgt_int1]; omega
theorem small_ok {s : S_api_Spend} (h : smallS s) : okSp s := ⟨by have := h.1; omega, by have := h.2; omega⟩
def okPay (p : S_api_Payment) : Prop := (∀ x ∈ p.Spends, okSp x) ∧ (∀ x ∈ p.Chains, (okSp x.First ∧ ∀ y ∈ x.L, okSp y)) ∧ hgt (payItem p) ≤ 500000000
def okChains (p : S_api_Payment) : Prop := ∀ x ∈ p.Chains, x.L.length ≤ 1073741823
theorem great_ok {p : S_api_Payment} (h : false = specielaw38_great p) : okPay p := by
 have hs := great_small h.symm
 exact ⟨fun x hx => small_ok (hs.s.2 x hx), fun x hx => ⟨small_ok (hs.c.2 x hx).2.1, fun y hy => small_ok ((hs.c.2 x hx).2.2 y hy)⟩, by rw [payItem_eq]; exact hgt_pay hs⟩
theorem pay_back {b : List Int} (hb : isB b) {q : S_api_Payment} (hx : payment_Decode b = (q, 0)) : rdI 8 b = .ok (payI q, []) ∧ b.length ≤ 16384 := by
 unfold payment_Decode at hx
 obtain ⟨x1, e1, hx⟩ := letk_opn hx
 obtain ⟨h1, hx⟩ := ifz hx (by simp)
 obtain ⟨h2, hx⟩ := ifz hx (by simp)
 obtain ⟨h3, hx⟩ := ifz hx (by simp)
 obtain ⟨h4, hx⟩ := ifz hx (by simp)
 obtain ⟨x10, e10, hx⟩ := letk_opn hx
 obtain ⟨x14, e14, hx⟩ := letk_opn hx
 obtain ⟨x18, e18, hx⟩ := letk_opn hx
 obtain ⟨h5, hx⟩ := ifz hx (by simp)
 obtain ⟨h6, hx⟩ := ifz hx (by simp)
 obtain ⟨h7, hx⟩ := ifz hx (by simp)
 simp at h1 h2 h3 h4 h5 h6 h7
 rcases encode_Decode_eq hb with ⟨i, g1, g2, g3⟩ | ⟨g1, _⟩
 ·rw [g1] at e1
  subst e1
  simp only at h2 h3 h4 e10 e14 e18 hx
  have hv := (rdI_back 8 b i [] hb g2).2.1
  have ei := within_kind3 hv h2
  have hsub := fun x hx => within_of_list (ei ▸ hv) (by omega) x hx
  have e4 := list4 (l := i.L) (by omega)
  have c0 := within_kind1 (hsub _ (gt_mem (l := i.L) (i := 0) (by omega))) h4
  have c1 := things_backS (l := x10.1) (hsub _ (gt_mem (l := i.L) (i := 1) (by omega))) (e10.symm.trans (Prod.ext rfl h5))
  have c2 := things_backC (l := x14.1) (hsub _ (gt_mem (l := i.L) (i := 2) (by omega))) (e14.symm.trans (Prod.ext rfl h6))
  have c3 := things_backE (l := x18.1) (hsub _ (gt_mem (l := i.L) (i := 3) (by omega))) (e18.symm.trans (Prod.ext rfl h7))
  have hq := congrArg Prod.fst hx
  simp only at hq
  refine ⟨?_, g3⟩
  rw [g2, ← hq]
  have : payI ⟨(gt i.L 0).N, x10.1, x14.1, x18.1⟩ = i := by
   unfold payI
   simp only
   rw [← c0, ← c1, ← c2, ← c3, ← e4]; exact ei.symm
  rw [this]
 ·rw [e1] at h1; exact absurd h1 g1
theorem hgtL_mem {x : S_api_Item} {l : List S_api_Item} (h : x ∈ l) : hgt x ≤ hgtL l := hgt_mem h
theorem pay_bound {b : List Int} (hb : isB b) {q : S_api_Payment} (hx : payment_Decode b = (q, 0)) : hgt (payI q) ≤ 16384 ∧ withinM (payI q) 8 = true := by
 obtain ⟨h1, h2⟩ := pay_back hb hx
 obtain ⟨h3, h4, _⟩ := rdI_back 8 b _ _ hb h1
 have := hgt_enc (payI q) h4
 simp at h3
 rw [← h3] at this
 exact ⟨by omega, h4⟩
theorem hgtL_len : ∀ {l : List S_api_Item}, l.length ≤ hgtL l
 | [] => by simp
 | x :: l => by
  have h1 := hgtL_len (l := l)
  have h2 := hgt_eq x
  simp only [List.length_cons, hgtL]; omega
theorem dec_chains {b : List Int} (hb : isB b) {x : S_api_Payment × Int} (hx : x = payment_Decode b) : okChains x.1 := by
 intro c hc
 by_cases h : x.2 = 0
 ·obtain ⟨h1, h2⟩ := pay_bound hb (q := x.1) (hx.symm.trans (Prod.ext rfl h))
  simp only [payI, hgt_list, hgtL, hgt_int1] at h1
  have g1 := hgtL_mem (List.mem_map.2 ⟨c, hc, rfl⟩ : chainI c ∈ x.1.Chains.map chainI)
  simp only [chainI, hgt_list, hgtL] at g1
  have g2 := hgtL_len (l := c.L.map spendI)
  simp at g2; omega
 ·exfalso
  have hz : x.1 = z_api_Payment := by
   rw [hx] at h ⊢
   unfold payment_Decode at h ⊢
   simp only [letk] at h ⊢
   split
   ·rfl
   split
   ·rfl
   split
   ·rfl
   split
   ·rfl
   split
   ·rfl
   split
   ·rfl
   split
   ·rfl
   ·simp_all
  rw [hz] at hc
  cases hc
theorem Valid_sub {i : S_api_Item} {x : Bool} (h : x = encode_Valid i) : x = false ∨ ∀ y ∈ i.L, y.L.length ≤ 1000 := by
 cases x with
 | false => exact .inl rfl
 | true =>
  right
  rw [valid_eq] at h
  intro y hy
  have hw : withinM i 8 = true := h.symm
  have hk : i.Kind = 3 := by
   obtain ⟨k, n, b, l⟩ := i
   simp only [withinM] at hw
   by_cases e1 : k = 1
   ·subst e1; simp at hw; obtain ⟨_, rfl⟩ := hw; cases hy
   by_cases e2 : k = 2
   ·subst e2; simp at hw; obtain ⟨_, rfl⟩ := hw; cases hy
   by_cases e3 : k = 3
   ·exact e3
   ·simp [e1, e2, e3] at hw
  have ei := within_kind3 hw hk
  have hy8 := within_of_list (ei ▸ hw) (by omega) y hy
  obtain ⟨k, n, b, l⟩ := y
  simp only [withinM] at hy8
  by_cases e1 : k = 1
  ·subst e1; simp at hy8; obtain ⟨_, rfl⟩ := hy8; simp
  by_cases e2 : k = 2
  ·subst e2; simp at hy8; obtain ⟨_, rfl⟩ := hy8; simp
  by_cases e3 : k = 3
  ·subst e3; simp at hy8; exact hy8.2.2.1
  ·simp [e1, e2, e3] at hy8
theorem sub_gt {x : Bool} {l : List S_api_Item} {j : Int} (h : x = false ∨ ∀ y ∈ l, y.L.length ≤ 1000) (hx : x = true) (hj : j.toNat < l.length) : (gt l j).L.length ≤ 1000 := by
 rcases h with h | h
 ·rw [hx] at h; cases h
 ·exact h _ (gt_mem hj)
end Go.Proofs.Ytcbdmoihobdjaaa
