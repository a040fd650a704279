import Derived.Test.YtcbdmoihobdjaaaH3
import Derived.Test.YtcbdmoihobdjaaaR1
namespace Go.Proofs.Ytcbdmoihobdjaaa
open Go.RowKit
theorem set_rep {k : Nat} {v : Int} {t : List Int} : (List.replicate (k + 1) (0 : Int) ++ t).set k v = List.replicate k 0 ++ v :: t := by
 rw [List.replicate_succ', List.append_assoc, List.set_append_right _ _ (by simp)]
 simp
theorem rnum_loop {F : (Int × Int × List Int → List Int) → Int × Int × List Int → List Int} {d : Int × Int × List Int → List Int}
  (hF : ∀ ag p, F ag p = if decide (p.2.1 ≥ 0) = true then ag (quoI .u64 p.1 256, p.2.1 - 1, st p.2.2 p.2.1 (convI .u8 (remI .u64 p.1 256))) else p.2.2) :
  ∀ (k fuel : Nat) (n : Int) (t : List Int), 0 ≤ n → n < 18446744073709551616 → k < fuel → iter fuel F d (n, (k : Int) - 1, List.replicate k 0 ++ t) = be k n ++ t
 | 0, fuel, n, t, _, _, hf => by
  obtain ⟨m, rfl⟩ : ∃ m, fuel = m + 1 := ⟨fuel - 1, by omega⟩
  rw [iter, hF]; simp [be]
 | k + 1, fuel, n, t, h0, h1, hf => by
  obtain ⟨m, rfl⟩ : ∃ m, fuel = m + 1 := ⟨fuel - 1, by omega⟩
  rw [iter, hF, if_pos (by simp)]
  have e1 : quoI .u64 n 256 = n / 256 := by
   unfold quoI
   rw [Int.tdiv_eq_ediv_of_nonneg h0]
   exact wrap_u64 (by omega) (by omega)
  have e2 : convI .u8 (remI .u64 n 256) = n % 256 := by
   unfold convI remI
   rw [Int.tmod_eq_emod_of_nonneg h0]
   show (n % 256) % 256 = n % 256
   omega
  have e3 : ((k + 1 : Nat) : Int) - 1 = (k : Int) := by omega
  simp only [e1, e2, e3]
  rw [show st (List.replicate (k + 1) 0 ++ t) (k : Int) (n % 256) = List.replicate k 0 ++ (n % 256) :: t from set_rep]
  rw [rnum_loop hF k m (n / 256) _ (by omega) (by omega) (by omega)]
  simp [be]
theorem rnumber_eq {n size : Int} (h0 : 0 ≤ n ∧ n < 18446744073709551616) (h1 : 0 ≤ size) : specieref07_number n size = be size.toNat n := by
 unfold specieref07_number
 have := rnum_loop (d := fun _ => default) (fun ag p => rfl) size.toNat ((size - 1 + 1).toNat + 1) n [] h0.1 h0.2 (by omega)
 rw [show ((size.toNat : Nat) : Int) = size by omega, List.append_nil, List.append_nil] at this
 exact this
theorem convR_u64 (n : Int) : 0 ≤ convI .u64 n ∧ convI .u64 n < 18446744073709551616 := by
 have := rng_convI .u64 n
 rw [rng_u64] at this
 omega
theorem foldl_enc : ∀ {l : List S_api_Item} {o : List Int}, l.foldl (fun s a => s ++ encI a) o = o ++ encL l
 | [], o => by simp [encL]
 | a :: l, o => by simp only [List.foldl_cons, foldl_enc (l := l), encL, List.append_assoc]
theorem specieref07_Encode_eqM (i : S_api_Item) : specieref07_Encode i = encI i := by
 obtain ⟨k, n, b, l⟩ := i
 unfold specieref07_Encode
 simp only [letk, encI, rnumber_eq (convR_u64 _) (by omega : (0 : Int) ≤ 8), rnumber_eq (convR_u64 _) (by omega : (0 : Int) ≤ 4)]
 have e8 : be (8 : Int).toNat (convI .u64 n) = be 8 n := be_u64_8
 have e4 : be (4 : Int).toNat (convI .u64 (b.length : Int)) = be 4 b.length := be_u64_4
 have e5 : be (4 : Int).toNat (convI .u64 (l.length : Int)) = be 4 l.length := be_u64_4
 simp only [e8, e4, e5]
 split
 ·rfl
 split
 ·simp
 ·have := iter_run (l := l) (d := fun _ => default) (fun x o => .inl (o ++ encI x)) (fun o => o) (F := fun (ag11 : (Int × List Int) → (List Int)) (p11 : Int × List Int) => (if (decide (p11.1 < (l.length : Int))) then ag11 ((p11.1 + 1), (p11.2 ++ encI (gt l p11.1))) else p11.2)) (s := [3] ++ be 4 l.length) (fun ag i s => by simp only [decide_eq_true_eq])
  rw [this, foldE_l, foldl_enc]; simp
theorem specieref07_valid_eqM {i : S_api_Item} {w : Int} (h0 : 0 ≤ w) (h1 : w ≤ 8) : specieref07_valid i w = rvalidM i w := by
 obtain ⟨k, n, b, l⟩ := i
 unfold specieref07_valid
 simp only [letk]
 rw [iter_allL (l := l) (c := fun x => rvalidM x (w + 1)) (X := true) (fun ag p => by simp only [notif])]
 unfold rvalidM
 simp only [withinM, withinL_all]
 have e : (8 : Int) - (w + 1) = 8 - w - 1 := by omega
 simp only [e, Bool.and_true]
 by_cases k1 : k = 1
 ·subst k1; cases b <;> cases l <;> simp <;> omega
 by_cases k2 : k = 2
 ·subst k2; by_cases hn : n = 0 <;> cases l <;> simp [hn] <;> omega
 by_cases k3 : k = 3
 ·subst k3
  by_cases hn : n = 0
  ·cases b with
   | nil =>
    by_cases hl : (l.length : Int) > 1000
    ·have : ¬ l.length ≤ 1000 := by omega
     simp [hn, hl, this]
    ·have hl' : l.length ≤ 1000 := by omega
     by_cases hw : w = 8
     ·subst hw; simp [hn]
     ·have : (0 : Int) < 8 - w := by omega
      have hw8 : w < 8 := by omega
      simp [hn, hl, hl', hw, hw8]
   | cons x b =>
    have : ¬ ((b.length : Int) + 1 = 0) := by omega
    simp [hn, this]
  ·simp [hn]
 ·simp [k1, k2, k3]
theorem value_fold : ∀ {l : List Int}, isB l → ∀ {a : Int} {k : Nat}, 0 ≤ a → a < 256 ^ k → k + l.length ≤ 8 → l.foldl (fun a x => addI .u64 (mulI .u64 256 a) (convI .u64 x)) a = valA a l
 | [], _, a, k, _, _, _ => rfl
 | x :: l, h, a, k, h0, h1, h2 => by
  have hx := h x (by simp)
  simp only [List.length_cons] at h2
  have h3 : (256 : Int) ^ k ≤ 256 ^ 7 := (by decide : ∀ k, k < 8 → (256 : Int) ^ k ≤ 256 ^ 7) k (by omega)
  have h4 : (256 : Int) ^ 7 = 72057594037927936 := by decide
  simp only [List.foldl_cons, valA]
  have e : addI .u64 (mulI .u64 256 a) (convI .u64 x) = 256 * a + x := by
   unfold addI mulI convI
   rw [wrap_u64 (a := 256 * a) (by omega) (by omega), wrap_u64 (a := x) (by omega) (by omega), wrap_u64 (by omega) (by omega)]
  rw [e]
  exact value_fold (k := k + 1) (fun y hy => h y (by simp [hy])) (by omega) (by rw [Int.pow_succ]; omega) (by omega)
theorem value_eq {l : List Int} (h : isB l) (hl : l.length ≤ 8) : specieref07_value l = valA 0 l := by
 unfold specieref07_value
 have := iter_runR (l := l) (d := fun _ => default) (fun x a => .inl (addI .u64 (mulI .u64 256 a) (convI .u64 x))) (fun a => a) (F := fun (ag1 : (Int × Int) → Int) (p1 : Int × Int) => (if (decide (p1.2 < (l.length : Int))) then (ag1 ((addI .u64 (mulI .u64 256 p1.1) (convI .u64 (gt l p1.2))), (p1.2 + 1))) else p1.1)) (s := 0) (fun ag i s => by simp only [decide_eq_true_eq])
 rw [this, foldE_l, value_fold (k := 0) h (by omega) (by decide) (by omega)]
mutual
theorem encI_len : ∀ i : S_api_Item, (encI i).length ≤ 9 * hgt i
 | ⟨k, n, b, l⟩ => by
  have h := encL_len l
  simp only [encI, hgt]
  split
  ·simp only [List.length_cons, be_len]; omega
  split
  ·simp only [List.length_cons, List.length_append, be_len]; omega
  ·simp only [List.length_cons, List.length_append, be_len]; omega
theorem encL_len : ∀ l : List S_api_Item, (encL l).length ≤ 9 * hgtL l
 | [] => by simp [encL]
 | x :: l => by
  have h1 := encI_len x
  have h2 := encL_len l
  simp only [encL, hgtL, List.length_append]; omega
end
theorem enc_after {x : List Int} {i : S_api_Item} (h : x = encI i) : x.length ≤ 9 * hgt i := by rw [h]; exact encI_len i
theorem rnl {x : List Int} {n size : Int} (h : x = specieref07_number (convI .u64 n) size) (h1 : decide (0 ≤ size) = true) : (x.length : Int) = size := by
 have h2 : 0 ≤ size := by simpa using h1
 rw [h, rnumber_eq (convR_u64 _) h2, be_len]; omega
theorem hgtL_drop {l : List S_api_Item} {i : Int} (h : i.toNat < l.length) : hgtL (l.drop i.toNat) = hgt (gt l i) + hgtL (l.drop (i.toNat + 1)) := by
 rw [List.drop_eq_getElem_cons h]
 simp [hgtL, gt, List.getD_eq_getElem?_getD, h]
theorem isB_sl {l : List Int} {i j : Int} (h : isB l) : isB (sl l i j) := fun x hx => h x (List.mem_of_mem_drop (List.mem_of_mem_take hx))
theorem value_fact {l : List Int} {x : Int} (h : x = specieref07_value l) (hb : isB l) : l.length > 4 ∨ (0 ≤ convI .i64 x ∧ convI .i64 x ≤ 4294967295) := by
 by_cases hl : l.length > 4
 ·exact .inl hl
 ·right
  rw [h, value_eq hb (by omega)]
  have h1 := val_bd0 hb
  have h2 : (256 : Int) ^ l.length ≤ 256 ^ 4 := (by decide : ∀ k, k < 5 → (256 : Int) ^ k ≤ 256 ^ 4) l.length (by omega)
  have h3 : (256 : Int) ^ 4 = 4294967296 := by decide
  rw [conv_i64 (by omega) (by omega)]
  omega
theorem rread_isB {b : List Int} {w : Int} {x : S_api_Item × List Int × Int} (h : x = rreadM b w) (hb : isB b) : isB x.2.1 := by
 rw [h]; unfold rreadM
 cases h1 : rdI (8 - w).toNat b with
 | error e => exact fun x hx => by cases hx
 | ok v =>
  obtain ⟨i, r⟩ := v
  have h2 := (rdI_back _ b i r hb h1).1
  intro y hy
  exact hb y (by rw [h2]; exact List.mem_append_right _ hy)
def allSp (p : S_api_Payment) : List S_api_Spend := p.Spends ++ p.Chains.flatMap fun h => h.First :: h.L
theorem foldl_sp : ∀ {l : List S_api_Chain} {o : List S_api_Spend}, l.foldl (fun s h => (s ++ [h.First]) ++ h.L) o = o ++ l.flatMap fun h => h.First :: h.L
 | [], o => by simp
 | a :: l, o => by simp only [List.foldl_cons, foldl_sp (l := l)]; simp
theorem spends_eq (p : S_api_Payment) : payment_spends p = allSp p := by
 unfold payment_spends
 have := iter_run (l := p.Chains) (d := fun _ => default) (fun h o => .inl ((o ++ [h.First]) ++ h.L)) (fun o => o) (F := fun (ag1 : (Int × List S_api_Spend) → (List S_api_Spend)) (p1 : Int × List S_api_Spend) => (if (decide (p1.1 < (p.Chains.length : Int))) then (ag1 ((p1.1 + 1), ((p1.2 ++ ([(gt p.Chains p1.1).First] : List S_api_Spend)) ++ (gt p.Chains p1.1).L))) else p1.2)) (s := [] ++ p.Spends) (fun ag i s => by simp only [decide_eq_true_eq])
 rw [this, foldE_l, foldl_sp]; rfl
theorem all_small {p : S_api_Payment} (h : SmallP p) : (allSp p).length ≤ 190 ∧ ∀ s ∈ allSp p, smallS s := by
 have key : ∀ l : List S_api_Chain, (∀ c ∈ l, smallC c) → (l.flatMap fun h => h.First :: h.L).length ≤ 13 * l.length ∧ ∀ s ∈ l.flatMap (fun h => h.First :: h.L), smallS s := by
  intro l
  induction l with
  | nil => intro _; simp
  | cons a l ih =>
   intro hs
   obtain ⟨h1, h2⟩ := ih (fun c hc => hs c (by simp [hc]))
   obtain ⟨h3, h4, h5⟩ := hs a (by simp)
   refine ⟨by simp only [List.flatMap_cons, List.length_append, List.length_cons]; omega, fun s hm => ?_⟩
   simp only [List.flatMap_cons, List.mem_append, List.mem_cons] at hm
   rcases hm with (rfl | hm) | hm
   ·exact h4
   ·exact h5 s hm
   ·exact h2 s hm
 obtain ⟨h1, h2⟩ := key p.Chains h.c.2
 have h3 := h.s.1
 have h4 := h.c.1
 refine ⟨by simp only [allSp, List.length_append]; omega, fun s hm => ?_⟩
 rcases List.mem_append.1 hm with hm | hm
 ·exact h.s.2 s hm
 ·exact h2 s hm
def smallL (l : List S_api_Spend) : Prop := l.length ≤ 190 ∧ ∀ s ∈ l, smallS s
theorem spends_small {p : S_api_Payment} {x : List S_api_Spend} (h : SmallP p) (hx : x = payment_spends p) : smallL x := by
 rw [hx, spends_eq]; exact all_small h
theorem leaf_le {l : List S_api_Spend} {i : Int} (h : smallL l) (hi : i.toNat < l.length) : (gt l i).Leaves.length ≤ 40 ∧ l.length ≤ 190 := ⟨(h.2 _ (gt_mem hi)).1, h.1⟩
theorem rs_len {x : List S_api_Spend} {h : S_api_Chain} (hx : x = specieref35_Spends h) : x.length = 1 + h.L.length := by rw [hx]; simp [specieref35_Spends]; omega
theorem rd_ne {d : Nat} {b : List Int} (hb : isB b) {e : Int} (h : rdI d b = .error e) : e ≠ 0 := by
 have := itemN_rd d b hb
 rw [h] at this
 simp only [outR] at this
 intro he
 subst he
 simp_all
def rdOut (l : List S_api_Item) : Except Int (List S_api_Item × List Int) → S_api_Item × List Int × Int
 | .ok (m, r) => (⟨3, 0, [], l ++ m⟩, r, 0)
 | .error e => (z_api_Item, [], e)
theorem rread_loop {d : Nat} {w n : Int} (hd : (8 - (w + 1)).toNat = d) {F : (List Int × Int × S_api_Item × List S_api_Item → S_api_Item × List Int × Int) → List Int × Int × S_api_Item × List S_api_Item → S_api_Item × List Int × Int} {df : List Int × Int × S_api_Item × List S_api_Item → S_api_Item × List Int × Int}
  (hF : ∀ ag p, F ag p = if decide (p.2.1 < n) = true then (if ((rreadM p.1 (w + 1)).2.2 != 0) = true then (z_api_Item, [], (rreadM p.1 (w + 1)).2.2) else ag ((rreadM p.1 (w + 1)).2.1, p.2.1 + 1, p.2.2.1, p.2.2.2 ++ [(rreadM p.1 (w + 1)).1])) else (⟨3, 0, [], p.2.2.2⟩, p.1, 0)) :
  ∀ (m fuel : Nat) (i : Int) (b : List Int) (q : S_api_Item) (l : List S_api_Item), isB b → n - i = m → m < fuel → iter fuel F df (b, i, q, l) = rdOut l (rdL (rdI d) m b)
 | 0, fuel, i, b, q, l, hb, hm, hf => by
  obtain ⟨f, rfl⟩ : ∃ f, fuel = f + 1 := ⟨fuel - 1, by omega⟩
  have : ¬ i < n := by omega
  rw [iter, hF]; simp [this, rdL, rdOut]
 | m + 1, fuel, i, b, q, l, hb, hm, hf => by
  obtain ⟨f, rfl⟩ : ∃ f, fuel = f + 1 := ⟨fuel - 1, by omega⟩
  have hi : i < n := by omega
  rw [iter, hF]
  simp only [hi, decide_true, if_true]
  unfold rreadM
  rw [hd]
  simp only [rdL]
  cases hr : rdI d b with
  | error e => have := rd_ne hb hr; simp [this, rdOut]
  | ok v =>
   obtain ⟨x, r⟩ := v
   have hbr : isB r := fun y hy => hb y (by rw [(rdI_back d b x r hb hr).1]; exact List.mem_append_right _ hy)
   simp only [bne_self_eq_false, Bool.false_eq_true, if_false]
   rw [rread_loop hd hF m f (i + 1) r q (l ++ [x]) hbr (by omega) (by omega)]
   cases rdL (rdI d) m r with
   | error e => rfl
   | ok v => obtain ⟨l2, r2⟩ := v; simp [rdOut]
theorem rreadM_eq {b : List Int} {w : Int} : rreadM b w = match rdG (if 8 ≤ w then none else some (rdI (8 - (w + 1)).toNat)) b with
  | .ok (i, r) => (i, r, 0)
  | .error e => (z_api_Item, [], e) := by
 unfold rreadM
 by_cases h : 8 ≤ w
 ·rw [if_pos h, show (8 - w).toNat = 0 by omega]; rfl
 ·rw [if_neg h, show (8 - w).toNat = (8 - (w + 1)).toNat + 1 by omega]; rfl
theorem specieref07_read_eqM {b : List Int} {w : Int} (h0 : 0 ≤ w) (h1 : w ≤ 8) (hb : isB b) : specieref07_read b w = rreadM b w := by
 rw [rreadM_eq]
 cases b with
 | nil => simp [specieref07_read, rdG]
 | cons k r =>
  have hk := hb k (by simp)
  have hr : isB r := fun y hy => hb y (by simp [hy])
  have e1 : convI .i64 (gt (k :: r) 0) = k := by
   show convI .i64 k = k
   exact conv_i64 (by omega) (by omega)
  have e2 : sl (k :: r) 1 ((k :: r).length : Int) = r := by simp [sl]
  have e3 : sl r 0 4 = r.take 4 := by simp [sl]
  have e4 : sl r 4 (r.length : Int) = r.drop 4 := by simp [sl]; exact List.take_of_length_le (by simp)
  have e5 : sl r 0 8 = r.take 8 := by simp [sl]
  have e6 : sl r 8 (r.length : Int) = r.drop 8 := by simp [sl]; exact List.take_of_length_le (by simp)
  have e7 : ∀ v : Int, sl (r.drop 4) v ((r.drop 4).length : Int) = (r.drop 4).drop v.toNat := fun v => by unfold sl; exact List.take_of_length_le (by simp; omega)
  have e8 : ∀ v : Int, sl (r.drop 4) 0 v = (r.drop 4).take v.toNat := fun v => by simp [sl]
  have e0 : ¬ (((k :: r).length : Int) = 0) := by simp; omega
  have v4 : specieref07_value (r.take 4) = valA 0 (r.take 4) := value_eq (isB_take hr 4) (by simp; omega)
  have v8 : specieref07_value (r.take 8) = valA 0 (r.take 8) := value_eq (isB_take hr 8) (by simp; omega)
  unfold specieref07_read
  simp only [letk, letj, e1, e2, e3, e4, e5, e6, e7, e8, v4, v8]
  rw [if_neg (by simpa using e0)]
  by_cases k1 : k = 1
  ·subst k1
   by_cases hl : r.length < 8
   ·have : (r.length : Int) < 8 := by omega
    simp [rdG, hl, this]
   ·have g1 : ¬ (r.length : Int) < 8 := by omega
    have g2 : ¬ (r.length : Int) < 4 := by omega
    simp [rdG, hl, g1, g2, conv_take8 hr (by omega)]
  by_cases k2 : k = 2
  ·subst k2
   by_cases hl : r.length < 4
   ·have : (r.length : Int) < 4 := by omega
    simp [rdG, hl, this]
   ·have g2 : ¬ (r.length : Int) < 4 := by omega
    have c4 := conv_take4 hr (by omega)
    have b4 := val_bd0 (isB_take hr 4)
    simp only [rdG, hl, g2, c4]
    by_cases h5 : ((r.length - 4 : Nat) : Int) < valA 0 (r.take 4)
    ·simp [h5]
    ·simp [h5]
  by_cases k3 : k = 3
  ·subst k3
   by_cases hw : w = 8
   ·subst hw; simp [rdG]
   ·have hw' : ¬ 8 ≤ w := by omega
    by_cases hl : r.length < 4
    ·have : (r.length : Int) < 4 := by omega
     simp [rdG, hl, this, hw, hw']
    ·have g2 : ¬ (r.length : Int) < 4 := by omega
     have c4 := conv_take4 hr (by omega)
     have b4 := val_bd0 (isB_take hr 4)
     simp only [rdG, hl, g2, c4, hw, hw', if_false]
     by_cases h6 : valA 0 (r.take 4) > 1000
     ·simp [h6, hw]
     ·have hl2 := rread_loop (df := fun _ => default) (w := w) (n := valA 0 (r.take 4)) rfl (fun ag p => rfl) (valA 0 (r.take 4)).toNat ((valA 0 (r.take 4) - 0).toNat + 1) 0 (r.drop 4) z_api_Item [] (isB_drop hr 4) (by omega) (by omega)
      simp [h6, hw]
      simp at hl2
      rw [hl2]
      cases rdL (rdI (8 - (w + 1)).toNat) (valA 0 (r.take 4)).toNat (r.drop 4) with
      | error e => rfl
      | ok v => rfl
  ·have j1 : k < 1 ∨ k > 3 := by omega
   rcases j1 with j1 | j1
   ·simp [rdG, k1, k2, k3, j1]
   ·have : ¬ k < 1 := by omega
    simp [rdG, k1, k2, k3, j1]
end Go.Proofs.Ytcbdmoihobdjaaa
