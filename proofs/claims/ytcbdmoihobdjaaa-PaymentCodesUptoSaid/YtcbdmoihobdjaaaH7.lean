import Derived.Test.YtcbdmoihobdjaaaH6
namespace Go.Proofs.Ytcbdmoihobdjaaa
open Go.RowKit
theorem readL_len {α : Type} {f : S_api_Item → Option α} : ∀ {l : List S_api_Item} {m : List α}, readL f l = some m → m.length = l.length
  | [], m, h => by cases h; rfl
  | x :: l, m, h => by
    simp only [readL] at h
    cases hx : f x with
    | none => rw [hx] at h; cases h
    | some a =>
      rw [hx] at h
      cases hl : readL f l with
      | none => rw [hl] at h; cases h
      | some m' =>
        rw [hl] at h; cases h
        simp [readL_len hl]
theorem readL_congr {α : Type} {f g : S_api_Item → Option α} : ∀ {l : List S_api_Item}, (∀ x ∈ l, f x = g x) → readL f l = readL g l
  | [], _ => rfl
  | x :: l, h => by simp only [readL, h x (by simp), readL_congr (l := l) (fun y hy => h y (by simp [hy]))]
theorem rNum {i : S_api_Item} (n : Int) (hv : withinM i 8 = true) : specieref31_Numbers i n = if (encode_Numbers i).2 = 0 ∧ ((encode_Numbers i).1.length : Int) = n then ((encode_Numbers i).1, true) else ([], false) := by
  have hs : (fun (x : S_api_Item) (o : List Int) => if x.Kind ≠ 1 then Sum.inr (([] : List Int), false) else Sum.inl (o ++ [x.N])) = (fun a s => optE (.inr (([] : List Int), false)) (fun y => .inl (s ++ [y])) (intF a)) := by
    funext a s
    unfold intF
    by_cases h : a.Kind = 1 <;> simp [h, optE]
  rw [rNumbers_eq, Numbers_eq, hv, hs, foldE_read]
  by_cases h1 : i.Kind = 3
  · cases hr : readL intF i.L with
    | none => simp [h1, optE]
    | some m =>
      have := readL_len hr
      simp only [h1, optE, List.nil_append]
      by_cases h2 : (i.L.length : Int) = n
      · simp [h2, this]
      · simp [h2, this]
  · simp [h1]
theorem sub_valid {i : S_api_Item} (hv : withinM i 8 = true) (h1 : i.Kind = 3) {j : Int} (hj : j.toNat < i.L.length) : withinM (gt i.L j) 8 = true := by
  have ei := within_kind3 hv h1
  exact within_mono _ (by omega) ((within_list (ei ▸ hv)).2 _ (gt_mem hj))
theorem rCoin {i : S_api_Item} (hv : withinM i 8 = true) : specieref31_FromItem i = ((coin_FromItem i).1, decide ((coin_FromItem i).2 = 0)) := by
  unfold specieref31_FromItem coin_FromItem
  simp only [letk, valid_eq, hv, rHash_eq, spend_hash_eq]
  by_cases h1 : i.Kind = 3
  · by_cases h2 : (i.L.length : Int) = 3
    · have v0 := sub_valid hv h1 (j := 0) (by omega)
      have v2 := sub_valid hv h1 (j := 2) (by omega)
      rw [rNum 5 v0, rNum 4 v2]
      generalize encode_Numbers (gt i.L 0) = P
      generalize encode_Numbers (gt i.L 2) = Q
      obtain ⟨p, e⟩ := P
      obtain ⟨q, f⟩ := Q
      by_cases a1 : e = 0
      · by_cases a2 : (p.length : Int) = 5
        · by_cases a3 : (gt i.L 1).Kind = 2
          · by_cases a4 : (gt i.L 1).B.length = 32
            · by_cases a5 : f = 0
              · by_cases a6 : (q.length : Int) = 4
                · simp [h1, h2, a1, a2, a3, a4, a5, a6]
                · simp [h1, h2, a1, a2, a3, a4, a5, a6]
              · simp [h1, h2, a1, a2, a3, a4, a5]
            · have : ¬ ((gt i.L 1).B.length : Int) = 32 := by omega
              by_cases a5 : f = 0 <;> by_cases a6 : (q.length : Int) = 4 <;> simp [h1, h2, a1, a2, a3, a4, a5, a6, this]
          · by_cases a5 : f = 0 <;> by_cases a6 : (q.length : Int) = 4 <;> simp [h1, h2, a1, a2, a3, a5, a6]
        · by_cases a5 : f = 0 <;> simp [h1, h2, a1, a2, a5]
      · simp [h1, h2, a1]
    · simp [h1, h2]
  · simp [h1]
theorem rPairN {i : S_api_Item} (hv : withinM i 8 = true) : spend_pair i = (gt (specieref31_Numbers i 2).1 0, gt (specieref31_Numbers i 2).1 1, (specieref31_Numbers i 2).2) := by
  rw [rNum 2 hv]
  unfold spend_pair
  simp only [letk]
  generalize encode_Numbers i = P
  obtain ⟨p, e⟩ := P
  by_cases a1 : e = 0
  · by_cases a2 : (p.length : Int) = 2
    · simp [a1, a2]
    · simp [a1, a2]; exact ⟨rfl, rfl⟩
  · simp [a1]; exact ⟨rfl, rfl⟩
theorem path_loopR {L : List S_api_Item} (hL : 1 ≤ L.length) {q : S_api_Spend} {E : S_api_Spend × List (List Int) → S_api_Spend × Bool} {F : (Int × S_api_Spend × List (List Int) → S_api_Spend × Bool) → Int × S_api_Spend × List (List Int) → S_api_Spend × Bool} {d : Int × S_api_Spend × List (List Int) → S_api_Spend × Bool}
    (hF : ∀ ag p, F ag p = if decide (p.1 < (L.length : Int)) = true then (if (!(spend_hash (gt L p.1)).2) = true then (z_api_Spend, false) else ag (p.1 + 1, p.2.1, p.2.2 ++ [(spend_hash (gt L p.1)).1])) else E p.2) :
    iter (((L.length : Int) - 1).toNat + 1) F d (1, q, []) = optE (z_api_Spend, false) (fun m => E (q, m)) (readL hashF (L.drop 1)) := by
  have := iter_run_aux (l := L) (d := d) (F := F) (E := E) (st := fun a (s : S_api_Spend × List (List Int)) => optE (.inr (z_api_Spend, false)) (fun y => .inl (s.1, s.2 ++ [y])) (hashF a)) (fun ag j s => by
      rw [hF]
      by_cases h : j < (L.length : Int)
      · cases h2 : (spend_hash (gt L j)).2 <;> simp [h, h2, hashF, optE]
      · simp [h]) (((L.length : Int) - 1).toNat + 1) 1 (q, []) hL (by omega)
  refine Eq.trans this (foldE_read2.trans ?_)
  simp
theorem fin_pair {α β : Type} {A : α × Bool} {B : α × Int} {o : Option β} {z : α} {g : β → α} (hA : A = optE (z, false) (fun m => (g m, true)) o) (hB : B = optE (z, (3 : Int)) (fun m => (g m, (0 : Int))) o) : A = (B.1, decide (B.2 = 0)) := by
  rw [hA, hB]
  cases o <;> simp [optE]
theorem Numbers_none {i : S_api_Item} (h : i.Kind ≠ 3) : (encode_Numbers i).2 ≠ 0 := by
  rw [Numbers_eq]
  split
  · simp
  · simp [h]
theorem rSpend {i : S_api_Item} (hv : withinM i 8 = true) : specieref32_FromItem i = ((spend_FromItem i).1, decide ((spend_FromItem i).2 = 0)) := by
  by_cases h1 : i.Kind = 3
  rotate_left
  · unfold specieref32_FromItem spend_FromItem
    simp [letk, valid_eq, hv, h1]
  by_cases h2 : (i.L.length : Int) = 6
  rotate_left
  · unfold specieref32_FromItem spend_FromItem
    simp [letk, valid_eq, hv, h1, h2]
  have v0 := sub_valid hv h1 (j := 0) (by omega)
  have v1 := sub_valid hv h1 (j := 1) (by omega)
  have v3 := sub_valid hv h1 (j := 3) (by omega)
  have v4 := sub_valid hv h1 (j := 4) (by omega)
  unfold specieref32_FromItem spend_FromItem
  simp only [letk, valid_eq, hv, rHash_eq, rCoin v0, rPairN v1, rPairN v3, rNum _ v4]
  have k4 := Numbers_none (i := gt i.L 4)
  have l4 := Numbers_len (i := gt i.L 4) rfl
  generalize coin_FromItem (gt i.L 0) = C
  generalize specieref31_Numbers (gt i.L 1) 2 = N1
  generalize spend_hash (gt i.L 2) = H
  generalize specieref31_Numbers (gt i.L 3) 2 = N3
  generalize encode_Numbers (gt i.L 4) = P at k4 l4
  obtain ⟨c, ce⟩ := C
  obtain ⟨n1, b1⟩ := N1
  obtain ⟨h, hb⟩ := H
  obtain ⟨n3, b3⟩ := N3
  obtain ⟨p, e⟩ := P
  simp only at k4 l4
  by_cases a0 : ce = 0
  rotate_left
  · simp [h1, h2, a0]
  cases b1
  · simp [h1, h2, a0]
  cases hb
  · simp [h1, h2, a0]
  cases b3
  · simp [h1, h2, a0]
  by_cases a1 : e = 0
  rotate_left
  · by_cases g1 : (gt i.L 4).Kind = 3 <;> by_cases g2 : remI .i64 ((gt i.L 4).L.length : Int) 3 = 0 <;> simp [h1, h2, a0, a1, g1, g2]
  have g1 : (gt i.L 4).Kind = 3 := Classical.byContradiction fun hk => k4 hk a1
  have g2 : (p.length : Int) = ((gt i.L 4).L.length : Int) := l4.resolve_left (fun hk => hk a1)
  rw [← g2]
  by_cases a2 : remI .i64 (p.length : Int) 3 = 0
  rotate_left
  · simp [h1, h2, a0, a1, g1, a2]
  by_cases a3 : (gt i.L 5).Kind = 3
  rotate_left
  · simp [h1, h2, a0, a1, g1, a2, a3]
  by_cases a4 : (gt i.L 5).L.length = 0
  · simp [h1, h2, a0, a1, g1, a2, a3, a4]
  have a4' : ¬ ((gt i.L 5).L.length : Int) = 0 := by omega
  have a4'' : ¬ ((gt i.L 5).L.length : Int) < 1 := by omega
  by_cases a5 : (gt (gt i.L 5).L 0).Kind = 1
  rotate_left
  · simp [h1, h2, a0, a1, g1, a2, a3, a4', a4'', a5]
  have hm : ∃ m, p.length = 3 * m := ⟨p.length / 3, by rw [remI_nn] at a2; omega⟩
  obtain ⟨m, hm⟩ := hm
  simp only [h1, h2, a0, a1, g1, a2, a3, a4', a4'', a5, sl_tail]
  simp only [bne_self_eq_false, Bool.not_true, Bool.false_eq_true, if_false, decide_true, decide_false, and_self, if_true, beq_iff_eq, a4']
  refine fin_pair (z := z_api_Spend) (o := readL hashF ((gt i.L 5).L.drop 1)) (g := fun mm => ⟨c, ⟨gt n1 0, gt n1 1⟩, ⟨h, gt n3 0, gt n3 1⟩, [] ++ leaves3 (p.drop (3 * 0)), ⟨(gt (gt i.L 5).L 0).N, mm⟩⟩) ?_ ?_
  · refine (leaves_loop (m := m) hm (fun ag q => rfl) _ 0 [] (Nat.zero_le _) (by omega)).trans ?_
    exact path_loopR (by omega) (E := fun s => (⟨c, ⟨gt n1 0, gt n1 1⟩, ⟨h, gt n3 0, gt n3 1⟩, [] ++ leaves3 (p.drop (3 * 0)), ⟨(gt (gt i.L 5).L 0).N, s.2⟩⟩, true)) (fun ag q => rfl)
  · refine (leaves_loop (m := m) hm (fun ag q => rfl) _ 0 [] (Nat.zero_le _) (by omega)).trans ?_
    exact path_loop (t := (gt i.L 5).L.drop 1) (E := fun s => (⟨c, ⟨gt n1 0, gt n1 1⟩, ⟨h, gt n3 0, gt n3 1⟩, [] ++ leaves3 (p.drop (3 * 0)), ⟨(gt (gt i.L 5).L 0).N, s.2⟩⟩, 0))
theorem rEscrow {i : S_api_Item} (hv : withinM i 8 = true) : (specieref36_FromItem i).1 = (escrow_FromItem i).1 ∧ ((specieref36_FromItem i).2 = 0 ↔ (escrow_FromItem i).2 = 0) := by
  have hr : specieref07_Valid i = true := by simp only [specieref07_Valid, letk, rvalidM]; exact hv
  by_cases h1 : i.Kind = 3
  rotate_left
  · unfold specieref36_FromItem escrow_FromItem
    simp [letk, valid_eq, hv, h1, hr]
  by_cases h2 : (i.L.length : Int) = 4
  rotate_left
  · unfold specieref36_FromItem escrow_FromItem
    simp [letk, valid_eq, hv, h1, h2, hr]
  have v0 := sub_valid hv h1 (j := 0) (by omega)
  have v1 := sub_valid hv h1 (j := 1) (by omega)
  have v3 := sub_valid hv h1 (j := 3) (by omega)
  unfold specieref36_FromItem escrow_FromItem
  simp only [letk, valid_eq, hv, hr, rNum _ v0, rNum _ v1, rNum _ v3]
  have k1 := Numbers_none (i := gt i.L 1)
  have l1 := Numbers_len (i := gt i.L 1) rfl
  have k3 := Numbers_none (i := gt i.L 3)
  have l3 := Numbers_len (i := gt i.L 3) rfl
  generalize encode_Numbers (gt i.L 0) = P
  generalize encode_Numbers (gt i.L 1) = Q at k1 l1
  generalize encode_Numbers (gt i.L 3) = R at k3 l3
  obtain ⟨p, e⟩ := P
  obtain ⟨q, f⟩ := Q
  obtain ⟨r, g⟩ := R
  simp only at k1 l1 k3 l3
  by_cases a0 : (gt i.L 2).Kind = 1
  rotate_left
  · simp [h1, h2, a0]
  by_cases a1 : f = 0
  rotate_left
  · by_cases c1 : (gt i.L 1).Kind = 3 <;> by_cases c3 : (gt i.L 3).Kind = 3 <;> by_cases c0 : e = 0 <;> by_cases c2 : (p.length : Int) = 2 <;> simp [h1, h2, a0, a1, c1, c3, c0, c2]
  have g1 : (gt i.L 1).Kind = 3 := Classical.byContradiction fun hk => k1 hk a1
  have g2 : (q.length : Int) = ((gt i.L 1).L.length : Int) := l1.resolve_left (fun hk => hk a1)
  by_cases a3 : g = 0
  rotate_left
  · by_cases c3 : (gt i.L 3).Kind = 3 <;> by_cases c0 : e = 0 <;> by_cases c2 : (p.length : Int) = 2 <;> simp [h1, h2, a0, a1, a3, g1, c3, c0, c2]
  have g3 : (gt i.L 3).Kind = 3 := Classical.byContradiction fun hk => k3 hk a3
  have g4 : (r.length : Int) = ((gt i.L 3).L.length : Int) := l3.resolve_left (fun hk => hk a3)
  rw [← g2, ← g4]
  by_cases c0 : e = 0 <;> by_cases c2 : (p.length : Int) = 2 <;> simp [h1, h2, a0, a1, a3, g1, g3, c0, c2]
theorem kids_valid {i : S_api_Item} (hv : withinM i 8 = true) (h1 : i.Kind = 3) : ∀ x ∈ i.L, withinM x 8 = true := by
  have ei := within_kind3 hv h1
  exact fun x hx => within_mono x (by omega) ((within_list (ei ▸ hv)).2 x hx)
theorem rSpends {i : S_api_Item} (hv : withinM i 8 = true) : specieref38_spends i = payment_things_api_Spend_at_payment_readSpend i := by
  rw [thingsS_eq]
  unfold specieref38_spends
  by_cases hk : i.Kind = 3
  · have e : (i.Kind != 3) = false := by simp [hk]
    simp only [e, hk, letk]
    rw [iter_run (l := i.L) (fun a s => optE (.inr (([] : List S_api_Spend), false)) (fun y => .inl (s ++ [y])) (if (specieref32_FromItem a).2 = true then some (specieref32_FromItem a).1 else none)) (fun s => (s, true)) (fun ag j s => by
      by_cases h : j < (i.L.length : Int)
      · by_cases h2 : (specieref32_FromItem (gt i.L j)).2 = true <;> simp [h, h2, optE]
      · simp [h]), foldE_read]
    rw [readL_congr (g := spF) (fun x hx => by rw [rSpend (kids_valid hv hk x hx)]; unfold spF; simp)]
    simp
  · have : (i.Kind != 3) = true := by simpa using hk
    simp [this, hk]
def chR (x : S_api_Item) : Option S_api_Chain := if x.Kind = 3 ∧ (x.L.length : Int) = 2 ∧ (specieref32_FromItem (gt x.L 0)).2 = true ∧ (specieref38_spends (gt x.L 1)).2 = true then some ⟨(specieref32_FromItem (gt x.L 0)).1, (specieref38_spends (gt x.L 1)).1⟩ else none
theorem readS_eq (i : S_api_Item) : payment_readSpend i = ((spend_FromItem i).1, decide ((spend_FromItem i).2 = 0)) := by
  simp only [payment_readSpend, letk]
  congr 1
theorem chR_eq {x : S_api_Item} (hv : withinM x 8 = true) : chR x = chF x := by
  unfold chR chF payment_readChain
  by_cases h1 : x.Kind = 3
  rotate_left
  · simp [h1]
  by_cases h2 : (x.L.length : Int) = 2
  rotate_left
  · simp [h1, h2]
  have v0 := sub_valid hv h1 (j := 0) (by omega)
  have v1 := sub_valid hv h1 (j := 1) (by omega)
  simp only [letk, readS_eq, rSpend v0, rSpends v1]
  by_cases h3 : (spend_FromItem (gt x.L 0)).2 = 0
  · cases h4 : (payment_things_api_Spend_at_payment_readSpend (gt x.L 1)).2 <;> simp [h1, h2, h3, h4]
  · simp [h1, h2, h3]
theorem rread_at {b : List Int} : rreadM b 0 = match rdI 8 b with | .ok (i, r) => (i, r, 0) | .error e => (z_api_Item, [], e) := rfl
theorem rDecode7 {b : List Int} (hb : isB b) : (∃ i, encode_Decode b = (i, 0) ∧ specieref07_Decode b = (i, 0) ∧ withinM i 8 = true) ∨ ((encode_Decode b).2 ≠ 0 ∧ (specieref07_Decode b).2 ≠ 0) := by
  rcases encode_Decode_eq hb with ⟨i, h1, h2, h3⟩ | ⟨h1, h2⟩
  · left
    refine ⟨i, h1, ?_, (rdI_back 8 b i [] hb h2).2.1⟩
    unfold specieref07_Decode
    rw [if_neg (by simp; omega)]
    simp [letk, rread_at, h2]
  · right
    refine ⟨h1, ?_⟩
    unfold specieref07_Decode
    by_cases hl : b.length ≤ 16384
    · rw [if_neg (by simp; omega)]
      simp only [letk]
      cases hd : rdI 8 b with
      | error e => have := rd_ne hb hd; have hx : rreadM b 0 = (z_api_Item, [], e) := by rw [rread_at, hd]
                   simp [hx, this]
      | ok p =>
        obtain ⟨i, r⟩ := p
        cases r with
        | nil => exact absurd hd (h2 hl i)
        | cons x r => have hx : rreadM b 0 = (i, x :: r, 0) := by rw [rread_at, hd]
                      simp [hx]
    · rw [if_pos (by simp; omega)]
      simp
theorem rDecode {b : List Int} (hb : isB b) : specieref38_Decode b = ((payment_Decode b).1, decide ((payment_Decode b).2 = 0)) := by
  unfold specieref38_Decode payment_Decode
  simp only [letk]
  rcases rDecode7 hb with ⟨i, e1, e2, hv⟩ | ⟨e1, e2⟩
  rotate_left
  · simp [e1, e2]
  rw [e1, e2]
  simp only [bne_self_eq_false, Bool.false_eq_true, if_false]
  by_cases h1 : i.Kind = 3
  rotate_left
  · simp [h1]
  by_cases h2 : (i.L.length : Int) = 4
  rotate_left
  · simp [h1, h2]
  by_cases h3 : (gt i.L 0).Kind = 1
  rotate_left
  · simp [h1, h2, h3]
  have v1 := sub_valid hv h1 (j := 1) (by omega)
  have v2 := sub_valid hv h1 (j := 2) (by omega)
  have v3 := sub_valid hv h1 (j := 3) (by omega)
  rw [rSpends v1, thingsC_eq, thingsE_eq]
  generalize payment_things_api_Spend_at_payment_readSpend (gt i.L 1) = A
  obtain ⟨a, ab⟩ := A
  by_cases h4 : (gt i.L 2).Kind = 3
  rotate_left
  · cases ab <;> simp [h1, h2, h3, h4]
  by_cases h5 : (gt i.L 3).Kind = 3
  rotate_left
  · cases ab <;> cases readL chF (gt i.L 2).L <;> simp [h1, h2, h3, h4, h5, optE]
  cases ab
  · simp [h1, h2, h3, h4, h5]
  simp only [h1, h2, h3, h4, h5, bne_self_eq_false, Bool.false_eq_true, if_false, Bool.not_true, ne_eq, not_true_eq_false]
  have kv := kids_valid v2 h4
  have ke := kids_valid v3 h5
  rw [iter_run (l := (gt i.L 2).L) (fun x (s : S_api_Payment × List S_api_Chain) => optE (.inr (z_api_Payment, false)) (fun y => .inl (s.1, s.2 ++ [y])) (chR x)) (fun s => optE (z_api_Payment, false) (fun m => (⟨(gt i.L 0).N, a, s.2, m⟩, true)) (readL escF (gt i.L 3).L)) (fun ag j s => ?_), foldE_read2]
  · rw [readL_congr (g := chF) (fun x hx => chR_eq (kv x hx))]
    cases readL chF (gt i.L 2).L with
    | none => simp [optE]
    | some m =>
      cases readL escF (gt i.L 3).L <;> simp [optE]
  · have hesc : ∀ (q : S_api_Payment) (ml : List S_api_Chain), iter ((((gt i.L 3).L.length : Int) - 0).toNat + 1) (fun (ag54 : (Int × S_api_Payment × List S_api_Escrow) → (S_api_Payment × Bool)) (p54 : Int × S_api_Payment × List S_api_Escrow) => (if (decide (p54.1 < ((gt i.L 3).L.length : Int))) then (if ((specieref36_FromItem (gt (gt i.L 3).L p54.1)).2 != 0) then (z_api_Payment, false) else (ag54 ((p54.1 + 1), p54.2.1, (p54.2.2 ++ ([(specieref36_FromItem (gt (gt i.L 3).L p54.1)).1] : List S_api_Escrow))))) else (({ Number := (gt i.L 0).N, Spends := a, Chains := ml, Escrow := p54.2.2 } : S_api_Payment), true))) (fun _ => default) (0, q, ([] : List S_api_Escrow)) = optE (z_api_Payment, false) (fun m => (⟨(gt i.L 0).N, a, ml, m⟩, true)) (readL escF (gt i.L 3).L) := by
      intro q ml
      rw [iter_run (l := (gt i.L 3).L) (fun x (s : S_api_Payment × List S_api_Escrow) => optE (.inr (z_api_Payment, false)) (fun y => .inl (s.1, s.2 ++ [y])) (if (specieref36_FromItem x).2 = 0 then some (specieref36_FromItem x).1 else none)) (fun s => (⟨(gt i.L 0).N, a, ml, s.2⟩, true)) (fun ag j s => by
        by_cases h : j < ((gt i.L 3).L.length : Int)
        · by_cases h2 : (specieref36_FromItem (gt (gt i.L 3).L j)).2 = 0 <;> simp [h, h2, optE]
        · simp [h]), foldE_read2, readL_congr (g := escF) (fun x hx => by have := rEscrow (ke x hx); unfold escF; simp only [this.1, this.2])]
      simp
    by_cases h : j < ((gt i.L 2).L.length : Int)
    · by_cases c1 : (gt (gt i.L 2).L j).Kind = 3
      rotate_left
      · simp [h, c1, chR, optE]
      by_cases c2 : ((gt (gt i.L 2).L j).L.length : Int) = 2
      rotate_left
      · simp [h, c1, c2, chR, optE]
      cases c3 : (specieref32_FromItem (gt (gt (gt i.L 2).L j).L 0)).2
      · simp [h, c1, c2, c3, chR, optE]
      cases c4 : (specieref38_spends (gt (gt (gt i.L 2).L j).L 1)).2
      · simp [h, c1, c2, c3, c4, chR, optE]
      · simp [h, c1, c2, c3, c4, chR, optE]
    · simp only [h, decide_false, Bool.false_eq_true, if_false]
      exact hesc _ _
theorem foldl_cat1 {α : Type} : ∀ {l o : List α}, l.foldl (fun s a => s ++ [a]) o = o ++ l
  | [], o => by simp
  | a :: l, o => by rw [List.foldl_cons, foldl_cat1 (l := l)]; simp
theorem run_cat {R : Type} {l : List S_api_Spend} {E : List S_api_Spend → R} {F : (Int × List S_api_Spend → R) → Int × List S_api_Spend → R} {d : Int × List S_api_Spend → R} {o : List S_api_Spend}
    (hF : ∀ ag p, F ag p = if decide (p.1 < (l.length : Int)) = true then ag (p.1 + 1, p.2 ++ [gt l p.1]) else E p.2) : iter (((l.length : Int) - 0).toNat + 1) F d (0, o) = E (o ++ l) := by
  rw [iter_run (l := l) (fun a s => .inl (s ++ [a])) E (fun ag j s => by rw [hF]; by_cases h : j < (l.length : Int) <;> simp [h]), foldE_l, foldl_cat1]
theorem rspendsA_eq (p : S_api_Payment) : specieref38_Spends p = allSp p := by
  unfold specieref38_Spends
  rw [run_cat (l := p.Spends) (E := fun o => iter (((p.Chains.length : Int) - 0).toNat + 1) (fun (ag4 : (Int × List S_api_Spend) → (List S_api_Spend)) (p4 : Int × List S_api_Spend) => (if (decide (p4.1 < (p.Chains.length : Int))) then (letk (specieref35_Spends (gt p.Chains p4.1)) (fun (x7 : (List S_api_Spend)) => (iter (((x7.length : Int) - 0).toNat + 1) (fun (ag11 : (Int × List S_api_Spend) → (List S_api_Spend)) (p11 : Int × List S_api_Spend) => (if (decide (p11.1 < (x7.length : Int))) then (ag11 ((p11.1 + 1), (p11.2 ++ ([(gt x7 p11.1)] : List S_api_Spend)))) else (ag4 ((p4.1 + 1), p11.2)))) (fun _ => default) (0, p4.2)))) else p4.2)) (fun _ => default) (0, o)) (fun ag q => rfl)]
  rw [iter_run (l := p.Chains) (fun h o => .inl ((o ++ [h.First]) ++ h.L)) (fun o => o) (fun ag j s => by
    by_cases h : j < (p.Chains.length : Int)
    · simp only [h, decide_true, if_true, letk]
      rw [run_cat (E := fun o => ag (j + 1, o)) (fun _ _ => rfl)]
      simp [specieref35_Spends]
    · simp [h]), foldE_l, foldl_sp]
  simp [allSp]
theorem rspends_small {p : S_api_Payment} {x : List S_api_Spend} (h : SmallP p) (hx : x = specieref38_Spends p) : smallL x := by
  rw [hx, rspendsA_eq]; exact all_small h
theorem leaves_same (p : S_api_Payment) : specieref38_Leaves p = payment_Leaves p := by
  unfold specieref38_Leaves payment_Leaves
  simp only [letk, spends_eq, rspendsA_eq]
theorem great_sm {p : S_api_Payment} (h : false = specielaw38_great p) : SmallP p := great_small h.symm
theorem great_sp {p : S_api_Payment} (h : false = specielaw38_great p) : (∀ x ∈ p.Spends, okSp x) ∧ (∀ x ∈ p.Chains, okSp x.First ∧ ∀ y ∈ x.L, okSp y) := ⟨(great_ok h).1, (great_ok h).2.1⟩
theorem great_hgt {p : S_api_Payment} (h : false = specielaw38_great p) : hgt (specieref38_Item p) ≤ 50000000 := by
  have h := great_sm h
  rw [rpay_eq]
  have h1 := hgtL_map (f := spendI) (B := 1000) (l := p.Spends) (fun x hx => hgt_small (h.s.2 x hx))
  have h2 := hgtL_map (f := chainI) (B := 14000) (l := p.Chains) (fun x hx => hgt_chain (h.c.2 x hx))
  have h3 := hgtL_map (f := escrowI) (B := 1000) (l := p.Escrow) (fun x hx => hgt_escrow (h.e.2 x hx))
  have g1 := Nat.mul_le_mul_right 1000 h.s.1
  have g2 := Nat.mul_le_mul_right 14000 h.c.1
  have g3 := Nat.mul_le_mul_right 1000 h.e.1
  simp only [payI, hgt_list, hgtL, hgt_int1]; omega
theorem rdec_chains {b : List Int} (hb : isB b) {x : S_api_Payment × Bool} (hx : x = specieref38_Decode b) : okChains x.1 := by
  rw [hx, rDecode hb]; exact dec_chains hb rfl
end Go.Proofs.Ytcbdmoihobdjaaa
