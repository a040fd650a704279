import Derived.Test.YtcbdmoihobdjaaaM
namespace Go.Proofs.Ytcbdmoihobdjaaa
open Go.RowKit
theorem encode_within_eqM (i : S_api_Item) (d : Int) : encode_within i d = withinM i d := by
 obtain ⟨k, n, b, l⟩ := i
 have hany : slices_ContainsFunc_api_Item_api_Item_at_encode_within_1 l d = !(withinL l (d - 1)) := by
  have h := iter_any (l := l) (C := fun x => encode_within_1 x d) (d := fun _ => default) (F := fun ag1 p1 => if decide (p1 < (l.length : Int)) then (letk (encode_within_1 (gt l p1) d) (fun x4 => if x4 then p1 else ag1 (p1 + 1))) else -1) (fun ag p => rfl)
  have h2 : slices_ContainsFunc_api_Item_api_Item_at_encode_within_1 l d = l.any (fun x => encode_within_1 x d) := h
  rw [h2, withinL_all, List.not_all_eq_any_not]; rfl
 unfold encode_within
 simp only [letk, withinM, hany, Bool.not_not]
 by_cases e1 : k = 1
 ·subst e1; cases b with
  | nil => cases l with
   | nil => simp
   | cons y l => simp; omega
  | cons x b => simp; omega
 by_cases e2 : k = 2
 ·subst e2; cases l with
  | nil => simp [Bool.beq_eq_decide_eq]
  | cons y l => simp; omega
 by_cases e3 : k = 3
 ·subst e3
  by_cases h0 : n = 0
  ·cases b with
   | nil =>
    by_cases h1 : 0 < d
    ·by_cases h2 : l.length ≤ 1000
     ·have h2' : (l.length : Int) ≤ 1000 := by omega
      simp [h0, h1, h2, h2']
     ·have h2' : ¬ (l.length : Int) ≤ 1000 := by omega
      simp [h0, h1, h2, h2']
    ·simp [h0, h1]
   | cons x b => simp [h0]; omega
  ·simp [h0]
 ·simp [e1, e2, e3]
theorem be_cons : ∀ {k : Nat} {n : Int}, be (k + 1) n = (n / 256 ^ k) % 256 :: be k n
 | 0, n => by simp [be]
 | k + 1, n => by
  rw [be, be_cons (k := k), be]
  simp only [List.cons_append, List.cons.injEq, and_true]
  rw [Int.ediv_ediv_of_nonneg (by omega), Int.pow_succ, Int.mul_comm (256 ^ k)]
theorem num_loop {n : Int} {F : (Int × List Int → List Int) → Int × List Int → List Int} {d : Int × List Int → List Int}
  (hF : ∀ ag p, F ag p = if decide (p.1 ≥ 0) = true then ag (p.1 - 1, p.2 ++ [convI .u8 (shrI .u64 n (8 * p.1))]) else p.2) :
  ∀ (k fuel : Nat) (out : List Int), k ≤ 8 → k < fuel → iter fuel F d ((k : Int) - 1, out) = out ++ be k n
 | 0, fuel, out, _, hf => by
  obtain ⟨m, rfl⟩ : ∃ m, fuel = m + 1 := ⟨fuel - 1, by omega⟩
  rw [iter, hF]; simp [be]
 | k + 1, fuel, out, hk, hf => by
  obtain ⟨m, rfl⟩ : ∃ m, fuel = m + 1 := ⟨fuel - 1, by omega⟩
  rw [iter, hF, if_pos (by simp)]
  have e1 : convI .u8 (shrI .u64 n (8 * (((k + 1 : Nat) : Int) - 1))) = (n / 256 ^ k) % 256 := by
   have e2 : (8 * (((k + 1 : Nat) : Int) - 1)).toNat = 8 * k := by omega
   unfold convI shrI
   rw [e2, show min (8 * k) (IntKind.bits .u64) = 8 * k by show min (8 * k) 64 = 8 * k; omega, Int.fdiv_eq_ediv_of_nonneg _ (Int.le_of_lt (Int.pow_pos (by omega))), Int.pow_mul]
   rfl
  simp only
  rw [e1, show ((k + 1 : Nat) : Int) - 1 - 1 = (k : Int) - 1 by omega, num_loop hF k m _ (by omega) (by omega), be_cons]
  simp
theorem number_eq {out : List Int} {n size : Int} (h0 : 0 ≤ size) (h1 : size ≤ 8) : encode_number out n size = out ++ be size.toNat n := by
 unfold encode_number
 have := num_loop (n := n) (d := fun _ => default) (fun ag p => rfl) size.toNat ((size - 1 + 1).toNat + 1) out (by omega) (by omega)
 rw [show ((size.toNat : Nat) : Int) = size by omega] at this
 exact this
theorem num_le {out x : List Int} {n size : Int} (h : x = encode_number out n size) : ¬ (0 ≤ size ∧ size ≤ 8) ∨ (x.length : Int) = out.length + size := by
 by_cases hs : 0 ≤ size ∧ size ≤ 8
 ·right; rw [h, number_eq hs.1 hs.2]; simp [be_len]; omega
 ·exact .inl hs
theorem be_u64_8 {n : Int} : be 8 (convI .u64 n) = be 8 n := by
 apply be_mod
 have h8 : (256 : Int) ^ 8 = 18446744073709551616 := by decide
 have : convI .u64 n = n % 18446744073709551616 := rfl
 rw [this, h8]; omega
theorem be_u64_4 {n : Int} : be 4 (convI .u64 n) = be 4 n := by
 apply be_mod
 have h8 : (256 : Int) ^ 4 = 4294967296 := by decide
 have : convI .u64 n = n % 18446744073709551616 := rfl
 rw [this, h8]; omega
theorem writeL_fold : ∀ {l : List S_api_Item} {out : List Int}, writeL out l = l.foldl writeM out
 | [], _ => rfl
 | x :: l, out => by simp only [writeL, List.foldl_cons]; exact writeL_fold
theorem encode_write_eqM (out : List Int) (i : S_api_Item) : encode_write out i = writeM out i := by
 obtain ⟨k, n, b, l⟩ := i
 unfold encode_write
 simp only [letk, writeM]
 by_cases hl : out.length > 16384
 ·have : (out.length : Int) > 16384 := by omega
  simp [hl, this]
 have hl' : ¬ (out.length : Int) > 16384 := by omega
 by_cases e1 : k = 1
 ·subst e1
  have : convI .u8 1 = 1 := rfl
  simp [hl, hl', number_eq, this, be_u64_8]
 by_cases e2 : k = 2
 ·subst e2
  have : convI .u8 2 = 2 := rfl
  simp [hl, hl', number_eq, this, be_u64_4]
 have hk : convI .u8 k = k % 256 := rfl
 simp only [hl, hl', e1, e2, decide_false, Bool.false_eq_true, if_false, beq_iff_eq, number_eq (show (0 : Int) ≤ 4 by decide) (show (4 : Int) ≤ 8 by decide), hk, Int.reduceToNat, be_u64_4]
 rw [iter_run (l := l) (fun a s => .inl (writeM s a)) (fun s => s) (fun ag i s => by by_cases h : i < (l.length : Int) <;> simp [h]), foldE_l, writeL_fold]
 simp
theorem fail_eqM (r : S_encode_reader) (e : Int) : encode_reader_fail r e = failR r e := rfl
theorem fail_ne {r x : S_encode_reader} {e : Int} (h : x = encode_reader_fail r e) (he : decide (e = 0) = false) : x.e ≠ 0 := by
 rw [h, fail_eqM]; unfold failR
 have : e ≠ 0 := by simpa using he
 split
 ·exact this
 ·rename_i h2; simpa using h2
theorem take_eqM (r : S_encode_reader) (n : Int) : encode_reader_take r n = takeR r n := by
 obtain ⟨b, e⟩ := r
 unfold encode_reader_take takeR
 simp only [letk, fail_eqM]
 by_cases h : e = 0
 ·by_cases h2 : n > b.length
  ·simp [h, h2]
  ·simp [h, h2, sl]
   rw [List.take_of_length_le (by simp)]
 ·simp [h]
theorem rnumber_eqM (r : S_encode_reader) (n : Int) : encode_reader_number r n = numR r n := by
 unfold encode_reader_number numR
 simp only [letk, take_eqM]
 rw [iter_runR (l := (takeR r n).1) (fun a s => .inl (orI .u64 (shlI .u64 s 8) (convI .u64 a))) (fun s => (s, (takeR r n).2)) (fun ag i s => by by_cases h : i < ((takeR r n).1.length : Int) <;> simp [h]), foldE_l]
 rfl
theorem rnum_fact {r : S_encode_reader} {x : Int × S_encode_reader} {n : Int} (h : x = encode_reader_number r n) (hb : isB r.b) : n > 4 ∨ (0 ≤ convI .i64 x.1 ∧ convI .i64 x.1 ≤ 4294967295) := by
 by_cases hn : n > 4
 ·exact .inl hn
 right
 rw [h, rnumber_eqM]
 unfold numR takeR
 split
 ·exact ⟨(by decide : (0 : Int) ≤ convI .i64 0), (by decide : convI .i64 0 ≤ 4294967295)⟩
 ·simp only
  have hl : (r.b.take n.toNat).length ≤ 4 := by simp; omega
  have hbt := isB_take hb n.toNat
  rw [valO_val hbt (by omega)]
  have hv := val_bd0 hbt
  have h3 : (256 : Int) ^ (r.b.take n.toNat).length ≤ 256 ^ 4 := (by decide : ∀ k, k < 5 → (256 : Int) ^ k ≤ 256 ^ 4) _ (by omega)
  have h4 : (256 : Int) ^ 4 = 4294967296 := by decide
  rw [conv_i64 (by omega) (by omega)]
  omega
theorem rnum_isB {r : S_encode_reader} {x : Int × S_encode_reader} {n : Int} (h : x = encode_reader_number r n) (hb : isB r.b) : isB x.2.b := by
 rw [h, rnumber_eqM]; exact takeR_isB hb
theorem fail_isB {r x : S_encode_reader} {e : Int} (h : x = encode_reader_fail r e) (hb : isB r.b) : isB x.b := by
 rw [h, fail_eqM]; exact failR_isB hb
theorem take_isB {r : S_encode_reader} {x : List Int × S_encode_reader} {n : Int} (h : x = encode_reader_take r n) (hb : isB r.b) : isB x.2.b := by
 rw [h, take_eqM]; exact takeR_isB hb
theorem item_loop {k n : Int} {f : S_encode_reader → S_api_Item × S_encode_reader} {F : (Int × S_encode_reader × List S_api_Item → S_api_Item × S_encode_reader) → Int × S_encode_reader × List S_api_Item → S_api_Item × S_encode_reader} {d : Int × S_encode_reader × List S_api_Item → S_api_Item × S_encode_reader}
  (hF : ∀ ag p, F ag p = if decide (p.1 < n) = true then (if (p.2.1.e != 0) = true then (⟨k, 0, [], p.2.2⟩, p.2.1) else ag (p.1 + 1, (f p.2.1).2, p.2.2 ++ [(f p.2.1).1])) else (⟨k, 0, [], p.2.2⟩, p.2.1)) :
  ∀ (fuel : Nat) (i : Int) (r : S_encode_reader) (l : List S_api_Item), (n - i).toNat < fuel → iter fuel F d (i, r, l) = (⟨k, 0, [], (loopR f (n - i).toNat l r).1⟩, (loopR f (n - i).toNat l r).2) := by
 intro fuel
 induction fuel with
 | zero => intro i r l h; omega
 | succ m ih =>
  intro i r l h
  rw [iter, hF]
  by_cases hi : i < n
  ·rw [if_pos (decide_eq_true hi)]
   obtain ⟨q, hq⟩ : ∃ q, (n - i).toNat = q + 1 := ⟨(n - i).toNat - 1, by omega⟩
   by_cases he : r.e = 0
   ·simp only [he, bne_self_eq_false, Bool.false_eq_true, if_false]
    rw [ih _ _ _ (by omega), hq]
    simp only [loopR, he, ne_eq, not_true_eq_false, if_false]
    rw [show (n - (i + 1)).toNat = q by omega]
   ·have : (r.e != 0) = true := by simpa using he
    simp only [this, if_true]
    rw [hq, loopR_err he]
  ·rw [if_neg (by simpa using hi)]
   rw [show (n - i).toNat = 0 by omega]; rfl
theorem encode_reader_item_eqM {r : S_encode_reader} {depth : Int} (h0 : 0 ≤ depth) (h1 : isB r.b) : encode_reader_item r depth = itemM r depth := by
 obtain ⟨d, rfl⟩ : ∃ d : Nat, depth = d := ⟨depth.toNat, by omega⟩
 clear h0
 have hit : itemM r (d : Int) = itemG (match d with | 0 => none | d + 1 => some (itemN d)) r := by cases d <;> rfl
 rw [hit]
 unfold encode_reader_item itemG
 simp only [letk, letj, rnumber_eqM, fail_eqM, take_eqM, bytes_Clone]
 generalize numR r 1 = a
 generalize convI .i64 a.1 = k
 by_cases k1 : k < 1
 ·simp [k1]
 by_cases k2 : k > 3
 ·simp [k1, k2]
 by_cases k3 : k = 3
 ·subst k3
  cases d with
  | zero => simp
  | succ d =>
   have hd : ((d + 1 : Nat) : Int) ≠ 0 := by omega
   have hI : ∀ q, itemM q (((d + 1 : Nat) : Int) - 1) = itemN d q := by
    intro q; unfold itemM; rw [show (((d + 1 : Nat) : Int) - 1).toNat = d by omega]
   simp only [hI]
   generalize numR a.2 4 = b
   generalize convI .i64 b.1 = n
   have hd2 : ¬ ((d : Int) + 1 = 0) := by omega
   have key : ∀ {F : (Int × S_encode_reader × List S_api_Item → S_api_Item × S_encode_reader) → Int × S_encode_reader × List S_api_Item → S_api_Item × S_encode_reader} {z : Int × S_encode_reader × List S_api_Item → S_api_Item × S_encode_reader} (q : S_encode_reader),
     (∀ ag p, F ag p = if p.1 < n then (if p.2.1.e = 0 then ag (p.1 + 1, (itemN d p.2.1).2, p.2.2 ++ [(itemN d p.2.1).1]) else (⟨3, 0, [], p.2.2⟩, p.2.1)) else (⟨3, 0, [], p.2.2⟩, p.2.1)) →
     iter (n.toNat + 1) F z (0, q, []) = (⟨3, 0, [], (loopR (itemN d) n.toNat [] q).1⟩, (loopR (itemN d) n.toNat [] q).2) := by
    intro F z q hF
    have := item_loop (k := 3) (n := n) (f := itemN d) (d := z) (F := F) (fun ag p => by rw [hF]; by_cases h1 : p.1 < n <;> by_cases h2 : p.2.1.e = 0 <;> simp [h1, h2]) (n.toNat + 1) 0 q [] (by omega)
    simpa using this
   by_cases hc : n > 1000
   ·simp [hc]; rw [if_neg hd2]; exact key _ fun ag p => rfl
   ·simp [hc]; rw [if_neg hd2]; exact key _ fun ag p => rfl
 by_cases k4 : k = 1
 ·subst k4; simp
 by_cases k5 : k = 2
 ·subst k5; simp
 omega
theorem Numbers_run {i : S_api_Item} (h : i.Kind = 3) : ∀ {l : List S_api_Item} {s : List Int}, (foldE (fun (a : S_api_Item) s => if (a.Kind != 1) = true then .inr (([] : List Int), (3 : Int)) else .inl (s ++ [a.N])) (fun s => (s, (0 : Int))) l s).2 ≠ 0 ∨ (foldE (fun (a : S_api_Item) s => if (a.Kind != 1) = true then .inr (([] : List Int), (3 : Int)) else .inl (s ++ [a.N])) (fun s => (s, (0 : Int))) l s).1 = s ++ l.map (·.N)
 | [], s => by right; simp [foldE]
 | a :: l, s => by
  simp only [foldE]
  by_cases ha : a.Kind = 1
  ·have : (a.Kind != 1) = false := by simp [ha]
   simp only [this, Bool.false_eq_true, if_false]
   rcases Numbers_run h (l := l) (s := s ++ [a.N]) with h1 | h1
   ·exact .inl h1
   ·right; rw [h1]; simp
  ·have : (a.Kind != 1) = true := by simpa using ha
   simp [this]
theorem Numbers_eqM (i : S_api_Item) : encode_Numbers i = if encode_Valid i = false then ([], 1) else if i.Kind ≠ 3 then ([], 3) else foldE (fun (a : S_api_Item) s => if (a.Kind != 1) = true then .inr (([] : List Int), (3 : Int)) else .inl (s ++ [a.N])) (fun s => (s, (0 : Int))) i.L [] := by
 unfold encode_Numbers
 simp only [letk]
 cases encode_Valid i
 ·simp
 by_cases hk : i.Kind = 3
 ·have : (i.Kind != 3) = false := by simp [hk]
  simp only [this, hk]
  rw [iter_run (l := i.L) (fun a s => if (a.Kind != 1) = true then .inr (([] : List Int), (3 : Int)) else .inl (s ++ [a.N])) (fun s => (s, (0 : Int))) (fun ag j s => by by_cases h : j < (i.L.length : Int) <;> by_cases h2 : (gt i.L j).Kind = 1 <;> simp [h, h2])]
  simp
 ·have : (i.Kind != 3) = true := by simpa using hk
  simp [this, hk]
theorem Numbers_len {i : S_api_Item} {x : List Int × Int} (h : x = encode_Numbers i) : ¬ x.2 = 0 ∨ (x.1.length : Int) = i.L.length := by
 rw [h, Numbers_eqM]
 split
 ·simp
 split
 ·simp
 ·rename_i hk
  rcases Numbers_run (i := i) (by simpa using hk) (l := i.L) (s := []) with h1 | h1
  ·exact .inl h1
  ·right; rw [h1]; simp
theorem hgt_int {x : S_api_Item} {n : Int} (h : x = payment_integer n) : hgt x = 1 := by rw [h]; rfl
theorem ints_len {x w : S_coin_writer} {l : List Int} (h : x = coin_writer_ints w l) : x.l.length = w.l.length + 1 := by
 rw [h]; simp [coin_writer_ints, letk]
theorem bytes_len {x w : S_coin_writer} {l : List Int} (h : x = coin_writer_bytes w l) : x.l.length = w.l.length + 1 := by
 rw [h]; simp [coin_writer_bytes, letk]
def payItem (p : S_api_Payment) : S_api_Item := ⟨3, 0, [], [payment_integer p.Number, payment_list_api_Spend_at_spend_Item p.Spends, payment_list_api_Chain_at_payment_chainItem p.Chains, payment_list_api_Escrow_at_escrow_Item p.Escrow]⟩
end Go.Proofs.Ytcbdmoihobdjaaa
