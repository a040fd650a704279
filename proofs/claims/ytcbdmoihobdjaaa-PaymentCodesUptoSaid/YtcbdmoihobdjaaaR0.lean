import Derived.Test.YtcbdmoihobdjaaaT
import Derived.Test.YtcbdmoihobdjaaaL0
namespace Go.Proofs.Ytcbdmoihobdjaaa
open Go.RowKit
set_option linter.unusedVariables false
set_option linter.unusedSimpArgs false
def valA : Int → List Int → Int
 | a, [] => a
 | a, x :: l => valA (256 * a + x) l
def be : Nat → Int → List Int
 | 0, _ => []
 | k + 1, n => be k (n / 256) ++ [n % 256]
def isB (l : List Int) : Prop := ∀ x ∈ l, 0 ≤ x ∧ x ≤ 255
theorem valA_app : ∀ {l m : List Int} {a : Int}, valA a (l ++ m) = valA (valA a l) m
 | [], m, a => rfl
 | x :: l, m, a => valA_app (l := l)
theorem be_len : ∀ {k : Nat} {n : Int}, (be k n).length = k
 | 0, _ => rfl
 | k + 1, n => by simp [be, be_len (k := k)]
theorem mod_step (n m : Int) (h : 0 < m) : n % (256 * m) = 256 * (n / 256 % m) + n % 256 := by
 have h1 := Int.mul_ediv_add_emod n 256
 have h2 := Int.mul_ediv_add_emod (n / 256) m
 have h3 := Int.emod_nonneg (n / 256) (show m ≠ 0 by omega)
 have h4 := Int.emod_lt_of_pos (n / 256) h
 generalize n / 256 % m = s at *
 generalize hq : n / 256 / m = t at *
 have e : n = (256 * s + n % 256) + 256 * m * t := by
  have : 256 * m * t = 256 * (m * t) := by rw [Int.mul_assoc]
  omega
 have e2 : n % (256 * m) = (256 * s + n % 256) % (256 * m) := by
  conv => lhs; rw [e]
  rw [Int.add_mul_emod_self_left]
 rw [e2]
 exact Int.emod_eq_of_lt (by omega) (by omega)
theorem val_bd : ∀ {l : List Int}, isB l → ∀ {a m : Int}, 0 ≤ a → a < m → 0 ≤ valA a l ∧ valA a l < m * 256 ^ l.length
 | [], _, a, m, h0, h1 => by simpa [valA] using ⟨h0, h1⟩
 | x :: l, h, a, m, h0, h1 => by
  have hx := h x (by simp)
  have h2 := val_bd (l := l) (fun y hy => h y (by simp [hy])) (a := 256 * a + x) (m := m * 256) (by omega) (by omega)
  simp only [valA, List.length_cons]
  rw [Int.pow_succ, Int.mul_comm (256 ^ l.length), ← Int.mul_assoc]
  exact h2
theorem val_bd0 {l : List Int} (h : isB l) : 0 ≤ valA 0 l ∧ valA 0 l < 256 ^ l.length := by
 have := val_bd h (a := 0) (m := 1) (by omega) (by omega)
 simpa using this
theorem be_add : ∀ {k : Nat} {n x : Int}, 0 ≤ x → x ≤ 255 → be (k + 1) (256 * n + x) = be k n ++ [x] := by
 intro k n x h0 h1
 simp only [be]
 rw [show (256 * n + x) / 256 = n by omega, show (256 * n + x) % 256 = x by omega]
theorem be_val_aux : ∀ (k : Nat) (l : List Int), l.length = k → isB l → be l.length (valA 0 l) = l := by
 intro k
 induction k with
 | zero => intro l hl _; rw [List.length_eq_zero_iff.1 hl]; rfl
 | succ k ih =>
  intro l hl h
  have hne : l ≠ [] := by intro e; simp [e] at hl
  obtain ⟨m, x, rfl⟩ : ∃ m x, l = m ++ [x] := ⟨l.dropLast, l.getLast hne, (List.dropLast_concat_getLast hne).symm⟩
  simp at hl
  have hx := h x (by simp)
  rw [valA_app]
  simp only [List.length_append, List.length_singleton, valA]
  rw [be_add hx.1 hx.2, ih m hl (fun y hy => h y (by simp [hy]))]
theorem be_val {l : List Int} (h : isB l) : be l.length (valA 0 l) = l := be_val_aux _ l rfl h
def toI (u : Int) : Int := if u ≥ 9223372036854775808 then u - 18446744073709551616 else u
theorem be_mod : ∀ {k : Nat} {n m : Int}, n % 256 ^ k = m % 256 ^ k → be k n = be k m
 | 0, _, _, _ => rfl
 | k + 1, n, m, h => by
  have hp : (0 : Int) < 256 ^ k := Int.pow_pos (by omega)
  rw [show (256 : Int) ^ (k + 1) = 256 * 256 ^ k by rw [Int.pow_succ, Int.mul_comm], mod_step _ _ hp, mod_step _ _ hp] at h
  have h1 := Int.emod_nonneg (n / 256) (show (256 : Int) ^ k ≠ 0 by omega)
  have h2 := Int.emod_nonneg (m / 256) (show (256 : Int) ^ k ≠ 0 by omega)
  simp only [be]
  rw [show n % 256 = m % 256 by omega, be_mod (k := k) (show n / 256 % 256 ^ k = m / 256 % 256 ^ k by omega)]
mutual
def hgt : S_api_Item → Nat
 | ⟨_, _, b, l⟩ => 1 + b.length + hgtL l
def hgtL : List S_api_Item → Nat
 | [] => 0
 | x :: l => hgt x + hgtL l
end
theorem hgt_mem : ∀ {l : List S_api_Item} {x : S_api_Item}, x ∈ l → hgt x ≤ hgtL l
 | y :: l, x, h => by
  simp only [hgtL]
  rcases List.mem_cons.1 h with rfl | h
  ·omega
  ·have := hgt_mem h; omega
theorem hgt_eq (i : S_api_Item) : hgt i = 1 + i.B.length + hgtL i.L := by cases i; rfl
theorem hgt_L {i x : S_api_Item} (h : x ∈ i.L) : hgt x < hgt i := by
 have := hgt_mem h
 rw [hgt_eq i]; omega
mutual
def withinM : S_api_Item → Int → Bool
 | ⟨k, n, b, l⟩, d => if k == 1 then b.isEmpty && l.isEmpty else if k == 2 then n == 0 && l.isEmpty else if k == 3 then n == 0 && (b.isEmpty && (decide (0 < d) && (decide (l.length ≤ 1000) && withinL l (d - 1)))) else false
def withinL : List S_api_Item → Int → Bool
 | [], _ => true
 | x :: l, d => withinM x d && withinL l d
end
theorem withinL_all : ∀ {l : List S_api_Item} {d : Int}, withinL l d = l.all (fun x => withinM x d)
 | [], _ => rfl
 | x :: l, d => by simp only [withinL, List.all_cons, withinL_all (l := l)]
mutual
def encI : S_api_Item → List Int
 | ⟨k, n, b, l⟩ => if k == 1 then 1 :: be 8 n else if k == 2 then 2 :: (be 4 b.length ++ b) else 3 :: (be 4 l.length ++ encL l)
def encL : List S_api_Item → List Int
 | [] => []
 | x :: l => encI x ++ encL l
end
mutual
def okI : S_api_Item → Prop
 | ⟨_, n, b, l⟩ => (-9223372036854775808 ≤ n ∧ n ≤ 9223372036854775807) ∧ isB b ∧ b.length < 4294967296 ∧ okL l
def okL : List S_api_Item → Prop
 | [] => True
 | x :: l => okI x ∧ okL l
end
def rdL (f : List Int → Except Int (S_api_Item × List Int)) : Nat → List Int → Except Int (List S_api_Item × List Int)
 | 0, b => .ok ([], b)
 | n + 1, b => match f b with
  | .error e => .error e
  | .ok (i, r) => match rdL f n r with
   | .error e => .error e
   | .ok (l, r2) => .ok (i :: l, r2)
def rdG (f : Option (List Int → Except Int (S_api_Item × List Int))) : List Int → Except Int (S_api_Item × List Int)
 | [] => .error 4
 | k :: b => if k == 1 then (if b.length < 8 then .error 4 else .ok (⟨1, toI (valA 0 (b.take 8)), [], []⟩, b.drop 8))
  else if k == 2 then (if b.length < 4 then .error 4 else
   if ((b.drop 4).length : Int) < valA 0 (b.take 4) then .error 4 else .ok (⟨2, 0, (b.drop 4).take (valA 0 (b.take 4)).toNat, []⟩, (b.drop 4).drop (valA 0 (b.take 4)).toNat))
  else if k == 3 then (match f with
   | none => .error 3
   | some f => if b.length < 4 then .error 4 else if valA 0 (b.take 4) > 1000 then .error 3 else
    match rdL f (valA 0 (b.take 4)).toNat (b.drop 4) with
    | .error e => .error e
    | .ok (l, r) => .ok (⟨3, 0, [], l⟩, r))
  else .error 3
def rdI : Nat → List Int → Except Int (S_api_Item × List Int)
 | 0 => rdG none
 | d + 1 => rdG (some (rdI d))
theorem rdL_back {d : Nat} (ih : ∀ (b : List Int) (i : S_api_Item) (r : List Int), isB b → rdI d b = .ok (i, r) → b = encI i ++ r ∧ withinM i d = true ∧ okI i) :
  ∀ (n : Nat) (b : List Int) (l : List S_api_Item) (r : List Int), isB b → rdL (rdI d) n b = .ok (l, r) → b = encL l ++ r ∧ withinL l d = true ∧ okL l ∧ l.length = n
 | 0, b, l, r, hb, h => by
  simp only [rdL] at h
  cases h
  exact ⟨rfl, rfl, trivial, rfl⟩
 | n + 1, b, l, r, hb, h => by
  simp only [rdL] at h
  split at h
  ·cases h
  ·rename_i i r1 h1
   split at h
   ·cases h
   ·rename_i l2 r2 h2
    cases h
    obtain ⟨e, hw, ho⟩ := ih _ _ _ hb h1
    have hb1 : isB r1 := fun x hx => hb x (by rw [e]; simp [hx])
    obtain ⟨e2, hw2, ho2, hl⟩ := rdL_back ih n r1 l2 r hb1 h2
    refine ⟨?_, ?_, ⟨ho, ho2⟩, by simp [hl]⟩
    ·rw [e, e2]; simp [encL]
    ·simp [withinL, hw, hw2]
theorem split_at {k : Nat} {b : List Int} (h : k ≤ b.length) (hb : isB b) : b = be k (valA 0 (b.take k)) ++ b.drop k := by
 have h1 : isB (b.take k) := fun x hx => hb x (List.mem_of_mem_take hx)
 have h2 := be_val h1
 rw [List.length_take, Nat.min_eq_left h] at h2
 rw [h2, List.take_append_drop]
theorem val_take {k : Nat} {b : List Int} (h : k ≤ b.length) (hb : isB b) : 0 ≤ valA 0 (b.take k) ∧ valA 0 (b.take k) < 256 ^ k := by
 have h1 : isB (b.take k) := fun x hx => hb x (List.mem_of_mem_take hx)
 have := val_bd0 h1
 rwa [List.length_take, Nat.min_eq_left h] at this
theorem be_toI {u : Int} (h0 : 0 ≤ u) (h1 : u < 256 ^ 8) : be 8 (toI u) = be 8 u := by
 apply be_mod
 have : (256 : Int) ^ 8 = 18446744073709551616 := by decide
 rw [this] at *
 unfold toI; split <;> omega
theorem rdG_12 {f : Option (List Int → Except Int (S_api_Item × List Int))} {d : Int} {k : Int} {b : List Int} {i : S_api_Item} {r : List Int} (hk : k = 1 ∨ k = 2) (hb : isB (k :: b)) (h : rdG f (k :: b) = .ok (i, r)) : k :: b = encI i ++ r ∧ withinM i d = true ∧ okI i := by
 have hb' : isB b := fun x hx => hb x (by simp [hx])
 rcases hk with rfl | rfl
 ·simp [rdG] at h
  split at h
  ·cases h
  ·rename_i hl
   cases h
   have hv := val_take (k := 8) (by omega) hb'
   refine ⟨?_, ?_, ?_, ?_⟩
   ·simp only [encI]; simp
    rw [be_toI hv.1 hv.2]; exact split_at (by omega) hb'
   ·simp [withinM]
   ·have : (256 : Int) ^ 8 = 18446744073709551616 := by decide
    rw [this] at hv
    unfold toI; split <;> omega
   ·exact ⟨by simp [isB], by simp, trivial⟩
 ·simp [rdG] at h
  split at h
  ·cases h
  ·rename_i hl
   split at h
   ·cases h
   ·rename_i hn
    cases h
    have hv := val_take (k := 4) (by omega) hb'
    have h4 : (256 : Int) ^ 4 = 4294967296 := by decide
    rw [h4] at hv
    have hlen : ((b.drop 4).take (valA 0 (b.take 4)).toNat).length = (valA 0 (b.take 4)).toNat := by
     rw [List.length_take]; simp; omega
    have e2 : ((valA 0 (b.take 4)).toNat : Int) = valA 0 (b.take 4) := by omega
    refine ⟨?_, ?_, ?_, ?_, ?_, trivial⟩
    ·simp only [encI]; simp only [hlen, e2]; simp
     have := split_at (k := 4) (b := b) (by omega) hb'
     conv => lhs; rw [this]
     have e3 : List.drop (4 + (valA 0 (b.take 4)).toNat) b = List.drop (valA 0 (b.take 4)).toNat (b.drop 4) := by rw [List.drop_drop]
     rw [e3, List.take_append_drop]
    ·simp [withinM]
    ·omega
    ·intro x hx; exact hb' x (List.mem_of_mem_drop (List.mem_of_mem_take hx))
    ·rw [hlen]; omega
theorem rdI_back : ∀ (d : Nat) (b : List Int) (i : S_api_Item) (r : List Int), isB b → rdI d b = .ok (i, r) → b = encI i ++ r ∧ withinM i d = true ∧ okI i := by
 intro d
 induction d with
 | zero =>
  intro b i r hb h
  cases b with
  | nil => simp [rdI, rdG] at h
  | cons k b =>
   by_cases e : k = 1 ∨ k = 2
   ·exact rdG_12 e hb h
   ·simp [rdI, rdG] at h
    split at h <;> simp_all
 | succ d ih =>
  intro b i r hb h
  cases b with
  | nil => simp [rdI, rdG] at h
  | cons k b =>
   by_cases e : k = 1 ∨ k = 2
   ·exact rdG_12 e hb h
   by_cases e3 : k = 3
   ·subst e3
    have hb' : isB b := fun x hx => hb x (by simp [hx])
    simp [rdI, rdG] at h
    split at h
    ·cases h
    split at h
    ·cases h
    rename_i hl hn
    split at h
    ·cases h
    rename_i l r2 h2
    cases h
    have hbd : isB (b.drop 4) := fun x hx => hb' x (List.mem_of_mem_drop hx)
    obtain ⟨g1, g2, g3, g4⟩ := rdL_back ih _ _ _ _ hbd h2
    have hv := val_take (k := 4) (by omega) hb'
    have e2 : (l.length : Int) = valA 0 (b.take 4) := by omega
    refine ⟨?_, ?_, ?_, ?_, ?_, g3⟩
    ·simp only [encI, e2]; simp
     rw [← g1]; exact split_at (by omega) hb'
    ·have : ((d : Int) + 1 - 1) = d := by omega
     simp [withinM, this, g2]; omega
    ·omega
    ·simp [isB]
    ·simp
   ·simp [rdI, rdG] at h
    split at h <;> simp_all
def failR (r : S_encode_reader) (e : Int) : S_encode_reader := if r.e == 0 then { b := r.b, e := e } else r
def takeR (r : S_encode_reader) (n : Int) : List Int × S_encode_reader :=
 if r.e ≠ 0 ∨ n > r.b.length then ([], failR r 4) else (r.b.take n.toNat, { b := r.b.drop n.toNat, e := r.e })
def valO (l : List Int) : Int := l.foldl (fun a x => orI .u64 (shlI .u64 a 8) (convI .u64 x)) 0
def numR (r : S_encode_reader) (n : Int) : Int × S_encode_reader := (valO (takeR r n).1, (takeR r n).2)
theorem wrap_u64 {a : Int} (h0 : 0 ≤ a) (h1 : a < 18446744073709551616) : IntKind.wrap .u64 a = a := by
 simp only [IntKind.wrap, IntKind.bits, IntKind.signed]; simp; omega
theorem conv_toI {a : Int} (h0 : 0 ≤ a) (h1 : a < 18446744073709551616) : convI .i64 a = toI a := by
 unfold convI toI; rw [IntKind.wrap_i64]; split <;> omega
theorem or_step {a x : Int} (h0 : 0 ≤ a) (h1 : a < 72057594037927936) (h2 : 0 ≤ x) (h3 : x ≤ 255) : orI .u64 (shlI .u64 a 8) (convI .u64 x) = 256 * a + x := by
 obtain ⟨n, rfl⟩ : ∃ n : Nat, a = n := ⟨a.toNat, by omega⟩
 obtain ⟨m, rfl⟩ : ∃ m : Nat, x = m := ⟨x.toNat, by omega⟩
 have e1 : shlI .u64 (n : Int) 8 = ((n * 256 : Nat) : Int) := by
  unfold shlI
  rw [show (2 : Int) ^ min (8 : Int).toNat (IntKind.bits .u64) = 256 by decide, wrap_u64 (by omega) (by omega)]; omega
 have e2 : convI .u64 (m : Int) = m := wrap_u64 (by omega) (by omega)
 rw [e1, e2]
 unfold orI
 have e3 : ∀ k : Nat, k < 18446744073709551616 → (BitVec.ofInt (IntKind.bits .u64) (k : Int)).toNat = k := by
  intro k hk
  rw [BitVec.toNat_ofInt]
  have : (((2 ^ IntKind.bits .u64 : Nat)) : Int) = 18446744073709551616 := rfl
  rw [this]; omega
 have e4 : ((BitVec.ofInt (IntKind.bits .u64) ((n * 256 : Nat) : Int)) ||| (BitVec.ofInt (IntKind.bits .u64) ((m : Nat) : Int))).toNat = 256 * n + m := by
  rw [BitVec.toNat_or, e3 _ (by omega), e3 _ (by omega)]
  have := Nat.shiftLeft_add_eq_or_of_lt (i := 8) (b := m) (by show m < 256; omega) n
  rw [Nat.shiftLeft_eq, show (2 : Nat) ^ 8 = 256 from rfl] at this
  rw [← this, Nat.mul_comm]
 rw [e4, wrap_u64 (by omega) (by omega)]; omega
theorem valO_fold : ∀ {l : List Int}, isB l → ∀ {a : Int} {k : Nat}, 0 ≤ a → a < 256 ^ k → k + l.length ≤ 8 → l.foldl (fun a x => orI .u64 (shlI .u64 a 8) (convI .u64 x)) a = valA a l
 | [], _, a, k, _, _, _ => rfl
 | x :: l, h, a, k, h0, h1, h2 => by
  have hx := h x (by simp)
  simp only [List.length_cons] at h2
  have h3 : (256 : Int) ^ k ≤ 256 ^ 7 := (by decide : ∀ k, k < 8 → (256 : Int) ^ k ≤ 256 ^ 7) k (by omega)
  have h4 : (256 : Int) ^ 7 = 72057594037927936 := by decide
  simp only [List.foldl_cons, valA]
  rw [or_step h0 (by omega) hx.1 hx.2]
  exact valO_fold (k := k + 1) (fun y hy => h y (by simp [hy])) (by omega) (by rw [Int.pow_succ]; omega) (by omega)
theorem valO_val {l : List Int} (h : isB l) (hl : l.length ≤ 8) : valO l = valA 0 l := valO_fold h (k := 0) (by omega) (by decide) (by omega)
def loopR (f : S_encode_reader → S_api_Item × S_encode_reader) : Nat → List S_api_Item → S_encode_reader → List S_api_Item × S_encode_reader
 | 0, l, r => (l, r)
 | n + 1, l, r => if r.e ≠ 0 then (l, r) else loopR f n (l ++ [(f r).1]) (f r).2
def itemG (f : Option (S_encode_reader → S_api_Item × S_encode_reader)) (r : S_encode_reader) : S_api_Item × S_encode_reader :=
 let a := numR r 1
 if convI .i64 a.1 < 1 ∨ convI .i64 a.1 > 3 ∨ (convI .i64 a.1 = 3 ∧ f.isNone = true) then (z_api_Item, failR a.2 3)
 else if convI .i64 a.1 = 1 then (⟨convI .i64 a.1, convI .i64 (numR a.2 8).1, [], []⟩, (numR a.2 8).2)
 else if convI .i64 a.1 = 2 then (⟨convI .i64 a.1, 0, (takeR (numR a.2 4).2 (convI .i64 (numR a.2 4).1)).1, []⟩, (takeR (numR a.2 4).2 (convI .i64 (numR a.2 4).1)).2)
 else match f with
  | none => default
  | some f =>
   let b := numR a.2 4
   let x := loopR f (convI .i64 b.1).toNat [] (if convI .i64 b.1 > 1000 then failR b.2 3 else b.2)
   (⟨convI .i64 a.1, 0, [], x.1⟩, x.2)
def itemN : Nat → S_encode_reader → S_api_Item × S_encode_reader
 | 0 => itemG none
 | d + 1 => itemG (some (itemN d))
def itemM (r : S_encode_reader) (depth : Int) : S_api_Item × S_encode_reader := itemN depth.toNat r
theorem loopR_err {f : S_encode_reader → S_api_Item × S_encode_reader} {n : Nat} {l : List S_api_Item} {r : S_encode_reader} (h : r.e ≠ 0) : loopR f n l r = (l, r) := by
 cases n with
 | zero => rfl
 | succ n => simp only [loopR]; rw [if_pos h]
theorem takeR_ok {b : List Int} {n : Int} (h : n ≤ b.length) : takeR ⟨b, 0⟩ n = (b.take n.toNat, ⟨b.drop n.toNat, 0⟩) := by
 unfold takeR; rw [if_neg]; simp; omega
theorem takeR_end {b : List Int} {n : Int} (h : b.length < n) : takeR ⟨b, 0⟩ n = ([], ⟨b, 4⟩) := by
 unfold takeR; rw [if_pos]
 ·simp [failR]
 ·simp; omega
theorem takeR_err {r : S_encode_reader} {n : Int} (h : r.e ≠ 0) : takeR r n = ([], r) := by
 unfold takeR; rw [if_pos (.inl h)]; simp [failR, h]
theorem isB_take {b : List Int} (h : isB b) (n : Nat) : isB (b.take n) := fun x hx => h x (List.mem_of_mem_take hx)
theorem isB_drop {b : List Int} (h : isB b) (n : Nat) : isB (b.drop n) := fun x hx => h x (List.mem_of_mem_drop hx)
theorem numR_ok {b : List Int} {n : Int} (hb : isB b) (h : n ≤ b.length) (h8 : n ≤ 8) : numR ⟨b, 0⟩ n = (valA 0 (b.take n.toNat), ⟨b.drop n.toNat, 0⟩) := by
 unfold numR; rw [takeR_ok h]; simp only
 rw [valO_val (isB_take hb _) (by simp; omega)]
theorem numR_end {b : List Int} {n : Int} (h : b.length < n) : numR ⟨b, 0⟩ n = (0, ⟨b, 4⟩) := by unfold numR; rw [takeR_end h]; rfl
theorem conv_zero : convI .i64 0 = 0 := conv_i64 (by decide) (by decide)
theorem conv_take4 {b : List Int} (hb : isB b) (h : 4 ≤ b.length) : convI .i64 (valA 0 (b.take 4)) = valA 0 (b.take 4) := by
 have hv := val_take h hb
 have h4 : (256 : Int) ^ 4 = 4294967296 := by decide
 exact conv_i64 (by omega) (by omega)
theorem conv_take8 {b : List Int} (hb : isB b) (h : 8 ≤ b.length) : convI .i64 (valA 0 (b.take 8)) = toI (valA 0 (b.take 8)) := by
 have hv := val_take h hb
 have h8 : (256 : Int) ^ 8 = 18446744073709551616 := by decide
 exact conv_toI hv.1 (by omega)
def outR (x : S_api_Item × S_encode_reader) : Except Int (S_api_Item × List Int) → Prop
 | .ok (i, r) => x = (i, ⟨r, 0⟩)
 | .error e => x.2.e = e ∧ e ≠ 0
theorem loopR_rd {f : S_encode_reader → S_api_Item × S_encode_reader} {g : List Int → Except Int (S_api_Item × List Int)} (ih : ∀ b, isB b → outR (f ⟨b, 0⟩) (g b)) (hg : ∀ b i r, isB b → g b = .ok (i, r) → isB r) :
  ∀ (n : Nat) (b : List Int) (l : List S_api_Item), isB b → match rdL g n b with
   | .ok (l2, r) => loopR f n l ⟨b, 0⟩ = (l ++ l2, ⟨r, 0⟩)
   | .error e => (loopR f n l ⟨b, 0⟩).2.e = e ∧ e ≠ 0
 | 0, b, l, _ => by simp [rdL, loopR]
 | n + 1, b, l, hb => by
  have h := ih b hb
  simp only [rdL, loopR]
  rw [if_neg (by simp)]
  cases hgb : g b with
  | error e =>
   rw [hgb] at h
   simp only [outR] at h
   simp only
   rw [loopR_err (by rw [h.1]; exact h.2)]
   exact h
  | ok p =>
   obtain ⟨i, r⟩ := p
   rw [hgb] at h
   simp only [outR] at h
   rw [h]
   have h2 := loopR_rd ih hg n r (l ++ [i]) (hg b i r hb hgb)
   simp only
   cases hl : rdL g n r with
   | error e => rw [hl] at h2; exact h2
   | ok p => obtain ⟨l2, r2⟩ := p; rw [hl] at h2; simpa using h2
theorem itemG_rd {f : Option (S_encode_reader → S_api_Item × S_encode_reader)} {g : Option (List Int → Except Int (S_api_Item × List Int))}
  (ih : match f, g with | none, none => True | some f, some g => (∀ b, isB b → outR (f ⟨b, 0⟩) (g b)) ∧ (∀ b i r, isB b → g b = .ok (i, r) → isB r) | _, _ => False) (b : List Int) (hb : isB b) : outR (itemG f ⟨b, 0⟩) (rdG g b) := by
 cases b with
 | nil =>
  have h1 : numR ⟨[], 0⟩ 1 = (0, ⟨[], 4⟩) := numR_end (by simp)
  simp [rdG, itemG, h1, failR, outR, conv_zero]
 | cons k b =>
  have hk := hb k (by simp)
  have hb' : isB b := fun x hx => hb x (by simp [hx])
  have h1 : numR ⟨k :: b, 0⟩ 1 = (k, ⟨b, 0⟩) := by rw [numR_ok hb (by simp; omega) (by omega)]; simp [valA]
  have hc : convI .i64 k = k := conv_i64 (by omega) (by omega)
  simp only [itemG, h1, rdG, hc]
  by_cases e1 : k = 1
  ·subst e1
   simp only [Int.reduceLT, false_or, Int.reduceEq, false_and, or_self, if_false, if_true, gt_iff_lt, beq_self_eq_true]
   by_cases hl : b.length < 8
   ·rw [if_pos hl, numR_end (by omega)]; simp [outR]
   ·rw [if_neg hl, numR_ok hb' (by omega) (by omega)]
    have := conv_take8 hb' (by omega)
    simp [outR, this]
  by_cases e2 : k = 2
  ·subst e2
   simp only [Int.reduceLT, false_or, Int.reduceEq, false_and, or_self, if_false, if_true, gt_iff_lt, beq_self_eq_true]
   rw [if_neg (by simp)]
   by_cases hl : b.length < 4
   ·rw [if_pos hl, numR_end (by omega)]
    simp only []
    rw [takeR_err (by simp)]
    simp [outR]
   ·rw [if_neg hl, numR_ok hb' (by omega) (by omega)]
    simp only [Int.reduceToNat]
    rw [conv_take4 hb' (by omega)]
    by_cases hn : ((b.drop 4).length : Int) < valA 0 (b.take 4)
    ·rw [if_pos hn, takeR_end (by omega)]; simp [outR]
    ·rw [if_neg hn, takeR_ok (by omega)]; simp [outR]
  by_cases e3 : k = 3
  ·subst e3
   cases f with
   | none => cases g with
    | none => simp [outR, failR]
    | some g => cases ih
   | some f => cases g with
    | none => cases ih
    | some g =>
     simp at ih
     simp
     by_cases hl : b.length < 4
     ·rw [if_pos hl, numR_end (by omega)]
      simp only [conv_zero]
      rw [if_neg (by omega)]
      simp [loopR, outR]
     ·rw [if_neg hl, numR_ok hb' (by omega) (by omega)]
      simp only [Int.reduceToNat]
      rw [conv_take4 hb' (by omega)]
      by_cases hn : 1000 < valA 0 (b.take 4)
      ·rw [if_pos hn, if_pos hn, loopR_err (by simp [failR])]; simp [outR, failR]
      ·rw [if_neg hn, if_neg hn]
       have h2 := loopR_rd (fun b hb => ih.1 b hb) (fun b i r hb he => ih.2 b i r hb he) (valA 0 (b.take 4)).toNat (b.drop 4) [] (isB_drop hb' 4)
       cases hr : rdL g (valA 0 (b.take 4)).toNat (b.drop 4) with
       | error e => rw [hr] at h2; exact h2
       | ok p => obtain ⟨l2, r2⟩ := p; rw [hr] at h2; simp only [] at h2; simp [outR, h2]
  ·have : k < 1 ∨ k > 3 ∨ (k = 3 ∧ f.isNone = true) := by omega
   rw [if_pos this]
   simp [e1, e2, e3, outR, failR]
theorem itemN_rd : ∀ (d : Nat) (b : List Int), isB b → outR (itemN d ⟨b, 0⟩) (rdI d b)
 | 0, b, hb => itemG_rd (f := none) (g := none) trivial b hb
 | d + 1, b, hb => itemG_rd (f := some (itemN d)) (g := some (rdI d)) ⟨fun b hb => itemN_rd d b hb, fun b i r hb h x hx => hb x (by rw [(rdI_back d b i r hb h).1]; simp [hx])⟩ b hb
theorem takeR_isB {r : S_encode_reader} {n : Int} (h : isB r.b) : isB (takeR r n).2.b := by
 unfold takeR
 split
 ·unfold failR; split <;> exact h
 ·exact isB_drop h _
theorem failR_isB {r : S_encode_reader} {e : Int} (h : isB r.b) : isB (failR r e).b := by unfold failR; split <;> exact h
theorem loopR_isB {f : S_encode_reader → S_api_Item × S_encode_reader} (hf : ∀ r, isB r.b → isB (f r).2.b) : ∀ {n : Nat} {l : List S_api_Item} {r : S_encode_reader}, isB r.b → isB (loopR f n l r).2.b
 | 0, _, _, h => h
 | n + 1, l, r, h => by
  simp only [loopR]
  split
  ·exact h
  ·exact loopR_isB hf (hf r h)
theorem itemG_isB {f : Option (S_encode_reader → S_api_Item × S_encode_reader)} (hf : ∀ g, f = some g → ∀ r, isB r.b → isB (g r).2.b) {r : S_encode_reader} (h : isB r.b) : isB (itemG f r).2.b := by
 have h1 : isB (numR r 1).2.b := takeR_isB h
 simp only [itemG]
 split
 ·exact failR_isB h1
 split
 ·exact takeR_isB h1
 split
 ·exact takeR_isB (takeR_isB h1)
 cases f with
 | none => intro x hx; cases hx
 | some g =>
  refine loopR_isB (hf g rfl) ?_
  split
  ·exact failR_isB (takeR_isB h1)
  ·exact takeR_isB h1
theorem itemN_isB : ∀ {d : Nat} {r : S_encode_reader}, isB r.b → isB (itemN d r).2.b
 | 0, _, h => itemG_isB (fun g e => by cases e) h
 | d + 1, _, h => itemG_isB (fun g e r hr => by cases e; exact itemN_isB hr) h
theorem item_isB {r : S_encode_reader} {x : S_api_Item × S_encode_reader} {d : Int} (e : x = itemM r d) (h : isB r.b) : isB x.2.b := by rw [e]; exact itemN_isB h
theorem isB_wf : ∀ {l : List Int}, wfL (l.map (V.int .u8)) → isB l
 | [], _ => by simp [isB]
 | a :: l, h => by
  simp only [List.map_cons, wfL, wfV, rng_u8] at h
  intro x hx
  rcases List.mem_cons.1 hx with rfl | hx
  ·exact h.1
  ·exact isB_wf h.2 x hx
mutual
def writeM : List Int → S_api_Item → List Int
 | out, ⟨k, n, b, l⟩ => if out.length > 16384 then out else if k == 1 then out ++ (1 :: be 8 n) else if k == 2 then out ++ (2 :: be 4 b.length) ++ b else writeL (out ++ (k % 256 :: be 4 l.length)) l
def writeL : List Int → List S_api_Item → List Int
 | out, [] => out
 | out, x :: l => writeL (writeM out x) l
end
theorem writeM_long {out : List Int} (h : 16384 < out.length) (i : S_api_Item) : writeM out i = out := by
 cases i; simp only [writeM]; rw [if_pos h]
theorem writeL_long : ∀ {l : List S_api_Item} {out : List Int}, 16384 < out.length → writeL out l = out
 | [], _, _ => rfl
 | x :: l, out, h => by simp only [writeL]; rw [writeM_long h]; exact writeL_long h
mutual
theorem writeM_enc : ∀ (i : S_api_Item) (out : List Int) (d : Int), withinM i d = true → writeM out i = out ++ encI i ∨ (16384 < (writeM out i).length ∧ 16384 < (out ++ encI i).length)
 | ⟨k, n, b, l⟩, out, d, h => by
  by_cases hl : out.length > 16384
  ·refine .inr ⟨?_, by simp; omega⟩
   rw [writeM_long hl]; exact hl
  simp only [writeM, if_neg hl, encI]
  simp only [withinM] at h
  by_cases e1 : k = 1
  ·subst e1; simp
  by_cases e2 : k = 2
  ·subst e2; simp
  by_cases e3 : k = 3
  ·subst e3
   simp at h
   have := writeL_enc l (out ++ (3 :: be 4 l.length)) (d - 1) h.2.2.2.2
   simpa using this
  ·simp [e1, e2, e3] at h
theorem writeL_enc : ∀ (l : List S_api_Item) (out : List Int) (d : Int), withinL l d = true → writeL out l = out ++ encL l ∨ (16384 < (writeL out l).length ∧ 16384 < (out ++ encL l).length)
 | [], out, d, _ => .inl (by simp [writeL, encL])
 | x :: l, out, d, h => by
  simp only [withinL, Bool.and_eq_true] at h
  simp only [writeL, encL]
  rcases writeM_enc x out d h.1 with e | ⟨e1, e2⟩
  ·rw [e]
   have := writeL_enc l (out ++ encI x) d h.2
   simpa using this
  ·refine .inr ⟨by rw [writeL_long e1]; exact e1, ?_⟩
   simp at e2 ⊢; omega
end
def okSp (s : S_api_Spend) : Prop := s.Leaves.length ≤ 100000000 ∧ s.Path.L.length ≤ 100000000
end Go.Proofs.Ytcbdmoihobdjaaa
