import Derived.Test.YtcbdmoihobdjaaaH1
namespace Go.Proofs.Ytcbdmoihobdjaaa
open Go.RowKit
def intI (n : Int) : S_api_Item := ⟨1, n, [], []⟩
def intsI (l : List Int) : S_api_Item := ⟨3, 0, [], l.map intI⟩
def bytI (b : List Int) : S_api_Item := ⟨2, 0, b, []⟩
def listI (l : List S_api_Item) : S_api_Item := ⟨3, 0, [], l⟩
theorem Ints_eq (l : List Int) : encode_Ints l = intsI l := by
 unfold encode_Ints
 exact iter_map0 (E := fun p => listI p.2) intI (fun ag p => rfl)
theorem valid_eq (i : S_api_Item) : encode_Valid i = withinM i 8 := rfl
mutual
theorem within_mono : ∀ (i : S_api_Item) {d e : Int}, d ≤ e → withinM i d = true → withinM i e = true
 | ⟨k, n, b, l⟩, d, e, h, hw => by
  simp only [withinM] at hw ⊢
  by_cases e1 : k = 1
  ·subst e1; simpa using hw
  by_cases e2 : k = 2
  ·subst e2; simpa using hw
  by_cases e3 : k = 3
  ·subst e3
   simp at hw ⊢
   exact ⟨hw.1, hw.2.1, by omega, hw.2.2.2.1, within_monoL l (by omega) hw.2.2.2.2⟩
  ·simp [e1, e2, e3] at hw
theorem within_monoL : ∀ (l : List S_api_Item) {d e : Int}, d ≤ e → withinL l d = true → withinL l e = true
 | [], _, _, _, _ => rfl
 | x :: l, d, e, h, hw => by
  simp only [withinL, Bool.and_eq_true] at hw ⊢
  exact ⟨within_mono x h hw.1, within_monoL l h hw.2⟩
end
theorem within_list {l : List S_api_Item} {d : Int} (h : withinM (listI l) d = true) : l.length ≤ 1000 ∧ ∀ x ∈ l, withinM x (d - 1) = true := by
 simp only [listI, withinM] at h
 simp at h
 refine ⟨h.2.1, ?_⟩
 rw [withinL_all] at h
 exact List.all_eq_true.1 h.2.2
theorem within_kind3 {i : S_api_Item} {d : Int} (h : withinM i d = true) (hk : i.Kind = 3) : i = listI i.L := by
 obtain ⟨k, n, b, l⟩ := i
 simp only at hk
 subst hk
 simp [withinM] at h
 obtain ⟨rfl, rfl, _⟩ := h
 rfl
theorem within_kind1 {i : S_api_Item} {d : Int} (h : withinM i d = true) (hk : i.Kind = 1) : i = intI i.N := by
 obtain ⟨k, n, b, l⟩ := i
 simp only at hk
 subst hk
 simp [withinM] at h
 obtain ⟨rfl, rfl⟩ := h
 rfl
theorem within_kind2 {i : S_api_Item} {d : Int} (h : withinM i d = true) (hk : i.Kind = 2) : i = bytI i.B := by
 obtain ⟨k, n, b, l⟩ := i
 simp only at hk
 subst hk
 simp [withinM] at h
 obtain ⟨rfl, rfl⟩ := h
 rfl
def readL {α : Type} (f : S_api_Item → Option α) : List S_api_Item → Option (List α)
 | [] => some []
 | x :: l => match f x with
  | none => none
  | some a => match readL f l with
   | none => none
   | some m => some (a :: m)
def optE {α β : Type} (z : β) (f : α → β) : Option α → β
 | none => z
 | some a => f a
theorem foldE_read {α R : Type} {f : S_api_Item → Option α} {E : List α → R} {z : R} : ∀ {l : List S_api_Item} {s : List α},
  foldE (fun a s => optE (.inr z) (fun y => .inl (s ++ [y])) (f a)) E l s = optE z (fun m => E (s ++ m)) (readL f l)
 | [], s => by simp [foldE, readL, optE]
 | a :: l, s => by
  simp only [foldE, readL]
  cases f a with
  | none => rfl
  | some y =>
   have ih := foldE_read (f := f) (E := E) (z := z) (l := l) (s := s ++ [y])
   refine ih.trans ?_
   cases readL f l <;> simp [optE]
def intF (a : S_api_Item) : Option Int := if a.Kind = 1 then some a.N else none
theorem Numbers_eq (i : S_api_Item) : encode_Numbers i = if withinM i 8 = false then ([], (1 : Int)) else if i.Kind ≠ 3 then ([], 3) else optE ([], (3 : Int)) (fun l => (l, 0)) (readL intF i.L) := by
 rw [Numbers_eqM, valid_eq]
 split
 ·rfl
 split
 ·rfl
 have : (fun (a : S_api_Item) (s : List Int) => if (a.Kind != 1) = true then Sum.inr (([] : List Int), (3 : Int)) else Sum.inl (s ++ [a.N])) = (fun a s => optE (.inr (([] : List Int), (3 : Int))) (fun y => .inl (s ++ [y])) (intF a)) := by
  funext a s
  unfold intF
  by_cases h : a.Kind = 1 <;> simp [h, optE]
 rw [this, foldE_read]
 rfl
theorem readL_back {α : Type} {f : S_api_Item → Option α} {g : α → S_api_Item} : ∀ {l : List S_api_Item} {m : List α}, (∀ x ∈ l, ∀ a, f x = some a → x = g a) → readL f l = some m → l = m.map g
 | [], m, _, h => by cases h; rfl
 | x :: l, m, hf, h => by
  simp only [readL] at h
  cases hx : f x with
  | none => rw [hx] at h; cases h
  | some a =>
   rw [hx] at h
   cases hl : readL f l with
   | none => rw [hl] at h; cases h
   | some m' =>
    rw [hl] at h; cases h
    rw [List.map_cons, ← readL_back (fun y hy => hf y (by simp [hy])) hl, ← hf x (by simp) a hx]
theorem Numbers_back {i : S_api_Item} {l : List Int} (h : encode_Numbers i = (l, 0)) : i = intsI l ∧ withinM i 8 = true := by
 rw [Numbers_eq] at h
 split at h
 ·simp at h
 rename_i hv
 have hv : withinM i 8 = true := by simpa using hv
 split at h
 ·simp at h
 rename_i hk
 have hk : i.Kind = 3 := by simpa using hk
 cases hr : readL intF i.L with
 | none => rw [hr] at h; simp [optE] at h
 | some m =>
  rw [hr] at h
  cases h
  have e := within_kind3 hv hk
  have hsub := (within_list (e ▸ hv)).2
  refine ⟨?_, hv⟩
  rw [e, readL_back (g := intI) (fun x hx a hfa => ?_) hr]; rfl
  unfold intF at hfa
  split at hfa
  ·rename_i hk1; cases hfa; exact within_kind1 (hsub x hx) hk1
  ·cases hfa
theorem Numbers_dec {i : S_api_Item} {x : List Int × Int} (hx : encode_Numbers i = x) (h : x.2 = 0) : i = intsI x.1 := (Numbers_back (l := x.1) (by rw [hx, ← h])).1
theorem list3 {α : Type} [Inhabited α] {l : List α} (h : l.length = 3) : l = [gt l 0, gt l 1, gt l 2] := by
 match l, h with
 | [a, b, c], _ => rfl
theorem list4 {α : Type} [Inhabited α] {l : List α} (h : l.length = 4) : l = [gt l 0, gt l 1, gt l 2, gt l 3] := by
 match l, h with
 | [a, b, c, d], _ => rfl
theorem list2 {α : Type} [Inhabited α] {l : List α} (h : l.length = 2) : l = [gt l 0, gt l 1] := by
 match l, h with
 | [a, b], _ => rfl
theorem list5 {α : Type} [Inhabited α] {l : List α} (h : l.length = 5) : l = [gt l 0, gt l 1, gt l 2, gt l 3, gt l 4] := by
 match l, h with
 | [a, b, c, d, e], _ => rfl
theorem list6 {α : Type} [Inhabited α] {l : List α} (h : l.length = 6) : l = [gt l 0, gt l 1, gt l 2, gt l 3, gt l 4, gt l 5] := by
 match l, h with
 | [a, b, c, d, e, f], _ => rfl
theorem arrN_arrN {α : Type} [Inhabited α] {l : List α} {n : Nat} : arrN n (arrN n l) = arrN n l := arrN_full arrN_len
theorem writer_ints_eq (w : S_coin_writer) (l : List Int) : coin_writer_ints w l = ⟨w.l ++ [intsI l]⟩ := by
 unfold coin_writer_ints
 simp only [letk, Ints_eq]
theorem writer_bytes_eq (w : S_coin_writer) (b : List Int) : coin_writer_bytes w b = ⟨w.l ++ [bytI b]⟩ := by
 unfold coin_writer_bytes
 simp only [letk]; rfl
def coinI (c : S_api_Coin) : S_api_Item := listI [intsI [c.Bank, c.Epoch, c.Denom, c.Depth, c.A], bytI (arrN 32 c.Root), intsI [c.Sign.Z, c.Sign.A, c.Sign.B, c.Sign.R]]
theorem coinItem_eq (c : S_api_Coin) : coin_Item c = coinI c := by
 unfold coin_Item
 simp only [letk, writer_ints_eq, writer_bytes_eq]
 rfl
theorem coin_back {i : S_api_Item} {x : S_api_Coin × Int} (hx : coin_FromItem i = x) (h : x.2 = 0) : i = coinI x.1 ∧ x.1.Root.length = 32 := by
 obtain ⟨c, e⟩ := x
 simp only at h; subst h
 unfold coin_FromItem at hx
 simp only [letk, valid_eq] at hx
 have hv : withinM i 8 = true := by
  cases hv : withinM i 8 with
  | true => rfl
  | false => simp [hv] at hx
 simp only [hv, Bool.not_true, Bool.false_eq_true, if_false] at hx
 split at hx
 ·simp at hx
 rename_i h1
 split at hx
 ·simp at hx
 rename_i h2
 split at hx
 ·simp at hx
 rename_i h3
 split at hx
 ·simp at hx
 rename_i h4
 split at hx
 ·simp at hx
 rename_i h5
 split at hx
 ·simp at hx
 rename_i h6
 split at hx
 ·simp at hx
 rename_i h7
 split at hx
 ·simp at hx
 rename_i h8
 simp at h1 h2 h3 h4 h5 h6 h7 h8
 have hl : i.L.length = 3 := by omega
 have ei := within_kind3 hv h1
 have hsub := (within_list (ei ▸ hv)).2
 have e3 := list3 hl
 have g0 := Numbers_dec rfl h3
 have g2 := Numbers_dec rfl h4
 have m1 : gt i.L 1 ∈ i.L := gt_mem (by omega)
 have g1 := within_kind2 (hsub _ m1) h7
 have hB : (gt i.L 1).B.length = 32 := by omega
 have l5 := list5 (l := (encode_Numbers (gt i.L 0)).1) (by omega)
 have l4 := list4 (l := (encode_Numbers (gt i.L 2)).1) (by omega)
 simp only [Prod.mk.injEq, and_true] at hx
 subst hx
 refine ⟨?_, by simp [arrN_len]⟩
 have key : ∀ q : S_api_Coin, q.Root = arrN 32 (gt i.L 1).B → intsI [q.Bank, q.Epoch, q.Denom, q.Depth, q.A] = gt i.L 0 → intsI [q.Sign.Z, q.Sign.A, q.Sign.B, q.Sign.R] = gt i.L 2 → i = coinI q := by
  intro q r1 r2 r3
  unfold coinI
  rw [r1, r2, r3, arrN_full hB, arrN_full hB, ← g1, ← e3]
  exact ei
 refine key _ rfl ?_ ?_
 ·show intsI [_, _, _, _, _] = _
  rw [← l5, ← g0]
 ·show intsI [_, _, _, _] = _
  rw [← l4, ← g2]
theorem within_of_list {l : List S_api_Item} {d : Int} (h : withinM (listI l) d = true) (hd : d ≤ 9) : ∀ x ∈ l, withinM x 8 = true := fun x hx => within_mono x (by omega) ((within_list h).2 x hx)
def leavesF (l : List S_api_Leaf) : List Int := l.flatMap fun x => [x.B, x.R1, x.R2]
def spendI (s : S_api_Spend) : S_api_Item := listI [coinI s.Coin, intsI [s.Node.Level, s.Node.Index], bytI (arrN 32 s.Context.Payee), intsI [s.Context.Time, s.Context.Number], intsI (leavesF s.Leaves), listI (intI s.Path.Index :: s.Path.L.map fun h => bytI (arrN 32 h))]
theorem spendBytes_eq (h : List Int) : spend_bytes h = bytI (arrN 32 h) := rfl
theorem foldl_app {α β : Type} {g : α → List β} : ∀ {l : List α} {s : List β}, l.foldl (fun s a => s ++ g a) s = s ++ l.flatMap g
 | [], s => by simp
 | a :: l, s => by rw [List.foldl_cons, foldl_app (l := l)]; simp
theorem spendItem_eq (s : S_api_Spend) : spend_Item s = spendI s := by
 unfold spend_Item
 simp only [letk, spendBytes_eq, Ints_eq, coinItem_eq, spend_list]
 rw [iter_run (l := s.Leaves) (fun a s => .inl (s ++ [a.B, a.R1, a.R2])) (fun q => iter (((s.Path.L.length : Int) - 0).toNat + 1) (fun (ag4 : (Int × List S_api_Item) → S_api_Item) (p4 : Int × List S_api_Item) => (if (decide (p4.1 < (s.Path.L.length : Int))) then ag4 ((p4.1 + 1), (p4.2 ++ ([bytI (arrN 32 (gt s.Path.L p4.1))] : List S_api_Item))) else ⟨3, 0, [], [coinI s.Coin, intsI [s.Node.Level, s.Node.Index], bytI (arrN 32 s.Context.Payee), intsI [s.Context.Time, s.Context.Number], intsI q, ⟨3, 0, [], p4.2⟩]⟩)) (fun _ => default) (0, [⟨1, s.Path.Index, [], []⟩])) (fun ag i q => by by_cases h : i < (s.Leaves.length : Int) <;> simp [h]), foldE_l, foldl_app]
 rw [iter_run (l := s.Path.L) (fun a q => .inl (q ++ [bytI (arrN 32 a)])) (fun q => ⟨3, 0, [], [coinI s.Coin, intsI [s.Node.Level, s.Node.Index], bytI (arrN 32 s.Context.Payee), intsI [s.Context.Time, s.Context.Number], intsI ([] ++ s.Leaves.flatMap fun x => [x.B, x.R1, x.R2]), ⟨3, 0, [], q⟩]⟩) (fun ag i q => by by_cases h : i < (s.Path.L.length : Int) <;> simp [h]), foldE_l, foldl_app]
 simp only [List.nil_append]
 have : (s.Path.L.flatMap fun a => [bytI (arrN 32 a)]) = s.Path.L.map fun h => bytI (arrN 32 h) := by
  induction s.Path.L with
  | nil => rfl
  | cons x l ih => rw [List.flatMap_cons, ih]; rfl
 rw [this]
 rfl
theorem payList_S (l : List S_api_Spend) : payment_list_api_Spend_at_spend_Item l = listI (l.map spendI) := by
 unfold payment_list_api_Spend_at_spend_Item
 simp only [letk, spendItem_eq]
 exact iter_map0 (E := fun p => listI p.2) spendI (fun ag p => rfl)
def chainI (h : S_api_Chain) : S_api_Item := listI [spendI h.First, listI (h.L.map spendI)]
theorem chainItem_eq (h : S_api_Chain) : payment_chainItem h = chainI h := by
 unfold payment_chainItem
 simp only [letk, spendItem_eq, payList_S]
 rfl
theorem payList_C (l : List S_api_Chain) : payment_list_api_Chain_at_payment_chainItem l = listI (l.map chainI) := by
 unfold payment_list_api_Chain_at_payment_chainItem
 simp only [letk, chainItem_eq]
 exact iter_map0 (E := fun p => listI p.2) chainI (fun ag p => rfl)
def escrowI (x : S_api_Escrow) : S_api_Item := listI [intsI [x.E1, x.E2], intsI x.Proof.A, intI x.Proof.C, intsI x.Proof.Z]
theorem escrowItem_eq (x : S_api_Escrow) : escrow_Item x = escrowI x := by
 unfold escrow_Item
 simp only [letk, Ints_eq]
 rfl
theorem payList_E (l : List S_api_Escrow) : payment_list_api_Escrow_at_escrow_Item l = listI (l.map escrowI) := by
 unfold payment_list_api_Escrow_at_escrow_Item
 simp only [letk, escrowItem_eq]
 exact iter_map0 (E := fun p => listI p.2) escrowI (fun ag p => rfl)
def payI (p : S_api_Payment) : S_api_Item := listI [intI p.Number, listI (p.Spends.map spendI), listI (p.Chains.map chainI), listI (p.Escrow.map escrowI)]
theorem payItem_eq (p : S_api_Payment) : payItem p = payI p := by
 unfold payItem
 rw [payList_S, payList_C, payList_E]; rfl
def leaves3 : List Int → List S_api_Leaf
 | a :: b :: c :: l => ⟨a, b, c⟩ :: leaves3 l
 | _ => []
theorem leavesF_3 : ∀ {k : Nat} {l : List Int}, l.length = 3 * k → leavesF (leaves3 l) = l
 | 0, l, h => by
  have : l = [] := List.eq_nil_of_length_eq_zero (by omega)
  subst this; rfl
 | k + 1, a :: b :: c :: l, h => by
  simp only [leaves3, leavesF, List.flatMap_cons, List.cons_append, List.nil_append]
  rw [show (leaves3 l).flatMap (fun x => [x.B, x.R1, x.R2]) = leavesF (leaves3 l) from rfl, leavesF_3 (k := k) (by simp at h; omega)]
 | k + 1, [], h => by simp at h
 | k + 1, [_], h => by simp at h; omega
 | k + 1, [_, _], h => by simp at h; omega
theorem leaves_loop {R : Type} {l : List Int} {E : Int × List S_api_Leaf → R} {F : (Int × List S_api_Leaf → R) → Int × List S_api_Leaf → R} {d : Int × List S_api_Leaf → R} {m : Nat} (hm : l.length = 3 * m)
  (hF : ∀ ag p, F ag p = if decide (p.1 < (l.length : Int)) = true then ag (p.1 + 3, p.2 ++ [⟨gt l p.1, gt l (p.1 + 1), gt l (p.1 + 2)⟩]) else E p) :
  ∀ (fuel k : Nat) (a : List S_api_Leaf), k ≤ m → l.length - 3 * k < fuel → iter fuel F d (((3 * k : Nat) : Int), a) = E ((l.length : Int), a ++ leaves3 (l.drop (3 * k))) := by
 intro fuel
 induction fuel with
 | zero => intro k a _ h; omega
 | succ n ih =>
  intro k a hl h
  rw [iter, hF]
  by_cases hk : k < m
  ·rw [if_pos (decide_eq_true (show ((3 * k : Nat) : Int) < _ by omega))]
   have := ih (k + 1) (a ++ [⟨gt l ((3 * k : Nat) : Int), gt l (((3 * k : Nat) : Int) + 1), gt l (((3 * k : Nat) : Int) + 2)⟩]) (by omega) (by omega)
   rw [show ((3 * (k + 1) : Nat) : Int) = ((3 * k : Nat) : Int) + 3 by omega] at this
   show iter n F d (((3 * k : Nat) : Int) + 3, _) = _
   rw [this]
   have h0 : 3 * k < l.length := by omega
   have h1 : 3 * k + 1 < l.length := by omega
   have h2 : 3 * k + 2 < l.length := by omega
   have e0 : gt l ((3 * k : Nat) : Int) = l[3 * k] := by rw [gt_nat]; simp [List.getD_eq_getElem?_getD, h0]
   have e1 : gt l (((3 * k : Nat) : Int) + 1) = l[3 * k + 1] := by rw [show ((3 * k : Nat) : Int) + 1 = ((3 * k + 1 : Nat) : Int) by omega, gt_nat]; simp [List.getD_eq_getElem?_getD, h1]
   have e2 : gt l (((3 * k : Nat) : Int) + 2) = l[3 * k + 2] := by rw [show ((3 * k : Nat) : Int) + 2 = ((3 * k + 2 : Nat) : Int) by omega, gt_nat]; simp [List.getD_eq_getElem?_getD, h2]
   rw [List.drop_eq_getElem_cons h0, List.drop_eq_getElem_cons h1, List.drop_eq_getElem_cons h2, e0, e1, e2]
   simp only [leaves3, List.append_assoc, List.singleton_append]
   rw [show 3 * k + 2 + 1 = 3 * (k + 1) by omega]
  ·have e : k = m := by omega
   subst e
   rw [if_neg (by simp; omega), List.drop_eq_nil_of_le (by omega)]
   rw [show ((3 * k : Nat) : Int) = (l.length : Int) by omega]
   simp [leaves3]
theorem foldE_read2 {α τ R : Type} {f : S_api_Item → Option α} {E : τ × List α → R} {z : R} {t : τ} : ∀ {l : List S_api_Item} {s : List α},
  foldE (fun a (s : τ × List α) => optE (.inr z) (fun y => .inl (s.1, s.2 ++ [y])) (f a)) E l (t, s) = optE z (fun m => E (t, s ++ m)) (readL f l)
 | [], s => by simp [foldE, readL, optE]
 | a :: l, s => by
  simp only [foldE, readL]
  cases f a with
  | none => rfl
  | some y =>
   have ih := foldE_read2 (f := f) (E := E) (z := z) (t := t) (l := l) (s := s ++ [y])
   refine ih.trans ?_
   cases readL f l <;> simp [optE]
theorem spend_hash_eq (i : S_api_Item) : spend_hash i = if i.Kind == 2 && decide (i.B.length = 32) then (arrN 32 i.B, true) else ([0, 0, 0, 0, 0, 0, 0, 0, 0, 0, 0, 0, 0, 0, 0, 0, 0, 0, 0, 0, 0, 0, 0, 0, 0, 0, 0, 0, 0, 0, 0, 0], false) := by
 unfold spend_hash
 by_cases h1 : i.Kind = 2
 ·by_cases h2 : i.B.length = 32
  ·have h3 : spl ([0, 0, 0, 0, 0, 0, 0, 0, 0, 0, 0, 0, 0, 0, 0, 0, 0, 0, 0, 0, 0, 0, 0, 0, 0, 0, 0, 0, 0, 0, 0, 0] : List Int) 0 (min 32 i.B.length) i.B = i.B := by
    rw [h2]; simp only [spl, Nat.min_self, List.take_zero, List.nil_append, Nat.zero_add]
    rw [← h2, List.take_length, h2]; simp
   rw [h3]; simp [h1, h2]
  ·have h4 : ¬ (i.B.length : Int) = 32 := by omega
   simp [h1, h2, h4]
 ·simp [h1]
def hashF (a : S_api_Item) : Option (List Int) := if (spend_hash a).2 = true then some (spend_hash a).1 else none
theorem hashF_back {i : S_api_Item} {h : List Int} (hw : withinM i 8 = true) (e : hashF i = some h) : i = bytI (arrN 32 h) ∧ h.length = 32 := by
 unfold hashF at e
 rw [spend_hash_eq] at e
 split at e
 ·rename_i h2
  simp only [Bool.and_eq_true, beq_iff_eq, decide_eq_true_eq] at h2
  simp at e
  subst e
  refine ⟨?_, arrN_len⟩
  rw [arrN_arrN, arrN_full h2.2]
  exact within_kind2 hw h2.1
 ·simp at e
theorem pair_back {i : S_api_Item} {a b : Int} (h : spend_pair i = (a, b, true)) : i = intsI [a, b] := by
 unfold spend_pair at h
 simp only [letk] at h
 split at h
 ·simp at h
 rename_i h1
 split at h
 ·simp at h
 rename_i h2
 simp at h1 h2 h
 have := Numbers_dec rfl h1
 have l2 := list2 (l := (encode_Numbers i).1) (by omega)
 rw [h.1, h.2] at l2
 rw [this, l2]
theorem sl_tail {α : Type} {l : List α} : sl l 1 (l.length : Int) = l.drop 1 := by
 simp only [sl, Int.toNat_natCast]
 exact List.take_of_length_le (by simp)
theorem path_loop {t : List S_api_Item} {q : S_api_Spend} {E : S_api_Spend × List (List Int) → S_api_Spend × Int} :
  iter (((t.length : Int) - 0).toNat + 1) (fun (ag : (Int × S_api_Spend × List (List Int)) → (S_api_Spend × Int)) p => if decide (p.1 < (t.length : Int)) = true then (if (!(spend_hash (gt t p.1)).2) = true then (z_api_Spend, 3) else ag (p.1 + 1, p.2.1, p.2.2 ++ [(spend_hash (gt t p.1)).1])) else E p.2) (fun _ => default) (0, q, []) = optE (z_api_Spend, (3 : Int)) (fun m => E (q, m)) (readL hashF t) := by
 have := iter_run (l := t) (d := fun _ => default) (F := fun (ag : (Int × S_api_Spend × List (List Int)) → (S_api_Spend × Int)) p => if decide (p.1 < (t.length : Int)) = true then (if (!(spend_hash (gt t p.1)).2) = true then (z_api_Spend, 3) else ag (p.1 + 1, p.2.1, p.2.2 ++ [(spend_hash (gt t p.1)).1])) else E p.2) (s := (q, []))
  (fun a (s : S_api_Spend × List (List Int)) => optE (.inr (z_api_Spend, (3 : Int))) (fun y => .inl (s.1, s.2 ++ [y])) (hashF a)) E (fun ag j s => by
   by_cases h : j < (t.length : Int)
   ·cases h2 : (spend_hash (gt t j)).2 <;> simp [h, h2, hashF, optE]
   ·simp [h])
 refine this.trans (foldE_read2.trans ?_)
 simp
theorem ifz {α : Type} {c : Prop} [Decidable c] {a b : α × Int} {s : α} (h : (if c then a else b) = (s, 0)) (ha : a.2 ≠ 0) : ¬ c ∧ b = (s, 0) := by
 by_cases hc : c
 ·rw [if_pos hc] at h; exact absurd (congrArg Prod.snd h) ha
 ·rw [if_neg hc] at h; exact ⟨hc, h⟩
theorem spend_back {i : S_api_Item} {s : S_api_Spend} (hx : spend_FromItem i = (s, 0)) : i = spendI s ∧ withinM i 8 = true := by
 unfold spend_FromItem at hx
 obtain ⟨x1, e1, hx⟩ := letk_opn hx
 obtain ⟨h1, hx⟩ := ifz hx (by simp)
 obtain ⟨h2, hx⟩ := ifz hx (by simp)
 obtain ⟨h3, hx⟩ := ifz hx (by simp)
 obtain ⟨x8, e8, hx⟩ := letk_opn hx
 obtain ⟨x12, e12, hx⟩ := letk_opn hx
 obtain ⟨x16, e16, hx⟩ := letk_opn hx
 obtain ⟨x20, e20, hx⟩ := letk_opn hx
 obtain ⟨x24, e24, hx⟩ := letk_opn hx
 obtain ⟨h4, hx⟩ := ifz hx (by simp)
 obtain ⟨h5, hx⟩ := ifz hx (by simp)
 obtain ⟨h6, hx⟩ := ifz hx (by simp)
 obtain ⟨h7, hx⟩ := ifz hx (by simp)
 obtain ⟨h8, hx⟩ := ifz hx (by simp)
 obtain ⟨h9, hx⟩ := ifz hx (by simp)
 obtain ⟨h10, hx⟩ := ifz hx (by simp)
 obtain ⟨h11, hx⟩ := ifz hx (by simp)
 obtain ⟨h12, hx⟩ := ifz hx (by simp)
 simp only [sl_tail] at hx
 rw [remI_nn] at h9
 simp at h1 h2 h3 h4 h5 h6 h7 h8 h9 h10 h11 h12
 have hv : withinM i 8 = true := by rw [← valid_eq, ← e1]; exact h1
 refine ⟨?_, hv⟩
 have hl : i.L.length = 6 := by omega
 have ei := within_kind3 hv h2
 have hsub := fun x hx => within_of_list (ei ▸ hv) (by omega) x hx
 have e6 := list6 hl
 have c0 := (coin_back e8.symm h4).1
 have c1 := pair_back (i := gt i.L 1) (a := x12.1) (b := x12.2.1) (by rw [← e12, ← h5])
 have c3 := pair_back (i := gt i.L 3) (a := x20.1) (b := x20.2.1) (by rw [← e20, ← h7])
 have c2 := hashF_back (i := gt i.L 2) (h := x16.1) (hsub _ (gt_mem (by omega))) (by simp [hashF, ← e16, h6])
 have c4 := Numbers_dec e24.symm h8
 have w5 := hsub _ (gt_mem (l := i.L) (i := 5) (by omega))
 have k5 := within_kind3 w5 h10
 have hsub5 := fun x hx => within_of_list (k5 ▸ w5) (by omega) x hx
 obtain ⟨m, hm⟩ : ∃ m, x24.1.length = 3 * m := ⟨x24.1.length / 3, by omega⟩
 have hx2 := (leaves_loop (l := x24.1) (m := m) hm (d := fun _ => default) (fun ag p => rfl) (((x24.1.length : Int) - 0).toNat + 1) 0 [] (by omega) (by omega)).symm.trans hx
 simp only [List.nil_append, Nat.mul_zero, List.drop_zero] at hx2
 have hx3 := (path_loop (t := (gt i.L 5).L.drop 1) (q := z_api_Spend) (E := fun p => (⟨x8.1, ⟨x12.1, x12.2.1⟩, ⟨x16.1, x20.1, x20.2.1⟩, leaves3 x24.1, ⟨(gt (gt i.L 5).L 0).N, p.2⟩⟩, 0))).symm.trans hx2
 cases hr : readL hashF ((gt i.L 5).L.drop 1) with
 | none =>
  rw [hr] at hx3
  exact absurd (congrArg Prod.snd hx3) (by simp [optE])
 | some hs =>
  rw [hr] at hx3
  have hx4 := congrArg Prod.fst hx3
  simp only [optE] at hx4
  have r5 := readL_back (g := fun h => bytI (arrN 32 h)) (fun x hx a ha => (hashF_back (hsub5 x (List.mem_of_mem_drop hx)) ha).1) hr
  have p0 : gt (gt i.L 5).L 0 = intI (gt (gt i.L 5).L 0).N := within_kind1 (hsub5 _ (gt_mem (by
   have : (gt i.L 5).L.length ≠ 0 := by simpa using h11
   omega))) h12
  have p1 : (gt i.L 5).L = gt (gt i.L 5).L 0 :: (gt i.L 5).L.drop 1 := by
   cases hL : (gt i.L 5).L with
   | nil => simp [hL] at h11
   | cons a l => rfl
  have q5 : gt i.L 5 = listI (intI (gt (gt i.L 5).L 0).N :: hs.map fun h => bytI (arrN 32 h)) := by
   rw [← r5, ← p0, ← p1]; exact k5
  rw [← hx4]
  have key : spendI ⟨x8.1, ⟨x12.1, x12.2.1⟩, ⟨x16.1, x20.1, x20.2.1⟩, leaves3 x24.1, ⟨(gt (gt i.L 5).L 0).N, hs⟩⟩ = listI [gt i.L 0, gt i.L 1, gt i.L 2, gt i.L 3, gt i.L 4, gt i.L 5] := by
   unfold spendI
   simp only
   rw [← c0, ← c1, ← c2.1, ← c3, leavesF_3 hm, ← c4, ← q5]
  rw [key, ← e6]; exact ei
theorem letk_go {α β : Type} {a : α} {f : α → β} {r : β} (h : ∀ x, x = a → f x = r) : letk a f = r := h a rfl
theorem escrow_back {i : S_api_Item} {x : S_api_Escrow} (hx : escrow_FromItem i = (x, 0)) : i = escrowI x ∧ withinM i 8 = true := by
 unfold escrow_FromItem at hx
 obtain ⟨x1, e1, hx⟩ := letk_opn hx
 obtain ⟨h1, hx⟩ := ifz hx (by simp)
 obtain ⟨h2, hx⟩ := ifz hx (by simp)
 obtain ⟨h3, hx⟩ := ifz hx (by simp)
 obtain ⟨h4, hx⟩ := ifz hx (by simp)
 obtain ⟨x10, e10, hx⟩ := letk_opn hx
 obtain ⟨x14, e14, hx⟩ := letk_opn hx
 obtain ⟨x18, e18, hx⟩ := letk_opn hx
 obtain ⟨h5, hx⟩ := ifz hx (by simp)
 obtain ⟨h6, hx⟩ := ifz hx (by simp)
 obtain ⟨h7, hx⟩ := ifz hx (by simp)
 obtain ⟨h8, hx⟩ := ifz hx (by simp)
 simp at h1 h2 h3 h4 h5 h6 h7 h8
 have hv : withinM i 8 = true := by rw [← valid_eq, ← e1]; exact h1
 refine ⟨?_, hv⟩
 have ei := within_kind3 hv h2
 have hsub := fun x hx => within_of_list (ei ▸ hv) (by omega) x hx
 have c0 := Numbers_dec e10.symm h5
 have c1 := Numbers_dec e14.symm h6
 have c3 := Numbers_dec e18.symm h7
 have c2 := within_kind1 (hsub _ (gt_mem (l := i.L) (i := 2) (by omega))) h4
 have l2 := list2 (l := x10.1) (by omega)
 have e4 := list4 (l := i.L) (by omega)
 have hx4 := congrArg Prod.fst hx
 simp only at hx4
 rw [← hx4]
 unfold escrowI
 simp only
 rw [← l2, ← c0, ← c1, ← c2, ← c3, ← e4]; exact ei
def spF (i : S_api_Item) : Option S_api_Spend := if (spend_FromItem i).2 = 0 then some (spend_FromItem i).1 else none
def escF (i : S_api_Item) : Option S_api_Escrow := if (escrow_FromItem i).2 = 0 then some (escrow_FromItem i).1 else none
def chF (i : S_api_Item) : Option S_api_Chain := if (payment_readChain i).2 = true then some (payment_readChain i).1 else none
theorem thingsS_eq (i : S_api_Item) : payment_things_api_Spend_at_payment_readSpend i = if i.Kind ≠ 3 then ([], false) else optE ([], false) (fun m => (m, true)) (readL spF i.L) := by
 unfold payment_things_api_Spend_at_payment_readSpend
 by_cases hk : i.Kind = 3
 ·have e : (i.Kind != 3) = false := by simp [hk]
  simp only [e, hk, letk]
  rw [iter_run (l := i.L) (fun a s => optE (.inr (([] : List S_api_Spend), false)) (fun y => .inl (s ++ [y])) (spF a)) (fun s => (s, true)) (fun ag j s => by
   by_cases h : j < (i.L.length : Int)
   ·by_cases h2 : (spend_FromItem (gt i.L j)).2 = 0 <;> simp [h, h2, spF, payment_readSpend, letk, optE]
   ·simp [h]), foldE_read]
  simp
 ·have : (i.Kind != 3) = true := by simpa using hk
  simp [this, hk]
theorem thingsE_eq (i : S_api_Item) : payment_things_api_Escrow_at_payment_readEscrow i = if i.Kind ≠ 3 then ([], false) else optE ([], false) (fun m => (m, true)) (readL escF i.L) := by
 unfold payment_things_api_Escrow_at_payment_readEscrow
 by_cases hk : i.Kind = 3
 ·have e : (i.Kind != 3) = false := by simp [hk]
  simp only [e, hk, letk]
  rw [iter_run (l := i.L) (fun a s => optE (.inr (([] : List S_api_Escrow), false)) (fun y => .inl (s ++ [y])) (escF a)) (fun s => (s, true)) (fun ag j s => by
   by_cases h : j < (i.L.length : Int)
   ·by_cases h2 : (escrow_FromItem (gt i.L j)).2 = 0 <;> simp [h, h2, escF, payment_readEscrow, letk, optE]
   ·simp [h]), foldE_read]
  simp
 ·have : (i.Kind != 3) = true := by simpa using hk
  simp [this, hk]
theorem thingsC_eq (i : S_api_Item) : payment_things_api_Chain_at_payment_readChain i = if i.Kind ≠ 3 then ([], false) else optE ([], false) (fun m => (m, true)) (readL chF i.L) := by
 unfold payment_things_api_Chain_at_payment_readChain
 by_cases hk : i.Kind = 3
 ·have e : (i.Kind != 3) = false := by simp [hk]
  simp only [e, hk, letk]
  rw [iter_run (l := i.L) (fun a s => optE (.inr (([] : List S_api_Chain), false)) (fun y => .inl (s ++ [y])) (chF a)) (fun s => (s, true)) (fun ag j s => by
   by_cases h : j < (i.L.length : Int)
   ·cases h2 : (payment_readChain (gt i.L j)).2 <;> simp [h, h2, chF, optE]
   ·simp [h]), foldE_read]
  simp
 ·have : (i.Kind != 3) = true := by simpa using hk
  simp [this, hk]
theorem spF_back {i : S_api_Item} {s : S_api_Spend} (h : spF i = some s) : i = spendI s := by
 unfold spF at h
 split at h
 ·rename_i h2; cases h; exact (spend_back (Prod.ext rfl h2)).1
 ·cases h
theorem escF_back {i : S_api_Item} {s : S_api_Escrow} (h : escF i = some s) : i = escrowI s := by
 unfold escF at h
 split at h
 ·rename_i h2; cases h; exact (escrow_back (Prod.ext rfl h2)).1
 ·cases h
theorem things_backS {i : S_api_Item} {l : List S_api_Spend} (hv : withinM i 8 = true) (h : payment_things_api_Spend_at_payment_readSpend i = (l, true)) : i = listI (l.map spendI) := by
 rw [thingsS_eq] at h
 by_cases hk : i.Kind = 3
 ·rw [if_neg (by simp [hk])] at h
  cases hr : readL spF i.L with
  | none => rw [hr] at h; simp [optE] at h
  | some m =>
   rw [hr] at h
   simp only [optE, Prod.mk.injEq, and_true] at h
   subst h
   rw [← readL_back (fun x _ a ha => spF_back ha) hr]; exact within_kind3 hv hk
 ·rw [if_pos hk] at h; simp at h
theorem ifzB {α : Type} {c : Prop} [Decidable c] {a b : α × Bool} {s : α} (h : (if c then a else b) = (s, true)) (ha : a.2 = false) : ¬ c ∧ b = (s, true) := by
 by_cases hc : c
 ·rw [if_pos hc] at h
  have := congrArg Prod.snd h
  rw [ha] at this; cases this
 ·rw [if_neg hc] at h; exact ⟨hc, h⟩
theorem chain_back {i : S_api_Item} {c : S_api_Chain} (hv : withinM i 8 = true) (hx : payment_readChain i = (c, true)) : i = chainI c := by
 unfold payment_readChain at hx
 obtain ⟨h1, hx⟩ := ifzB hx rfl
 obtain ⟨h2, hx⟩ := ifzB hx rfl
 obtain ⟨x4, e4, hx⟩ := letk_opn hx
 obtain ⟨x8, e8, hx⟩ := letk_opn hx
 simp at h1 h2
 have ei := within_kind3 hv h1
 have hsub := fun x hx => within_of_list (ei ▸ hv) (by omega) x hx
 cases h4 : x4.2 with
 | false => simp [h4] at hx
 | true =>
  rw [if_pos h4] at hx
  simp only [Prod.mk.injEq] at hx
  obtain ⟨rfl, h8⟩ := hx
  unfold payment_readSpend at e4
  simp only [letk] at e4
  have s0 : (spend_FromItem (gt i.L 0)).2 = 0 := by rw [e4] at h4; simpa using h4
  have c0 := (spend_back (s := x4.1) (i := gt i.L 0) (Prod.ext (by rw [e4]) s0)).1
  have c1 := things_backS (l := x8.1) (hsub _ (gt_mem (l := i.L) (i := 1) (by omega))) (e8.symm.trans (Prod.ext rfl h8))
  have e2 := list2 (l := i.L) (by omega)
  unfold chainI
  simp only
  rw [← c0, ← c1, ← e2]; exact ei
theorem chF_back {i : S_api_Item} {c : S_api_Chain} (hv : withinM i 8 = true) (h : chF i = some c) : i = chainI c := by
 unfold chF at h
 split at h
 ·rename_i h2
  cases h
  exact chain_back hv (Prod.ext rfl h2)
 ·cases h
theorem things_backC {i : S_api_Item} {l : List S_api_Chain} (hv : withinM i 8 = true) (h : payment_things_api_Chain_at_payment_readChain i = (l, true)) : i = listI (l.map chainI) := by
 rw [thingsC_eq] at h
 by_cases hk : i.Kind = 3
 ·rw [if_neg (by simp [hk])] at h
  have ei := within_kind3 hv hk
  have hsub := fun x hx => within_of_list (ei ▸ hv) (by omega) x hx
  cases hr : readL chF i.L with
  | none => rw [hr] at h; simp [optE] at h
  | some m =>
   rw [hr] at h
   simp only [optE, Prod.mk.injEq, and_true] at h
   subst h
   rw [← readL_back (fun x hx a ha => chF_back (hsub x hx) ha) hr]; exact ei
 ·rw [if_pos hk] at h; simp at h
theorem things_backE {i : S_api_Item} {l : List S_api_Escrow} (hv : withinM i 8 = true) (h : payment_things_api_Escrow_at_payment_readEscrow i = (l, true)) : i = listI (l.map escrowI) := by
 rw [thingsE_eq] at h
 by_cases hk : i.Kind = 3
 ·rw [if_neg (by simp [hk])] at h
  cases hr : readL escF i.L with
  | none => rw [hr] at h; simp [optE] at h
  | some m =>
   rw [hr] at h
   simp only [optE, Prod.mk.injEq, and_true] at h
   subst h
   rw [← readL_back (fun x _ a ha => escF_back ha) hr]; exact within_kind3 hv hk
 ·rw [if_pos hk] at h; simp at h
theorem encode_Encode_eq (i : S_api_Item) : encode_Encode i = if withinM i 8 = false then ([], 1) else if (encI i).length > 16384 then ([], 5) else (encI i, 0) := by
 unfold encode_Encode
 refine letk_go fun x1 e1 => ?_
 rw [valid_eq] at e1
 subst e1
 by_cases hv : withinM i 8 = true
 ·simp only [hv, Bool.not_true, Bool.false_eq_true, if_false, letk]
  rcases writeM_enc i [] 8 hv with e | ⟨e1, e2⟩
  ·rw [e]
   simp only [List.nil_append]
   by_cases h : (encI i).length > 16384
   ·have : ((encI i).length : Int) > 16384 := by omega
    simp [h, this]
   ·have : ¬ ((encI i).length : Int) > 16384 := by omega
    simp [h, this]
  ·simp only [List.nil_append] at e2
   have h1 : ((writeM [] i).length : Int) > 16384 := by omega
   have h2 : (encI i).length > 16384 := e2
   simp [h1, h2]
 ·have hv' : withinM i 8 = false := by simpa using hv
  simp [hv']
theorem encode_Decode_eq {b : List Int} (hb : isB b) : (∃ i, encode_Decode b = (i, 0) ∧ rdI 8 b = .ok (i, []) ∧ b.length ≤ 16384) ∨ ((encode_Decode b).2 ≠ 0 ∧ (b.length ≤ 16384 → ∀ i, rdI 8 b ≠ .ok (i, []))) := by
 unfold encode_Decode
 by_cases hl : (b.length : Int) > 16384
 ·right
  rw [if_pos (by simpa using hl)]
  exact ⟨by simp, fun h => by omega⟩
 rw [if_neg (by simpa using hl)]
 have h8 : itemM ⟨b, 0⟩ 8 = itemN 8 ⟨b, 0⟩ := rfl
 have hr := itemN_rd 8 b hb
 simp only [letk, letj, h8, fail_eqM]
 cases hd : rdI 8 b with
 | error e =>
  rw [hd] at hr
  simp only [outR] at hr
  right
  refine ⟨?_, fun _ i h => by cases h⟩
  have hne : (itemN 8 ⟨b, 0⟩).2.e ≠ 0 := by rw [hr.1]; exact hr.2
  have hf : (failR (itemN 8 ⟨b, 0⟩).2 3).e ≠ 0 := by unfold failR; simp [hne]
  split <;> simp [hne, hf]
 | ok p =>
  obtain ⟨i, r⟩ := p
  rw [hd] at hr
  simp only [outR] at hr
  rw [hr]
  cases r with
  | nil => left; exact ⟨i, by simp, rfl, by omega⟩
  | cons x r =>
   right
   refine ⟨?_, fun _ j h => by cases h⟩
   simp [failR]
mutual
theorem hgt_enc : ∀ (i : S_api_Item) {d : Int}, withinM i d = true → hgt i ≤ (encI i).length
 | ⟨k, n, b, l⟩, d, h => by
  simp only [withinM] at h
  by_cases e1 : k = 1
  ·subst e1
   simp at h
   obtain ⟨rfl, rfl⟩ := h
   simp [hgt, hgtL, encI]
  by_cases e2 : k = 2
  ·subst e2
   simp at h
   obtain ⟨rfl, rfl⟩ := h
   simp [hgt, hgtL, encI]; omega
  by_cases e3 : k = 3
  ·subst e3
   simp at h
   obtain ⟨rfl, rfl, _, _, hw⟩ := h
   have := hgt_encL l hw
   simp [hgt, encI]; omega
  ·simp [e1, e2, e3] at h
theorem hgt_encL : ∀ (l : List S_api_Item) {d : Int}, withinL l d = true → hgtL l ≤ (encL l).length
 | [], _, _ => by simp [hgtL]
 | x :: l, d, h => by
  simp only [withinL, Bool.and_eq_true] at h
  have h1 := hgt_enc x h.1
  have h2 := hgt_encL l h.2
  simp [hgtL, encL]; omega
end
end Go.Proofs.Ytcbdmoihobdjaaa
