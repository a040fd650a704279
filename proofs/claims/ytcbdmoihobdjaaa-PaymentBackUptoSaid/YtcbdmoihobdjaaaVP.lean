/-
  V P: giving out what is one's own: slices, rows of slices, results.
-/
import Derived.Test.YtcbdmoihobdjaaaVZ
namespace Go.Proofs.Ytcbdmoihobdjaaa
open Go.RowKit

section
variable {E : Env} {J : Cuts} {k : List Ct} {S S1 S2 : St} {c0 c : Cx} {ρ : Ro} {F : Fm}

/-- A slice of one's own is given out: nobody writes to it from now on. -/
theorem weak_pub (i : Nat) {T n : Nat} {g : Bool} {z : Option Bool} {l : List V} (h : getA S.H i = some (.own T n g z l)) : Weak E S ⟨S.F, setA S.H i (.pown n g z l), S.nx⟩ := by
  intro c0 c ρ F hs
  obtain ⟨v, hv, hown, hge, hone, a, cap, es, hz⟩ := hs.1.heap _ _ h
  have hpd := c.pub_dropv v
  have hbo : blkOf ρ i = blk v := by unfold blkOf; rw [hv, es]
  have hsep : ∀ j b, i ≠ j → getA S.H j = some b → privB b = true → ∀ x, blkOf ρ j = some x → blk v ≠ some x := by
    intro j b hij hb hp x hx hx'
    exact hs.1.sep i j _ b x hij h hb rfl hp (hbo ▸ hx') hx
  refine ⟨c.dropv v, ρ, rfl, ⟨hs.1.since.dropv hge, hs.1.gl.mono hpd, fun t x ht => rd_mono hpd (hs.1.slot t x ht), ?_, ?_⟩, hs.2⟩
  · intro j b hb
    simp only [getA_setA] at hb
    split at hb
    · rename_i e; subst e; cases hb
      refine ⟨v, hv, ?_⟩
      obtain ⟨a', cap', e1, h1, h2⟩ := slice_val.1 hown.val
      rw [es] at e1; cases e1
      exact rd_sl.2 ⟨a, cap, es, h1, hz, h2⟩
    · rename_i hij
      have hb0 := hs.1.heap _ _ hb
      have hsp := hsep j b hij hb
      cases b with
      | var n' g' d =>
        obtain ⟨b', h1, h2, h3⟩ := hb0
        exact ⟨b', h1, h2, Cx.dropv_var h3 (hsp rfl b' (by simp [blkOf, h1]))⟩
      | own E' n' g' z' l' =>
        obtain ⟨v', h1, h2, h3, h4, a', cap', e', h5⟩ := hb0
        exact ⟨v', h1, Cx.dropv_own h2 (fun x hx => hsp rfl x (by unfold blkOf; rw [h1, e']; rw [e'] at hx; exact hx)), h3, h4, a', cap', e', h5⟩
      | ownI E' n' g' z' l' =>
        obtain ⟨v', h1, h2, h3, h4, a', cap', e', h5⟩ := hb0
        exact ⟨v', h1, Cx.dropv_own h2 (fun x hx => hsp rfl x (by unfold blkOf; rw [h1, e']; rw [e'] at hx; exact hx)), h3, h4, a', cap', e', h5⟩
      | pvar n' g' d =>
        obtain ⟨b', h1, h2⟩ := hb0
        exact ⟨b', h1, (rvPt _).mono h2 hpd⟩
      | pown n' g' z' l' =>
        obtain ⟨v', h1, h2⟩ := hb0
        exact ⟨v', h1, rd_mono hpd h2⟩
      | lent k' n' g' d =>
        obtain ⟨h1, h2, h3⟩ := hb0
        exact ⟨h1, h2, Cx.dropv_var h3 (hsp rfl k' (by simp [blkOf, h1]))⟩
  · intro a b ba bb x hab ha hb hpa hpb hx
    simp only [getA_setA] at ha hb
    split at ha
    · cases ha; cases hpa
    · split at hb
      · cases hb; cases hpb
      · exact hs.1.sep a b ba bb x hab ha hb hpa hpb hx

/-- A slice that has been given out, under its slot. -/
theorem weak_slot (t i : Nat) {n : Nat} {g : Bool} {z : Option Bool} {l : List V} (h : getA S.F t = some (.own i)) (h2 : getA S.H i = some (.pown n g z l)) : Weak E S ⟨(t, .sl z n g l) :: S.F, S.H, S.nx⟩ := by
  intro c0 c ρ F hs
  refine ⟨c, ρ, rfl, ⟨hs.1.since, hs.1.gl, fun t' v ht => ?_, hs.1.heap, hs.1.sep⟩, hs.2⟩
  simp only [getA] at ht
  split at ht
  · rename_i e; subst e; cases ht
    have h3 := hs.1.slot _ _ h
    obtain ⟨v, h4, h5⟩ := hs.1.heap _ _ h2
    simp only [rd] at h3
    rw [h3.1] at h4; cases h4
    simpa only [rd] using h5
  · exact hs.1.slot _ _ ht
/-- A variable of one's own is given out: nobody writes to it from now on. -/
theorem weak_pubv (i : Nat) {n : Nat} {g : Bool} {d : V} (h : getA S.H i = some (.var n g d)) (hpu : pureV d) : Weak E S ⟨S.F, setA S.H i (.pvar n g d), S.nx⟩ := by
  intro c0 c ρ F hs
  obtain ⟨b, hv, hge, hvar⟩ := hs.1.heap _ _ h
  have hbv : blk (.slice (some ⟨b, 0, none⟩) 0 1) = some b := rfl
  have hpd := c.pub_dropv (.slice (some ⟨b, 0, none⟩) 0 1)
  have hbo : blkOf ρ i = some b := by unfold blkOf; rw [hv]
  have hsep : ∀ j b', i ≠ j → getA S.H j = some b' → privB b' = true → ∀ x, blkOf ρ j = some x → blk (.slice (some ⟨b, 0, none⟩) 0 1) ≠ some x := by
    intro j b' hij hb hp x hx hx'
    exact hs.1.sep i j _ b' x hij h hb rfl hp (hbo ▸ hx') hx
  refine ⟨c.dropv (.slice (some ⟨b, 0, none⟩) 0 1), ρ, rfl, ⟨hs.1.since.dropv (fun k hk => by rw [hbv] at hk; cases hk; exact hge), hs.1.gl.mono hpd, fun t x ht => rd_mono hpd (hs.1.slot t x ht), ?_, ?_⟩, hs.2⟩
  · intro j b' hb
    simp only [getA_setA] at hb
    split at hb
    · rename_i e; subst e; cases hb
      obtain ⟨h1, T, cs, h2, h3⟩ := hvar
      refine ⟨b, hv, b, 0, cs.toList, rfl, c.ok b h1, ?_, ?_, ?_⟩
      · simp only [Cx.dropv, List.mem_filter, hbv]; simp
      · intro j u hj
        show (c.dropv _).w.cell? _ = _
        simp only [Cx.dropv, World.cell?, h2]
        simpa using hj
      · exact ⟨h3.1, rd_mono hpd (pure_rd hpu h3.2)⟩
    · rename_i hij
      have hb0 := hs.1.heap _ _ hb
      have hsp := hsep j b' hij hb
      cases b' with
      | var n' g' d =>
        obtain ⟨b', h1, h2, h3⟩ := hb0
        exact ⟨b', h1, h2, Cx.dropv_var h3 (hsp rfl b' (by simp [blkOf, h1]))⟩
      | own E' n' g' z' l' =>
        obtain ⟨v', h1, h2, h3, h4, a', cap', e', h5⟩ := hb0
        exact ⟨v', h1, Cx.dropv_own h2 (fun x hx => hsp rfl x (by unfold blkOf; rw [h1, e']; rw [e'] at hx; exact hx)), h3, h4, a', cap', e', h5⟩
      | ownI E' n' g' z' l' =>
        obtain ⟨v', h1, h2, h3, h4, a', cap', e', h5⟩ := hb0
        exact ⟨v', h1, Cx.dropv_own h2 (fun x hx => hsp rfl x (by unfold blkOf; rw [h1, e']; rw [e'] at hx; exact hx)), h3, h4, a', cap', e', h5⟩
      | pvar n' g' d =>
        obtain ⟨b', h1, h2⟩ := hb0
        exact ⟨b', h1, (rvPt _).mono h2 hpd⟩
      | pown n' g' z' l' =>
        obtain ⟨v', h1, h2⟩ := hb0
        exact ⟨v', h1, rd_mono hpd h2⟩
      | lent k' n' g' d =>
        obtain ⟨h1, h2, h3⟩ := hb0
        exact ⟨h1, h2, Cx.dropv_var h3 (hsp rfl k' (by simp [blkOf, h1]))⟩
  · intro a b1 ba bb x hab ha hb hpa hpb hx
    simp only [getA_setA] at ha hb
    split at ha
    · cases ha; cases hpa
    · split at hb
      · cases hb; cases hpb
      · exact hs.1.sep a b1 ba bb x hab ha hb hpa hpb hx

/-- What a list of values says once a slice of one's own is given out. -/
def gaveL (H : List (Nat × Blk)) : List V → List V → Prop
  | [], [] => True
  | a :: l, b :: m => ((pureV a ∧ b = a) ∨ ∃ i n g z l', a = .own i ∧ getA H i = some (.pown n g z l') ∧ b = .sl z n g l') ∧ gaveL H l m
  | _, _ => False
theorem gaveL_len {H : List (Nat × Blk)} : ∀ {l m : List V}, gaveL H l m → l.length = m.length
  | [], [], _ => rfl
  | a :: l, b :: m, h => by simp only [gaveL] at h; simp [gaveL_len h.2]
  | [], _ :: _, h => by simp [gaveL] at h
  | _ :: _, [], h => by simp [gaveL] at h
theorem gaveL_arr (h : Sim E c0 c ρ S F) {n : Nat} {g : Bool} : ∀ {l m : List V} {cs : List Value}, gaveL S.H l m → arrIs (rV ρ n g) c cs l → arrIs (rV ro0 n g) c cs m
  | [], [], _, _, ha => ha
  | a :: l, b :: m, cs, hr, ha => by
    simp only [gaveL, arrIs] at hr ha ⊢
    obtain ⟨c1, c2, e, ⟨h1, h2⟩, h3⟩ := ha
    refine ⟨c1, c2, e, ⟨h1, ?_⟩, gaveL_arr h hr.2 h3⟩
    rcases hr.1 with ⟨hp, rfl⟩ | ⟨i, n', g', z', l', rfl, hH, rfl⟩
    · exact pure_rd hp h2
    · obtain ⟨v, hv, hsl⟩ := h.heap _ _ hH
      simp only [rd] at h2
      rw [hv] at h2
      have : v = mkV g c1 := by simpa using h2.1
      rw [← this]; exact hsl
  | [], _ :: _, _, hr, _ => by simp [gaveL] at hr
  | _ :: _, [], _, hr, _ => by simp [gaveL] at hr
theorem weak_row (W : Nat) {T n : Nat} {g : Bool} {z : Option Bool} {l m : List V} (h : getA S.H W = some (.ownI T n g z l)) (hr : gaveL S.H l m) : Weak E S ⟨S.F, setA S.H W (.own T n g z m), S.nx⟩ := by
  intro c0 c ρ F hs
  have hlen := gaveL_len hr
  refine ⟨c, ρ, rfl, ⟨hs.1.since, hs.1.gl, hs.1.slot, ?_, ?_⟩, hs.2⟩
  · intro j b hb
    simp only [getA_setA] at hb
    split at hb
    · rename_i e; subst e; cases hb
      obtain ⟨v, h1, h2, h3, h4, a, cap, e', h5⟩ := hs.1.heap _ _ h
      refine ⟨v, h1, ⟨hlen ▸ h2.1, ?_⟩, h3, h4, a, cap, hlen ▸ e', h5⟩
      rcases h2.2 with ⟨a', e9, rfl⟩ | ⟨g', cp, cur, e, k1, k2, k3, k4, k5, k6⟩
      · exact .inl ⟨a', e9, List.eq_nil_of_length_eq_zero hlen.symm⟩
      · rw [hlen] at e k3 k6
        exact .inr ⟨g', cp, cur, e, k1, k2, k3, k4, k5, gaveL_arr hs.1 hr k6⟩
    · exact hs.1.heap _ _ hb
  · intro a b ba bb x hab ha hb hpa hpb hx
    simp only [getA_setA] at ha hb
    have key : ∀ y by', (if W = y then some (Blk.own T n g z m) else getA S.H y) = some by' → privB by' = true → ∃ by2, getA S.H y = some by2 ∧ privB by2 = true := by
      intro y by' hy hp
      split at hy
      · rename_i e; subst e; exact ⟨_, h, rfl⟩
      · exact ⟨by', hy, hp⟩
    obtain ⟨ba', ha', hpa'⟩ := key a ba ha hpa
    obtain ⟨bb', hb', hpb'⟩ := key b bb hb hpb
    exact hs.1.sep a b ba' bb' x hab ha' hb' hpa' hpb' hx

/-- Less is known of a list of one's own. -/
theorem weak_list (W : Nat) {T n : Nat} {g : Bool} {z z' : Option Bool} {l m : List V} (h : getA S.H W = some (.own T n g z l)) (hz : mtZ z z') (hm : mtL l m) : Weak E S ⟨S.F, setA S.H W (.own T n g z' m), S.nx⟩ := by
  intro c0 c ρ F hs
  have hlen := mtL_len hm
  refine ⟨c, ρ, rfl, ⟨hs.1.since, hs.1.gl, hs.1.slot, ?_, ?_⟩, hs.2⟩
  · intro j b hb
    simp only [getA_setA] at hb
    split at hb
    · rename_i e; subst e; cases hb
      obtain ⟨v, h1, h2, h3, h4, a, cap, e', h5⟩ := hs.1.heap _ _ h
      refine ⟨v, h1, ⟨hlen ▸ h2.1, ?_⟩, h3, h4, a, cap, hlen ▸ e', mtZ_ok hz h5⟩
      rcases h2.2 with ⟨a', e9, rfl⟩ | ⟨g', cp, cur, e, k1, k2, k3, k4, k5, k6⟩
      · exact .inl ⟨a', e9, List.eq_nil_of_length_eq_zero hlen.symm⟩
      · rw [hlen] at e k3 k6
        exact .inr ⟨g', cp, cur, e, k1, k2, k3, k4, k5, mt_arr hm k6⟩
    · exact hs.1.heap _ _ hb
  · intro a b ba bb x hab ha hb hpa hpb hx
    simp only [getA_setA] at ha hb
    have key : ∀ y by', (if W = y then some (Blk.own T n g z' m) else getA S.H y) = some by' → privB by' = true → ∃ by2, getA S.H y = some by2 ∧ privB by2 = true := by
      intro y by' hy hp
      split at hy
      · rename_i e; subst e; exact ⟨_, h, rfl⟩
      · exact ⟨by', hy, hp⟩
    obtain ⟨ba', ha', hpa'⟩ := key a ba ha hpa
    obtain ⟨bb', hb', hpb'⟩ := key b bb hb hpb
    exact hs.1.sep a b ba' bb' x hab ha' hb' hpa' hpb' hx

/-! ## A row of one's own in a slice of one's own -/
theorem gaveL_pure {H : List (Nat × Blk)} : ∀ {l : List V}, pureL l → gaveL H l l
  | [], _ => trivial
  | a :: l, h => by simp only [pureL, gaveL] at h ⊢; exact ⟨.inl ⟨h.1, trivial⟩, gaveL_pure h.2⟩
theorem gaveL_set {H : List (Nat × Blk)} {i n : Nat} {g : Bool} {z : Option Bool} {l' : List V} (hi : getA H i = some (.pown n g z l')) : ∀ {l : List V} {k : Nat}, pureL l → gaveL H (l.set k (.own i)) (l.set k (.sl z n g l'))
  | [], _, _ => trivial
  | a :: l, 0, h => by
    simp only [pureL] at h
    simp only [List.set_cons_zero, gaveL]
    exact ⟨.inr ⟨i, n, g, z, l', rfl, hi, rfl⟩, gaveL_pure h.2⟩
  | a :: l, k + 1, h => by
    simp only [pureL] at h
    simp only [List.set_cons_succ, gaveL]
    exact ⟨.inl ⟨h.1, trivial⟩, gaveL_set hi h.2⟩
theorem pureL_map {α : Type} {f : α → V} (h : ∀ x, pureV (f x)) : ∀ {l : List α}, pureL (l.map f)
  | [] => trivial
  | a :: l => ⟨h a, pureL_map h⟩
theorem pureL_map_eq {α : Type} {f : α → V} {l : List α} (h : ∀ x, pureV (f x)) : pureL (l.map f) = True := eq_true (pureL_map h)
/-- The list of a slice, one of whose elements is a slice of one's own. -/
def rowV {α : Type} (f : α → V) (l : List α) (k : Int) (i : Nat) : List V := (l.map f).set k.toNat (.own i)
section
variable {α : Type} {f : α → V} {l : List α} {i : Nat} {q : Int}
theorem rowV_eq : (l.map f).set q.toNat (.own i) = rowV f l q i := rfl
theorem rowV_eq0 : (l.map f).set 0 (.own i) = rowV f l 0 i := rfl
theorem rowV_len : (rowV f l q i).length = l.length := by simp [rowV]
theorem rowV_same (h : q.toNat < l.length) (z : V) : elt (rowV f l q i) q.toNat z = .own i := by
  simp [elt, rowV, List.getD, h]
theorem rowV_other [Inhabited α] {p : Int} (h : p.toNat < l.length) (hne : p.toNat ≠ q.toNat) (z : V) : elt (rowV f l q i) p.toNat z = f (gt l p) := by
  simp [elt, rowV, List.getD, h, gt, List.getElem?_set, Ne.symm hne]
theorem ltL_set {n : Nat} {x : V} (hx : ltV n x) : ∀ {l : List V} {k : Nat}, ltL n l → ltL n (l.set k x)
  | [], _, _ => trivial
  | a :: l, 0, h => by simp only [ltL] at h; simp only [List.set_cons_zero, ltL]; exact ⟨hx, h.2⟩
  | a :: l, k + 1, h => by simp only [ltL] at h; simp only [List.set_cons_succ, ltL]; exact ⟨h.1, ltL_set hx h.2⟩
mutual
theorem pure_lt {n : Nat} : ∀ {d : V}, pureV d → ltV n d
  | .int _ _, _ => trivial
  | .bool _, _ => trivial
  | .str _, _ => trivial
  | .agg l, h => by simp only [pureV, ltV] at h ⊢; exact pureL_lt h
  | .sl _ _ _ _, _ => trivial
  | .pp _ _ _, _ => trivial
  | .own _, h => h.elim
  | .ptr _ _, h => h.elim
  | .optr _ _ _ _, h => h.elim
  | .osub _ _ _ _, h => h.elim
  | .tup l, h => by simp only [pureV, ltV] at h ⊢; exact pureL_lt h
  | .fn _ l, h => by simp only [pureV, ltV] at h ⊢; exact pureL_lt h
  | .opq _, _ => trivial
  | .un, _ => trivial
theorem pureL_lt {n : Nat} : ∀ {l : List V}, pureL l → ltL n l
  | [], _ => trivial
  | a :: l, h => by simp only [pureL, ltL] at h ⊢; exact ⟨pure_lt h.1, pureL_lt h.2⟩
end
theorem rowV_lt {n : Nat} (h : ∀ x, pureV (f x)) (hi : i < n) : ltL n (rowV f l q i) := ltL_set (x := .own i) (by simp only [ltV]; exact hi) (pureL_lt (pureL_map h))
end
theorem ltL_set_iff {n : Nat} {x : V} : ∀ {l : List V} {k : Nat}, ltL n l → (ltL n (l.set k x) ↔ (l.length ≤ k ∨ ltV n x))
  | [], _, _ => by simp [ltL]
  | a :: l, 0, h => by simp only [ltL] at h; simp [ltL, h.2]
  | a :: l, k + 1, h => by simp only [ltL] at h; simp [ltL, h.1, ltL_set_iff (k := k) h.2]
theorem rowV_ltE {α : Type} {f : α → V} (h : ∀ x, pureV (f x)) {l : List α} {i n : Nat} {q : Int} : ltL n (rowV f l q i) = (l.length ≤ q.toNat ∨ i < n) := by
  unfold rowV
  rw [ltL_set_iff (pureL_lt (pureL_map h))]
  simp only [List.length_map, ltV]
theorem map_st {α : Type} {f : α → V} {l : List α} {i : Int} {x : α} : (st l i x).map f = (l.map f).set i.toNat (f x) := by simp [st, List.map_set]
/-- The row is given out; the slice is a slice of slices again. -/
theorem weak_rows {α : Type} (W i : Nat) {T T' n n' : Nat} {g g' : Bool} {z z' : Option Bool} {l : List V} (f : α → V) (rows : List α) (q : Int) (r : α) (hW : getA S.H W = some (.ownI T' n' g' z' (rowV f rows q i))) (hi : getA S.H i = some (.own T n g z l)) (hne : W ≠ i) (hp : ∀ x, pureV (f x)) (hm : mt (.sl z n g l) (f r)) :
    Weak E S ⟨S.F, setA (setA (setA S.H i (.pown n g z l)) W (.own T' n' g' z' ((rows.map f).set q.toNat (.sl z n g l)))) W (.own T' n' g' none ((st rows q r).map f)), S.nx⟩ := by
  refine (weak_pub i hi).trans ?_
  have hW' : getA (setA S.H i (.pown n g z l)) W = some (.ownI T' n' g' z' (rowV f rows q i)) := by rw [getA_setA, if_neg (Ne.symm hne)]; exact hW
  have hi' : getA (setA S.H i (.pown n g z l)) i = some (.pown n g z l) := by rw [getA_setA, if_pos rfl]
  refine (weak_row (S := ⟨S.F, setA S.H i (.pown n g z l), S.nx⟩) W hW' (gaveL_set hi' (pureL_map hp))).trans ?_
  refine weak_list (S := ⟨S.F, setA (setA S.H i (.pown n g z l)) W (.own T' n' g' z' ((rows.map f).set q.toNat (.sl z n g l))), S.nx⟩) W (z := z') (by rw [getA_setA, if_pos rfl]) (by cases z' <;> trivial) ?_
  have : (st rows q r).map f = (rows.map f).set q.toNat (f r) := by simp [st, List.map_set]
  rw [this]
  exact mtL_set hm

theorem spl_len {α : Type} {l m : List α} {i k : Nat} : (spl l i k m).length = min i l.length + min k m.length + (l.length - (i + k)) := by simp only [spl, List.length_append, List.length_take, List.length_drop]
theorem cutN_len {α : Type} {l : List α} {i j : Nat} : (cutN l i j).length = min (j - i) (l.length - i) := by simp [cutN]
theorem gt_st {α : Type} [Inhabited α] {l : List α} {i j : Int} {x : α} : gt (st l i x) j = if i.toNat = j.toNat ∧ i.toNat < l.length then x else gt l j := by
  simp only [gt, st, List.getD_eq_getElem?_getD, List.getElem?_set]
  by_cases h : i.toNat = j.toNat
  · rw [if_pos h]
    by_cases h2 : i.toNat < l.length
    · rw [if_pos h2, if_pos ⟨h, h2⟩]; rfl
    · rw [if_neg h2, if_neg (fun e => h2 e.2), ← h, List.getElem?_eq_none (Nat.le_of_not_lt h2)]
  · rw [if_neg h, if_neg (fun e => h e.1)]
theorem gt_rep {α : Type} [Inhabited α] {n : Nat} {a : α} {j : Int} : gt (List.replicate n a) j = if j.toNat < n then a else default := by
  simp only [gt, List.getD_eq_getElem?_getD, List.getElem?_replicate]
  split <;> rfl
theorem mul_pos_ok {a b : Int} (A B C : Int) (h1 : 0 ≤ a) (h2 : a ≤ A) (h3 : 0 ≤ b) (h4 : b ≤ B) (h5 : A * B = C) (h6 : C ≤ 9223372036854775807) : mulI .i64 a b = a * b ∧ (0 ≤ a * b ∧ a * b ≤ C) := by
  have e1 := Int.mul_nonneg h1 h3
  have e2 : a * b ≤ A * B := Int.mul_le_mul h2 h4 h3 (Int.le_trans h1 h2)
  rw [h5] at e2
  refine ⟨?_, e1, e2⟩
  unfold mulI; rw [IntKind.wrap_i64]; omega
theorem conv_i64 {a : Int} (h0 : -9223372036854775808 ≤ a) (h : a ≤ 9223372036854775807) : convI .i64 a = a := by
  unfold convI; rw [IntKind.wrap_i64]; omega
theorem conv_u64 {a : Int} (h0 : 0 ≤ a) (h : a ≤ 18446744073709551615) : convI .u64 a = a := by
  unfold convI; rw [IntKind.wrap_u64]; omega

/-! ## Where less may be known -/
theorem seqC_pass {a b : Code} (h : cont E J (.code a :: .lp (weakK E (cont E J (.code b :: k) .normal)) :: k) .normal S) : seqC E J true a b k S := h
theorem cut_weak {b : Code} (S1 : St) (hF : subF S.F S1.nx S1.F) (hH : subH S.H S1.nx S1.H) (h : cont E J (.code b :: k) .normal S1) : cont E J (.lp (weakK E (cont E J (.code b :: k) .normal)) :: k) .normal S := ⟨S1, weak_of hF hH, h⟩
theorem cut_weakW {b : Code} (S2 S1 : St) (hW : Weak E S S2) (hF : subF S2.F S1.nx S1.F) (hH : subH S2.H S1.nx S1.H) (h : cont E J (.code b :: k) .normal S1) : cont E J (.lp (weakK E (cont E J (.code b :: k) .normal)) :: k) .normal S := ⟨S1, hW.trans (weak_of hF hH), h⟩
theorem lp_introW {I : Nat → St → Prop} {n : Nat} (n' : Nat) (S2 S3 : St) (hlt : n' < n) (hW : Weak E S S2) (hF : subF S2.F S3.nx S3.F) (hH : subH S2.H S3.nx S3.H) (hI : I n' S3) : cont E J (.lp (fun S2 => ∃ n', n' < n ∧ ∃ S3, Weak E S2 S3 ∧ I n' S3) :: k) .normal S :=
  ⟨n', hlt, S3, hW.trans (weak_of hF hH), hI⟩
theorem cut_introW {M : St → Prop} (S2 S1 : St) (hW : Weak E S S2) (hF : subF S2.F S1.nx S1.F) (hH : subH S2.H S1.nx S1.H) (hM : M S1) : cont E J (.lp (weakK E M) :: k) .normal S := ⟨S1, hW.trans (weak_of hF hH), hM⟩
theorem mtL_rep {n : Nat} {a b : V} (h : mt a b) : mtL (List.replicate n a) (List.replicate n b) := by
  induction n with
  | zero => trivial
  | succ n ih => simp only [List.replicate_succ, mtL]; exact ⟨h, ih⟩
/-- A list of the same. -/
def rep {α : Type} (n : Nat) (a : α) : List α := List.replicate n a
theorem rep_len {α : Type} {n : Nat} {a : α} : (rep n a).length = n := by simp [rep]
theorem gt_repl {α : Type} [Inhabited α] {n : Nat} {a : α} {j : Int} : gt (rep n a) j = if j.toNat < n then a else default := gt_rep
theorem mtL_repE {n : Nat} {a b : V} : mtL (List.replicate n a) (List.replicate n b) = (n = 0 ∨ mt a b) := by
  refine propext ⟨fun h => ?_, fun h => ?_⟩
  · cases n with
    | zero => exact .inl rfl
    | succ n => simp only [List.replicate_succ, mtL] at h; exact .inr h.1
  · rcases h with rfl | h
    · trivial
    · exact mtL_rep h
theorem mtL_repM {α : Type} {n : Nat} {a : V} {f : α → V} {x : α} : mtL (List.replicate n a) ((rep n x).map f) = (n = 0 ∨ mt a (f x)) := by
  unfold rep; rw [List.map_replicate]; exact mtL_repE
theorem mtL_rep_map {α : Type} {n : Nat} {a : V} {f : α → V} {x : α} (h : mt a (f x)) : mtL (List.replicate n a) ((List.replicate n x).map f) := by
  rw [List.map_replicate]; exact mtL_rep h
end
end Go.Proofs.Ytcbdmoihobdjaaa
