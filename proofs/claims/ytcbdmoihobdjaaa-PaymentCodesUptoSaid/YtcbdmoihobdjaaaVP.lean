import Derived.Test.YtcbdmoihobdjaaaVZ
namespace Go.Proofs.Ytcbdmoihobdjaaa
open Go.RowKit
section
variable {E : Env} {J : Cuts} {k : List Ct} {S S1 S2 : St} {c0 c : Cx} {ρ : Ro} {F : Fm}
theorem weak_pub (i : Nat) {T n : Nat} {g : Bool} {z : Option Bool} {l : List V} (h : getA S.H i = some (.own T n g z l)) : Weak E S ⟨S.F, setA S.H i (.pown n g z l), S.nx⟩ := by
 intro c0 c ρ F hs
 obtain ⟨v, hv, hown, hge, hone, a, cap, es, hz⟩ := hs.1.heap _ _ h
 have hpd := c.pub_dropv v
 have hbo : blkOf ρ i = blk v := by unfold blkOf; rw [hv, es]
 have hsep : ∀ j b, i ≠ j → getA S.H j = some b → privB b = true → ∀ x, blkOf ρ j = some x → blk v ≠ some x := by
  intro j b hij hb hp x hx hx'
  exact hs.1.sep i j _ b x hij h hb rfl hp (hbo ▸ hx') hx
 refine ⟨c.dropv v, ρ, rfl, ⟨hs.1.since.dropv hge, hs.1.gl.mono hpd, fun t x ht => rd_mono hpd (hs.1.slot t x ht), ?_, ?_⟩, hs.2⟩
 ·intro j b hb
  simp only [getA_setA] at hb
  split at hb
  ·rename_i e; subst e; cases hb
   refine ⟨v, hv, ?_⟩
   obtain ⟨a', cap', e1, h1, h2⟩ := slice_val.1 hown.val
   rw [es] at e1; cases e1
   exact rd_sl.2 ⟨a, cap, es, h1, hz, h2⟩
  ·rename_i hij
   have hb0 := hs.1.heap _ _ hb
   have hsp := hsep j b hij hb
   cases b with
   | var n' g' d =>
    obtain ⟨b', h1, h2, h3⟩ := hb0
    exact ⟨b', h1, h2, Cx.dropv_var h3 (hsp rfl b' (by simp [blkOf, h1]))⟩
   | own E' n' g' z' l' =>
    obtain ⟨v', h1, h2, h3, h4, a', cap', e', h5⟩ := hb0
    exact ⟨v', h1, Cx.dropv_own h2 (fun x hx => hsp rfl x (by unfold blkOf; rw [h1, e']; rw [e'] at hx; exact hx)), h3, h4, a', cap', e', h5⟩
   | ownI E' n' g' z' l' =>
    obtain ⟨v', h1, h2, h3, h4, a', cap', e', h5⟩ := hb0
    exact ⟨v', h1, Cx.dropv_own h2 (fun x hx => hsp rfl x (by unfold blkOf; rw [h1, e']; rw [e'] at hx; exact hx)), h3, h4, a', cap', e', h5⟩
   | pvar n' g' d =>
    obtain ⟨b', h1, h2⟩ := hb0
    exact ⟨b', h1, (rvPt _).mono h2 hpd⟩
   | pown n' g' z' l' =>
    obtain ⟨v', h1, h2⟩ := hb0
    exact ⟨v', h1, rd_mono hpd h2⟩
   | lent k' n' g' d =>
    obtain ⟨h1, h2, h3⟩ := hb0
    exact ⟨h1, h2, Cx.dropv_var h3 (hsp rfl k' (by simp [blkOf, h1]))⟩
 ·intro a b ba bb x hab ha hb hpa hpb hx
  simp only [getA_setA] at ha hb
  split at ha
  ·cases ha; cases hpa
  ·split at hb
   ·cases hb; cases hpb
   ·exact hs.1.sep a b ba bb x hab ha hb hpa hpb hx
theorem weak_slot (t i : Nat) {n : Nat} {g : Bool} {z : Option Bool} {l : List V} (h : getA S.F t = some (.own i)) (h2 : getA S.H i = some (.pown n g z l)) : Weak E S ⟨(t, .sl z n g l) :: S.F, S.H, S.nx⟩ := by
 intro c0 c ρ F hs
 refine ⟨c, ρ, rfl, ⟨hs.1.since, hs.1.gl, fun t' v ht => ?_, hs.1.heap, hs.1.sep⟩, hs.2⟩
 simp only [getA] at ht
 split at ht
 ·rename_i e; subst e; cases ht
  have h3 := hs.1.slot _ _ h
  obtain ⟨v, h4, h5⟩ := hs.1.heap _ _ h2
  simp only [rd] at h3
  rw [h3.1] at h4; cases h4
  simpa only [rd] using h5
 ·exact hs.1.slot _ _ ht
theorem weak_pubv (i : Nat) {n : Nat} {g : Bool} {d : V} (h : getA S.H i = some (.var n g d)) (hpu : pureV d) : Weak E S ⟨S.F, setA S.H i (.pvar n g d), S.nx⟩ := by
 intro c0 c ρ F hs
 obtain ⟨b, hv, hge, hvar⟩ := hs.1.heap _ _ h
 have hbv : blk (.slice (some ⟨b, 0, none⟩) 0 1) = some b := rfl
 have hpd := c.pub_dropv (.slice (some ⟨b, 0, none⟩) 0 1)
 have hbo : blkOf ρ i = some b := by unfold blkOf; rw [hv]
 have hsep : ∀ j b', i ≠ j → getA S.H j = some b' → privB b' = true → ∀ x, blkOf ρ j = some x → blk (.slice (some ⟨b, 0, none⟩) 0 1) ≠ some x := by
  intro j b' hij hb hp x hx hx'
  exact hs.1.sep i j _ b' x hij h hb rfl hp (hbo ▸ hx') hx
 refine ⟨c.dropv (.slice (some ⟨b, 0, none⟩) 0 1), ρ, rfl, ⟨hs.1.since.dropv (fun k hk => by rw [hbv] at hk; cases hk; exact hge), hs.1.gl.mono hpd, fun t x ht => rd_mono hpd (hs.1.slot t x ht), ?_, ?_⟩, hs.2⟩
 ·intro j b' hb
  simp only [getA_setA] at hb
  split at hb
  ·rename_i e; subst e; cases hb
   obtain ⟨h1, T, cs, h2, h3⟩ := hvar
   refine ⟨b, hv, b, 0, cs.toList, rfl, c.ok b h1, ?_, ?_, ?_⟩
   ·simp only [Cx.dropv, List.mem_filter, hbv]; simp
   ·intro j u hj
    show (c.dropv _).w.cell? _ = _
    simp only [Cx.dropv, World.cell?, h2]
    simpa using hj
   ·exact ⟨h3.1, rd_mono hpd (pure_rd hpu h3.2)⟩
  ·rename_i hij
   have hb0 := hs.1.heap _ _ hb
   have hsp := hsep j b' hij hb
   cases b' with
   | var n' g' d =>
    obtain ⟨b', h1, h2, h3⟩ := hb0
    exact ⟨b', h1, h2, Cx.dropv_var h3 (hsp rfl b' (by simp [blkOf, h1]))⟩
   | own E' n' g' z' l' =>
    obtain ⟨v', h1, h2, h3, h4, a', cap', e', h5⟩ := hb0
    exact ⟨v', h1, Cx.dropv_own h2 (fun x hx => hsp rfl x (by unfold blkOf; rw [h1, e']; rw [e'] at hx; exact hx)), h3, h4, a', cap', e', h5⟩
   | ownI E' n' g' z' l' =>
    obtain ⟨v', h1, h2, h3, h4, a', cap', e', h5⟩ := hb0
    exact ⟨v', h1, Cx.dropv_own h2 (fun x hx => hsp rfl x (by unfold blkOf; rw [h1, e']; rw [e'] at hx; exact hx)), h3, h4, a', cap', e', h5⟩
   | pvar n' g' d =>
    obtain ⟨b', h1, h2⟩ := hb0
    exact ⟨b', h1, (rvPt _).mono h2 hpd⟩
   | pown n' g' z' l' =>
    obtain ⟨v', h1, h2⟩ := hb0
    exact ⟨v', h1, rd_mono hpd h2⟩
   | lent k' n' g' d =>
    obtain ⟨h1, h2, h3⟩ := hb0
    exact ⟨h1, h2, Cx.dropv_var h3 (hsp rfl k' (by simp [blkOf, h1]))⟩
 ·intro a b1 ba bb x hab ha hb hpa hpb hx
  simp only [getA_setA] at ha hb
  split at ha
  ·cases ha; cases hpa
  ·split at hb
   ·cases hb; cases hpb
   ·exact hs.1.sep a b1 ba bb x hab ha hb hpa hpb hx
def rowV {α : Type} (f : α → V) (l : List α) (k : Int) (i : Nat) : List V := (l.map f).set k.toNat (.own i)
section
variable {α : Type} {f : α → V} {l : List α} {i : Nat} {q : Int}
theorem rowV_eq : (l.map f).set q.toNat (.own i) = rowV f l q i := rfl
theorem rowV_eq0 : (l.map f).set 0 (.own i) = rowV f l 0 i := rfl
theorem rowV_len : (rowV f l q i).length = l.length := by simp [rowV]
end
theorem map_st {α : Type} {f : α → V} {l : List α} {i : Int} {x : α} : (st l i x).map f = (l.map f).set i.toNat (f x) := by simp [st, List.map_set]
theorem spl_len {α : Type} {l m : List α} {i k : Nat} : (spl l i k m).length = min i l.length + min k m.length + (l.length - (i + k)) := by simp only [spl, List.length_append, List.length_take, List.length_drop]
theorem cutN_len {α : Type} {l : List α} {i j : Nat} : (cutN l i j).length = min (j - i) (l.length - i) := by simp [cutN]
theorem mul_pos_ok {a b : Int} (A B C : Int) (h1 : 0 ≤ a) (h2 : a ≤ A) (h3 : 0 ≤ b) (h4 : b ≤ B) (h5 : A * B = C) (h6 : C ≤ 9223372036854775807) : mulI .i64 a b = a * b ∧ (0 ≤ a * b ∧ a * b ≤ C) := by
 have e1 := Int.mul_nonneg h1 h3
 have e2 : a * b ≤ A * B := Int.mul_le_mul h2 h4 h3 (Int.le_trans h1 h2)
 rw [h5] at e2
 refine ⟨?_, e1, e2⟩
 unfold mulI; rw [IntKind.wrap_i64]; omega
theorem conv_i64 {a : Int} (h0 : -9223372036854775808 ≤ a) (h : a ≤ 9223372036854775807) : convI .i64 a = a := by
 unfold convI; rw [IntKind.wrap_i64]; omega
theorem seqC_pass {a b : Code} (h : cont E J (.code a :: .lp (weakK E (cont E J (.code b :: k) .normal)) :: k) .normal S) : seqC E J true a b k S := h
theorem cut_weakW {b : Code} (S2 S1 : St) (hW : Weak E S S2) (hF : subF S2.F S1.nx S1.F) (hH : subH S2.H S1.nx S1.H) (h : cont E J (.code b :: k) .normal S1) : cont E J (.lp (weakK E (cont E J (.code b :: k) .normal)) :: k) .normal S := ⟨S1, hW.trans (weak_of hF hH), h⟩
theorem lp_introW {I : Nat → St → Prop} {n : Nat} (n' : Nat) (S2 S3 : St) (hlt : n' < n) (hW : Weak E S S2) (hF : subF S2.F S3.nx S3.F) (hH : subH S2.H S3.nx S3.H) (hI : I n' S3) : cont E J (.lp (fun S2 => ∃ n', n' < n ∧ ∃ S3, Weak E S2 S3 ∧ I n' S3) :: k) .normal S :=
 ⟨n', hlt, S3, hW.trans (weak_of hF hH), hI⟩
theorem mtL_rep {n : Nat} {a b : V} (h : mt a b) : mtL (List.replicate n a) (List.replicate n b) := by
 induction n with
 | zero => trivial
 | succ n ih => simp only [List.replicate_succ, mtL]; exact ⟨h, ih⟩
def rep {α : Type} (n : Nat) (a : α) : List α := List.replicate n a
theorem rep_len {α : Type} {n : Nat} {a : α} : (rep n a).length = n := by simp [rep]
theorem mtL_repE {n : Nat} {a b : V} : mtL (List.replicate n a) (List.replicate n b) = (n = 0 ∨ mt a b) := by
 refine propext ⟨fun h => ?_, fun h => ?_⟩
 ·cases n with
  | zero => exact .inl rfl
  | succ n => simp only [List.replicate_succ, mtL] at h; exact .inr h.1
 ·rcases h with rfl | h
  ·trivial
  ·exact mtL_rep h
theorem mtL_repM {α : Type} {n : Nat} {a : V} {f : α → V} {x : α} : mtL (List.replicate n a) ((rep n x).map f) = (n = 0 ∨ mt a (f x)) := by
 unfold rep; rw [List.map_replicate]; exact mtL_repE
end
end Go.Proofs.Ytcbdmoihobdjaaa
