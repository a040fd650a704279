/- Texts of this proof, one after the other: VP, VO, VS, VI, VJ, VK, VA, T, L0, R0, R2, RS. -/
import Derived.Test.YteolfhljhnplpaaGreatDoorZ3
import Derived.Lib.ItoaMem
set_option linter.unusedVariables false
set_option linter.unusedSimpArgs false
namespace Go.Proofs.YteolfhljhnplpaaGreatDoor
open Go.RowKit
section
variable {E : Env} {J : Cuts} {k : List Ct} {S S1 S2 : St} {c0 c : Cx} {ρ : Ro} {F : Fm}
theorem weak_pub (i : Nat) {T n : Nat} {g : Bool} {z : Option Bool} {l : List V} (h : getA S.H i = some (.own T n g z l)) : Weak E S ⟨S.F, setA S.H i (.pown n g z l), S.nx⟩ := by
 intro c0 c ρ F hs
 obtain ⟨v, hv, hown, hge, hone, a, cap, es, hz⟩ := hs.1.heap _ _ h
 have hpd := c.pub_dropv v
 have hbo : blkOf ρ i = blk v := by unfold blkOf; rw [hv, es]
 have hsep : ∀ j b, i ≠ j → getA S.H j = some b → privB b = true → ∀ x, blkOf ρ j = some x → blk v ≠ some x := by
  intro j b hij hb hp x hx hx'
  exact hs.1.sep i j _ b x hij h hb rfl hp (hbo ▸ hx') hx
 refine ⟨c.dropv v, ρ, rfl, ⟨hs.1.since.dropv hge, hs.1.gl.mono hpd, fun t x ht => rd_mono hpd (hs.1.slot t x ht), ?_, ?_⟩, hs.2⟩
 ·intro j b hb
  simp only [getA_setA] at hb
  split at hb
  ·rename_i e; subst e; cases hb
   refine ⟨v, hv, ?_⟩
   obtain ⟨a', cap', e1, h1, h2⟩ := slice_val.1 hown.val
   rw [es] at e1; cases e1
   exact rd_sl.2 ⟨a, cap, es, h1, hz, h2⟩
  ·rename_i hij
   have hb0 := hs.1.heap _ _ hb
   have hsp := hsep j b hij hb
   cases b with
   | var n' g' d =>
    obtain ⟨b', h1, h2, h3⟩ := hb0
    exact ⟨b', h1, h2, Cx.dropv_var h3 (hsp rfl b' (by simp [blkOf, h1]))⟩
   | own E' n' g' z' l' =>
    obtain ⟨v', h1, h2, h3, h4, a', cap', e', h5⟩ := hb0
    exact ⟨v', h1, Cx.dropv_own h2 (fun x hx => hsp rfl x (by unfold blkOf; rw [h1, e']; rw [e'] at hx; exact hx)), h3, h4, a', cap', e', h5⟩
   | ownI E' n' g' z' l' =>
    obtain ⟨v', h1, h2, h3, h4, a', cap', e', h5⟩ := hb0
    exact ⟨v', h1, Cx.dropv_own h2 (fun x hx => hsp rfl x (by unfold blkOf; rw [h1, e']; rw [e'] at hx; exact hx)), h3, h4, a', cap', e', h5⟩
   | pvar n' g' d =>
    obtain ⟨b', h1, h2⟩ := hb0
    exact ⟨b', h1, (rvPt _).mono h2 hpd⟩
   | pown n' g' z' l' =>
    obtain ⟨v', h1, h2⟩ := hb0
    exact ⟨v', h1, rd_mono hpd h2⟩
   | lent k' n' g' d =>
    obtain ⟨h1, h2, h3⟩ := hb0
    exact ⟨h1, h2, Cx.dropv_var h3 (hsp rfl k' (by simp [blkOf, h1]))⟩
   | kset g' k' n' l' =>
    obtain ⟨r, h1, h2, h3⟩ := hb0
    exact ⟨r, h1, h2, Cx.dropv_set h3 (hsp rfl r (by simp [blkOf, h1, blk]))⟩
 ·intro a b ba bb x hab ha hb hpa hpb hx
  simp only [getA_setA] at ha hb
  split at ha
  ·cases ha; cases hpa
  ·split at hb
   ·cases hb; cases hpb
   ·exact hs.1.sep a b ba bb x hab ha hb hpa hpb hx
theorem weak_slot (t i : Nat) {n : Nat} {g : Bool} {z : Option Bool} {l : List V} (h : getA S.F t = some (.own i)) (h2 : getA S.H i = some (.pown n g z l)) : Weak E S ⟨(t, .sl z n g l) :: S.F, S.H, S.nx⟩ := by
 intro c0 c ρ F hs
 refine ⟨c, ρ, rfl, ⟨hs.1.since, hs.1.gl, fun t' v ht => ?_, hs.1.heap, hs.1.sep⟩, hs.2⟩
 simp only [getA] at ht
 split at ht
 ·rename_i e; subst e; cases ht
  have h3 := hs.1.slot _ _ h
  obtain ⟨v, h4, h5⟩ := hs.1.heap _ _ h2
  simp only [rd] at h3
  rw [h3.1] at h4; cases h4
  simpa only [rd] using h5
 ·exact hs.1.slot _ _ ht
theorem weak_pubv (i : Nat) {n : Nat} {g : Bool} {d : V} (h : getA S.H i = some (.var n g d)) (hpu : pureV d) : Weak E S ⟨S.F, setA S.H i (.pvar n g d), S.nx⟩ := by
 intro c0 c ρ F hs
 obtain ⟨b, hv, hge, hvar⟩ := hs.1.heap _ _ h
 have hbv : blk (.slice (some ⟨b, 0, none⟩) 0 1) = some b := rfl
 have hpd := c.pub_dropv (.slice (some ⟨b, 0, none⟩) 0 1)
 have hbo : blkOf ρ i = some b := by unfold blkOf; rw [hv]
 have hsep : ∀ j b', i ≠ j → getA S.H j = some b' → privB b' = true → ∀ x, blkOf ρ j = some x → blk (.slice (some ⟨b, 0, none⟩) 0 1) ≠ some x := by
  intro j b' hij hb hp x hx hx'
  exact hs.1.sep i j _ b' x hij h hb rfl hp (hbo ▸ hx') hx
 refine ⟨c.dropv (.slice (some ⟨b, 0, none⟩) 0 1), ρ, rfl, ⟨hs.1.since.dropv (fun k hk => by rw [hbv] at hk; cases hk; exact hge), hs.1.gl.mono hpd, fun t x ht => rd_mono hpd (hs.1.slot t x ht), ?_, ?_⟩, hs.2⟩
 ·intro j b' hb
  simp only [getA_setA] at hb
  split at hb
  ·rename_i e; subst e; cases hb
   obtain ⟨h1, T, cs, h2, h3⟩ := hvar
   refine ⟨b, hv, b, 0, cs.toList, rfl, c.ok b h1, ?_, ?_, ?_⟩
   ·simp only [Cx.dropv, List.mem_filter, hbv]; simp
   ·intro j u hj
    show (c.dropv _).w.cell? _ = _
    simp only [Cx.dropv, World.cell?, h2]
    simpa using hj
   ·exact ⟨h3.1, rd_mono hpd (pure_rd hpu h3.2)⟩
  ·rename_i hij
   have hb0 := hs.1.heap _ _ hb
   have hsp := hsep j b' hij hb
   cases b' with
   | var n' g' d =>
    obtain ⟨b', h1, h2, h3⟩ := hb0
    exact ⟨b', h1, h2, Cx.dropv_var h3 (hsp rfl b' (by simp [blkOf, h1]))⟩
   | own E' n' g' z' l' =>
    obtain ⟨v', h1, h2, h3, h4, a', cap', e', h5⟩ := hb0
    exact ⟨v', h1, Cx.dropv_own h2 (fun x hx => hsp rfl x (by unfold blkOf; rw [h1, e']; rw [e'] at hx; exact hx)), h3, h4, a', cap', e', h5⟩
   | ownI E' n' g' z' l' =>
    obtain ⟨v', h1, h2, h3, h4, a', cap', e', h5⟩ := hb0
    exact ⟨v', h1, Cx.dropv_own h2 (fun x hx => hsp rfl x (by unfold blkOf; rw [h1, e']; rw [e'] at hx; exact hx)), h3, h4, a', cap', e', h5⟩
   | pvar n' g' d =>
    obtain ⟨b', h1, h2⟩ := hb0
    exact ⟨b', h1, (rvPt _).mono h2 hpd⟩
   | pown n' g' z' l' =>
    obtain ⟨v', h1, h2⟩ := hb0
    exact ⟨v', h1, rd_mono hpd h2⟩
   | lent k' n' g' d =>
    obtain ⟨h1, h2, h3⟩ := hb0
    exact ⟨h1, h2, Cx.dropv_var h3 (hsp rfl k' (by simp [blkOf, h1]))⟩
   | kset g' k' n' l' =>
    obtain ⟨r, h1, h2, h3⟩ := hb0
    exact ⟨r, h1, h2, Cx.dropv_set h3 (hsp rfl r (by simp [blkOf, h1, blk]))⟩
 ·intro a b1 ba bb x hab ha hb hpa hpb hx
  simp only [getA_setA] at ha hb
  split at ha
  ·cases ha; cases hpa
  ·split at hb
   ·cases hb; cases hpb
   ·exact hs.1.sep a b1 ba bb x hab ha hb hpa hpb hx
def rowV {α : Type} (f : α → V) (l : List α) (k : Int) (i : Nat) : List V := (l.map f).set k.toNat (.own i)
section
variable {α : Type} {f : α → V} {l : List α} {i : Nat} {q : Int}
theorem rowV_eq : (l.map f).set q.toNat (.own i) = rowV f l q i := rfl
theorem rowV_eq0 : (l.map f).set 0 (.own i) = rowV f l 0 i := rfl
theorem rowV_len : (rowV f l q i).length = l.length := by simp [rowV]
end
theorem map_st {α : Type} {f : α → V} {l : List α} {i : Int} {x : α} : (st l i x).map f = (l.map f).set i.toNat (f x) := by simp [st, List.map_set]
theorem spl_len {α : Type} {l m : List α} {i k : Nat} : (spl l i k m).length = min i l.length + min k m.length + (l.length - (i + k)) := by simp only [spl, List.length_append, List.length_take, List.length_drop]
theorem cutN_len {α : Type} {l : List α} {i j : Nat} : (cutN l i j).length = min (j - i) (l.length - i) := by simp [cutN]
theorem mul_pos_ok {a b : Int} (A B C : Int) (h1 : 0 ≤ a) (h2 : a ≤ A) (h3 : 0 ≤ b) (h4 : b ≤ B) (h5 : A * B = C) (h6 : C ≤ 9223372036854775807) : mulI .i64 a b = a * b ∧ (0 ≤ a * b ∧ a * b ≤ C) := by
 have e1 := Int.mul_nonneg h1 h3
 have e2 : a * b ≤ A * B := Int.mul_le_mul h2 h4 h3 (Int.le_trans h1 h2)
 rw [h5] at e2
 refine ⟨?_, e1, e2⟩
 unfold mulI; rw [IntKind.wrap_i64]; omega
theorem conv_i64 {a : Int} (h0 : -9223372036854775808 ≤ a) (h : a ≤ 9223372036854775807) : convI .i64 a = a := by
 unfold convI; rw [IntKind.wrap_i64]; omega
theorem conv_u64 {a : Int} (h0 : 0 ≤ a) (h : a ≤ 18446744073709551615) : convI .u64 a = a := by
 unfold convI; rw [IntKind.wrap_u64]; omega
theorem seqC_pass {a b : Code} (h : cont E J (.code a :: .lp (weakK E (cont E J (.code b :: k) .normal)) :: k) .normal S) : seqC E J true a b k S := h
theorem cut_weakW {b : Code} (S2 S1 : St) (hW : Weak E S S2) (hF : subF S2.F S1.nx S1.F) (hH : subH S2.H S1.nx S1.H) (h : cont E J (.code b :: k) .normal S1) : cont E J (.lp (weakK E (cont E J (.code b :: k) .normal)) :: k) .normal S := ⟨S1, hW.trans (weak_of hF hH), h⟩
theorem lp_introW {I : Nat → St → Prop} {n : Nat} (n' : Nat) (S2 S3 : St) (hlt : n' < n) (hW : Weak E S S2) (hF : subF S2.F S3.nx S3.F) (hH : subH S2.H S3.nx S3.H) (hI : I n' S3) : cont E J (.lp (fun S2 => ∃ n', n' < n ∧ ∃ S3, Weak E S2 S3 ∧ I n' S3) :: k) .normal S :=
 ⟨n', hlt, S3, hW.trans (weak_of hF hH), hI⟩
theorem mtL_rep {n : Nat} {a b : V} (h : mt a b) : mtL (List.replicate n a) (List.replicate n b) := by
 induction n with
 | zero => trivial
 | succ n ih => simp only [List.replicate_succ, mtL]; exact ⟨h, ih⟩
def rep {α : Type} (n : Nat) (a : α) : List α := List.replicate n a
theorem rep_len {α : Type} {n : Nat} {a : α} : (rep n a).length = n := by simp [rep]
theorem mtL_repE {n : Nat} {a b : V} : mtL (List.replicate n a) (List.replicate n b) = (n = 0 ∨ mt a b) := by
 refine propext ⟨fun h => ?_, fun h => ?_⟩
 ·cases n with
  | zero => exact .inl rfl
  | succ n => simp only [List.replicate_succ, mtL] at h; exact .inr h.1
 ·rcases h with rfl | h
  ·trivial
  ·exact mtL_rep h
theorem mtL_repM {α : Type} {n : Nat} {a : V} {f : α → V} {x : α} : mtL (List.replicate n a) ((rep n x).map f) = (n = 0 ∨ mt a (f x)) := by
 unfold rep; rw [List.map_replicate]; exact mtL_repE
end
end Go.Proofs.YteolfhljhnplpaaGreatDoor
namespace Go.Proofs.YteolfhljhnplpaaGreatDoor
open Go.RowKit
section
variable {E : Env} {J : Cuts} {k : List Ct} {S S1 S2 : St} {c0 c : Cx} {ρ : Ro} {F : Fm}
def pubV : Option Blk → V
 | some (.pown n g z l) => .sl z n g l
 | _ => .un
def pubP (off : Nat) : Option Blk → V
 | some (.pvar n g d) => if off = 0 then .pp n g d else .un
 | _ => .un
mutual
def gview (H : List (Nat × Blk)) : V → V
 | .own i => pubV (getA H i)
 | .ptr i o => pubP o (getA H i)
 | .optr _ _ _ _ => .un
 | .osub _ _ _ _ => .un
 | .agg l => .agg (gviewL H l)
 | .tup l => .tup (gviewL H l)
 | .fn f l => .fn f (gviewL H l)
 | v => v
def gviewL (H : List (Nat × Blk)) : List V → List V
 | [] => []
 | d :: l => gview H d :: gviewL H l
end
mutual
theorem gview_rd (h : Sim E c0 c ρ S F) : ∀ {d : V} {v : Value}, rd ρ c d v → rd ro0 c (gview S.H d) v
 | .int _ _, _, hr => hr
 | .bool _, _, hr => hr
 | .ifc _, _, hr => hr
 | .str _, _, hr => hr
 | .agg l, v, hr => by
  simp only [rd, gview] at hr ⊢
  obtain ⟨cs, e, hr⟩ := hr
  exact ⟨cs, e, gview_rdC h hr⟩
 | .sl z n g l, v, hr => hr
 | .pp n g d, v, hr => hr
 | .own i, v, hr => by
  simp only [rd] at hr
  simp only [gview]
  cases hb : getA S.H i with
  | none => trivial
  | some b =>
   cases b with
   | pown n g z l =>
    obtain ⟨v', h1, h2⟩ := h.heap _ _ hb
    rw [hr.1] at h1; cases h1
    exact h2
   | _ => trivial
 | .ptr i o, v, hr => by
  simp only [rd] at hr
  simp only [gview]
  obtain ⟨b0, hb0, he⟩ := hr
  cases hb : getA S.H i with
  | none => trivial
  | some b =>
   cases b with
   | pvar n g d =>
    obtain ⟨b', h1, h2⟩ := h.heap _ _ hb
    rw [hb0] at h1; cases h1
    simp only [pubP]
    split
    ·rename_i e; subst e; subst he
     exact rd_pp.2 h2
    ·trivial
   | _ => trivial
 | .optr _ _ _ _, _, _ => trivial
 | .osub _ _ _ _, _, _ => trivial
 | .tup l, v, hr => by
  simp only [rd, gview] at hr ⊢
  obtain ⟨cs, e, hr⟩ := hr
  exact ⟨cs, e, gview_rdT h hr⟩
 | .fn f l, v, hr => by
  simp only [rd, gview] at hr ⊢
  obtain ⟨cs, e, hr⟩ := hr
  exact ⟨cs, e, gview_rdT h hr⟩
 | .opq p, v, hr => hr
 | .un, _, _ => trivial
theorem gview_rdC (h : Sim E c0 c ρ S F) : ∀ {l : List V} {cs : List Value}, rdC ρ c l cs → rdC ro0 c (gviewL S.H l) cs
 | [], _, hr => hr
 | d :: l, cs, hr => by
  simp only [rdC, gviewL] at hr ⊢
  obtain ⟨u, c2, e, h1, h2, h3⟩ := hr
  exact ⟨u, c2, e, h1, gview_rd h h2, gview_rdC h h3⟩
theorem gview_rdT (h : Sim E c0 c ρ S F) : ∀ {l : List V} {cs : List Value}, rdT ρ c l cs → rdT ro0 c (gviewL S.H l) cs
 | [], _, hr => hr
 | d :: l, cs, hr => by
  simp only [rdT, gviewL] at hr ⊢
  obtain ⟨u, c2, e, h2, h3⟩ := hr
  exact ⟨u, c2, e, gview_rd h h2, gview_rdT h h3⟩
end
theorem give_gview {vs ws : List V} (hm : mtL (gviewL S.H vs) ws) : giveOk E S vs S ws :=
 fun _ c ρ _ _ h hr => ⟨c, ρ, rfl, Cx.pub.refl _, h, mt_rdT hm (gview_rdT h.1 hr)⟩
def WeakP (E : Env) (S S1 : St) : Prop := ∀ c0 c ρ F, SimN E c0 c ρ S F → ∃ c1, c1.w = c.w ∧ c.pub c1 ∧ SimN E c0 c1 ρ S1 F
theorem WeakP.trans (h : WeakP E S S1) (h' : WeakP E S1 S2) : WeakP E S S2 := by
 intro c0 c ρ F hs
 obtain ⟨c1, e, p1, h1⟩ := h c0 c ρ F hs
 obtain ⟨c2, e2, p2, h2⟩ := h' c0 c1 ρ F h1
 exact ⟨c2, e2.trans e, p1.trans p2, h2⟩
def WeakQ (E : Env) (S S1 : St) : Prop := ∀ c0 c ρ F, SimN E c0 c ρ S F → ∃ c1 ρ1, c1.w = c.w ∧ c.pub c1 ∧ roLe ρ ρ1 ∧ SimN E c0 c1 ρ1 S1 F
theorem WeakQ.trans (h : WeakQ E S S1) (h' : WeakQ E S1 S2) : WeakQ E S S2 := by
 intro c0 c ρ F hs
 obtain ⟨c1, ρ1, e, p1, r1, h1⟩ := h c0 c ρ F hs
 obtain ⟨c2, ρ2, e2, p2, r2, h2⟩ := h' c0 c1 ρ1 F h1
 exact ⟨c2, ρ2, e2.trans e, p1.trans p2, fun i v hi => r2 i v (r1 i v hi), h2⟩
theorem give_weak {vs ws : List V} (h : WeakP E S S1) (hg : giveOk E S1 vs S2 ws) : giveOk E S vs S2 ws := by
 intro c0 c ρ F us hs hr
 obtain ⟨c1, e, p1, h1⟩ := h c0 c ρ F hs
 obtain ⟨c2, ρ2, e2, p2, h2, h3⟩ := hg c0 c1 ρ F us h1 (rdT_mono p1 hr)
 exact ⟨c2, ρ2, e2.trans e, p1.trans p2, h2, h3⟩
theorem callC_giveP {f : FuncId} {caps vs : List V} {d : Option Nat} {ws : List V} {r : V} {H : List Blk} (hc : CallOk E f ws r H) (hw : WeakP E S S1) (hm : mtL (gviewL S1.H (vs ++ caps)) ws) (h : wfV r → cont E J k .normal (S1.after d r H)) : callC E J (some (.fn f caps)) (some vs) S d k :=
 .inl ⟨ws, r, H, hc, .inl ⟨S1, give_weak hw (give_gview hm), h⟩⟩
theorem callC_giveG {f : FuncId} {caps vs : List V} {d : Option Nat} {ws : List V} {r : V} {H : List Blk} (hc : CallOk E f ws r H) (hm : mtL (gviewL S.H (vs ++ caps)) ws) (h : wfV r → cont E J k .normal (S.after d r H)) : callC E J (some (.fn f caps)) (some vs) S d k :=
 .inl ⟨ws, r, H, hc, .inl ⟨S, give_gview hm, h⟩⟩
theorem weakP_pub (i : Nat) {T n : Nat} {g : Bool} {z : Option Bool} {l : List V} (h : getA S.H i = some (.own T n g z l)) : WeakP E S ⟨S.F, setA S.H i (.pown n g z l), S.nx⟩ := by
 intro c0 c ρ F hs
 obtain ⟨v, hv, hown, hge, hone, a, cap, es, hz⟩ := hs.1.heap _ _ h
 obtain ⟨c1, ρ1, e, h1⟩ := weak_pub i h c0 c ρ F hs
 have hpd := c.pub_dropv v
 have hbo : blkOf ρ i = blk v := by unfold blkOf; rw [hv, es]
 have hsep : ∀ j b, i ≠ j → getA S.H j = some b → privB b = true → ∀ x, blkOf ρ j = some x → blk v ≠ some x := by
  intro j b hij hb hp x hx hx'
  exact hs.1.sep i j _ b x hij h hb rfl hp (hbo ▸ hx') hx
 refine ⟨c.dropv v, rfl, hpd, ⟨hs.1.since.dropv hge, hs.1.gl.mono hpd, fun t x ht => rd_mono hpd (hs.1.slot t x ht), ?_, ?_⟩, hs.2⟩
 ·intro j b hb
  simp only [getA_setA] at hb
  split at hb
  ·rename_i e; subst e; cases hb
   refine ⟨v, hv, ?_⟩
   obtain ⟨a', cap', e1, h1, h2⟩ := slice_val.1 hown.val
   rw [es] at e1; cases e1
   exact rd_sl.2 ⟨a, cap, es, h1, hz, h2⟩
  ·rename_i hij
   have hb0 := hs.1.heap _ _ hb
   have hsp := hsep j b hij hb
   cases b with
   | var n' g' d =>
    obtain ⟨b', h1, h2, h3⟩ := hb0
    exact ⟨b', h1, h2, Cx.dropv_var h3 (hsp rfl b' (by simp [blkOf, h1]))⟩
   | own E' n' g' z' l' =>
    obtain ⟨v', h1, h2, h3, h4, a', cap', e', h5⟩ := hb0
    exact ⟨v', h1, Cx.dropv_own h2 (fun x hx => hsp rfl x (by unfold blkOf; rw [h1, e']; rw [e'] at hx; exact hx)), h3, h4, a', cap', e', h5⟩
   | ownI E' n' g' z' l' =>
    obtain ⟨v', h1, h2, h3, h4, a', cap', e', h5⟩ := hb0
    exact ⟨v', h1, Cx.dropv_own h2 (fun x hx => hsp rfl x (by unfold blkOf; rw [h1, e']; rw [e'] at hx; exact hx)), h3, h4, a', cap', e', h5⟩
   | pvar n' g' d =>
    obtain ⟨b', h1, h2⟩ := hb0
    exact ⟨b', h1, (rvPt _).mono h2 hpd⟩
   | pown n' g' z' l' =>
    obtain ⟨v', h1, h2⟩ := hb0
    exact ⟨v', h1, rd_mono hpd h2⟩
   | lent k' n' g' d =>
    obtain ⟨h1, h2, h3⟩ := hb0
    exact ⟨h1, h2, Cx.dropv_var h3 (hsp rfl k' (by simp [blkOf, h1]))⟩
   | kset g' k' n' l' =>
    obtain ⟨r, h1, h2, h3⟩ := hb0
    exact ⟨r, h1, h2, Cx.dropv_set h3 (hsp rfl r (by simp [blkOf, h1, blk]))⟩
 ·intro a b ba bb x hab ha hb hpa hpb hx
  simp only [getA_setA] at ha hb
  split at ha
  ·cases ha; cases hpa
  ·split at hb
   ·cases hb; cases hpb
   ·exact hs.1.sep a b ba bb x hab ha hb hpa hpb hx
def posN : List Nat → Nat → Nat → Option Nat
 | [], _, _ => none
 | j :: l, i, k => if j = i then some k else posN l i (k + 1)
def ownAt (H : List (Nat × Blk)) (i : Nat) : Option Nat → V
 | some k => .own k
 | none => ownV (getA H i)
mutual
def viewO (H : List (Nat × Blk)) (ids : List Nat) : V → V
 | .own i => ownAt H i (posN ids i 0)
 | .ptr _ _ => .un
 | .optr _ _ _ _ => .un
 | .osub _ _ _ _ => .un
 | .agg l => .agg (viewOL H ids l)
 | .tup l => .tup (viewOL H ids l)
 | .fn f l => .fn f (viewOL H ids l)
 | v => v
def viewOL (H : List (Nat × Blk)) (ids : List Nat) : List V → List V
 | [] => []
 | d :: l => viewO H ids d :: viewOL H ids l
end
theorem posN_some : ∀ {l : List Nat} {i k q : Nat}, posN l i k = some q → k ≤ q ∧ l[q - k]? = some i
 | [], _, _, _, h => by simp [posN] at h
 | j :: l, i, k, q, h => by
  simp only [posN] at h
  split at h
  ·rename_i e; subst e; cases h; simp
  ·obtain ⟨h1, h2⟩ := posN_some h
   refine ⟨by omega, ?_⟩
   rw [show q - k = (q - (k + 1)) + 1 by omega, List.getElem?_cons_succ]
   exact h2
theorem posN_none : ∀ {l : List Nat} {i k : Nat}, posN l i k = none → i ∉ l
 | [], _, _, _ => by simp
 | j :: l, i, k, h => by
  simp only [posN] at h
  split at h
  ·cases h
  ·rename_i e
   simp only [List.mem_cons, not_or]
   exact ⟨fun e' => e e'.symm, posN_none h⟩
def roIds (ρ : Ro) (ids : List Nat) : Ro := fun k => match ids[k]? with
 | some i => ρ i
 | none => none
def Cx.give (c0 c : Cx) (ρ : Ro) (ids : List Nat) (h0 : c0.w.heap.size ≤ c.w.heap.size) (h : ∀ i ∈ ids, ∀ k, blkOf ρ i = some k → k < c.w.heap.size) : Cx :=
 { X := c0.X ++ ids.filterMap (blkOf ρ), w := c.w, ok := fun k hk => (by
  rcases List.mem_append.1 hk with hk | hk
  ·exact Nat.lt_of_lt_of_le (c0.ok k hk) h0
  ·obtain ⟨i, hi, hb⟩ := List.mem_filterMap.1 hk
   exact h i hi k hb) }
def ownsL (H : List (Nat × Blk)) : List Nat → List Blk → Prop
 | [], [] => True
 | i :: ids, b :: bs => getA H i = some b ∧ (match b with | .own _ _ _ _ _ => True | _ => False) ∧ ownsL H ids bs
 | _, _ => False
theorem ownsL_get {H : List (Nat × Blk)} : ∀ {ids : List Nat} {bs : List Blk}, ownsL H ids bs → ids.length = bs.length ∧ (∀ (k : Nat) (b : Blk), bs[k]? = some b → ∃ i, ids[k]? = some i ∧ getA H i = some b ∧ ∃ T n g z l, b = .own T n g z l) ∧ ∀ i ∈ ids, ∃ b, getA H i = some b ∧ ∃ T n g z l, b = .own T n g z l
 | [], [], _ => ⟨rfl, by simp, by simp⟩
 | i :: ids, b :: bs, h => by
  simp only [ownsL] at h
  obtain ⟨h1, h2, h3⟩ := h
  obtain ⟨g1, g2, g3⟩ := ownsL_get h3
  have hb : ∃ T n g z l, b = .own T n g z l := by
   cases b <;> first | exact ⟨_, _, _, _, _, rfl⟩ | exact h2.elim
  refine ⟨by simp [g1], ?_, ?_⟩
  ·intro k b' hk
   cases k with
   | zero => simp at hk; subst hk; exact ⟨i, by simp, h1, hb⟩
   | succ k => obtain ⟨j, e, g⟩ := g2 k b' (by simpa using hk); exact ⟨j, by simpa using e, g⟩
  ·intro j hj
   rcases List.mem_cons.1 hj with rfl | hj
   ·exact ⟨b, h1, hb⟩
   ·exact g3 j hj
 | [], _ :: _, h => by simp [ownsL] at h
 | _ :: _, [], h => by simp [ownsL] at h
theorem own_at {c1 : Cx} (hw : c1.w = c.w) (hpb : c.pub c1) (h : Sim E c0 c ρ S F) {i : Nat} {b : Blk} {v : Value} (hb : getA S.H i = some b) (hv : ρ i = some v) (hn : privB b = true → ∀ k, blkOf ρ i = some k → k ∉ c1.X) : rd ro0 c1 (ownV (some b)) v := by
 have hblk := h.heap i b hb
 cases b with
 | own T n g z l =>
  obtain ⟨v', h1, h2, h3, h4, a, cap, e, hz⟩ := hblk
  rw [hv] at h1; cases h1
  simp only [ownV]
  refine rd_sl.2 ⟨a, cap, e, ⟨h2.1, ?_⟩, hz, ?_⟩
  ·rcases h2.2 with ⟨a', _, rfl⟩ | ⟨g', cp, cur, e2, _, _, k3, _⟩
   ·simp
   ·rw [e] at e2; cases e2; exact k3
  ·rcases h2.2 with ⟨a', _, rfl⟩ | ⟨g', cp, cur, e2, k1, k2, k3, k4, k5, k6⟩
   ·exact .inl rfl
   ·rw [e] at e2; cases e2
    refine .inr ⟨g', 0, _, rfl, by rw [hw]; exact c.ok g' k1, hn rfl g' (by unfold blkOf; rw [hv, e]; rfl), ?_, arrIs_mono hpb k6⟩
    intro j u hj
    rw [List.getElem?_take] at hj
    split at hj
    ·simp only [Nat.zero_add]
     show c1.w.cell? _ = _
     rw [hw]
     simp only [World.cell?, k2]
     simpa using hj
    ·cases hj
 | pown n g z l =>
  obtain ⟨v', h1, h2⟩ := hblk
  rw [hv] at h1; cases h1
  exact rd_mono hpb h2
 | _ => trivial
mutual
theorem viewO_rd {c1 : Cx} {ids : List Nat} (hw : c1.w = c.w) (hpb : c.pub c1) (h : Sim E c0 c ρ S F) (hn : ∀ i b, i ∉ ids → getA S.H i = some b → privB b = true → ∀ k, blkOf ρ i = some k → k ∉ c1.X) : ∀ {d : V} {v : Value}, rd ρ c d v → rd (roIds ρ ids) c1 (viewO S.H ids d) v
 | .int _ _, _, hr => hr
 | .bool _, _, hr => hr
 | .ifc _, _, hr => hr
 | .str _, _, hr => hr
 | .agg l, v, hr => by
  simp only [rd, viewO] at hr ⊢
  obtain ⟨cs, e, hr⟩ := hr
  exact ⟨cs, e, viewO_rdC hw hpb h hn hr⟩
 | .sl z n g l, v, hr => rd_mono hpb (show rd ro0 c (.sl z n g l) v from hr)
 | .pp n g d, v, hr => rd_mono hpb (show rd ro0 c (.pp n g d) v from hr)
 | .own i, v, hr => by
  simp only [rd] at hr
  simp only [viewO]
  cases hp : posN ids i 0 with
  | some q =>
   obtain ⟨_, h2⟩ := posN_some hp
   simp only [ownAt, rd]
   exact ⟨by simp only [roIds]; rw [show q - 0 = q from rfl] at h2; rw [h2]; exact hr.1, hr.2⟩
  | none =>
   simp only [ownAt]
   cases hb : getA S.H i with
   | none => trivial
   | some b => exact rd0 (own_at hw hpb h hb hr.1 (fun hp' => hn i b (posN_none hp) hb hp'))
 | .ptr _ _, _, _ => trivial
 | .optr _ _ _ _, _, _ => trivial
 | .osub _ _ _ _, _, _ => trivial
 | .tup l, v, hr => by
  simp only [rd, viewO] at hr ⊢
  obtain ⟨cs, e, hr⟩ := hr
  exact ⟨cs, e, viewO_rdT hw hpb h hn hr⟩
 | .fn f l, v, hr => by
  simp only [rd, viewO] at hr ⊢
  obtain ⟨cs, e, hr⟩ := hr
  exact ⟨cs, e, viewO_rdT hw hpb h hn hr⟩
 | .opq p, v, hr => rd_mono hpb (show rd ro0 c (.opq p) v from hr)
 | .un, _, _ => trivial
theorem viewO_rdC {c1 : Cx} {ids : List Nat} (hw : c1.w = c.w) (hpb : c.pub c1) (h : Sim E c0 c ρ S F) (hn : ∀ i b, i ∉ ids → getA S.H i = some b → privB b = true → ∀ k, blkOf ρ i = some k → k ∉ c1.X) : ∀ {l : List V} {cs : List Value}, rdC ρ c l cs → rdC (roIds ρ ids) c1 (viewOL S.H ids l) cs
 | [], _, hr => hr
 | d :: l, cs, hr => by
  simp only [rdC, viewOL] at hr ⊢
  obtain ⟨u, c2, e, h1, h2, h3⟩ := hr
  exact ⟨u, c2, e, h1, viewO_rd hw hpb h hn h2, viewO_rdC hw hpb h hn h3⟩
theorem viewO_rdT {c1 : Cx} {ids : List Nat} (hw : c1.w = c.w) (hpb : c.pub c1) (h : Sim E c0 c ρ S F) (hn : ∀ i b, i ∉ ids → getA S.H i = some b → privB b = true → ∀ k, blkOf ρ i = some k → k ∉ c1.X) : ∀ {l : List V} {cs : List Value}, rdT ρ c l cs → rdT (roIds ρ ids) c1 (viewOL S.H ids l) cs
 | [], _, hr => hr
 | d :: l, cs, hr => by
  simp only [rdT, viewOL] at hr ⊢
  obtain ⟨u, c2, e, h2, h3⟩ := hr
  exact ⟨u, c2, e, viewO_rd hw hpb h hn h2, viewO_rdT hw hpb h hn h3⟩
end
theorem nodup_idx : ∀ {l : List Nat} {i q q' : Nat}, l.Nodup → l[q]? = some i → l[q']? = some i → q = q'
 | [], _, _, _, _, h, _ => by simp at h
 | a :: l, i, 0, 0, _, _, _ => rfl
 | a :: l, i, 0, q' + 1, hd, h, h' => by
  simp at h h'; subst h
  exact absurd (List.mem_of_getElem? h') (List.nodup_cons.1 hd).1
 | a :: l, i, q + 1, 0, hd, h, h' => by
  simp at h h'; subst h'
  exact absurd (List.mem_of_getElem? h) (List.nodup_cons.1 hd).1
 | a :: l, i, q + 1, q' + 1, hd, h, h' => by
  simp only [List.getElem?_cons_succ] at h h'
  rw [nodup_idx (List.nodup_cons.1 hd).2 h h']
theorem out_own {v r : V} (ids : List Nat) {bs : List Blk} (ho : ownsL S.H ids bs) (hd : ids.Nodup) (hm : mt (viewO S.H ids v) r) : outOk E S v r bs := by
 intro c0 c ρ F u hY h hr
 obtain ⟨hlen, hget, hall⟩ := ownsL_get ho
 have hlt : ∀ i ∈ ids, ∀ k, blkOf ρ i = some k → k < c.w.heap.size := by
  intro i hi k hk
  obtain ⟨b, hb, T, n, g, z, l, rfl⟩ := hall i hi
  exact blkOk_lt rfl (h.1.heap _ _ hb) k hk
 have hge : ∀ i ∈ ids, ∀ k, blkOf ρ i = some k → c0.w.heap.size ≤ k := by
  intro i hi k hk
  obtain ⟨b, hb, T, n, g, z, l, rfl⟩ := hall i hi
  exact Cx.mine_of hY (blkOf_ge h.1 hb rfl k hk)
 have hX : ∀ i ∈ ids, ∀ k, blkOf ρ i = some k → k ∈ c.X := by
  intro i hi k hk
  obtain ⟨b, hb, T, n, g, z, l, rfl⟩ := hall i hi
  obtain ⟨v, h1, h2, _, _, a, cap, e, _⟩ := h.1.heap _ _ hb
  refine h2.isX k ?_
  unfold blkOf at hk
  rw [h1, e] at hk
  rw [e]; exact hk
 have hpub : c.pub (Cx.give c0 c ρ ids h.1.since.size hlt) := by
  refine ⟨Nat.le_refl _, fun k hk hx => ⟨fun h' => ?_, rfl⟩⟩
  rcases List.mem_append.1 h' with h' | h'
  ·exact hx (h.1.since.X k h' (by rw [hY]; simp))
  ·obtain ⟨i, hi, hb⟩ := List.mem_filterMap.1 h'
   exact hx (hX i hi k hb)
 have hle : c0.le (Cx.give c0 c ρ ids h.1.since.size hlt) := by
  refine Cx.leY.le ⟨h.1.since.below, fun k hk _ => ⟨fun h' => ?_, fun h' => List.mem_append.2 (.inl h')⟩⟩ hY
  rcases List.mem_append.1 h' with h' | h'
  ·exact h'
  ·obtain ⟨i, hi, hb⟩ := List.mem_filterMap.1 h'
   have := hge i hi k hb
   omega
 refine ⟨Cx.give c0 c ρ ids h.1.since.size hlt, roIds ρ ids, rfl, hle, mt_rd hm (viewO_rd (c := c) (c1 := Cx.give c0 c ρ ids h.1.since.size hlt) (ids := ids) rfl hpub h.1 ?_ hr), ?_, ?_, ?_⟩
 ·intro i b hi hb hp k hk hmem
  rcases List.mem_append.1 hmem with h' | h'
  ·have h1 := Cx.mine_of hY (blkOf_ge h.1 hb hp k hk)
   have h2 := c0.ok k h'
   omega
  ·obtain ⟨j, hj, hb'⟩ := List.mem_filterMap.1 h'
   obtain ⟨bj, hbj, T, n, g, z, l, rfl⟩ := hall j hj
   exact h.1.sep i j b _ k (fun e => hi (e ▸ hj)) hb hbj hp rfl hk hb'
 ·intro q b hq
  obtain ⟨i, hi, hb, T, n, g, z, l, rfl⟩ := hget q b hq
  refine ⟨⟨T, n, g, z, l, rfl⟩, ?_⟩
  obtain ⟨v, h1, h2, h3, h4, a, cap, e, h5⟩ := h.1.heap _ _ hb
  have hmem : i ∈ ids := List.mem_of_getElem? hi
  refine ⟨v, by simp only [roIds, hi]; exact h1, ⟨h2.1, ?_⟩, h3, h4, a, cap, e, h5⟩
  rcases h2.2 with h' | ⟨g', cp, cur, e2, k1, k2, k3, k4, k5, k6⟩
  ·exact .inl h'
  ·refine .inr ⟨g', cp, cur, e2, List.mem_append.2 (.inr (List.mem_filterMap.2 ⟨i, hmem, ?_⟩)), k2, k3, k4, k5, arrIs_mono hpub k6⟩
   unfold blkOf; rw [h1, e2]; rfl
 ·intro q hq
  simp only [roIds]
  rw [List.getElem?_eq_none (by omega)]
 ·intro q q' bq bq' k hne hq hq' hk hk'
  obtain ⟨i, hi, hb, T, n, g, z, l, rfl⟩ := hget q bq hq
  obtain ⟨i', hi', hb', T', n', g', z', l', rfl⟩ := hget q' bq' hq'
  have hii : i ≠ i' := by
   rintro rfl
   exact hne (nodup_idx hd hi hi')
  have e1 : blkOf (roIds ρ ids) q = blkOf ρ i := by simp only [blkOf, roIds, hi]
  have e2 : blkOf (roIds ρ ids) q' = blkOf ρ i' := by simp only [blkOf, roIds, hi']
  rw [e1] at hk
  rw [e2] at hk'
  exact h.1.sep i i' _ _ k hii hb hb' rfl rfl hk hk'
def zN : Blk → Blk
 | .own T n g _ l => .own T n g none l
 | b => b
theorem HOk_zN {c' : Cx} {H : List Blk} (h : HOk c c' ρ H) : HOk c c' ρ (H.map zN) := by
 obtain ⟨h1, h2, h3⟩ := h
 have key : ∀ (i : Nat) (b : Blk), (H.map zN)[i]? = some b → ∃ T n g z l, H[i]? = some (Blk.own T n g z l) ∧ b = Blk.own T n g none l := by
  intro i b hb
  rw [List.getElem?_map] at hb
  cases hi : H[i]? with
  | none => rw [hi] at hb; cases hb
  | some b0 =>
   rw [hi] at hb
   obtain ⟨⟨T, n, g, z, l, rfl⟩, _⟩ := h1 i b0 hi
   cases hb
   exact ⟨T, n, g, z, l, rfl, rfl⟩
 refine ⟨fun i b hb => ?_, fun i hi => h2 i (by simpa using hi), fun i j bi bj k hij hi hj => ?_⟩
 ·obtain ⟨T, n, g, z, l, hi, rfl⟩ := key i b hb
  obtain ⟨_, v, g1, g2, g3, g4, a, cap, e, g5⟩ := h1 i _ hi
  exact ⟨⟨T, n, g, none, l, rfl⟩, v, g1, g2, g3, g4, a, cap, e, zOk_none g5⟩
 ·obtain ⟨T, n, g, z, l, hi', rfl⟩ := key i bi hi
  obtain ⟨T', n', g', z', l', hj', rfl⟩ := key j bj hj
  exact h3 i j _ _ k hij hi' hj'
theorem retC_owns {vs : List V} {r : V} (ids : List Nat) {bs : List Blk} (ho : ownsL S.H ids bs) (hd : ids.Nodup) (hm : mt (viewO S.H ids (tupV vs)) r) : retC E S r (bs.map zN) (some vs) := by
 intro c0 c ρ F u hY hs hr
 obtain ⟨c1, ρ1, e, hle, h1, h2⟩ := out_own ids ho hd hm c0 c ρ F u hY hs hr
 exact ⟨c1, ρ1, e, hle, h1, HOk_zN h2⟩
theorem retC_ownZ {vs : List V} {T n : Nat} {g : Bool} {z : Option Bool} {l : List V} (i : Nat) (h : getA S.H i = some (.own T n g z l)) (hm : mt (viewO S.H [i] (tupV vs)) (.own 0)) : retC E S (.own 0) [.own T n g none l] (some vs) :=
 retC_owns [i] (bs := [.own T n g z l]) ⟨h, trivial, trivial⟩ (by simp) hm
theorem retC_nil {T n : Nat} {g : Bool} (hone : g = false → n = 1) : retC E S (.own 0) [.own T n g none []] (some [.sl (some true) n g []]) := by
 intro c0 c ρ F u hY h hr
 have e : u = .slice none 0 0 := by
  simp only [tupV, rd, zOk] at hr
  obtain ⟨a, cap, e, _, ⟨rfl, rfl⟩, _⟩ := hr
  exact e
 subst e
 refine ⟨c0.base c h.1.since.size, fun i => if i = 0 then some (.slice none 0 0) else none, rfl, Cx.leY.le ⟨h.1.since.below, fun k hk hy => by rw [base_X]; exact ⟨fun h => h.1, fun h => ⟨h, hy⟩⟩⟩ hY, ⟨rfl, rfl⟩, ?_, ?_, ?_⟩
 ·intro i b hb
  cases i with
  | zero =>
   simp at hb; subst hb
   exact ⟨⟨_, _, _, _, _, rfl⟩, .slice none 0 0, rfl, Own.nil, fun k hk => by simp [blk] at hk, hone, none, 0, rfl, fun _ => rfl⟩
  | succ i => simp at hb
 ·intro i hi
  have : i ≠ 0 := by simp at hi; omega
  simp [this]
 ·intro i j bi bj k hij hi hj
  cases i with
  | zero => cases j with
   | zero => exact absurd rfl hij
   | succ j => simp at hj
  | succ i => simp at hi
theorem callOk_nil {f : FuncId} {pre post : List V} {n : Nat} {g : Bool} {l : List V} {r : V} {H : List Blk} (h1 : l = [] → CallOk E f (pre ++ .sl (some true) n g [] :: post) r H) (h2 : CallOk E f (pre ++ .sl (some false) n g l :: post) r H) (z : Option Bool) : CallOk E f (pre ++ .sl z n g l :: post) r H := by
 refine ⟨h2.1, fun c us hY hg hus => ?_⟩
 have key : ∀ {pre : List V} {us : List Value}, rdT ro0 c (pre ++ .sl z n g l :: post) us → (l = [] ∧ rdT ro0 c (pre ++ .sl (some true) n g [] :: post) us) ∨ rdT ro0 c (pre ++ .sl (some false) n g l :: post) us := by
  intro pre
  induction pre with
  | nil =>
   intro us h
   simp only [List.nil_append, rdT] at h ⊢
   obtain ⟨u, c2, rfl, hu, h3⟩ := h
   obtain ⟨a, cap, e, hl, hz, hs⟩ := rd_sl.1 hu
   cases a with
   | some a => exact .inr ⟨u, c2, rfl, rd_sl.2 ⟨_, cap, e, hl, by simp [zOk], hs⟩, h3⟩
   | none =>
    rcases hs with rfl | ⟨b, o, cs, e', _⟩
    ·have hc := zOk_none hz rfl
     subst hc
     exact .inl ⟨rfl, u, c2, rfl, rd_sl.2 ⟨none, 0, e, ⟨Nat.zero_le _, Nat.zero_le _⟩, ⟨rfl, rfl⟩, .inl rfl⟩, h3⟩
    ·cases e'
  | cons d pre ih =>
   intro us h
   simp only [List.cons_append, rdT] at h ⊢
   obtain ⟨u, c2, rfl, hu, h3⟩ := h
   rcases ih h3 with ⟨e, h4⟩ | h4
   ·exact .inl ⟨e, u, c2, rfl, hu, h4⟩
   ·exact .inr ⟨u, c2, rfl, hu, h4⟩
 rcases key hus with ⟨e, h⟩ | h
 ·exact (h1 e).2 c us hY hg h
 ·exact h2.2 c us hY hg h
end
attribute [go_sem] gview gviewL pubV pubP ownsL viewO viewOL posN ownAt
theorem CallOk.pub {E : Env} {f : FuncId} {ws : List V} {T n : Nat} {g : Bool} {z : Option Bool} {l : List V} (h : CallOk E f ws (.own 0) [.own T n g z l]) : CallOk E f ws (.sl z n g l) [] := by
 refine ⟨h.1, fun c us hY hg hus => (h.2 c us hY hg hus).mono ?_⟩
 rintro e w' ⟨v, c', ρ, rfl, rfl, hle, hrd, hH⟩
 obtain ⟨v', hv, hown, hge, hone, a, cap, es, hz⟩ := (hH.1 0 _ rfl).2
 have e : v = v' := by
  simp only [rd] at hrd
  rw [hv] at hrd
  exact (Option.some.inj hrd.1).symm
 subst e
 refine ⟨v, c'.dropv v, ro0, rfl, rfl, le_dropv hle (fun g hg => Cx.mine_of hY (hge g hg)), ?_, fun i b hb => by simp at hb, fun _ _ => rfl, fun i j bi bj k _ hb => by simp at hb⟩
 obtain ⟨a', cap', e1, h1, h2⟩ := slice_val.1 hown.val
 rw [es] at e1; cases e1
 exact rd_sl.2 ⟨a, cap, es, h1, hz, h2⟩
end Go.Proofs.YteolfhljhnplpaaGreatDoor
namespace Go.Proofs.YteolfhljhnplpaaGreatDoor
open Go.RowKit
@[go_sem] theorem app_cons {α : Type} {a : α} {l m : List α} : List.append (a :: l) m = a :: List.append l m := Eq.trans rfl rfl
@[go_sem] theorem app_nil {α : Type} {m : List α} : List.append [] m = m := Eq.trans rfl rfl
attribute [go_sem] Int.cast_ofNat_Int
@[go_sem] theorem lit_len {l : List UInt8} : (l.toArray.size ≤ LEN) = (l.length ≤ 1073741824) := by rw [List.size_toArray]; rfl
theorem spQ {P Q : Prop} (h : Q) (e : P = Q := by (simp only [go_sem, rowV_eq, rowV_eq0, List.length_replicate, rep_len, Int.toNat_natCast, ↓reduceIte, Nat.reduceEqDiff, Nat.reduceAdd, Int.reduceAdd, Nat.reduceMul, Nat.reduceLeDiff, Nat.reduceLT, Int.reduceLE, Int.reduceLT, Int.reduceNeg, Int.reduceToNat]; rfl)) : P := e ▸ h
theorem spQA {A P Q : Prop} (a : A) (h : Q) (e : A → P = Q := by (intro hA; simp only [go_sem, rowV_eq, rowV_eq0, List.length_replicate, rep_len, Int.toNat_natCast, ↓reduceIte, Nat.reduceEqDiff, Nat.reduceAdd, Int.reduceAdd, Nat.reduceMul, Nat.reduceLeDiff, Nat.reduceLT, Int.reduceLE, Int.reduceLT, Int.reduceNeg, Int.reduceToNat, hA]; rfl)) : P := e a ▸ h
theorem clQ {P : Prop} (h : P := by (simp only [go_sem, rowV_eq, rowV_eq0, List.length_replicate, rep_len, Int.toNat_natCast, ↓reduceIte, Nat.reduceEqDiff, Nat.reduceAdd, Int.reduceAdd, Nat.reduceMul, Nat.reduceLeDiff, Nat.reduceLT, Int.reduceLE, Int.reduceLT, Int.reduceNeg, Int.reduceToNat, gt_cons0, gt_conss, Int.reduceSub, or_self, or_true, true_or] <;> fail)) : P := h
theorem clQA {A P : Prop} (a : A) (h : A → P := by (intro hA; simp only [go_sem, rowV_eq, rowV_eq0, List.length_replicate, rep_len, Int.toNat_natCast, ↓reduceIte, Nat.reduceEqDiff, Nat.reduceAdd, Int.reduceAdd, Nat.reduceMul, Nat.reduceLeDiff, Nat.reduceLT, Int.reduceLE, Int.reduceLT, Int.reduceNeg, Int.reduceToNat, gt_cons0, gt_conss, Int.reduceSub, or_self, or_true, true_or, hA] <;> fail)) : P := h a
theorem lfQ {P : Prop} (h : P := by (simp only [go_sem, rowV_eq, rowV_eq0, List.length_replicate, rep_len, Int.toNat_natCast, ↓reduceIte, Nat.reduceEqDiff, Nat.reduceAdd, Int.reduceAdd, Nat.reduceMul, Nat.reduceLeDiff, Nat.reduceLT, Int.reduceLE, Int.reduceLT, Int.reduceNeg, Int.reduceToNat, gt_cons0, gt_conss, Int.reduceSub, or_self, or_true, true_or] <;> fail)) : P := h
theorem lfQA {A P : Prop} (a : A) (h : A → P := by (intro hA; simp only [go_sem, rowV_eq, rowV_eq0, List.length_replicate, rep_len, Int.toNat_natCast, ↓reduceIte, Nat.reduceEqDiff, Nat.reduceAdd, Int.reduceAdd, Nat.reduceMul, Nat.reduceLeDiff, Nat.reduceLT, Int.reduceLE, Int.reduceLT, Int.reduceNeg, Int.reduceToNat, gt_cons0, gt_conss, Int.reduceSub, or_self, or_true, true_or, hA] <;> fail)) : P := h a
theorem sbQ {P : Prop} (h : P := by (simp only [go_sem, rowV_eq, rowV_eq0, List.length_replicate, rep_len, Int.toNat_natCast, ↓reduceIte, Nat.reduceEqDiff, Nat.reduceAdd, Int.reduceAdd, Nat.reduceMul, Nat.reduceLeDiff, Nat.reduceLT, Int.reduceLE, Int.reduceLT, Int.reduceNeg, Int.reduceToNat, map_st, mtL_repE, mtL_repM, subF, subH, mtO, mtB, mt, mtL, mtL_self, mt_self, ltV, ltL, ltB, eq_self, or_true, true_or, or_self, and_self] <;> fail)) : P := h
theorem sbQA {A P : Prop} (a : A) (h : A → P := by (intro hA; simp only [go_sem, rowV_eq, rowV_eq0, List.length_replicate, rep_len, Int.toNat_natCast, ↓reduceIte, Nat.reduceEqDiff, Nat.reduceAdd, Int.reduceAdd, Nat.reduceMul, Nat.reduceLeDiff, Nat.reduceLT, Int.reduceLE, Int.reduceLT, Int.reduceNeg, Int.reduceToNat, map_st, mtL_repE, mtL_repM, subF, subH, mtO, mtB, mt, mtL, mtL_self, mt_self, ltV, ltL, ltB, eq_self, or_true, true_or, or_self, and_self, hA] <;> fail)) : P := h a
theorem alQ {P : Prop} (h : P := by first | (simp only [go_sem, rowV_eq, rowV_eq0, List.length_replicate, rep_len, Int.toNat_natCast, ↓reduceIte, Nat.reduceEqDiff, Nat.reduceAdd, Int.reduceAdd, Nat.reduceMul, Nat.reduceLeDiff, Nat.reduceLT, Int.reduceLE, Int.reduceLT, Int.reduceNeg, Int.reduceToNat, List.all_nil, List.all_cons]; done) | rfl) : P := h
theorem nzQ {P Q : Prop} (h : P) (e : P = Q := by first | (simp only [decide_eq_true_eq, decide_eq_false_iff_not, Bool.and_eq_true, Bool.or_eq_true, Bool.not_eq_true', Bool.not_eq_false', beq_iff_eq, bne_iff_ne, beq_eq_false_iff_ne, bne_eq_false_iff_eq, ne_eq, Int.not_lt, Int.not_le, gt_iff_lt, ge_iff_le, List.length_map, wfL, wfV, and_true, true_and, LEN_eq, rng_i64, rng_u64, rng_u32, rng_i32, sl_len, st_len, List.length_append, List.length_cons, List.length_nil, List.length_replicate, rep_len, rowV_len, spl_len, cutN_len, arrN_len, nat8_len, remI_nn]; rfl) | rfl) : Q := e ▸ h
theorem omQ {P : Prop} (h : P := by (clear hM; (try simp only [List.length_map, List.length_set, sl_len, st_len, List.length_append, List.length_cons, List.length_nil, List.length_replicate, rep_len, rowV_len, spl_len, cutN_len, arrN_len, nat8_len, decide_eq_true_eq]) <;> omega)) : P := h
theorem omQ' {P : Prop} (h : P := by ((try simp only [List.length_map, List.length_set, sl_len, st_len, List.length_append, List.length_cons, List.length_nil, List.length_replicate, rep_len, rowV_len, spl_len, cutN_len, arrN_len, nat8_len, decide_eq_true_eq]) <;> omega)) : P := h
theorem pfQ {P : Prop} (h : P := by (clear hM; first | omega | (simp only [decide_eq_true_eq, decide_eq_false_iff_not, Bool.and_eq_true, Bool.or_eq_true, Bool.not_eq_true', Bool.not_eq_false', beq_iff_eq, bne_iff_ne, beq_eq_false_iff_ne, bne_eq_false_iff_eq, ne_eq, Int.not_lt, Int.not_le, gt_iff_lt, ge_iff_le, List.length_map, wfL, wfV, and_true, true_and, LEN_eq, rng_i64, rng_u64, rng_u32, rng_i32, sl_len, st_len, List.length_append, List.length_cons, List.length_nil, List.length_replicate, rep_len, rowV_len, spl_len, cutN_len, arrN_len, nat8_len, remI_nn] at *; omega))) : P := h
theorem spR {P Q : Prop} (h : P) (e : P = Q := by first | (simp only [go_sem, rowV_eq, rowV_eq0, List.length_replicate, rep_len, Int.toNat_natCast, ↓reduceIte, Nat.reduceEqDiff, Nat.reduceAdd, Int.reduceAdd, Nat.reduceMul, Nat.reduceLeDiff, Nat.reduceLT, Int.reduceLE, Int.reduceLT, Int.reduceNeg, Int.reduceToNat]; rfl) | rfl) : Q := e ▸ h
end Go.Proofs.YteolfhljhnplpaaGreatDoor
namespace Go.Proofs.YteolfhljhnplpaaGreatDoor
open Go.RowKit
section
variable {E : Env} {J : Cuts} {k : List Ct} {S S1 : St} {c0 c : Cx} {ρ : Ro} {F : Fm}
mutual
def ren (s : Nat → Nat) : V → V
 | .own i => .own (s i)
 | .ptr i o => .ptr (s i) o
 | .optr i m k o => .optr (s i) m k o
 | .osub i m k o => .osub (s i) m k o
 | .agg l => .agg (renL s l)
 | .tup l => .tup (renL s l)
 | .fn f l => .fn f (renL s l)
 | v => v
def renL (s : Nat → Nat) : List V → List V
 | [] => []
 | d :: l => ren s d :: renL s l
end
mutual
theorem ren_rd {ρ' : Ro} {s : Nat → Nat} (k : ∀ i v, ρ i = some v → ρ' (s i) = some v) : ∀ {d : V} {v : Value}, rd ρ c d v → rd ρ' c (ren s d) v
 | .int _ _, _, h => h
 | .bool _, _, h => h
 | .ifc _, _, h => h
 | .str _, _, h => h
 | .agg l, v, h => by
  simp only [rd, ren] at h ⊢
  obtain ⟨cs, e, h⟩ := h
  exact ⟨cs, e, ren_rdC k h⟩
 | .sl z n g l, v, h => h
 | .pp n g d, v, h => h
 | .own _, _, h => ⟨k _ _ h.1, h.2⟩
 | .ptr _ _, _, h => by
  simp only [rd, ren] at h ⊢
  obtain ⟨b, h1, h2⟩ := h
  exact ⟨b, k _ _ h1, h2⟩
 | .optr _ _ _ _, _, h => by
  simp only [rd, ren] at h ⊢
  obtain ⟨u, h1, h2⟩ := h
  exact ⟨u, k _ _ h1, h2⟩
 | .osub _ _ _ _, _, h => by
  simp only [rd, ren] at h ⊢
  obtain ⟨u, h1, h2⟩ := h
  exact ⟨u, k _ _ h1, h2⟩
 | .tup l, v, h => by
  simp only [rd, ren] at h ⊢
  obtain ⟨cs, e, h⟩ := h
  exact ⟨cs, e, ren_rdT k h⟩
 | .fn f l, v, h => by
  simp only [rd, ren] at h ⊢
  obtain ⟨cs, e, h⟩ := h
  exact ⟨cs, e, ren_rdT k h⟩
 | .opq p, v, h => h
 | .un, _, _ => trivial
theorem ren_rdC {ρ' : Ro} {s : Nat → Nat} (k : ∀ i v, ρ i = some v → ρ' (s i) = some v) : ∀ {l : List V} {cs : List Value}, rdC ρ c l cs → rdC ρ' c (renL s l) cs
 | [], _, h => h
 | d :: l, cs, h => by
  simp only [rdC, renL] at h ⊢
  obtain ⟨u, c2, e, h1, h2, h3⟩ := h
  exact ⟨u, c2, e, h1, ren_rd k h2, ren_rdC k h3⟩
theorem ren_rdT {ρ' : Ro} {s : Nat → Nat} (k : ∀ i v, ρ i = some v → ρ' (s i) = some v) : ∀ {l : List V} {cs : List Value}, rdT ρ c l cs → rdT ρ' c (renL s l) cs
 | [], _, h => h
 | d :: l, cs, h => by
  simp only [rdT, renL] at h ⊢
  obtain ⟨u, c2, e, h2, h3⟩ := h
  exact ⟨u, c2, e, ren_rd k h2, ren_rdT k h3⟩
end
def renB (s : Nat → Nat) : Blk → Blk
 | .var n g d => .var n g (ren s d)
 | b => b
def renBs (s : Nat → Nat) : List Blk → List Blk
 | [] => []
 | b :: l => renB s b :: renBs s l
theorem renBs_get {s : Nat → Nat} : ∀ {l : List Blk} {j : Nat}, (renBs s l)[j]? = (l[j]?).map (renB s)
 | [], j => by simp [renBs]
 | b :: l, 0 => by simp [renBs]
 | b :: l, j + 1 => by simp [renBs, renBs_get (l := l)]
mutual
def prV (p : Nat → Bool) : V → V
 | .own i => bif p i then .un else .own i
 | .ptr i o => bif p i then .un else .ptr i o
 | .optr i n k o => bif p i then .un else .optr i n k o
 | .osub i n k o => bif p i then .un else .osub i n k o
 | .agg l => .agg (prL p l)
 | .tup l => .tup (prL p l)
 | .fn f l => .fn f (prL p l)
 | v => v
def prL (p : Nat → Bool) : List V → List V
 | [] => []
 | d :: l => prV p d :: prL p l
end
mutual
theorem pr_rd {ρ' : Ro} {p : Nat → Bool} (k : ∀ i v, p i = false → ρ i = some v → ρ' i = some v) : ∀ {d : V} {v : Value}, rd ρ c d v → rd ρ' c (prV p d) v
 | .int _ _, _, h => h
 | .bool _, _, h => h
 | .ifc _, _, h => h
 | .str _, _, h => h
 | .agg l, v, h => by
  simp only [rd, prV] at h ⊢
  obtain ⟨cs, e, h⟩ := h
  exact ⟨cs, e, pr_rdC k h⟩
 | .sl z n g l, v, h => h
 | .pp n g d, v, h => h
 | .own i, v, h => by
  simp only [prV]
  cases hp : p i with
  | true => trivial
  | false => exact ⟨k _ _ hp h.1, h.2⟩
 | .ptr i o, v, h => by
  simp only [prV]
  cases hp : p i with
  | true => trivial
  | false =>
   simp only [cond_false, rd] at h ⊢
   obtain ⟨b, h1, h2⟩ := h
   exact ⟨b, k _ _ hp h1, h2⟩
 | .optr i n j o, v, h => by
  simp only [prV]
  cases hp : p i with
  | true => trivial
  | false =>
   simp only [cond_false, rd] at h ⊢
   obtain ⟨u, h1, h2⟩ := h
   exact ⟨u, k _ _ hp h1, h2⟩
 | .osub i n j o, v, h => by
  simp only [prV]
  cases hp : p i with
  | true => trivial
  | false =>
   simp only [cond_false, rd] at h ⊢
   obtain ⟨u, h1, h2⟩ := h
   exact ⟨u, k _ _ hp h1, h2⟩
 | .tup l, v, h => by
  simp only [rd, prV] at h ⊢
  obtain ⟨cs, e, h⟩ := h
  exact ⟨cs, e, pr_rdT k h⟩
 | .fn f l, v, h => by
  simp only [rd, prV] at h ⊢
  obtain ⟨cs, e, h⟩ := h
  exact ⟨cs, e, pr_rdT k h⟩
 | .opq p, v, h => h
 | .un, _, _ => trivial
theorem pr_rdC {ρ' : Ro} {p : Nat → Bool} (k : ∀ i v, p i = false → ρ i = some v → ρ' i = some v) : ∀ {l : List V} {cs : List Value}, rdC ρ c l cs → rdC ρ' c (prL p l) cs
 | [], _, h => h
 | d :: l, cs, h => by
  simp only [rdC, prL] at h ⊢
  obtain ⟨u, c2, e, h1, h2, h3⟩ := h
  exact ⟨u, c2, e, h1, pr_rd k h2, pr_rdC k h3⟩
theorem pr_rdT {ρ' : Ro} {p : Nat → Bool} (k : ∀ i v, p i = false → ρ i = some v → ρ' i = some v) : ∀ {l : List V} {cs : List Value}, rdT ρ c l cs → rdT ρ' c (prL p l) cs
 | [], _, h => h
 | d :: l, cs, h => by
  simp only [rdT, prL] at h ⊢
  obtain ⟨u, c2, e, h2, h3⟩ := h
  exact ⟨u, c2, e, pr_rd k h2, pr_rdT k h3⟩
end
theorem prL_map {p : Nat → Bool} : ∀ {l : List V}, prL p l = l.map (prV p)
 | [] => rfl
 | d :: l => by simp only [prL, List.map_cons, prL_map]
def prB (p : Nat → Bool) : Blk → Blk
 | .var n g d => .var n g (prV p d)
 | .lent k n g d => .lent k n g (prV p d)
 | .ownI E n g z l => .ownI E n g z (prL p l)
 | b => b
def prF (p : Nat → Bool) : List (Nat × V) → List (Nat × V)
 | [] => []
 | (t, v) :: l => (t, prV p v) :: prF p l
def prH (p : Nat → Bool) : List (Nat × Blk) → List (Nat × Blk)
 | [] => []
 | (t, b) :: l => (t, prB p b) :: prH p l
theorem getA_prF {p : Nat → Bool} : ∀ {l : List (Nat × V)} {t : Nat}, getA (prF p l) t = (getA l t).map (prV p)
 | [], _ => rfl
 | (k, v) :: l, t => by
  simp only [prF, getA]
  split
  ·rfl
  ·exact getA_prF
theorem getA_prH {p : Nat → Bool} : ∀ {l : List (Nat × Blk)} {t : Nat}, getA (prH p l) t = (getA l t).map (prB p)
 | [], _ => rfl
 | (k, v) :: l, t => by
  simp only [prH, getA]
  split
  ·rfl
  ·exact getA_prH
theorem privB_pr {p : Nat → Bool} {b : Blk} : privB (prB p b) = privB b := by cases b <;> rfl
theorem blkOk_some {i : Nat} {b : Blk} (h : blkOk c0 c ρ i b) : ∃ v, ρ i = some v := by
 cases b with
 | var n g d => obtain ⟨b, h1, _⟩ := h; exact ⟨_, h1⟩
 | own E n g z l => obtain ⟨v, h1, _⟩ := h; exact ⟨_, h1⟩
 | ownI E n g z l => obtain ⟨v, h1, _⟩ := h; exact ⟨_, h1⟩
 | pvar n g d => obtain ⟨b, h1, _⟩ := h; exact ⟨_, h1⟩
 | kset g k n l => obtain ⟨r, h1, _⟩ := h; exact ⟨_, h1⟩
 | pown n g z l => obtain ⟨v, h1, _⟩ := h; exact ⟨_, h1⟩
 | lent k n g d => exact ⟨_, h.1⟩
def lentB (k : Nat) : Blk → Blk
 | .var n g d => .lent k n g d
 | b => b
def lentL (ks : Nat → Nat) : Nat → List Blk → List Blk
 | _, [] => []
 | i, b :: l => lentB (ks i) b :: lentL ks (i + 1) l
theorem lentL_get {ks : Nat → Nat} : ∀ {l : List Blk} {i j : Nat}, (lentL ks i l)[j]? = (l[j]?).map (lentB (ks (i + j)))
 | [], i, j => by simp [lentL]
 | b :: l, i, 0 => by simp [lentL]
 | b :: l, i, j + 1 => by simp [lentL, lentL_get (l := l), Nat.add_comm, Nat.add_left_comm, Nat.add_assoc]
theorem lentL_len {ks : Nat → Nat} : ∀ {l : List Blk} {i : Nat}, (lentL ks i l).length = l.length
 | [], i => rfl
 | b :: l, i => by simp [lentL, lentL_len (l := l)]
def HOkI (c0 c : Cx) (ρ : Ro) (H : List Blk) : Prop :=
 (∀ i b, H[i]? = some b → blkOk c0 c ρ i b) ∧ (∀ i, H.length ≤ i → ρ i = none) ∧
  ∀ i j bi bj k, i ≠ j → H[i]? = some bi → H[j]? = some bj → blkOf ρ i = some k → blkOf ρ j ≠ some k
def kndB : List Blk → List Blk → Bool
 | [], [] => true
 | .var _ _ _ :: l, .var _ _ _ :: m => kndB l m
 | .own _ _ _ _ _ :: l, .own _ _ _ _ _ :: m => kndB l m
 | _, _ => false
def ownsB : List Blk → Bool
 | [] => true
 | .own _ _ _ _ _ :: l => ownsB l
 | _ => false
def isVarB : Blk → Prop
 | .var _ _ _ => True
 | _ => False
def isOwnB : Blk → Prop
 | .own _ _ _ _ _ => True
 | _ => False
theorem kndB_spec : ∀ {l m : List Blk}, kndB l m = true → l.length = m.length ∧ ∀ (j : Nat) (b b' : Blk), l[j]? = some b → m[j]? = some b' → (isVarB b ∧ isVarB b') ∨ (isOwnB b ∧ isOwnB b')
 | [], [], _ => ⟨rfl, by simp⟩
 | a :: l, a' :: m, h => by
  have key : kndB l m = true ∧ ((isVarB a ∧ isVarB a') ∨ (isOwnB a ∧ isOwnB a')) := by
   cases a <;> cases a' <;> simp only [kndB] at h <;> first
    | exact ⟨h, .inl ⟨trivial, trivial⟩⟩
    | exact ⟨h, .inr ⟨trivial, trivial⟩⟩
    | cases h
  obtain ⟨h1, h2⟩ := kndB_spec key.1
  refine ⟨by simp [h1], fun j b b' hb hb' => ?_⟩
  cases j with
  | zero => simp at hb hb'; subst hb hb'; exact key.2
  | succ j => exact h2 j b b' (by simpa using hb) (by simpa using hb')
 | [], _ :: _, h => by simp [kndB] at h
 | a :: _, [], h => by cases a <;> simp [kndB] at h
theorem ownsB_spec : ∀ {l : List Blk}, ownsB l = true → ∀ (j : Nat) (b : Blk), l[j]? = some b → isOwnB b
 | [], _, j, b, hb => by simp at hb
 | a :: l, h, j, b, hb => by
  have key : ownsB l = true ∧ isOwnB a := by
   cases a <;> simp only [ownsB] at h <;> first
    | exact ⟨h, trivial⟩
    | cases h
  cases j with
  | zero => simp at hb; subst hb; exact key.2
  | succ j => exact ownsB_spec key.1 j b (by simpa using hb)
def PostI (E : Env) (c : Cx) (r : V) (H : List Blk) : Ending → World → Prop := fun e w' => ∃ v c' ρ, e = .returned v ∧ c'.w = w' ∧ c.leY c' ∧ rd ρ c' r v ∧ HOkI c c' ρ H
def CallIn (E : Env) (f : FuncId) (ws : List V) (Hin : List Blk) (r : V) (Hout Hnew : List Blk) : Prop :=
 (∀ aas w, (callFunc f aas).run E.P w = .ok (.enter f aas) w) ∧ (kndB Hin Hout && ownsB Hnew) = true ∧
  ∀ (c : Cx) (us : List Value) (ρ0 : Ro) (ks : Nat → Nat), Gl E c → HOkI c c ρ0 (lentL ks 0 Hin) → rdT ρ0 c ws us → Calls E.P f us.toArray c.w (PostI E c r (lentL ks 0 Hout ++ Hnew))
mutual
def inV (H : List (Nat × Blk)) (ids : List Nat) : V → V
 | .own i => match posN ids i 0 with
  | some j => .own j
  | none => pubV (getA H i)
 | .ptr i o => match posN ids i 0 with
  | some j => .ptr j o
  | none => pubP o (getA H i)
 | .optr _ _ _ _ => .un
 | .osub _ _ _ _ => .un
 | .agg l => .agg (inVL H ids l)
 | .tup l => .tup (inVL H ids l)
 | .fn f l => .fn f (inVL H ids l)
 | v => v
def inVL (H : List (Nat × Blk)) (ids : List Nat) : List V → List V
 | [] => []
 | d :: l => inV H ids d :: inVL H ids l
end
theorem ro0_some {i : Nat} {v : Value} (h : ro0 i = some v) : False := by cases h
mutual
theorem inV_rd {ids : List Nat} (h : Sim E c0 c ρ S F) : ∀ {d : V} {v : Value}, rd ρ c d v → rd (roIds ρ ids) c (inV S.H ids d) v
 | .int _ _, _, hr => hr
 | .bool _, _, hr => hr
 | .ifc _, _, hr => hr
 | .str _, _, hr => hr
 | .agg l, v, hr => by
  simp only [rd, inV] at hr ⊢
  obtain ⟨cs, e, hr⟩ := hr
  exact ⟨cs, e, inV_rdC h hr⟩
 | .sl z n g l, v, hr => hr
 | .pp n g d, v, hr => hr
 | .own i, v, hr => by
  simp only [inV]
  cases hp : posN ids i 0 with
  | some j =>
   simp only [rd] at hr ⊢
   obtain ⟨_, h2⟩ := posN_some hp
   exact ⟨by simp only [roIds]; rw [show j - 0 = j from rfl] at h2; rw [h2]; exact hr.1, hr.2⟩
  | none => exact rd_ro (fun i v hi => (ro0_some hi).elim) (gview_rd (d := .own i) h hr)
 | .ptr i o, v, hr => by
  simp only [inV]
  cases hp : posN ids i 0 with
  | some j =>
   simp only [rd] at hr ⊢
   obtain ⟨b, h1, h3⟩ := hr
   obtain ⟨_, h2⟩ := posN_some hp
   exact ⟨b, by simp only [roIds]; rw [show j - 0 = j from rfl] at h2; rw [h2]; exact h1, h3⟩
  | none => exact rd_ro (fun i v hi => (ro0_some hi).elim) (gview_rd (d := .ptr i o) h hr)
 | .optr _ _ _ _, _, _ => trivial
 | .osub _ _ _ _, _, _ => trivial
 | .tup l, v, hr => by
  simp only [rd, inV] at hr ⊢
  obtain ⟨cs, e, hr⟩ := hr
  exact ⟨cs, e, inV_rdT h hr⟩
 | .fn f l, v, hr => by
  simp only [rd, inV] at hr ⊢
  obtain ⟨cs, e, hr⟩ := hr
  exact ⟨cs, e, inV_rdT h hr⟩
 | .opq p, v, hr => hr
 | .un, _, _ => trivial
theorem inV_rdC {ids : List Nat} (h : Sim E c0 c ρ S F) : ∀ {l : List V} {cs : List Value}, rdC ρ c l cs → rdC (roIds ρ ids) c (inVL S.H ids l) cs
 | [], _, hr => hr
 | d :: l, cs, hr => by
  simp only [rdC, inVL] at hr ⊢
  obtain ⟨u, c2, e, h1, h2, h3⟩ := hr
  exact ⟨u, c2, e, h1, inV_rd h h2, inV_rdC h h3⟩
theorem inV_rdT {ids : List Nat} (h : Sim E c0 c ρ S F) : ∀ {l : List V} {cs : List Value}, rdT ρ c l cs → rdT (roIds ρ ids) c (inVL S.H ids l) cs
 | [], _, hr => hr
 | d :: l, cs, hr => by
  simp only [rdT, inVL] at hr ⊢
  obtain ⟨u, c2, e, h2, h3⟩ := hr
  exact ⟨u, c2, e, inV_rd h h2, inV_rdT h h3⟩
end
theorem own_mt {T n : Nat} {g : Bool} {l l' : List V} {v : Value} (h : Own c T v (rV ro0 n g) l) (hm : mtL l l') : Own c T v (rV ro0 n g) l' := by
 have e := mtL_len hm
 refine ⟨by rw [← e]; exact h.1, ?_⟩
 rcases h.2 with ⟨a, h1, h2⟩ | ⟨g', cp, cur, h1, h2, h3, h4, h5, h6, h7⟩
 ·subst h2
  cases l' with
  | nil => exact .inl ⟨a, h1, rfl⟩
  | cons x l' => simp [mtL] at hm
 ·exact .inr ⟨g', cp, cur, by rw [← e]; exact h1, h2, h3, by rw [← e]; exact h4, h5, h6, by rw [← e]; exact rdE_arr.1 (mt_rdE hm (rdE_arr.2 h7))⟩
def inO (H : List (Nat × Blk)) (ids : List Nat) : Option Blk → Blk → Prop
 | some (.own T n g z l), .own T' n' g' z' l' => T = T' ∧ n = n' ∧ g = g' ∧ mtZ z z' ∧ mtL l l'
 | some (.var n g d), .var n' g' d' => n = n' ∧ g = g' ∧ mt (inV H ids d) d'
 | some (.lent _ n g d), .var n' g' d' => n = n' ∧ g = g' ∧ mt (inV H ids d) d'
 | _, _ => False
def insB (H : List (Nat × Blk)) (ids : List Nat) : List Nat → List Blk → Prop
 | [], [] => True
 | i :: l, b :: m => inO H ids (getA H i) b ∧ insB H ids l m
 | _, _ => False
theorem insB_get {H : List (Nat × Blk)} {ids : List Nat} : ∀ {l : List Nat} {m : List Blk}, insB H ids l m → l.length = m.length ∧ ∀ (j i : Nat) (b : Blk), l[j]? = some i → m[j]? = some b → inO H ids (getA H i) b
 | [], [], _ => ⟨rfl, by simp⟩
 | i :: l, b :: m, h => by
  simp only [insB] at h
  obtain ⟨h1, h2⟩ := insB_get h.2
  refine ⟨by simp [h1], fun j i' b' hi hb => ?_⟩
  cases j with
  | zero => simp at hi hb; subst hi hb; exact h.1
  | succ j => exact h2 j i' b' (by simpa using hi) (by simpa using hb)
 | [], _ :: _, h => by simp [insB] at h
 | _ :: _, [], h => by simp [insB] at h
def ownIds (H : List (Nat × Blk)) : List Nat → List Nat
 | [] => []
 | i :: l => ownI1 (getA H i) i (ownIds H l)
where ownI1 : Option Blk → Nat → List Nat → List Nat
 | some (.own _ _ _ _ _), i, l => i :: l
 | _, _, l => l
theorem ownIds_mem {H : List (Nat × Blk)} {i : Nat} {T n : Nat} {g : Bool} {z : Option Bool} {m : List V} (hb : getA H i = some (.own T n g z m)) : ∀ {l : List Nat}, i ∈ l → i ∈ ownIds H l
 | j :: l, h => by
  simp only [ownIds]
  rcases List.mem_cons.1 h with rfl | h
  ·rw [hb]; simp [ownIds.ownI1]
  ·have := ownIds_mem hb h
   unfold ownIds.ownI1
   split
   ·exact List.mem_cons_of_mem _ this
   ·exact this
def sg (ids : List Nat) (nx j : Nat) : Nat := match ids[j]? with
 | some i => i
 | none => nx + (j - ids.length)
def backB : Option Blk → Blk → Blk
 | some (.lent k _ _ _), .var n g d => .lent k n g d
 | _, b => b
def setIds (H0 : List (Nat × Blk)) : List (Nat × Blk) → List Nat → List Blk → List (Nat × Blk)
 | h, i :: l, b :: m => setIds H0 (setA h i (backB (getA H0 i) b)) l m
 | h, _, _ => h
theorem setIds_out {H0 : List (Nat × Blk)} {i : Nat} : ∀ {l : List Nat} {m : List Blk} {h : List (Nat × Blk)}, i ∉ l → getA (setIds H0 h l m) i = getA h i
 | [], [], _, _ => rfl
 | [], _ :: _, _, _ => rfl
 | _ :: _, [], _, _ => rfl
 | j :: l, b :: m, h, hi => by
  simp only [List.mem_cons, not_or] at hi
  simp only [setIds]
  rw [setIds_out hi.2, getA_setA, if_neg (Ne.symm hi.1)]
theorem setIds_in {H0 : List (Nat × Blk)} {i : Nat} {b : Blk} : ∀ {l : List Nat} {m : List Blk} {h : List (Nat × Blk)} {j : Nat}, l.Nodup → l[j]? = some i → m[j]? = some b → getA (setIds H0 h l m) i = some (backB (getA H0 i) b)
 | [], _, _, j, _, hi, _ => by simp at hi
 | _ :: _, [], _, j, _, _, hb => by simp at hb
 | x :: l, y :: m, h, 0, hd, hi, hb => by
  simp at hi hb
  subst hi hb
  simp only [setIds]
  rw [setIds_out (List.nodup_cons.1 hd).1, getA_setA, if_pos rfl]
 | x :: l, y :: m, h, j + 1, hd, hi, hb => by
  simp only [setIds]
  exact setIds_in (List.nodup_cons.1 hd).2 (by simpa using hi) (by simpa using hb)
def St.afterI (S : St) (ids : List Nat) (Hout Hnew : List Blk) (d : Option Nat) (r : V) : St :=
 St.put ⟨prF (memN (ownIds S.H ids)) S.F, shiftH S.nx 0 (renBs (sg ids S.nx) Hnew) ++ setIds S.H (prH (memN (ownIds S.H ids)) S.H) ids (renBs (sg ids S.nx) Hout), S.nx + Hnew.length⟩ d (ren (sg ids S.nx) r)
def ro2 (ids : List Nat) (nx : Nat) (ρ ρr : Ro) : Ro := fun i => match posN ids i 0 with
 | some j => ρr j
 | none => if i < nx then ρ i else ρr (ids.length + (i - nx))
theorem posN_get {ids : List Nat} {i j : Nat} (hd : ids.Nodup) (h : ids[j]? = some i) : posN ids i 0 = some j := by
 cases hp : posN ids i 0 with
 | none => exact absurd (List.mem_of_getElem? h) (posN_none hp)
 | some q =>
  obtain ⟨_, h2⟩ := posN_some hp
  rw [nodup_idx hd h h2]
  rfl
theorem posN_not {ids : List Nat} {i : Nat} (h : i ∉ ids) : posN ids i 0 = none := by
 cases hp : posN ids i 0 with
 | none => rfl
 | some q =>
  obtain ⟨_, h2⟩ := posN_some hp
  exact absurd (List.mem_of_getElem? h2) h
theorem ro2_in {ids : List Nat} {nx i j : Nat} {ρr : Ro} (hd : ids.Nodup) (h : ids[j]? = some i) : ro2 ids nx ρ ρr i = ρr j := by
 simp only [ro2, posN_get hd h]
theorem ro2_old {ids : List Nat} {nx i : Nat} {ρr : Ro} (h : i ∉ ids) (hi : i < nx) : ro2 ids nx ρ ρr i = ρ i := by
 simp only [ro2, posN_not h, if_pos hi]
theorem ro2_new {ids : List Nat} {nx i : Nat} {ρr : Ro} (h : ∀ j ∈ ids, j < nx) (hi : nx ≤ i) : ro2 ids nx ρ ρr i = ρr (ids.length + (i - nx)) := by
 have : i ∉ ids := fun e => by have := h i e; omega
 simp only [ro2, posN_not this, if_neg (Nat.not_lt.2 hi)]
theorem ro2_sg {ids : List Nat} {nx : Nat} {ρr : Ro} (hd : ids.Nodup) (h : ∀ j ∈ ids, j < nx) (j : Nat) : ro2 ids nx ρ ρr (sg ids nx j) = ρr j := by
 unfold sg
 cases hj : ids[j]? with
 | some i => exact ro2_in hd hj
 | none =>
  have hle := List.getElem?_eq_none_iff.1 hj
  rw [ro2_new h (Nat.le_add_right _ _)]
  congr 1; omega
def Cx.lend (c : Cx) (Y : List Nat) : Cx := { X := c.X, w := c.w, ok := c.ok, Y := Y }
theorem Cx.chg_lend (c : Cx) (Y : List Nat) : c.chg none (c.lend Y) := ⟨rfl, rfl, rfl, Nat.le_refl _, fun _ _ _ => rfl, fun _ _ => Iff.rfl, fun k hk => by cases hk⟩
theorem Cx.pub_lend (c : Cx) (Y : List Nat) : c.pub (c.lend Y) := (c.chg_lend Y).pub
theorem Var.leY {α : Type} {c c' : Cx} {b : Nat} {r : Rep α} {d : α} (h : c.leY c') (hp : c.pub c') (hb : b ∉ c.Y) (hv : Var c b r d) : Var c' b r d := by
 obtain ⟨h1, T, cs, h2, h3⟩ := hv
 have hlt := c.ok b h1
 exact ⟨(h.old b hlt hb).2 h1, T, cs, (h.below.block b hlt hb).trans h2, r.mono h3 hp⟩
theorem Own.leY {α : Type} {c c' : Cx} {E : TypeId} {v : Value} {r : Rep α} {l : List α} (ho : Own c E v r l) (h : c.leY c') (hp : c.pub c') (hb : ∀ i, blk v = some i → i ∉ c.Y) : Own c' E v r l := by
 refine ⟨ho.1, ?_⟩
 rcases ho.2 with h' | ⟨g', cap, cur, rfl, h1, h2, h3, h4, h5, h6⟩
 ·exact .inl h'
 ·have hlt := c.ok g' h1
  exact .inr ⟨g', cap, cur, rfl, (h.old g' hlt (hb g' rfl)).2 h1, (h.below.block g' hlt (hb g' rfl)).trans h2, h3, h4, h5, arrIs_mono hp h6⟩
theorem MSet.leY {c c' : Cx} {r : Nat} {g : Bool} {k : IntKind} {n : Nat} {l : List (List Int)} (h : c.leY c') (hb : r ∉ c.Y) (hv : MSet c r g k n l) : MSet c' r g k n l := by
 obtain ⟨h1, h2, es, clock, h3, h4⟩ := hv
 have hlt := c.ok r h1
 exact ⟨(h.old r hlt hb).2 h1, h2, es, clock, (h.below.block r hlt hb).trans h3, h4⟩
theorem blkOf_own {i : Nat} {v : Value} {n : Nat} {a : Option Addr} {cap : Nat} (h1 : ρ i = some v) (e : v = .slice a n cap) : blkOf ρ i = blk v := by
 unfold blkOf; rw [h1, e]
theorem blkOk_leY {Y : List Nat} {c' : Cx} (h : (c.lend Y).leY c') (hp : c.pub c') {i : Nat} {b : Blk} (hne : privB b = true → ∀ x, blkOf ρ i = some x → x ∉ Y) (hb : blkOk c0 c ρ i b) : blkOk c0 c' ρ i b := by
 have hp' : (c.lend Y).pub c' := ⟨hp.size, fun k hk hx => hp.keep k hk hx⟩
 cases b with
 | var n g d =>
  obtain ⟨b, h1, h2, h3⟩ := hb
  exact ⟨b, h1, h2, Var.leY h hp' (hne rfl b (by simp [blkOf, h1])) ((c.chg_lend Y).var (by simp) h3)⟩
 | own E n g z l =>
  obtain ⟨v, h1, h2, h3, h4, a, cap, e, h5⟩ := hb
  exact ⟨v, h1, (h2.chg (c.chg_lend Y) (by simp)).leY h hp' (fun x hx => hne rfl x (by rw [blkOf_own h1 e]; exact hx)), h3, h4, a, cap, e, h5⟩
 | ownI E n g z l =>
  obtain ⟨v, h1, h2, h3, h4, a, cap, e, h5⟩ := hb
  exact ⟨v, h1, (h2.chg (c.chg_lend Y) (by simp)).leY h hp' (fun x hx => hne rfl x (by rw [blkOf_own h1 e]; exact hx)), h3, h4, a, cap, e, h5⟩
 | kset g k' n l =>
  obtain ⟨r, h1, h2, h3⟩ := hb
  exact ⟨r, h1, h2, MSet.leY h (hne rfl r (by simp [blkOf, h1, blk])) (h3.chg (c.chg_lend Y) (by simp))⟩
 | pvar n g d =>
  obtain ⟨b, h1, h2⟩ := hb
  exact ⟨b, h1, (rvPt _).mono h2 hp⟩
 | pown n g z l =>
  obtain ⟨v, h1, h2⟩ := hb
  exact ⟨v, h1, rd_mono hp h2⟩
 | lent k' n g d =>
  obtain ⟨h1, h2, h3⟩ := hb
  exact ⟨h1, h2, Var.leY h hp' (hne rfl k' (by simp [blkOf, h1])) ((c.chg_lend Y).var (by simp) h3)⟩
theorem blkOk_pr {ρ' : Ro} {p : Nat → Bool} {i : Nat} {b : Blk} (k : ∀ i v, p i = false → ρ i = some v → ρ' i = some v) (hi : ∀ v, ρ i = some v → ρ' i = some v) (h : blkOk c0 c ρ i b) : blkOk c0 c ρ' i (prB p b) := by
 cases b with
 | var n g d =>
  obtain ⟨b, h1, h2, h3, T, cs, h4, h5, h6⟩ := h
  exact ⟨b, hi _ h1, h2, h3, T, cs, h4, h5, pr_rd k h6⟩
 | own E n g z l =>
  obtain ⟨v, h1, h2⟩ := h
  exact ⟨v, hi _ h1, h2⟩
 | ownI E n g z l =>
  obtain ⟨v, h1, h2, h3, h4, h5⟩ := h
  simp only [prB, blkOk, prL_map]
  exact ⟨v, hi _ h1, Own.rep (f := prV p) (r := rV ρ n g) (s := rV ρ' n g) (fun {cs d} (h1 : shapeOk n g cs ∧ rd ρ c d (mkV g cs)) => ⟨h1.1, pr_rd k h1.2⟩) rfl h2, h3, h4, by simpa using h5⟩
 | kset g k' n l =>
  obtain ⟨r, h1, h2⟩ := h
  exact ⟨r, hi _ h1, h2⟩
 | pvar n g d =>
  obtain ⟨b, h1, h2⟩ := h
  exact ⟨b, hi _ h1, h2⟩
 | pown n g z l =>
  obtain ⟨v, h1, h2⟩ := h
  exact ⟨v, hi _ h1, h2⟩
 | lent k' n g d =>
  obtain ⟨h1, h2, h3, T, cs, h4, h5, h6⟩ := h
  exact ⟨hi _ h1, h2, h3, T, cs, h4, h5, pr_rd k h6⟩
def lentY (ρ : Ro) (ids : List Nat) : List Nat := ids.filterMap (blkOf ρ)
def lentK (ρ : Ro) (ids : List Nat) (j : Nat) : Nat := match ids[j]? with
 | some i => (blkOf ρ i).getD 0
 | none => 0
theorem inO_priv {H : List (Nat × Blk)} {ids : List Nat} {o : Option Blk} {b : Blk} (h : inO H ids o b) : ∃ a, o = some a ∧ privB a = true ∧ (isVarB b ∨ isOwnB b) := by
 unfold inO at h
 split at h
 ·exact ⟨_, rfl, rfl, .inr trivial⟩
 ·exact ⟨_, rfl, rfl, .inl trivial⟩
 ·exact ⟨_, rfl, rfl, .inl trivial⟩
 ·exact h.elim
theorem lent_ok (h : Sim E c0 c ρ S F) {ids : List Nat} {Hin : List Blk} (hd : ids.Nodup) (hi : insB S.H ids ids Hin) :
  HOkI (c.lend (lentY ρ ids)) (c.lend (lentY ρ ids)) (roIds ρ ids) (lentL (lentK ρ ids) 0 Hin) := by
 obtain ⟨hlen, hget⟩ := insB_get hi
 have hro : ∀ {j i : Nat}, ids[j]? = some i → roIds ρ ids j = ρ i := fun {j i} hj => by simp only [roIds, hj]
 refine ⟨?_, ?_, ?_⟩
 ·intro j b hb
  rw [lentL_get, Nat.zero_add] at hb
  cases hj : Hin[j]? with
  | none => rw [hj] at hb; cases hb
  | some b0 =>
   rw [hj] at hb
   simp only [Option.map_some, Option.some.injEq] at hb
   subst hb
   have hjl : j < ids.length := by rw [hlen]; exact (List.getElem?_eq_some_iff.1 hj).1
   obtain ⟨i, hji⟩ : ∃ i, ids[j]? = some i := ⟨_, List.getElem?_eq_getElem hjl⟩
   have hin := hget j i b0 hji hj
   have hmem : i ∈ ids := List.mem_of_getElem? hji
   have hY : ∀ k, blkOf ρ i = some k → k ∈ lentY ρ ids := fun k hk => List.mem_filterMap.2 ⟨i, hmem, hk⟩
   cases hS : getA S.H i with
   | none => rw [hS] at hin; unfold inO at hin; exact hin.elim
   | some a =>
    have hblk := h.heap i a hS
    rw [hS] at hin
    have hmy : ∀ k, blkOf ρ i = some k → (c.lend (lentY ρ ids)).mine k := fun k hk => .inr (hY k hk)
    unfold inO at hin
    split at hin
    ·rename_i T n g z l T' n' g' z' l' e
     cases e
     obtain ⟨rfl, rfl, rfl, hz, hml⟩ := hin
     obtain ⟨v, h1, h2, h3, h4, a, cap, es, h5⟩ := hblk
     exact ⟨v, (hro hji).trans h1, own_mt (h2.chg (c.chg_lend _) (by simp)) hml, fun k hk => hmy k (by rw [blkOf_own h1 es]; exact hk), h4, a, cap, by rw [← mtL_len hml]; exact es, mtZ_ok hz h5⟩
    ·rename_i n g d n' g' d' e
     cases e
     obtain ⟨rfl, rfl, hm⟩ := hin
     obtain ⟨b, h1, h2, h3⟩ := hblk
     have hb : blkOf ρ i = some b := by simp [blkOf, h1]
     have hk : lentK ρ ids j = b := by simp [lentK, hji, hb]
     simp only [lentB, hk]
     obtain ⟨q1, T0, cs0, q2, q3, q4⟩ := h3
     exact ⟨(hro hji).trans h1, hmy b hb, q1, T0, cs0, q2, q3, rd_mono (c.pub_lend _) (mt_rd hm (inV_rd h q4))⟩
    ·rename_i k0 n g d n' g' d' e
     cases e
     obtain ⟨rfl, rfl, hm⟩ := hin
     obtain ⟨h1, h2, h3⟩ := hblk
     have hb : blkOf ρ i = some k0 := by simp [blkOf, h1]
     have hk : lentK ρ ids j = k0 := by simp [lentK, hji, hb]
     simp only [lentB, hk]
     obtain ⟨q1, T0, cs0, q2, q3, q4⟩ := h3
     exact ⟨(hro hji).trans h1, hmy k0 hb, q1, T0, cs0, q2, q3, rd_mono (c.pub_lend _) (mt_rd hm (inV_rd h q4))⟩
    ·exact hin.elim
 ·intro j hj
  rw [lentL_len] at hj
  simp only [roIds]
  rw [List.getElem?_eq_none (by omega)]
 ·intro j j' b b' k hne hj hj' hk hk'
  rw [lentL_get] at hj hj'
  have get : ∀ {q : Nat} {x : Blk}, (Hin[q]?).map (lentB (lentK ρ ids (0 + q))) = some x → ∃ i a, ids[q]? = some i ∧ getA S.H i = some a ∧ privB a = true := by
   intro q x hq
   cases hj : Hin[q]? with
   | none => rw [hj] at hq; cases hq
   | some b0 =>
    have hjl : q < ids.length := by rw [hlen]; exact (List.getElem?_eq_some_iff.1 hj).1
    have hji : ids[q]? = some ids[q] := List.getElem?_eq_getElem hjl
    obtain ⟨a, h1, h2, _⟩ := inO_priv (hget q _ b0 hji hj)
    exact ⟨_, a, hji, h1, h2⟩
  obtain ⟨i, a, g1, g2, g3⟩ := get hj
  obtain ⟨i', a', g1', g2', g3'⟩ := get hj'
  have hii : i ≠ i' := by
   rintro rfl
   exact hne (nodup_idx hd g1 g1')
  have e1 : blkOf (roIds ρ ids) j = blkOf ρ i := blkOf_eq' (hro g1)
  have e2 : blkOf (roIds ρ ids) j' = blkOf ρ i' := blkOf_eq' (hro g1')
  rw [e1] at hk
  rw [e2] at hk'
  exact h.sep i i' a a' k hii g2 g2' g3 g3' hk hk'
where blkOf_eq' {ρ ρ' : Ro} {i j : Nat} (h : ρ' j = ρ i) : blkOf ρ' j = blkOf ρ i := by unfold blkOf; rw [h]
end
end Go.Proofs.YteolfhljhnplpaaGreatDoor
namespace Go.Proofs.YteolfhljhnplpaaGreatDoor
open Go.RowKit
section
variable {E : Env} {J : Cuts} {k : List Ct} {S S1 : St} {c0 c : Cx} {ρ : Ro} {F : Fm}
theorem lentY_mine (h : Sim E c0 c ρ S F) {ids : List Nat} {Hin : List Blk} (hi : insB S.H ids ids Hin) {x : Nat} (hx : x ∈ lentY ρ ids) : ∃ i a, i ∈ ids ∧ getA S.H i = some a ∧ privB a = true ∧ blkOf ρ i = some x := by
 obtain ⟨hlen, hget⟩ := insB_get hi
 obtain ⟨i, hm, hb⟩ := List.mem_filterMap.1 hx
 obtain ⟨j, hj, e⟩ := List.getElem_of_mem hm
 have hjH : j < Hin.length := by omega
 obtain ⟨a, h1, h2, _⟩ := inO_priv (hget j i Hin[j] (by rw [List.getElem?_eq_getElem hj, e]) (List.getElem?_eq_getElem hjH))
 exact ⟨i, a, hm, h1, h2, hb⟩
theorem simN_afterI (h : SimN E c0 c ρ S F) {ids : List Nat} {Hin Hout Hnew : List Blk} (hd : ids.Nodup) (hi : insB S.H ids ids Hin) (hk : kndB Hin Hout = true) (hn : ownsB Hnew = true) {c' : Cx} {ρr : Ro} {r : V} {v : Value}
  (hle : (c.lend (lentY ρ ids)).leY c') (hr : rd ρr c' r v) (hH : HOkI (c.lend (lentY ρ ids)) c' ρr (lentL (lentK ρ ids) 0 Hout ++ Hnew)) (d : Option Nat) :
  SimN E c0 c' (ro2 ids S.nx ρ ρr) (S.afterI ids Hout Hnew d r) (updO F d v) := by
 obtain ⟨hlen, hget⟩ := insB_get hi
 obtain ⟨hkl, hkk⟩ := kndB_spec hk
 have hlO : (lentL (lentK ρ ids) 0 Hout).length = ids.length := by rw [lentL_len]; omega
 have hlt : ∀ i ∈ ids, i < S.nx := by
  intro i hm
  obtain ⟨j, hj, e⟩ := List.getElem_of_mem hm
  obtain ⟨a, h1, _⟩ := inO_priv (hget j i Hin[j] (by rw [List.getElem?_eq_getElem hj, e]) (List.getElem?_eq_getElem (by omega)))
  obtain ⟨x, hx⟩ := blkOk_some (h.1.heap i a h1)
  rcases Nat.lt_or_ge i S.nx with h2 | h2
  ·exact h2
  ·rw [h.2 i h2] at hx; cases hx
 have hYX : ∀ x, x ∈ lentY ρ ids → c0.mine x := by
  intro x hx
  obtain ⟨i, a, _, h2, h3, h4⟩ := lentY_mine h.1 hi hx
  exact blkOf_ge h.1 h2 h3 x h4
 have hYlt : ∀ x, x ∈ lentY ρ ids → x < c.w.heap.size := by
  intro x hx
  obtain ⟨i, a, _, h2, h3, h4⟩ := lentY_mine h.1 hi hx
  exact blkOk_lt h3 (h.1.heap i a h2) x h4
 have hYp : ∀ x, x ∈ lentY ρ ids → x ∈ c.X := by
  intro x hx
  obtain ⟨i, a, _, h2, h3, h4⟩ := lentY_mine h.1 hi hx
  have hb := h.1.heap i a h2
  cases a with
  | var n g d => obtain ⟨b, g1, _, g3⟩ := hb; simp only [blkOf, g1, Option.some.injEq] at h4; subst h4; exact g3.1
  | lent b n g d => obtain ⟨g1, _, g3⟩ := hb; simp only [blkOf, g1, Option.some.injEq] at h4; subst h4; exact g3.1
  | own T n g z l => obtain ⟨u, g1, g2, _, _, a, cap, e, _⟩ := hb; rw [blkOf_own g1 e] at h4; exact g2.isX x h4
  | ownI T n g z l => obtain ⟨u, g1, g2, _, _, a, cap, e, _⟩ := hb; rw [blkOf_own g1 e] at h4; exact g2.isX x h4
  | kset g k' n l => obtain ⟨r, g1, _, g3⟩ := hb; simp only [blkOf, g1, blk, Option.some.injEq] at h4; subst h4; exact g3.1
  | pvar n g d => cases h3
  | pown n g z l => cases h3
 have hpub : c.pub c' := ⟨hle.below.size, fun x hx hnX => ⟨fun h' => hnX ((hle.old x hx (fun hy => hnX (hYp x hy))).1 h'), hle.below.block x hx (fun hy => hnX (hYp x hy))⟩⟩
 have hsince : Since c0 c' := by
  refine ⟨⟨hle.below.os.trans h.1.since.below.os, hle.below.tape.trans h.1.since.below.tape, hle.below.output.trans h.1.since.below.output, Nat.le_trans h.1.since.size hle.below.size, ?_⟩, ?_⟩
  ·intro x hx hy
   refine (hle.below.block x (Nat.lt_of_lt_of_le hx h.1.since.size) (fun hY => ?_)).trans (h.1.since.below.block x hx hy)
   rcases hYX x hY with h1 | h1
   ·omega
   ·exact hy h1
  ·intro x hx hy
   have hxX := h.1.since.X x hx hy
   refine (hle.old x (c.ok x hxX) (fun hY => ?_)).2 hxX
   rcases hYX x hY with h1 | h1
   ·have := c0.ok x hx; omega
   ·exact hy h1
 have hmine : ∀ x, (c.lend (lentY ρ ids)).mine x → c0.mine x := by
  rintro x (h1 | h1)
  ·exact .inl (Nat.le_trans h.1.since.size h1)
  ·exact hYX x h1
 -- names
 have hsg : ∀ j x, ρr j = some x → ro2 ids S.nx ρ ρr (sg ids S.nx j) = some x := fun j x hx => (ro2_sg hd hlt j).trans hx
 have hnew : ∀ i, S.nx ≤ i → ro2 ids S.nx ρ ρr i = ρr (ids.length + (i - S.nx)) := fun i hi => ro2_new hlt hi
 have hold : ∀ i b, getA S.H i = some b → i < S.nx := by
  intro i b hb
  obtain ⟨x, hx⟩ := blkOk_some (h.1.heap i b hb)
  rcases Nat.lt_or_ge i S.nx with h2 | h2
  ·exact h2
  ·rw [h.2 i h2] at hx; cases hx
 -- what the call gives back under a lent name
 have hback : ∀ j i, ids[j]? = some i → ∃ b a, Hout[j]? = some b ∧ getA S.H i = some a ∧ ((isVarB b ∧ ∀ x, ρ i = some x → ρr j = some x) ∨ (isOwnB b ∧ ∃ T n g z l, a = .own T n g z l)) ∧ blkOk c0 c' (ro2 ids S.nx ρ ρr) i (backB (getA S.H i) (renB (sg ids S.nx) b)) := by
  intro j i hj
  have hjl := (List.getElem?_eq_some_iff.1 hj).1
  have hHi : Hin[j]? = some Hin[j] := List.getElem?_eq_getElem (by omega)
  have hHo : Hout[j]? = some Hout[j] := List.getElem?_eq_getElem (by omega)
  have hin := hget j i _ hj hHi
  have hkj := hkk j _ _ hHi hHo
  generalize Hin[j] = bi at hin hkj hHi
  generalize Hout[j] = bo at hkj hHo
  have hblk : blkOk (c.lend (lentY ρ ids)) c' ρr j (lentB (lentK ρ ids j) bo) := by
   refine hH.1 j _ ?_
   rw [List.getElem?_append_left (by omega), lentL_get, Nat.zero_add, hHo]; rfl
  have hro : ro2 ids S.nx ρ ρr i = ρr j := ro2_in hd hj
  cases hS : getA S.H i with
  | none => rw [hS] at hin; unfold inO at hin; exact hin.elim
  | some a =>
   have hold := h.1.heap i a hS
   rw [hS] at hin
   have var : ∀ {n g d} {b : Nat}, bo = .var n g d → lentK ρ ids j = b → ρ i = some (.pointer (some ⟨b, 0, none⟩)) → blkOf ρ i = some b → c0.mine b ∧ ρr j = some (.pointer (some ⟨b, 0, none⟩)) ∧ Var c' b (rV (ro2 ids S.nx ρ ρr) n g) (ren (sg ids S.nx) d) := by
    intro n g d b e hb hp hbo
    subst e
    simp only [lentB, hb] at hblk
    obtain ⟨g1, g2, g3, T, cs, g4, g5, g6⟩ := hblk
    exact ⟨hmine b g2, g1, g3, T, cs, g4, g5, ren_rd hsg g6⟩
   unfold inO at hin
   split at hin
   ·rename_i T n g z l T' n' g' z' l' e
    cases e
    rcases hkj with ⟨h1, _⟩ | ⟨_, h1⟩
    ·exact h1.elim
    ·refine ⟨bo, _, hHo, rfl, .inr ⟨h1, _, _, _, _, _, rfl⟩, ?_⟩
     cases bo <;> simp only [isOwnB] at h1
     simp only [lentB] at hblk
     obtain ⟨x, g1, g2, g3, g4, g5⟩ := hblk
     simp only [renB, backB]
     exact ⟨x, hro.trans g1, g2, fun k hk => hmine k (g3 k hk), g4, g5⟩
   ·rename_i n g d n' g' d' e
    cases e
    rcases hkj with ⟨_, h1⟩ | ⟨h1, _⟩
    ·obtain ⟨b, g1, _⟩ := hold
     have hbo : blkOf ρ i = some b := by simp [blkOf, g1]
     cases bo <;> simp only [isVarB] at h1
     obtain ⟨k1, k2, k3⟩ := var rfl (by simp [lentK, hj, hbo]) g1 hbo
     refine ⟨_, _, hHo, rfl, .inl ⟨trivial, fun x hx => ?_⟩, ?_⟩
     ·rw [g1] at hx; cases hx; exact k2
     ·simp only [renB, backB]
      exact ⟨b, hro.trans k2, k1, k3⟩
    ·exact h1.elim
   ·rename_i k0 n g d n' g' d' e
    cases e
    rcases hkj with ⟨_, h1⟩ | ⟨h1, _⟩
    ·obtain ⟨g1, _⟩ := hold
     have hbo : blkOf ρ i = some k0 := by simp [blkOf, g1]
     cases bo <;> simp only [isVarB] at h1
     obtain ⟨k1, k2, k3⟩ := var rfl (by simp [lentK, hj, hbo]) g1 hbo
     refine ⟨_, _, hHo, rfl, .inl ⟨trivial, fun x hx => ?_⟩, ?_⟩
     ·rw [g1] at hx; cases hx; exact k2
     ·simp only [renB, backB]
      exact ⟨hro.trans k2, k1, k3⟩
    ·exact h1.elim
   ·exact hin.elim
 have hpr : ∀ i x, memN (ownIds S.H ids) i = false → ρ i = some x → ro2 ids S.nx ρ ρr i = some x := by
  intro i x hp hx
  have hilt : i < S.nx := by
   rcases Nat.lt_or_ge i S.nx with h2 | h2
   ·exact h2
   ·rw [h.2 i h2] at hx; cases hx
  by_cases hm : i ∈ ids
  ·obtain ⟨j, hj, e⟩ := List.getElem_of_mem hm
   have hj' : ids[j]? = some i := by rw [List.getElem?_eq_getElem hj, e]
   obtain ⟨b, a, _, h2, h3, _⟩ := hback j i hj'
   rcases h3 with ⟨_, h3⟩ | ⟨_, T, n, g, z, l, rfl⟩
   ·rw [ro2_in hd hj']; exact h3 x hx
   ·have := memN_iff.2 (ownIds_mem h2 hm)
    rw [hp] at this; cases this
  ·rw [ro2_old hm hilt]; exact hx
 -- the blocks behind the call
 have hcase : ∀ i b, getA (shiftH S.nx 0 (renBs (sg ids S.nx) Hnew) ++ setIds S.H (prH (memN (ownIds S.H ids)) S.H) ids (renBs (sg ids S.nx) Hout)) i = some b →
   (∃ (q : Nat) (b0 : Blk), i = S.nx + q ∧ Hnew[q]? = some b0 ∧ b = renB (sg ids S.nx) b0) ∨ (∃ (j : Nat) (b0 : Blk), ids[j]? = some i ∧ Hout[j]? = some b0 ∧ b = backB (getA S.H i) (renB (sg ids S.nx) b0)) ∨ (i ∉ ids ∧ ∃ b0, getA S.H i = some b0 ∧ b = prB (memN (ownIds S.H ids)) b0) := by
  intro i b hb
  have rest : getA (setIds S.H (prH (memN (ownIds S.H ids)) S.H) ids (renBs (sg ids S.nx) Hout)) i = some b → (∃ (j : Nat) (b0 : Blk), ids[j]? = some i ∧ Hout[j]? = some b0 ∧ b = backB (getA S.H i) (renB (sg ids S.nx) b0)) ∨ (i ∉ ids ∧ ∃ b0, getA S.H i = some b0 ∧ b = prB (memN (ownIds S.H ids)) b0) := by
   intro hb
   by_cases hm : i ∈ ids
   ·obtain ⟨j, hj, e⟩ := List.getElem_of_mem hm
    have hj' : ids[j]? = some i := by rw [List.getElem?_eq_getElem hj, e]
    obtain ⟨b0, _, h1, _⟩ := hback j i hj'
    have := setIds_in (H0 := S.H) (h := prH (memN (ownIds S.H ids)) S.H) (m := renBs (sg ids S.nx) Hout) hd hj' (by rw [renBs_get, h1]; rfl)
    rw [this] at hb
    cases hb
    exact .inl ⟨j, b0, hj', h1, rfl⟩
   ·rw [setIds_out hm, getA_prH] at hb
    cases hS : getA S.H i with
    | none => rw [hS] at hb; cases hb
    | some b0 => rw [hS] at hb; cases hb; exact .inr ⟨hm, b0, rfl, rfl⟩
  simp only [getA_append, getA_shiftH, Nat.add_zero] at hb
  by_cases h1 : S.nx ≤ i
  ·rw [if_pos h1, renBs_get] at hb
   cases hq : Hnew[i - S.nx]? with
   | some x => rw [hq] at hb; simp only [Option.map_some, Option.some.injEq] at hb; exact .inl ⟨i - S.nx, x, by omega, hq, hb.symm⟩
   | none => rw [hq] at hb; exact .inr (rest hb)
  ·rw [if_neg h1] at hb; exact .inr (rest hb)
 have hnewOk : ∀ q b, Hnew[q]? = some b → (∃ T n g z l, b = .own T n g z l) ∧ blkOk (c.lend (lentY ρ ids)) c' ρr (ids.length + q) b := by
  intro q b hq
  have h1 := ownsB_spec hn q b hq
  refine ⟨?_, hH.1 (ids.length + q) b ?_⟩
  ·cases b <;> simp only [isOwnB] at h1
   exact ⟨_, _, _, _, _, rfl⟩
  ·rw [List.getElem?_append_right (by omega), hlO, Nat.add_sub_cancel_left]; exact hq
 have hput : ∀ (S' : St), SimN E c0 c' (ro2 ids S.nx ρ ρr) S' F → SimN E c0 c' (ro2 ids S.nx ρ ρr) (S'.put d (ren (sg ids S.nx) r)) (updO F d v) :=
  fun S' hS => simN_put hS (ren_rd hsg hr)
 refine hput _ ⟨⟨hsince, h.1.gl.mono hpub, ?_, ?_, ?_⟩, ?_⟩
 ·intro t x ht
  simp only [getA_prF, Option.map_eq_some_iff] at ht
  obtain ⟨x0, hx0, rfl⟩ := ht
  exact pr_rd hpr (rd_mono hpub (h.1.slot t x0 hx0))
 ·intro i b hb
  rcases hcase i b hb with ⟨q, b0, rfl, hq, rfl⟩ | ⟨j, b0, hj, hb0, rfl⟩ | ⟨hm, b0, hS, rfl⟩
  ·obtain ⟨⟨T, n, g, z, l, rfl⟩, x, g1, g2, g3, g4⟩ := hnewOk q _ hq
   refine ⟨x, ?_, g2, fun k hk => hmine k (g3 k hk), g4⟩
   rw [hnew _ (Nat.le_add_right _ _), Nat.add_sub_cancel_left]; exact g1
  ·obtain ⟨b1, a, h1, _, _, h4⟩ := hback j i hj
   rw [hb0] at h1; cases h1
   exact h4
  ·refine blkOk_pr hpr (fun x hx => ?_) (blkOk_leY hle hpub (fun hp x hx hY => ?_) (h.1.heap i b0 hS))
   ·rw [ro2_old hm (hold i b0 hS)]; exact hx
   ·obtain ⟨i', a, h1, h2, h3, h4⟩ := lentY_mine h.1 hi hY
    exact h.1.sep i i' b0 a x (fun e => hm (e ▸ h1)) hS h2 hp h3 hx h4
 ·-- apart
  have hname : ∀ i b, getA (shiftH S.nx 0 (renBs (sg ids S.nx) Hnew) ++ setIds S.H (prH (memN (ownIds S.H ids)) S.H) ids (renBs (sg ids S.nx) Hout)) i = some b → privB b = true →
    (∃ (q : Nat) (bq : Blk), (lentL (lentK ρ ids) 0 Hout ++ Hnew)[q]? = some bq ∧ ro2 ids S.nx ρ ρr i = ρr q ∧ i = sg ids S.nx q ∧ ∀ x, blkOf ρr q = some x → (c.lend (lentY ρ ids)).mine x) ∨ (i ∉ ids ∧ i < S.nx ∧ ∃ b0, getA S.H i = some b0 ∧ privB b0 = true) := by
   intro i b hb hp
   have hm9 : ∀ q bq, (lentL (lentK ρ ids) 0 Hout ++ Hnew)[q]? = some bq → privB bq = true → ∀ x, blkOf ρr q = some x → (c.lend (lentY ρ ids)).mine x := by
    intro q bq hq hpq x hx
    have hb := hH.1 q bq hq
    cases bq with
    | var n g d => obtain ⟨b, g1, g2, _⟩ := hb; simp only [blkOf, g1, Option.some.injEq] at hx; subst hx; exact g2
    | lent b n g d => obtain ⟨g1, g2, _⟩ := hb; simp only [blkOf, g1, Option.some.injEq] at hx; subst hx; exact g2
    | own T n g z l => obtain ⟨u, g1, g2, g3, _, a, cap, e, _⟩ := hb; rw [blkOf_own g1 e] at hx; exact g3 x hx
    | ownI T n g z l => obtain ⟨u, g1, g2, g3, _, a, cap, e, _⟩ := hb; rw [blkOf_own g1 e] at hx; exact g3 x hx
    | kset g k' n l => obtain ⟨r, g1, g2, _⟩ := hb; simp only [blkOf, g1, blk, Option.some.injEq] at hx; subst hx; exact g2
    | pvar n g d => cases hpq
    | pown n g z l => cases hpq
   rcases hcase i b hb with ⟨q, b0, rfl, hq, rfl⟩ | ⟨j, b0, hj, hb0, rfl⟩ | ⟨hm, b0, hS, rfl⟩
   ·obtain ⟨⟨T, n, g, z, l, rfl⟩, _⟩ := hnewOk q b0 hq
    have hq' : (lentL (lentK ρ ids) 0 Hout ++ Hnew)[ids.length + q]? = some (.own T n g z l) := by
     rw [List.getElem?_append_right (by omega), hlO, Nat.add_sub_cancel_left]; exact hq
    refine .inl ⟨ids.length + q, _, hq', ?_, ?_, hm9 _ _ hq' rfl⟩
    ·rw [hnew _ (Nat.le_add_right _ _), Nat.add_sub_cancel_left]
    ·simp only [sg, List.getElem?_eq_none (Nat.le_add_right _ _), Nat.add_sub_cancel_left]
   ·have hjl := (List.getElem?_eq_some_iff.1 hj).1
    have hq' : (lentL (lentK ρ ids) 0 Hout ++ Hnew)[j]? = some (lentB (lentK ρ ids j) b0) := by
     rw [List.getElem?_append_left (by omega), lentL_get, Nat.zero_add, hb0]; rfl
    refine .inl ⟨j, _, hq', ro2_in hd hj, by simp only [sg, hj], hm9 _ _ hq' ?_⟩
    obtain ⟨b1, a, h1, _, h3, _⟩ := hback j i hj
    rw [hb0] at h1; cases h1
    rcases h3 with ⟨h3, _⟩ | ⟨h3, _⟩ <;> cases b0 <;> simp only [isVarB, isOwnB] at h3 <;> rfl
   ·exact .inr ⟨hm, hold i b0 hS, b0, hS, by rw [privB_pr] at hp; exact hp⟩
  intro i j bi bj x hij hbi hbj hpi hpj hx hx'
  rcases hname i bi hbi hpi with ⟨q, bq, hq, e, ei, hmq⟩ | ⟨hm, hl, b0, hS, hp0⟩ <;> rcases hname j bj hbj hpj with ⟨q', bq', hq', e', ej, hmq'⟩ | ⟨hm', hl', b0', hS', hp0'⟩
  ·rw [blkOf_eq2 e] at hx
   rw [blkOf_eq2 e'] at hx'
   exact hH.2.2 q q' bq bq' x (fun eq => hij (by rw [ei, ej, eq])) hq hq' hx hx'
  ·rw [blkOf_eq2 e] at hx
   rw [blkOf_eq (ro2_old hm' hl')] at hx'
   have hlt' := blkOk_lt hp0' (h.1.heap j b0' hS') x hx'
   rcases hmq x hx with h1 | h1
   ·have h1 : c.w.heap.size ≤ x := h1
    omega
   ·obtain ⟨i', a, h1, h2, h3, h4⟩ := lentY_mine h.1 hi h1
    exact h.1.sep i' j a b0' x (fun e => hm' (e ▸ h1)) h2 hS' h3 hp0' h4 hx'
  ·rw [blkOf_eq2 e'] at hx'
   rw [blkOf_eq (ro2_old hm hl)] at hx
   have hlt' := blkOk_lt hp0 (h.1.heap i b0 hS) x hx
   rcases hmq' x hx' with h1 | h1
   ·have h1 : c.w.heap.size ≤ x := h1
    omega
   ·obtain ⟨i', a, h1, h2, h3, h4⟩ := lentY_mine h.1 hi h1
    exact h.1.sep i' i a b0 x (fun e => hm (e ▸ h1)) h2 hS h3 hp0 h4 hx
  ·rw [blkOf_eq (ro2_old hm hl)] at hx
   rw [blkOf_eq (ro2_old hm' hl')] at hx'
   exact h.1.sep i j b0 b0' x hij hS hS' hp0 hp0' hx hx'
 ·intro i hi'
  simp only at hi'
  rw [hnew i (by omega)]
  exact hH.2.1 _ (by rw [List.length_append, hlO]; omega)
where blkOf_eq2 {ρ ρ' : Ro} {i j : Nat} (h : ρ' i = ρ j) : blkOf ρ' i = blkOf ρ j := by unfold blkOf; rw [h]
theorem callC_in {f : FuncId} {caps vs : List V} {d : Option Nat} {ws : List V} {r : V} {Hin Hout Hnew : List Blk} (ids : List Nat) (hc : CallIn E f ws Hin r Hout Hnew) (hd : ids.Nodup) (hi : insB S.H ids ids Hin) (hm : mtL (inVL S.H ids (vs ++ caps)) ws)
  (h : wfV r → cont E J k .normal (S.afterI ids Hout Hnew d r)) : callC E J (some (.fn f caps)) (some vs) S d k := by
 refine .inr ⟨hc.1, _, r, ?_, h⟩
 intro c0 c ρ F us hs hus
 have hk := hc.2.1
 simp only [Bool.and_eq_true] at hk
 have hrd := mt_rdT hm (inV_rdT (ids := ids) hs.1 hus)
 refine (show Calls E.P f us.toArray c.w _ from hc.2.2 (c.lend (lentY ρ ids)) us (roIds ρ ids) (lentK ρ ids) (hs.1.gl.mono (c.pub_lend _)) (lent_ok hs.1 hd hi) (rdT_mono (c.pub_lend _) hrd)).mono ?_
 rintro e w' ⟨v, c', ρr, rfl, rfl, hle, hr, hH⟩
 exact ⟨v, c', _, rfl, rfl, simN_afterI hs hd hi hk.1 hk.2 hle hr hH d, rd_wf hr⟩
theorem arr_flat {c c' : Cx} {n : Nat} {g : Bool} : ∀ {l : List V} {cs : List Value}, flatL l → arrIs (rV ro0 n g) c cs l → arrIs (rV ro0 n g) c' cs l
 | [], _, _, h => h
 | a :: l, cs, hf, h => by
  simp only [flatL, arrIs] at hf h ⊢
  obtain ⟨c1, c2, e, ⟨h1, h2⟩, h3⟩ := h
  exact ⟨c1, c2, e, ⟨h1, flat_rd hf.1 h2⟩, arr_flat hf.2 h3⟩
theorem flatL_map {α : Type} {f : α → V} (h : ∀ x, flatV (f x)) : ∀ {l : List α}, flatL (l.map f)
 | [] => trivial
 | a :: l => ⟨h a, flatL_map h⟩
section
variable {D : Dr} {m i : Nat} {ll : List Oper} {R : List (Nat × HRes)}
theorem hcallC_kill {f : FuncId} {caps vs ws : List V} {d : Option Nat} {T n : Nat} {g : Bool} {z z' : Option Bool} {l l' : List V} (id : Nat) (hc : CallIn E f ws [.own T n g z l] (.own 0) [.own T n g z' l'] []) (hm : (memP D.ub i id && !decide (id = S.nx)) = true) (hi : insB S.H [id] [id] [.own T n g z l]) (ha : mtL (inVL S.H [id] (vs ++ caps)) ws) (hfl : flatL l')
  (h : drawC E D m (i + 1) ll ((i, ⟨d, .own S.nx, some (S.nx, .own T n g z' l')⟩) :: R)) : hcallC E D m i ll R d S (some (.fn f caps)) (some vs) := by
 obtain ⟨hlen, hget⟩ := insB_get hi
 obtain ⟨b0, hb0, hp0, _⟩ := inO_priv (hget 0 id _ rfl rfl)
 refine .inr (.inr ⟨hc.1, id, T, n, g, z', l', hm, ⟨b0, hb0, hp0⟩, fun c0 c ρ F us hs hus => ?_, h⟩)
 have hrd := mt_rdT ha (inV_rdT (ids := [id]) hs hus)
 refine (show Calls E.P f us.toArray c.w _ from hc.2.2 (c.lend (lentY ρ [id])) us (roIds ρ [id]) (lentK ρ [id]) (hs.gl.mono (c.pub_lend _)) (lent_ok hs (by simp) hi) (rdT_mono (c.pub_lend _) hrd)).mono ?_
 rintro e w' ⟨v, c', ρr, rfl, rfl, hle, hr, hH⟩
 obtain ⟨v', e1, hown, hge, hone, a, cap, es, hz⟩ := hH.1 0 _ rfl
 simp only [rd] at hr
 have ev : v' = v := by rw [hr.1] at e1; exact (Option.some.inj e1).symm
 subst ev
 have hY : ∀ k, k ∈ lentY ρ [id] ↔ blkOf ρ id = some k := by
  intro k
  simp only [lentY, List.mem_filterMap, List.mem_singleton]
  exact ⟨fun ⟨i, hi, hb⟩ => hi ▸ hb, fun hb => ⟨id, rfl, hb⟩⟩
 have hYlt : ∀ k, k ∈ lentY ρ [id] → k < c.w.heap.size := fun k hk => blkOk_lt hp0 (hs.heap id b0 hb0) k ((hY k).1 hk)
 have hYX : ∀ k, k ∈ lentY ρ [id] → k ∈ c.X := by
  intro k hk
  obtain ⟨i', a, h1, h2, h3, h4⟩ := lentY_mine hs hi hk
  have hb := hs.heap i' a h2
  cases a with
  | var n g d => obtain ⟨b, g1, _, g3⟩ := hb; simp only [blkOf, g1, Option.some.injEq] at h4; subst h4; exact g3.1
  | lent b n g d => obtain ⟨g1, _, g3⟩ := hb; simp only [blkOf, g1, Option.some.injEq] at h4; subst h4; exact g3.1
  | own T n g z l => obtain ⟨u, g1, g2, _, _, a, cap, e, _⟩ := hb; rw [blkOf_own g1 e] at h4; exact g2.isX k h4
  | ownI T n g z l => obtain ⟨u, g1, g2, _, _, a, cap, e, _⟩ := hb; rw [blkOf_own g1 e] at h4; exact g2.isX k h4
  | kset g k' n l => obtain ⟨r, g1, _, g3⟩ := hb; simp only [blkOf, g1, blk, Option.some.injEq] at h4; subst h4; exact g3.1
  | pvar n g d => cases h3
  | pown n g z l => cases h3
 refine ⟨v', { X := lentY ρ [id] ++ c'.X, w := c'.w, ok := fun k hk => ?_ }, rfl, rfl, ⟨hle.below.os, hle.below.tape, hle.below.output, hle.below.size, fun k hk hne => hle.below.block k hk (fun hy => hne ((hY k).1 hy)), fun k hk => ?_, fun k hk => hYX k ((hY k).2 hk)⟩, ⟨hown.1, ?_⟩, fun k hk => ?_, hone, a, cap, es, hz⟩
 ·rcases List.mem_append.1 hk with hk | hk
  ·exact Nat.lt_of_lt_of_le (hYlt k hk) hle.below.size
  ·exact c'.ok k hk
 ·simp only [List.mem_append]
  by_cases hy : k ∈ lentY ρ [id]
  ·exact ⟨fun _ => hYX k hy, fun _ => .inl hy⟩
  ·exact ⟨fun h' => (hle.old k hk hy).1 (h'.resolve_left hy), fun h' => .inr ((hle.old k hk hy).2 h')⟩
 ·rcases hown.2 with h' | ⟨g', cp, cur, e, k1, k2, k3, k4, k5, k6⟩
  ·exact .inl h'
  ·exact .inr ⟨g', cp, cur, e, List.mem_append.2 (.inr k1), k2, k3, k4, k5, arr_flat hfl k6⟩
 ·rcases hge k hk with h' | h'
  ·exact .inr h'
  ·exact .inl ((hY k).1 h')
end
def outI (E : Env) (S : St) (ks : Nat → Nat) (v r : V) (Hout Hnew : List Blk) : Prop :=
 ∀ c0 c ρ F u, SimN E c0 c ρ S F → rd ρ c v u → ∃ c1 ρ1, c1.w = c.w ∧ c0.leY c1 ∧ rd ρ1 c1 r u ∧ HOkI c0 c1 ρ1 (lentL ks 0 Hout ++ Hnew)
def retKI (E : Env) (rs : List ResultVar) (ks : Nat → Nat) (r : V) (Hout Hnew : List Blk) : Exit → St → Prop
 | .ret, S => match resL E.tb S rs with
  | some vs => outI E S ks (tupV vs) r Hout Hnew
  | none => False
 | .normal, S => match resL E.tb S rs with
  | some vs => outI E S ks (tupV vs) r Hout Hnew
  | none => False
 | _, _ => False
def retCI (E : Env) (S : St) (ks : Nat → Nat) (r : V) (Hout Hnew : List Blk) : Option (List V) → Prop
 | some vs => outI E S ks (tupV vs) r Hout Hnew
 | none => False
theorem retKI_ret {rs : List ResultVar} {ks : Nat → Nat} {r : V} {Hout Hnew : List Blk} : retKI E rs ks r Hout Hnew .ret S = retCI E S ks r Hout Hnew (resL E.tb S rs) := Eq.trans rfl rfl
theorem retKI_normal {rs : List ResultVar} {ks : Nat → Nat} {r : V} {Hout Hnew : List Blk} : retKI E rs ks r Hout Hnew .normal S = retCI E S ks r Hout Hnew (resL E.tb S rs) := Eq.trans rfl rfl
def outB (H : List (Nat × Blk)) (ids : List Nat) : Option Blk → Blk → Prop
 | some (.own T n g z l), .own T' n' g' z' l' => T = T' ∧ n = n' ∧ g = g' ∧ mtZ z z' ∧ mtL l l'
 | some (.lent k n g d), .lent k' n' g' d' => k = k' ∧ n = n' ∧ g = g' ∧ mt (viewO H ids d) d'
 | _, _ => False
def outsB (H : List (Nat × Blk)) (ids : List Nat) : List Nat → List Blk → Prop
 | [], [] => True
 | i :: l, b :: m => outB H ids (getA H i) b ∧ outsB H ids l m
 | _, _ => False
theorem outsB_get {H : List (Nat × Blk)} {ids : List Nat} : ∀ {l : List Nat} {m : List Blk}, outsB H ids l m → l.length = m.length ∧ ∀ (j i : Nat) (b : Blk), l[j]? = some i → m[j]? = some b → outB H ids (getA H i) b
 | [], [], _ => ⟨rfl, by simp⟩
 | i :: l, b :: m, h => by
  simp only [outsB] at h
  obtain ⟨h1, h2⟩ := outsB_get h.2
  refine ⟨by simp [h1], fun j i' b' hi hb => ?_⟩
  cases j with
  | zero => simp at hi hb; subst hi hb; exact h.1
  | succ j => exact h2 j i' b' (by simpa using hi) (by simpa using hb)
 | [], _ :: _, h => by simp [outsB] at h
 | _ :: _, [], h => by simp [outsB] at h
theorem outB_priv {H : List (Nat × Blk)} {ids : List Nat} {o : Option Blk} {b : Blk} (h : outB H ids o b) : ∃ a, o = some a ∧ privB a = true := by
 unfold outB at h
 split at h
 ·exact ⟨_, rfl, rfl⟩
 ·exact ⟨_, rfl, rfl⟩
 ·exact h.elim
def Cx.giveI (c0 c : Cx) (L : List Nat) (h0 : c0.w.heap.size ≤ c.w.heap.size) (h : ∀ k ∈ L, k < c.w.heap.size) : Cx :=
 { X := c0.X.filter (fun k => k ∉ c0.Y) ++ L, w := c.w, ok := fun k hk => (by
  rcases List.mem_append.1 hk with hk | hk
  ·exact Nat.lt_of_lt_of_le (c0.ok k (List.mem_filter.1 hk).1) h0
  ·exact h k hk) }
theorem giveI_X {c0 c : Cx} {L : List Nat} {h0 : c0.w.heap.size ≤ c.w.heap.size} {h : ∀ k ∈ L, k < c.w.heap.size} {x : Nat} : x ∈ (Cx.giveI c0 c L h0 h).X ↔ (x ∈ c0.X ∧ x ∉ c0.Y) ∨ x ∈ L := by
 simp [Cx.giveI]
theorem out_in {ks : Nat → Nat} {v r : V} {Hout Hnew : List Blk} (ids : List Nat) (ho : outsB S.H ids ids (lentL ks 0 Hout ++ Hnew)) (hd : ids.Nodup) (hm : mt (viewO S.H ids v) r) : outI E S ks v r Hout Hnew := by
 intro c0 c ρ F u h hr
 obtain ⟨hlen, hget⟩ := outsB_get ho
 have hpriv : ∀ i ∈ ids, ∃ a, getA S.H i = some a ∧ privB a = true := by
  intro i hi
  obtain ⟨j, hj, e⟩ := List.getElem_of_mem hi
  exact outB_priv (hget j i (lentL ks 0 Hout ++ Hnew)[j] (by rw [List.getElem?_eq_getElem hj, e]) (List.getElem?_eq_getElem (by omega)))
 have hL : ∀ x ∈ ids.filterMap (blkOf ρ), x < c.w.heap.size ∧ c0.mine x ∧ x ∈ c.X ∧ ∃ i ∈ ids, blkOf ρ i = some x := by
  intro x hx
  obtain ⟨i, hi, hb⟩ := List.mem_filterMap.1 hx
  obtain ⟨a, h1, h2⟩ := hpriv i hi
  refine ⟨blkOk_lt h2 (h.1.heap i a h1) x hb, blkOf_ge h.1 h1 h2 x hb, ?_, i, hi, hb⟩
  have hbk := h.1.heap i a h1
  cases a with
  | var n g d => obtain ⟨b, g1, _, g3⟩ := hbk; simp only [blkOf, g1, Option.some.injEq] at hb; subst hb; exact g3.1
  | lent b n g d => obtain ⟨g1, _, g3⟩ := hbk; simp only [blkOf, g1, Option.some.injEq] at hb; subst hb; exact g3.1
  | own T n g z l => obtain ⟨u, g1, g2, _, _, a, cap, e, _⟩ := hbk; rw [blkOf_own g1 e] at hb; exact g2.isX x hb
  | ownI T n g z l => obtain ⟨u, g1, g2, _, _, a, cap, e, _⟩ := hbk; rw [blkOf_own g1 e] at hb; exact g2.isX x hb
  | kset g k' n l => obtain ⟨r, g1, _, g3⟩ := hbk; simp only [blkOf, g1, blk, Option.some.injEq] at hb; subst hb; exact g3.1
  | pvar n g d => cases h2
  | pown n g z l => cases h2
 generalize hc1 : Cx.giveI c0 c (ids.filterMap (blkOf ρ)) h.1.since.size (fun k hk => (hL k hk).1) = c1
 have hw : c1.w = c.w := by subst hc1; rfl
 have hX : ∀ x, x ∈ c1.X ↔ (x ∈ c0.X ∧ x ∉ c0.Y) ∨ x ∈ ids.filterMap (blkOf ρ) := by subst hc1; intro x; exact giveI_X
 have hpub : c.pub c1 := by
  refine ⟨by rw [hw]; exact Nat.le_refl _, fun k hk hx => ⟨fun h' => ?_, by rw [hw]⟩⟩
  rcases (hX k).1 h' with h' | h'
  ·exact hx (h.1.since.X k h'.1 h'.2)
  ·exact hx (hL k h').2.2.1
 have hle : c0.leY c1 := by
  refine ⟨by rw [hw]; exact h.1.since.below, fun k hk hy => ⟨fun h' => ?_, fun h' => (hX k).2 (.inl ⟨h', hy⟩)⟩⟩
  rcases (hX k).1 h' with h' | h'
  ·exact h'.1
  ·rcases (hL k h').2.1 with h1 | h1
   ·omega
   ·exact absurd h1 hy
 have hn : ∀ i b, i ∉ ids → getA S.H i = some b → privB b = true → ∀ k, blkOf ρ i = some k → k ∉ c1.X := by
  intro i b hi hb hp k hk hmem
  rcases (hX k).1 hmem with h' | h'
  ·rcases blkOf_ge h.1 hb hp k hk with h1 | h1
   ·have := c0.ok k h'.1; omega
   ·exact h'.2 h1
  ·obtain ⟨_, _, _, j, hj, hb'⟩ := hL k h'
   obtain ⟨a, h1, h2⟩ := hpriv j hj
   exact h.1.sep i j b a k (fun e => hi (e ▸ hj)) hb h1 hp h2 hk hb'
 refine ⟨c1, roIds ρ ids, hw, hle, mt_rd hm (viewO_rd hw hpub h.1 hn hr), ?_, ?_, ?_⟩
 ·intro q b hq
  have hql : q < ids.length := by rw [hlen]; exact (List.getElem?_eq_some_iff.1 hq).1
  obtain ⟨i, hi⟩ : ∃ i, ids[q]? = some i := ⟨_, List.getElem?_eq_getElem hql⟩
  have ho' := hget q i b hi hq
  have hmem : i ∈ ids := List.mem_of_getElem? hi
  have hro : roIds ρ ids q = ρ i := by simp only [roIds, hi]
  have hmemX : ∀ x, blkOf ρ i = some x → x ∈ c1.X := fun x hx => (hX x).2 (.inr (List.mem_filterMap.2 ⟨i, hmem, hx⟩))
  cases hS : getA S.H i with
  | none => rw [hS] at ho'; unfold outB at ho'; exact ho'.elim
  | some a =>
   have hbk := h.1.heap i a hS
   rw [hS] at ho'
   unfold outB at ho'
   split at ho'
   ·rename_i T n g z l T' n' g' z' l' e
    cases e
    obtain ⟨rfl, rfl, rfl, hz, hml⟩ := ho'
    obtain ⟨x, h1, h2, h3, h4, a, cap, e, h5⟩ := hbk
    refine ⟨x, hro.trans h1, own_mt ⟨h2.1, ?_⟩ hml, h3, h4, a, cap, by rw [← mtL_len hml]; exact e, mtZ_ok hz h5⟩
    rcases h2.2 with h' | ⟨g', cp, cur, e2, k1, k2, k3, k4, k5, k6⟩
    ·exact .inl h'
    ·exact .inr ⟨g', cp, cur, e2, hmemX g' (by rw [blkOf_own h1 e, e2]; rfl), by rw [hw]; exact k2, k3, k4, k5, arrIs_mono hpub k6⟩
   ·rename_i k n g d k' n' g' d' e
    cases e
    obtain ⟨rfl, rfl, rfl, hm⟩ := ho'
    obtain ⟨h1, h2, h3, T, cs, h4, h5, h6⟩ := hbk
    exact ⟨hro.trans h1, h2, hmemX k (by simp [blkOf, h1]), T, cs, by rw [hw]; exact h4, h5, mt_rd hm (viewO_rd hw hpub h.1 hn h6)⟩
   ·exact ho'.elim
 ·intro q hq
  simp only [roIds]
  rw [List.getElem?_eq_none (by omega)]
 ·intro q q' bq bq' x hne hq hq' hk hk'
  have get : ∀ {q : Nat} {b : Blk}, (lentL ks 0 Hout ++ Hnew)[q]? = some b → ∃ i a, ids[q]? = some i ∧ getA S.H i = some a ∧ privB a = true := by
   intro q b hq
   have hql : q < ids.length := by rw [hlen]; exact (List.getElem?_eq_some_iff.1 hq).1
   have hi : ids[q]? = some ids[q] := List.getElem?_eq_getElem hql
   obtain ⟨a, h1, h2⟩ := hpriv ids[q] (List.getElem_mem hql)
   exact ⟨_, a, hi, h1, h2⟩
  obtain ⟨i, a, g1, g2, g3⟩ := get hq
  obtain ⟨i', a', g1', g2', g3'⟩ := get hq'
  have hii : i ≠ i' := by
   rintro rfl
   exact hne (nodup_idx hd g1 g1')
  rw [blkOf_eq3 (show roIds ρ ids q = ρ i by simp only [roIds, g1])] at hk
  rw [blkOf_eq3 (show roIds ρ ids q' = ρ i' by simp only [roIds, g1'])] at hk'
  exact h.1.sep i i' a a' x hii g2 g2' g3 g3' hk hk'
where blkOf_eq3 {ρ ρ' : Ro} {i j : Nat} (h : ρ' i = ρ j) : blkOf ρ' i = blkOf ρ j := by unfold blkOf; rw [h]
theorem retCI_in {ks : Nat → Nat} {vs : List V} {r : V} {Hout Hnew : List Blk} (ids : List Nat) (ho : outsB S.H ids ids (lentL ks 0 Hout ++ Hnew)) (hd : ids.Nodup) (hm : mt (viewO S.H ids (tupV vs)) r) : retCI E S ks r Hout Hnew (some vs) := out_in ids ho hd hm
def heapA : Nat → List Blk → List (Nat × Blk)
 | _, [] => []
 | i, b :: l => (i, b) :: heapA (i + 1) l
theorem getA_heapA : ∀ {l : List Blk} {i t : Nat}, getA (heapA i l) t = if i ≤ t then l[t - i]? else none
 | [], i, t => by simp [heapA, getA]
 | v :: l, i, t => by
  simp only [heapA, getA, getA_heapA]
  by_cases h : i = t
  ·subst h; simp
  ·rw [if_neg h]
   by_cases h1 : i ≤ t
   ·rw [if_pos h1, if_pos (by omega)]
    have : t - i = (t - (i + 1)) + 1 := by omega
    rw [this, List.getElem?_cons_succ]
   ·rw [if_neg h1, if_neg (by omega)]
def wfB : Blk → Prop
 | .var _ _ d => wfV d
 | .own _ _ _ _ l => l.length ≤ LEN ∧ wfL l
 | _ => True
def wfBs : List Blk → Prop
 | [] => True
 | b :: l => wfB b ∧ wfBs l
theorem wfBs_of : ∀ {l : List Blk}, (∀ (j : Nat) (b : Blk), l[j]? = some b → wfB b) → wfBs l
 | [], _ => trivial
 | b :: l, h => ⟨h 0 b rfl, wfBs_of fun j b' hb => h (j + 1) b' (by simpa using hb)⟩
theorem enterI (hE : EnvOk E) (hmo : E.P.follows .mixedOrders = true) {f : FuncId} {fn : Func} {code : Code} {ws : List V} {r : V} {Hin Hout Hnew : List Blk} {n : Nat} (J : Cuts) (hf : E.P.funcs[f]? = some fn) (hb : fn.body = some code) (hnt : fn.ntmps = n)
  (hsl : (slotsC n code && decide (ws.length ≤ n) && !(fn.name == "runtime.NumGoroutine")) = true) (hkn : (kndB Hin Hout && ownsB Hnew) = true)
  (h : ∀ ks : Nat → Nat, wfL ws → wfBs Hin → wpA E J code (retKI E fn.results.toList ks r Hout Hnew) ⟨slotsA 0 ws, heapA 0 (lentL ks 0 Hin), Hin.length⟩) : CallIn E f ws Hin r Hout Hnew := by
 simp only [Bool.and_eq_true, Bool.not_eq_true', decide_eq_true_eq] at hsl
 refine ⟨fun aas w => ?_, hkn, fun c us ρ0 ks hg hin hus => ?_⟩
 ·have hn : ¬ fn.name = "runtime.NumGoroutine" := by simpa using hsl.2
  simp [callFunc, hf, hb, hn]
 have hlen : us.length = ws.length := by
  have : ∀ {l : List V} {cs : List Value}, rdT ρ0 c l cs → cs.length = l.length := by
   intro l
   induction l with
   | nil => intro cs hc; simp only [rdT] at hc; subst hc; rfl
   | cons d l ih =>
    intro cs hc
    simp only [rdT] at hc
    obtain ⟨u, c2, rfl, _, h3⟩ := hc
    simp [ih h3]
  exact this hus
 have hwfB : wfBs Hin := by
  refine wfBs_of fun j b hb => ?_
  have h1 := hin.1 j (lentB (ks j) b) (by rw [lentL_get, Nat.zero_add, hb]; rfl)
  cases b with
  | var n g d =>
   obtain ⟨_, _, _, T, cs, _, _, h6⟩ := h1
   exact rd_wf h6
  | own T n g z l =>
   obtain ⟨v, _, h2, _⟩ := h1
   refine ⟨h2.1, ?_⟩
   rcases h2.2 with ⟨_, _, rfl⟩ | ⟨g', cp, cur, e2, k1, k2, k3, k4, k5, k6⟩
   ·trivial
   ·exact rdE_wf (rdE_arr.2 k6)
  | _ => trivial
 have hall := h ks (rdT_wf hus) hwfB
 refine calls_of_wp hf hb ?_
 have hfr : Fr n (fun t => (us.toArray ++ Array.replicate (n - us.toArray.size) undef).getD t undef) { tmps := us.toArray ++ Array.replicate (fn.ntmps - us.toArray.size) undef, defers := [] } := by
  refine ⟨?_, rfl, fun t => by rw [hnt]⟩
  simp [hnt]; omega
 have hS : SimN E c c ρ0 ⟨slotsA 0 ws, heapA 0 (lentL ks 0 Hin), Hin.length⟩ (fun t => (us.toArray ++ Array.replicate (n - us.toArray.size) undef).getD t undef) := by
  refine ⟨⟨Since.refl c, hg, ?_, ?_, ?_⟩, fun i hi => hin.2.1 i (by rw [lentL_len]; exact hi)⟩
  ·intro t v ht
   rw [getA_slotsA] at ht
   simp only [Nat.zero_le, if_true, Nat.sub_zero] at ht
   obtain ⟨u, hu, hr⟩ := rdT_get hus ht
   have hlt : t < us.length := (List.getElem?_eq_some_iff.1 hu).1
   have : (us.toArray ++ Array.replicate (n - us.toArray.size) undef).getD t undef = u := by
    have he : us[t] = u := by simpa [List.getElem?_eq_getElem hlt] using hu
    simp [Array.getD_eq_getD_getElem?, Array.getElem?_append, hlt, he]
   rw [this]; exact hr
  ·intro i b hb
   rw [getA_heapA] at hb
   simp only [Nat.zero_le, if_true, Nat.sub_zero] at hb
   exact hin.1 i b hb
  ·intro i j bi bj x hij hbi hbj _ _ hx
   rw [getA_heapA] at hbi hbj
   simp only [Nat.zero_le, if_true, Nat.sub_zero] at hbi hbj
   exact hin.2.2 i j bi bj x hij hbi hbj hx
 refine wpA_sound hE hmo code _ _ hsl.1.1 ?_ c ρ0 _ _ _ hS hfr hall
 rintro e a w ⟨c', ρ', S', F', rfl, hS, hf', hk⟩
 cases e with
 | ret =>
  simp only [retKI] at hk
  split at hk
  ·rename_i vs hvs
   obtain ⟨u, hu, hr⟩ := results_run hE hS.1 hf' hvs
   obtain ⟨c1, ρ1, e1, hle, hr1, hH⟩ := hk c c' ρ' F' u hS hr
   refine ⟨hf'.defers, u, hu, u, c1, ρ1, rfl, e1, hle, hr1, hH⟩
  ·exact hk.elim
 | normal =>
  simp only [retKI] at hk
  split at hk
  ·rename_i vs hvs
   obtain ⟨u, hu, hr⟩ := results_run hE hS.1 hf' hvs
   obtain ⟨c1, ρ1, e1, hle, hr1, hH⟩ := hk c c' ρ' F' u hS hr
   refine ⟨hf'.defers, u, hu, u, c1, ρ1, rfl, e1, hle, hr1, hH⟩
  ·exact hk.elim
 | _ => exact hk.elim
end
end Go.Proofs.YteolfhljhnplpaaGreatDoor
namespace Go.Proofs.YteolfhljhnplpaaGreatDoor
open Go.RowKit
attribute [go_sem] St.afterI prF prV prL prH prB ownIds ownIds.ownI1 sg setIds backB renBs renB ren renL lentL lentB heapA insB inO outsB outB inV inVL retKI_ret retKI_normal shiftH cond_true cond_false Nat.sub_self List.getElem?_nil Nat.reduceSub
theorem rdT_nil {c : Cx} {ρ : Ro} {n : Nat} {g : Bool} {post : List V} (h0 : ρ 0 = some (.slice none 0 0)) : ∀ {pre : List V} {us : List Value}, rdT ro0 c (pre ++ .sl (some true) n g [] :: post) us → rdT ρ c (pre ++ .own 0 :: post) us
 | [], us, h => by
  simp only [List.nil_append, rdT] at h ⊢
  obtain ⟨u, c2, e, h1, h2⟩ := h
  have e2 : u = .slice none 0 0 := by
   simp only [rd, zOk] at h1
   obtain ⟨a, cap, e, _, ⟨rfl, rfl⟩, _⟩ := h1
   exact e
  subst e2
  refine ⟨_, c2, e, ?_, ?_⟩
  ·simp only [rd]; exact ⟨h0, rfl⟩
  ·exact rdT_ro (fun i v hi => (ro0_some hi).elim) h2
 | d :: pre, us, h => by
  simp only [List.cons_append, rdT] at h ⊢
  obtain ⟨u, c2, e, h1, h2⟩ := h
  exact ⟨u, c2, e, rd_ro (fun i v hi => (ro0_some hi).elim) h1, rdT_nil h0 h2⟩
theorem callIn_nil {E : Env} {f : FuncId} {pre post : List V} {T n : Nat} {g : Bool} {r : V} {Hout Hnew : List Blk} (h : CallIn E f (pre ++ .own 0 :: post) [.own T n g (some true) []] r Hout Hnew) (hone : g = false → n = 1) : CallOk E f (pre ++ .sl (some true) n g [] :: post) r (Hout ++ Hnew) := by
 refine ⟨h.1, fun c us hY hg hus => ?_⟩
 have hk := h.2.1
 simp only [Bool.and_eq_true] at hk
 obtain ⟨hkl, hkk⟩ := kndB_spec hk.1
 have hall : ∀ (q : Nat) (b : Blk), Hout[q]? = some b → isOwnB b := by
  intro q b hb
  have hq : q < 1 := by have := (List.getElem?_eq_some_iff.1 hb).1; simp at hkl; omega
  have e : q = 0 := by omega
  subst e
  rcases hkk 0 _ b rfl hb with ⟨h1, _⟩ | ⟨_, h1⟩
  ·exact h1.elim
  ·exact h1
 have hlent : ∀ {l : List Blk} {i : Nat}, (∀ (q : Nat) (b : Blk), l[q]? = some b → isOwnB b) → lentL (fun _ => 0) i l = l := by
  intro l
  induction l with
  | nil => intro i _; rfl
  | cons b l ih =>
   intro i hb
   have h1 := hb 0 b rfl
   simp only [lentL]
   rw [ih fun q b hq => hb (q + 1) b (by simpa using hq)]
   cases b <;> simp only [isOwnB] at h1 <;> rfl
 refine (h.2.2 c us (fun i => if i = 0 then some (.slice none 0 0) else none) (fun _ => 0) hg ?_ (rdT_nil (by simp) hus)).mono ?_
 ·refine ⟨fun i b hb => ?_, fun i hi => ?_, fun i j bi bj k hij hi hj => ?_⟩
  ·cases i with
   | zero =>
    simp [lentL, lentB] at hb; subst hb
    exact ⟨.slice none 0 0, by simp, Own.nil, fun k hk => by simp [blk] at hk, hone, none, 0, rfl, rfl, rfl⟩
   | succ i => simp [lentL] at hb
  ·have : i ≠ 0 := by simp [lentL] at hi; omega
   simp [this]
  ·cases i with
   | zero => cases j with
    | zero => exact absurd rfl hij
    | succ j => simp [lentL] at hj
   | succ i => simp [lentL] at hi
 ·rintro e w' ⟨v, c', ρ, rfl, rfl, hle, hr, hH⟩
  rw [hlent hall] at hH
  refine ⟨v, c', ρ, rfl, rfl, hle.le hY, hr, fun i b hb => ⟨?_, hH.1 i b hb⟩, hH.2.1, hH.2.2⟩
  have hb' : isOwnB b := by
   rcases Nat.lt_or_ge i Hout.length with h1 | h1
   ·rw [List.getElem?_append_left h1] at hb; exact hall i b hb
   ·rw [List.getElem?_append_right h1] at hb; exact ownsB_spec hk.2 _ b hb
  cases b <;> simp only [isOwnB] at hb'
  exact ⟨_, _, _, _, _, rfl⟩
end Go.Proofs.YteolfhljhnplpaaGreatDoor
namespace Go.Proofs.YteolfhljhnplpaaGreatDoor
open Go.RowKit
class CM (E : outParam Env) {α : Type} (m : α) (f : outParam FuncId) (ws : outParam (List V)) (R : outParam (α → V)) (Hs : outParam (α → List Blk)) : Prop where
  ok : CallOk E f ws (R m) (Hs m)
class DRD (id : Nat) (n m : outParam Nat) (wr : outParam (List Nat)) (wl : outParam (List (Nat × Nat))) (need : outParam (List (List Nat))) (ub : outParam (List (Nat × Nat))) : Prop where
  ok : True
class CF {α : Type} (m : α) (P : outParam (α → Prop)) : Prop where
  ok : P m
theorem cfU {α : Type} {x m : α} {P : α → Prop} (hx : x = m) [h : CF m P] : P x := by subst hx; exact h.ok
theorem mpQ {a b : Prop} (h : a) (f : a → b := by assumption) : b := f h
section
variable {E : Env} {J : Cuts} {k : List Ct} {S : St} {α : Type} {f : FuncId} {ws : List V} {R : α → V} {Hs : α → List Blk}
theorem cmQ {m : α} (h : ∀ r, m = r → CallOk E f ws (R r) (Hs r)) : CM E m f ws R Hs := ⟨h m rfl⟩
theorem cmU {x m : α} (hx : x = m) [h : CM E m f ws R Hs] : CallOk E f ws (R x) (Hs x) := by subst hx; exact h.ok
theorem cmH {x m : α} (hx : x = m) (h : CM E m f ws R Hs) : CallOk E f ws (R x) (Hs x) := by subst hx; exact h.ok
theorem ifQ_t {β : Type} {c : Bool} {a b r : β} (hM : (if c = true then a else b) = r) (h : c = true) : a = r := by rw [if_pos h] at hM; exact hM
theorem ifQ_f {β : Type} {c : Bool} {a b r : β} (hM : (if c = true then a else b) = r) (h : c = false) : b = r := by rw [if_neg (by rw [h]; decide)] at hM; exact hM
theorem bindP {r : Res} {d : Option Nat} (h : bindC E J r S d k) : bindC E J r S d k := h
theorem callP {v : Option V} {vs : Option (List V)} {d : Option Nat} (h : callC E J v vs S d k) : callC E J v vs S d k := h
theorem retP {r : V} {H : List Blk} {o : Option (List V)} (h : retC E S r H o) : retC E S r H o := h
theorem lpP {K : St → Prop} (h : cont E J (.lp K :: k) .normal S) : cont E J (.lp K :: k) .normal S := h
theorem drawP {id : Nat} {ops : Array Oper} (h : cont E J (.code (.region id ops true) :: k) .normal S) : cont E J (.code (.region id ops true) :: k) .normal S := h
theorem ct_drawI {id : Nat} {ops : Array Oper} {n m : Nat} {wr : List Nat} {wl : List (Nat × Nat)} {need : List (List Nat)} {ub : List (Nat × Nat)} [DRD id n m wr wl need ub] (hB : (wlB ops m wl && flowB n m ops wr need && ((List.range m).all fun i => (need.getD i []).all fun j => decide (j < i))) = true) (hU : ubB m need ub S.nx = true)
    (h : drawC E ⟨J, S, wr, wl, need, ub, k⟩ m 0 ops.toList []) : cont E J (.code (.region id ops true) :: k) .normal S := ct_draw n m wr wl need ub hB hU h
section
variable {D : Dr} {m i : Nat} {l : List Oper} {L : List (Nat × HRes)} {d : Option Nat}
theorem hbindP {nid : Nat} {r : Res} (h : hbindC E D m i l L d nid r) : hbindC E D m i l L d nid r := h
theorem hcallP {v : Option V} {vs : Option (List V)} (h : hcallC E D m i l L d S v vs) : hcallC E D m i l L d S v vs := h
end
theorem trueQ : True := trivial
theorem quo_ok {a b : Int} (h : 0 ≤ a ∧ a ≤ 9223372036854775807) (hb : 0 < b) : quoI .i64 a b = a / b := by
  have h1 : a.tdiv b = a / b := Int.tdiv_eq_ediv_of_nonneg h.1
  have h2 : 0 ≤ a / b := Int.ediv_nonneg h.1 (by omega)
  have h3 : a / b ≤ a := Int.ediv_le_self _ h.1
  have := add_ok (a := a / b) (b := 0) (by omega) (by omega)
  unfold quoI
  rw [h1]
  simpa [addI] using this
theorem rem_ok {a b : Int} (h : 0 ≤ a ∧ a ≤ 9223372036854775807) (hb : 0 < b) : remI .i64 a b = a % b := Int.tmod_eq_emod_of_nonneg h.1
theorem elt_mpN {β : Type} [Inhabited β] {l : List β} {g : β → V} {i : Nat} (h : i < l.length) (d : V) : elt (l.map g) i d = g (gt l (i : Int)) := elt_mp (i := (i : Int)) h d
end
theorem auQ {P : Prop} (h : P := by
  repeat' (first
    | ((first | (with_reducible refine condC_intro ?_ ?_) | (with_reducible refine guardC_t ?_ ?_) | (with_reducible refine guardC_f ?_ ?_) | (with_reducible refine hguardC_t ?_ ?_) | (with_reducible refine hguardC_f ?_ ?_)) <;> (intro h0; (first | replace hM := ifQ_t hM h0 | replace hM := ifQ_f hM h0); replace hF := And.intro h0 hF; replace h0 := nzQ h0; (try have h1 := mpQ h0); (first | refine spQA hF ?_ | skip)))
    | (with_reducible refine bindP ?_
       refine bindC_intro ?h9 ?_
       case h9 => exact omQ
       first
         | (rw [elt_mp ?h9]; case h9 => exact omQ)
         | (rw [elt_mpN ?h9]; case h9 => exact omQ)
         | skip
       refine spQA hF ?_)
    | (with_reducible refine hbindP ?_
       first
         | (refine hbindC_intro ?h9 ?_; case h9 => exact omQ)
         | (refine hbindC_introN ?h9 (clQA hF) ?_; case h9 => exact omQ)
         | (refine hbindC_introP ?h9 (clQA hF) ?_; case h9 => exact omQ)
         | (refine hbindC_introA ?h9 (clQA hF) ?_; case h9 => exact omQ)
         | (refine hbindC_introV ?h9 (clQA hF) ?_; case h9 => exact omQ)
         | (refine hbindC_introU ?h9 (clQA hF) ?_; case h9 => exact omQ)
       first
         | (rw [elt_mp ?h9]; case h9 => exact omQ)
         | (rw [elt_mpN ?h9]; case h9 => exact omQ)
         | skip
       refine spQA hF ?_)
    | (with_reducible refine callP ?_
       have hM0 := hM; clear hM; obtain ⟨x0, hx0, hM⟩ := letk_opn hM0; clear hM0
       first
         | refine callC_give (cmU hx0) (clQA hF) (clQA hF) (fun hw0 => ?_)
         | refine callC_look (cmU hx0) (clQA hF) (clQA hF) (fun hw0 => ?_)
       replace hw0 := nzQ hw0
       try have hq0 := nzQ (cfU hx0)
       refine spQA hF ?_)
    | (with_reducible refine hcallP ?_
       have hM0 := hM; clear hM; obtain ⟨x0, hx0, hM⟩ := letk_opn hM0; clear hM0
       first
         | refine hcallC_give (cmU hx0) (clQA hF) (clQA hF) ?_
         | refine hcallC_give (CallOk.pub (cmU hx0)) (clQA hF) (clQA hF) ?_
         | refine hcallC_look (cmU hx0) (clQA hF) (clQA hF) ?_
       try have hq0 := nzQ (cfU hx0)
       refine spQA hF ?_)
    | (with_reducible refine drawP ?_
       refine ct_drawI (by kernel_rfl) (by exact alQ) ?_
       refine spQA hF ?_)
    | (with_reducible refine retP ?_
       subst hM
       exact retC_view (lfQA hF))
    | (with_reducible refine lpP ?_
       refine lp_intro ?_ _ ?h1 ?h2 ?h3 ⟨_, rfl, ?h4, ?h5, iter_again hM ?h6⟩
       case h6 => assumption
       case h1 => omega
       case h2 => first | exact sbQ | exact sbQA (And.intro @gt_cons0 (And.intro @gt_conss hF))
       case h3 => first | exact sbQ | exact sbQA (And.intro @gt_cons0 (And.intro @gt_conss hF))
       case h4 => first | trivial | exact omQ
       case h5 => exact omQ))) : P := h
end Go.Proofs.YteolfhljhnplpaaGreatDoor
namespace Go.Proofs.YteolfhljhnplpaaGreatDoor
open Go.RowKit
structure S_api_Group where
 P : Int
 Q : Int
 G : Int
def z_api_Group : S_api_Group := { P := (0 : Int), Q := (0 : Int), G := (0 : Int) }
instance : Inhabited S_api_Group := ⟨z_api_Group⟩
@[go_sem] theorem z_api_Group_P : z_api_Group.P = (0 : Int) := Eq.trans rfl rfl
@[go_sem] theorem z_api_Group_Q : z_api_Group.Q = (0 : Int) := Eq.trans rfl rfl
@[go_sem] theorem z_api_Group_G : z_api_Group.G = (0 : Int) := Eq.trans rfl rfl
structure S_api_Bases where
 Group : S_api_Group
 G1 : Int
 G2 : Int
 H : Int
def z_api_Bases : S_api_Bases := { Group := z_api_Group, G1 := (0 : Int), G2 := (0 : Int), H := (0 : Int) }
instance : Inhabited S_api_Bases := ⟨z_api_Bases⟩
@[go_sem] theorem z_api_Bases_Group : z_api_Bases.Group = z_api_Group := Eq.trans rfl rfl
@[go_sem] theorem z_api_Bases_G1 : z_api_Bases.G1 = (0 : Int) := Eq.trans rfl rfl
@[go_sem] theorem z_api_Bases_G2 : z_api_Bases.G2 = (0 : Int) := Eq.trans rfl rfl
@[go_sem] theorem z_api_Bases_H : z_api_Bases.H = (0 : Int) := Eq.trans rfl rfl
structure S_api_Item where
 Kind : Int
 N : Int
 B : (List Int)
 L : (List S_api_Item)
def z_api_Item : S_api_Item := { Kind := (0 : Int), N := (0 : Int), B := [], L := [] }
instance : Inhabited S_api_Item := ⟨z_api_Item⟩
@[go_sem] theorem z_api_Item_Kind : z_api_Item.Kind = (0 : Int) := Eq.trans rfl rfl
@[go_sem] theorem z_api_Item_N : z_api_Item.N = (0 : Int) := Eq.trans rfl rfl
@[go_sem] theorem z_api_Item_B : z_api_Item.B = [] := Eq.trans rfl rfl
@[go_sem] theorem z_api_Item_L : z_api_Item.L = [] := Eq.trans rfl rfl
def e_api_Bases (x : S_api_Bases) : V := .agg [.int .i64 x.Group.P, .int .i64 x.Group.Q, .int .i64 x.Group.G, .int .i64 x.G1, .int .i64 x.G2, .int .i64 x.H]
attribute [go_sem] e_api_Bases
def zv_25 : V := .agg [.int .i64 0, .int .i64 0, .int .i64 0, .int .i64 0, .int .i64 0, .int .i64 0]
attribute [go_sem] zv_25
def q_api_Bases (a b : S_api_Bases) : Bool := (a.Group.P == b.Group.P && (a.Group.Q == b.Group.Q && (a.Group.G == b.Group.G && (a.G1 == b.G1 && (a.G2 == b.G2 && a.H == b.H)))))
attribute [go_sem] q_api_Bases
def e_api_Item (x : S_api_Item) : V := .agg [.int .i64 x.Kind, .int .i64 x.N, .sl none 1 false (x.B.map (V.int .u8)), .sl none 4 true (x.L.map e_api_Item)]
termination_by SizeOf.sizeOf x
decreasing_by
 rename_i y h
 have := List.sizeOf_lt_of_mem h
 cases x
 simp at *
 omega
attribute [go_sem] e_api_Item
def zv_214 : V := .agg (.int .u32 0 :: .int .u32 0 :: .int .u32 0 :: .int .u32 0 :: .int .u32 0 :: .int .u32 0 :: .int .u32 0 :: .int .u32 0 :: .int .u32 0 :: .int .u32 0 :: .int .u32 0 :: .int .u32 0 :: .int .u32 0 :: .int .u32 0 :: .int .u32 0 :: .int .u32 0 :: .int .u32 0 :: .int .u32 0 :: .int .u32 0 :: .int .u32 0 :: .int .u32 0 :: .int .u32 0 :: .int .u32 0 :: .int .u32 0 :: .int .u32 0 :: .int .u32 0 :: .int .u32 0 :: .int .u32 0 :: .int .u32 0 :: .int .u32 0 :: .int .u32 0 :: .int .u32 0 :: .int .u32 0 :: .int .u32 0 :: .int .u32 0 :: .int .u32 0 :: .int .u32 0 :: .int .u32 0 :: .int .u32 0 :: .int .u32 0 :: .int .u32 0 :: .int .u32 0 :: .int .u32 0 :: .int .u32 0 :: .int .u32 0 :: .int .u32 0 :: .int .u32 0 :: .int .u32 0 :: .int .u32 0 :: .int .u32 0 :: .int .u32 0 :: .int .u32 0 :: .int .u32 0 :: .int .u32 0 :: .int .u32 0 :: .int .u32 0 :: .int .u32 0 :: .int .u32 0 :: .int .u32 0 :: .int .u32 0 :: .int .u32 0 :: .int .u32 0 :: .int .u32 0 :: .int .u32 0 :: [])
attribute [go_sem] zv_214
def e_arr214 (l : (List Int)) : V := .agg (.int .u32 (gt l 0) :: .int .u32 (gt l 1) :: .int .u32 (gt l 2) :: .int .u32 (gt l 3) :: .int .u32 (gt l 4) :: .int .u32 (gt l 5) :: .int .u32 (gt l 6) :: .int .u32 (gt l 7) :: .int .u32 (gt l 8) :: .int .u32 (gt l 9) :: .int .u32 (gt l 10) :: .int .u32 (gt l 11) :: .int .u32 (gt l 12) :: .int .u32 (gt l 13) :: .int .u32 (gt l 14) :: .int .u32 (gt l 15) :: .int .u32 (gt l 16) :: .int .u32 (gt l 17) :: .int .u32 (gt l 18) :: .int .u32 (gt l 19) :: .int .u32 (gt l 20) :: .int .u32 (gt l 21) :: .int .u32 (gt l 22) :: .int .u32 (gt l 23) :: .int .u32 (gt l 24) :: .int .u32 (gt l 25) :: .int .u32 (gt l 26) :: .int .u32 (gt l 27) :: .int .u32 (gt l 28) :: .int .u32 (gt l 29) :: .int .u32 (gt l 30) :: .int .u32 (gt l 31) :: .int .u32 (gt l 32) :: .int .u32 (gt l 33) :: .int .u32 (gt l 34) :: .int .u32 (gt l 35) :: .int .u32 (gt l 36) :: .int .u32 (gt l 37) :: .int .u32 (gt l 38) :: .int .u32 (gt l 39) :: .int .u32 (gt l 40) :: .int .u32 (gt l 41) :: .int .u32 (gt l 42) :: .int .u32 (gt l 43) :: .int .u32 (gt l 44) :: .int .u32 (gt l 45) :: .int .u32 (gt l 46) :: .int .u32 (gt l 47) :: .int .u32 (gt l 48) :: .int .u32 (gt l 49) :: .int .u32 (gt l 50) :: .int .u32 (gt l 51) :: .int .u32 (gt l 52) :: .int .u32 (gt l 53) :: .int .u32 (gt l 54) :: .int .u32 (gt l 55) :: .int .u32 (gt l 56) :: .int .u32 (gt l 57) :: .int .u32 (gt l 58) :: .int .u32 (gt l 59) :: .int .u32 (gt l 60) :: .int .u32 (gt l 61) :: .int .u32 (gt l 62) :: .int .u32 (gt l 63) :: [])
attribute [go_sem] e_arr214
def e_arr185 (l : (List Int)) : V := .agg [.int .u32 (gt l 0), .int .u32 (gt l 1), .int .u32 (gt l 2), .int .u32 (gt l 3), .int .u32 (gt l 4), .int .u32 (gt l 5), .int .u32 (gt l 6), .int .u32 (gt l 7)]
attribute [go_sem] e_arr185
def zv_185 : V := .agg [.int .u32 0, .int .u32 0, .int .u32 0, .int .u32 0, .int .u32 0, .int .u32 0, .int .u32 0, .int .u32 0]
attribute [go_sem] zv_185
def zv_40 : V := .agg (.int .u8 0 :: .int .u8 0 :: .int .u8 0 :: .int .u8 0 :: .int .u8 0 :: .int .u8 0 :: .int .u8 0 :: .int .u8 0 :: .int .u8 0 :: .int .u8 0 :: .int .u8 0 :: .int .u8 0 :: .int .u8 0 :: .int .u8 0 :: .int .u8 0 :: .int .u8 0 :: .int .u8 0 :: .int .u8 0 :: .int .u8 0 :: .int .u8 0 :: .int .u8 0 :: .int .u8 0 :: .int .u8 0 :: .int .u8 0 :: .int .u8 0 :: .int .u8 0 :: .int .u8 0 :: .int .u8 0 :: .int .u8 0 :: .int .u8 0 :: .int .u8 0 :: .int .u8 0 :: [])
attribute [go_sem] zv_40
def e_arr40 (l : (List Int)) : V := .agg (.int .u8 (gt l 0) :: .int .u8 (gt l 1) :: .int .u8 (gt l 2) :: .int .u8 (gt l 3) :: .int .u8 (gt l 4) :: .int .u8 (gt l 5) :: .int .u8 (gt l 6) :: .int .u8 (gt l 7) :: .int .u8 (gt l 8) :: .int .u8 (gt l 9) :: .int .u8 (gt l 10) :: .int .u8 (gt l 11) :: .int .u8 (gt l 12) :: .int .u8 (gt l 13) :: .int .u8 (gt l 14) :: .int .u8 (gt l 15) :: .int .u8 (gt l 16) :: .int .u8 (gt l 17) :: .int .u8 (gt l 18) :: .int .u8 (gt l 19) :: .int .u8 (gt l 20) :: .int .u8 (gt l 21) :: .int .u8 (gt l 22) :: .int .u8 (gt l 23) :: .int .u8 (gt l 24) :: .int .u8 (gt l 25) :: .int .u8 (gt l 26) :: .int .u8 (gt l 27) :: .int .u8 (gt l 28) :: .int .u8 (gt l 29) :: .int .u8 (gt l 30) :: .int .u8 (gt l 31) :: [])
attribute [go_sem] e_arr40
def e_api_Group (x : S_api_Group) : V := .agg [.int .i64 x.P, .int .i64 x.Q, .int .i64 x.G]
attribute [go_sem] e_api_Group
end Go.Proofs.YteolfhljhnplpaaGreatDoor
namespace Go.Proofs.YteolfhljhnplpaaGreatDoor
open Go.RowKit
theorem iter_find {C : Int → Bool} {n : Int} {F : (Int → Int) → Int → Int} (hF : ∀ ag p, F ag p = if p < n then (if C p = true then p else ag (p + 1)) else -1) {d : Int → Int} :
  ∀ (fuel : Nat) (i : Int), 0 ≤ i → (n - i).toNat < fuel → (iter fuel F d i = -1 ∧ ∀ j, i ≤ j → j < n → C j = false) ∨ (i ≤ iter fuel F d i ∧ iter fuel F d i < n ∧ C (iter fuel F d i) = true ∧ ∀ j, i ≤ j → j < iter fuel F d i → C j = false) := by
 intro fuel
 induction fuel with
 | zero => intro i _ h; omega
 | succ k ih =>
  intro i h0 h
  rw [iter, hF]
  by_cases hi : i < n
  ·rw [if_pos hi]
   by_cases hc : C i = true
   ·rw [if_pos hc]
    exact .inr ⟨Int.le_refl _, hi, hc, fun j h1 h2 => by omega⟩
   ·rw [if_neg hc]
    have hc' : C i = false := by simpa using hc
    rcases ih (i + 1) (by omega) (by omega) with ⟨h1, h2⟩ | ⟨h1, h2, h3, h4⟩
    ·refine .inl ⟨h1, fun j g1 g2 => ?_⟩
     by_cases e : j = i
     ·subst e; exact hc'
     ·exact h2 j (by omega) g2
    ·refine .inr ⟨by omega, h2, h3, fun j g1 g2 => ?_⟩
     by_cases e : j = i
     ·subst e; exact hc'
     ·exact h4 j (by omega) g2
  ·rw [if_neg hi]
   exact .inl ⟨rfl, fun j h1 h2 => by omega⟩
theorem gt_mem {α : Type} [Inhabited α] {l : List α} {i : Int} (h : i.toNat < l.length) : gt l i ∈ l := by
 simp [gt, List.getD_eq_getElem?_getD, h]
theorem iter_any {α : Type} [Inhabited α] {l : List α} {C : α → Bool} {F : (Int → Int) → Int → Int} {d : Int → Int}
  (hF : ∀ ag p, F ag p = if decide (p < (l.length : Int)) = true then (if C (gt l p) = true then p else ag (p + 1)) else -1) :
  decide (iter (((l.length : Int) - 0).toNat + 1) F d 0 ≥ 0) = l.any C := by
 have hg : ∀ (j : Int), 0 ≤ j → j < l.length → gt l j ∈ l := fun j h0 h1 => gt_mem (by omega)
 rcases iter_find (C := fun p => C (gt l p)) (n := (l.length : Int)) (F := F) (d := d) (fun ag p => by rw [hF]; by_cases hp : p < (l.length : Int) <;> simp [hp]) (((l.length : Int) - 0).toNat + 1) 0 (by omega) (by omega) with ⟨h1, h2⟩ | ⟨h1, h2, h3, _⟩
 ·rw [h1]
  symm
  rw [show decide ((-1 : Int) ≥ 0) = false by decide, List.any_eq_false]
  intro x hx
  obtain ⟨i, hi, rfl⟩ := List.mem_iff_getElem.1 hx
  have := h2 (i : Int) (by omega) (by omega)
  simpa [gt, List.getD_eq_getElem?_getD, hi] using this
 ·rw [decide_eq_true h1]
  symm
  exact List.any_eq_true.2 ⟨_, hg _ h1 h2, h3⟩
theorem iter_rule {α R : Type} {P : α → Prop} {Q : R → Prop} {meas : α → Nat} {F : (α → R) → α → R} {d : α → R}
  (hs : ∀ ag p, P p → (∀ q, P q → meas q < meas p → Q (ag q)) → Q (F ag p)) : ∀ (fuel : Nat) (p : α), P p → meas p < fuel → Q (iter fuel F d p) := by
 intro fuel
 induction fuel with
 | zero => intro p _ h; omega
 | succ k ih =>
  intro p hp hm
  rw [iter]
  exact hs _ p hp fun q hq hlt => ih q hq (by omega)
def foldE {α σ R : Type} (st : α → σ → σ ⊕ R) (E : σ → R) : List α → σ → R
 | [], s => E s
 | a :: l, s => match st a s with
  | .inl s' => foldE st E l s'
  | .inr r => r
theorem iter_run_aux {α σ R : Type} [Inhabited α] {l : List α} {st : α → σ → σ ⊕ R} {E : σ → R} {F : (Int × σ → R) → Int × σ → R} {d : Int × σ → R}
  (hF : ∀ ag i s, F ag (i, s) = if i < (l.length : Int) then (match st (gt l i) s with | .inl s' => ag (i + 1, s') | .inr r => r) else E s) :
  ∀ (fuel k : Nat) (s : σ), k ≤ l.length → l.length - k < fuel → iter fuel F d ((k : Int), s) = foldE st E (l.drop k) s := by
 intro fuel
 induction fuel with
 | zero => intro k s _ h; omega
 | succ n ih =>
  intro k s hl h
  rw [iter, hF]
  by_cases hk : k < l.length
  ·rw [if_pos (by omega), List.drop_eq_getElem_cons hk]
   have hg : gt l (k : Int) = l[k] := by simp [gt, List.getD_eq_getElem?_getD, hk]
   rw [hg]
   simp only [foldE]
   cases st l[k] s with
   | inl s' =>
    have := ih (k + 1) s' (by omega) (by omega)
    rw [show ((k + 1 : Nat) : Int) = (k : Int) + 1 by omega] at this
    exact this
   | inr r => rfl
  ·obtain rfl : k = l.length := by omega
   rw [if_neg (by simp), List.drop_eq_nil_of_le (by omega)]; rfl
theorem iter_run {α σ R : Type} [Inhabited α] {l : List α} (st : α → σ → σ ⊕ R) (E : σ → R) {F : (Int × σ → R) → Int × σ → R} {d : Int × σ → R} {s : σ}
  (hF : ∀ ag i s, F ag (i, s) = if i < (l.length : Int) then (match st (gt l i) s with | .inl s' => ag (i + 1, s') | .inr r => r) else E s) :
  iter (((l.length : Int) - 0).toNat + 1) F d (0, s) = foldE st E l s := by
 have := iter_run_aux (d := d) hF (((l.length : Int) - 0).toNat + 1) 0 s (by omega) (by omega)
 simpa using this
theorem foldE_l {α σ R : Type} {g : α → σ → σ} {E : σ → R} : ∀ {l : List α} {s : σ}, foldE (fun a s => .inl (g a s)) E l s = E (l.foldl (fun s a => g a s) s)
 | [], _ => rfl
 | a :: l, s => by simp only [foldE, List.foldl_cons]; exact foldE_l
theorem arrF_full {α : Type} [Inhabited α] : ∀ {k : Nat} {i : Nat} {l : List α}, l.length = i + k → arrF l k i = l.drop i
 | 0, i, l, h => by simp [arrF, h]
 | k + 1, i, l, h => by
  have hi : i < l.length := by omega
  rw [List.drop_eq_getElem_cons hi]
  simp only [arrF]
  have := arrF_full (k := k) (i := i + 1) (l := l) (by omega)
  rw [show ((i + 1 : Nat) : Int) = (i : Int) + 1 by omega] at this
  rw [this]
  simp [gt, List.getD_eq_getElem?_getD, hi]
theorem arrN_full {α : Type} [Inhabited α] {l : List α} {n : Nat} (h : l.length = n) : arrN n l = l := by
 have := arrF_full (k := n) (i := 0) (l := l) (by omega)
 simpa [arrN] using this
theorem arrF_get {α : Type} [Inhabited α] {l : List α} : ∀ {k : Nat} {i j : Nat}, j < k → (arrF l k i).getD j default = gt l ((i + j : Nat) : Int)
 | k + 1, i, 0, _ => by simp [arrF]
 | k + 1, i, j + 1, h => by
  have := arrF_get (l := l) (k := k) (i := i + 1) (j := j) (by omega)
  simp only [arrF, List.getD_cons_succ]
  rw [show ((i : Int) + 1) = ((i + 1 : Nat) : Int) from rfl, this]
  congr 1; omega
theorem arr_get {α : Type} [Inhabited α] {f : α → V} {n : Nat} {l : List α} {i : Int} (h : 0 ≤ i ∧ i.toNat < n) : ((arrN n l).map f).getD (0 + i.toNat * 1) .un = f (gt l i) := by
 have h1 : (arrN n l).length = n := arrN_len
 have h2 := arrF_get (l := l) (k := n) (i := 0) (j := i.toNat) h.2
 have h3 : gt (arrN n l) i = gt l i := by
  rw [show gt (arrN n l) i = (arrF l n ((0 : Nat) : Int)).getD i.toNat default from rfl, h2]
  congr 1; omega
 rw [← h3]
 simp [gt, List.getD_eq_getElem?_getD, h1, h.2]
theorem arr_get1 {α : Type} [Inhabited α] {f : α → V} {n : Nat} {l : List α} {i : Int} (h : 0 ≤ i ∧ i.toNat < n) : ((arrN n l).map f).getD (i.toNat * 1) .un = f (gt l i) := by
 have := arr_get (f := f) (n := n) (l := l) (i := i) h
 rwa [Nat.zero_add] at this
theorem pp_get {α : Type} [Inhabited α] {f : α → V} {l : List α} {n : Nat} {i : Int} (hl : l.length = n) (h : 0 ≤ i ∧ i.toNat < n) : (l.map f).getD (i.toNat * 1) .un = f (gt l i) := by
 subst hl
 simp [gt, List.getD_eq_getElem?_getD, h.2]
theorem arr_put {α : Type} [Inhabited α] {f : α → V} {n : Nat} {l : List α} {i : Int} {v : α} (hl : l.length = n) (h : 0 ≤ i ∧ i.toNat < n) : (l.map f).take (0 + i.toNat * 1) ++ [f v] ++ (l.map f).drop (0 + i.toNat * 1 + 1) = (arrN n (st l i v)).map f := by
 rw [arrN_full (by rw [st_len]; exact hl)]
 unfold st
 rw [List.set_eq_take_append_cons_drop, if_pos (by omega)]
 simp [List.map_take, List.map_drop]
def remA {β : Type} (i : Nat) : List (Nat × β) → List (Nat × β)
 | [] => []
 | (k, b) :: l => if k = i then remA i l else (k, b) :: remA i l
attribute [go_sem] remA
theorem getA_remA {β : Type} {i t : Nat} {b : β} : ∀ {l : List (Nat × β)}, getA (remA i l) t = some b → t ≠ i ∧ getA l t = some b
 | [], h => by cases h
 | (k, x) :: l, h => by
  simp only [remA] at h
  split at h
  ·rename_i e
   obtain ⟨h1, h2⟩ := getA_remA h
   exact ⟨h1, by simp only [getA]; rw [if_neg (by omega)]; exact h2⟩
  ·rename_i e
   simp only [getA] at h ⊢
   split at h
   ·rename_i e2; exact ⟨by omega, by rw [if_pos e2]; exact h⟩
   ·rename_i e2
    obtain ⟨h1, h2⟩ := getA_remA h
    exact ⟨h1, by rw [if_neg e2]; exact h2⟩
theorem weak_ren {E : Env} {S : St} (t i j : Nat) {T n : Nat} {g : Bool} {z : Option Bool} {l : List V} (h : getA S.F t = some (.own j)) (h2 : getA S.H j = some (.own T n g z l)) (hi : i < S.nx) (hij : i ≠ j) :
  Weak E S ⟨(t, .own i) :: purgeF i S.F, (i, .own T n g z l) :: remA j (purgeH i S.H), S.nx⟩ := by
 intro c0 c ρ F hs
 obtain ⟨v, hv, hown, hge, hone, a, cap, es, hz⟩ := hs.1.heap _ _ h2
 have hro : ∀ k, k ≠ i → roSet ρ i v k = ρ k := fun k hk => roSet_ne hk
 have hbi : blkOf (roSet ρ i v) i = blkOf ρ j := by unfold blkOf; rw [roSet_same, hv]
 have hbk : ∀ k, k ≠ i → blkOf (roSet ρ i v) k = blkOf ρ k := fun k hk => by unfold blkOf; rw [hro k hk]
 have hold : ∀ k b, i ≠ k → getA (remA j (purgeH i S.H)) k = some b → k ≠ j ∧ ∃ b0, getA S.H k = some b0 ∧ b = purgeB i b0 := by
  intro k b hk hb
  obtain ⟨h3, h4⟩ := getA_remA hb
  rw [getA_purgeH] at h4
  cases h5 : getA S.H k with
  | none => rw [h5] at h4; cases h4
  | some b0 => rw [h5] at h4; cases h4; exact ⟨h3, b0, rfl, rfl⟩
 refine ⟨c, roSet ρ i v, rfl, ⟨hs.1.since, hs.1.gl, fun t' x ht => ?_, ?_, ?_⟩, fun k hk => ?_⟩
 ·simp only [getA] at ht
  split at ht
  ·rename_i e; subst e; cases ht
   have h3 := hs.1.slot _ _ h
   simp only [rd] at h3 ⊢
   rw [hv] at h3
   exact ⟨by rw [roSet_same]; exact h3.1, h3.2⟩
  ·rw [getA_purgeF] at ht
   cases h5 : getA S.F t' with
   | none => rw [h5] at ht; cases ht
   | some y => rw [h5] at ht; cases ht; exact purge_rd hro (hs.1.slot _ _ h5)
 ·intro k b hb
  simp only [getA] at hb
  split at hb
  ·rename_i e; subst e; cases hb
   exact ⟨v, roSet_same, hown, hge, hone, a, cap, es, hz⟩
  ·rename_i hk
   obtain ⟨_, b0, h6, rfl⟩ := hold k b hk hb
   exact purgeB_ok hro (Ne.symm hk) (hs.1.heap _ _ h6)
 ·intro x y bx bb k hxy hx hy hpx hpy hbx
  simp only [getA] at hx hy
  split at hx
  ·rename_i e; subst e
   rw [if_neg hxy] at hy
   obtain ⟨hyj, b0, h6, rfl⟩ := hold y bb hxy hy
   rw [privB_purge] at hpy
   rw [hbk y (Ne.symm hxy)]
   rw [hbi] at hbx
   exact hs.1.sep j y _ b0 k (Ne.symm hyj) h2 h6 rfl hpy hbx
  ·rename_i hix
   obtain ⟨hxj, b0, h6, rfl⟩ := hold x bx hix hx
   rw [privB_purge] at hpx
   rw [hbk x (Ne.symm hix)] at hbx
   split at hy
   ·rename_i e; subst e
    rw [hbi]
    exact hs.1.sep x j b0 _ k hxj h6 h2 hpx rfl hbx
   ·rename_i hiy
    obtain ⟨hyj, b1, h7, rfl⟩ := hold y bb hiy hy
    rw [privB_purge] at hpy
    rw [hbk y (Ne.symm hiy)]
    exact hs.1.sep x y b0 b1 k hxy h6 h7 hpx hpy hbx
 ·have hk' : S.nx ≤ k := hk
  rw [hro k (by omega)]; exact hs.2 k hk
end Go.Proofs.YteolfhljhnplpaaGreatDoor
namespace Go.Proofs.YteolfhljhnplpaaGreatDoor
open Go.RowKit
set_option linter.unusedVariables false
set_option linter.unusedSimpArgs false
def be : Nat → Int → List Int
 | 0, _ => []
 | k + 1, n => be k (n / 256) ++ [n % 256]
def isB (l : List Int) : Prop := ∀ x ∈ l, 0 ≤ x ∧ x ≤ 255
theorem be_len : ∀ {k : Nat} {n : Int}, (be k n).length = k
 | 0, _ => rfl
 | k + 1, n => by simp [be, be_len (k := k)]
theorem be_isB : ∀ {k : Nat} {n : Int}, isB (be k n)
 | 0, _ => by simp [isB, be]
 | k + 1, n => by
  intro x hx
  simp only [be, List.mem_append, List.mem_singleton] at hx
  rcases hx with hx | rfl
  ·exact be_isB x hx
  ·omega
theorem mod_step (n m : Int) (h : 0 < m) : n % (256 * m) = 256 * (n / 256 % m) + n % 256 := by
 have h1 := Int.mul_ediv_add_emod n 256
 have h2 := Int.mul_ediv_add_emod (n / 256) m
 have h3 := Int.emod_nonneg (n / 256) (show m ≠ 0 by omega)
 have h4 := Int.emod_lt_of_pos (n / 256) h
 generalize n / 256 % m = s at *
 generalize hq : n / 256 / m = t at *
 have e : n = (256 * s + n % 256) + 256 * m * t := by
  have : 256 * m * t = 256 * (m * t) := by rw [Int.mul_assoc]
  omega
 have e2 : n % (256 * m) = (256 * s + n % 256) % (256 * m) := by
  conv => lhs; rw [e]
  rw [Int.add_mul_emod_self_left]
 rw [e2]
 exact Int.emod_eq_of_lt (by omega) (by omega)
theorem be_mod : ∀ {k : Nat} {n m : Int}, n % 256 ^ k = m % 256 ^ k → be k n = be k m
 | 0, _, _, _ => rfl
 | k + 1, n, m, h => by
  have hp : (0 : Int) < 256 ^ k := Int.pow_pos (by omega)
  rw [show (256 : Int) ^ (k + 1) = 256 * 256 ^ k by rw [Int.pow_succ, Int.mul_comm], mod_step _ _ hp, mod_step _ _ hp] at h
  have h1 := Int.emod_nonneg (n / 256) (show (256 : Int) ^ k ≠ 0 by omega)
  have h2 := Int.emod_nonneg (m / 256) (show (256 : Int) ^ k ≠ 0 by omega)
  simp only [be]
  rw [show n % 256 = m % 256 by omega, be_mod (k := k) (show n / 256 % 256 ^ k = m / 256 % 256 ^ k by omega)]
mutual
def hgt : S_api_Item → Nat
 | ⟨_, _, b, l⟩ => 1 + b.length + hgtL l
def hgtL : List S_api_Item → Nat
 | [] => 0
 | x :: l => hgt x + hgtL l
end
theorem hgt_mem : ∀ {l : List S_api_Item} {x : S_api_Item}, x ∈ l → hgt x ≤ hgtL l
 | y :: l, x, h => by
  simp only [hgtL]
  rcases List.mem_cons.1 h with rfl | h
  ·omega
  ·have := hgt_mem h; omega
theorem hgt_eq (i : S_api_Item) : hgt i = 1 + i.B.length + hgtL i.L := by cases i; rfl
theorem hgt_L {i x : S_api_Item} (h : x ∈ i.L) : hgt x < hgt i := by
 have := hgt_mem h
 rw [hgt_eq i]; omega
mutual
def withinM : S_api_Item → Int → Bool
 | ⟨k, n, b, l⟩, d => if k == 1 then b.isEmpty && l.isEmpty else if k == 2 then n == 0 && l.isEmpty else if k == 3 then n == 0 && (b.isEmpty && (decide (0 < d) && (decide (l.length ≤ 1000) && withinL l (d - 1)))) else false
def withinL : List S_api_Item → Int → Bool
 | [], _ => true
 | x :: l, d => withinM x d && withinL l d
end
theorem withinL_all : ∀ {l : List S_api_Item} {d : Int}, withinL l d = l.all (fun x => withinM x d)
 | [], _ => rfl
 | x :: l, d => by simp only [withinL, List.all_cons, withinL_all (l := l)]
mutual
def encI : S_api_Item → List Int
 | ⟨k, n, b, l⟩ => if k == 1 then 1 :: be 8 n else if k == 2 then 2 :: (be 4 b.length ++ b) else 3 :: (be 4 l.length ++ encL l)
def encL : List S_api_Item → List Int
 | [] => []
 | x :: l => encI x ++ encL l
end
mutual
def okI : S_api_Item → Prop
 | ⟨_, n, b, l⟩ => (-9223372036854775808 ≤ n ∧ n ≤ 9223372036854775807) ∧ isB b ∧ b.length < 4294967296 ∧ okL l
def okL : List S_api_Item → Prop
 | [] => True
 | x :: l => okI x ∧ okL l
end
theorem wrap_u64 {a : Int} (h0 : 0 ≤ a) (h1 : a < 18446744073709551616) : IntKind.wrap .u64 a = a := by
 simp only [IntKind.wrap, IntKind.bits, IntKind.signed]; simp; omega
theorem isB_wf : ∀ {l : List Int}, wfL (l.map (V.int .u8)) → isB l
 | [], _ => by simp [isB]
 | a :: l, h => by
  simp only [List.map_cons, wfL, wfV, rng_u8] at h
  intro x hx
  rcases List.mem_cons.1 hx with rfl | hx
  ·exact h.1
  ·exact isB_wf h.2 x hx
mutual
def writeM : List Int → S_api_Item → List Int
 | out, ⟨k, n, b, l⟩ => if out.length > 16384 then out else if k == 1 then out ++ (1 :: be 8 n) else if k == 2 then out ++ (2 :: be 4 b.length) ++ b else writeL (out ++ (k % 256 :: be 4 l.length)) l
def writeL : List Int → List S_api_Item → List Int
 | out, [] => out
 | out, x :: l => writeL (writeM out x) l
end
theorem writeM_long {out : List Int} (h : 16384 < out.length) (i : S_api_Item) : writeM out i = out := by
 cases i; simp only [writeM]; rw [if_pos h]
theorem writeL_long : ∀ {l : List S_api_Item} {out : List Int}, 16384 < out.length → writeL out l = out
 | [], _, _ => rfl
 | x :: l, out, h => by simp only [writeL]; rw [writeM_long h]; exact writeL_long h
mutual
theorem writeM_enc : ∀ (i : S_api_Item) (out : List Int) (d : Int), withinM i d = true → writeM out i = out ++ encI i ∨ (16384 < (writeM out i).length ∧ 16384 < (out ++ encI i).length)
 | ⟨k, n, b, l⟩, out, d, h => by
  by_cases hl : out.length > 16384
  ·refine .inr ⟨?_, by simp; omega⟩
   rw [writeM_long hl]; exact hl
  simp only [writeM, if_neg hl, encI]
  simp only [withinM] at h
  by_cases e1 : k = 1
  ·subst e1; simp
  by_cases e2 : k = 2
  ·subst e2; simp
  by_cases e3 : k = 3
  ·subst e3
   simp at h
   have := writeL_enc l (out ++ (3 :: be 4 l.length)) (d - 1) h.2.2.2.2
   simpa using this
  ·simp [e1, e2, e3] at h
theorem writeL_enc : ∀ (l : List S_api_Item) (out : List Int) (d : Int), withinL l d = true → writeL out l = out ++ encL l ∨ (16384 < (writeL out l).length ∧ 16384 < (out ++ encL l).length)
 | [], out, d, _ => .inl (by simp [writeL, encL])
 | x :: l, out, d, h => by
  simp only [withinL, Bool.and_eq_true] at h
  simp only [writeL, encL]
  rcases writeM_enc x out d h.1 with e | ⟨e1, e2⟩
  ·rw [e]
   have := writeL_enc l (out ++ encI x) d h.2
   simpa using this
  ·refine .inr ⟨by rw [writeL_long e1]; exact e1, ?_⟩
   simp at e2 ⊢; omega
end
end Go.Proofs.YteolfhljhnplpaaGreatDoor
namespace Go.Proofs.YteolfhljhnplpaaGreatDoor
open Go.RowKit
end Go.Proofs.YteolfhljhnplpaaGreatDoor
namespace Go.Proofs.YteolfhljhnplpaaGreatDoor
open Go.RowKit
set_option linter.unusedVariables false
set_option linter.unusedSimpArgs false
def firstGr (f : Int → Int) : Nat → Int → Int
 | 0, _ => 0
 | n + 1, i => if f i > 1 then f i else firstGr f n (i + 1)
def segK (Q : St → Prop) : Exit → St → Prop
 | .ret, S => Q S
 | _, _ => False
def SegOk (E : Env) (n : Nat) (code : Code) (ws : List V) (Q : St → Prop) : Prop := slotsC n code = true ∧ (wfL ws → wpA E noJ code (segK Q) ⟨slotsA 0 ws, [], 0⟩)
theorem enterS {E : Env} {n : Nat} {code : Code} {ws : List V} {Q : St → Prop} (hs : slotsC n code = true) (h : wfL ws → wpA E noJ code (segK Q) ⟨slotsA 0 ws, [], 0⟩) : SegOk E n code ws Q := ⟨hs, h⟩
theorem seg_end {Q : St → Prop} {S : St} (h : Q S) : segK Q .ret S := h
end Go.Proofs.YteolfhljhnplpaaGreatDoor
