/- Texts of this proof, one after the other: VO, VS, VA, T. -/
import Derived.Test.YtbfeamknaiaghaaDoorZ3
set_option linter.unusedVariables false
set_option linter.unusedSimpArgs false
namespace Go.Proofs.YtbfeamknaiaghaaDoor
open Go.RowKit
section
variable {E : Env} {J : Cuts} {k : List Ct} {S S1 S2 : St} {c0 c : Cx} {ρ : Ro} {F : Fm}
def pubV : Option Blk → V
 | some (.pown n g z l) => .sl z n g l
 | _ => .un
def pubP (off : Nat) : Option Blk → V
 | some (.pvar n g d) => if off = 0 then .pp n g d else .un
 | _ => .un
mutual
def gview (H : List (Nat × Blk)) : V → V
 | .own i => pubV (getA H i)
 | .ptr i o => pubP o (getA H i)
 | .optr _ _ _ _ => .un
 | .osub _ _ _ _ => .un
 | .agg l => .agg (gviewL H l)
 | .tup l => .tup (gviewL H l)
 | .fn f l => .fn f (gviewL H l)
 | v => v
def gviewL (H : List (Nat × Blk)) : List V → List V
 | [] => []
 | d :: l => gview H d :: gviewL H l
end
mutual
theorem gview_rd (h : Sim E c0 c ρ S F) : ∀ {d : V} {v : Value}, rd ρ c d v → rd ro0 c (gview S.H d) v
 | .int _ _, _, hr => hr
 | .bool _, _, hr => hr
 | .ifc _, _, hr => hr
 | .str _, _, hr => hr
 | .agg l, v, hr => by
  simp only [rd, gview] at hr ⊢
  obtain ⟨cs, e, hr⟩ := hr
  exact ⟨cs, e, gview_rdC h hr⟩
 | .sl z n g l, v, hr => hr
 | .pp n g d, v, hr => hr
 | .own i, v, hr => by
  simp only [rd] at hr
  simp only [gview]
  cases hb : getA S.H i with
  | none => trivial
  | some b =>
   cases b with
   | pown n g z l =>
    obtain ⟨v', h1, h2⟩ := h.heap _ _ hb
    rw [hr.1] at h1; cases h1
    exact h2
   | _ => trivial
 | .ptr i o, v, hr => by
  simp only [rd] at hr
  simp only [gview]
  obtain ⟨b0, hb0, he⟩ := hr
  cases hb : getA S.H i with
  | none => trivial
  | some b =>
   cases b with
   | pvar n g d =>
    obtain ⟨b', h1, h2⟩ := h.heap _ _ hb
    rw [hb0] at h1; cases h1
    simp only [pubP]
    split
    ·rename_i e; subst e; subst he
     exact rd_pp.2 h2
    ·trivial
   | _ => trivial
 | .optr _ _ _ _, _, _ => trivial
 | .osub _ _ _ _, _, _ => trivial
 | .tup l, v, hr => by
  simp only [rd, gview] at hr ⊢
  obtain ⟨cs, e, hr⟩ := hr
  exact ⟨cs, e, gview_rdT h hr⟩
 | .fn f l, v, hr => by
  simp only [rd, gview] at hr ⊢
  obtain ⟨cs, e, hr⟩ := hr
  exact ⟨cs, e, gview_rdT h hr⟩
 | .opq p, v, hr => hr
 | .un, _, _ => trivial
theorem gview_rdC (h : Sim E c0 c ρ S F) : ∀ {l : List V} {cs : List Value}, rdC ρ c l cs → rdC ro0 c (gviewL S.H l) cs
 | [], _, hr => hr
 | d :: l, cs, hr => by
  simp only [rdC, gviewL] at hr ⊢
  obtain ⟨u, c2, e, h1, h2, h3⟩ := hr
  exact ⟨u, c2, e, h1, gview_rd h h2, gview_rdC h h3⟩
theorem gview_rdT (h : Sim E c0 c ρ S F) : ∀ {l : List V} {cs : List Value}, rdT ρ c l cs → rdT ro0 c (gviewL S.H l) cs
 | [], _, hr => hr
 | d :: l, cs, hr => by
  simp only [rdT, gviewL] at hr ⊢
  obtain ⟨u, c2, e, h2, h3⟩ := hr
  exact ⟨u, c2, e, gview_rd h h2, gview_rdT h h3⟩
end
theorem give_gview {vs ws : List V} (hm : mtL (gviewL S.H vs) ws) : giveOk E S vs S ws :=
 fun _ c ρ _ _ h hr => ⟨c, ρ, rfl, Cx.pub.refl _, h, mt_rdT hm (gview_rdT h.1 hr)⟩
def WeakP (E : Env) (S S1 : St) : Prop := ∀ c0 c ρ F, SimN E c0 c ρ S F → ∃ c1, c1.w = c.w ∧ c.pub c1 ∧ SimN E c0 c1 ρ S1 F
theorem WeakP.trans (h : WeakP E S S1) (h' : WeakP E S1 S2) : WeakP E S S2 := by
 intro c0 c ρ F hs
 obtain ⟨c1, e, p1, h1⟩ := h c0 c ρ F hs
 obtain ⟨c2, e2, p2, h2⟩ := h' c0 c1 ρ F h1
 exact ⟨c2, e2.trans e, p1.trans p2, h2⟩
def WeakQ (E : Env) (S S1 : St) : Prop := ∀ c0 c ρ F, SimN E c0 c ρ S F → ∃ c1 ρ1, c1.w = c.w ∧ c.pub c1 ∧ roLe ρ ρ1 ∧ SimN E c0 c1 ρ1 S1 F
theorem WeakQ.trans (h : WeakQ E S S1) (h' : WeakQ E S1 S2) : WeakQ E S S2 := by
 intro c0 c ρ F hs
 obtain ⟨c1, ρ1, e, p1, r1, h1⟩ := h c0 c ρ F hs
 obtain ⟨c2, ρ2, e2, p2, r2, h2⟩ := h' c0 c1 ρ1 F h1
 exact ⟨c2, ρ2, e2.trans e, p1.trans p2, fun i v hi => r2 i v (r1 i v hi), h2⟩
theorem give_weak {vs ws : List V} (h : WeakP E S S1) (hg : giveOk E S1 vs S2 ws) : giveOk E S vs S2 ws := by
 intro c0 c ρ F us hs hr
 obtain ⟨c1, e, p1, h1⟩ := h c0 c ρ F hs
 obtain ⟨c2, ρ2, e2, p2, h2, h3⟩ := hg c0 c1 ρ F us h1 (rdT_mono p1 hr)
 exact ⟨c2, ρ2, e2.trans e, p1.trans p2, h2, h3⟩
theorem callC_giveP {f : FuncId} {caps vs : List V} {d : Option Nat} {ws : List V} {r : V} {H : List Blk} (hc : CallOk E f ws r H) (hw : WeakP E S S1) (hm : mtL (gviewL S1.H (vs ++ caps)) ws) (h : wfV r → cont E J k .normal (S1.after d r H)) : callC E J (some (.fn f caps)) (some vs) S d k :=
 .inl ⟨ws, r, H, hc, .inl ⟨S1, give_weak hw (give_gview hm), h⟩⟩
theorem weakP_pub (i : Nat) {T n : Nat} {g : Bool} {z : Option Bool} {l : List V} (h : getA S.H i = some (.own T n g z l)) : WeakP E S ⟨S.F, setA S.H i (.pown n g z l), S.nx⟩ := by
 intro c0 c ρ F hs
 obtain ⟨v, hv, hown, hge, hone, a, cap, es, hz⟩ := hs.1.heap _ _ h
 obtain ⟨c1, ρ1, e, h1⟩ := weak_pub i h c0 c ρ F hs
 have hpd := c.pub_dropv v
 have hbo : blkOf ρ i = blk v := by unfold blkOf; rw [hv, es]
 have hsep : ∀ j b, i ≠ j → getA S.H j = some b → privB b = true → ∀ x, blkOf ρ j = some x → blk v ≠ some x := by
  intro j b hij hb hp x hx hx'
  exact hs.1.sep i j _ b x hij h hb rfl hp (hbo ▸ hx') hx
 refine ⟨c.dropv v, rfl, hpd, ⟨hs.1.since.dropv hge, hs.1.gl.mono hpd, fun t x ht => rd_mono hpd (hs.1.slot t x ht), ?_, ?_⟩, hs.2⟩
 ·intro j b hb
  simp only [getA_setA] at hb
  split at hb
  ·rename_i e; subst e; cases hb
   refine ⟨v, hv, ?_⟩
   obtain ⟨a', cap', e1, h1, h2⟩ := slice_val.1 hown.val
   rw [es] at e1; cases e1
   exact rd_sl.2 ⟨a, cap, es, h1, hz, h2⟩
  ·rename_i hij
   have hb0 := hs.1.heap _ _ hb
   have hsp := hsep j b hij hb
   cases b with
   | var n' g' d =>
    obtain ⟨b', h1, h2, h3⟩ := hb0
    exact ⟨b', h1, h2, Cx.dropv_var h3 (hsp rfl b' (by simp [blkOf, h1]))⟩
   | own E' n' g' z' l' =>
    obtain ⟨v', h1, h2, h3, h4, a', cap', e', h5⟩ := hb0
    exact ⟨v', h1, Cx.dropv_own h2 (fun x hx => hsp rfl x (by unfold blkOf; rw [h1, e']; rw [e'] at hx; exact hx)), h3, h4, a', cap', e', h5⟩
   | ownI E' n' g' z' l' =>
    obtain ⟨v', h1, h2, h3, h4, a', cap', e', h5⟩ := hb0
    exact ⟨v', h1, Cx.dropv_own h2 (fun x hx => hsp rfl x (by unfold blkOf; rw [h1, e']; rw [e'] at hx; exact hx)), h3, h4, a', cap', e', h5⟩
   | pvar n' g' d =>
    obtain ⟨b', h1, h2⟩ := hb0
    exact ⟨b', h1, (rvPt _).mono h2 hpd⟩
   | pown n' g' z' l' =>
    obtain ⟨v', h1, h2⟩ := hb0
    exact ⟨v', h1, rd_mono hpd h2⟩
   | lent k' n' g' d =>
    obtain ⟨h1, h2, h3⟩ := hb0
    exact ⟨h1, h2, Cx.dropv_var h3 (hsp rfl k' (by simp [blkOf, h1]))⟩
   | kset g' k' n' l' =>
    obtain ⟨r, h1, h2, h3⟩ := hb0
    exact ⟨r, h1, h2, Cx.dropv_set h3 (hsp rfl r (by simp [blkOf, h1, blk]))⟩
 ·intro a b ba bb x hab ha hb hpa hpb hx
  simp only [getA_setA] at ha hb
  split at ha
  ·cases ha; cases hpa
  ·split at hb
   ·cases hb; cases hpb
   ·exact hs.1.sep a b ba bb x hab ha hb hpa hpb hx
def posN : List Nat → Nat → Nat → Option Nat
 | [], _, _ => none
 | j :: l, i, k => if j = i then some k else posN l i (k + 1)
def ownAt (H : List (Nat × Blk)) (i : Nat) : Option Nat → V
 | some k => .own k
 | none => ownV (getA H i)
mutual
def viewO (H : List (Nat × Blk)) (ids : List Nat) : V → V
 | .own i => ownAt H i (posN ids i 0)
 | .ptr _ _ => .un
 | .optr _ _ _ _ => .un
 | .osub _ _ _ _ => .un
 | .agg l => .agg (viewOL H ids l)
 | .tup l => .tup (viewOL H ids l)
 | .fn f l => .fn f (viewOL H ids l)
 | v => v
def viewOL (H : List (Nat × Blk)) (ids : List Nat) : List V → List V
 | [] => []
 | d :: l => viewO H ids d :: viewOL H ids l
end
def ownsL (H : List (Nat × Blk)) : List Nat → List Blk → Prop
 | [], [] => True
 | i :: ids, b :: bs => getA H i = some b ∧ (match b with | .own _ _ _ _ _ => True | _ => False) ∧ ownsL H ids bs
 | _, _ => False
end
attribute [go_sem] gview gviewL pubV pubP ownsL viewO viewOL posN ownAt
theorem CallOk.pub {E : Env} {f : FuncId} {ws : List V} {T n : Nat} {g : Bool} {z : Option Bool} {l : List V} (h : CallOk E f ws (.own 0) [.own T n g z l]) : CallOk E f ws (.sl z n g l) [] := by
 refine ⟨h.1, fun c us hY hg hus => (h.2 c us hY hg hus).mono ?_⟩
 rintro e w' ⟨v, c', ρ, rfl, rfl, hle, hrd, hH⟩
 obtain ⟨v', hv, hown, hge, hone, a, cap, es, hz⟩ := (hH.1 0 _ rfl).2
 have e : v = v' := by
  simp only [rd] at hrd
  rw [hv] at hrd
  exact (Option.some.inj hrd.1).symm
 subst e
 refine ⟨v, c'.dropv v, ro0, rfl, rfl, le_dropv hle (fun g hg => Cx.mine_of hY (hge g hg)), ?_, fun i b hb => by simp at hb, fun _ _ => rfl, fun i j bi bj k _ hb => by simp at hb⟩
 obtain ⟨a', cap', e1, h1, h2⟩ := slice_val.1 hown.val
 rw [es] at e1; cases e1
 exact rd_sl.2 ⟨a, cap, es, h1, hz, h2⟩
end Go.Proofs.YtbfeamknaiaghaaDoor
namespace Go.Proofs.YtbfeamknaiaghaaDoor
open Go.RowKit
@[go_sem] theorem app_cons {α : Type} {a : α} {l m : List α} : List.append (a :: l) m = a :: List.append l m := Eq.trans rfl rfl
@[go_sem] theorem app_nil {α : Type} {m : List α} : List.append [] m = m := Eq.trans rfl rfl
attribute [go_sem] Int.cast_ofNat_Int
@[go_sem] theorem lit_len {l : List UInt8} : (l.toArray.size ≤ LEN) = (l.length ≤ 1073741824) := by rw [List.size_toArray]; rfl
theorem spQ {P Q : Prop} (h : Q) (e : P = Q := by (simp only [go_sem, rowV_eq, rowV_eq0, List.length_replicate, rep_len, Int.toNat_natCast, ↓reduceIte, Nat.reduceEqDiff, Nat.reduceAdd, Int.reduceAdd, Nat.reduceMul, Nat.reduceLeDiff, Nat.reduceLT, Int.reduceLE, Int.reduceLT, Int.reduceNeg, Int.reduceToNat]; rfl)) : P := e ▸ h
theorem spQA {A P Q : Prop} (a : A) (h : Q) (e : A → P = Q := by (intro hA; simp only [go_sem, rowV_eq, rowV_eq0, List.length_replicate, rep_len, Int.toNat_natCast, ↓reduceIte, Nat.reduceEqDiff, Nat.reduceAdd, Int.reduceAdd, Nat.reduceMul, Nat.reduceLeDiff, Nat.reduceLT, Int.reduceLE, Int.reduceLT, Int.reduceNeg, Int.reduceToNat, hA]; rfl)) : P := e a ▸ h
theorem clQ {P : Prop} (h : P := by (simp only [go_sem, rowV_eq, rowV_eq0, List.length_replicate, rep_len, Int.toNat_natCast, ↓reduceIte, Nat.reduceEqDiff, Nat.reduceAdd, Int.reduceAdd, Nat.reduceMul, Nat.reduceLeDiff, Nat.reduceLT, Int.reduceLE, Int.reduceLT, Int.reduceNeg, Int.reduceToNat, gt_cons0, gt_conss, Int.reduceSub, or_self, or_true, true_or] <;> fail)) : P := h
theorem clQA {A P : Prop} (a : A) (h : A → P := by (intro hA; simp only [go_sem, rowV_eq, rowV_eq0, List.length_replicate, rep_len, Int.toNat_natCast, ↓reduceIte, Nat.reduceEqDiff, Nat.reduceAdd, Int.reduceAdd, Nat.reduceMul, Nat.reduceLeDiff, Nat.reduceLT, Int.reduceLE, Int.reduceLT, Int.reduceNeg, Int.reduceToNat, gt_cons0, gt_conss, Int.reduceSub, or_self, or_true, true_or, hA] <;> fail)) : P := h a
theorem lfQ {P : Prop} (h : P := by (simp only [go_sem, rowV_eq, rowV_eq0, List.length_replicate, rep_len, Int.toNat_natCast, ↓reduceIte, Nat.reduceEqDiff, Nat.reduceAdd, Int.reduceAdd, Nat.reduceMul, Nat.reduceLeDiff, Nat.reduceLT, Int.reduceLE, Int.reduceLT, Int.reduceNeg, Int.reduceToNat, gt_cons0, gt_conss, Int.reduceSub, or_self, or_true, true_or] <;> fail)) : P := h
theorem lfQA {A P : Prop} (a : A) (h : A → P := by (intro hA; simp only [go_sem, rowV_eq, rowV_eq0, List.length_replicate, rep_len, Int.toNat_natCast, ↓reduceIte, Nat.reduceEqDiff, Nat.reduceAdd, Int.reduceAdd, Nat.reduceMul, Nat.reduceLeDiff, Nat.reduceLT, Int.reduceLE, Int.reduceLT, Int.reduceNeg, Int.reduceToNat, gt_cons0, gt_conss, Int.reduceSub, or_self, or_true, true_or, hA] <;> fail)) : P := h a
theorem sbQ {P : Prop} (h : P := by (simp only [go_sem, rowV_eq, rowV_eq0, List.length_replicate, rep_len, Int.toNat_natCast, ↓reduceIte, Nat.reduceEqDiff, Nat.reduceAdd, Int.reduceAdd, Nat.reduceMul, Nat.reduceLeDiff, Nat.reduceLT, Int.reduceLE, Int.reduceLT, Int.reduceNeg, Int.reduceToNat, map_st, mtL_repE, mtL_repM, subF, subH, mtO, mtB, mt, mtL, mtL_self, mt_self, ltV, ltL, ltB, eq_self, or_true, true_or, or_self, and_self] <;> fail)) : P := h
theorem sbQA {A P : Prop} (a : A) (h : A → P := by (intro hA; simp only [go_sem, rowV_eq, rowV_eq0, List.length_replicate, rep_len, Int.toNat_natCast, ↓reduceIte, Nat.reduceEqDiff, Nat.reduceAdd, Int.reduceAdd, Nat.reduceMul, Nat.reduceLeDiff, Nat.reduceLT, Int.reduceLE, Int.reduceLT, Int.reduceNeg, Int.reduceToNat, map_st, mtL_repE, mtL_repM, subF, subH, mtO, mtB, mt, mtL, mtL_self, mt_self, ltV, ltL, ltB, eq_self, or_true, true_or, or_self, and_self, hA] <;> fail)) : P := h a
theorem alQ {P : Prop} (h : P := by first | (simp only [go_sem, rowV_eq, rowV_eq0, List.length_replicate, rep_len, Int.toNat_natCast, ↓reduceIte, Nat.reduceEqDiff, Nat.reduceAdd, Int.reduceAdd, Nat.reduceMul, Nat.reduceLeDiff, Nat.reduceLT, Int.reduceLE, Int.reduceLT, Int.reduceNeg, Int.reduceToNat, List.all_nil, List.all_cons]; done) | rfl) : P := h
theorem stQ {P : Prop} (h : P := by simp only [go_sem, rowV_eq, rowV_eq0, List.length_replicate, rep_len, Int.toNat_natCast, ↓reduceIte, Nat.reduceEqDiff, Nat.reduceAdd, Int.reduceAdd, Nat.reduceMul, Nat.reduceLeDiff, Nat.reduceLT, Int.reduceLE, Int.reduceLT, Int.reduceNeg, Int.reduceToNat, map_st]) : P := h
theorem nzQ {P Q : Prop} (h : P) (e : P = Q := by first | (simp only [decide_eq_true_eq, decide_eq_false_iff_not, Bool.and_eq_true, Bool.or_eq_true, Bool.not_eq_true', Bool.not_eq_false', beq_iff_eq, bne_iff_ne, beq_eq_false_iff_ne, bne_eq_false_iff_eq, ne_eq, Int.not_lt, Int.not_le, gt_iff_lt, ge_iff_le, List.length_map, wfL, wfV, and_true, true_and, LEN_eq, rng_i64, rng_u64, rng_u32, rng_i32, sl_len, st_len, List.length_append, List.length_cons, List.length_nil, List.length_replicate, rep_len, rowV_len, spl_len, cutN_len, arrN_len, nat8_len, remI_nn]; rfl) | rfl) : Q := e ▸ h
theorem omQ {P : Prop} (h : P := by (clear hM; (try simp only [List.length_map, List.length_set, sl_len, st_len, List.length_append, List.length_cons, List.length_nil, List.length_replicate, rep_len, rowV_len, spl_len, cutN_len, arrN_len, nat8_len, decide_eq_true_eq]) <;> omega)) : P := h
theorem omQ' {P : Prop} (h : P := by ((try simp only [List.length_map, List.length_set, sl_len, st_len, List.length_append, List.length_cons, List.length_nil, List.length_replicate, rep_len, rowV_len, spl_len, cutN_len, arrN_len, nat8_len, decide_eq_true_eq]) <;> omega)) : P := h
theorem pfQ {P : Prop} (h : P := by (clear hM; first | omega | (simp only [decide_eq_true_eq, decide_eq_false_iff_not, Bool.and_eq_true, Bool.or_eq_true, Bool.not_eq_true', Bool.not_eq_false', beq_iff_eq, bne_iff_ne, beq_eq_false_iff_ne, bne_eq_false_iff_eq, ne_eq, Int.not_lt, Int.not_le, gt_iff_lt, ge_iff_le, List.length_map, wfL, wfV, and_true, true_and, LEN_eq, rng_i64, rng_u64, rng_u32, rng_i32, sl_len, st_len, List.length_append, List.length_cons, List.length_nil, List.length_replicate, rep_len, rowV_len, spl_len, cutN_len, arrN_len, nat8_len, remI_nn] at *; omega))) : P := h
end Go.Proofs.YtbfeamknaiaghaaDoor
namespace Go.Proofs.YtbfeamknaiaghaaDoor
open Go.RowKit
class CM (E : outParam Env) {α : Type} (m : α) (f : outParam FuncId) (ws : outParam (List V)) (R : outParam (α → V)) (Hs : outParam (α → List Blk)) : Prop where
  ok : CallOk E f ws (R m) (Hs m)
class DRD (id : Nat) (n m : outParam Nat) (wr : outParam (List Nat)) (wl : outParam (List (Nat × Nat))) (need : outParam (List (List Nat))) (ub : outParam (List (Nat × Nat))) : Prop where
  ok : True
class CF {α : Type} (m : α) (P : outParam (α → Prop)) : Prop where
  ok : P m
theorem cfU {α : Type} {x m : α} {P : α → Prop} (hx : x = m) [h : CF m P] : P x := by subst hx; exact h.ok
theorem mpQ {a b : Prop} (h : a) (f : a → b := by assumption) : b := f h
section
variable {E : Env} {J : Cuts} {k : List Ct} {S : St} {α : Type} {f : FuncId} {ws : List V} {R : α → V} {Hs : α → List Blk}
theorem cmQ {m : α} (h : ∀ r, m = r → CallOk E f ws (R r) (Hs r)) : CM E m f ws R Hs := ⟨h m rfl⟩
theorem cmU {x m : α} (hx : x = m) [h : CM E m f ws R Hs] : CallOk E f ws (R x) (Hs x) := by subst hx; exact h.ok
theorem cmH {x m : α} (hx : x = m) (h : CM E m f ws R Hs) : CallOk E f ws (R x) (Hs x) := by subst hx; exact h.ok
theorem ifQ_t {β : Type} {c : Bool} {a b r : β} (hM : (if c = true then a else b) = r) (h : c = true) : a = r := by rw [if_pos h] at hM; exact hM
theorem ifQ_f {β : Type} {c : Bool} {a b r : β} (hM : (if c = true then a else b) = r) (h : c = false) : b = r := by rw [if_neg (by rw [h]; decide)] at hM; exact hM
theorem bindP {r : Res} {d : Option Nat} (h : bindC E J r S d k) : bindC E J r S d k := h
theorem callP {v : Option V} {vs : Option (List V)} {d : Option Nat} (h : callC E J v vs S d k) : callC E J v vs S d k := h
theorem retP {r : V} {H : List Blk} {o : Option (List V)} (h : retC E S r H o) : retC E S r H o := h
theorem lpP {K : St → Prop} (h : cont E J (.lp K :: k) .normal S) : cont E J (.lp K :: k) .normal S := h
theorem drawP {id : Nat} {ops : Array Oper} (h : cont E J (.code (.region id ops true) :: k) .normal S) : cont E J (.code (.region id ops true) :: k) .normal S := h
theorem ct_drawI {id : Nat} {ops : Array Oper} {n m : Nat} {wr : List Nat} {wl : List (Nat × Nat)} {need : List (List Nat)} {ub : List (Nat × Nat)} [DRD id n m wr wl need ub] (hB : (wlB ops m wl && flowB n m ops wr need && ((List.range m).all fun i => (need.getD i []).all fun j => decide (j < i))) = true) (hU : ubB m need ub S.nx = true)
    (h : drawC E ⟨J, S, wr, wl, need, ub, k⟩ m 0 ops.toList []) : cont E J (.code (.region id ops true) :: k) .normal S := ct_draw n m wr wl need ub hB hU h
section
variable {D : Dr} {m i : Nat} {l : List Oper} {L : List (Nat × HRes)} {d : Option Nat}
theorem hbindP {nid : Nat} {r : Res} (h : hbindC E D m i l L d nid r) : hbindC E D m i l L d nid r := h
theorem hcallP {v : Option V} {vs : Option (List V)} (h : hcallC E D m i l L d S v vs) : hcallC E D m i l L d S v vs := h
end
theorem trueQ : True := trivial
theorem quo_ok {a b : Int} (h : 0 ≤ a ∧ a ≤ 9223372036854775807) (hb : 0 < b) : quoI .i64 a b = a / b := by
  have h1 : a.tdiv b = a / b := Int.tdiv_eq_ediv_of_nonneg h.1
  have h2 : 0 ≤ a / b := Int.ediv_nonneg h.1 (by omega)
  have h3 : a / b ≤ a := Int.ediv_le_self _ h.1
  have := add_ok (a := a / b) (b := 0) (by omega) (by omega)
  unfold quoI
  rw [h1]
  simpa [addI] using this
theorem rem_ok {a b : Int} (h : 0 ≤ a ∧ a ≤ 9223372036854775807) (hb : 0 < b) : remI .i64 a b = a % b := Int.tmod_eq_emod_of_nonneg h.1
theorem elt_mpN {β : Type} [Inhabited β] {l : List β} {g : β → V} {i : Nat} (h : i < l.length) (d : V) : elt (l.map g) i d = g (gt l (i : Int)) := elt_mp (i := (i : Int)) h d
end
theorem auQ {P : Prop} (h : P := by
  repeat' (first
    | ((first | (with_reducible refine condC_intro ?_ ?_) | (with_reducible refine guardC_t ?_ ?_) | (with_reducible refine guardC_f ?_ ?_) | (with_reducible refine hguardC_t ?_ ?_) | (with_reducible refine hguardC_f ?_ ?_)) <;> (intro h0; (first | replace hM := ifQ_t hM h0 | replace hM := ifQ_f hM h0); replace hF := And.intro h0 hF; replace h0 := nzQ h0; (try have h1 := mpQ h0); (first | refine spQA hF ?_ | skip)))
    | (with_reducible refine bindP ?_
       refine bindC_intro ?h9 ?_
       case h9 => exact omQ
       first
         | (rw [elt_mp ?h9]; case h9 => exact omQ)
         | (rw [elt_mpN ?h9]; case h9 => exact omQ)
         | skip
       refine spQA hF ?_)
    | (with_reducible refine hbindP ?_
       first
         | (refine hbindC_intro ?h9 ?_; case h9 => exact omQ)
         | (refine hbindC_introN ?h9 (clQA hF) ?_; case h9 => exact omQ)
         | (refine hbindC_introP ?h9 (clQA hF) ?_; case h9 => exact omQ)
         | (refine hbindC_introA ?h9 (clQA hF) ?_; case h9 => exact omQ)
         | (refine hbindC_introV ?h9 (clQA hF) ?_; case h9 => exact omQ)
         | (refine hbindC_introU ?h9 (clQA hF) ?_; case h9 => exact omQ)
       first
         | (rw [elt_mp ?h9]; case h9 => exact omQ)
         | (rw [elt_mpN ?h9]; case h9 => exact omQ)
         | skip
       refine spQA hF ?_)
    | (with_reducible refine callP ?_
       have hM0 := hM; clear hM; obtain ⟨x0, hx0, hM⟩ := letk_opn hM0; clear hM0
       first
         | refine callC_give (cmU hx0) (clQA hF) (clQA hF) (fun hw0 => ?_)
         | refine callC_look (cmU hx0) (clQA hF) (clQA hF) (fun hw0 => ?_)
       replace hw0 := nzQ hw0
       try have hq0 := nzQ (cfU hx0)
       refine spQA hF ?_)
    | (with_reducible refine hcallP ?_
       have hM0 := hM; clear hM; obtain ⟨x0, hx0, hM⟩ := letk_opn hM0; clear hM0
       first
         | refine hcallC_give (cmU hx0) (clQA hF) (clQA hF) ?_
         | refine hcallC_give (CallOk.pub (cmU hx0)) (clQA hF) (clQA hF) ?_
         | refine hcallC_look (cmU hx0) (clQA hF) (clQA hF) ?_
       try have hq0 := nzQ (cfU hx0)
       refine spQA hF ?_)
    | (with_reducible refine drawP ?_
       refine ct_drawI (by kernel_rfl) (by exact alQ) ?_
       refine spQA hF ?_)
    | (with_reducible refine retP ?_
       subst hM
       exact retC_view (lfQA hF))
    | (with_reducible refine lpP ?_
       refine lp_intro ?_ _ ?h1 ?h2 ?h3 ⟨_, rfl, ?h4, ?h5, iter_again hM ?h6⟩
       case h6 => assumption
       case h1 => omega
       case h2 => first | exact sbQ | exact sbQA (And.intro @gt_cons0 (And.intro @gt_conss hF))
       case h3 => first | exact sbQ | exact sbQA (And.intro @gt_cons0 (And.intro @gt_conss hF))
       case h4 => first | trivial | exact omQ
       case h5 => exact omQ))) : P := h
end Go.Proofs.YtbfeamknaiaghaaDoor
namespace Go.Proofs.YtbfeamknaiaghaaDoor
open Go.RowKit
structure S_api_Denom where
 Value : Int
 Depth : Int
def z_api_Denom : S_api_Denom := { Value := (0 : Int), Depth := (0 : Int) }
instance : Inhabited S_api_Denom := ⟨z_api_Denom⟩
@[go_sem] theorem z_api_Denom_Value : z_api_Denom.Value = (0 : Int) := Eq.trans rfl rfl
@[go_sem] theorem z_api_Denom_Depth : z_api_Denom.Depth = (0 : Int) := Eq.trans rfl rfl
structure S_denom_way where
 ok : Bool
 coins : Int
 last : Int
def z_denom_way : S_denom_way := { ok := false, coins := (0 : Int), last := (0 : Int) }
instance : Inhabited S_denom_way := ⟨z_denom_way⟩
@[go_sem] theorem z_denom_way_ok : z_denom_way.ok = false := Eq.trans rfl rfl
@[go_sem] theorem z_denom_way_coins : z_denom_way.coins = (0 : Int) := Eq.trans rfl rfl
@[go_sem] theorem z_denom_way_last : z_denom_way.last = (0 : Int) := Eq.trans rfl rfl
def q_api_Denom (a b : S_api_Denom) : Bool := (a.Value == b.Value && a.Depth == b.Depth)
attribute [go_sem] q_api_Denom
def e_api_Denom (x : S_api_Denom) : V := .agg [.int .i64 x.Value, .int .i64 x.Depth]
attribute [go_sem] e_api_Denom
def e_denom_way (x : S_denom_way) : V := .agg [.bool x.ok, .int .i64 x.coins, .int .i64 x.last]
attribute [go_sem] e_denom_way
end Go.Proofs.YtbfeamknaiaghaaDoor
