import Derived.Test.YtcbdmoihobdjaaaVP
namespace Go.Proofs.Ytcbdmoihobdjaaa
open Go.RowKit
section
variable {E : Env} {J : Cuts} {k : List Ct} {S S1 S2 : St} {c0 c : Cx} {ρ : Ro} {F : Fm}
def pubV : Option Blk → V
 | some (.pown n g z l) => .sl z n g l
 | _ => .un
def pubP (off : Nat) : Option Blk → V
 | some (.pvar n g d) => if off = 0 then .pp n g d else .un
 | _ => .un
mutual
def gview (H : List (Nat × Blk)) : V → V
 | .own i => pubV (getA H i)
 | .ptr i o => pubP o (getA H i)
 | .optr _ _ _ _ => .un
 | .osub _ _ _ _ => .un
 | .agg l => .agg (gviewL H l)
 | .tup l => .tup (gviewL H l)
 | .fn f l => .fn f (gviewL H l)
 | v => v
def gviewL (H : List (Nat × Blk)) : List V → List V
 | [] => []
 | d :: l => gview H d :: gviewL H l
end
mutual
theorem gview_rd (h : Sim E c0 c ρ S F) : ∀ {d : V} {v : Value}, rd ρ c d v → rd ro0 c (gview S.H d) v
 | .int _ _, _, hr => hr
 | .bool _, _, hr => hr
 | .str _, _, hr => hr
 | .agg l, v, hr => by
  simp only [rd, gview] at hr ⊢
  obtain ⟨cs, e, hr⟩ := hr
  exact ⟨cs, e, gview_rdC h hr⟩
 | .sl z n g l, v, hr => hr
 | .pp n g d, v, hr => hr
 | .own i, v, hr => by
  simp only [rd] at hr
  simp only [gview]
  cases hb : getA S.H i with
  | none => trivial
  | some b =>
   cases b with
   | pown n g z l =>
    obtain ⟨v', h1, h2⟩ := h.heap _ _ hb
    rw [hr.1] at h1; cases h1
    exact h2
   | _ => trivial
 | .ptr i o, v, hr => by
  simp only [rd] at hr
  simp only [gview]
  obtain ⟨b0, hb0, he⟩ := hr
  cases hb : getA S.H i with
  | none => trivial
  | some b =>
   cases b with
   | pvar n g d =>
    obtain ⟨b', h1, h2⟩ := h.heap _ _ hb
    rw [hb0] at h1; cases h1
    simp only [pubP]
    split
    ·rename_i e; subst e; subst he
     exact rd_pp.2 h2
    ·trivial
   | _ => trivial
 | .optr _ _ _ _, _, _ => trivial
 | .osub _ _ _ _, _, _ => trivial
 | .tup l, v, hr => by
  simp only [rd, gview] at hr ⊢
  obtain ⟨cs, e, hr⟩ := hr
  exact ⟨cs, e, gview_rdT h hr⟩
 | .fn f l, v, hr => by
  simp only [rd, gview] at hr ⊢
  obtain ⟨cs, e, hr⟩ := hr
  exact ⟨cs, e, gview_rdT h hr⟩
 | .opq p, v, hr => hr
 | .un, _, _ => trivial
theorem gview_rdC (h : Sim E c0 c ρ S F) : ∀ {l : List V} {cs : List Value}, rdC ρ c l cs → rdC ro0 c (gviewL S.H l) cs
 | [], _, hr => hr
 | d :: l, cs, hr => by
  simp only [rdC, gviewL] at hr ⊢
  obtain ⟨u, c2, e, h1, h2, h3⟩ := hr
  exact ⟨u, c2, e, h1, gview_rd h h2, gview_rdC h h3⟩
theorem gview_rdT (h : Sim E c0 c ρ S F) : ∀ {l : List V} {cs : List Value}, rdT ρ c l cs → rdT ro0 c (gviewL S.H l) cs
 | [], _, hr => hr
 | d :: l, cs, hr => by
  simp only [rdT, gviewL] at hr ⊢
  obtain ⟨u, c2, e, h2, h3⟩ := hr
  exact ⟨u, c2, e, gview_rd h h2, gview_rdT h h3⟩
end
theorem give_gview {vs ws : List V} (hm : mtL (gviewL S.H vs) ws) : giveOk E S vs S ws :=
 fun _ c ρ _ _ h hr => ⟨c, ρ, rfl, Cx.pub.refl _, h, mt_rdT hm (gview_rdT h.1 hr)⟩
def WeakP (E : Env) (S S1 : St) : Prop := ∀ c0 c ρ F, SimN E c0 c ρ S F → ∃ c1, c1.w = c.w ∧ c.pub c1 ∧ SimN E c0 c1 ρ S1 F
theorem WeakP.weak (h : WeakP E S S1) : Weak E S S1 := by
 intro c0 c ρ F hs
 obtain ⟨c1, e, _, h1⟩ := h c0 c ρ F hs
 exact ⟨c1, ρ, e, h1⟩
theorem WeakP.trans (h : WeakP E S S1) (h' : WeakP E S1 S2) : WeakP E S S2 := by
 intro c0 c ρ F hs
 obtain ⟨c1, e, p1, h1⟩ := h c0 c ρ F hs
 obtain ⟨c2, e2, p2, h2⟩ := h' c0 c1 ρ F h1
 exact ⟨c2, e2.trans e, p1.trans p2, h2⟩
def WeakQ (E : Env) (S S1 : St) : Prop := ∀ c0 c ρ F, SimN E c0 c ρ S F → ∃ c1 ρ1, c1.w = c.w ∧ c.pub c1 ∧ roLe ρ ρ1 ∧ SimN E c0 c1 ρ1 S1 F
theorem WeakQ.weak (h : WeakQ E S S1) : Weak E S S1 := by
 intro c0 c ρ F hs
 obtain ⟨c1, ρ1, e, _, _, h1⟩ := h c0 c ρ F hs
 exact ⟨c1, ρ1, e, h1⟩
theorem WeakP.toQ (h : WeakP E S S1) : WeakQ E S S1 := by
 intro c0 c ρ F hs
 obtain ⟨c1, e, p, h1⟩ := h c0 c ρ F hs
 exact ⟨c1, ρ, e, p, fun _ _ h => h, h1⟩
theorem WeakQ.trans (h : WeakQ E S S1) (h' : WeakQ E S1 S2) : WeakQ E S S2 := by
 intro c0 c ρ F hs
 obtain ⟨c1, ρ1, e, p1, r1, h1⟩ := h c0 c ρ F hs
 obtain ⟨c2, ρ2, e2, p2, r2, h2⟩ := h' c0 c1 ρ1 F h1
 exact ⟨c2, ρ2, e2.trans e, p1.trans p2, fun i v hi => r2 i v (r1 i v hi), h2⟩
theorem give_weak {vs ws : List V} (h : WeakP E S S1) (hg : giveOk E S1 vs S2 ws) : giveOk E S vs S2 ws := by
 intro c0 c ρ F us hs hr
 obtain ⟨c1, e, p1, h1⟩ := h c0 c ρ F hs
 obtain ⟨c2, ρ2, e2, p2, h2, h3⟩ := hg c0 c1 ρ F us h1 (rdT_mono p1 hr)
 exact ⟨c2, ρ2, e2.trans e, p1.trans p2, h2, h3⟩
theorem callC_giveP {f : FuncId} {caps vs : List V} {d : Option Nat} {ws : List V} {r : V} {H : List Blk} (hc : CallOk E f ws r H) (hw : WeakP E S S1) (hm : mtL (gviewL S1.H (vs ++ caps)) ws) (h : wfV r → cont E J k .normal (S1.after d r H)) : callC E J (some (.fn f caps)) (some vs) S d k :=
 .inl ⟨ws, r, H, hc, .inl ⟨S1, give_weak hw (give_gview hm), h⟩⟩
theorem callC_giveG {f : FuncId} {caps vs : List V} {d : Option Nat} {ws : List V} {r : V} {H : List Blk} (hc : CallOk E f ws r H) (hm : mtL (gviewL S.H (vs ++ caps)) ws) (h : wfV r → cont E J k .normal (S.after d r H)) : callC E J (some (.fn f caps)) (some vs) S d k :=
 .inl ⟨ws, r, H, hc, .inl ⟨S, give_gview hm, h⟩⟩
theorem weakP_pub (i : Nat) {T n : Nat} {g : Bool} {z : Option Bool} {l : List V} (h : getA S.H i = some (.own T n g z l)) : WeakP E S ⟨S.F, setA S.H i (.pown n g z l), S.nx⟩ := by
 intro c0 c ρ F hs
 obtain ⟨v, hv, hown, hge, hone, a, cap, es, hz⟩ := hs.1.heap _ _ h
 obtain ⟨c1, ρ1, e, h1⟩ := weak_pub i h c0 c ρ F hs
 have hpd := c.pub_dropv v
 have hbo : blkOf ρ i = blk v := by unfold blkOf; rw [hv, es]
 have hsep : ∀ j b, i ≠ j → getA S.H j = some b → privB b = true → ∀ x, blkOf ρ j = some x → blk v ≠ some x := by
  intro j b hij hb hp x hx hx'
  exact hs.1.sep i j _ b x hij h hb rfl hp (hbo ▸ hx') hx
 refine ⟨c.dropv v, rfl, hpd, ⟨hs.1.since.dropv hge, hs.1.gl.mono hpd, fun t x ht => rd_mono hpd (hs.1.slot t x ht), ?_, ?_⟩, hs.2⟩
 ·intro j b hb
  simp only [getA_setA] at hb
  split at hb
  ·rename_i e; subst e; cases hb
   refine ⟨v, hv, ?_⟩
   obtain ⟨a', cap', e1, h1, h2⟩ := slice_val.1 hown.val
   rw [es] at e1; cases e1
   exact rd_sl.2 ⟨a, cap, es, h1, hz, h2⟩
  ·rename_i hij
   have hb0 := hs.1.heap _ _ hb
   have hsp := hsep j b hij hb
   cases b with
   | var n' g' d =>
    obtain ⟨b', h1, h2, h3⟩ := hb0
    exact ⟨b', h1, h2, Cx.dropv_var h3 (hsp rfl b' (by simp [blkOf, h1]))⟩
   | own E' n' g' z' l' =>
    obtain ⟨v', h1, h2, h3, h4, a', cap', e', h5⟩ := hb0
    exact ⟨v', h1, Cx.dropv_own h2 (fun x hx => hsp rfl x (by unfold blkOf; rw [h1, e']; rw [e'] at hx; exact hx)), h3, h4, a', cap', e', h5⟩
   | ownI E' n' g' z' l' =>
    obtain ⟨v', h1, h2, h3, h4, a', cap', e', h5⟩ := hb0
    exact ⟨v', h1, Cx.dropv_own h2 (fun x hx => hsp rfl x (by unfold blkOf; rw [h1, e']; rw [e'] at hx; exact hx)), h3, h4, a', cap', e', h5⟩
   | pvar n' g' d =>
    obtain ⟨b', h1, h2⟩ := hb0
    exact ⟨b', h1, (rvPt _).mono h2 hpd⟩
   | pown n' g' z' l' =>
    obtain ⟨v', h1, h2⟩ := hb0
    exact ⟨v', h1, rd_mono hpd h2⟩
   | lent k' n' g' d =>
    obtain ⟨h1, h2, h3⟩ := hb0
    exact ⟨h1, h2, Cx.dropv_var h3 (hsp rfl k' (by simp [blkOf, h1]))⟩
 ·intro a b ba bb x hab ha hb hpa hpb hx
  simp only [getA_setA] at ha hb
  split at ha
  ·cases ha; cases hpa
  ·split at hb
   ·cases hb; cases hpb
   ·exact hs.1.sep a b ba bb x hab ha hb hpa hpb hx
def posN : List Nat → Nat → Nat → Option Nat
 | [], _, _ => none
 | j :: l, i, k => if j = i then some k else posN l i (k + 1)
def ownAt (H : List (Nat × Blk)) (i : Nat) : Option Nat → V
 | some k => .own k
 | none => ownV (getA H i)
mutual
def viewO (H : List (Nat × Blk)) (ids : List Nat) : V → V
 | .own i => ownAt H i (posN ids i 0)
 | .ptr _ _ => .un
 | .optr _ _ _ _ => .un
 | .osub _ _ _ _ => .un
 | .agg l => .agg (viewOL H ids l)
 | .tup l => .tup (viewOL H ids l)
 | .fn f l => .fn f (viewOL H ids l)
 | v => v
def viewOL (H : List (Nat × Blk)) (ids : List Nat) : List V → List V
 | [] => []
 | d :: l => viewO H ids d :: viewOL H ids l
end
theorem posN_some : ∀ {l : List Nat} {i k q : Nat}, posN l i k = some q → k ≤ q ∧ l[q - k]? = some i
 | [], _, _, _, h => by simp [posN] at h
 | j :: l, i, k, q, h => by
  simp only [posN] at h
  split at h
  ·rename_i e; subst e; cases h; simp
  ·obtain ⟨h1, h2⟩ := posN_some h
   refine ⟨by omega, ?_⟩
   rw [show q - k = (q - (k + 1)) + 1 by omega, List.getElem?_cons_succ]
   exact h2
theorem posN_none : ∀ {l : List Nat} {i k : Nat}, posN l i k = none → i ∉ l
 | [], _, _, _ => by simp
 | j :: l, i, k, h => by
  simp only [posN] at h
  split at h
  ·cases h
  ·rename_i e
   simp only [List.mem_cons, not_or]
   exact ⟨fun e' => e e'.symm, posN_none h⟩
def roIds (ρ : Ro) (ids : List Nat) : Ro := fun k => match ids[k]? with
 | some i => ρ i
 | none => none
def Cx.give (c0 c : Cx) (ρ : Ro) (ids : List Nat) (h0 : c0.w.heap.size ≤ c.w.heap.size) (h : ∀ i ∈ ids, ∀ k, blkOf ρ i = some k → k < c.w.heap.size) : Cx :=
 { X := c0.X ++ ids.filterMap (blkOf ρ), w := c.w, ok := fun k hk => (by
  rcases List.mem_append.1 hk with hk | hk
  ·exact Nat.lt_of_lt_of_le (c0.ok k hk) h0
  ·obtain ⟨i, hi, hb⟩ := List.mem_filterMap.1 hk
   exact h i hi k hb) }
def ownsL (H : List (Nat × Blk)) : List Nat → List Blk → Prop
 | [], [] => True
 | i :: ids, b :: bs => getA H i = some b ∧ (match b with | .own _ _ _ _ _ => True | _ => False) ∧ ownsL H ids bs
 | _, _ => False
theorem ownsL_get {H : List (Nat × Blk)} : ∀ {ids : List Nat} {bs : List Blk}, ownsL H ids bs → ids.length = bs.length ∧ (∀ (k : Nat) (b : Blk), bs[k]? = some b → ∃ i, ids[k]? = some i ∧ getA H i = some b ∧ ∃ T n g z l, b = .own T n g z l) ∧ ∀ i ∈ ids, ∃ b, getA H i = some b ∧ ∃ T n g z l, b = .own T n g z l
 | [], [], _ => ⟨rfl, by simp, by simp⟩
 | i :: ids, b :: bs, h => by
  simp only [ownsL] at h
  obtain ⟨h1, h2, h3⟩ := h
  obtain ⟨g1, g2, g3⟩ := ownsL_get h3
  have hb : ∃ T n g z l, b = .own T n g z l := by
   cases b <;> first | exact ⟨_, _, _, _, _, rfl⟩ | exact h2.elim
  refine ⟨by simp [g1], ?_, ?_⟩
  ·intro k b' hk
   cases k with
   | zero => simp at hk; subst hk; exact ⟨i, by simp, h1, hb⟩
   | succ k => obtain ⟨j, e, g⟩ := g2 k b' (by simpa using hk); exact ⟨j, by simpa using e, g⟩
  ·intro j hj
   rcases List.mem_cons.1 hj with rfl | hj
   ·exact ⟨b, h1, hb⟩
   ·exact g3 j hj
 | [], _ :: _, h => by simp [ownsL] at h
 | _ :: _, [], h => by simp [ownsL] at h
theorem own_at {c1 : Cx} (hw : c1.w = c.w) (hpb : c.pub c1) (h : Sim E c0 c ρ S F) {i : Nat} {b : Blk} {v : Value} (hb : getA S.H i = some b) (hv : ρ i = some v) (hn : privB b = true → ∀ k, blkOf ρ i = some k → k ∉ c1.X) : rd ro0 c1 (ownV (some b)) v := by
 have hblk := h.heap i b hb
 cases b with
 | own T n g z l =>
  obtain ⟨v', h1, h2, h3, h4, a, cap, e, hz⟩ := hblk
  rw [hv] at h1; cases h1
  simp only [ownV]
  refine rd_sl.2 ⟨a, cap, e, ⟨h2.1, ?_⟩, hz, ?_⟩
  ·rcases h2.2 with ⟨a', _, rfl⟩ | ⟨g', cp, cur, e2, _, _, k3, _⟩
   ·simp
   ·rw [e] at e2; cases e2; exact k3
  ·rcases h2.2 with ⟨a', _, rfl⟩ | ⟨g', cp, cur, e2, k1, k2, k3, k4, k5, k6⟩
   ·exact .inl rfl
   ·rw [e] at e2; cases e2
    refine .inr ⟨g', 0, _, rfl, by rw [hw]; exact c.ok g' k1, hn rfl g' (by unfold blkOf; rw [hv, e]; rfl), ?_, arrIs_mono hpb k6⟩
    intro j u hj
    rw [List.getElem?_take] at hj
    split at hj
    ·simp only [Nat.zero_add]
     show c1.w.cell? _ = _
     rw [hw]
     simp only [World.cell?, k2]
     simpa using hj
    ·cases hj
 | pown n g z l =>
  obtain ⟨v', h1, h2⟩ := hblk
  rw [hv] at h1; cases h1
  exact rd_mono hpb h2
 | _ => trivial
mutual
theorem viewO_rd {c1 : Cx} {ids : List Nat} (hw : c1.w = c.w) (hpb : c.pub c1) (h : Sim E c0 c ρ S F) (hn : ∀ i b, i ∉ ids → getA S.H i = some b → privB b = true → ∀ k, blkOf ρ i = some k → k ∉ c1.X) : ∀ {d : V} {v : Value}, rd ρ c d v → rd (roIds ρ ids) c1 (viewO S.H ids d) v
 | .int _ _, _, hr => hr
 | .bool _, _, hr => hr
 | .str _, _, hr => hr
 | .agg l, v, hr => by
  simp only [rd, viewO] at hr ⊢
  obtain ⟨cs, e, hr⟩ := hr
  exact ⟨cs, e, viewO_rdC hw hpb h hn hr⟩
 | .sl z n g l, v, hr => rd_mono hpb (show rd ro0 c (.sl z n g l) v from hr)
 | .pp n g d, v, hr => rd_mono hpb (show rd ro0 c (.pp n g d) v from hr)
 | .own i, v, hr => by
  simp only [rd] at hr
  simp only [viewO]
  cases hp : posN ids i 0 with
  | some q =>
   obtain ⟨_, h2⟩ := posN_some hp
   simp only [ownAt, rd]
   exact ⟨by simp only [roIds]; rw [show q - 0 = q from rfl] at h2; rw [h2]; exact hr.1, hr.2⟩
  | none =>
   simp only [ownAt]
   cases hb : getA S.H i with
   | none => trivial
   | some b => exact rd0 (own_at hw hpb h hb hr.1 (fun hp' => hn i b (posN_none hp) hb hp'))
 | .ptr _ _, _, _ => trivial
 | .optr _ _ _ _, _, _ => trivial
 | .osub _ _ _ _, _, _ => trivial
 | .tup l, v, hr => by
  simp only [rd, viewO] at hr ⊢
  obtain ⟨cs, e, hr⟩ := hr
  exact ⟨cs, e, viewO_rdT hw hpb h hn hr⟩
 | .fn f l, v, hr => by
  simp only [rd, viewO] at hr ⊢
  obtain ⟨cs, e, hr⟩ := hr
  exact ⟨cs, e, viewO_rdT hw hpb h hn hr⟩
 | .opq p, v, hr => rd_mono hpb (show rd ro0 c (.opq p) v from hr)
 | .un, _, _ => trivial
theorem viewO_rdC {c1 : Cx} {ids : List Nat} (hw : c1.w = c.w) (hpb : c.pub c1) (h : Sim E c0 c ρ S F) (hn : ∀ i b, i ∉ ids → getA S.H i = some b → privB b = true → ∀ k, blkOf ρ i = some k → k ∉ c1.X) : ∀ {l : List V} {cs : List Value}, rdC ρ c l cs → rdC (roIds ρ ids) c1 (viewOL S.H ids l) cs
 | [], _, hr => hr
 | d :: l, cs, hr => by
  simp only [rdC, viewOL] at hr ⊢
  obtain ⟨u, c2, e, h1, h2, h3⟩ := hr
  exact ⟨u, c2, e, h1, viewO_rd hw hpb h hn h2, viewO_rdC hw hpb h hn h3⟩
theorem viewO_rdT {c1 : Cx} {ids : List Nat} (hw : c1.w = c.w) (hpb : c.pub c1) (h : Sim E c0 c ρ S F) (hn : ∀ i b, i ∉ ids → getA S.H i = some b → privB b = true → ∀ k, blkOf ρ i = some k → k ∉ c1.X) : ∀ {l : List V} {cs : List Value}, rdT ρ c l cs → rdT (roIds ρ ids) c1 (viewOL S.H ids l) cs
 | [], _, hr => hr
 | d :: l, cs, hr => by
  simp only [rdT, viewOL] at hr ⊢
  obtain ⟨u, c2, e, h2, h3⟩ := hr
  exact ⟨u, c2, e, viewO_rd hw hpb h hn h2, viewO_rdT hw hpb h hn h3⟩
end
theorem nodup_idx : ∀ {l : List Nat} {i q q' : Nat}, l.Nodup → l[q]? = some i → l[q']? = some i → q = q'
 | [], _, _, _, _, h, _ => by simp at h
 | a :: l, i, 0, 0, _, _, _ => rfl
 | a :: l, i, 0, q' + 1, hd, h, h' => by
  simp at h h'; subst h
  exact absurd (List.mem_of_getElem? h') (List.nodup_cons.1 hd).1
 | a :: l, i, q + 1, 0, hd, h, h' => by
  simp at h h'; subst h'
  exact absurd (List.mem_of_getElem? h) (List.nodup_cons.1 hd).1
 | a :: l, i, q + 1, q' + 1, hd, h, h' => by
  simp only [List.getElem?_cons_succ] at h h'
  rw [nodup_idx (List.nodup_cons.1 hd).2 h h']
theorem out_own {v r : V} (ids : List Nat) {bs : List Blk} (ho : ownsL S.H ids bs) (hd : ids.Nodup) (hm : mt (viewO S.H ids v) r) : outOk E S v r bs := by
 intro c0 c ρ F u hY h hr
 obtain ⟨hlen, hget, hall⟩ := ownsL_get ho
 have hlt : ∀ i ∈ ids, ∀ k, blkOf ρ i = some k → k < c.w.heap.size := by
  intro i hi k hk
  obtain ⟨b, hb, T, n, g, z, l, rfl⟩ := hall i hi
  exact blkOk_lt rfl (h.1.heap _ _ hb) k hk
 have hge : ∀ i ∈ ids, ∀ k, blkOf ρ i = some k → c0.w.heap.size ≤ k := by
  intro i hi k hk
  obtain ⟨b, hb, T, n, g, z, l, rfl⟩ := hall i hi
  exact Cx.mine_of hY (blkOf_ge h.1 hb rfl k hk)
 have hX : ∀ i ∈ ids, ∀ k, blkOf ρ i = some k → k ∈ c.X := by
  intro i hi k hk
  obtain ⟨b, hb, T, n, g, z, l, rfl⟩ := hall i hi
  obtain ⟨v, h1, h2, _, _, a, cap, e, _⟩ := h.1.heap _ _ hb
  refine h2.isX k ?_
  unfold blkOf at hk
  rw [h1, e] at hk
  rw [e]; exact hk
 have hpub : c.pub (Cx.give c0 c ρ ids h.1.since.size hlt) := by
  refine ⟨Nat.le_refl _, fun k hk hx => ⟨fun h' => ?_, rfl⟩⟩
  rcases List.mem_append.1 h' with h' | h'
  ·exact hx (h.1.since.X k h' (by rw [hY]; simp))
  ·obtain ⟨i, hi, hb⟩ := List.mem_filterMap.1 h'
   exact hx (hX i hi k hb)
 have hle : c0.le (Cx.give c0 c ρ ids h.1.since.size hlt) := by
  refine Cx.leY.le ⟨h.1.since.below, fun k hk _ => ⟨fun h' => ?_, fun h' => List.mem_append.2 (.inl h')⟩⟩ hY
  rcases List.mem_append.1 h' with h' | h'
  ·exact h'
  ·obtain ⟨i, hi, hb⟩ := List.mem_filterMap.1 h'
   have := hge i hi k hb
   omega
 refine ⟨Cx.give c0 c ρ ids h.1.since.size hlt, roIds ρ ids, rfl, hle, mt_rd hm (viewO_rd (c := c) (c1 := Cx.give c0 c ρ ids h.1.since.size hlt) (ids := ids) rfl hpub h.1 ?_ hr), ?_, ?_, ?_⟩
 ·intro i b hi hb hp k hk hmem
  rcases List.mem_append.1 hmem with h' | h'
  ·have h1 := Cx.mine_of hY (blkOf_ge h.1 hb hp k hk)
   have h2 := c0.ok k h'
   omega
  ·obtain ⟨j, hj, hb'⟩ := List.mem_filterMap.1 h'
   obtain ⟨bj, hbj, T, n, g, z, l, rfl⟩ := hall j hj
   exact h.1.sep i j b _ k (fun e => hi (e ▸ hj)) hb hbj hp rfl hk hb'
 ·intro q b hq
  obtain ⟨i, hi, hb, T, n, g, z, l, rfl⟩ := hget q b hq
  refine ⟨⟨T, n, g, z, l, rfl⟩, ?_⟩
  obtain ⟨v, h1, h2, h3, h4, a, cap, e, h5⟩ := h.1.heap _ _ hb
  have hmem : i ∈ ids := List.mem_of_getElem? hi
  refine ⟨v, by simp only [roIds, hi]; exact h1, ⟨h2.1, ?_⟩, h3, h4, a, cap, e, h5⟩
  rcases h2.2 with h' | ⟨g', cp, cur, e2, k1, k2, k3, k4, k5, k6⟩
  ·exact .inl h'
  ·refine .inr ⟨g', cp, cur, e2, List.mem_append.2 (.inr (List.mem_filterMap.2 ⟨i, hmem, ?_⟩)), k2, k3, k4, k5, arrIs_mono hpub k6⟩
   unfold blkOf; rw [h1, e2]; rfl
 ·intro q hq
  simp only [roIds]
  rw [List.getElem?_eq_none (by omega)]
 ·intro q q' bq bq' k hne hq hq' hk hk'
  obtain ⟨i, hi, hb, T, n, g, z, l, rfl⟩ := hget q bq hq
  obtain ⟨i', hi', hb', T', n', g', z', l', rfl⟩ := hget q' bq' hq'
  have hii : i ≠ i' := by
   rintro rfl
   exact hne (nodup_idx hd hi hi')
  have e1 : blkOf (roIds ρ ids) q = blkOf ρ i := by simp only [blkOf, roIds, hi]
  have e2 : blkOf (roIds ρ ids) q' = blkOf ρ i' := by simp only [blkOf, roIds, hi']
  rw [e1] at hk
  rw [e2] at hk'
  exact h.1.sep i i' _ _ k hii hb hb' rfl rfl hk hk'
def zN : Blk → Blk
 | .own T n g _ l => .own T n g none l
 | b => b
theorem HOk_zN {c' : Cx} {H : List Blk} (h : HOk c c' ρ H) : HOk c c' ρ (H.map zN) := by
 obtain ⟨h1, h2, h3⟩ := h
 have key : ∀ (i : Nat) (b : Blk), (H.map zN)[i]? = some b → ∃ T n g z l, H[i]? = some (Blk.own T n g z l) ∧ b = Blk.own T n g none l := by
  intro i b hb
  rw [List.getElem?_map] at hb
  cases hi : H[i]? with
  | none => rw [hi] at hb; cases hb
  | some b0 =>
   rw [hi] at hb
   obtain ⟨⟨T, n, g, z, l, rfl⟩, _⟩ := h1 i b0 hi
   cases hb
   exact ⟨T, n, g, z, l, rfl, rfl⟩
 refine ⟨fun i b hb => ?_, fun i hi => h2 i (by simpa using hi), fun i j bi bj k hij hi hj => ?_⟩
 ·obtain ⟨T, n, g, z, l, hi, rfl⟩ := key i b hb
  obtain ⟨_, v, g1, g2, g3, g4, a, cap, e, g5⟩ := h1 i _ hi
  exact ⟨⟨T, n, g, none, l, rfl⟩, v, g1, g2, g3, g4, a, cap, e, zOk_none g5⟩
 ·obtain ⟨T, n, g, z, l, hi', rfl⟩ := key i bi hi
  obtain ⟨T', n', g', z', l', hj', rfl⟩ := key j bj hj
  exact h3 i j _ _ k hij hi' hj'
theorem retC_owns {vs : List V} {r : V} (ids : List Nat) {bs : List Blk} (ho : ownsL S.H ids bs) (hd : ids.Nodup) (hm : mt (viewO S.H ids (tupV vs)) r) : retC E S r (bs.map zN) (some vs) := by
 intro c0 c ρ F u hY hs hr
 obtain ⟨c1, ρ1, e, hle, h1, h2⟩ := out_own ids ho hd hm c0 c ρ F u hY hs hr
 exact ⟨c1, ρ1, e, hle, h1, HOk_zN h2⟩
theorem retC_ownZ {vs : List V} {T n : Nat} {g : Bool} {z : Option Bool} {l : List V} (i : Nat) (h : getA S.H i = some (.own T n g z l)) (hm : mt (viewO S.H [i] (tupV vs)) (.own 0)) : retC E S (.own 0) [.own T n g none l] (some vs) :=
 retC_owns [i] (bs := [.own T n g z l]) ⟨h, trivial, trivial⟩ (by simp) hm
theorem retC_nil {T n : Nat} {g : Bool} (hone : g = false → n = 1) : retC E S (.own 0) [.own T n g none []] (some [.sl (some true) n g []]) := by
 intro c0 c ρ F u hY h hr
 have e : u = .slice none 0 0 := by
  simp only [tupV, rd, zOk] at hr
  obtain ⟨a, cap, e, _, ⟨rfl, rfl⟩, _⟩ := hr
  exact e
 subst e
 refine ⟨c0.base c h.1.since.size, fun i => if i = 0 then some (.slice none 0 0) else none, rfl, Cx.leY.le ⟨h.1.since.below, fun k hk hy => by rw [base_X]; exact ⟨fun h => h.1, fun h => ⟨h, hy⟩⟩⟩ hY, ⟨rfl, rfl⟩, ?_, ?_, ?_⟩
 ·intro i b hb
  cases i with
  | zero =>
   simp at hb; subst hb
   exact ⟨⟨_, _, _, _, _, rfl⟩, .slice none 0 0, rfl, Own.nil, fun k hk => by simp [blk] at hk, hone, none, 0, rfl, fun _ => rfl⟩
  | succ i => simp at hb
 ·intro i hi
  have : i ≠ 0 := by simp at hi; omega
  simp [this]
 ·intro i j bi bj k hij hi hj
  cases i with
  | zero => cases j with
   | zero => exact absurd rfl hij
   | succ j => simp at hj
  | succ i => simp at hi
theorem callOk_nil {f : FuncId} {pre post : List V} {n : Nat} {g : Bool} {l : List V} {r : V} {H : List Blk} (h1 : l = [] → CallOk E f (pre ++ .sl (some true) n g [] :: post) r H) (h2 : CallOk E f (pre ++ .sl (some false) n g l :: post) r H) (z : Option Bool) : CallOk E f (pre ++ .sl z n g l :: post) r H := by
 refine ⟨h2.1, fun c us hY hg hus => ?_⟩
 have key : ∀ {pre : List V} {us : List Value}, rdT ro0 c (pre ++ .sl z n g l :: post) us → (l = [] ∧ rdT ro0 c (pre ++ .sl (some true) n g [] :: post) us) ∨ rdT ro0 c (pre ++ .sl (some false) n g l :: post) us := by
  intro pre
  induction pre with
  | nil =>
   intro us h
   simp only [List.nil_append, rdT] at h ⊢
   obtain ⟨u, c2, rfl, hu, h3⟩ := h
   obtain ⟨a, cap, e, hl, hz, hs⟩ := rd_sl.1 hu
   cases a with
   | some a => exact .inr ⟨u, c2, rfl, rd_sl.2 ⟨_, cap, e, hl, by simp [zOk], hs⟩, h3⟩
   | none =>
    rcases hs with rfl | ⟨b, o, cs, e', _⟩
    ·have hc := zOk_none hz rfl
     subst hc
     exact .inl ⟨rfl, u, c2, rfl, rd_sl.2 ⟨none, 0, e, ⟨Nat.zero_le _, Nat.zero_le _⟩, ⟨rfl, rfl⟩, .inl rfl⟩, h3⟩
    ·cases e'
  | cons d pre ih =>
   intro us h
   simp only [List.cons_append, rdT] at h ⊢
   obtain ⟨u, c2, rfl, hu, h3⟩ := h
   rcases ih h3 with ⟨e, h4⟩ | h4
   ·exact .inl ⟨e, u, c2, rfl, hu, h4⟩
   ·exact .inr ⟨u, c2, rfl, hu, h4⟩
 rcases key hus with ⟨e, h⟩ | h
 ·exact (h1 e).2 c us hY hg h
 ·exact h2.2 c us hY hg h
end
attribute [go_sem] gview gviewL pubV pubP ownsL viewO viewOL posN ownAt
theorem CallOk.pub {E : Env} {f : FuncId} {ws : List V} {T n : Nat} {g : Bool} {z : Option Bool} {l : List V} (h : CallOk E f ws (.own 0) [.own T n g z l]) : CallOk E f ws (.sl z n g l) [] := by
 refine ⟨h.1, fun c us hY hg hus => (h.2 c us hY hg hus).mono ?_⟩
 rintro e w' ⟨v, c', ρ, rfl, rfl, hle, hrd, hH⟩
 obtain ⟨v', hv, hown, hge, hone, a, cap, es, hz⟩ := (hH.1 0 _ rfl).2
 have e : v = v' := by
  simp only [rd] at hrd
  rw [hv] at hrd
  exact (Option.some.inj hrd.1).symm
 subst e
 refine ⟨v, c'.dropv v, ro0, rfl, rfl, le_dropv hle (fun g hg => Cx.mine_of hY (hge g hg)), ?_, fun i b hb => by simp at hb, fun _ _ => rfl, fun i j bi bj k _ hb => by simp at hb⟩
 obtain ⟨a', cap', e1, h1, h2⟩ := slice_val.1 hown.val
 rw [es] at e1; cases e1
 exact rd_sl.2 ⟨a, cap, es, h1, hz, h2⟩
theorem rdC_nil {ρ ρ' : Ro} {c : Cx} (hro : roLe ρ ρ') {k : Nat} (hat : ρ' k = some (.slice none 0 0)) : ∀ {l : List V} {cs : List Value} {o n : Nat} {g : Bool}, rdC ρ c l cs → l[o]? = some (.sl (some true) n g []) → rdC ρ' c (l.set o (.own k)) cs
 | [], cs, o, n, g, h, ho => by simp at ho
 | d :: l, cs, 0, n, g, h, ho => by
  simp only [List.getElem?_cons_zero, Option.some.injEq] at ho
  subst ho
  simp only [rdC] at h
  obtain ⟨u, c2, rfl, h1, h2, h3⟩ := h
  simp only [List.set_cons_zero, rdC]
  have e : u = .slice none 0 0 := by
   simp only [rd, zOk] at h2
   obtain ⟨a, cap, e, _, ⟨rfl, rfl⟩, _⟩ := h2
   exact e
  subst e
  exact ⟨_, c2, rfl, h1, by simp only [rd]; exact ⟨hat, rfl⟩, rdC_ro hro h3⟩
 | d :: l, cs, o + 1, n, g, h, ho => by
  simp only [List.getElem?_cons_succ] at ho
  simp only [rdC] at h
  obtain ⟨u, c2, rfl, h1, h2, h3⟩ := h
  simp only [List.set_cons_succ, rdC]
  exact ⟨u, c2, rfl, h1, rd_ro hro h2, rdC_nil hro hat h3 ho⟩
theorem weakQ_nilV {E : Env} {S : St} (j o T : Nat) {n' n : Nat} {g : Bool} {l : List V} (h : getA S.H j = some (.var n' true (.agg l))) (ho : l[o]? = some (.sl (some true) n g [])) (hg : g = false → n = 1) :
  WeakQ E S ⟨S.F, (S.nx, .own T n g (some true) []) :: setA S.H j (.var n' true (.agg (l.set o (.own S.nx)))), S.nx + 1⟩ := by
 intro c0 c ρ F hs
 have hf : ρ S.nx = none := hs.2 _ (Nat.le_refl _)
 have hro : roLe ρ (fun i => if i = S.nx then some (.slice none 0 0) else ρ i) := roLe_new hf fun i hi => by simp [hi]
 have hat : (fun i => if i = S.nx then some (Value.slice none 0 0) else ρ i) S.nx = some (.slice none 0 0) := by simp
 have hoth : ∀ i, i ≠ S.nx → (fun i => if i = S.nx then some (Value.slice none 0 0) else ρ i) i = ρ i := fun i hi => by simp [hi]
 generalize (fun i => if i = S.nx then some (Value.slice none 0 0) else ρ i) = ρ' at hro hat hoth
 obtain ⟨b0, g1, g2, g3⟩ := hs.1.heap _ _ h
 have hjn : j ≠ S.nx := fun e => by rw [e, hf] at g1; cases g1
 refine ⟨c, ρ', rfl, Cx.pub.refl _, hro, ⟨hs.1.since, hs.1.gl, fun t v ht => rd_ro hro (hs.1.slot t v ht), ?_, ?_⟩, ?_⟩
 ·intro i b hb
  simp only [getA] at hb
  split at hb
  ·rename_i e'; subst e'; cases hb
   exact ⟨_, hat, Own.nil, fun k hk => by simp [blk] at hk, hg, none, 0, rfl, rfl, rfl⟩
  ·rename_i hin
   rw [getA_setA] at hb
   split at hb
   ·rename_i e'; subst e'; cases hb
    obtain ⟨hX, T', cs, hh, hsh, hrd⟩ := g3
    refine ⟨b0, by rw [hoth _ hjn]; exact g1, g2, hX, T', cs, hh, hsh, ?_⟩
    simp only [mkV, rd] at hrd ⊢
    obtain ⟨cs', e1, e2⟩ := hrd
    exact ⟨cs', e1, rdC_nil hro hat e2 ho⟩
   ·exact blkOk_ro hro (hs.1.heap i b hb)
 ·intro a b ba bb k hab hba hbb hpa hpb hk hk'
  have hn : blkOf ρ' S.nx = none := by simp [blkOf, hat, blk]
  have hi : a ≠ S.nx := fun e' => by rw [e', hn] at hk; cases hk
  have hj : b ≠ S.nx := fun e' => by rw [e', hn] at hk'; cases hk'
  simp only [getA, Ne.symm hi, Ne.symm hj, if_false, getA_setA] at hba hbb
  rw [blkOf_eq (hoth a hi)] at hk
  rw [blkOf_eq (hoth b hj)] at hk'
  have back : ∀ {x : Nat} {bx : Blk}, (if j = x then some (Blk.var n' true (.agg (l.set o (.own S.nx)))) else getA S.H x) = some bx → privB bx = true → ∃ b', getA S.H x = some b' ∧ privB b' = true := by
   intro x bx hx hp
   split at hx
   ·rename_i e; subst e; exact ⟨_, h, rfl⟩
   ·exact ⟨bx, hx, hp⟩
  obtain ⟨ba', h1, h2⟩ := back hba hpa
  obtain ⟨bb', h3, h4⟩ := back hbb hpb
  exact hs.1.sep a b ba' bb' k hab h1 h3 h2 h4 hk hk'
 ·intro i hi
  have : i ≠ S.nx := fun e => by subst e; simp only at hi; omega
  rw [hoth i this]
  exact hs.2 i (by simp only at hi; omega)
theorem weak_nilV {E : Env} {S : St} (j o T : Nat) {n' n : Nat} {g : Bool} {l : List V} (h : getA S.H j = some (.var n' true (.agg l))) (ho : l[o]? = some (.sl (some true) n g [])) (hg : g = false → n = 1) :
  Weak E S ⟨S.F, (S.nx, .own T n g (some true) []) :: setA S.H j (.var n' true (.agg (l.set o (.own S.nx)))), S.nx + 1⟩ := (weakQ_nilV j o T h ho hg).weak
end Go.Proofs.Ytcbdmoihobdjaaa
