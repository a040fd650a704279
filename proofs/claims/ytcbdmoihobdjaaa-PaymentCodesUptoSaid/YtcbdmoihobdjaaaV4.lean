import Derived.Test.YtcbdmoihobdjaaaV3
namespace Go.Proofs.Ytcbdmoihobdjaaa
open Go.RowKit
structure EnvOk (E : Env) : Prop where
 t : ∀ T, (E.tb T).ok = true → TOk E.P E.tb T
def Gl (E : Env) (c : Cx) : Prop := ∀ g v, E.gv g = some v → pureV v ∧ rd ro0 c v (.pointer (some ⟨g, 0, none⟩))
theorem Gl.mono {E : Env} {c c' : Cx} (h : Gl E c) (k : c.pub c') : Gl E c' := fun g v hg => ⟨(h g v hg).1, rd_mono k (h g v hg).2⟩
def blkOf (ρ : Ro) (i : Nat) : Option Nat := match ρ i with
 | some (.pointer (some a)) => some a.block
 | some v => blk v
 | none => none
def blkOk (c0 c : Cx) (ρ : Ro) (i : Nat) : Blk → Prop
 | .var n g d => ∃ b, ρ i = some (.pointer (some ⟨b, 0, none⟩)) ∧ c0.mine b ∧ Var c b (rV ρ n g) d
 | .own E n g z l => ∃ v, ρ i = some v ∧ Own c E v (rV ro0 n g) l ∧ (∀ k, blk v = some k → c0.mine k) ∧ (g = false → n = 1) ∧ ∃ a cap, v = .slice a l.length cap ∧ zOk z a cap
 | .ownI E n g z l => ∃ v, ρ i = some v ∧ Own c E v (rV ρ n g) l ∧ (∀ k, blk v = some k → c0.mine k) ∧ (g = false → n = 1) ∧ ∃ a cap, v = .slice a l.length cap ∧ zOk z a cap
 | .pvar n g d => ∃ b, ρ i = some (.pointer (some ⟨b, 0, none⟩)) ∧ ptIs (rV ro0 n g) c (.pointer (some ⟨b, 0, none⟩)) d
 | .pown n g z l => ∃ v, ρ i = some v ∧ rd ro0 c (.sl z n g l) v
 | .lent k n g d => ρ i = some (.pointer (some ⟨k, 0, none⟩)) ∧ c0.mine k ∧ Var c k (rV ρ n g) d
def privB : Blk → Bool
 | .var _ _ _ => true
 | .own _ _ _ _ _ => true
 | .ownI _ _ _ _ _ => true
 | .lent _ _ _ _ => true
 | _ => false
structure Sim (E : Env) (c0 c : Cx) (ρ : Ro) (S : St) (F : Fm) : Prop where
 since : Since c0 c
 gl : Gl E c
 slot : ∀ t v, getA S.F t = some v → rd ρ c v (F t)
 heap : ∀ i b, getA S.H i = some b → blkOk c0 c ρ i b
 sep : ∀ i j bi bj k, i ≠ j → getA S.H i = some bi → getA S.H j = some bj → privB bi = true → privB bj = true → blkOf ρ i = some k → blkOf ρ j ≠ some k
def Fresh (ρ : Ro) (n : Nat) : Prop := ∀ i, n ≤ i → ρ i = none
def EffRel (c0 c : Cx) (ρ : Ro) (nid : Nat) (c' : Cx) (ρ' : Ro) : Eff → Prop
 | .none => c' = c ∧ ρ' = ρ
 | .new b => c.le c' ∧ (∀ i, i ≠ nid → ρ' i = ρ i) ∧ blkOk c0 c' ρ' nid b ∧ (∀ k, blkOf ρ' nid = some k → c.w.heap.size ≤ k)
 | .upd id b => c.chg (blkOf ρ id) c' ∧ ρ' = ρ ∧ blkOk c0 c' ρ id b
 | .app id b => c.chg (blkOf ρ id) c' ∧ (∀ i, i ≠ id → ρ' i = ρ i) ∧ blkOk c0 c' ρ' id b ∧ (∀ k, blkOf ρ' id = some k → blkOf ρ id = some k ∨ c.w.heap.size ≤ k)
 | .giv id b => ρ' = ρ ∧ blkOk c0 c' ρ id b ∧ ∃ k, ρ id = some (.pointer (some ⟨k, 0, none⟩)) ∧ c' = c.dropv (.slice (some ⟨k, 0, none⟩) 0 1)
def EffPre (S : St) : Eff → Prop
 | .upd id b => ∃ b0, getA S.H id = some b0 ∧ privB b0 = true ∧ privB b = true
 | .app id b => ∃ b0, getA S.H id = some b0 ∧ privB b0 = true ∧ privB b = true
 | .giv id b => ∃ n g d, getA S.H id = some (.var n g d) ∧ privB b = false
 | _ => True
def OutP (c0 c : Cx) (ρ : Ro) (S : St) (nid : Nat) (v : V) (e : Eff) (u : Value) (w' : World) : Prop := ∃ c' ρ', c'.w = w' ∧ EffPre S e ∧ EffRel c0 c ρ nid c' ρ' e ∧ rd ρ' c' v u
section
variable {E : Env} {c0 c : Cx} {ρ : Ro} {S : St} {F : Fm} {nid : Nat}
theorem outP_none {v : V} {u : Value} (h : rd ρ c v u) : OutP c0 c ρ S nid v .none u c.w := ⟨c, ρ, rfl, trivial, ⟨rfl, rfl⟩, h⟩
theorem roLe_new {ρ ρ' : Ro} {n : Nat} (h0 : ρ n = none) (h : ∀ i, i ≠ n → ρ' i = ρ i) : roLe ρ ρ' := by
 intro i v hi
 by_cases e : i = n
 ·subst e; rw [h0] at hi; cases hi
 ·rw [h i e]; exact hi
theorem blkOf_eq {ρ ρ' : Ro} {i : Nat} (h : ρ' i = ρ i) : blkOf ρ' i = blkOf ρ i := by unfold blkOf; rw [h]
theorem arrIs_rep {α β : Type} {r : Rep α} {s : Rep β} {f : α → β} (h : ∀ {cs d}, r.is c cs d → s.is c cs (f d)) : ∀ {l : List α} {cs : List Value}, arrIs r c cs l → arrIs s c cs (l.map f)
 | [], cs, ha => by simpa [arrIs] using ha
 | d :: l, cs, ha => by
  simp only [arrIs, List.map_cons] at ha ⊢
  obtain ⟨c1, c2, e, h1, h2⟩ := ha
  exact ⟨c1, c2, e, h h1, arrIs_rep h h2⟩
theorem Own.rep {E : TypeId} {v : Value} {r s : Rep V} {f : V → V} {l : List V} (h : ∀ {cs d}, r.is c cs d → s.is c cs (f d)) (hn : s.n = r.n) (ho : Own c E v r l) : Own c E v s (l.map f) := by
 refine ⟨by simpa using ho.1, ?_⟩
 rcases ho.2 with ⟨a, h1, rfl⟩ | ⟨g, cap, cur, e, h1, h2, h3, h4, h5, h6⟩
 ·exact .inl ⟨a, h1, rfl⟩
 ·exact .inr ⟨g, cap, cur, by simpa using e, h1, h2, by simpa using h3, h4, by rw [hn]; exact h5, by rw [hn, List.length_map]; exact arrIs_rep h h6⟩
theorem Own.ro {E : TypeId} {v : Value} {ρ ρ' : Ro} {n : Nat} {g : Bool} {l : List V} (h : ∀ {d : V} {u : Value}, rd ρ c d u → rd ρ' c d u) (ho : Own c E v (rV ρ n g) l) : Own c E v (rV ρ' n g) l := by
 have := Own.rep (f := id) (r := rV ρ n g) (s := rV ρ' n g) (fun {cs d} (h1 : shapeOk n g cs ∧ rd ρ c d (mkV g cs)) => ⟨h1.1, h h1.2⟩) rfl ho
 simpa using this
theorem blkOk_ro {ρ ρ' : Ro} (k : roLe ρ ρ') {i : Nat} {b : Blk} (h : blkOk c0 c ρ i b) : blkOk c0 c ρ' i b := by
 cases b with
 | var n g d =>
  obtain ⟨b, h1, h2, h3, T, cs, h4, h5, h6⟩ := h
  exact ⟨b, k _ _ h1, h2, h3, T, cs, h4, h5, rd_ro k h6⟩
 | own E n g z l =>
  obtain ⟨v, h1, h2⟩ := h
  exact ⟨v, k _ _ h1, h2⟩
 | ownI E n g z l =>
  obtain ⟨v, h1, h2, h3⟩ := h
  exact ⟨v, k _ _ h1, h2.ro (rd_ro k), h3⟩
 | pvar n g d =>
  obtain ⟨b, h1, h2⟩ := h
  exact ⟨b, k _ _ h1, h2⟩
 | pown n g z l =>
  obtain ⟨v, h1, h2⟩ := h
  exact ⟨v, k _ _ h1, h2⟩
 | lent k' n g d =>
  obtain ⟨h1, h2, h3, T, cs, h4, h5, h6⟩ := h
  exact ⟨k _ _ h1, h2, h3, T, cs, h4, h5, rd_ro k h6⟩
theorem blkOk_chg {c' : Cx} {o : Option Nat} (k : c.chg o c') {i : Nat} {b : Blk} (hne : privB b = true → ∀ x, blkOf ρ i = some x → o ≠ some x) (h : blkOk c0 c ρ i b) : blkOk c0 c' ρ i b := by
 cases b with
 | var n g d =>
  obtain ⟨b, h1, h2, h3⟩ := h
  exact ⟨b, h1, h2, k.var (hne rfl b (by simp [blkOf, h1])) h3⟩
 | own E n g z l =>
  obtain ⟨v, h1, h2, h3⟩ := h
  refine ⟨v, h1, h2.chg k ?_, h3⟩
  intro x hx
  refine hne rfl x ?_
  unfold blkOf
  rw [h1]
  cases v <;> simp_all [blk]
 | ownI E n g z l =>
  obtain ⟨v, h1, h2, h3⟩ := h
  refine ⟨v, h1, h2.chg k ?_, h3⟩
  intro x hx
  refine hne rfl x ?_
  unfold blkOf
  rw [h1]
  cases v <;> simp_all [blk]
 | pvar n g d =>
  obtain ⟨b, h1, h2⟩ := h
  exact ⟨b, h1, (rvPt _).mono h2 k.pub⟩
 | pown n g z l =>
  obtain ⟨v, h1, h2⟩ := h
  exact ⟨v, h1, rd_mono k.pub h2⟩
 | lent k' n g d =>
  obtain ⟨h1, h2, h3⟩ := h
  exact ⟨h1, h2, k.var (hne rfl k' (by simp [blkOf, h1])) h3⟩
theorem blkOk_lt {i : Nat} {b : Blk} (hp : privB b = true) (h : blkOk c0 c ρ i b) : ∀ k, blkOf ρ i = some k → k < c.w.heap.size := by
 intro k hk
 cases b with
 | var n g d =>
  obtain ⟨b, h1, h2, h3⟩ := h
  simp only [blkOf, h1, Option.some.injEq] at hk
  subst hk; exact h3.lt
 | own E n g z l =>
  obtain ⟨v, h1, h2, h3⟩ := h
  refine h2.lt k ?_
  unfold blkOf at hk
  rw [h1] at hk
  rcases h2.2 with ⟨a, rfl, _⟩ | ⟨g', cap, cur, rfl, _⟩
  ·exact hk
  ·exact hk
 | ownI E n g z l =>
  obtain ⟨v, h1, h2, h3⟩ := h
  refine h2.lt k ?_
  unfold blkOf at hk
  rw [h1] at hk
  rcases h2.2 with ⟨a, rfl, _⟩ | ⟨g', cap, cur, rfl, _⟩
  ·exact hk
  ·exact hk
 | pvar n g d => cases hp
 | pown n g z l => cases hp
 | lent k' n g d =>
  obtain ⟨h1, h2, h3⟩ := h
  simp only [blkOf, h1, Option.some.injEq] at hk
  subst hk; exact h3.lt
mutual
theorem purge_rd {ρ ρ' : Ro} {id : Nat} (k : ∀ i, i ≠ id → ρ' i = ρ i) : ∀ {d : V} {v : Value}, rd ρ c d v → rd ρ' c (purge id d) v
 | .int _ _, _, h => h
 | .bool _, _, h => h
 | .str _, _, h => h
 | .agg l, v, h => by
  simp only [rd, purge] at h ⊢
  obtain ⟨cs, e, h⟩ := h
  exact ⟨cs, e, purge_rdC k h⟩
 | .sl z n g l, v, h => h
 | .pp n g d, v, h => h
 | .own i, v, h => by
  simp only [purge]
  split
  ·trivial
  ·rename_i hi
   exact ⟨(k _ hi).trans h.1, h.2⟩
 | .ptr i o, v, h => by
  simp only [purge]
  split
  ·trivial
  ·rename_i hi
   simp only [rd] at h ⊢
   obtain ⟨b, h1, h2⟩ := h
   exact ⟨b, (k _ hi).trans h1, h2⟩
 | .optr i n j o, v, h => by
  simp only [purge]
  split
  ·trivial
  ·rename_i hi
   simp only [rd] at h ⊢
   obtain ⟨u, h1, h2⟩ := h
   exact ⟨u, (k _ hi).trans h1, h2⟩
 | .osub i n j o, v, h => by
  simp only [purge]
  split
  ·trivial
  ·rename_i hi
   simp only [rd] at h ⊢
   obtain ⟨u, h1, h2⟩ := h
   exact ⟨u, (k _ hi).trans h1, h2⟩
 | .tup l, v, h => by
  simp only [rd, purge] at h ⊢
  obtain ⟨cs, e, h⟩ := h
  exact ⟨cs, e, purge_rdT k h⟩
 | .fn f l, v, h => by
  simp only [rd, purge] at h ⊢
  obtain ⟨cs, e, h⟩ := h
  exact ⟨cs, e, purge_rdT k h⟩
 | .opq p, v, h => h
 | .un, _, _ => trivial
theorem purge_rdC {ρ ρ' : Ro} {id : Nat} (k : ∀ i, i ≠ id → ρ' i = ρ i) : ∀ {l : List V} {cs : List Value}, rdC ρ c l cs → rdC ρ' c (purgeL id l) cs
 | [], _, h => h
 | d :: l, cs, h => by
  simp only [rdC, purgeL] at h ⊢
  obtain ⟨u, c2, e, h1, h2, h3⟩ := h
  exact ⟨u, c2, e, h1, purge_rd k h2, purge_rdC k h3⟩
theorem purge_rdT {ρ ρ' : Ro} {id : Nat} (k : ∀ i, i ≠ id → ρ' i = ρ i) : ∀ {l : List V} {cs : List Value}, rdT ρ c l cs → rdT ρ' c (purgeL id l) cs
 | [], _, h => h
 | d :: l, cs, h => by
  simp only [rdT, purgeL] at h ⊢
  obtain ⟨u, c2, e, h2, h3⟩ := h
  exact ⟨u, c2, e, purge_rd k h2, purge_rdT k h3⟩
end
theorem purgeL_map {id : Nat} : ∀ {l : List V}, purgeL id l = l.map (purge id)
 | [] => rfl
 | d :: l => by simp only [purgeL, List.map_cons, purgeL_map]
theorem getA_purgeF {id : Nat} : ∀ {l : List (Nat × V)} {t : Nat}, getA (purgeF id l) t = (getA l t).map (purge id)
 | [], _ => rfl
 | (k, v) :: l, t => by
  simp only [purgeF, getA]
  split
  ·rfl
  ·exact getA_purgeF
theorem getA_purgeH {id : Nat} : ∀ {l : List (Nat × Blk)} {t : Nat}, getA (purgeH id l) t = (getA l t).map (purgeB id)
 | [], _ => rfl
 | (k, v) :: l, t => by
  simp only [purgeH, getA]
  split
  ·rfl
  ·exact getA_purgeH
theorem getA_setA {α : Type} : ∀ {l : List (Nat × α)} {i j : Nat} {x : α}, getA (setA l i x) j = if i = j then some x else getA l j
 | [], i, j, x => by simp only [setA, getA]
 | (k, v) :: l, i, j, x => by
  simp only [setA]
  by_cases h : k = i
  ·subst h
   rw [if_pos rfl]
   simp only [getA]
   split <;> rfl
  ·rw [if_neg h]
   simp only [getA, getA_setA]
   by_cases h1 : k = j
   ·subst h1
    simp [Ne.symm h]
   ·simp [h1]
theorem purgeB_ok {ρ ρ' : Ro} {id i : Nat} {b : Blk} (k : ∀ i, i ≠ id → ρ' i = ρ i) (hi : i ≠ id) (h : blkOk c0 c ρ i b) : blkOk c0 c ρ' i (purgeB id b) := by
 cases b with
 | var n g d =>
  obtain ⟨b, h1, h2, h3, T, cs, h4, h5, h6⟩ := h
  exact ⟨b, (k _ hi).trans h1, h2, h3, T, cs, h4, h5, purge_rd k h6⟩
 | own E n g z l =>
  obtain ⟨v, h1, h2⟩ := h
  exact ⟨v, (k _ hi).trans h1, h2⟩
 | ownI E n g z l =>
  obtain ⟨v, h1, h2, h3, h4, h5⟩ := h
  simp only [purgeB, blkOk, purgeL_map]
  exact ⟨v, (k _ hi).trans h1, Own.rep (f := purge id) (r := rV ρ n g) (s := rV ρ' n g) (fun {cs d} (h1 : shapeOk n g cs ∧ rd ρ c d (mkV g cs)) => ⟨h1.1, purge_rd k h1.2⟩) rfl h2, h3, h4, by simpa using h5⟩
 | pvar n g d =>
  obtain ⟨b, h1, h2⟩ := h
  exact ⟨b, (k _ hi).trans h1, h2⟩
 | pown n g z l =>
  obtain ⟨v, h1, h2⟩ := h
  exact ⟨v, (k _ hi).trans h1, h2⟩
 | lent k' n g d =>
  obtain ⟨h1, h2, h3, T, cs, h4, h5, h6⟩ := h
  exact ⟨(k _ hi).trans h1, h2, h3, T, cs, h4, h5, purge_rd k h6⟩
theorem blkOf_ge (h : Sim E c0 c ρ S F) {i : Nat} {b : Blk} (hb : getA S.H i = some b) (hp : privB b = true) : ∀ k, blkOf ρ i = some k → c0.mine k := by
 intro k hk
 have h1 := h.heap i b hb
 cases b with
 | var n g d =>
  obtain ⟨b, h1, h2, h3⟩ := h1
  simp only [blkOf, h1, Option.some.injEq] at hk
  subst hk; exact h2
 | own E n g z l =>
  obtain ⟨v, h1, h2, h3, _, a, cap, e, _⟩ := h1
  refine h3 k ?_
  unfold blkOf at hk
  rw [h1] at hk
  subst e
  exact hk
 | ownI E n g z l =>
  obtain ⟨v, h1, h2, h3, _, a, cap, e, _⟩ := h1
  refine h3 k ?_
  unfold blkOf at hk
  rw [h1] at hk
  subst e
  exact hk
 | pvar n g d => cases hp
 | pown n g z l => cases hp
 | lent k' n g d =>
  obtain ⟨h1, h2, h3⟩ := h1
  simp only [blkOf, h1, Option.some.injEq] at hk
  subst hk; exact h2
theorem privB_purge {id : Nat} {b : Blk} : privB (purgeB id b) = privB b := by cases b <;> rfl
theorem sim_eff (h : Sim E c0 c ρ S F) (hf : ρ nid = none) {e : Eff} {c' : Cx} {ρ' : Ro} (hp : EffPre S e) (hr : EffRel c0 c ρ nid c' ρ' e) : Sim E c0 c' ρ' (S.eff nid e) F ∧ c.pub c' ∧ ∀ i, nid ≠ i → ρ i = none → ρ' i = none := by
 cases e with
 | none =>
  obtain ⟨rfl, rfl⟩ := hr
  exact ⟨h, Cx.pub.refl _, fun _ _ hi => hi⟩
 | new b =>
  obtain ⟨h1, h2, h3, h4⟩ := hr
  have hro := roLe_new hf h2
  refine ⟨⟨h.since.le h1, h.gl.mono h1.pub, fun t v ht => rd_ro hro (rd_mono h1.pub (h.slot t v ht)), ?_, ?_⟩, h1.pub, fun i hi hn => by rw [h2 i (Ne.symm hi)]; exact hn⟩
  ·intro i b' hb
   simp only [St.eff, getA] at hb
   split at hb
   ·rename_i e; subst e; cases hb; exact h3
   ·exact blkOk_ro hro (blkOk_chg h1.chg (fun _ _ _ hx => by cases hx) (h.heap i b' hb))
  ·intro i j bi bj k hij hbi hbj hpi hpj hk hk'
   simp only [St.eff, getA] at hbi hbj
   split at hbi <;> split at hbj
   ·omega
   ·rename_i e1 e2
    subst e1
    have h5 := h4 k hk
    rw [blkOf_eq (h2 j (Ne.symm e2))] at hk'
    have := blkOk_lt hpj (h.heap j bj hbj) k hk'
    omega
   ·rename_i e1 e2
    subst e2
    have h5 := h4 k hk'
    rw [blkOf_eq (h2 i (Ne.symm e1))] at hk
    have := blkOk_lt hpi (h.heap i bi hbi) k hk
    omega
   ·rename_i e1 e2
    rw [blkOf_eq (h2 i (Ne.symm e1))] at hk
    rw [blkOf_eq (h2 j (Ne.symm e2))] at hk'
    exact h.sep i j bi bj k hij hbi hbj hpi hpj hk hk'
 | upd id b =>
  obtain ⟨h1, rfl, h3⟩ := hr
  obtain ⟨b0, hb0, hp0, hpb⟩ := hp
  refine ⟨⟨h.since.chg h1 (blkOf_ge h hb0 hp0), h.gl.mono h1.pub, fun t v ht => rd_mono h1.pub (h.slot t v ht), ?_, ?_⟩, h1.pub, fun _ _ hn => hn⟩
  ·intro i b' hb
   simp only [St.eff, getA_setA] at hb
   split at hb
   ·rename_i e; subst e; cases hb; exact h3
   ·rename_i hi
    refine blkOk_chg h1 (fun hpi x hx hx' => ?_) (h.heap i b' hb)
    exact h.sep id i b0 b' x hi hb0 hb hp0 hpi hx' hx
  ·intro i j bi bj k hij hbi hbj hpi hpj hk hk'
   simp only [St.eff, getA_setA] at hbi hbj
   have key : ∀ x bx, (if id = x then some b else getA S.H x) = some bx → privB bx = true → ∃ by', getA S.H x = some by' ∧ privB by' = true := by
    intro x bx hx hpx
    split at hx
    ·rename_i e; subst e; exact ⟨b0, hb0, hp0⟩
    ·exact ⟨bx, hx, hpx⟩
   obtain ⟨bi', hbi', hpi'⟩ := key i bi hbi hpi
   obtain ⟨bj', hbj', hpj'⟩ := key j bj hbj hpj
   exact h.sep i j bi' bj' k hij hbi' hbj' hpi' hpj' hk hk'
 | giv id b =>
  obtain ⟨rfl, h3, kk, hv, rfl⟩ := hr
  obtain ⟨n, g, d, hb0, hpb⟩ := hp
  obtain ⟨b', hv', hge, hvar⟩ := h.heap _ _ hb0
  rw [hv] at hv'
  cases hv'
  have hbv : blk (.slice (some ⟨kk, 0, none⟩) 0 1) = some kk := rfl
  have hpd := c.pub_dropv (.slice (some ⟨kk, 0, none⟩) 0 1)
  have hbo : blkOf ρ' id = some kk := by unfold blkOf; rw [hv]
  have hsep : ∀ j b', id ≠ j → getA S.H j = some b' → privB b' = true → ∀ x, blkOf ρ' j = some x → blk (.slice (some ⟨kk, 0, none⟩) 0 1) ≠ some x := by
   intro j b' hij hb hp x hx hx'
   exact h.sep id j _ b' x hij hb0 hb rfl hp (hbo ▸ hx') hx
  refine ⟨⟨h.since.dropv (fun k hk => by rw [hbv] at hk; cases hk; exact hge), h.gl.mono hpd, fun t x ht => rd_mono hpd (h.slot t x ht), ?_, ?_⟩, hpd, fun _ _ hn => hn⟩
  ·intro j b' hb
   simp only [St.eff, getA_setA] at hb
   split at hb
   ·rename_i e; subst e; cases hb; exact h3
   ·rename_i hij
    have hb0 := h.heap _ _ hb
    have hsp := hsep j b' hij hb
    cases b' with
    | var n' g' d =>
     obtain ⟨b', h1, h2, h3⟩ := hb0
     exact ⟨b', h1, h2, Cx.dropv_var h3 (hsp rfl b' (by simp [blkOf, h1]))⟩
    | own E' n' g' z' l' =>
     obtain ⟨v', h1, h2, h3, h4, a', cap', e', h5⟩ := hb0
     exact ⟨v', h1, Cx.dropv_own h2 (fun x hx => hsp rfl x (by unfold blkOf; rw [h1, e']; rw [e'] at hx; exact hx)), h3, h4, a', cap', e', h5⟩
    | ownI E' n' g' z' l' =>
     obtain ⟨v', h1, h2, h3, h4, a', cap', e', h5⟩ := hb0
     exact ⟨v', h1, Cx.dropv_own h2 (fun x hx => hsp rfl x (by unfold blkOf; rw [h1, e']; rw [e'] at hx; exact hx)), h3, h4, a', cap', e', h5⟩
    | pvar n' g' d =>
     obtain ⟨b', h1, h2⟩ := hb0
     exact ⟨b', h1, (rvPt _).mono h2 hpd⟩
    | pown n' g' z' l' =>
     obtain ⟨v', h1, h2⟩ := hb0
     exact ⟨v', h1, rd_mono hpd h2⟩
    | lent k' n' g' d =>
     obtain ⟨h1, h2, h3⟩ := hb0
     exact ⟨h1, h2, Cx.dropv_var h3 (hsp rfl k' (by simp [blkOf, h1]))⟩
  ·intro a b1 ba bb x hab ha hb hpa hpb2 hx
   simp only [St.eff, getA_setA] at ha hb
   split at ha
   ·cases ha; rw [hpb] at hpa; cases hpa
   ·split at hb
    ·cases hb; rw [hpb] at hpb2; cases hpb2
    ·exact h.sep a b1 ba bb x hab ha hb hpa hpb2 hx
 | app id b =>
  obtain ⟨h1, h2, h3, h4⟩ := hr
  obtain ⟨b0, hb0, hp0, hpb⟩ := hp
  have hid : id ≠ nid := by
   rintro rfl
   have := h.heap _ _ hb0
   cases b0 with
   | var n g d => obtain ⟨b, h5, _⟩ := this; rw [hf] at h5; cases h5
   | own E n g z l => obtain ⟨b, h5, _⟩ := this; rw [hf] at h5; cases h5
   | ownI E n g z l => obtain ⟨b, h5, _⟩ := this; rw [hf] at h5; cases h5
   | pvar n g d => cases hp0
   | pown n g z l => cases hp0
   | lent k' n g d => obtain ⟨h5, _⟩ := this; rw [hf] at h5; cases h5
  refine ⟨⟨h.since.chg h1 (blkOf_ge h hb0 hp0), h.gl.mono h1.pub, ?_, ?_, ?_⟩, h1.pub, ?_⟩
  ·intro t v ht
   simp only [St.eff, getA_purgeF, Option.map_eq_some_iff] at ht
   obtain ⟨v0, hv0, rfl⟩ := ht
   exact purge_rd h2 (rd_mono h1.pub (h.slot t v0 hv0))
  ·intro i b' hb
   simp only [St.eff, getA_setA, getA_purgeH] at hb
   split at hb
   ·rename_i e; subst e; cases hb; exact h3
   ·rename_i hi
    simp only [Option.map_eq_some_iff] at hb
    obtain ⟨b1, hb1, rfl⟩ := hb
    refine purgeB_ok h2 (Ne.symm hi) (blkOk_chg h1 (fun hpi x hx hx' => ?_) (h.heap i b1 hb1))
    exact h.sep id i b0 b1 x hi hb0 hb1 hp0 hpi hx' hx
  ·intro i j bi bj k hij hbi hbj hpi hpj hk hk'
   simp only [St.eff, getA_setA, getA_purgeH] at hbi hbj
   split at hbi <;> split at hbj
   ·omega
   ·rename_i e1 e2
    subst e1
    simp only [Option.map_eq_some_iff] at hbj
    obtain ⟨b1, hb1, rfl⟩ := hbj
    rw [privB_purge] at hpj
    rw [blkOf_eq (h2 j (Ne.symm e2))] at hk'
    rcases h4 k hk with h5 | h5
    ·exact h.sep id j b0 b1 k hij hb0 hb1 hp0 hpj h5 hk'
    ·have := blkOk_lt hpj (h.heap j b1 hb1) k hk'
     omega
   ·rename_i e1 e2
    subst e2
    simp only [Option.map_eq_some_iff] at hbi
    obtain ⟨b1, hb1, rfl⟩ := hbi
    rw [privB_purge] at hpi
    rw [blkOf_eq (h2 i (Ne.symm e1))] at hk
    rcases h4 k hk' with h5 | h5
    ·exact h.sep i id b1 b0 k hij hb1 hb0 hpi hp0 hk h5
    ·have := blkOk_lt hpi (h.heap i b1 hb1) k hk
     omega
   ·rename_i e1 e2
    simp only [Option.map_eq_some_iff] at hbi hbj
    obtain ⟨b1, hb1, rfl⟩ := hbi
    obtain ⟨b2, hb2, rfl⟩ := hbj
    rw [privB_purge] at hpi hpj
    rw [blkOf_eq (h2 i (Ne.symm e1))] at hk
    rw [blkOf_eq (h2 j (Ne.symm e2))] at hk'
    exact h.sep i j b1 b2 k hij hb1 hb2 hpi hpj hk hk'
  ·intro i hi hn
   by_cases e : i = id
   ·subst e
    exfalso
    have := h.heap _ _ hb0
    cases b0 with
    | var n g d => obtain ⟨b, h5, _⟩ := this; rw [hn] at h5; cases h5
    | own E n g z l => obtain ⟨b, h5, _⟩ := this; rw [hn] at h5; cases h5
    | ownI E n g z l => obtain ⟨b, h5, _⟩ := this; rw [hn] at h5; cases h5
    | pvar n g d => cases hp0
    | pown n g z l => cases hp0
    | lent k' n g d => obtain ⟨h5, _⟩ := this; rw [hn] at h5; cases h5
   ·rw [h2 i e]; exact hn
theorem sim_put (h : Sim E c0 c ρ S F) {d : Option Nat} {v : V} {u : Value} (hv : rd ρ c v u) : Sim E c0 c ρ (S.put d v) (updO F d u) := by
 cases d with
 | none => exact h
 | some t =>
  refine ⟨h.since, h.gl, ?_, h.heap, h.sep⟩
  intro t' v' ht
  simp only [St.put, getA] at ht
  split at ht
  ·rename_i e; subst e; cases ht
   simpa [updO, upd_same] using hv
  ·rename_i hne
   simp only [updO]
   rw [upd_ne _ _ (Ne.symm hne)]
   exact h.slot t' v' ht
end
end Go.Proofs.Ytcbdmoihobdjaaa
