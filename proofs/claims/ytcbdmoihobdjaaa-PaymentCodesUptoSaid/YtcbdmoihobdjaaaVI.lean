import Derived.Test.YtcbdmoihobdjaaaVO
namespace Go.Proofs.Ytcbdmoihobdjaaa
open Go.RowKit
section
variable {E : Env} {J : Cuts} {k : List Ct} {S S1 : St} {c0 c : Cx} {ρ : Ro} {F : Fm}
mutual
def ren (s : Nat → Nat) : V → V
 | .own i => .own (s i)
 | .ptr i o => .ptr (s i) o
 | .optr i m k o => .optr (s i) m k o
 | .osub i m k o => .osub (s i) m k o
 | .agg l => .agg (renL s l)
 | .tup l => .tup (renL s l)
 | .fn f l => .fn f (renL s l)
 | v => v
def renL (s : Nat → Nat) : List V → List V
 | [] => []
 | d :: l => ren s d :: renL s l
end
mutual
theorem ren_rd {ρ' : Ro} {s : Nat → Nat} (k : ∀ i v, ρ i = some v → ρ' (s i) = some v) : ∀ {d : V} {v : Value}, rd ρ c d v → rd ρ' c (ren s d) v
 | .int _ _, _, h => h
 | .bool _, _, h => h
 | .str _, _, h => h
 | .agg l, v, h => by
  simp only [rd, ren] at h ⊢
  obtain ⟨cs, e, h⟩ := h
  exact ⟨cs, e, ren_rdC k h⟩
 | .sl z n g l, v, h => h
 | .pp n g d, v, h => h
 | .own _, _, h => ⟨k _ _ h.1, h.2⟩
 | .ptr _ _, _, h => by
  simp only [rd, ren] at h ⊢
  obtain ⟨b, h1, h2⟩ := h
  exact ⟨b, k _ _ h1, h2⟩
 | .optr _ _ _ _, _, h => by
  simp only [rd, ren] at h ⊢
  obtain ⟨u, h1, h2⟩ := h
  exact ⟨u, k _ _ h1, h2⟩
 | .osub _ _ _ _, _, h => by
  simp only [rd, ren] at h ⊢
  obtain ⟨u, h1, h2⟩ := h
  exact ⟨u, k _ _ h1, h2⟩
 | .tup l, v, h => by
  simp only [rd, ren] at h ⊢
  obtain ⟨cs, e, h⟩ := h
  exact ⟨cs, e, ren_rdT k h⟩
 | .fn f l, v, h => by
  simp only [rd, ren] at h ⊢
  obtain ⟨cs, e, h⟩ := h
  exact ⟨cs, e, ren_rdT k h⟩
 | .opq p, v, h => h
 | .un, _, _ => trivial
theorem ren_rdC {ρ' : Ro} {s : Nat → Nat} (k : ∀ i v, ρ i = some v → ρ' (s i) = some v) : ∀ {l : List V} {cs : List Value}, rdC ρ c l cs → rdC ρ' c (renL s l) cs
 | [], _, h => h
 | d :: l, cs, h => by
  simp only [rdC, renL] at h ⊢
  obtain ⟨u, c2, e, h1, h2, h3⟩ := h
  exact ⟨u, c2, e, h1, ren_rd k h2, ren_rdC k h3⟩
theorem ren_rdT {ρ' : Ro} {s : Nat → Nat} (k : ∀ i v, ρ i = some v → ρ' (s i) = some v) : ∀ {l : List V} {cs : List Value}, rdT ρ c l cs → rdT ρ' c (renL s l) cs
 | [], _, h => h
 | d :: l, cs, h => by
  simp only [rdT, renL] at h ⊢
  obtain ⟨u, c2, e, h2, h3⟩ := h
  exact ⟨u, c2, e, ren_rd k h2, ren_rdT k h3⟩
end
def renB (s : Nat → Nat) : Blk → Blk
 | .var n g d => .var n g (ren s d)
 | b => b
def renBs (s : Nat → Nat) : List Blk → List Blk
 | [] => []
 | b :: l => renB s b :: renBs s l
theorem renBs_get {s : Nat → Nat} : ∀ {l : List Blk} {j : Nat}, (renBs s l)[j]? = (l[j]?).map (renB s)
 | [], j => by simp [renBs]
 | b :: l, 0 => by simp [renBs]
 | b :: l, j + 1 => by simp [renBs, renBs_get (l := l)]
mutual
def prV (p : Nat → Bool) : V → V
 | .own i => bif p i then .un else .own i
 | .ptr i o => bif p i then .un else .ptr i o
 | .optr i n k o => bif p i then .un else .optr i n k o
 | .osub i n k o => bif p i then .un else .osub i n k o
 | .agg l => .agg (prL p l)
 | .tup l => .tup (prL p l)
 | .fn f l => .fn f (prL p l)
 | v => v
def prL (p : Nat → Bool) : List V → List V
 | [] => []
 | d :: l => prV p d :: prL p l
end
mutual
theorem pr_rd {ρ' : Ro} {p : Nat → Bool} (k : ∀ i v, p i = false → ρ i = some v → ρ' i = some v) : ∀ {d : V} {v : Value}, rd ρ c d v → rd ρ' c (prV p d) v
 | .int _ _, _, h => h
 | .bool _, _, h => h
 | .str _, _, h => h
 | .agg l, v, h => by
  simp only [rd, prV] at h ⊢
  obtain ⟨cs, e, h⟩ := h
  exact ⟨cs, e, pr_rdC k h⟩
 | .sl z n g l, v, h => h
 | .pp n g d, v, h => h
 | .own i, v, h => by
  simp only [prV]
  cases hp : p i with
  | true => trivial
  | false => exact ⟨k _ _ hp h.1, h.2⟩
 | .ptr i o, v, h => by
  simp only [prV]
  cases hp : p i with
  | true => trivial
  | false =>
   simp only [cond_false, rd] at h ⊢
   obtain ⟨b, h1, h2⟩ := h
   exact ⟨b, k _ _ hp h1, h2⟩
 | .optr i n j o, v, h => by
  simp only [prV]
  cases hp : p i with
  | true => trivial
  | false =>
   simp only [cond_false, rd] at h ⊢
   obtain ⟨u, h1, h2⟩ := h
   exact ⟨u, k _ _ hp h1, h2⟩
 | .osub i n j o, v, h => by
  simp only [prV]
  cases hp : p i with
  | true => trivial
  | false =>
   simp only [cond_false, rd] at h ⊢
   obtain ⟨u, h1, h2⟩ := h
   exact ⟨u, k _ _ hp h1, h2⟩
 | .tup l, v, h => by
  simp only [rd, prV] at h ⊢
  obtain ⟨cs, e, h⟩ := h
  exact ⟨cs, e, pr_rdT k h⟩
 | .fn f l, v, h => by
  simp only [rd, prV] at h ⊢
  obtain ⟨cs, e, h⟩ := h
  exact ⟨cs, e, pr_rdT k h⟩
 | .opq p, v, h => h
 | .un, _, _ => trivial
theorem pr_rdC {ρ' : Ro} {p : Nat → Bool} (k : ∀ i v, p i = false → ρ i = some v → ρ' i = some v) : ∀ {l : List V} {cs : List Value}, rdC ρ c l cs → rdC ρ' c (prL p l) cs
 | [], _, h => h
 | d :: l, cs, h => by
  simp only [rdC, prL] at h ⊢
  obtain ⟨u, c2, e, h1, h2, h3⟩ := h
  exact ⟨u, c2, e, h1, pr_rd k h2, pr_rdC k h3⟩
theorem pr_rdT {ρ' : Ro} {p : Nat → Bool} (k : ∀ i v, p i = false → ρ i = some v → ρ' i = some v) : ∀ {l : List V} {cs : List Value}, rdT ρ c l cs → rdT ρ' c (prL p l) cs
 | [], _, h => h
 | d :: l, cs, h => by
  simp only [rdT, prL] at h ⊢
  obtain ⟨u, c2, e, h2, h3⟩ := h
  exact ⟨u, c2, e, pr_rd k h2, pr_rdT k h3⟩
end
theorem prL_map {p : Nat → Bool} : ∀ {l : List V}, prL p l = l.map (prV p)
 | [] => rfl
 | d :: l => by simp only [prL, List.map_cons, prL_map]
def prB (p : Nat → Bool) : Blk → Blk
 | .var n g d => .var n g (prV p d)
 | .lent k n g d => .lent k n g (prV p d)
 | .ownI E n g z l => .ownI E n g z (prL p l)
 | b => b
def prF (p : Nat → Bool) : List (Nat × V) → List (Nat × V)
 | [] => []
 | (t, v) :: l => (t, prV p v) :: prF p l
def prH (p : Nat → Bool) : List (Nat × Blk) → List (Nat × Blk)
 | [] => []
 | (t, b) :: l => (t, prB p b) :: prH p l
theorem getA_prF {p : Nat → Bool} : ∀ {l : List (Nat × V)} {t : Nat}, getA (prF p l) t = (getA l t).map (prV p)
 | [], _ => rfl
 | (k, v) :: l, t => by
  simp only [prF, getA]
  split
  ·rfl
  ·exact getA_prF
theorem getA_prH {p : Nat → Bool} : ∀ {l : List (Nat × Blk)} {t : Nat}, getA (prH p l) t = (getA l t).map (prB p)
 | [], _ => rfl
 | (k, v) :: l, t => by
  simp only [prH, getA]
  split
  ·rfl
  ·exact getA_prH
theorem privB_pr {p : Nat → Bool} {b : Blk} : privB (prB p b) = privB b := by cases b <;> rfl
theorem blkOk_some {i : Nat} {b : Blk} (h : blkOk c0 c ρ i b) : ∃ v, ρ i = some v := by
 cases b with
 | var n g d => obtain ⟨b, h1, _⟩ := h; exact ⟨_, h1⟩
 | own E n g z l => obtain ⟨v, h1, _⟩ := h; exact ⟨_, h1⟩
 | ownI E n g z l => obtain ⟨v, h1, _⟩ := h; exact ⟨_, h1⟩
 | pvar n g d => obtain ⟨b, h1, _⟩ := h; exact ⟨_, h1⟩
 | pown n g z l => obtain ⟨v, h1, _⟩ := h; exact ⟨_, h1⟩
 | lent k n g d => exact ⟨_, h.1⟩
def lentB (k : Nat) : Blk → Blk
 | .var n g d => .lent k n g d
 | b => b
def lentL (ks : Nat → Nat) : Nat → List Blk → List Blk
 | _, [] => []
 | i, b :: l => lentB (ks i) b :: lentL ks (i + 1) l
theorem lentL_get {ks : Nat → Nat} : ∀ {l : List Blk} {i j : Nat}, (lentL ks i l)[j]? = (l[j]?).map (lentB (ks (i + j)))
 | [], i, j => by simp [lentL]
 | b :: l, i, 0 => by simp [lentL]
 | b :: l, i, j + 1 => by simp [lentL, lentL_get (l := l), Nat.add_comm, Nat.add_left_comm, Nat.add_assoc]
theorem lentL_len {ks : Nat → Nat} : ∀ {l : List Blk} {i : Nat}, (lentL ks i l).length = l.length
 | [], i => rfl
 | b :: l, i => by simp [lentL, lentL_len (l := l)]
def HOkI (c0 c : Cx) (ρ : Ro) (H : List Blk) : Prop :=
 (∀ i b, H[i]? = some b → blkOk c0 c ρ i b) ∧ (∀ i, H.length ≤ i → ρ i = none) ∧
  ∀ i j bi bj k, i ≠ j → H[i]? = some bi → H[j]? = some bj → blkOf ρ i = some k → blkOf ρ j ≠ some k
def kndB : List Blk → List Blk → Bool
 | [], [] => true
 | .var _ _ _ :: l, .var _ _ _ :: m => kndB l m
 | .own _ _ _ _ _ :: l, .own _ _ _ _ _ :: m => kndB l m
 | _, _ => false
def ownsB : List Blk → Bool
 | [] => true
 | .own _ _ _ _ _ :: l => ownsB l
 | _ => false
def isVarB : Blk → Prop
 | .var _ _ _ => True
 | _ => False
def isOwnB : Blk → Prop
 | .own _ _ _ _ _ => True
 | _ => False
theorem kndB_spec : ∀ {l m : List Blk}, kndB l m = true → l.length = m.length ∧ ∀ (j : Nat) (b b' : Blk), l[j]? = some b → m[j]? = some b' → (isVarB b ∧ isVarB b') ∨ (isOwnB b ∧ isOwnB b')
 | [], [], _ => ⟨rfl, by simp⟩
 | a :: l, a' :: m, h => by
  have key : kndB l m = true ∧ ((isVarB a ∧ isVarB a') ∨ (isOwnB a ∧ isOwnB a')) := by
   cases a <;> cases a' <;> simp only [kndB] at h <;> first
    | exact ⟨h, .inl ⟨trivial, trivial⟩⟩
    | exact ⟨h, .inr ⟨trivial, trivial⟩⟩
    | cases h
  obtain ⟨h1, h2⟩ := kndB_spec key.1
  refine ⟨by simp [h1], fun j b b' hb hb' => ?_⟩
  cases j with
  | zero => simp at hb hb'; subst hb hb'; exact key.2
  | succ j => exact h2 j b b' (by simpa using hb) (by simpa using hb')
 | [], _ :: _, h => by simp [kndB] at h
 | a :: _, [], h => by cases a <;> simp [kndB] at h
theorem ownsB_spec : ∀ {l : List Blk}, ownsB l = true → ∀ (j : Nat) (b : Blk), l[j]? = some b → isOwnB b
 | [], _, j, b, hb => by simp at hb
 | a :: l, h, j, b, hb => by
  have key : ownsB l = true ∧ isOwnB a := by
   cases a <;> simp only [ownsB] at h <;> first
    | exact ⟨h, trivial⟩
    | cases h
  cases j with
  | zero => simp at hb; subst hb; exact key.2
  | succ j => exact ownsB_spec key.1 j b (by simpa using hb)
def PostI (E : Env) (c : Cx) (r : V) (H : List Blk) : Ending → World → Prop := fun e w' => ∃ v c' ρ, e = .returned v ∧ c'.w = w' ∧ c.leY c' ∧ rd ρ c' r v ∧ HOkI c c' ρ H
def CallIn (E : Env) (f : FuncId) (ws : List V) (Hin : List Blk) (r : V) (Hout Hnew : List Blk) : Prop :=
 (∀ as w, (callFunc f as).run E.P w = .ok (.enter f as) w) ∧ (kndB Hin Hout && ownsB Hnew) = true ∧
  ∀ (c : Cx) (us : List Value) (ρ0 : Ro) (ks : Nat → Nat), Gl E c → HOkI c c ρ0 (lentL ks 0 Hin) → rdT ρ0 c ws us → Calls E.P f us.toArray c.w (PostI E c r (lentL ks 0 Hout ++ Hnew))
mutual
def inV (H : List (Nat × Blk)) (ids : List Nat) : V → V
 | .own i => match posN ids i 0 with
  | some j => .own j
  | none => pubV (getA H i)
 | .ptr i o => match posN ids i 0 with
  | some j => .ptr j o
  | none => pubP o (getA H i)
 | .optr _ _ _ _ => .un
 | .osub _ _ _ _ => .un
 | .agg l => .agg (inVL H ids l)
 | .tup l => .tup (inVL H ids l)
 | .fn f l => .fn f (inVL H ids l)
 | v => v
def inVL (H : List (Nat × Blk)) (ids : List Nat) : List V → List V
 | [] => []
 | d :: l => inV H ids d :: inVL H ids l
end
theorem ro0_some {i : Nat} {v : Value} (h : ro0 i = some v) : False := by cases h
mutual
theorem inV_rd {ids : List Nat} (h : Sim E c0 c ρ S F) : ∀ {d : V} {v : Value}, rd ρ c d v → rd (roIds ρ ids) c (inV S.H ids d) v
 | .int _ _, _, hr => hr
 | .bool _, _, hr => hr
 | .str _, _, hr => hr
 | .agg l, v, hr => by
  simp only [rd, inV] at hr ⊢
  obtain ⟨cs, e, hr⟩ := hr
  exact ⟨cs, e, inV_rdC h hr⟩
 | .sl z n g l, v, hr => hr
 | .pp n g d, v, hr => hr
 | .own i, v, hr => by
  simp only [inV]
  cases hp : posN ids i 0 with
  | some j =>
   simp only [rd] at hr ⊢
   obtain ⟨_, h2⟩ := posN_some hp
   exact ⟨by simp only [roIds]; rw [show j - 0 = j from rfl] at h2; rw [h2]; exact hr.1, hr.2⟩
  | none => exact rd_ro (fun i v hi => (ro0_some hi).elim) (gview_rd (d := .own i) h hr)
 | .ptr i o, v, hr => by
  simp only [inV]
  cases hp : posN ids i 0 with
  | some j =>
   simp only [rd] at hr ⊢
   obtain ⟨b, h1, h3⟩ := hr
   obtain ⟨_, h2⟩ := posN_some hp
   exact ⟨b, by simp only [roIds]; rw [show j - 0 = j from rfl] at h2; rw [h2]; exact h1, h3⟩
  | none => exact rd_ro (fun i v hi => (ro0_some hi).elim) (gview_rd (d := .ptr i o) h hr)
 | .optr _ _ _ _, _, _ => trivial
 | .osub _ _ _ _, _, _ => trivial
 | .tup l, v, hr => by
  simp only [rd, inV] at hr ⊢
  obtain ⟨cs, e, hr⟩ := hr
  exact ⟨cs, e, inV_rdT h hr⟩
 | .fn f l, v, hr => by
  simp only [rd, inV] at hr ⊢
  obtain ⟨cs, e, hr⟩ := hr
  exact ⟨cs, e, inV_rdT h hr⟩
 | .opq p, v, hr => hr
 | .un, _, _ => trivial
theorem inV_rdC {ids : List Nat} (h : Sim E c0 c ρ S F) : ∀ {l : List V} {cs : List Value}, rdC ρ c l cs → rdC (roIds ρ ids) c (inVL S.H ids l) cs
 | [], _, hr => hr
 | d :: l, cs, hr => by
  simp only [rdC, inVL] at hr ⊢
  obtain ⟨u, c2, e, h1, h2, h3⟩ := hr
  exact ⟨u, c2, e, h1, inV_rd h h2, inV_rdC h h3⟩
theorem inV_rdT {ids : List Nat} (h : Sim E c0 c ρ S F) : ∀ {l : List V} {cs : List Value}, rdT ρ c l cs → rdT (roIds ρ ids) c (inVL S.H ids l) cs
 | [], _, hr => hr
 | d :: l, cs, hr => by
  simp only [rdT, inVL] at hr ⊢
  obtain ⟨u, c2, e, h2, h3⟩ := hr
  exact ⟨u, c2, e, inV_rd h h2, inV_rdT h h3⟩
end
theorem own_mt {T n : Nat} {g : Bool} {l l' : List V} {v : Value} (h : Own c T v (rV ro0 n g) l) (hm : mtL l l') : Own c T v (rV ro0 n g) l' := by
 have e := mtL_len hm
 refine ⟨by rw [← e]; exact h.1, ?_⟩
 rcases h.2 with ⟨a, h1, h2⟩ | ⟨g', cp, cur, h1, h2, h3, h4, h5, h6, h7⟩
 ·subst h2
  cases l' with
  | nil => exact .inl ⟨a, h1, rfl⟩
  | cons x l' => simp [mtL] at hm
 ·exact .inr ⟨g', cp, cur, by rw [← e]; exact h1, h2, h3, by rw [← e]; exact h4, h5, h6, by rw [← e]; exact rdE_arr.1 (mt_rdE hm (rdE_arr.2 h7))⟩
def inO (H : List (Nat × Blk)) (ids : List Nat) : Option Blk → Blk → Prop
 | some (.own T n g z l), .own T' n' g' z' l' => T = T' ∧ n = n' ∧ g = g' ∧ mtZ z z' ∧ mtL l l'
 | some (.var n g d), .var n' g' d' => n = n' ∧ g = g' ∧ mt (inV H ids d) d'
 | some (.lent _ n g d), .var n' g' d' => n = n' ∧ g = g' ∧ mt (inV H ids d) d'
 | _, _ => False
def insB (H : List (Nat × Blk)) (ids : List Nat) : List Nat → List Blk → Prop
 | [], [] => True
 | i :: l, b :: m => inO H ids (getA H i) b ∧ insB H ids l m
 | _, _ => False
theorem insB_get {H : List (Nat × Blk)} {ids : List Nat} : ∀ {l : List Nat} {m : List Blk}, insB H ids l m → l.length = m.length ∧ ∀ (j i : Nat) (b : Blk), l[j]? = some i → m[j]? = some b → inO H ids (getA H i) b
 | [], [], _ => ⟨rfl, by simp⟩
 | i :: l, b :: m, h => by
  simp only [insB] at h
  obtain ⟨h1, h2⟩ := insB_get h.2
  refine ⟨by simp [h1], fun j i' b' hi hb => ?_⟩
  cases j with
  | zero => simp at hi hb; subst hi hb; exact h.1
  | succ j => exact h2 j i' b' (by simpa using hi) (by simpa using hb)
 | [], _ :: _, h => by simp [insB] at h
 | _ :: _, [], h => by simp [insB] at h
def ownIds (H : List (Nat × Blk)) : List Nat → List Nat
 | [] => []
 | i :: l => ownI1 (getA H i) i (ownIds H l)
where ownI1 : Option Blk → Nat → List Nat → List Nat
 | some (.own _ _ _ _ _), i, l => i :: l
 | _, _, l => l
theorem ownIds_mem {H : List (Nat × Blk)} {i : Nat} {T n : Nat} {g : Bool} {z : Option Bool} {m : List V} (hb : getA H i = some (.own T n g z m)) : ∀ {l : List Nat}, i ∈ l → i ∈ ownIds H l
 | j :: l, h => by
  simp only [ownIds]
  rcases List.mem_cons.1 h with rfl | h
  ·rw [hb]; simp [ownIds.ownI1]
  ·have := ownIds_mem hb h
   unfold ownIds.ownI1
   split
   ·exact List.mem_cons_of_mem _ this
   ·exact this
def sg (ids : List Nat) (nx j : Nat) : Nat := match ids[j]? with
 | some i => i
 | none => nx + (j - ids.length)
def backB : Option Blk → Blk → Blk
 | some (.lent k _ _ _), .var n g d => .lent k n g d
 | _, b => b
def setIds (H0 : List (Nat × Blk)) : List (Nat × Blk) → List Nat → List Blk → List (Nat × Blk)
 | h, i :: l, b :: m => setIds H0 (setA h i (backB (getA H0 i) b)) l m
 | h, _, _ => h
theorem setIds_out {H0 : List (Nat × Blk)} {i : Nat} : ∀ {l : List Nat} {m : List Blk} {h : List (Nat × Blk)}, i ∉ l → getA (setIds H0 h l m) i = getA h i
 | [], [], _, _ => rfl
 | [], _ :: _, _, _ => rfl
 | _ :: _, [], _, _ => rfl
 | j :: l, b :: m, h, hi => by
  simp only [List.mem_cons, not_or] at hi
  simp only [setIds]
  rw [setIds_out hi.2, getA_setA, if_neg (Ne.symm hi.1)]
theorem setIds_in {H0 : List (Nat × Blk)} {i : Nat} {b : Blk} : ∀ {l : List Nat} {m : List Blk} {h : List (Nat × Blk)} {j : Nat}, l.Nodup → l[j]? = some i → m[j]? = some b → getA (setIds H0 h l m) i = some (backB (getA H0 i) b)
 | [], _, _, j, _, hi, _ => by simp at hi
 | _ :: _, [], _, j, _, _, hb => by simp at hb
 | x :: l, y :: m, h, 0, hd, hi, hb => by
  simp at hi hb
  subst hi hb
  simp only [setIds]
  rw [setIds_out (List.nodup_cons.1 hd).1, getA_setA, if_pos rfl]
 | x :: l, y :: m, h, j + 1, hd, hi, hb => by
  simp only [setIds]
  exact setIds_in (List.nodup_cons.1 hd).2 (by simpa using hi) (by simpa using hb)
def St.afterI (S : St) (ids : List Nat) (Hout Hnew : List Blk) (d : Option Nat) (r : V) : St :=
 St.put ⟨prF (memN (ownIds S.H ids)) S.F, shiftH S.nx 0 (renBs (sg ids S.nx) Hnew) ++ setIds S.H (prH (memN (ownIds S.H ids)) S.H) ids (renBs (sg ids S.nx) Hout), S.nx + Hnew.length⟩ d (ren (sg ids S.nx) r)
def ro2 (ids : List Nat) (nx : Nat) (ρ ρr : Ro) : Ro := fun i => match posN ids i 0 with
 | some j => ρr j
 | none => if i < nx then ρ i else ρr (ids.length + (i - nx))
theorem posN_get {ids : List Nat} {i j : Nat} (hd : ids.Nodup) (h : ids[j]? = some i) : posN ids i 0 = some j := by
 cases hp : posN ids i 0 with
 | none => exact absurd (List.mem_of_getElem? h) (posN_none hp)
 | some q =>
  obtain ⟨_, h2⟩ := posN_some hp
  rw [nodup_idx hd h h2]
  rfl
theorem posN_not {ids : List Nat} {i : Nat} (h : i ∉ ids) : posN ids i 0 = none := by
 cases hp : posN ids i 0 with
 | none => rfl
 | some q =>
  obtain ⟨_, h2⟩ := posN_some hp
  exact absurd (List.mem_of_getElem? h2) h
theorem ro2_in {ids : List Nat} {nx i j : Nat} {ρr : Ro} (hd : ids.Nodup) (h : ids[j]? = some i) : ro2 ids nx ρ ρr i = ρr j := by
 simp only [ro2, posN_get hd h]
theorem ro2_old {ids : List Nat} {nx i : Nat} {ρr : Ro} (h : i ∉ ids) (hi : i < nx) : ro2 ids nx ρ ρr i = ρ i := by
 simp only [ro2, posN_not h, if_pos hi]
theorem ro2_new {ids : List Nat} {nx i : Nat} {ρr : Ro} (h : ∀ j ∈ ids, j < nx) (hi : nx ≤ i) : ro2 ids nx ρ ρr i = ρr (ids.length + (i - nx)) := by
 have : i ∉ ids := fun e => by have := h i e; omega
 simp only [ro2, posN_not this, if_neg (Nat.not_lt.2 hi)]
theorem ro2_sg {ids : List Nat} {nx : Nat} {ρr : Ro} (hd : ids.Nodup) (h : ∀ j ∈ ids, j < nx) (j : Nat) : ro2 ids nx ρ ρr (sg ids nx j) = ρr j := by
 unfold sg
 cases hj : ids[j]? with
 | some i => exact ro2_in hd hj
 | none =>
  have hle := List.getElem?_eq_none_iff.1 hj
  rw [ro2_new h (Nat.le_add_right _ _)]
  congr 1; omega
def Cx.lend (c : Cx) (Y : List Nat) : Cx := { X := c.X, w := c.w, ok := c.ok, Y := Y }
theorem Cx.chg_lend (c : Cx) (Y : List Nat) : c.chg none (c.lend Y) := ⟨rfl, rfl, rfl, Nat.le_refl _, fun _ _ _ => rfl, fun _ _ => Iff.rfl, fun k hk => by cases hk⟩
theorem Cx.pub_lend (c : Cx) (Y : List Nat) : c.pub (c.lend Y) := (c.chg_lend Y).pub
theorem Var.leY {α : Type} {c c' : Cx} {b : Nat} {r : Rep α} {d : α} (h : c.leY c') (hp : c.pub c') (hb : b ∉ c.Y) (hv : Var c b r d) : Var c' b r d := by
 obtain ⟨h1, T, cs, h2, h3⟩ := hv
 have hlt := c.ok b h1
 exact ⟨(h.old b hlt hb).2 h1, T, cs, (h.below.block b hlt hb).trans h2, r.mono h3 hp⟩
theorem Own.leY {α : Type} {c c' : Cx} {E : TypeId} {v : Value} {r : Rep α} {l : List α} (ho : Own c E v r l) (h : c.leY c') (hp : c.pub c') (hb : ∀ i, blk v = some i → i ∉ c.Y) : Own c' E v r l := by
 refine ⟨ho.1, ?_⟩
 rcases ho.2 with h' | ⟨g', cap, cur, rfl, h1, h2, h3, h4, h5, h6⟩
 ·exact .inl h'
 ·have hlt := c.ok g' h1
  exact .inr ⟨g', cap, cur, rfl, (h.old g' hlt (hb g' rfl)).2 h1, (h.below.block g' hlt (hb g' rfl)).trans h2, h3, h4, h5, arrIs_mono hp h6⟩
theorem blkOf_own {i : Nat} {v : Value} {n : Nat} {a : Option Addr} {cap : Nat} (h1 : ρ i = some v) (e : v = .slice a n cap) : blkOf ρ i = blk v := by
 unfold blkOf; rw [h1, e]
theorem blkOk_leY {Y : List Nat} {c' : Cx} (h : (c.lend Y).leY c') (hp : c.pub c') {i : Nat} {b : Blk} (hne : privB b = true → ∀ x, blkOf ρ i = some x → x ∉ Y) (hb : blkOk c0 c ρ i b) : blkOk c0 c' ρ i b := by
 have hp' : (c.lend Y).pub c' := ⟨hp.size, fun k hk hx => hp.keep k hk hx⟩
 cases b with
 | var n g d =>
  obtain ⟨b, h1, h2, h3⟩ := hb
  exact ⟨b, h1, h2, Var.leY h hp' (hne rfl b (by simp [blkOf, h1])) ((c.chg_lend Y).var (by simp) h3)⟩
 | own E n g z l =>
  obtain ⟨v, h1, h2, h3, h4, a, cap, e, h5⟩ := hb
  exact ⟨v, h1, (h2.chg (c.chg_lend Y) (by simp)).leY h hp' (fun x hx => hne rfl x (by rw [blkOf_own h1 e]; exact hx)), h3, h4, a, cap, e, h5⟩
 | ownI E n g z l =>
  obtain ⟨v, h1, h2, h3, h4, a, cap, e, h5⟩ := hb
  exact ⟨v, h1, (h2.chg (c.chg_lend Y) (by simp)).leY h hp' (fun x hx => hne rfl x (by rw [blkOf_own h1 e]; exact hx)), h3, h4, a, cap, e, h5⟩
 | pvar n g d =>
  obtain ⟨b, h1, h2⟩ := hb
  exact ⟨b, h1, (rvPt _).mono h2 hp⟩
 | pown n g z l =>
  obtain ⟨v, h1, h2⟩ := hb
  exact ⟨v, h1, rd_mono hp h2⟩
 | lent k' n g d =>
  obtain ⟨h1, h2, h3⟩ := hb
  exact ⟨h1, h2, Var.leY h hp' (hne rfl k' (by simp [blkOf, h1])) ((c.chg_lend Y).var (by simp) h3)⟩
theorem blkOk_pr {ρ' : Ro} {p : Nat → Bool} {i : Nat} {b : Blk} (k : ∀ i v, p i = false → ρ i = some v → ρ' i = some v) (hi : ∀ v, ρ i = some v → ρ' i = some v) (h : blkOk c0 c ρ i b) : blkOk c0 c ρ' i (prB p b) := by
 cases b with
 | var n g d =>
  obtain ⟨b, h1, h2, h3, T, cs, h4, h5, h6⟩ := h
  exact ⟨b, hi _ h1, h2, h3, T, cs, h4, h5, pr_rd k h6⟩
 | own E n g z l =>
  obtain ⟨v, h1, h2⟩ := h
  exact ⟨v, hi _ h1, h2⟩
 | ownI E n g z l =>
  obtain ⟨v, h1, h2, h3, h4, h5⟩ := h
  simp only [prB, blkOk, prL_map]
  exact ⟨v, hi _ h1, Own.rep (f := prV p) (r := rV ρ n g) (s := rV ρ' n g) (fun {cs d} (h1 : shapeOk n g cs ∧ rd ρ c d (mkV g cs)) => ⟨h1.1, pr_rd k h1.2⟩) rfl h2, h3, h4, by simpa using h5⟩
 | pvar n g d =>
  obtain ⟨b, h1, h2⟩ := h
  exact ⟨b, hi _ h1, h2⟩
 | pown n g z l =>
  obtain ⟨v, h1, h2⟩ := h
  exact ⟨v, hi _ h1, h2⟩
 | lent k' n g d =>
  obtain ⟨h1, h2, h3, T, cs, h4, h5, h6⟩ := h
  exact ⟨hi _ h1, h2, h3, T, cs, h4, h5, pr_rd k h6⟩
def lentY (ρ : Ro) (ids : List Nat) : List Nat := ids.filterMap (blkOf ρ)
def lentK (ρ : Ro) (ids : List Nat) (j : Nat) : Nat := match ids[j]? with
 | some i => (blkOf ρ i).getD 0
 | none => 0
theorem inO_priv {H : List (Nat × Blk)} {ids : List Nat} {o : Option Blk} {b : Blk} (h : inO H ids o b) : ∃ a, o = some a ∧ privB a = true ∧ (isVarB b ∨ isOwnB b) := by
 unfold inO at h
 split at h
 ·exact ⟨_, rfl, rfl, .inr trivial⟩
 ·exact ⟨_, rfl, rfl, .inl trivial⟩
 ·exact ⟨_, rfl, rfl, .inl trivial⟩
 ·exact h.elim
theorem lent_ok (h : Sim E c0 c ρ S F) {ids : List Nat} {Hin : List Blk} (hd : ids.Nodup) (hi : insB S.H ids ids Hin) :
  HOkI (c.lend (lentY ρ ids)) (c.lend (lentY ρ ids)) (roIds ρ ids) (lentL (lentK ρ ids) 0 Hin) := by
 obtain ⟨hlen, hget⟩ := insB_get hi
 have hro : ∀ {j i : Nat}, ids[j]? = some i → roIds ρ ids j = ρ i := fun {j i} hj => by simp only [roIds, hj]
 refine ⟨?_, ?_, ?_⟩
 ·intro j b hb
  rw [lentL_get, Nat.zero_add] at hb
  cases hj : Hin[j]? with
  | none => rw [hj] at hb; cases hb
  | some b0 =>
   rw [hj] at hb
   simp only [Option.map_some, Option.some.injEq] at hb
   subst hb
   have hjl : j < ids.length := by rw [hlen]; exact (List.getElem?_eq_some_iff.1 hj).1
   obtain ⟨i, hji⟩ : ∃ i, ids[j]? = some i := ⟨_, List.getElem?_eq_getElem hjl⟩
   have hin := hget j i b0 hji hj
   have hmem : i ∈ ids := List.mem_of_getElem? hji
   have hY : ∀ k, blkOf ρ i = some k → k ∈ lentY ρ ids := fun k hk => List.mem_filterMap.2 ⟨i, hmem, hk⟩
   cases hS : getA S.H i with
   | none => rw [hS] at hin; unfold inO at hin; exact hin.elim
   | some a =>
    have hblk := h.heap i a hS
    rw [hS] at hin
    have hmy : ∀ k, blkOf ρ i = some k → (c.lend (lentY ρ ids)).mine k := fun k hk => .inr (hY k hk)
    unfold inO at hin
    split at hin
    ·rename_i T n g z l T' n' g' z' l' e
     cases e
     obtain ⟨rfl, rfl, rfl, hz, hml⟩ := hin
     obtain ⟨v, h1, h2, h3, h4, a, cap, es, h5⟩ := hblk
     exact ⟨v, (hro hji).trans h1, own_mt (h2.chg (c.chg_lend _) (by simp)) hml, fun k hk => hmy k (by rw [blkOf_own h1 es]; exact hk), h4, a, cap, by rw [← mtL_len hml]; exact es, mtZ_ok hz h5⟩
    ·rename_i n g d n' g' d' e
     cases e
     obtain ⟨rfl, rfl, hm⟩ := hin
     obtain ⟨b, h1, h2, h3⟩ := hblk
     have hb : blkOf ρ i = some b := by simp [blkOf, h1]
     have hk : lentK ρ ids j = b := by simp [lentK, hji, hb]
     simp only [lentB, hk]
     obtain ⟨q1, T0, cs0, q2, q3, q4⟩ := h3
     exact ⟨(hro hji).trans h1, hmy b hb, q1, T0, cs0, q2, q3, rd_mono (c.pub_lend _) (mt_rd hm (inV_rd h q4))⟩
    ·rename_i k0 n g d n' g' d' e
     cases e
     obtain ⟨rfl, rfl, hm⟩ := hin
     obtain ⟨h1, h2, h3⟩ := hblk
     have hb : blkOf ρ i = some k0 := by simp [blkOf, h1]
     have hk : lentK ρ ids j = k0 := by simp [lentK, hji, hb]
     simp only [lentB, hk]
     obtain ⟨q1, T0, cs0, q2, q3, q4⟩ := h3
     exact ⟨(hro hji).trans h1, hmy k0 hb, q1, T0, cs0, q2, q3, rd_mono (c.pub_lend _) (mt_rd hm (inV_rd h q4))⟩
    ·exact hin.elim
 ·intro j hj
  rw [lentL_len] at hj
  simp only [roIds]
  rw [List.getElem?_eq_none (by omega)]
 ·intro j j' b b' k hne hj hj' hk hk'
  rw [lentL_get] at hj hj'
  have get : ∀ {q : Nat} {x : Blk}, (Hin[q]?).map (lentB (lentK ρ ids (0 + q))) = some x → ∃ i a, ids[q]? = some i ∧ getA S.H i = some a ∧ privB a = true := by
   intro q x hq
   cases hj : Hin[q]? with
   | none => rw [hj] at hq; cases hq
   | some b0 =>
    have hjl : q < ids.length := by rw [hlen]; exact (List.getElem?_eq_some_iff.1 hj).1
    have hji : ids[q]? = some ids[q] := List.getElem?_eq_getElem hjl
    obtain ⟨a, h1, h2, _⟩ := inO_priv (hget q _ b0 hji hj)
    exact ⟨_, a, hji, h1, h2⟩
  obtain ⟨i, a, g1, g2, g3⟩ := get hj
  obtain ⟨i', a', g1', g2', g3'⟩ := get hj'
  have hii : i ≠ i' := by
   rintro rfl
   exact hne (nodup_idx hd g1 g1')
  have e1 : blkOf (roIds ρ ids) j = blkOf ρ i := blkOf_eq' (hro g1)
  have e2 : blkOf (roIds ρ ids) j' = blkOf ρ i' := blkOf_eq' (hro g1')
  rw [e1] at hk
  rw [e2] at hk'
  exact h.sep i i' a a' k hii g2 g2' g3 g3' hk hk'
where blkOf_eq' {ρ ρ' : Ro} {i j : Nat} (h : ρ' j = ρ i) : blkOf ρ' j = blkOf ρ i := by unfold blkOf; rw [h]
end
end Go.Proofs.Ytcbdmoihobdjaaa
