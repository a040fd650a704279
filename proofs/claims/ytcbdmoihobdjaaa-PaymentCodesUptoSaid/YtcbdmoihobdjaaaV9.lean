import Derived.Test.YtcbdmoihobdjaaaV8
namespace Go.Proofs.Ytcbdmoihobdjaaa
open Go.RowKit
def SimN (E : Env) (c0 c : Cx) (ρ : Ro) (S : St) (F : Fm) : Prop := Sim E c0 c ρ S F ∧ Fresh ρ S.nx
def HOk (c c' : Cx) (ρ : Ro) (H : List Blk) : Prop :=
 (∀ i b, H[i]? = some b → (∃ T n g z l, b = .own T n g z l) ∧ blkOk c c' ρ i b) ∧ (∀ i, H.length ≤ i → ρ i = none) ∧
  ∀ i j bi bj k, i ≠ j → H[i]? = some bi → H[j]? = some bj → blkOf ρ i = some k → blkOf ρ j ≠ some k
def PostV (E : Env) (c : Cx) (r : V) (H : List Blk) : Ending → World → Prop := fun e w' => ∃ v c' ρ, e = .returned v ∧ c'.w = w' ∧ c.le c' ∧ rd ρ c' r v ∧ HOk c c' ρ H
def CallOk (E : Env) (f : FuncId) (ws : List V) (r : V) (H : List Blk) : Prop :=
 (∀ as w, (callFunc f as).run E.P w = .ok (.enter f as) w) ∧ ∀ (c : Cx) (us : List Value), c.Y = [] → Gl E c → rdT ro0 c ws us → Calls E.P f us.toArray c.w (PostV E c r H)
def FnOk (E : Env) (p : Cx → Value → Prop) (ws : List V) (r : V) : Prop :=
 ∀ (c : Cx) (u : Value) (us : List Value), c.Y = [] → Gl E c → p c u → rdT ro0 c ws us → ∃ f cap, u = .func (.func f) #[] (List.toArray cap) ∧ (∀ as w, (callFunc f as).run E.P w = .ok (.enter f as) w) ∧ Calls E.P f (us ++ cap).toArray c.w (PostV E c r [])
mutual
def shift (n : Nat) : V → V
 | .own i => .own (n + i)
 | .ptr i o => .ptr (n + i) o
 | .optr i m k o => .optr (n + i) m k o
 | .osub i m k o => .osub (n + i) m k o
 | .agg l => .agg (shiftL n l)
 | .tup l => .tup (shiftL n l)
 | .fn f l => .fn f (shiftL n l)
 | v => v
def shiftL (n : Nat) : List V → List V
 | [] => []
 | d :: l => shift n d :: shiftL n l
end
def shiftH (n : Nat) : Nat → List Blk → List (Nat × Blk)
 | _, [] => []
 | i, b :: l => (n + i, b) :: shiftH n (i + 1) l
def St.after (S : St) (d : Option Nat) (r : V) (H : List Blk) : St := St.put { S with H := shiftH S.nx 0 H ++ S.H, nx := S.nx + H.length } d (shift S.nx r)
mutual
def flatV : V → Prop
 | .int _ _ => True
 | .bool _ => True
 | .str _ => True
 | .agg l => flatL l
 | .tup l => flatL l
 | _ => False
def flatL : List V → Prop
 | [] => True
 | d :: l => flatV d ∧ flatL l
end
def Cx.base (c0 c : Cx) (h : c0.w.heap.size ≤ c.w.heap.size) : Cx := { X := c0.X.filter (fun k => k ∉ c0.Y), w := c.w, ok := fun k hk => Nat.lt_of_lt_of_le (c0.ok k (List.mem_filter.1 hk).1) h }
theorem base_X {c0 c : Cx} {h : c0.w.heap.size ≤ c.w.heap.size} {k : Nat} : k ∈ (c0.base c h).X ↔ k ∈ c0.X ∧ k ∉ c0.Y := by simp [Cx.base]
def giveOk (E : Env) (S : St) (vs : List V) (S1 : St) (ws : List V) : Prop :=
 ∀ c0 c ρ F us, SimN E c0 c ρ S F → rdT ρ c vs us → ∃ c1 ρ1, c1.w = c.w ∧ c.pub c1 ∧ SimN E c0 c1 ρ1 S1 F ∧ rdT ro0 c1 ws us
def lookOk (E : Env) (S : St) (vs : List V) (ws : List V) : Prop :=
 ∀ c0 c ρ F us (h : Sim E c0 c ρ S F), rdT ρ c vs us → rdT ro0 (c0.base c h.since.size) ws us
def useK (E : Env) (C : List V → V → List Blk → Prop) (vs : List V) (S : St) (d : Option Nat) (K : St → Prop) : Prop :=
 ∃ ws r H, C ws r H ∧ ((∃ S1, giveOk E S vs S1 ws ∧ (wfV r → K (S1.after d r H))) ∨ (flatV r ∧ H = [] ∧ lookOk E S vs ws ∧ (wfV r → K (S.put d r))))
def evs (E : Env) (S : St) : List Operand → List TypeId → Option (List V)
 | [], _ => some []
 | x :: l, Ts => match S.evT E (Ts.headD 0) x, evs E S l Ts.tail with
  | some v, some vs => some (v :: vs)
  | _, _ => none
def anyK (E : Env) (f : FuncId) (vs : List V) (S : St) (d : Option Nat) (K : St → Prop) : Prop :=
 (∀ as w, (callFunc f as).run E.P w = .ok (.enter f as) w) ∧ ∃ S' r, (∀ c0 c ρ F us, SimN E c0 c ρ S F → rdT ρ c vs us → Calls E.P f us.toArray c.w fun e w' => ∃ v c' ρ', e = .returned v ∧ c'.w = w' ∧ SimN E c0 c' ρ' S' (updO F d v) ∧ wfV r) ∧ (wfV r → K S')
def callK (E : Env) (S : St) (d : Option Nat) (K : St → Prop) : Option V → Option (List V) → Prop
 | some (.fn f caps), some vs => useK E (CallOk E f) (vs ++ caps) S d K ∨ anyK E f (vs ++ caps) S d K
 | some (.opq p), some vs => useK E (fun ws r H => FnOk E p ws r ∧ H = []) vs S d K
 | _, _ => False
def isCall : Op → Option (Operand × List Operand × List TypeId)
 | .call c => match c.callee with
  | .value x => some (x, c.args.toList, c.argTypes.toList)
  | _ => none
 | _ => none
def bindK (S : St) (nid : Nat) (d : Option Nat) (K : St → Prop) : Res → Prop
 | some (c, v, e) => c ∧ (c → K ((S.eff nid e).put d v))
 | none => False
def stepK (E : Env) (S : St) (o : Oper) (K : St → Prop) : Prop :=
 match isCall o.op with
 | some (x, l, Ts) => callK E S o.dst K (S.ev E.gv x) (evs E S l Ts)
 | none => bindK S S.nx o.dst K (opF E S S.nx o.type o.op)
def branch (b w : Bool) (A B : Prop) : Prop := (b = w → A) ∧ (b = (!w) → B)
def guardV (v : Option V) (want : Bool) (A B : Prop) : Prop := match v with
 | some (.bool b) => branch b want A B
 | some (.tup []) => B
 | _ => False
def guardK (S : St) (ds : List (Nat × Nat)) (o : Oper) (A B : Prop) : Prop :=
 match o.guard with
 | none => A
 | some (j, want) => match getA ds j with
  | some t => guardV (getA S.F t) want A B
  | none => False
def pushD (i : Nat) (d : Option Nat) (ds : List (Nat × Nat)) : List (Nat × Nat) :=
 match d with
 | some t => (i, t) :: ds
 | none => ds
def opsK (E : Env) : Nat → List (Nat × Nat) → List Oper → (St → Prop) → St → Prop
 | _, _, [], K, S => K S
 | i, ds, o :: l, K, S => guardK S ds o (stepK E S o (opsK E (i + 1) (pushD i o.dst ds) l K)) (opsK E (i + 1) (pushD i o.dst ds) l K (S.put o.dst (.tup [])))
section
variable {E : Env} {c0 c : Cx} {ρ : Ro} {S : St} {F : Fm} {nid : Nat}
theorem fresh_eff {e : Eff} {ρ' : Ro} (hf : Fresh ρ S.nx) (h : ∀ i, S.nx ≠ i → ρ i = none → ρ' i = none) (hr : e = .none ∨ (∃ id b, e = .upd id b) ∨ (∃ id b, e = .app id b) ∨ (∃ id b, e = .giv id b) → ρ' S.nx = none) : Fresh ρ' (S.eff S.nx e).nx := by
 intro i hi
 cases e with
 | new b => simp only [St.eff] at hi; exact h i (by omega) (hf i (by omega))
 | none =>
  simp only [St.eff] at hi
  by_cases e : S.nx = i
  ·subst e; exact hr (.inl rfl)
  ·exact h i e (hf i hi)
 | upd id b =>
  simp only [St.eff] at hi
  by_cases e : S.nx = i
  ·subst e; exact hr (.inr (.inl ⟨_, _, rfl⟩))
  ·exact h i e (hf i hi)
 | app id b =>
  simp only [St.eff] at hi
  by_cases e : S.nx = i
  ·subst e; exact hr (.inr (.inr (.inl ⟨_, _, rfl⟩)))
  ·exact h i e (hf i hi)
 | giv id b =>
  simp only [St.eff] at hi
  by_cases e : S.nx = i
  ·subst e; exact hr (.inr (.inr (.inr ⟨_, _, rfl⟩)))
  ·exact h i e (hf i hi)
theorem simN_eff (h : SimN E c0 c ρ S F) {e : Eff} {c' : Cx} {ρ' : Ro} (hp : EffPre S e) (hr : EffRel c0 c ρ S.nx c' ρ' e) : SimN E c0 c' ρ' (S.eff S.nx e) F := by
 obtain ⟨h1, h2, h3⟩ := sim_eff h.1 (h.2 _ (Nat.le_refl _)) hp hr
 refine ⟨h1, fresh_eff h.2 h3 ?_⟩
 rintro (rfl | ⟨id, b, rfl⟩ | ⟨id, b, rfl⟩ | ⟨id, b, rfl⟩)
 ·rw [hr.2]; exact h.2 _ (Nat.le_refl _)
 ·rw [hr.2.1]; exact h.2 _ (Nat.le_refl _)
 rotate_left
 ·rw [hr.1]; exact h.2 _ (Nat.le_refl _)
 ·obtain ⟨b0, hb0, hp0, _⟩ := hp
  have hid : S.nx ≠ id := by
   rintro rfl
   have h5 := h.1.heap _ _ hb0
   have h6 := h.2 _ (Nat.le_refl S.nx)
   cases b0 with
   | var n g d => obtain ⟨b, h5, _⟩ := h5; rw [h6] at h5; cases h5
   | own E n g z l => obtain ⟨b, h5, _⟩ := h5; rw [h6] at h5; cases h5
   | ownI E n g z l => obtain ⟨b, h5, _⟩ := h5; rw [h6] at h5; cases h5
   | pvar n g d => cases hp0
   | pown n g z l => cases hp0
   | lent k' n g d => obtain ⟨h5, _⟩ := h5; rw [h6] at h5; cases h5
  rw [hr.2.1 _ hid]; exact h.2 _ (Nat.le_refl _)
theorem simN_put (h : SimN E c0 c ρ S F) {d : Option Nat} {v : V} {u : Value} (hv : rd ρ c v u) : SimN E c0 c ρ (S.put d v) (updO F d u) := by
 refine ⟨sim_put h.1 hv, ?_⟩
 cases d <;> exact h.2
mutual
theorem shift_rd {ρ' : Ro} {n : Nat} (k : ∀ i v, ρ i = some v → ρ' (n + i) = some v) : ∀ {d : V} {v : Value}, rd ρ c d v → rd ρ' c (shift n d) v
 | .int _ _, _, h => h
 | .bool _, _, h => h
 | .str _, _, h => h
 | .agg l, v, h => by
  simp only [rd, shift] at h ⊢
  obtain ⟨cs, e, h⟩ := h
  exact ⟨cs, e, shift_rdC k h⟩
 | .sl z n g l, v, h => h
 | .pp n g d, v, h => h
 | .own _, _, h => ⟨k _ _ h.1, h.2⟩
 | .ptr _ _, _, h => by
  simp only [rd, shift] at h ⊢
  obtain ⟨b, h1, h2⟩ := h
  exact ⟨b, k _ _ h1, h2⟩
 | .optr _ _ _ _, _, h => by
  simp only [rd, shift] at h ⊢
  obtain ⟨u, h1, h2⟩ := h
  exact ⟨u, k _ _ h1, h2⟩
 | .osub _ _ _ _, _, h => by
  simp only [rd, shift] at h ⊢
  obtain ⟨u, h1, h2⟩ := h
  exact ⟨u, k _ _ h1, h2⟩
 | .tup l, v, h => by
  simp only [rd, shift] at h ⊢
  obtain ⟨cs, e, h⟩ := h
  exact ⟨cs, e, shift_rdT k h⟩
 | .fn f l, v, h => by
  simp only [rd, shift] at h ⊢
  obtain ⟨cs, e, h⟩ := h
  exact ⟨cs, e, shift_rdT k h⟩
 | .opq p, v, h => h
 | .un, _, _ => trivial
theorem shift_rdC {ρ' : Ro} {n : Nat} (k : ∀ i v, ρ i = some v → ρ' (n + i) = some v) : ∀ {l : List V} {cs : List Value}, rdC ρ c l cs → rdC ρ' c (shiftL n l) cs
 | [], _, h => h
 | d :: l, cs, h => by
  simp only [rdC, shiftL] at h ⊢
  obtain ⟨u, c2, e, h1, h2, h3⟩ := h
  exact ⟨u, c2, e, h1, shift_rd k h2, shift_rdC k h3⟩
theorem shift_rdT {ρ' : Ro} {n : Nat} (k : ∀ i v, ρ i = some v → ρ' (n + i) = some v) : ∀ {l : List V} {cs : List Value}, rdT ρ c l cs → rdT ρ' c (shiftL n l) cs
 | [], _, h => h
 | d :: l, cs, h => by
  simp only [rdT, shiftL] at h ⊢
  obtain ⟨u, c2, e, h2, h3⟩ := h
  exact ⟨u, c2, e, shift_rd k h2, shift_rdT k h3⟩
end
mutual
theorem flat_rd {ρ' : Ro} {c' : Cx} : ∀ {d : V} {v : Value}, flatV d → rd ρ c d v → rd ρ' c' d v
 | .int _ _, _, _, h => h
 | .bool _, _, _, h => h
 | .str _, _, _, h => h
 | .agg l, v, hp, h => by
  simp only [rd, flatV] at h hp ⊢
  obtain ⟨cs, e, h⟩ := h
  exact ⟨cs, e, flat_rdC hp h⟩
 | .tup l, v, hp, h => by
  simp only [rd, flatV] at h hp ⊢
  obtain ⟨cs, e, h⟩ := h
  exact ⟨cs, e, flat_rdT hp h⟩
 | .sl _ _ _ _, _, hp, _ => by simp only [flatV] at hp
 | .pp _ _ _, _, hp, _ => by simp only [flatV] at hp
 | .own _, _, hp, _ => by simp only [flatV] at hp
 | .ptr _ _, _, hp, _ => by simp only [flatV] at hp
 | .optr _ _ _ _, _, hp, _ => by simp only [flatV] at hp
 | .osub _ _ _ _, _, hp, _ => by simp only [flatV] at hp
 | .fn _ _, _, hp, _ => by simp only [flatV] at hp
 | .opq _, _, hp, _ => by simp only [flatV] at hp
 | .un, _, hp, _ => by simp only [flatV] at hp
theorem flat_rdC {ρ' : Ro} {c' : Cx} : ∀ {l : List V} {cs : List Value}, flatL l → rdC ρ c l cs → rdC ρ' c' l cs
 | [], _, _, h => h
 | d :: l, cs, hp, h => by
  simp only [rdC, flatL] at h hp ⊢
  obtain ⟨u, c2, e, h1, h2, h3⟩ := h
  exact ⟨u, c2, e, h1, flat_rd hp.1 h2, flat_rdC hp.2 h3⟩
theorem flat_rdT {ρ' : Ro} {c' : Cx} : ∀ {l : List V} {cs : List Value}, flatL l → rdT ρ c l cs → rdT ρ' c' l cs
 | [], _, _, h => h
 | d :: l, cs, hp, h => by
  simp only [rdT, flatL] at h hp ⊢
  obtain ⟨u, c2, e, h2, h3⟩ := h
  exact ⟨u, c2, e, flat_rd hp.1 h2, flat_rdT hp.2 h3⟩
end
theorem getA_shiftH {n : Nat} : ∀ {H : List Blk} {k i : Nat}, getA (shiftH n k H) i = if n + k ≤ i then H[i - (n + k)]? else none
 | [], k, i => by simp [shiftH, getA]
 | b :: H, k, i => by
  simp only [shiftH, getA, getA_shiftH]
  by_cases h : n + k = i
  ·subst h; simp
  ·rw [if_neg h]
   by_cases h1 : n + k ≤ i
   ·rw [if_pos h1, if_pos (by omega)]
    have : i - (n + k) = (i - (n + (k + 1))) + 1 := by omega
    rw [this, List.getElem?_cons_succ]
   ·rw [if_neg h1, if_neg (by omega)]
theorem getA_append {α : Type} : ∀ {l m : List (Nat × α)} {i : Nat}, getA (l ++ m) i = (match getA l i with | some x => some x | none => getA m i)
 | [], m, i => rfl
 | (k, x) :: l, m, i => by
  simp only [List.cons_append, getA]
  split
  ·rfl
  ·exact getA_append
def roJoin (n : Nat) (ρ ρ' : Ro) : Ro := fun i => if i < n then ρ i else ρ' (i - n)
theorem simN_after (h : SimN E c0 c ρ S F) {c' : Cx} (hle : c.le c') {r : V} {v : Value} {ρr : Ro} {H : List Blk} (hr : rd ρr c' r v) (hH : HOk c.noY c' ρr H) (d : Option Nat) : SimN E c0 c' (roJoin S.nx ρ ρr) (S.after d r H) (updO F d v) := by
 have hro : roLe ρ (roJoin S.nx ρ ρr) := by
  intro i x hi
  have : i < S.nx := by
   rcases Nat.lt_or_ge i S.nx with h1 | h1
   ·exact h1
   ·rw [h.2 i h1] at hi; cases hi
  simp [roJoin, this, hi]
 have hj : ∀ i, roJoin S.nx ρ ρr (S.nx + i) = ρr i := fun i => by
  have : ¬ S.nx + i < S.nx := by omega
  simp only [roJoin, if_neg this, Nat.add_sub_cancel_left]
 have hlt : ∀ i, i < S.nx → roJoin S.nx ρ ρr i = ρ i := fun i hi => by simp [roJoin, hi]
 obtain ⟨hH1, hH2, hH3⟩ := hH
 have hold : ∀ i b, getA S.H i = some b → privB b = true → i < S.nx := by
  intro i b hb hp
  rcases Nat.lt_or_ge i S.nx with h1 | h1
  ·exact h1
  ·exfalso
   have h5 := h.1.heap _ _ hb
   have h6 := h.2 i h1
   cases b with
   | var n g d => obtain ⟨b, h5, _⟩ := h5; rw [h6] at h5; cases h5
   | own E n g z l => obtain ⟨b, h5, _⟩ := h5; rw [h6] at h5; cases h5
   | ownI E n g z l => obtain ⟨b, h5, _⟩ := h5; rw [h6] at h5; cases h5
   | pvar n g d => cases hp
   | pown n g z l => cases hp
   | lent k' n g d => obtain ⟨h5, _⟩ := h5; rw [h6] at h5; cases h5
 have hnew : ∀ j b, H[j]? = some b → blkOk c0 c' (roJoin S.nx ρ ρr) (S.nx + j) b ∧ ∀ k, blkOf (roJoin S.nx ρ ρr) (S.nx + j) = some k → c.w.heap.size ≤ k := by
  intro j b hb
  obtain ⟨⟨T, n, g, z, l, rfl⟩, v', h1, h2, h3, h4, h5⟩ := hH1 j b hb
  refine ⟨⟨v', (hj j).trans h1, h2, fun k hk => .inl (Nat.le_trans h.1.since.size (Cx.noY_mine (h3 k hk))), h4, h5⟩, ?_⟩
  intro k hk
  obtain ⟨a, cap, rfl, _⟩ := h5
  unfold blkOf at hk
  rw [hj j, h1] at hk
  exact Cx.noY_mine (h3 k hk)
 have hput : ∀ (S' : St), SimN E c0 c' (roJoin S.nx ρ ρr) S' F → SimN E c0 c' (roJoin S.nx ρ ρr) (S'.put d (shift S.nx r)) (updO F d v) :=
  fun S' hS => simN_put hS (shift_rd (fun i x hi => (hj i).trans hi) hr)
 refine hput _ ⟨⟨h.1.since.le hle, h.1.gl.mono hle.pub, fun t x ht => rd_ro hro (rd_mono hle.pub (h.1.slot t x ht)), ?_, ?_⟩, ?_⟩
 ·intro i b hb
  simp only [getA_append, getA_shiftH, Nat.add_zero] at hb
  by_cases h1 : S.nx ≤ i
  ·rw [if_pos h1] at hb
   cases hq : H[i - S.nx]? with
   | some x =>
    rw [hq] at hb; cases hb
    have := (hnew _ _ hq).1
    rwa [Nat.add_sub_cancel' h1] at this
   | none =>
    rw [hq] at hb
    exact blkOk_ro hro (blkOk_chg hle.chg (fun _ _ _ hx => by cases hx) (h.1.heap i b hb))
  ·rw [if_neg h1] at hb
   exact blkOk_ro hro (blkOk_chg hle.chg (fun _ _ _ hx => by cases hx) (h.1.heap i b hb))
 ·have key : ∀ i b, getA (shiftH S.nx 0 H ++ S.H) i = some b → privB b = true → (∃ j, i = S.nx + j ∧ H[j]? = some b) ∨ (i < S.nx ∧ getA S.H i = some b) := by
   intro i b hb hp
   simp only [getA_append, getA_shiftH, Nat.add_zero] at hb
   by_cases h1 : S.nx ≤ i
   ·rw [if_pos h1] at hb
    cases hq : H[i - S.nx]? with
    | some x => rw [hq] at hb; cases hb; exact .inl ⟨i - S.nx, by omega, hq⟩
    | none => rw [hq] at hb; have := hold i b hb hp; omega
   ·rw [if_neg h1] at hb; exact .inr ⟨by omega, hb⟩
  intro i j bi bj k hij hbi hbj hpi hpj hk hk'
  rcases key i bi hbi hpi with ⟨i', rfl, hi'⟩ | ⟨hi', hbi'⟩ <;> rcases key j bj hbj hpj with ⟨j', rfl, hj'⟩ | ⟨hj', hbj'⟩
  ·rw [blkOf_eq (ρ := fun x => ρr (x - S.nx)) (by simp [hj])] at hk hk'
   refine hH3 i' j' bi bj k (by omega) hi' hj' ?_ ?_
   ·simpa [blkOf] using hk
   ·simpa [blkOf] using hk'
  ·have h1 := (hnew _ _ hi').2 k hk
   rw [blkOf_eq (hlt j hj')] at hk'
   have := blkOk_lt hpj (h.1.heap j bj hbj') k hk'
   omega
  ·have h1 := (hnew _ _ hj').2 k hk'
   rw [blkOf_eq (hlt i hi')] at hk
   have := blkOk_lt hpi (h.1.heap i bi hbi') k hk
   omega
  ·rw [blkOf_eq (hlt i hi')] at hk
   rw [blkOf_eq (hlt j hj')] at hk'
   exact h.1.sep i j bi bj k hij hbi' hbj' hpi hpj hk hk'
 ·intro i hi
  simp only at hi
  have : ¬ i < S.nx := by omega
  simp only [roJoin, this, if_false]
  exact hH2 _ (by omega)
theorem rdT_append : ∀ {l m : List V} {cs ds : List Value}, rdT ρ c l cs → rdT ρ c m ds → rdT ρ c (l ++ m) (cs ++ ds)
 | [], m, cs, ds, h, h' => by simp only [rdT] at h; subst h; simpa using h'
 | d :: l, m, cs, ds, h, h' => by
  simp only [rdT] at h
  obtain ⟨u, c2, e, h2, h3⟩ := h
  rw [e]
  simp only [List.cons_append, rdT]
  exact ⟨u, _, rfl, h2, rdT_append h3 h'⟩
theorem evs_rd (h : Sim E c0 c ρ S F) : ∀ {l : List Operand} {Ts : List TypeId} {vs : List V}, evs E S l Ts = some vs → rdT ρ c vs (l.map (ev F))
 | [], _, _, he => by simp only [evs, Option.some.injEq] at he; subst he; rfl
 | x :: l, Ts, vs, he => by
  simp only [evs] at he
  split at he
  ·rename_i v vs' h1 h2
   cases he
   simp only [List.map_cons, rdT]
   exact ⟨_, _, rfl, evT_rd h h1, evs_rd h h2⟩
  ·cases he
theorem HOk.nil {c' : Cx} : HOk c c' ro0 [] := ⟨by simp, fun _ _ => rfl, by simp⟩
theorem pub_base (h : Sim E c0 c ρ S F) : c.pub (c0.base c h.since.size) := ⟨Nat.le_refl _, fun k hk hx => ⟨fun h' => hx (h.since.X k (base_X.1 h').1 (base_X.1 h').2), rfl⟩⟩
theorem use_sound {C : List V → V → List Blk → Prop} {f : FuncId} {as : List Value} {us : List Value} {vs : List V} {d : Option Nat} {K : St → Prop} (h : SimN E c0 c ρ S F)
  (hC : ∀ ws r H, C ws r H → ∀ c2 : Cx, c2.Y = [] → c2.w = c.w → c.pub c2 → Gl E c2 → rdT ro0 c2 ws us → Calls E.P f as.toArray c2.w (PostV E c2 r H)) (hus : rdT ρ c vs us) (hk : useK E C vs S d K) :
  Calls E.P f as.toArray c.w fun e w' => ∃ v, e = .returned v ∧ ∃ c' ρ' S', c'.w = w' ∧ SimN E c0 c' ρ' S' (updO F d v) ∧ K S' := by
 obtain ⟨ws, r, H, hc, hk⟩ := hk
 rcases hk with ⟨S1, hg, hk⟩ | ⟨hfl, rfl, hl, hk⟩
 ·obtain ⟨c1, ρ1, hw, hpb, hS, hrd⟩ := hg c0 c ρ F us h hus
  have := hC ws r H hc c1.noY rfl hw (hpb.trans (Cx.pub_noY c1)) (hS.1.gl.mono (Cx.pub_noY c1)) (rdT_mono (Cx.pub_noY c1) hrd)
  rw [show c1.noY.w = c.w from hw] at this
  refine this.mono ?_
  rintro e w' ⟨v, c', ρr, rfl, rfl, hle, hr, hH⟩
  exact ⟨v, rfl, c', _, _, rfl, simN_after hS ⟨hle.below, hle.old⟩ hr hH d, hk (rd_wf hr)⟩
 ·have hrd := hl c0 c ρ F us h.1 hus
  have hpb := pub_base h.1
  have := hC ws r [] hc (c0.base c h.1.since.size) rfl rfl hpb (h.1.gl.mono hpb) hrd
  refine (show Calls E.P f as.toArray c.w _ from this).mono ?_
  rintro e w' ⟨v, c', ρr, rfl, rfl, hle, hr, hH⟩
  have hb : Below c.w.heap.size c.w c'.w := hle.below
  have hle' : c.le (c.at c'.w hb.size) := Cx.le_at hb
  refine ⟨v, rfl, c.at c'.w hb.size, ρ, S.put d r, rfl, ?_, hk (rd_wf hr)⟩
  have hS : SimN E c0 (c.at c'.w hb.size) ρ S F := by
   refine ⟨⟨h.1.since.le hle', h.1.gl.mono hle'.pub, fun t x ht => rd_mono hle'.pub (h.1.slot t x ht), ?_, h.1.sep⟩, h.2⟩
   intro i b hb'
   exact blkOk_chg hle'.chg (fun _ _ _ hx => by cases hx) (h.1.heap i b hb')
  exact simN_put hS (flat_rd hfl hr)
theorem run_callv {P : Program} {o : Oper} {cl : Call} {x : Operand} {f : FuncId} {cap : List Value} {w : World} (ho : o.op = .call cl) (hx : cl.callee = .value x) (hv : ev F x = .func (.func f) #[] cap.toArray)
  (hc : ∀ as w, (callFunc f as).run P w = .ok (.enter f as) w) : run P F o w = .ok (.enter f (cl.args.toList.map (ev F) ++ cap).toArray) w := by
 obtain ⟨callee, args, ats⟩ := cl
 obtain ⟨args⟩ := args
 simp only at hx
 subst hx
 simp only [run, execOp, ho, resolve, hv, Deferred.ofValue, invoke, Sem.run_bind, Sem.run_pure, Result.andThen_ok, List.map_toArray, hc]
 congr 2
 simp
def NextP (E : Env) (c0 : Cx) (F : Fm) (d : Option Nat) (K : St → Prop) (v : Value) (w' : World) : Prop := ∃ c' ρ' S', c'.w = w' ∧ SimN E c0 c' ρ' S' (updO F d v) ∧ K S'
theorem step_sound (hE : EnvOk E) (h : SimN E c0 c ρ S F) {o : Oper} {K : St → Prop} (hk : stepK E S o K) : Yields E.P (NextP E c0 F o.dst K) (run E.P F o c.w) := by
 unfold stepK at hk
 split at hk
 ·rename_i x l Ts hi
  have hop : ∃ cl, o.op = .call cl ∧ cl.callee = .value x ∧ cl.args.toList = l := by
   unfold isCall at hi
   split at hi
   ·rename_i cl ho
    split at hi
    ·rename_i y hy
     simp only [Option.some.injEq, Prod.mk.injEq] at hi
     obtain ⟨rfl, h2, _⟩ := hi
     exact ⟨cl, ho, hy, h2⟩
    ·cases hi
   ·cases hi
  obtain ⟨cl, ho, hcl, rfl⟩ := hop
  unfold callK at hk
  split at hk
  ·rename_i f caps vs hx hvs
   have hf := ev_rd h.1 hx
   simp only [rd] at hf
   obtain ⟨cap, hf, hcap⟩ := hf
   have hus := rdT_append (evs_rd h.1 hvs) hcap
   rcases hk with hk | ⟨hent, S', r, hcalls, hk'⟩
   case inr =>
    rw [run_callv (F := F) (w := c.w) ho hcl hf hent]
    refine (hcalls c0 c ρ F _ h hus).mono ?_
    rintro e w' ⟨v, c', ρ', rfl, rfl, hS, hwf⟩
    exact ⟨v, rfl, c', ρ', S', rfl, hS, hk' hwf⟩
   obtain ⟨ws, r, H, hc, hk'⟩ := hk
   have hrun := run_callv (F := F) (w := c.w) ho hcl hf hc.1
   rw [hrun]
   refine (use_sound (C := CallOk E f) h (fun ws r H hC c2 hY hw _ hg hr => hC.2 c2 _ hY hg hr) hus ⟨ws, r, H, hc, hk'⟩).mono ?_
   rintro e w' ⟨v, rfl, h1⟩
   exact ⟨v, rfl, h1⟩
  ·rename_i p vs hx hvs
   have hf := ev_rd h.1 hx
   simp only [rd] at hf
   have hus := evs_rd h.1 hvs
   obtain ⟨hp, _, hgrow⟩ := hf
   obtain ⟨ws, r, H, ⟨hfn, hH⟩, hk'⟩ := hk
   have hshape : ∃ f cap, ev F x = .func (.func f) #[] (List.toArray cap) ∧ ∀ as w, (callFunc f as).run E.P w = .ok (.enter f as) w := by
    rcases hk' with ⟨S1, hg, _⟩ | ⟨_, _, hl, _⟩
    ·obtain ⟨c1, ρ1, hw, hpb, hS, hrd⟩ := hg c0 c ρ F _ h hus
     obtain ⟨f, cap, e1, e2, _⟩ := hfn c1.noY _ _ rfl (hS.1.gl.mono (Cx.pub_noY c1)) (hgrow _ _ _ hp (hpb.trans (Cx.pub_noY c1))) (rdT_mono (Cx.pub_noY c1) hrd)
     exact ⟨f, cap, e1, e2⟩
    ·have hrd := hl c0 c ρ F _ h.1 hus
     have hpb := pub_base h.1
     obtain ⟨f, cap, e1, e2, _⟩ := hfn _ _ _ rfl (h.1.gl.mono hpb) (hgrow _ _ _ hp hpb) hrd
     exact ⟨f, cap, e1, e2⟩
   obtain ⟨f, cap, e1, e2⟩ := hshape
   have hrun := run_callv (F := F) (w := c.w) ho hcl e1 e2
   rw [hrun]
   refine (use_sound (C := fun ws r H => FnOk E p ws r ∧ H = []) h (fun ws r H hC c2 hY hw hpb hg hr => ?_) hus ⟨ws, r, H, ⟨hfn, hH⟩, hk'⟩).mono ?_
   ·obtain ⟨hfn, rfl⟩ := hC
    obtain ⟨f', cap', e3, _, hcalls⟩ := hfn c2 _ _ hY hg (hgrow _ _ _ hp hpb) hr
    rw [e1] at e3
    simp only [Value.func.injEq, Fn.func.injEq, true_and] at e3
    obtain ⟨rfl, e4⟩ := e3
    have e5 : cap = cap' := by simpa using e4
    subst e5
    exact hcalls
   ·rintro e w' ⟨v, rfl, h1⟩
    exact ⟨v, rfl, h1⟩
  ·exact hk.elim
 ·unfold bindK at hk
  split at hk
  ·rename_i cnd v e hr
   obtain ⟨hc, hk⟩ := hk
   refine (opF_sound hE h.1 (h.2 _ (Nat.le_refl _)) hr hc).mono ?_
   rintro u w' ⟨c', ρ', rfl, hp, hrel, hrd⟩
   exact ⟨c', ρ', _, rfl, simN_put (simN_eff h hp hrel) hrd, hk hc⟩
  ·exact hk.elim
def dsOk (ops : Array Oper) (i : Nat) (ds : List (Nat × Nat)) : Prop := ∀ j t, getA ds j = some t → j < i ∧ (ops[j]?).bind (·.dst) = some t
theorem dsOk_push {ops : Array Oper} {i : Nat} {ds : List (Nat × Nat)} {o : Oper} (h : dsOk ops i ds) (ho : ops[i]? = some o) : dsOk ops (i + 1) (pushD i o.dst ds) := by
 intro j t hj
 cases hd : o.dst with
 | none =>
  rw [hd] at hj
  have := h j t hj
  exact ⟨by omega, this.2⟩
 | some d =>
  rw [hd] at hj
  simp only [pushD, getA] at hj
  split at hj
  ·rename_i e; subst e; cases hj
   exact ⟨by omega, by rw [ho]; exact hd⟩
  ·have := h j t hj
   exact ⟨by omega, this.2⟩
theorem guard_sound (h : SimN E c0 c ρ S F) {ops : Array Oper} {i : Nat} {ds : List (Nat × Nat)} {o : Oper} {A B : Prop} (hds : dsOk ops i ds) (hk : guardK S ds o A B) : (guardB ops F o = true ∧ A) ∨ (guardB ops F o = false ∧ B) := by
 unfold guardK at hk
 unfold guardB
 cases hg : o.guard with
 | none => rw [hg] at hk; exact .inl ⟨rfl, hk⟩
 | some p =>
  obtain ⟨j, want⟩ := p
  rw [hg] at hk
  simp only at hk
  cases hj : getA ds j with
  | none => rw [hj] at hk; exact hk.elim
  | some t =>
   rw [hj] at hk
   simp only at hk
   unfold guardV at hk
   split at hk
   ·rename_i b hb
    have hv := h.1.slot _ _ hb
    simp only [rd] at hv
    simp only [(hds j t hj).2, hv]
    by_cases e : b = want
    ·exact .inl ⟨by simp [e], hk.1 e⟩
    ·exact .inr ⟨by simp [e], hk.2 (by cases b <;> cases want <;> simp_all)⟩
   ·rename_i hb
    have hv := h.1.slot _ _ hb
    simp only [rd] at hv
    obtain ⟨cs, hv, _⟩ := hv
    simp only [(hds j t hj).2, hv]
    exact .inr ⟨by simp, hk⟩
   ·exact hk.elim
def Then (E : Env) (c0 : Cx) (n : Nat) (K : St → Prop) (Q : Act → World → Prop) : Prop := ∀ c ρ S F a, SimN E c0 c ρ S F → Fr n F a → K S → Q a c.w
theorem ops_sound (hE : EnvOk E) {n : Nat} {ops : Array Oper} (hs : slotsB n ops = true) {K : St → Prop} {Q : Exit → Act → World → Prop} (hQ : Then E c0 n K (Q .normal)) :
  ∀ (l pre : List Oper) (ds : List (Nat × Nat)), ops.toList = pre ++ l → dsOk ops pre.length ds → ∀ c ρ S F a, SimN E c0 c ρ S F → Fr n F a → opsK E pre.length ds l K S →
   wpOps E.P ops Q (List.range' pre.length l.length) a c.w
 | [], pre, ds, hl, hds, c, ρ, S, F, a, h, hf, hk => by
  simp only [List.length_nil, List.range'_zero, wpOps]
  exact hQ c ρ S F a h hf hk
 | o :: l, pre, ds, hl, hds, c, ρ, S, F, a, h, hf, hk => by
  have ho : ops[pre.length]? = some o := by
   rw [← Array.getElem?_toList, hl, List.getElem?_append_right (Nat.le_refl _)]
   simp
  have ih := ops_sound hE hs hQ l (pre ++ [o]) (pushD pre.length o.dst ds) (by rw [hl]; simp) (by simpa using dsOk_push hds ho)
  simp only [List.length_append, List.length_cons, List.length_nil] at ih
  simp only [opsK] at hk
  rw [List.length_cons, List.range'_succ]
  refine ops_cons hs hf ho ?_
  rcases guard_sound h hds hk with ⟨hg, hk⟩ | ⟨hg, hk⟩
  ·rw [if_pos hg]
   refine (step_sound hE h hk).mono ?_
   rintro v w' ⟨c', ρ', S', rfl, hS, hk⟩ a' hf'
   exact ih c' ρ' S' _ a' hS hf' hk
  ·rw [if_neg (by simp [hg])]
   intro a' hf'
   exact ih c ρ _ _ a' (simN_put h (show rd ρ c (.tup []) undef from ⟨[], rfl, rfl⟩)) hf' hk
end
end Go.Proofs.Ytcbdmoihobdjaaa
