/- Texts of this proof, one after the other: VD, VW, VX, VY, K, VZ. -/
import Derived.Test.YteolfhljhnplpaaGreatDoorZ2
import Derived.Test.YteolfhljhnplpaaGreatDoorProg
import Derived.KernelRfl
import Derived.Lib.LaidTab
import Derived.Lib.ItoaNum
set_option linter.unusedVariables false
set_option linter.unusedSimpArgs false
namespace Go.Proofs.YteolfhljhnplpaaGreatDoor
open Go.RowKit
structure HRes where
  d : Option Nat
  v : V
  b : Option (Nat × Blk)
def memN : List Nat → Nat → Bool
  | [], _ => false
  | k :: l, i => if k = i then true else memN l i
def headF (ns : Nat → Bool) : List (Nat × HRes) → List (Nat × V)
  | [] => []
  | (j, r) :: R => match ns j, r.d with
    | true, some t => (t, r.v) :: headF ns R
    | _, _ => headF ns R
def headH (ns : Nat → Bool) : List (Nat × HRes) → List (Nat × Blk)
  | [] => []
  | (j, r) :: R => match ns j, r.b with
    | true, some b => b :: headH ns R
    | _, _ => headH ns R
def banF (ub : List (Nat × Nat)) (need : List (List Nat)) (i : Nat) (id : Nat) : Bool := match ub with
  | [] => false
  | (w, k) :: l => (decide (k = id) && (!decide (w = i) && (!memN (need.getD i []) w && !memN (need.getD w []) i))) || banF l need i id
def lateF (wl : List (Nat × Nat)) (need : List (List Nat)) (i t : Nat) : Bool := match wl with
  | [] => false
  | (w, k) :: l => (decide (k = t) && memN (need.getD w []) i) || lateF l need i t
def wrF (wl : List (Nat × Nat)) (need : List (List Nat)) (i : Nat) : List Nat → List Nat
  | [] => []
  | t :: l => match lateF wl need i t with
    | true => wrF wl need i l
    | false => t :: wrF wl need i l
def wlB (ops : Array Oper) (m : Nat) (wl : List (Nat × Nat)) : Bool := wl.all fun p => decide (p.1 < m) && decide (dstOf ops p.1 = some p.2)
def restH (ban : Nat → Bool) : List (Nat × Blk) → List (Nat × Blk)
  | [] => []
  | (k, b) :: H => match ban k with
    | true => restH ban H
    | false => (k, b) :: restH ban H
def memP : List (Nat × Nat) → Nat → Nat → Bool
  | [], _, _ => false
  | (w, k) :: l, i, id => (decide (w = i) && decide (k = id)) || memP l i id
def noBan : Nat → Bool := fun _ => false
def killsB (ub : List (Nat × Nat)) (j : Nat) (b : Option (Nat × Blk)) (k : Nat) : Bool := match b with
  | some (k', _) => memP ub j k && !decide (k' = k)
  | none => false
def killF (ub : List (Nat × Nat)) (ns : Nat → Bool) : List (Nat × HRes) → Nat → Bool
  | [], _ => false
  | (j, r) :: R, k => (ns j && killsB ub j r.b k) || killF ub ns R k
def banK (ub : List (Nat × Nat)) (need : List (List Nat)) (i : Nat) (R : List (Nat × HRes)) : Nat → Bool := match ub with
  | [] => noBan
  | p :: l => fun k => banF (p :: l) need i k || killF (p :: l) (memN (need.getD i [])) R k
def endB (ub : List (Nat × Nat)) (R : List (Nat × HRes)) : Nat → Bool := match ub with
  | [] => noBan
  | p :: l => killF (p :: l) (fun _ => true) R
def newB (_ : Nat) (need : List (List Nat)) (n w k : Nat) : Bool := decide (n ≤ k) && (decide (k - n = w) || (decide (k - n < w) && memN (need.getD w []) (k - n)))
def ubB (m : Nat) (need : List (List Nat)) : List (Nat × Nat) → Nat → Bool
  | [], _ => true
  | (w, k) :: l, n => (decide (k < n) || newB m need n w k) && (l.all (fun p => !decide (p.2 = k)) && ubB m need l n)
def restF (wr : List Nat) : List (Nat × V) → List (Nat × V)
  | [] => []
  | (t, v) :: F => if memN wr t = true then restF wr F else (t, v) :: restF wr F
def viewS (S0 : St) (wr : List Nat) (ns : Nat → Bool) (ban : Nat → Bool) (R : List (Nat × HRes)) (i : Nat) : St := ⟨headF ns R ++ restF wr S0.F, restH ban (headH ns R ++ S0.H), S0.nx + i⟩
def allN : Nat → Bool := fun _ => true
def dsR : List (Nat × HRes) → List (Nat × Nat)
  | [] => []
  | (j, r) :: R => match r.d with
    | some t => (j, t) :: dsR R
    | none => dsR R
def headUse (E : Env) (S : St) (C : List V → V → Prop) (vs : List V) (K : V → Prop) : Prop :=
  ∃ ws r, C ws r ∧ ((∀ c ρ us, rdT ρ c vs us → rdT ro0 c ws us) ∨ (flatV r ∧ lookOk E S vs ws)) ∧ K r
def headUseO (C : List V → Blk → Prop) (vs : List V) (K : Blk → Prop) : Prop :=
  ∃ ws T n g z l, C ws (.own T n g z l) ∧ (∀ c ρ us, rdT ρ c vs us → rdT ro0 c ws us) ∧ K (.own T n g z l)
def headUpd (E : Env) (S : St) (ub : List (Nat × Nat)) (i : Nat) (f : FuncId) (vs : List V) (K : V → Nat → Blk → Prop) : Prop :=
  (∀ aas w, (callFunc f aas).run E.P w = .ok (.enter f aas) w) ∧ ∃ r id b, memP ub i id = true ∧ privB b = true ∧ (∃ b0, getA S.H id = some b0 ∧ privB b0 = true) ∧
    (∀ c0 c ρ F us, Sim E c0 c ρ S F → rdT ρ c vs us → Calls E.P f us.toArray c.w fun e w' => ∃ u c', e = .returned u ∧ c'.w = w' ∧ c.chg (blkOf ρ id) c' ∧ blkOk c0 c' ρ id b ∧ rd ρ c' r u) ∧ K r id b
def inPlace (c c' : Cx) (ρ : Ro) (id : Nat) (T n : Nat) (g : Bool) (z : Option Bool) (l : List V) (u : Value) : Prop :=
  c.chg (blkOf ρ id) c' ∧ Own c' T u (rV ro0 n g) l ∧ (∀ k, blk u = some k → blkOf ρ id = some k ∨ c.w.heap.size ≤ k) ∧ (g = false → n = 1) ∧ ∃ a cap, u = .slice a l.length cap ∧ zOk z a cap
def headKill (E : Env) (S : St) (ub : List (Nat × Nat)) (i : Nat) (f : FuncId) (vs : List V) (K : Blk → Prop) : Prop :=
  (∀ aas w, (callFunc f aas).run E.P w = .ok (.enter f aas) w) ∧ ∃ id T n g z l, (memP ub i id && !decide (id = S.nx)) = true ∧ (∃ b0, getA S.H id = some b0 ∧ privB b0 = true) ∧
    (∀ c0 c ρ F us, Sim E c0 c ρ S F → rdT ρ c vs us → Calls E.P f us.toArray c.w fun e w' => ∃ u c', e = .returned u ∧ c'.w = w' ∧ inPlace c c' ρ id T n g z l u) ∧ K (.own T n g z l)
def headCall (E : Env) (S : St) (ub : List (Nat × Nat)) (i : Nat) (d : Option Nat) (K : HRes → Prop) : Option V → Option (List V) → Prop
  | some (.fn f caps), some vs => (headUse E S (fun ws r => CallOk E f ws r []) (vs ++ caps) (fun r => K ⟨d, r, none⟩) ∨ headUseO (fun ws b => CallOk E f ws (.own 0) [b]) (vs ++ caps) fun b => K ⟨d, .own S.nx, some (S.nx, b)⟩) ∨ headUpd E S ub i f (vs ++ caps) (fun r id b => K ⟨d, r, some (id, b)⟩) ∨ headKill E S ub i f (vs ++ caps) (fun b => K ⟨d, .own S.nx, some (S.nx, b)⟩)
  | _, _ => False
def pubK (c : Prop) (nid : Nat) (K : V → Prop) : V → Blk → Prop
  | .own k, .own _ n g z l => decide (k = nid) = true ∧ c ∧ (c → K (.sl z n g l))
  | .own k, .pown n g z l => decide (k = nid) = true ∧ c ∧ (c → K (.sl z n g l))
  | _, _ => False
def headRes (ub : List (Nat × Nat)) (i nid : Nat) (d : Option Nat) (K : HRes → Prop) : Res → Prop
  | some (c, v, .none) => c ∧ (c → K ⟨d, v, none⟩)
  | some (c, v, .new b) => match memP ub i nid with
    | true => pubK c nid (fun v' => K ⟨d, v', none⟩) v b
    | false => match privB b with
      | true => c ∧ (c → K ⟨d, v, some (nid, b)⟩)
      | false => False
  | some (c, v, .upd id b) => match memP ub i id && privB b with
    | true => c ∧ (c → K ⟨d, v, some (id, b)⟩)
    | false => False
  | some (c, .own id', .app id (.own T n g z l)) => match decide (id' = id) && (memP ub i id && !decide (id = nid)) with
    | true => c ∧ (c → K ⟨d, .own nid, some (nid, .own T n g z l)⟩)
    | false => False
  | _ => False
def headStep (E : Env) (S : St) (ub : List (Nat × Nat)) (i : Nat) (o : Oper) (K : HRes → Prop) : Prop :=
  match isCall o.op with
  | some (x, l, Ts) => headCall E S ub i o.dst K (S.ev E.gv x) (evs E S l Ts)
  | none => headRes ub i S.nx o.dst K (opH E S S.nx o.type o.op)
def gb : V → Option (Option Bool)
  | .bool b => some (some b)
  | .tup [] => some none
  | _ => none
def headGuard (ns : Nat → Bool) (R : List (Nat × HRes)) (o : Oper) (A B : Prop) : Prop :=
  match o.guard with
  | none => A
  | some (j, want) => match ns j, getA R j with
    | true, some r => match r.d with
      | some _ => guardV (some r.v) want A B
      | none => False
    | _, _ => False
def drawK (E : Env) (S0 : St) (wr : List Nat) (wl : List (Nat × Nat)) (need : List (List Nat)) (ub : List (Nat × Nat)) (K : St → Prop) : Nat → Nat → List Oper → List (Nat × HRes) → Prop
  | 0, i, l, R => opsK E i (dsR R) l K (viewS S0 wr allN (endB ub R) R i)
  | _ + 1, _, [], _ => False
  | m + 1, i, o :: l, R => headGuard (memN (need.getD i [])) R o (headStep E (viewS S0 (wrF wl need i wr) (memN (need.getD i [])) (banK ub need i R) R i) ub i o fun r => drawK E S0 wr wl need ub K m (i + 1) l ((i, r) :: R)) (drawK E S0 wr wl need ub K m (i + 1) l ((i, ⟨o.dst, .tup [], none⟩) :: R))
section
variable {E : Env} {c0 c : Cx} {ρ : Ro} {S S0 : St} {F : Fm} {nid : Nat} {wr : List Nat} {wl : List (Nat × Nat)} {need : List (List Nat)} {ub : List (Nat × Nat)} {ops : Array Oper} {m : Nat}
theorem memN_iff {l : List Nat} {i : Nat} : memN l i = true ↔ i ∈ l := by
  induction l with
  | nil => simp [memN]
  | cons k l ih =>
    simp only [memN, List.mem_cons]
    split
    · rename_i h; simp [h]
    · rename_i h; rw [ih]; constructor
      · exact .inr
      · rintro (h' | h')
        · exact absurd h'.symm h
        · exact h'
theorem headF_mem {ns : Nat → Bool} {R : List (Nat × HRes)} {t : Nat} {v : V} (h : (t, v) ∈ headF ns R) : ∃ j r, (j, r) ∈ R ∧ ns j = true ∧ r.d = some t ∧ r.v = v := by
  induction R with
  | nil => simp [headF] at h
  | cons p R ih =>
    obtain ⟨j, r⟩ := p
    simp only [headF] at h
    split at h
    · rename_i h1 h2
      rcases List.mem_cons.1 h with e | h
      · cases e; exact ⟨j, r, by simp, h1, h2, rfl⟩
      · obtain ⟨j', r', h3, h4⟩ := ih h; exact ⟨j', r', by simp [h3], h4⟩
    · obtain ⟨j', r', h3, h4⟩ := ih h; exact ⟨j', r', by simp [h3], h4⟩
theorem headH_mem {ns : Nat → Bool} {R : List (Nat × HRes)} {i : Nat} {b : Blk} (h : (i, b) ∈ headH ns R) : ∃ j r, (j, r) ∈ R ∧ ns j = true ∧ r.b = some (i, b) := by
  induction R with
  | nil => simp [headH] at h
  | cons p R ih =>
    obtain ⟨j, r⟩ := p
    simp only [headH] at h
    split at h
    · rename_i h1 h2
      rcases List.mem_cons.1 h with e | h
      · subst e; exact ⟨j, r, by simp, h1, h2⟩
      · obtain ⟨j', r', h3, h4⟩ := ih h; exact ⟨j', r', by simp [h3], h4⟩
    · obtain ⟨j', r', h3, h4⟩ := ih h; exact ⟨j', r', by simp [h3], h4⟩
theorem headH_none {ns : Nat → Bool} {R : List (Nat × HRes)} {i : Nat} (h : getA (headH ns R) i = none) : ∀ j r b, (j, r) ∈ R → ns j = true → r.b ≠ some (i, b) := by
  induction R with
  | nil => intro j r b hm; simp at hm
  | cons p R ih =>
    obtain ⟨j0, r0⟩ := p
    intro j r b hm hn hb
    simp only [headH] at h
    split at h
    · rename_i b0 h1 h2
      obtain ⟨k0, b0⟩ := b0
      simp only [getA] at h
      split at h
      · cases h
      · rename_i hne
        rcases List.mem_cons.1 hm with e | hm
        · cases e; rw [h2] at hb; cases hb; exact hne rfl
        · exact ih h j r b hm hn hb
    · rename_i hno
      rcases List.mem_cons.1 hm with e | hm
      · cases e; exact hno _ hn hb
      · exact ih h j r b hm hn hb
theorem restH_get {ban : Nat → Bool} {H : List (Nat × Blk)} {i : Nat} {b : Blk} (h : getA (restH ban H) i = some b) : ban i = false ∧ getA H i = some b := by
  induction H with
  | nil => simp [restH, getA] at h
  | cons p H ih =>
    obtain ⟨k, x⟩ := p
    simp only [restH] at h
    split at h
    · rename_i hk
      obtain ⟨h1, h2⟩ := ih h
      refine ⟨h1, ?_⟩
      simp only [getA]
      rw [if_neg (fun e => by subst e; rw [hk] at h1; cases h1)]
      exact h2
    · rename_i hk
      simp only [getA] at h ⊢
      split at h
      · rename_i e; subst e; exact ⟨hk, by rw [if_pos rfl]; exact h⟩
      · rename_i e; rw [if_neg e]; exact ih h
theorem banF_false : ∀ {ub : List (Nat × Nat)} {i id w : Nat}, banF ub need i id = false → memP ub w id = true → w = i ∨ w ∈ need.getD i [] ∨ i ∈ need.getD w []
  | [], _, _, _, _, h => by simp [memP] at h
  | (w0, k) :: l, i, id, w, h, hm => by
    simp only [banF, Bool.or_eq_false_iff, Bool.and_eq_false_iff, Bool.not_eq_false', decide_eq_true_eq, decide_eq_false_iff_not] at h
    simp only [memP, Bool.or_eq_true, Bool.and_eq_true, decide_eq_true_eq] at hm
    rcases hm with ⟨rfl, rfl⟩ | hm
    · rcases h.1 with h1 | h1 | h1 | h1
      · exact absurd rfl h1
      · exact .inl h1
      · exact .inr (.inl (memN_iff.1 h1))
      · exact .inr (.inr (memN_iff.1 h1))
    · exact banF_false h.2 hm
theorem killF_false {ns : Nat → Bool} {k : Nat} : ∀ {R : List (Nat × HRes)}, killF ub ns R k = false → ∀ j r, (j, r) ∈ R → ns j = true → killsB ub j r.b k = false
  | [], _, j, r, hm, _ => by cases hm
  | (j0, r0) :: R, h, j, r, hm, hn => by
    simp only [killF, Bool.or_eq_false_iff, Bool.and_eq_false_iff] at h
    rcases List.mem_cons.1 hm with e | hm
    · cases e
      rcases h.1 with h1 | h1
      · rw [hn] at h1; cases h1
      · exact h1
    · exact killF_false h.2 j r hm hn
theorem killsB_nil {j k : Nat} {b : Option (Nat × Blk)} : killsB [] j b k = false := by
  unfold killsB; split <;> simp [memP]
theorem killF_nil {ns : Nat → Bool} {k : Nat} : ∀ {R : List (Nat × HRes)}, killF [] ns R k = false
  | [] => rfl
  | (j, r) :: R => by simp [killF, killsB_nil, killF_nil (R := R)]
theorem banK_false {i k : Nat} {R : List (Nat × HRes)} (h : banK ub need i R k = false) : banF ub need i k = false ∧ killF ub (memN (need.getD i [])) R k = false := by
  cases ub with
  | nil => exact ⟨rfl, killF_nil⟩
  | cons p l => simpa [banK, Bool.or_eq_false_iff] using h
theorem endB_false {k : Nat} {R : List (Nat × HRes)} (h : endB ub R k = false) : killF ub (fun _ => true) R k = false := by
  cases ub with
  | nil => exact killF_nil
  | cons p l => exact h
theorem killsB_mem {j k : Nat} {b : Option (Nat × Blk)} (h : killsB ub j b k = true) : memP ub j k = true := by
  unfold killsB at h
  split at h
  · simp only [Bool.and_eq_true] at h; exact h.1
  · cases h
theorem ubB_or : ∀ {ub : List (Nat × Nat)} {n w id : Nat}, ubB m need ub n = true → memP ub w id = true → id < n ∨ newB m need n w id = true
  | [], _, _, _, _, h => by simp [memP] at h
  | (w0, k) :: l, n, w, id, h, hm => by
    simp only [ubB, Bool.and_eq_true, Bool.or_eq_true, decide_eq_true_eq] at h
    simp only [memP, Bool.or_eq_true, Bool.and_eq_true, decide_eq_true_eq] at hm
    rcases hm with ⟨rfl, rfl⟩ | hm
    · exact h.1
    · exact ubB_or h.2.2 hm
theorem newB_spec {n w k : Nat} (h : newB m need n w k = true) : n ≤ k ∧ (k - n = w ∨ (k - n < w ∧ k - n ∈ need.getD w [])) := by
  simp only [newB, Bool.and_eq_true, Bool.or_eq_true, decide_eq_true_eq] at h
  refine ⟨h.1, ?_⟩
  rcases h.2 with h2 | h2
  · exact .inl h2
  · exact .inr ⟨h2.1, memN_iff.1 h2.2⟩
theorem memP_mem : ∀ {ub : List (Nat × Nat)} {w id : Nat}, memP ub w id = true → (w, id) ∈ ub
  | [], _, _, h => by simp [memP] at h
  | (w0, k) :: l, w, id, hm => by
    simp only [memP, Bool.or_eq_true, Bool.and_eq_true, decide_eq_true_eq] at hm
    rcases hm with ⟨rfl, rfl⟩ | hm
    · simp
    · exact List.mem_cons_of_mem _ (memP_mem hm)
theorem ubB_one : ∀ {ub : List (Nat × Nat)} {n w w' id : Nat}, ubB m need ub n = true → memP ub w id = true → memP ub w' id = true → w = w'
  | [], _, _, _, _, _, h, _ => by simp [memP] at h
  | (w0, k) :: l, n, w, w', id, h, hm, hm' => by
    simp only [ubB, Bool.and_eq_true, decide_eq_true_eq, List.all_eq_true, Bool.not_eq_true', decide_eq_false_iff_not] at h
    simp only [memP, Bool.or_eq_true, Bool.and_eq_true, decide_eq_true_eq] at hm hm'
    rcases hm with ⟨rfl, rfl⟩ | hm <;> rcases hm' with ⟨rfl, e⟩ | hm'
    · rfl
    · exact absurd rfl (h.2.1 _ (memP_mem hm'))
    · subst e; exact absurd rfl (h.2.1 _ (memP_mem hm))
    · exact ubB_one h.2.2 hm hm'
theorem restF_get {F : List (Nat × V)} {t : Nat} {v : V} (h : getA (restF wr F) t = some v) : t ∉ wr ∧ getA F t = some v := by
  induction F with
  | nil => simp [restF, getA] at h
  | cons p F ih =>
    obtain ⟨k, x⟩ := p
    simp only [restF] at h
    split at h
    · rename_i hk
      obtain ⟨h1, h2⟩ := ih h
      refine ⟨h1, ?_⟩
      simp only [getA]
      rw [if_neg (show ¬ k = t from fun e => h1 (e ▸ memN_iff.1 hk))]
      exact h2
    · rename_i hk
      simp only [getA] at h ⊢
      split at h
      · rename_i e; subst e
        exact ⟨fun hm => hk (memN_iff.2 hm), by rw [if_pos rfl]; exact h⟩
      · rename_i e
        rw [if_neg e]
        exact ih h
def NK (ub : List (Nat × Nat)) (R : List (Nat × HRes)) (L : Nat → Prop) (i : Nat) : Prop := ∀ j r, (j, r) ∈ R → L j → killsB ub j r.b i = false
def PB (S0 : St) (ub : List (Nat × Nat)) (R : List (Nat × HRes)) (L : Nat → Prop) (i : Nat) : Prop := NK ub R L i ∧ ((∃ b, getA S0.H i = some b ∧ privB b = true) ∨ ∃ l r b, (l, r) ∈ R ∧ L l ∧ r.b = some (i, b))
structure DInv (E : Env) (c0 : Cx) (S0 : St) (ub : List (Nat × Nat)) (m : Nat) (R : List (Nat × HRes)) (L : Nat → Prop) (F : Fm) (c : Cx) (ρ : Ro) : Prop where
  since : Since c0 c
  gl : Gl E c
  slot : ∀ j r, (j, r) ∈ R → L j → ∀ t, r.d = some t → rd ρ c r.v (F t)
  old : ∀ t v, getA S0.F t = some v → (∀ j r, (j, r) ∈ R → L j → r.d ≠ some t) → rd ρ c v (F t)
  heap : ∀ j r k b, (j, r) ∈ R → L j → r.b = some (k, b) → (∀ w r' b', (w, r') ∈ R → L w → r'.b = some (k, b') → w ≤ j) → NK ub R L k → blkOk c0 c ρ k b
  heap0 : ∀ i b, getA S0.H i = some b → (∀ j r b', (j, r) ∈ R → L j → r.b ≠ some (i, b')) → NK ub R L i → blkOk c0 c ρ i b
  sep : ∀ i j k, i ≠ j → PB S0 ub R L i → PB S0 ub R L j → blkOf ρ i = some k → blkOf ρ j ≠ some k
  fresh : ∀ i, S0.nx ≤ i → (∀ j, j < m → L j → i ≠ S0.nx + j) → ρ i = none
theorem lastOf {R : List (Nat × HRes)} {L : Nat → Prop} {a : Nat} (h : ∃ j r b, (j, r) ∈ R ∧ L j ∧ r.b = some (a, b)) :
    ∃ j r b, (j, r) ∈ R ∧ L j ∧ r.b = some (a, b) ∧ ∀ w r' b', (w, r') ∈ R → L w → r'.b = some (a, b') → w ≤ j := by
  induction R with
  | nil => obtain ⟨_, _, _, h, _⟩ := h; cases h
  | cons p R ih =>
    by_cases hR : ∃ j r b, (j, r) ∈ R ∧ L j ∧ r.b = some (a, b)
    · obtain ⟨j, r, b, h1, h2, h3, h4⟩ := ih hR
      by_cases hp : L p.1 ∧ (∃ b', p.2.b = some (a, b')) ∧ j < p.1
      · obtain ⟨g1, ⟨b', g2⟩, g3⟩ := hp
        refine ⟨p.1, p.2, b', by simp, g1, g2, fun w r' b'' hw hl hb => ?_⟩
        rcases List.mem_cons.1 hw with e | hw
        · exact Nat.le_of_eq (congrArg Prod.fst e)
        · have := h4 w r' b'' hw hl hb; omega
      · refine ⟨j, r, b, by simp [h1], h2, h3, fun w r' b'' hw hl hb => ?_⟩
        rcases List.mem_cons.1 hw with e | hw
        · subst e
          exact Nat.le_of_not_lt fun hlt => hp ⟨hl, ⟨b'', hb⟩, hlt⟩
        · exact h4 w r' b'' hw hl hb
    · obtain ⟨j, r, b, h1, h2, h3⟩ := h
      rcases List.mem_cons.1 h1 with e | h1
      · refine ⟨j, r, b, by simp [e], h2, h3, fun w r' b' hw hl hb => ?_⟩
        rcases List.mem_cons.1 hw with e' | hw
        · rw [← e] at e'; cases e'; exact Nat.le_refl _
        · exact absurd ⟨w, r', b', hw, hl, hb⟩ hR
      · exact absurd ⟨j, r, b, h1, h2, h3⟩ hR
theorem getA_cat' {α : Type} {l m : List (Nat × α)} {i : Nat} {x : α} (h : getA (l ++ m) i = some x) : getA l i = some x ∨ (getA l i = none ∧ getA m i = some x) := by
  rw [getA_append] at h
  cases hl : getA l i with
  | some y => rw [hl] at h; exact .inl h
  | none => rw [hl] at h; exact .inr ⟨rfl, h⟩
theorem headH_first {ns : Nat → Bool} {R : List (Nat × HRes)} {i : Nat} {b : Blk} (ho : R.Pairwise fun p q => q.1 < p.1) (h : getA (headH ns R) i = some b) :
    ∃ j r, (j, r) ∈ R ∧ ns j = true ∧ r.b = some (i, b) ∧ ∀ w r' b', (w, r') ∈ R → ns w = true → r'.b = some (i, b') → w ≤ j := by
  induction R with
  | nil => simp [headH, getA] at h
  | cons p R ih =>
    obtain ⟨j0, r0⟩ := p
    obtain ⟨ho1, ho2⟩ := List.pairwise_cons.1 ho
    simp only [headH] at h
    split at h
    · rename_i b0 h1 h2
      obtain ⟨k0, b0⟩ := b0
      simp only [getA] at h
      split at h
      · rename_i e
        subst e; cases h
        refine ⟨j0, r0, by simp, h1, h2, fun w r' b' hw _ _ => ?_⟩
        rcases List.mem_cons.1 hw with e | hw
        · cases e; exact Nat.le_refl _
        · exact Nat.le_of_lt (ho1 _ hw)
      · rename_i hne
        obtain ⟨j, r, g1, g2, g3, g4⟩ := ih ho2 h
        refine ⟨j, r, by simp [g1], g2, g3, fun w r' b' hw hn hb => ?_⟩
        rcases List.mem_cons.1 hw with e | hw
        · cases e; rw [h2] at hb; cases hb; exact absurd rfl hne
        · exact g4 w r' b' hw hn hb
    · rename_i hno
      obtain ⟨j, r, g1, g2, g3, g4⟩ := ih ho2 h
      refine ⟨j, r, by simp [g1], g2, g3, fun w r' b' hw hn hb => ?_⟩
      rcases List.mem_cons.1 hw with e | hw
      · cases e; exact absurd hb (hno _ hn)
      · exact g4 w r' b' hw hn hb
theorem getA_cat {α : Type} {l m : List (Nat × α)} {i : Nat} {x : α} (h : getA (l ++ m) i = some x) : (i, x) ∈ l ∨ (getA l i = none ∧ getA m i = some x) := by
  rw [getA_append] at h
  cases hl : getA l i with
  | some y => rw [hl] at h; cases h; exact .inl (getA_mem hl)
  | none => rw [hl] at h; exact .inr ⟨rfl, h⟩
structure ROk (S0 : St) (ub : List (Nat × Nat)) (ops : Array Oper) (i : Nat) (R : List (Nat × HRes)) : Prop where
  dst : ∀ j r, (j, r) ∈ R → j < i ∧ r.d = dstOf ops j
  uniq : ∀ j r r', (j, r) ∈ R → (j, r') ∈ R → r = r'
  priv : ∀ j r k b, (j, r) ∈ R → r.b = some (k, b) → privB b = true
  place : ∀ j r k b, (j, r) ∈ R → r.b = some (k, b) → k = S0.nx + j ∨ memP ub j k = true
  ord : R.Pairwise fun p q => q.1 < p.1
theorem ROk.two {i : Nat} {R : List (Nat × HRes)} (h : ROk S0 ub ops i R) (hU : ubB m need ub S0.nx = true) {j j' k : Nat} {r r' : HRes} {b b' : Blk} (h1 : (j, r) ∈ R) (h2 : (j', r') ∈ R) (e1 : r.b = some (k, b)) (e2 : r'.b = some (k, b')) :
    j = j' ∨ (k = S0.nx + j ∧ j < j' ∧ j ∈ need.getD j' []) ∨ (k = S0.nx + j' ∧ j' < j ∧ j' ∈ need.getD j []) := by
  rcases h.place j r k b h1 e1 with g1 | g1 <;> rcases h.place j' r' k b' h2 e2 with g2 | g2
  · exact .inl (by omega)
  · rcases ubB_or hU g2 with g | g
    · omega
    · obtain ⟨_, g3⟩ := newB_spec g
      have ek : k - S0.nx = j := by omega
      rw [ek] at g3
      rcases g3 with g3 | g3
      · exact .inl g3
      · exact .inr (.inl ⟨g1, g3⟩)
  · rcases ubB_or hU g1 with g | g
    · omega
    · obtain ⟨_, g3⟩ := newB_spec g
      have ek : k - S0.nx = j' := by omega
      rw [ek] at g3
      rcases g3 with g3 | g3
      · exact .inl g3.symm
      · exact .inr (.inr ⟨g2, g3⟩)
  · exact .inl (ubB_one hU g1 g2)
theorem DInv.lt {R : List (Nat × HRes)} {L : Nat → Prop} (h : DInv E c0 S0 ub m R L F c ρ) (hp : ∀ j r k b, (j, r) ∈ R → r.b = some (k, b) → privB b = true) {a k : Nat} (ha : PB S0 ub R L a) (hk : blkOf ρ a = some k) : k < c.w.heap.size := by
  by_cases hu : ∃ j r b, (j, r) ∈ R ∧ L j ∧ r.b = some (a, b)
  · obtain ⟨j, r, b, h1, h2, h3, h4⟩ := lastOf hu
    exact blkOk_lt (hp j r a b h1 h3) (h.heap j r a b h1 h2 h3 h4 ha.1) k hk
  · obtain ⟨hnk, ha⟩ := ha
    rcases ha with ⟨b, h1, h2⟩ | ⟨l, r, b, h1, h2, h3⟩
    · exact blkOk_lt h2 (h.heap0 a b h1 (fun j r b' g1 g2 g3 => hu ⟨j, r, b', g1, g2, g3⟩) hnk) k hk
    · exact absurd ⟨l, r, b, h1, h2, h3⟩ hu
theorem DInv.ge {R : List (Nat × HRes)} {L : Nat → Prop} (h : DInv E c0 S0 ub m R L F c ρ) (hp : ∀ j r k b, (j, r) ∈ R → r.b = some (k, b) → privB b = true) {a k : Nat} (ha : PB S0 ub R L a) (hk : blkOf ρ a = some k) : c0.mine k := by
  have key : ∀ b, privB b = true → blkOk c0 c ρ a b → c0.mine k := by
    intro b hb h1
    cases b with
    | var n g d =>
      obtain ⟨b, h1, h2, h3⟩ := h1
      simp only [blkOf, h1, Option.some.injEq] at hk
      subst hk; exact h2
    | own E n g z l =>
      obtain ⟨v, h1, h2, h3, _, a, cap, e, _⟩ := h1
      refine h3 k ?_
      unfold blkOf at hk
      rw [h1] at hk
      subst e
      exact hk
    | ownI E n g z l =>
      obtain ⟨v, h1, h2, h3, _, a, cap, e, _⟩ := h1
      refine h3 k ?_
      unfold blkOf at hk
      rw [h1] at hk
      subst e
      exact hk
    | pvar n g d => cases hb
    | pown n g z l => cases hb
    | lent k' n g d =>
      obtain ⟨h1, h2, h3⟩ := h1
      simp only [blkOf, h1, Option.some.injEq] at hk
      subst hk; exact h2
    | kset g k' n l =>
      obtain ⟨r, h1, h2, h3⟩ := h1
      simp only [blkOf, h1, blk, Option.some.injEq] at hk
      subst hk; exact h2
  by_cases hu : ∃ j r b, (j, r) ∈ R ∧ L j ∧ r.b = some (a, b)
  · obtain ⟨j, r, b, h1, h2, h3, h4⟩ := lastOf hu
    exact key b (hp j r a b h1 h3) (h.heap j r a b h1 h2 h3 h4 ha.1)
  · obtain ⟨hnk, ha⟩ := ha
    rcases ha with ⟨b, h1, h2⟩ | ⟨l, r, b, h1, h2, h3⟩
    · exact key b h2 (h.heap0 a b h1 (fun j r b' g1 g2 g3 => hu ⟨j, r, b', g1, g2, g3⟩) hnk)
    · exact absurd ⟨l, r, b, h1, h2, h3⟩ hu
theorem DInv.sim {R : List (Nat × HRes)} {L : Nat → Prop} (h : DInv E c0 S0 ub m R L F c ρ) {ns ban : Nat → Bool} {wr : List Nat} (hwo : ∀ t, t ∉ wr → ∀ j r, (j, r) ∈ R → L j → r.d ≠ some t) (hns : ∀ j, ns j = true → L j) (hH0 : ∀ i b, getA S0.H i = some b → i < S0.nx) (hban : ∀ k, k < S0.nx → ban k = false → ∀ j r b, (j, r) ∈ R → L j → r.b = some (k, b) → ns j = true) (hkill : ∀ k, ban k = false → NK ub R L k) (i : Nat) (ho : R.Pairwise fun p q => q.1 < p.1) (hlast : ∀ j r k b, ban k = false → (j, r) ∈ R → ns j = true → r.b = some (k, b) → ∀ w r' b', (w, r') ∈ R → L w → r'.b = some (k, b') → j < w → ns w = true) :
    Sim E c0 c ρ (viewS S0 wr ns ban R i) F := by
  have hH : ∀ k b, getA (restH ban (headH ns R ++ S0.H)) k = some b → blkOk c0 c ρ k b ∧ (privB b = true → PB S0 ub R L k) := by
    intro k b hb0
    obtain ⟨h1, hb⟩ := restH_get hb0
    rcases getA_cat' hb with hm | ⟨hn, h2⟩
    · obtain ⟨j, r, h3, h2, h4, h5⟩ := headH_first ho hm
      refine ⟨h.heap j r k b h3 (hns j h2) h4 (fun w r' b' hw hl hb' => ?_) (hkill k h1), fun _ => ⟨hkill k h1, .inr ⟨j, r, b, h3, hns j h2, h4⟩⟩⟩
      rcases Nat.lt_or_ge j w with hlt | hge
      · exact h5 w r' b' hw (hlast j r k b h1 h3 h2 h4 w r' b' hw hl hb' hlt) hb'
      · exact hge
    · exact ⟨h.heap0 k b h2 (fun j r b' g1 g2 g3 => headH_none hn j r b' g1 (hban k (hH0 k b h2) h1 j r b' g1 g2 g3) g3) (hkill k h1), fun hp => ⟨hkill k h1, .inl ⟨b, h2, hp⟩⟩⟩
  refine ⟨h.since, h.gl, ?_, fun k b hb => (hH k b hb).1, ?_⟩
  · intro t v ht
    rcases getA_cat ht with hm | ⟨_, hm⟩
    · obtain ⟨j, r, h1, h2, h3, rfl⟩ := headF_mem hm
      exact h.slot j r h1 (hns j h2) t h3
    · obtain ⟨h1, h2⟩ := restF_get hm
      exact h.old t v h2 (hwo t h1)
  · intro a b ba bb k hab ha hb hpa hpb hk
    exact h.sep a b k hab ((hH a ba ha).2 hpa) ((hH b bb hb).2 hpb) hk
def Just (E : Env) (S : St) (ub : List (Nat × Nat)) (i : Nat) (o : Oper) (r : HRes) : Prop :=
  r.d = o.dst ∧ match isCall o.op with
  | some (x, l, Ts) => ∃ f caps vs ws, S.ev E.gv x = some (.fn f caps) ∧ evs E S l Ts = some vs ∧ ((r.b = none ∧ CallOk E f ws r.v [] ∧ ((∀ c ρ us, rdT ρ c (vs ++ caps) us → rdT ro0 c ws us) ∨ (flatV r.v ∧ lookOk E S (vs ++ caps) ws))) ∨
      (∃ T n g z l, r.v = .own S.nx ∧ r.b = some (S.nx, .own T n g z l) ∧ CallOk E f ws (.own 0) [.own T n g z l] ∧ ∀ c ρ us, rdT ρ c (vs ++ caps) us → rdT ro0 c ws us) ∨
      headUpd E S ub i f (vs ++ caps) (fun v id b => r.v = v ∧ r.b = some (id, b)) ∨ headKill E S ub i f (vs ++ caps) (fun b => r.v = .own S.nx ∧ r.b = some (S.nx, b)))
  | none => ∃ cnd v e, opH E S S.nx o.type o.op = some (cnd, v, e) ∧ cnd ∧ ((r.v = v ∧ ((e = .none ∧ r.b = none) ∨ (∃ b, e = .new b ∧ r.b = some (S.nx, b) ∧ privB b = true) ∨ ∃ id b, e = .upd id b ∧ r.b = some (id, b) ∧ privB b = true)) ∨
      (∃ T n g z l, v = .own S.nx ∧ (e = .new (.own T n g z l) ∨ e = .new (.pown n g z l)) ∧ r.v = .sl z n g l ∧ r.b = none) ∨
      ∃ id T n g z l, v = .own id ∧ e = .app id (.own T n g z l) ∧ r.v = .own S.nx ∧ r.b = some (S.nx, .own T n g z l) ∧ (memP ub i id && !decide (id = S.nx)) = true)
def TraceOk (E : Env) (S0 : St) (wr : List Nat) (wl : List (Nat × Nat)) (need : List (List Nat)) (ub : List (Nat × Nat)) (ops : Array Oper) (R : List (Nat × HRes)) (i : Nat) : Prop :=
  ∀ o, ops[i]? = some o → ∃ r, (i, r) ∈ R ∧ r.d = o.dst ∧
    ((o.guard = none ∧ Just E (viewS S0 (wrF wl need i wr) (memN (need.getD i [])) (banK ub need i R) R i) ub i o r) ∨
     ∃ j want b rj, o.guard = some (j, want) ∧ j ∈ need.getD i [] ∧ (j, rj) ∈ R ∧ rj.d ≠ none ∧ gb rj.v = some b ∧ ((b = some want ∧ Just E (viewS S0 (wrF wl need i wr) (memN (need.getD i [])) (banK ub need i R) R i) ub i o r) ∨ (b ≠ some want ∧ r.v = .tup [] ∧ r.b = none)))
def DidTo (c0 c : Cx) (S0 : St) (ub : List (Nat × Nat)) (R : List (Nat × HRes)) (L : Nat → Prop) (i : Nat) (b : Option (Nat × Blk)) (c' : Cx) (ρ ρ' : Ro) (o : Option Nat) : Prop :=
  (b = none ∧ o = none ∧ ρ' = ρ) ∨ (∃ x, b = some (S0.nx + i, x) ∧ o = none ∧ blkOk c0 c' ρ' (S0.nx + i) x ∧ ∀ k, blkOf ρ' (S0.nx + i) = some k → c.w.heap.size ≤ k) ∨
    (∃ id x, b = some (id, x) ∧ True ∧ o = blkOf ρ id ∧ ρ' = ρ ∧ blkOk c0 c' ρ id x ∧ PB S0 ub R L id) ∨
    ∃ id x, b = some (S0.nx + i, x) ∧ memP ub i id = true ∧ id ≠ S0.nx + i ∧ o = blkOf ρ id ∧ blkOk c0 c' ρ' (S0.nx + i) x ∧ (∀ k, blkOf ρ' (S0.nx + i) = some k → blkOf ρ id = some k ∨ c.w.heap.size ≤ k) ∧ PB S0 ub R L id
theorem DInv.next {R : List (Nat × HRes)} {L : Nat → Prop} (h : DInv E c0 S0 ub m R L F c ρ) (hU : ubB m need ub S0.nx = true) (hR : ROk S0 ub ops m R) {i : Nat} (him : i < m) {r : HRes} (hr : (i, r) ∈ R)
    (hdist : ∀ j r' t, (j, r') ∈ R → j ≠ i → r'.d = some t → r.d ≠ some t) (hnL : ¬ L i) (hnw : ∀ j r' k b b', (j, r') ∈ R → L j → r'.b = some (k, b') → r.b = some (k, b) → j < i) {c' : Cx} {ρ' : Ro} {o : Option Nat} (hch : c.chg o c') (hro : ∀ k, k ≠ S0.nx + i → ρ' k = ρ k) (hn : ρ (S0.nx + i) = none)
    (hdid : DidTo c0 c S0 ub R L i r.b c' ρ ρ' o) {u : Value} (hv : rd ρ' c' r.v u) :
    DInv E c0 S0 ub m R (fun j => j = i ∨ L j) (updO F r.d u) c' ρ' := by
  have hrl := roLe_new hn hro
  have hpriv := hR.priv
  have hupd : ∀ t, r.d ≠ some t → updO F r.d u t = F t := by
    intro t ht
    cases hd : r.d with
    | none => rfl
    | some d => exact upd_ne _ _ (by rintro rfl; exact ht hd)
  -- what the operation may have turned is a block of the call's own
  have hoge : ∀ k, o = some k → c0.mine k := by
    intro k hk
    rcases hdid with ⟨_, e, _⟩ | ⟨x, _, e, _⟩ | ⟨id, x, _, _, e, _, _, hpb⟩ | ⟨id, x, _, _, _, e, _, _, hpb⟩
    · rw [e] at hk; cases hk
    · rw [e] at hk; cases hk
    · rw [e] at hk; exact h.ge hpriv hpb hk
    · rw [e] at hk; exact h.ge hpriv hpb hk
  -- another block stays aas it was
  have stay : ∀ k b, (privB b = true → PB S0 ub R L k) → (∀ x, r.b ≠ some (k, x)) → (∀ y, memP ub i k = true → k ≠ S0.nx + i → r.b ≠ some (S0.nx + i, y)) → blkOk c0 c ρ k b → blkOk c0 c' ρ' k b := by
    intro k b hpb hne hkl hb
    refine blkOk_ro hrl (blkOk_chg hch (fun hp x hx => ?_) hb)
    rcases hdid with ⟨_, e, _⟩ | ⟨y, _, e, _⟩ | ⟨id, y, e1, _, e2, _, _, hpi⟩ | ⟨id, y, e1, e3, e4, e2, _, _, hpi⟩
    rotate_right
    · rw [e2]
      intro hx'
      have hki : id ≠ k := by rintro rfl; exact hkl y e3 e4 e1
      exact h.sep id k x hki hpi (hpb hp) hx' hx
    · rw [e]; exact fun e => by cases e
    · rw [e]; exact fun e => by cases e
    · rw [e2]
      intro hx'
      have hki : id ≠ k := by rintro rfl; exact hne y e1
      exact h.sep id k x hki hpi (hpb hp) hx' hx
  refine ⟨h.since.chg hch hoge, h.gl.mono hch.pub, ?_, ?_, ?_, ?_, ?_, ?_⟩
  · intro j r' hj hL t ht
    by_cases e : j = i
    · subst e
      have := hR.uniq j r' r hj hr
      subst this
      rw [ht]
      simpa [updO, upd_same] using hv
    · rw [hupd t (hdist j r' t hj e ht)]
      exact rd_ro hrl (rd_mono hch.pub (h.slot j r' hj (hL.resolve_left e) t ht))
  · intro t v ht hno
    rw [hupd t (fun e => hno i r hr (.inl rfl) e)]
    exact rd_ro hrl (rd_mono hch.pub (h.old t v ht fun j r' g1 g2 => hno j r' g1 (.inr g2)))
  · intro j r' k b hj hL hb' hla hnk
    by_cases e : j = i
    · subst e
      have := hR.uniq j r' r hj hr
      subst this
      rcases hdid with ⟨e, _⟩ | ⟨y, e, _, h2, _⟩ | ⟨id, y, e, _, _, e2, h2, _⟩ | ⟨id, y, e, _, _, _, h2, _⟩
      · rw [e] at hb'; cases hb'
      · rw [e] at hb'; cases hb'; exact h2
      · rw [e] at hb'; cases hb'; rw [e2]; exact h2
      · rw [e] at hb'; cases hb'; exact h2
    · have hLj := hL.resolve_left e
      have hnk' : NK ub R L k := fun j r' g1 g2 => hnk j r' g1 (.inr g2)
      exact stay k b (fun _ => ⟨hnk', .inr ⟨j, r', b, hj, hLj, hb'⟩⟩) (fun x hx => by
        have h1 := hla i r x hr (.inl rfl) hx
        have h2 := hnw j r' k x b hj hLj hb' hx
        omega) (fun y hy hkx he => by
        have := hnk i r hr (.inl rfl)
        rw [he] at this
        simp only [killsB, hy, Bool.true_and, Bool.not_eq_false', decide_eq_true_eq] at this
        omega) (h.heap j r' k b hj hLj hb' (fun w r2 b2 hw hl => hla w r2 b2 hw (.inr hl)) hnk')
  · intro k b hb' hno hnk
    have hne : ∀ x, r.b ≠ some (k, x) := fun x => hno i r x hr (.inl rfl)
    exact stay k b (fun hp => ⟨fun j r' g1 g2 => hnk j r' g1 (.inr g2), .inl ⟨b, hb', hp⟩⟩) hne (fun y hy hkx he => by
      have := hnk i r hr (.inl rfl)
      rw [he] at this
      simp only [killsB, hy, Bool.true_and, Bool.not_eq_false', decide_eq_true_eq] at this
      omega) (h.heap0 k b hb' (fun j r' b' g1 g2 => hno j r' b' g1 (.inr g2)) fun j r' g1 g2 => hnk j r' g1 (.inr g2))
  · -- blocks lie apart
    have old : ∀ a k, a ≠ S0.nx + i → PB S0 ub R (fun j => j = i ∨ L j) a → blkOf ρ' a = some k → PB S0 ub R L a ∧ blkOf ρ a = some k ∧ k < c.w.heap.size := by
      intro a k ha hc hk
      rw [blkOf_eq (hro a ha)] at hk
      have hpa : PB S0 ub R L a := by
        obtain ⟨hnk, hc⟩ := hc
        have hnk' : NK ub R L a := fun j r' g1 g2 => hnk j r' g1 (.inr g2)
        rcases hc with ⟨b, h1, h2⟩ | ⟨l, r', b, h1, h2, h3⟩
        · exact ⟨hnk', .inl ⟨b, h1, h2⟩⟩
        · by_cases e : l = i
          · subst e
            have := hR.uniq l r' r h1 hr
            subst this
            rcases hdid with ⟨e, _⟩ | ⟨y, e, _⟩ | ⟨id, y, e, _, _, _, _, hpb⟩ | ⟨id, y, e, _⟩
            · rw [e] at h3; cases h3
            · rw [e] at h3; cases h3; exact absurd rfl ha
            · rw [e] at h3; cases h3; exact hpb
            · rw [e] at h3; cases h3; exact absurd rfl ha
          · exact ⟨hnk', .inr ⟨l, r', b, h1, h2.resolve_left e, h3⟩⟩
      exact ⟨hpa, hk, h.lt hpriv hpa hk⟩
    have new : ∀ k, blkOf ρ' (S0.nx + i) = some k → c.w.heap.size ≤ k ∨ ∃ id, blkOf ρ id = some k ∧ PB S0 ub R L id ∧ ¬ PB S0 ub R (fun j => j = i ∨ L j) id := by
      intro k hk
      rcases hdid with ⟨_, _, e⟩ | ⟨y, _, _, _, h2⟩ | ⟨id, y, _, _, _, e, _⟩ | ⟨id, y, e1, e2, e3, _, _, h2, hpb⟩
      · rw [e] at hk; unfold blkOf at hk; rw [hn] at hk; cases hk
      · exact .inl (h2 k hk)
      · rw [e] at hk; unfold blkOf at hk; rw [hn] at hk; cases hk
      · rcases h2 k hk with h2 | h2
        · refine .inr ⟨id, h2, hpb, ?_⟩
          rintro ⟨g3, _⟩
          have := g3 i r hr (.inl rfl)
          rw [e1] at this
          simp only [killsB, e2, Bool.true_and, Bool.not_eq_false', decide_eq_true_eq] at this
          omega
        · exact .inl h2
    intro a b k hab ha hb' hk hk'
    by_cases e1 : a = S0.nx + i
    · have e2 : b ≠ S0.nx + i := by omega
      obtain ⟨h4, h5, h3⟩ := old b k e2 hb' hk'
      rw [e1] at hk
      rcases new k hk with h6 | ⟨id, h6, h7, h8⟩
      · omega
      · exact h.sep id b k (fun e => h8 (e ▸ hb')) h7 h4 h6 h5
    · obtain ⟨h1, h2, h3⟩ := old a k e1 ha hk
      by_cases e2 : b = S0.nx + i
      · rw [e2] at hk'
        rcases new k hk' with h6 | ⟨id, h6, h7, h8⟩
        · omega
        · exact h.sep id a k (fun e => h8 (e ▸ ha)) h7 h1 h6 h2
      · obtain ⟨h4, h5, _⟩ := old b k e2 hb' hk'
        exact h.sep a b k hab h1 h4 h2 h5
  · intro k hk hne
    have h1 : k ≠ S0.nx + i := hne i him (.inl rfl)
    rw [hro k h1]
    exact h.fresh k hk (fun j hm hj => hne j hm (.inr hj))
theorem wrF_not {wl : List (Nat × Nat)} {need : List (List Nat)} {i t : Nat} : ∀ {wr : List Nat}, t ∈ wr → t ∉ wrF wl need i wr → ∃ w, (w, t) ∈ wl ∧ i ∈ need.getD w []
  | [], h, _ => by cases h
  | x :: l, h, hn => by
    simp only [wrF] at hn
    have key : lateF wl need i t = true → ∃ w, (w, t) ∈ wl ∧ i ∈ need.getD w [] := by
      clear hn h
      induction wl with
      | nil => intro h; cases h
      | cons q wl ih =>
        obtain ⟨w, k⟩ := q
        intro h
        simp only [lateF, Bool.or_eq_true, Bool.and_eq_true, decide_eq_true_eq] at h
        rcases h with ⟨rfl, h2⟩ | h
        · exact ⟨w, by simp, memN_iff.1 h2⟩
        · obtain ⟨w', h1, h2⟩ := ih h; exact ⟨w', by simp [h1], h2⟩
    split at hn
    · rename_i hl
      rcases List.mem_cons.1 h with rfl | h
      · exact key hl
      · exact wrF_not h hn
    · simp only [List.mem_cons, not_or] at hn
      rcases List.mem_cons.1 h with rfl | h
      · exact absurd rfl hn.1
      · exact wrF_not h hn.2
theorem wlB_spec {m : Nat} {wl : List (Nat × Nat)} (h : wlB ops m wl = true) {w t : Nat} (hm : (w, t) ∈ wl) : w < m ∧ dstOf ops w = some t := by
  have := List.all_eq_true.1 h (w, t) hm
  simpa using this
theorem step_draw (hE : EnvOk E) (hwl : wlB ops m wl = true) (hW : writeB ops m wr = true) (hU : ubB m need ub S0.nx = true) {R : List (Nat × HRes)} (hR : ROk S0 ub ops m R) (hH0 : ∀ i b, getA S0.H i = some b → i < S0.nx)
    (hT : ∀ i, i < m → TraceOk E S0 wr wl need ub ops R i) : StepOb E.P ops need m (fun L F w => ∃ c ρ, c.w = w ∧ DInv E c0 S0 ub m R L F c ρ) := by
  rintro L F w i o ⟨c, ρ, rfl, hI⟩ him ho hneedL hafter hnL K hK
  obtain ⟨r, hr, hd, hj⟩ := hT i him o ho
  have hfr : ρ (S0.nx + i) = none := hI.fresh _ (by omega) (fun j _ hj => by
    intro e
    have : i = j := by omega
    subst this; exact hnL hj)
  have hdist : ∀ j r' t, (j, r') ∈ R → j ≠ i → r'.d = some t → r.d ≠ some t := by
    intro j r' t h1 h2 h3 h4
    obtain ⟨h5, h6⟩ := hR.dst j r' h1
    obtain ⟨h7, h8⟩ := hR.dst i r hr
    exact writeB_ne hW h7 h5 (Ne.symm h2) (h8 ▸ h4) (h6 ▸ h3)
  have hwo : ∀ t, t ∉ wrF wl need i wr → ∀ j r', (j, r') ∈ R → L j → r'.d ≠ some t := by
    intro t ht j r' hj hL hd'
    obtain ⟨h5, h6⟩ := hR.dst j r' hj
    obtain ⟨w, h7, h8⟩ := wrF_not (writeB_spec hW h5 (h6 ▸ hd')).1 ht
    obtain ⟨h9, h10⟩ := wlB_spec hwl h7
    have hjw : j = w := Classical.byContradiction fun hne => writeB_ne hW h5 h9 hne (h6 ▸ hd') h10
    subst hjw
    exact absurd hL (hafter j h5 h8)
  have hns : ∀ j, memN (need.getD i []) j = true → L j := fun j hj => hneedL j (memN_iff.1 hj)
  have hban : ∀ k, k < S0.nx → banK ub need i R k = false → ∀ j r b, (j, r) ∈ R → L j → r.b = some (k, b) → memN (need.getD i []) j = true := by
    intro k hkn hk0 j r' b hj hL hb
    have hk := (banK_false hk0).1
    obtain ⟨hjm, _⟩ := hR.dst j r' hj
    have hji : j ≠ i := by rintro rfl; exact hnL hL
    rcases hR.place j r' k b hj hb with e | hm
    · omega
    · rcases banF_false hk hm with e | e | e
      · exact absurd e hji
      · exact memN_iff.2 e
      · exact absurd hL (hafter j hjm e)
  have hlast : ∀ j r k b, banK ub need i R k = false → (j, r) ∈ R → memN (need.getD i []) j = true → r.b = some (k, b) → ∀ w r' b', (w, r') ∈ R → L w → r'.b = some (k, b') → j < w → memN (need.getD i []) w = true := by
    intro j r1 k b hbn hj hn hb w r' b' hw hl hb' hlt
    rcases hR.place w r' k b' hw hb' with e | hm
    · rcases hR.two hU hj hw hb hb' with e | ⟨e1, e2⟩ | ⟨e1, e2⟩
      · omega
      · omega
      · omega
    · rcases banF_false (banK_false hbn).1 hm with e | e | e
      · subst e; exact absurd hl hnL
      · exact memN_iff.2 e
      · exact absurd hl (hafter w (hR.dst w r' hw).1 e)
  have hnw : ∀ j r' k b b', (j, r') ∈ R → L j → r'.b = some (k, b') → r.b = some (k, b) → j < i := by
    intro j r' k b b' hj hl hb' hb
    rcases hR.two hU hj hr hb' hb with e | ⟨e1, e2⟩ | ⟨e1, e2⟩
    · subst e; exact absurd hl hnL
    · exact e2.1
    · exact absurd hl (hafter j (hR.dst j r' hj).1 e2.2)
  have hkill : ∀ k, banK ub need i R k = false → NK ub R L k := by
    intro k hk0 j r' hj hL
    obtain ⟨hk, hkf⟩ := banK_false hk0
    cases hb : killsB ub j r'.b k with
    | false => rfl
    | true =>
      obtain ⟨hjm, _⟩ := hR.dst j r' hj
      have hji : j ≠ i := by rintro rfl; exact hnL hL
      rcases banF_false hk (killsB_mem hb) with e | e | e
      · exact absurd e hji
      · have := killF_false hkf j r' hj (memN_iff.2 e)
        rw [hb] at this; cases this
      · exact absurd hL (hafter j hjm e)
  have hsim := hI.sim hwo hns hH0 hban hkill i hR.ord hlast
  have exec : Just E (viewS S0 (wrF wl need i wr) (memN (need.getD i [])) (banK ub need i R) R i) ub i o r → Yields E.P (fun v w' => K (updO F o.dst v) w') (run E.P F o c.w) := by
    rintro ⟨_, hju⟩
    split at hju
    · rename_i x l Ts hi
      obtain ⟨f, caps, vs, ws, hx, hvs, hres⟩ := hju
      have hop : ∃ cl, o.op = .call cl ∧ cl.callee = .value x ∧ cl.args.toList = l := by
        unfold isCall at hi
        split at hi
        · rename_i cl ho'
          split at hi
          · rename_i y hy
            simp only [Option.some.injEq, Prod.mk.injEq] at hi
            obtain ⟨rfl, h2, _⟩ := hi
            exact ⟨cl, ho', hy, h2⟩
          · cases hi
        · cases hi
      obtain ⟨cl, ho', hcl, rfl⟩ := hop
      have hf := ev_rd hsim hx
      simp only [rd] at hf
      obtain ⟨cap, hf, hcap⟩ := hf
      have hus := rdT_append (evs_rd hsim hvs) hcap
      rcases hres with ⟨hb, hc, hlook⟩ | ⟨T, n, g, z, ll, hrv, hb, hc, hgive⟩ | ⟨hent, rv, id, b, hmem, hpb, ⟨b0, hb0, hp0⟩, hcalls, hrv, hrb⟩ | ⟨hent, id, T, n, g, z, ll, hmem, ⟨b0, hb0, hp0⟩, hcalls, hrv, hrb⟩
      case inr.inr.inl =>
        rw [run_callv (F := F) (w := c.w) ho' hcl hf hent]
        refine (hcalls c0 c ρ F _ hsim hus).mono ?_
        rintro e w' ⟨u, c', rfl, rfl, hch, hbk, hrd⟩
        refine ⟨u, rfl, hK _ _ ⟨c', ρ, rfl, ?_⟩⟩
        rw [← hd]
        have hpb' : PB S0 ub R L id := by
          obtain ⟨hbn, hb9⟩ := restH_get hb0
          rcases getA_cat hb9 with hm | ⟨_, hm⟩
          · obtain ⟨j, r', g1, g2, g3⟩ := headH_mem hm
            exact ⟨hkill id hbn, .inr ⟨j, r', b0, g1, hns j g2, g3⟩⟩
          · exact ⟨hkill id hbn, .inl ⟨b0, hm, hp0⟩⟩
        exact hI.next hU hR him hr hdist hnL hnw hch (fun _ _ => rfl) hfr (.inr (.inr (.inl ⟨id, b, hrb, trivial, rfl, rfl, hbk, hpb'⟩))) (by rw [hrv]; exact hrd)
      case inr.inr.inr =>
        simp only [Bool.and_eq_true, decide_eq_true_eq] at hmem
        have hidn : id ≠ S0.nx + i := by have := hmem.2; simpa [viewS] using this
        rw [run_callv (F := F) (w := c.w) ho' hcl hf hent]
        refine (hcalls c0 c ρ F _ hsim hus).mono ?_
        rintro e w' ⟨u, c', rfl, rfl, hch, hown, hbl, hone, a, cap, es, hz⟩
        have hat : roSet ρ (S0.nx + i) u (S0.nx + i) = some u := roSet_same
        have hbo : blkOf (roSet ρ (S0.nx + i) u) (S0.nx + i) = blk u := by simp only [blkOf, hat]; rw [es]
        have hpb' : PB S0 ub R L id := by
          obtain ⟨hbn, hb9⟩ := restH_get hb0
          rcases getA_cat hb9 with hm | ⟨_, hm⟩
          · obtain ⟨j, r', g1, g2, g3⟩ := headH_mem hm
            exact ⟨hkill id hbn, .inr ⟨j, r', b0, g1, hns j g2, g3⟩⟩
          · exact ⟨hkill id hbn, .inl ⟨b0, hm, hp0⟩⟩
        refine ⟨u, rfl, hK _ _ ⟨c', roSet ρ (S0.nx + i) u, rfl, ?_⟩⟩
        rw [← hd]
        refine hI.next hU hR him hr hdist hnL hnw hch (fun k hk => roSet_ne hk) hfr (.inr (.inr (.inr ⟨id, _, hrb, hmem.1, hidn, rfl, ⟨u, hat, hown, fun k hk => ?_, hone, a, cap, es, hz⟩, fun k hk => hbl k (hbo ▸ hk), hpb'⟩))) ?_
        · rcases hbl k hk with h1 | h1
          · exact hI.ge hR.priv hpb' h1
          · exact .inl (Nat.le_trans hI.since.size h1)
        · rw [hrv]
          simp only [rd]
          exact ⟨hat, by rw [es]; rfl⟩
      case inr.inl =>
        rw [run_callv (F := F) (w := c.w) ho' hcl hf hc.1]
        refine (show Calls E.P f _ c.w _ from hc.2 c.noY _ rfl (hI.gl.mono (Cx.pub_noY c)) (rdT_mono (Cx.pub_noY c) (hgive c ρ _ hus))).mono ?_
        rintro e w' ⟨v, c', ρr, rfl, rfl, hle', hrd, hH⟩
        have hle : c.le c' := ⟨hle'.below, hle'.old⟩
        obtain ⟨v', hv, hown, hge, hone, a, cap, es, hz⟩ := (hH.1 0 _ rfl).2
        simp only [rd] at hrd
        have e : v' = v := by have := hrd.1; rw [hv] at this; exact Option.some.inj this
        subst e
        have hat : roSet ρ (S0.nx + i) v' (S0.nx + i) = some v' := roSet_same
        refine ⟨v', rfl, hK _ _ ⟨c', roSet ρ (S0.nx + i) v', rfl, ?_⟩⟩
        rw [← hd]
        refine hI.next hU hR him hr hdist hnL hnw hle.chg (fun k hk => roSet_ne hk) hfr (.inr (.inl ⟨_, hb, rfl, ⟨v', hat, hown, fun k hk => .inl (Nat.le_trans hI.since.size (Cx.noY_mine (hge k hk))), hone, a, cap, es, hz⟩, fun k hk => ?_⟩)) ?_
        · simp only [blkOf, hat] at hk
          rw [es] at hk
          exact Cx.noY_mine (hge k (by rw [es]; exact hk))
        · rw [hrv]
          simp only [rd]
          exact ⟨hat, hrd.2⟩
      rw [run_callv (F := F) (w := c.w) ho' hcl hf hc.1]
      rcases hlook with hgive | ⟨hfl, hlk⟩
      · refine (show Calls E.P f _ c.w _ from hc.2 c.noY _ rfl (hI.gl.mono (Cx.pub_noY c)) (rdT_mono (Cx.pub_noY c) (hgive c ρ _ hus))).mono ?_
        rintro e w' ⟨v, c', ρr, rfl, rfl, hle', hrd, hH⟩
        have hle : c.le c' := ⟨hle'.below, hle'.old⟩
        refine ⟨v, rfl, hK _ _ ⟨c', ρ, rfl, ?_⟩⟩
        rw [← hd]
        refine hI.next hU hR him hr hdist hnL hnw hle.chg (fun _ _ => rfl) hfr (.inl ⟨hb, rfl, rfl⟩) ?_
        refine rd_ro (fun k v hk => ?_) hrd
        exact absurd (hH.2.1 k (Nat.zero_le _)) (by rw [hk]; simp)
      · have hrd := hlk c0 c ρ F _ hsim hus
        have hpb := pub_base hsim
        refine (show Calls E.P f _ c.w _ from hc.2 (c0.base c hsim.since.size) _ rfl (hI.gl.mono hpb) hrd).mono ?_
        rintro e w' ⟨v, c', ρr, rfl, rfl, hle, hrd, hH⟩
        have hbl : Below c.w.heap.size c.w c'.w := hle.below
        refine ⟨v, rfl, hK _ _ ⟨c.at c'.w hbl.size, ρ, rfl, ?_⟩⟩
        rw [← hd]
        exact hI.next hU hR him hr hdist hnL hnw (Cx.le_at hbl).chg (fun _ _ => rfl) hfr (.inl ⟨hb, rfl, rfl⟩) (flat_rd hfl hrd)
    · obtain ⟨cnd, vv, e, hop, hc, he⟩ := hju
      refine (opH_sound hE hsim hfr hop hc).mono ?_
      rintro u w' ⟨c', ρ', rfl, hpre, hrel, hrd⟩
      rcases he with ⟨hrv, ⟨rfl, hb⟩ | ⟨b, rfl, hb, hp⟩ | ⟨id, b, rfl, hb, hp⟩⟩ | ⟨T, n, g, z, ll, rfl, rfl | rfl, hrv, hrb⟩ | ⟨id, T, n, g, z, ll, rfl, rfl, hrv, hrb, hmem⟩
      rotate_right
      · simp only [Bool.and_eq_true, decide_eq_true_eq] at hmem
        have hidn : id ≠ S0.nx + i := by have := hmem.2; simpa [viewS] using this
        obtain ⟨h1, h2, h3, h4⟩ := hrel
        obtain ⟨b1, hb1, hp1, _⟩ := hpre
        have hpb' : PB S0 ub R L id := by
          obtain ⟨hbn, hb9⟩ := restH_get hb1
          rcases getA_cat hb9 with hm | ⟨_, hm⟩
          · obtain ⟨j, r', g1, g2, g3⟩ := headH_mem hm
            exact ⟨hkill id hbn, .inr ⟨j, r', b1, g1, hns j g2, g3⟩⟩
          · exact ⟨hkill id hbn, .inl ⟨b1, hm, hp1⟩⟩
        obtain ⟨u', e1, hown, hge, hone, a, cap, es, hz⟩ := h3
        simp only [rd] at hrd
        have eu : u' = u := by rw [hrd.1] at e1; exact (Option.some.inj e1).symm
        subst eu
        have hat : roSet ρ (S0.nx + i) u' (S0.nx + i) = some u' := roSet_same
        have hbo : blkOf (roSet ρ (S0.nx + i) u') (S0.nx + i) = blk u' := by simp only [blkOf, hat]; rw [es]
        have hbi : blkOf ρ' id = blk u' := by unfold blkOf; rw [e1, es]
        refine hK _ _ ⟨c', roSet ρ (S0.nx + i) u', rfl, ?_⟩
        rw [← hd]
        refine hI.next hU hR him hr hdist hnL hnw h1 (fun k hk => roSet_ne hk) hfr (.inr (.inr (.inr ⟨id, _, hrb, hmem.1, hidn, rfl, ⟨u', hat, hown, hge, hone, a, cap, es, hz⟩, fun k hk => h4 k (by rw [hbi, ← hbo]; exact hk), hpb'⟩))) ?_
        rw [hrv]
        simp only [rd]
        exact ⟨hat, hrd.2⟩
      rotate_right
      · obtain ⟨h1, h2, h3, h4⟩ := hrel
        obtain ⟨u', e1, hown⟩ := h3
        simp only [rd] at hrd
        have eu : u' = u := Option.some.inj (e1.symm.trans hrd.1)
        subst eu
        refine hK _ _ ⟨c', ρ, rfl, ?_⟩
        rw [← hd]
        refine hI.next hU hR him hr hdist hnL hnw h1.chg (fun _ _ => rfl) hfr (.inl ⟨hrb, rfl, rfl⟩) ?_
        rw [hrv]
        simp only [rd] at hown ⊢
        exact hown
      rotate_right
      · obtain ⟨h1, h2, h3, h4⟩ := hrel
        obtain ⟨u', e1, hown, hge, hone, a, cap, es, hz⟩ := h3
        simp only [rd] at hrd
        have eu : u' = u := Option.some.inj (e1.symm.trans hrd.1)
        subst eu
        have hbo : blkOf ρ' (S0.nx + i) = blk u' := by
          unfold blkOf
          rw [show ρ' (S0.nx + i) = some u' from e1, es]
        have hle2 : c.le (c'.dropv u') := le_dropv h1 (fun g hg => h4 g (by rw [← hbo] at hg; exact hg))
        refine hK _ _ ⟨c'.dropv u', ρ, rfl, ?_⟩
        rw [← hd]
        refine hI.next hU hR him hr hdist hnL hnw hle2.chg (fun _ _ => rfl) hfr (.inl ⟨hrb, rfl, rfl⟩) ?_
        rw [hrv]
        obtain ⟨a', cap', e5, g1, g2⟩ := slice_val.1 hown.val
        rw [es] at e5; cases e5
        exact rd_sl.2 ⟨a, cap, es, g1, hz, g2⟩
      all_goals (refine hK _ _ ⟨c', ρ', rfl, ?_⟩; rw [← hd])
      all_goals (rw [← hrv] at hrd)
      · obtain ⟨rfl, rfl⟩ := hrel
        exact hI.next hU hR him hr hdist hnL hnw (Cx.le.refl _).chg (fun _ _ => rfl) hfr (.inl ⟨hb, rfl, rfl⟩) hrd
      · obtain ⟨h1, h2, h3, h4⟩ := hrel
        exact hI.next hU hR him hr hdist hnL hnw h1.chg h2 hfr (.inr (.inl ⟨b, hb, rfl, h3, h4⟩)) hrd
      · obtain ⟨h1, rfl, h3⟩ := hrel
        obtain ⟨b1, hb1, hp1, _⟩ := hpre
        have hpb : PB S0 ub R L id := by
          obtain ⟨hbn, hb9⟩ := restH_get hb1
          rcases getA_cat hb9 with hm | ⟨_, hm⟩
          · obtain ⟨j, r', g1, g2, g3⟩ := headH_mem hm
            exact ⟨hkill id hbn, .inr ⟨j, r', b1, g1, hns j g2, g3⟩⟩
          · exact ⟨hkill id hbn, .inl ⟨b1, hm, hp1⟩⟩
        rcases hR.place i r id b hr hb with e | hm
        · -- a block that is not there yet
          exfalso
          have h5 := hsim.heap _ _ hb1
          have h6 : ρ' id = none := by rw [e]; exact hfr
          cases b1 <;> first | (obtain ⟨_, h5, _⟩ := h5; rw [h6] at h5; cases h5) | (obtain ⟨h5, _⟩ := h5; rw [h6] at h5; cases h5)
        · exact hI.next hU hR him hr hdist hnL hnw h1 (fun _ _ => rfl) hfr (.inr (.inr (.inl ⟨id, b, hb, trivial, rfl, rfl, h3, hpb⟩))) hrd
  rcases hj with ⟨hg, hju⟩ | ⟨j, want, b, rj, hg, hjn, hrj, hdj, hvj, hj⟩
  · have : guardB ops F o = true := by simp [guardB, hg]
    rw [if_pos this]
    exact exec hju
  · have hgb : guardB ops F o = (b == some want) := by
      obtain ⟨h5, h6⟩ := hR.dst j rj hrj
      cases hdd : rj.d with
      | none => exact absurd hdd hdj
      | some t =>
        have hv := hI.slot j rj hrj (hneedL j hjn) t hdd
        rw [hdd] at h6
        simp only [guardB, hg]
        rw [show (ops[j]?).bind (·.dst) = some t from h6.symm]
        unfold gb at hvj
        split at hvj
        · rename_i hb; rw [hb] at hv; cases hvj; simp only [rd] at hv; simp [hv]
        · rename_i hb; rw [hb] at hv; cases hvj; simp only [rd] at hv; obtain ⟨cs, hv, _⟩ := hv; simp [hv]
        · cases hvj
    rcases hj with ⟨hbw, hju⟩ | ⟨hbw, hvu, hbn⟩
    · rw [if_pos (by rw [hgb, hbw]; simp)]
      exact exec hju
    · rw [if_neg (by rw [hgb]; simp [hbw])]
      refine hK _ _ ⟨c, ρ, rfl, ?_⟩
      rw [← hd]
      exact hI.next hU hR him hr hdist hnL hnw (Cx.le.refl _).chg (fun _ _ => rfl) hfr (u := undef) (.inl ⟨hbn, rfl, rfl⟩) (by rw [hvu]; exact ⟨[], rfl, rfl⟩)
theorem headF_skip {ns : Nat → Bool} {R : List (Nat × HRes)} : ∀ {X : List (Nat × HRes)}, (∀ p ∈ X, ns p.1 = false) → headF ns (X ++ R) = headF ns R
  | [], _ => rfl
  | (j, r) :: X, h => by
    have hj : ns j = false := h (j, r) (by simp)
    simp only [List.cons_append, headF, hj]
    exact headF_skip (fun p hp => h p (by simp [hp]))
theorem headH_skip {ns : Nat → Bool} {R : List (Nat × HRes)} : ∀ {X : List (Nat × HRes)}, (∀ p ∈ X, ns p.1 = false) → headH ns (X ++ R) = headH ns R
  | [], _ => rfl
  | (j, r) :: X, h => by
    have hj : ns j = false := h (j, r) (by simp)
    simp only [List.cons_append, headH, hj]
    exact headH_skip (fun p hp => h p (by simp [hp]))
theorem killF_skip {ns : Nat → Bool} {k : Nat} : ∀ {X R : List (Nat × HRes)}, (∀ p ∈ X, ns p.1 = false) → killF ub ns (X ++ R) k = killF ub ns R k
  | [], _, _ => rfl
  | (j, r) :: X, R, h => by
    have hj : ns j = false := h (j, r) (by simp)
    simp only [List.cons_append, killF, hj, Bool.false_and, Bool.false_or]
    exact killF_skip fun p hp => h p (by simp [hp])
theorem banK_skip {i : Nat} {X R : List (Nat × HRes)} (h : ∀ p ∈ X, memN (need.getD i []) p.1 = false) : banK ub need i (X ++ R) = banK ub need i R := by
  cases ub with
  | nil => rfl
  | cons p l => funext k; simp only [banK, killF_skip h]
theorem ROk.cons {i : Nat} {R : List (Nat × HRes)} (h : ROk S0 ub ops i R) {r : HRes} (hd : r.d = dstOf ops i) (hp : ∀ k b, r.b = some (k, b) → privB b = true) (hq : ∀ k b, r.b = some (k, b) → k = S0.nx + i ∨ memP ub i k = true) : ROk S0 ub ops (i + 1) ((i, r) :: R) := by
  refine ⟨?_, ?_, ?_, ?_, List.pairwise_cons.2 ⟨fun p hp => (h.dst p.1 p.2 hp).1, h.ord⟩⟩
  · intro j r' hj
    rcases List.mem_cons.1 hj with e | hj
    · cases e; exact ⟨by omega, hd⟩
    · have := h.dst j r' hj; exact ⟨by omega, this.2⟩
  · intro j r1 r2 h1 h2
    rcases List.mem_cons.1 h1 with e1 | h1 <;> rcases List.mem_cons.1 h2 with e2 | h2
    · cases e1; cases e2; rfl
    · cases e1; have := (h.dst _ _ h2).1; omega
    · cases e2; have := (h.dst _ _ h1).1; omega
    · exact h.uniq j r1 r2 h1 h2
  · intro j r' k b hj hb
    rcases List.mem_cons.1 hj with e | hj
    · cases e; exact hp k b hb
    · exact h.priv j r' k b hj hb
  · intro j r' k b hj hb
    rcases List.mem_cons.1 hj with e | hj
    · cases e; exact hq k b hb
    · exact h.place j r' k b hj hb
def placeR (S : St) (ub : List (Nat × Nat)) (i : Nat) (r : HRes) : Prop := ∀ k b, r.b = some (k, b) → privB b = true ∧ (k = S.nx ∨ memP ub i k = true)
theorem headStep_just {S : St} {i : Nat} {o : Oper} {K : HRes → Prop} (h : headStep E S ub i o K) : ∃ r, Just E S ub i o r ∧ K r ∧ placeR S ub i r := by
  unfold headStep at h
  split at h
  · rename_i x l Ts hi
    unfold headCall at h
    split at h
    · rename_i f caps vs hx hvs
      rcases h with (⟨ws, r, hc, hl, hk⟩ | ⟨ws, T, n, g, z, ll, hc, hl, hk⟩) | ⟨hent, r, id, b, hm, hp, hb0, hcalls, hk⟩ | ⟨hent, id, T, n, g, z, ll, hm, hb0, hcalls, hk⟩
      · refine ⟨⟨o.dst, r, none⟩, ⟨rfl, ?_⟩, hk, fun k b hb => by cases hb⟩
        rw [hi]
        exact ⟨f, caps, vs, ws, hx, hvs, .inl ⟨rfl, hc, hl⟩⟩
      · refine ⟨⟨o.dst, .own S.nx, some (S.nx, .own T n g z ll)⟩, ⟨rfl, ?_⟩, hk, fun k b hb => by cases hb; exact ⟨rfl, .inl rfl⟩⟩
        rw [hi]
        exact ⟨f, caps, vs, ws, hx, hvs, .inr (.inl ⟨T, n, g, z, ll, rfl, rfl, hc, hl⟩)⟩
      · refine ⟨⟨o.dst, r, some (id, b)⟩, ⟨rfl, ?_⟩, hk, fun k b' hb => by cases hb; exact ⟨hp, .inr hm⟩⟩
        rw [hi]
        exact ⟨f, caps, vs, [], hx, hvs, .inr (.inr (.inl ⟨hent, r, id, b, hm, hp, hb0, hcalls, rfl, rfl⟩))⟩
      · refine ⟨⟨o.dst, .own S.nx, some (S.nx, .own T n g z ll)⟩, ⟨rfl, ?_⟩, hk, fun k b hb => by cases hb; exact ⟨rfl, .inl rfl⟩⟩
        rw [hi]
        exact ⟨f, caps, vs, [], hx, hvs, .inr (.inr (.inr ⟨hent, id, T, n, g, z, ll, hm, hb0, hcalls, rfl, rfl⟩))⟩
    · exact h.elim
  · rename_i hi
    unfold headRes at h
    split at h
    · rename_i cnd v hop
      refine ⟨⟨o.dst, v, none⟩, ⟨rfl, ?_⟩, h.2 h.1, fun k b hb => by cases hb⟩
      rw [hi]
      exact ⟨cnd, v, .none, hop, h.1, .inl ⟨rfl, .inl ⟨rfl, rfl⟩⟩⟩
    · rename_i cnd v b hop
      split at h
      · unfold pubK at h
        split at h
        · rename_i k T n g z l
          obtain ⟨hk, hc, hK⟩ := h
          simp only [decide_eq_true_eq] at hk
          subst hk
          refine ⟨⟨o.dst, .sl z n g l, none⟩, ⟨rfl, ?_⟩, hK hc, fun k b' hb => by cases hb⟩
          rw [hi]
          exact ⟨cnd, _, _, hop, hc, .inr (.inl ⟨T, n, g, z, l, rfl, .inl rfl, rfl, rfl⟩)⟩
        · rename_i k n g z l
          obtain ⟨hk, hc, hK⟩ := h
          simp only [decide_eq_true_eq] at hk
          subst hk
          refine ⟨⟨o.dst, .sl z n g l, none⟩, ⟨rfl, ?_⟩, hK hc, fun k b' hb => by cases hb⟩
          rw [hi]
          exact ⟨cnd, _, _, hop, hc, .inr (.inl ⟨0, n, g, z, l, rfl, .inr rfl, rfl, rfl⟩)⟩
        · exact h.elim
      split at h
      · rename_i hp
        refine ⟨⟨o.dst, v, some (S.nx, b)⟩, ⟨rfl, ?_⟩, h.2 h.1, fun k b' hb => by cases hb; exact ⟨hp, .inl rfl⟩⟩
        rw [hi]
        exact ⟨cnd, v, .new b, hop, h.1, .inl ⟨rfl, .inr (.inl ⟨b, rfl, rfl, hp⟩)⟩⟩
      · exact h.elim
    · rename_i cnd v id b hop
      split at h
      · rename_i hp
        simp only [Bool.and_eq_true] at hp
        refine ⟨⟨o.dst, v, some (id, b)⟩, ⟨rfl, ?_⟩, h.2 h.1, fun k b' hb => by cases hb; exact ⟨hp.2, .inr hp.1⟩⟩
        rw [hi]
        exact ⟨cnd, v, .upd id b, hop, h.1, .inl ⟨rfl, .inr (.inr ⟨id, b, rfl, rfl, hp.2⟩)⟩⟩
      · exact h.elim
    · rename_i cnd id' id T n g z ll hop
      split at h
      · rename_i hp
        simp only [Bool.and_eq_true, decide_eq_true_eq] at hp
        obtain ⟨rfl, hp⟩ := hp
        refine ⟨⟨o.dst, .own S.nx, some (S.nx, .own T n g z ll)⟩, ⟨rfl, ?_⟩, h.2 h.1, fun k b' hb => by cases hb; exact ⟨rfl, .inl rfl⟩⟩
        rw [hi]
        exact ⟨cnd, _, _, hop, h.1, .inr (.inr ⟨id', T, n, g, z, ll, rfl, rfl, rfl, rfl, by simp only [Bool.and_eq_true]; exact hp⟩)⟩
      · exact h.elim
    · exact h.elim
theorem headGuard_just {ns : Nat → Bool} {R : List (Nat × HRes)} {o : Oper} {A B : Prop} (h : headGuard ns R o A B) :
    (o.guard = none ∧ A) ∨ ∃ j want b rj, o.guard = some (j, want) ∧ ns j = true ∧ (j, rj) ∈ R ∧ rj.d ≠ none ∧ gb rj.v = some b ∧ ((b = some want ∧ A) ∨ (b ≠ some want ∧ B)) := by
  unfold headGuard at h
  split at h
  · rename_i hg; exact .inl ⟨hg, h⟩
  · rename_i j want hg
    split at h
    · rename_i r hns hr
      split at h
      · rename_i t hd
        unfold guardV at h
        split at h
        · rename_i b hb
          simp only [Option.some.injEq] at hb
          refine .inr ⟨j, want, some b, r, hg, hns, getA_mem hr, by simp [hd], by rw [hb]; rfl, ?_⟩
          by_cases e : b = want
          · exact .inl ⟨by rw [e], h.1 e⟩
          · exact .inr ⟨by simp [e], h.2 (by cases b <;> cases want <;> simp_all)⟩
        · rename_i hb
          simp only [Option.some.injEq] at hb
          exact .inr ⟨j, want, none, r, hg, hns, getA_mem hr, by simp [hd], by rw [hb]; rfl, .inr ⟨by simp, h⟩⟩
        · exact h.elim
      · exact h.elim
    · exact h.elim
theorem draw_trace {K : St → Prop} (hneed : ∀ i, i < m → ∀ j ∈ need.getD i [], j < i) :
    ∀ (k i : Nat) (l pre : List Oper) (R : List (Nat × HRes)), ops.toList = pre ++ l → pre.length = i → i + k = m → ROk S0 ub ops i R → drawK E S0 wr wl need ub K k i l R →
      ∃ X l', ROk S0 ub ops m (X ++ R) ∧ (∀ p ∈ X, i ≤ p.1) ∧ (∀ j, i ≤ j → j < m → TraceOk E S0 wr wl need ub ops (X ++ R) j) ∧ (∃ pre', ops.toList = pre' ++ l' ∧ pre'.length = m) ∧ opsK E m (dsR (X ++ R)) l' K (viewS S0 wr allN (endB ub (X ++ R)) (X ++ R) m)
  | 0, i, l, pre, R, hl, hp, hm, hR, hk => by
    obtain rfl : i = m := by omega
    exact ⟨[], l, hR, by simp, fun j h1 h2 => by omega, ⟨pre, hl, hp⟩, hk⟩
  | k + 1, i, [], pre, R, hl, hp, hm, hR, hk => hk.elim
  | k + 1, i, o :: l, pre, R, hl, hp, hm, hR, hk => by
    have ho : ops[i]? = some o := by
      rw [← Array.getElem?_toList, hl, ← hp, List.getElem?_append_right (Nat.le_refl _)]
      simp
    have hdo : o.dst = dstOf ops i := by simp [dstOf, ho]
    -- what is left, behind the entry of this operation
    have rest : ∀ r : HRes, r.d = o.dst → placeR (viewS S0 (wrF wl need i wr) (memN (need.getD i [])) (banK ub need i R) R i) ub i r → drawK E S0 wr wl need ub K k (i + 1) l ((i, r) :: R) →
        ∃ X l', ROk S0 ub ops m (X ++ (i, r) :: R) ∧ (∀ p ∈ X, i + 1 ≤ p.1) ∧ (∀ j, i + 1 ≤ j → j < m → TraceOk E S0 wr wl need ub ops (X ++ (i, r) :: R) j) ∧ (∃ pre', ops.toList = pre' ++ l' ∧ pre'.length = m) ∧ opsK E m (dsR (X ++ (i, r) :: R)) l' K (viewS S0 wr allN (endB ub (X ++ (i, r) :: R)) (X ++ (i, r) :: R) m) :=
      fun r hd hb hk => draw_trace hneed k (i + 1) l (pre ++ [o]) _ (by rw [hl]; simp) (by simp [hp]) (by omega) (hR.cons (hd.trans hdo) (fun k b h => (hb k b h).1) (fun k b h => (hb k b h).2)) hk
    have view : ∀ (r : HRes) (X : List (Nat × HRes)), (∀ p ∈ X, i + 1 ≤ p.1) → viewS S0 (wrF wl need i wr) (memN (need.getD i [])) (banK ub need i (X ++ (i, r) :: R)) (X ++ (i, r) :: R) i = viewS S0 (wrF wl need i wr) (memN (need.getD i [])) (banK ub need i R) R i := by
      intro r X hX
      have hsk : ∀ p ∈ X ++ [(i, r)], memN (need.getD i []) p.1 = false := by
        intro p hp'
        have hge : i ≤ p.1 := by
          rcases List.mem_append.1 hp' with h | h
          · have := hX p h; omega
          · simp at h; subst h; exact Nat.le_refl _
        cases hb : memN (need.getD i []) p.1 with
        | false => rfl
        | true =>
          have := hneed i (by omega) p.1 (memN_iff.1 hb)
          omega
      have e : X ++ (i, r) :: R = (X ++ [(i, r)]) ++ R := by simp
      unfold viewS
      rw [e, headF_skip hsk, headH_skip hsk, banK_skip hsk]
    have fin : ∀ (r : HRes), r.d = o.dst → placeR (viewS S0 (wrF wl need i wr) (memN (need.getD i [])) (banK ub need i R) R i) ub i r → drawK E S0 wr wl need ub K k (i + 1) l ((i, r) :: R) →
        ((o.guard = none ∧ Just E (viewS S0 (wrF wl need i wr) (memN (need.getD i [])) (banK ub need i R) R i) ub i o r) ∨ ∃ j want b rj, o.guard = some (j, want) ∧ j ∈ need.getD i [] ∧ (j, rj) ∈ R ∧ rj.d ≠ none ∧ gb rj.v = some b ∧ ((b = some want ∧ Just E (viewS S0 (wrF wl need i wr) (memN (need.getD i [])) (banK ub need i R) R i) ub i o r) ∨ (b ≠ some want ∧ r.v = .tup [] ∧ r.b = none))) →
        ∃ X l', ROk S0 ub ops m (X ++ R) ∧ (∀ p ∈ X, i ≤ p.1) ∧ (∀ j, i ≤ j → j < m → TraceOk E S0 wr wl need ub ops (X ++ R) j) ∧ (∃ pre', ops.toList = pre' ++ l' ∧ pre'.length = m) ∧ opsK E m (dsR (X ++ R)) l' K (viewS S0 wr allN (endB ub (X ++ R)) (X ++ R) m) := by
      intro r hd hb hk hj
      obtain ⟨X, l', h1, h2, h3, h4, h5⟩ := rest r hd hb hk
      have e : X ++ (i, r) :: R = (X ++ [(i, r)]) ++ R := by simp
      refine ⟨X ++ [(i, r)], l', by rw [← e]; exact h1, ?_, ?_, h4, by rw [← e]; exact h5⟩
      · intro p hp'
        rcases List.mem_append.1 hp' with h | h
        · have := h2 p h; omega
        · simp at h; subst h; exact Nat.le_refl _
      · intro j hj1 hj2
        rw [← e]
        rcases Nat.lt_or_ge i j with h | h
        · exact h3 j h hj2
        · obtain rfl : j = i := by omega
          intro o' ho'
          rw [ho] at ho'; cases ho'
          refine ⟨r, by simp, hd, ?_⟩
          rw [view r X h2]
          rcases hj with hj | ⟨j', want, b, rj, g1, g2, g3, g4⟩
          · exact .inl hj
          · exact .inr ⟨j', want, b, rj, g1, g2, by simp [g3], g4⟩
    simp only [drawK] at hk
    rcases headGuard_just hk with ⟨hg, hk⟩ | ⟨j, want, b, rj, hg, hns, hrj, hdj, hvj, ⟨hb, hk⟩ | ⟨hb, hk⟩⟩
    · obtain ⟨r, hj, hk, hp'⟩ := headStep_just hk
      exact fin r hj.1 hp' hk (.inl ⟨hg, hj⟩)
    · obtain ⟨r, hj, hk, hp'⟩ := headStep_just hk
      exact fin r hj.1 hp' hk (.inr ⟨j, want, b, rj, hg, memN_iff.1 hns, hrj, hdj, hvj, .inl ⟨hb, hj⟩⟩)
    · exact fin ⟨o.dst, .tup [], none⟩ rfl (fun k b hb => by cases hb) hk (.inr ⟨j, want, b, rj, hg, memN_iff.1 hns, hrj, hdj, hvj, .inr ⟨hb, rfl, rfl⟩⟩)
theorem dsR_mem : ∀ {R : List (Nat × HRes)} {j t : Nat}, getA (dsR R) j = some t → ∃ r, (j, r) ∈ R ∧ r.d = some t
  | [], j, t, h => by simp [dsR, getA] at h
  | (k, r) :: R, j, t, h => by
    simp only [dsR] at h
    split at h
    · rename_i t' ht
      simp only [getA] at h
      split at h
      · rename_i e; subst e; cases h; exact ⟨r, by simp, ht⟩
      · obtain ⟨r', h1, h2⟩ := dsR_mem h; exact ⟨r', by simp [h1], h2⟩
    · obtain ⟨r', h1, h2⟩ := dsR_mem h; exact ⟨r', by simp [h1], h2⟩
theorem draw_sound (hwl : wlB ops m wl = true) (hE : EnvOk E) (hmo : E.P.follows .mixedOrders = true) {n n' : Nat} (hsl : slotsB n ops = true) (hB : flowB n' m ops wr need = true) (hU : ubB m need ub S0.nx = true) (hneed : ∀ i, i < m → ∀ j ∈ need.getD i [], j < i) {K : St → Prop} {Q : Exit → Act → World → Prop} (hQ : Then E c0 n K (Q .normal))
    {id : Nat} {a : Act} (h : SimN E c0 c ρ S0 F) (hf : Fr n F a) (hk : drawK E S0 wr wl need ub K m 0 ops.toList []) : (Code.region id ops true).wp E.P Q a c.w := by
  simp only [flowB, Bool.and_eq_true, decide_eq_true_eq] at hB
  obtain ⟨⟨⟨⟨⟨_, hE'⟩, hN⟩, hW⟩, hTB⟩, hm⟩ := hB
  obtain ⟨R, l', hR, _, hT, ⟨pre', hl', hp'⟩, hk'⟩ := draw_trace hneed m 0 ops.toList [] [] rfl rfl (by omega) ⟨by simp, by simp, by simp, by simp, .nil⟩ hk
  rw [List.append_nil] at hR hT hk'
  have hH0 : ∀ i b, getA S0.H i = some b → i < S0.nx := by
    intro i b hb
    rcases Nat.lt_or_ge i S0.nx with h1 | h1
    · exact h1
    · exfalso
      have h5 := h.1.heap _ _ hb
      have h6 := h.2 i h1
      cases b <;> first | (obtain ⟨_, h5, _⟩ := h5; rw [h6] at h5; cases h5) | (obtain ⟨h5, _⟩ := h5; rw [h6] at h5; cases h5)
  refine wp_region_any hmo ?_
  have hdr : Below c.w.heap.size c.w c.w.drew := (Below.refl _ _).drew
  have hle : c.le (c.at c.w.drew hdr.size) := Cx.le_at hdr
  have hnone : ∀ i, ¬ listedP (Array.replicate ops.size false) i := fun i hi => by
    simp only [listedP, Array.getD_eq_getD_getElem?, Array.getElem?_replicate] at hi
    split at hi <;> simp at hi
  refine flowX_any (Inv := fun L F w => ∃ c ρ, c.w = w ∧ DInv E c0 S0 ub m R L F c ρ) hsl hE' hN hTB hm ?_ (step_draw hE hwl hW hU hR hH0 (fun i hi => hT i (Nat.zero_le _) hi)) ?_ ops.size _ (by simp) ?_ ?_ ?_ F _ ⟨c.at c.w.drew hdr.size, ρ, rfl, ?_⟩ a hf
  · rintro L L' F w hL ⟨c, ρ, hc, hI⟩
    have hpb : ∀ i, PB S0 ub R L' i → PB S0 ub R L i := fun i h1 => ⟨fun j r e1 e2 => h1.1 j r e1 ((hL j (hR.dst j r e1).1).1 e2), h1.2.imp (fun x => x) fun ⟨l, r, b, g1, g2, g3⟩ => ⟨l, r, b, g1, (hL l (hR.dst l r g1).1).2 g2, g3⟩⟩
    refine ⟨c, ρ, hc, hI.since, hI.gl, ?_, fun t v ht hno => hI.old t v ht fun j r g1 g2 => hno j r g1 ((hL j (hR.dst j r g1).1).1 g2), ?_, ?_, ?_, ?_⟩
    · intro j r hj hl; exact hI.slot j r hj ((hL j (hR.dst j r hj).1).2 hl)
    · intro j r k b hj hl hb hla hnk; exact hI.heap j r k b hj ((hL j (hR.dst j r hj).1).2 hl) hb (fun w r' b' hw hl' => hla w r' b' hw ((hL w (hR.dst w r' hw).1).1 hl')) fun j r e1 e2 => hnk j r e1 ((hL j (hR.dst j r e1).1).1 e2)
    · intro i b hb hno hnk; exact hI.heap0 i b hb (fun j r b' g1 g2 => hno j r b' g1 ((hL j (hR.dst j r g1).1).1 g2)) fun j r e1 e2 => hnk j r e1 ((hL j (hR.dst j r e1).1).1 e2)
    · intro i j k hij h1 h2
      exact hI.sep i j k hij (hpb i h1) (hpb j h2)
    · intro i hi hne
      exact hI.fresh i hi fun j hj hl => hne j hj ((hL j hj).1 hl)
  · rintro F w ⟨c, ρ, rfl, hI⟩ a hf
    have hS : SimN E c0 c ρ (viewS S0 wr allN (endB ub R) R m) F := by
      refine ⟨hI.sim (wr := wr) (fun t ht j r g1 _ g3 => ht (writeB_spec hW (hR.dst j r g1).1 ((hR.dst j r g1).2 ▸ g3)).1) (fun _ _ => trivial) hH0 (fun _ _ _ _ _ _ _ _ _ => rfl) (fun k hk j r h1 _ => killF_false (endB_false hk) j r h1 rfl) m hR.ord (fun _ _ _ _ _ _ _ _ _ _ _ _ _ _ _ => rfl), fun i hi => hI.fresh i ?_ ?_⟩
      · simp only [viewS] at hi; omega
      · intro j hj _; simp only [viewS] at hi; omega
    have hds : dsOk ops m (dsR R) := by
      intro j t hj
      obtain ⟨r, h1, h2⟩ := dsR_mem hj
      obtain ⟨h3, h4⟩ := hR.dst j r h1
      exact ⟨h3, by rw [← h2, h4]; rfl⟩
    have := ops_sound hE hsl hQ l' pre' (dsR R) hl' (by rw [hp']; exact hds) c ρ _ F a hS hf (by rw [hp']; exact hk')
    rw [hp'] at this
    have hlen : l'.length = ops.size - m := by
      have h6 : ops.size = pre'.length + l'.length := by
        have := congrArg List.length hl'
        simpa using this
      omega
    rw [hlen] at this
    exact this
  · have : ∀ i, (Array.replicate ops.size false).getD i false = false := fun i => by
      simp only [Array.getD_eq_getD_getElem?, Array.getElem?_replicate]; split <;> rfl
    simp [leftOf, this]
  · intro i o hi; exact absurd hi (hnone i)
  · intro i hi; exact absurd hi (hnone i)
  · refine ⟨h.1.since.le hle, h.1.gl.mono hle.pub, ?_, ?_, ?_, ?_, ?_, ?_⟩
    · intro j r _ hl; exact absurd hl (hnone j)
    · intro t v ht _; exact rd_mono hle.pub (h.1.slot t v ht)
    · intro j r k b _ hl; exact absurd hl (hnone j)
    · intro i b hb _ _; exact blkOk_chg hle.chg (fun _ _ _ hx => by cases hx) (h.1.heap i b hb)
    · rintro i j k hij ⟨_, ⟨bi, h1, h2⟩ | ⟨l, r, b, _, hl, _⟩⟩ ⟨_, ⟨bj, h3, h4⟩ | ⟨l', r', b', _, hl', _⟩⟩
      · exact h.1.sep i j bi bj k hij h1 h3 h2 h4
      · exact absurd hl' (hnone _)
      · exact absurd hl (hnone _)
      · exact absurd hl (hnone _)
    · intro i hi _; exact h.2 i hi
end
end Go.Proofs.YteolfhljhnplpaaGreatDoor
namespace Go.Proofs.YteolfhljhnplpaaGreatDoor
open Go.RowKit
def Weak (E : Env) (S S1 : St) : Prop := ∀ c0 c ρ F, SimN E c0 c ρ S F → ∃ c1 ρ1, c1.w = c.w ∧ SimN E c0 c1 ρ1 S1 F
abbrev Cuts := List Nat
def firstR : Code → Option Nat
 | .region id _ _ => some id
 | .seq a b => match firstR a with
  | some i => some i
  | none => firstR b
 | .cond _ a b => match firstR a with
  | some i => some i
  | none => firstR b
 | .block _ a => firstR a
 | .loop a => firstR a
 | _ => none
def cutAt (J : Cuts) (b : Code) : Bool := match firstR b with
 | some i => memN J i
 | none => false
def weakK (E : Env) (M : St → Prop) (S : St) : Prop := ∃ S1, Weak E S S1 ∧ M S1
def regionK (E : Env) (ops : Array Oper) : Bool → (St → Prop) → St → Prop
 | false, K, S => opsK E 0 [] ops.toList K S
 | true, K, S => ∃ n m wr wl need ub, (wlB ops m wl && flowB n m ops wr need && ((List.range m).all fun i => (need.getD i []).all fun j => decide (j < i))) = true ∧ ubB m need ub S.nx = true ∧ drawK E S wr wl need ub K m 0 ops.toList []
def thenK (Q : Exit → St → Prop) (K : St → Prop) : Exit → St → Prop
 | .normal, S => K S
 | e, S => Q e S
def blockK (Q : Exit → St → Prop) (id : Nat) : Exit → St → Prop
 | .exit j, S => if j = id then Q .normal S else Q (.exit j) S
 | e, S => Q e S
def condK (v : Option V) (A B : Prop) : Prop := match v with
 | some (.bool b) => branch b true A B
 | _ => False
def wpA (E : Env) (J : Cuts) : Code → (Exit → St → Prop) → St → Prop
 | .skip, Q, S => Q .normal S
 | .region id ops d, Q, S => regionK E ops d (Q .normal) S
 | .seq a b, Q, S => match cutAt J b with
  | false => wpA E J a (thenK Q (wpA E J b Q)) S
  | true => wpA E J a (thenK Q (weakK E (wpA E J b Q))) S
 | .cond x a b, Q, S => condK (S.ev E.gv x) (wpA E J a Q S) (wpA E J b Q S)
 | .block id a, Q, S => wpA E J a (blockK Q id) S
 | .loop a, Q, S => ∃ (I : Nat → St → Prop) (k0 : Nat), (∃ S1, Weak E S S1 ∧ I k0 S1) ∧ ∀ k S', I k S' → wpA E J a (thenK Q fun S2 => ∃ k', k' < k ∧ ∃ S3, Weak E S2 S3 ∧ I k' S3) S'
 | .ret, Q, S => Q .ret S
 | .exit id, Q, S => Q (.exit id) S
 | .scope a, Q, S => False
 | _, _, _ => False
def slotsC (n : Nat) : Code → Bool
 | .region _ ops _ => slotsB n ops
 | .seq a b => slotsC n a && slotsC n b
 | .cond _ a b => slotsC n a && slotsC n b
 | .block _ a => slotsC n a
 | .loop a => slotsC n a
 | _ => true
section
variable {E : Env} {c0 c : Cx} {ρ : Ro} {S : St} {F : Fm}
def Ends (E : Env) (c0 : Cx) (n : Nat) (Q : Exit → St → Prop) (e : Exit) (a : Act) (w : World) : Prop := ∃ c ρ S F, c.w = w ∧ SimN E c0 c ρ S F ∧ Fr n F a ∧ Q e S
theorem wpA_sound (hE : EnvOk E) (hmo : E.P.follows .mixedOrders = true) {n : Nat} {J : Cuts} : ∀ (code : Code) (Q : Exit → St → Prop) (QC : Exit → Act → World → Prop), slotsC n code = true → (∀ e a w, Ends E c0 n Q e a w → QC e a w) →
  ∀ c ρ S F a, SimN E c0 c ρ S F → Fr n F a → wpA E J code Q S → code.wp E.P QC a c.w := by
 intro code
 induction code with
 | skip =>
  intro Q QC hs hQ c ρ S F a h hf hk
  exact wp_skip (hQ _ _ _ ⟨c, ρ, S, F, rfl, h, hf, hk⟩)
 | region id ops d =>
  intro Q QC hs hQ c ρ S F a h hf hk
  have main : ∀ c ρ S F a, SimN E c0 c ρ S F → Fr n F a → regionK E ops d (Q .normal) S → (Code.region id ops d).wp E.P QC a c.w := by
   intro c ρ S F a h hf hk
   have hT : Then E c0 n (Q .normal) (QC .normal) := fun c ρ S F a h hf hk => hQ _ _ _ ⟨c, ρ, S, F, rfl, h, hf, hk⟩
   cases d with
   | false =>
    refine wp_region ?_
    have := ops_sound hE hs hT ops.toList [] [] rfl (fun j t hj => by simp [getA] at hj) c ρ S F a h hf hk
    rw [List.range_eq_range']
    simpa using this
   | true =>
    obtain ⟨n', m, wr, wl, need, ub, hB, hU, hk⟩ := hk
    simp only [Bool.and_eq_true, List.all_eq_true, List.mem_range, decide_eq_true_eq] at hB
    exact draw_sound hB.1.1 hE hmo hs hB.1.2 hU hB.2 hT h hf hk
  exact main c ρ S F a h hf hk
 | seq x y ihx ihy =>
  intro Q QC hs hQ c ρ S F a h hf hk
  simp only [slotsC, Bool.and_eq_true] at hs
  simp only [wpA] at hk
  split at hk
  ·refine wp_seq (ihx _ _ hs.1 ?_ c ρ S F a h hf hk)
   clear hk
   rintro e a w ⟨c, ρ, S, F, rfl, h, hf, hk⟩
   cases e with
   | normal => exact ihy Q QC hs.2 hQ c ρ S F a h hf hk
   | _ => exact hQ _ _ _ ⟨c, ρ, S, F, rfl, h, hf, hk⟩
  ·refine wp_seq (ihx _ _ hs.1 ?_ c ρ S F a h hf hk)
   clear hk
   rintro e a w ⟨c, ρ, S, F, rfl, h, hf, hk⟩
   cases e with
   | normal =>
    obtain ⟨S1, hw, hM⟩ := hk
    obtain ⟨c1, ρ1, e1, h1⟩ := hw c0 c ρ F h
    have := ihy Q QC hs.2 hQ c1 ρ1 S1 F a h1 hf hM
    rwa [e1] at this
   | _ => exact hQ _ _ _ ⟨c, ρ, S, F, rfl, h, hf, hk⟩
 | cond x a b iha ihb =>
  intro Q QC hs hQ c ρ S F act h hf hk
  simp only [slotsC, Bool.and_eq_true] at hs
  simp only [wpA] at hk
  unfold condK at hk
  split at hk
  ·rename_i t ht
   have hv := ev_rd h.1 ht
   simp only [rd] at hv
   exact wp_if hf hv (fun e => iha Q QC hs.1 hQ c ρ S F act h hf (hk.1 e)) (fun e => ihb Q QC hs.2 hQ c ρ S F act h hf (hk.2 e))
  ·exact hk.elim
 | block id x ih =>
  intro Q QC hs hQ c ρ S F a h hf hk
  refine wp_block (ih _ _ hs ?_ c ρ S F a h hf hk)
  clear hk
  rintro e a w ⟨c, ρ, S, F, rfl, h, hf, hk⟩
  cases e with
  | exit j =>
   simp only [blockK] at hk
   simp only [Exit.inBlock]
   split at hk
   ·rename_i e; subst e
    rw [if_pos rfl]
    exact hQ _ _ _ ⟨c, ρ, S, F, rfl, h, hf, hk⟩
   ·rename_i e
    rw [if_neg (by simpa using e)]
    exact hQ _ _ _ ⟨c, ρ, S, F, rfl, h, hf, hk⟩
  | _ => exact hQ _ _ _ ⟨c, ρ, S, F, rfl, h, hf, hk⟩
 | loop x ih =>
  intro Q QC hs hQ c ρ S F a h hf hk
  simp only [wpA] at hk
  obtain ⟨I, k0, ⟨S1, hw, hI⟩, hround⟩ := hk
  obtain ⟨c1, ρ1, e1, h1⟩ := hw c0 c ρ F h
  refine wp_rounds (fun k a w => ∃ c ρ S F, c.w = w ∧ SimN E c0 c ρ S F ∧ Fr n F a ∧ I k S) k0 ⟨c1, ρ1, S1, F, e1, h1, hf, hI⟩ ?_
  rintro k a w ⟨c, ρ, S, F, rfl, h, hf, hI⟩
  refine ih _ _ hs ?_ c ρ S F a h hf (hround k S hI)
  rintro e a w ⟨c, ρ, S, F, rfl, h, hf, hk⟩
  cases e with
  | normal =>
   obtain ⟨k', hlt, S3, hw, hI⟩ := hk
   obtain ⟨c1, ρ1, e1, h1⟩ := hw c0 c ρ F h
   exact ⟨k', hlt, c1, ρ1, S3, F, e1, h1, hf, hI⟩
  | _ => exact hQ _ _ _ ⟨c, ρ, S, F, rfl, h, hf, hk⟩
 | ret =>
  intro Q QC hs hQ c ρ S F a h hf hk
  exact wp_ret (hQ _ _ _ ⟨c, ρ, S, F, rfl, h, hf, hk⟩)
 | exit id =>
  intro Q QC hs hQ c ρ S F a h hf hk
  exact wp_exit (hQ _ _ _ ⟨c, ρ, S, F, rfl, h, hf, hk⟩)
 | _ =>
  intro Q QC hs hQ c ρ S F a h hf hk
  exact hk.elim
def resV (tb : TypeId → TI) (S : St) : ResultVar → Option V
 | .tmp t => getA S.F t
 | .cell t T => match getA S.F t with
  | some (.ptr id 0) => match getA S.H id with
   | some (.var n g d) => if (tb T).ok = true ∧ (tb T).n = n ∧ (tb T).g = g then some d else none
   | some (.pvar n g d) => if (tb T).ok = true ∧ (tb T).n = n ∧ (tb T).g = g then some d else none
   | _ => none
  | _ => none
def resL (tb : TypeId → TI) (S : St) : List ResultVar → Option (List V)
 | [] => some []
 | x :: l => match resV tb S x, resL tb S l with
  | some v, some vs => some (v :: vs)
  | _, _ => none
def tupV : List V → V
 | [v] => v
 | vs => .tup vs
def outOk (E : Env) (S : St) (v : V) (r : V) (H : List Blk) : Prop :=
 ∀ c0 c ρ F u, c0.Y = [] → SimN E c0 c ρ S F → rd ρ c v u → ∃ c1 ρ1, c1.w = c.w ∧ c0.le c1 ∧ rd ρ1 c1 r u ∧ HOk c0 c1 ρ1 H
def retK (E : Env) (rs : List ResultVar) (r : V) (H : List Blk) : Exit → St → Prop
 | .ret, S => match resL E.tb S rs with
  | some vs => outOk E S (tupV vs) r H
  | none => False
 | _, _ => False
theorem resV_run (hE : EnvOk E) (h : Sim E c0 c ρ S F) {x : ResultVar} {v : V} (hx : resV E.tb S x = some v) : ∃ u, ResIs E.P F c.w x u ∧ rd ρ c v u := by
 cases x with
 | tmp t => exact ⟨F t, rfl, h.slot t v hx⟩
 | cell t T =>
  simp only [resV] at hx
  split at hx
  ·rename_i id ht
   have hp := h.slot _ _ ht
   simp only [rd] at hp
   obtain ⟨b, hb, he⟩ := hp
   split at hx
   ·rename_i n g d hH
    obtain ⟨⟨h1, rfl, rfl⟩, hx2⟩ := ite_some hx
    cases hx2
    obtain ⟨b', e1, e2, hv⟩ := h.heap _ _ hH
    rw [hb] at e1; cases e1
    obtain ⟨u, hu, hu'⟩ := res_cell ((hE.t T h1).ty ρ) hv he
    exact ⟨u, hu, val_rd hu'⟩
   ·rename_i n g d hH
    obtain ⟨⟨h1, rfl, rfl⟩, hx2⟩ := ite_some hx
    cases hx2
    obtain ⟨b', e1, hv⟩ := h.heap _ _ hH
    rw [hb] at e1; cases e1
    obtain ⟨b2, o2, cs, e3, _, _, hc, hi⟩ := hv
    cases e3
    have hrun := run_loadVar_at (P := E.P) ((hE.t T h1).ty ro0) hi hc
    exact ⟨_, ⟨_, he, hrun⟩, val0_rd ⟨cs, hi, rfl⟩⟩
   ·cases hx
  ·cases hx
theorem resL_run (hE : EnvOk E) {n : Nat} {a : Act} (h : Sim E c0 c ρ S F) (hf : Fr n F a) : ∀ {l : List ResultVar} {vs : List V}, resL E.tb S l = some vs → ∃ us : List Value, us.length = l.length ∧ (l.mapM (oneResult a.tmps)).run E.P c.w = .ok us c.w ∧ rdT ρ c vs us
 | [], vs, hx => by
  simp only [resL, Option.some.injEq] at hx
  subst hx
  exact ⟨[], rfl, by simp, rfl⟩
 | x :: l, vs, hx => by
  simp only [resL] at hx
  split at hx
  ·rename_i v vs' h1 h2
   cases hx
   obtain ⟨u, hu, hr⟩ := resV_run hE h h1
   obtain ⟨us, hl, hrun, hrs⟩ := resL_run hE h hf h2
   refine ⟨u :: us, by simp [hl], ?_, ?_⟩
   ·simp only [List.mapM_cons, Sem.run_bind, resIs_run hf hu, Result.andThen_ok, hrun, Sem.run_pure]
   ·simp only [rdT]; exact ⟨u, us, rfl, hr, hrs⟩
  ·cases hx
theorem results_run (hE : EnvOk E) {n : Nat} {a : Act} {fn : Func} (h : Sim E c0 c ρ S F) (hf : Fr n F a) {vs : List V} (hx : resL E.tb S fn.results.toList = some vs) : ∃ u, (results fn a.tmps).run E.P c.w = .ok u c.w ∧ rd ρ c (tupV vs) u := by
 obtain ⟨us, hl, hrun, hrs⟩ := resL_run hE h hf hx
 have hrun' : (fn.results.mapM (oneResult a.tmps)).run E.P c.w = .ok us.toArray c.w := by
  rw [Array.mapM_eq_mapM_toList]
  simp only [map_eq_pure_bind, Sem.run_bind, hrun, Result.andThen_ok, Sem.run_pure]
 refine ⟨if h : us.toArray.size = 1 then us.toArray[0] else .tuple us.toArray, ?_, ?_⟩
 ·rw [results_eq]
  simp only [Sem.run_bind, hrun', Result.andThen_ok, Sem.run_pure]
 ·match vs, us, hrs with
  | [], us, hrs =>
   simp only [rdT] at hrs
   subst hrs
   simp only [tupV, rd]
   exact ⟨[], rfl, rfl⟩
  | [v], us, hrs =>
   simp only [rdT] at hrs
   obtain ⟨u, c2, rfl, h1, rfl⟩ := hrs
   exact h1
  | v :: v' :: vs, us, hrs =>
   have hrs' := hrs
   simp only [rdT] at hrs'
   obtain ⟨u, c2, rfl, h1, u', c3, rfl, h2, h3⟩ := hrs'
   simp only [tupV, rd]
   refine ⟨u :: u' :: c3, ?_, hrs⟩
   simp
def slotsA : Nat → List V → List (Nat × V)
 | _, [] => []
 | i, v :: l => (i, v) :: slotsA (i + 1) l
theorem getA_slotsA : ∀ {l : List V} {i t : Nat}, getA (slotsA i l) t = if i ≤ t then l[t - i]? else none
 | [], i, t => by simp [slotsA, getA]
 | v :: l, i, t => by
  simp only [slotsA, getA, getA_slotsA]
  by_cases h : i = t
  ·subst h; simp
  ·rw [if_neg h]
   by_cases h1 : i ≤ t
   ·rw [if_pos h1, if_pos (by omega)]
    have : t - i = (t - (i + 1)) + 1 := by omega
    rw [this, List.getElem?_cons_succ]
   ·rw [if_neg h1, if_neg (by omega)]
theorem enterV (hE : EnvOk E) (hmo : E.P.follows .mixedOrders = true) {f : FuncId} {fn : Func} {code : Code} {ws : List V} {r : V} {H : List Blk} {n : Nat} (J : Cuts) (hf : E.P.funcs[f]? = some fn) (hb : fn.body = some code) (hnt : fn.ntmps = n)
  (hsl : (slotsC n code && decide (ws.length ≤ n) && !(fn.name == "runtime.NumGoroutine")) = true)
  (h : wfL ws → wpA E J code (retK E fn.results.toList r H) ⟨slotsA 0 ws, [], 0⟩) : CallOk E f ws r H := by
 simp only [Bool.and_eq_true, Bool.not_eq_true', decide_eq_true_eq] at hsl
 refine ⟨fun aas w => ?_, fun c us hY hg hus => ?_⟩
 ·have hn : ¬ fn.name = "runtime.NumGoroutine" := by simpa using hsl.2
  simp [callFunc, hf, hb, hn]
 have hlen : us.length = ws.length := by
  have : ∀ {l : List V} {cs : List Value}, rdT ro0 c l cs → cs.length = l.length := by
   intro l
   induction l with
   | nil => intro cs hc; simp only [rdT] at hc; subst hc; rfl
   | cons d l ih =>
    intro cs hc
    simp only [rdT] at hc
    obtain ⟨u, c2, rfl, _, h3⟩ := hc
    simp [ih h3]
  exact this hus
 have hall := h (rdT_wf hus)
 refine calls_of_wp hf hb ?_
 have hfr : Fr n (fun t => (us.toArray ++ Array.replicate (n - us.toArray.size) undef).getD t undef) { tmps := us.toArray ++ Array.replicate (fn.ntmps - us.toArray.size) undef, defers := [] } := by
  refine ⟨?_, rfl, fun t => by rw [hnt]⟩
  simp [hnt]; omega
 have hS : SimN E c c ro0 ⟨slotsA 0 ws, [], 0⟩ (fun t => (us.toArray ++ Array.replicate (n - us.toArray.size) undef).getD t undef) := by
  refine ⟨⟨Since.refl c, hg, ?_, fun i b hb => by simp [getA] at hb, fun i j bi bj k hij hb => by simp [getA] at hb⟩, fun i _ => rfl⟩
  intro t v ht
  rw [getA_slotsA] at ht
  simp only [Nat.zero_le, if_true, Nat.sub_zero] at ht
  obtain ⟨u, hu, hr⟩ := rdT_get hus ht
  have hlt : t < us.length := (List.getElem?_eq_some_iff.1 hu).1
  have : (us.toArray ++ Array.replicate (n - us.toArray.size) undef).getD t undef = u := by
   have he : us[t] = u := by simpa [List.getElem?_eq_getElem hlt] using hu
   simp [Array.getD_eq_getD_getElem?, Array.getElem?_append, hlt, he]
  rw [this]; exact hr
 refine wpA_sound hE hmo code _ _ hsl.1.1 ?_ c ro0 _ _ _ hS hfr hall
 rintro e a w ⟨c', ρ', S', F', rfl, hS, hf', hk⟩
 cases e with
 | ret =>
  simp only [retK] at hk
  split at hk
  ·rename_i vs hvs
   obtain ⟨u, hu, hr⟩ := results_run hE hS.1 hf' hvs
   obtain ⟨c1, ρ1, e1, hle, hr1, hH⟩ := hk c c' ρ' F' u hY hS hr
   refine ⟨hf'.defers, u, hu, u, c1, ρ1, rfl, e1, hle, hr1, hH⟩
  ·exact hk.elim
 | _ => exact hk.elim
end
end Go.Proofs.YteolfhljhnplpaaGreatDoor
namespace Go.Proofs.YteolfhljhnplpaaGreatDoor
open Go.RowKit
def mtZ : Option Bool → Option Bool → Prop
 | _, none => True
 | some a, some b => a = b
 | none, some _ => False
def leV (a b : V) : Prop := ∀ ρ c v, rd ρ c a v → rd ρ c b v
mutual
def mt : V → V → Prop
 | .int k n, .int k' n' => k = k' ∧ n = n'
 | .bool a, .bool b => a = b
 | .ifc a, .ifc b => a = b
 | .str a, .str b => a = b
 | .agg l, .agg m => mtL l m
 | .sl z n g l, .sl z' n' g' m => mtZ z z' ∧ ((l = [] ∧ m = []) ∨ (n = n' ∧ g = g' ∧ mtL l m))
 | .pp n g d, .pp n' g' d' => n = n' ∧ g = g' ∧ mt d d'
 | .own i, .own j => i = j
 | .ptr i o, .ptr j p => i = j ∧ o = p
 | .optr i m k o, .optr i' m' k' o' => i = i' ∧ m = m' ∧ k = k' ∧ o = o'
 | .osub i m k o, .osub i' m' k' o' => i = i' ∧ m = m' ∧ k = k' ∧ o = o'
 | .tup l, .tup m => mtL l m
 | .fn f l, .fn f' m => f = f' ∧ mtL l m
 | a, .opq p => leV a (.opq p)
 | _, .un => True
 | _, _ => False
def mtL : List V → List V → Prop
 | [], [] => True
 | a :: l, b :: m => mt a b ∧ mtL l m
 | _, _ => False
end
theorem mtZ_ok {z z' : Option Bool} {a : Option Addr} {cap : Nat} (h : mtZ z z') (k : zOk z a cap) : zOk z' a cap := by
 cases z' with
 | none => exact zOk_none k
 | some b =>
  cases z with
  | none => exact h.elim
  | some b' =>
   have e : b' = b := h
   subst e; exact k
theorem mtL_len : ∀ {l m : List V}, mtL l m → l.length = m.length
 | [], [], _ => rfl
 | a :: l, b :: m, h => by simp only [mtL] at h; simp [mtL_len h.2]
 | [], _ :: _, h => by simp [mtL] at h
 | _ :: _, [], h => by simp [mtL] at h
mutual
theorem mt_rd {ρ : Ro} {c : Cx} : ∀ {a b : V} {v : Value}, mt a b → rd ρ c a v → rd ρ c b v
 | .int k n, b, v, h, hr => by
  cases b <;> simp only [mt] at h <;> try exact h.elim
  ·obtain ⟨rfl, rfl⟩ := h; exact hr
  ·exact h _ _ _ hr
  ·trivial
 | .bool a, b, v, h, hr => by
  cases b <;> simp only [mt] at h <;> try exact h.elim
  ·subst h; exact hr
  ·exact h _ _ _ hr
  ·trivial
 | .ifc a, b, v, h, hr => by
  cases b <;> simp only [mt] at h <;> try exact h.elim
  ·subst h; exact hr
  ·exact h _ _ _ hr
  ·trivial
 | .str a, b, v, h, hr => by
  cases b <;> simp only [mt] at h <;> try exact h.elim
  ·subst h; exact hr
  ·exact h _ _ _ hr
  ·trivial
 | .agg l, b, v, h, hr => by
  cases b <;> simp only [mt] at h <;> try exact h.elim
  ·simp only [rd] at hr ⊢
   obtain ⟨cs, e, hr⟩ := hr
   exact ⟨cs, e, mt_rdC h hr⟩
  ·exact h _ _ _ hr
  ·trivial
 | .sl z n g l, b, v, h, hr => by
  cases b <;> simp only [mt] at h <;> try exact h.elim
  ·rename_i z' n' g' m
   obtain ⟨hz, h⟩ := h
   simp only [rd] at hr ⊢
   obtain ⟨a, cap, e, hl, hz', hr⟩ := hr
   rcases h with ⟨rfl, rfl⟩ | ⟨rfl, rfl, hm⟩
   ·exact ⟨a, cap, e, hl, mtZ_ok hz hz', .inl rfl⟩
   ·have hlen := mtL_len hm
    rw [hlen] at hl e
    refine ⟨a, cap, e, hl, mtZ_ok hz hz', ?_⟩
    rcases hr with h | ⟨b, o, cs, e, h1, h2, h3, h4⟩
    ·subst h
     exact .inl (List.eq_nil_of_length_eq_zero hlen.symm)
    ·exact .inr ⟨b, o, cs, e, h1, h2, h3, mt_rdE hm h4⟩
  ·exact h _ _ _ hr
  ·trivial
 | .pp n g d, b, v, h, hr => by
  cases b <;> simp only [mt] at h <;> try exact h.elim
  ·obtain ⟨rfl, rfl, hm⟩ := h
   simp only [rd] at hr ⊢
   obtain ⟨b, o, cs, e, h1, h2, h3, h4, h5⟩ := hr
   exact ⟨b, o, cs, e, h1, h2, h3, h4, mt_rd hm h5⟩
  ·exact h _ _ _ hr
  ·trivial
 | .own i, b, v, h, hr => by
  cases b <;> simp only [mt] at h <;> try exact h.elim
  ·subst h; exact hr
  ·exact h _ _ _ hr
  ·trivial
 | .ptr i o, b, v, h, hr => by
  cases b <;> simp only [mt] at h <;> try exact h.elim
  ·obtain ⟨rfl, rfl⟩ := h; exact hr
  ·exact h _ _ _ hr
  ·trivial
 | .optr i m k o, b, v, h, hr => by
  cases b <;> simp only [mt] at h <;> try exact h.elim
  ·obtain ⟨rfl, rfl, rfl, rfl⟩ := h; exact hr
  ·exact h _ _ _ hr
  ·trivial
 | .osub i m k o, b, v, h, hr => by
  cases b <;> simp only [mt] at h <;> try exact h.elim
  ·obtain ⟨rfl, rfl, rfl, rfl⟩ := h; exact hr
  ·exact h _ _ _ hr
  ·trivial
 | .tup l, b, v, h, hr => by
  cases b <;> simp only [mt] at h <;> try exact h.elim
  ·simp only [rd] at hr ⊢
   obtain ⟨cs, e, hr⟩ := hr
   exact ⟨cs, e, mt_rdT h hr⟩
  ·exact h _ _ _ hr
  ·trivial
 | .fn f l, b, v, h, hr => by
  cases b <;> simp only [mt] at h <;> try exact h.elim
  ·obtain ⟨rfl, h⟩ := h
   simp only [rd] at hr ⊢
   obtain ⟨cs, e, hr⟩ := hr
   exact ⟨cs, e, mt_rdT h hr⟩
  ·exact h _ _ _ hr
  ·trivial
 | .opq p, b, v, h, hr => by
  cases b <;> simp only [mt] at h <;> try exact h.elim
  ·exact h _ _ _ hr
  ·trivial
 | .un, b, v, h, hr => by
  cases b <;> simp only [mt] at h <;> try exact h.elim
  ·exact h _ _ _ hr
  ·trivial
theorem mt_rdC {ρ : Ro} {c : Cx} : ∀ {l m : List V} {cs : List Value}, mtL l m → rdC ρ c l cs → rdC ρ c m cs
 | [], [], _, _, h => h
 | a :: l, b :: m, cs, hm, h => by
  simp only [rdC, mtL] at h hm ⊢
  obtain ⟨u, c2, e, h1, h2, h3⟩ := h
  exact ⟨u, c2, e, h1, mt_rd hm.1 h2, mt_rdC hm.2 h3⟩
 | [], _ :: _, _, hm, _ => by simp [mtL] at hm
 | _ :: _, [], _, hm, _ => by simp [mtL] at hm
theorem mt_rdT {ρ : Ro} {c : Cx} : ∀ {l m : List V} {cs : List Value}, mtL l m → rdT ρ c l cs → rdT ρ c m cs
 | [], [], _, _, h => h
 | a :: l, b :: m, cs, hm, h => by
  simp only [rdT, mtL] at h hm ⊢
  obtain ⟨u, c2, e, h2, h3⟩ := h
  exact ⟨u, c2, e, mt_rd hm.1 h2, mt_rdT hm.2 h3⟩
 | [], _ :: _, _, hm, _ => by simp [mtL] at hm
 | _ :: _, [], _, hm, _ => by simp [mtL] at hm
theorem mt_rdE {c : Cx} {n : Nat} {g : Bool} : ∀ {l m : List V} {cs : List Value}, mtL l m → rdE c n g l cs → rdE c n g m cs
 | [], [], _, _, h => h
 | a :: l, b :: m, cs, hm, h => by
  simp only [rdE, mtL] at h hm ⊢
  obtain ⟨c1, c2, e, ⟨h1, h2⟩, h3⟩ := h
  exact ⟨c1, c2, e, ⟨h1, mt_rd hm.1 h2⟩, mt_rdE hm.2 h3⟩
 | [], _ :: _, _, hm, _ => by simp [mtL] at hm
 | _ :: _, [], _, hm, _ => by simp [mtL] at hm
end
mutual
theorem mt_refl : ∀ (a : V), mt a a
 | .int _ _ => ⟨rfl, rfl⟩
 | .bool _ => rfl
 | .ifc _ => rfl
 | .str _ => rfl
 | .agg l => by simp only [mt]; exact mtL_refl l
 | .sl z n g l => by
  simp only [mt]
  exact ⟨by rcases z with _ | _ <;> simp [mtZ], .inr ⟨trivial, trivial, mtL_refl l⟩⟩
 | .pp n g d => by simp only [mt]; exact ⟨trivial, trivial, mt_refl d⟩
 | .own _ => rfl
 | .ptr _ _ => ⟨rfl, rfl⟩
 | .optr _ _ _ _ => ⟨rfl, rfl, rfl, rfl⟩
 | .osub _ _ _ _ => ⟨rfl, rfl, rfl, rfl⟩
 | .tup l => by simp only [mt]; exact mtL_refl l
 | .fn f l => by simp only [mt]; exact ⟨trivial, mtL_refl l⟩
 | .opq p => by simp only [mt]; exact fun _ _ _ h => h
 | .un => trivial
theorem mtL_refl : ∀ (l : List V), mtL l l
 | [] => trivial
 | a :: l => by simp only [mtL]; exact ⟨mt_refl a, mtL_refl l⟩
end
theorem mt_self {a : V} : mt a a = True := eq_true (mt_refl a)
theorem mtL_self {l : List V} : mtL l l = True := eq_true (mtL_refl l)
theorem mtL_append {a b a' b' : List V} (h1 : mtL a a') (h2 : mtL b b') : mtL (a ++ b) (a' ++ b') := by
 induction a generalizing a' with
 | nil => cases a' with
  | nil => exact h2
  | cons x l => simp [mtL] at h1
 | cons y a ih => cases a' with
  | nil => simp [mtL] at h1
  | cons x l =>
   simp only [mtL] at h1
   simp only [List.cons_append, mtL]
   exact ⟨h1.1, ih h1.2⟩
theorem mtL_drop {a b b' : List V} (h : mtL (a ++ b) (a ++ b')) : mtL b b' := by
 induction a with
 | nil => exact h
 | cons x a ih => simp only [List.cons_append, mtL] at h; exact ih h.2
theorem mtL_same {a b b' : List V} : mtL (a ++ b) (a ++ b') = mtL b b' := propext ⟨mtL_drop, fun h => mtL_append (mtL_refl a) h⟩
mutual
def ltV (n : Nat) : V → Prop
 | .own i => i < n
 | .ptr i _ => i < n
 | .optr i _ _ _ => i < n
 | .osub i _ _ _ => i < n
 | .agg l => ltL n l
 | .tup l => ltL n l
 | .fn _ l => ltL n l
 | _ => True
def ltL (n : Nat) : List V → Prop
 | [] => True
 | d :: l => ltV n d ∧ ltL n l
end
def mtO (v : V) : Option V → Prop
 | some u => mt u v
 | none => False
def subF (F : List (Nat × V)) (n : Nat) : List (Nat × V) → Prop
 | [] => True
 | (t, v) :: l => mtO v (getA F t) ∧ ltV n v ∧ subF F n l
def mtB (b : Blk) : Option Blk → Prop
 | some a => match a, b with
  | .var n g d, .var n' g' d' => n = n' ∧ g = g' ∧ mt d d'
  | .own E n g z l, .own E' n' g' z' m => E = E' ∧ n = n' ∧ g = g' ∧ mtZ z z' ∧ mtL l m
  | .ownI E n g z l, .ownI E' n' g' z' m => E = E' ∧ n = n' ∧ g = g' ∧ mtZ z z' ∧ mtL l m
  | .pvar n g d, .pvar n' g' d' => n = n' ∧ g = g' ∧ mt d d'
  | .pown n g z l, .pown n' g' z' m => n = n' ∧ g = g' ∧ mtZ z z' ∧ mtL l m
  | .lent k n g d, .lent k' n' g' d' => k = k' ∧ n = n' ∧ g = g' ∧ mt d d'
  | .kset g k n l, .kset g' k' n' l' => g = g' ∧ k = k' ∧ n = n' ∧ l = l'
  | _, _ => False
 | none => False
def ltB (n : Nat) : Blk → Prop
 | .var _ _ d => ltV n d
 | .lent _ _ _ d => ltV n d
 | .ownI _ _ _ _ l => ltL n l
 | _ => True
def subH (H : List (Nat × Blk)) (n : Nat) : List (Nat × Blk) → Prop
 | [] => True
 | (i, b) :: l => mtB b (getA H i) ∧ i < n ∧ ltB n b ∧ subH H n l
section
variable {E : Env} {c0 c : Cx} {ρ : Ro} {S S1 : St} {F : Fm}
def roCut (n : Nat) (ρ : Ro) : Ro := fun i => if i < n then ρ i else none
theorem roCut_lt {n i : Nat} (h : i < n) : roCut n ρ i = ρ i := by simp [roCut, h]
mutual
theorem cut_rd {n : Nat} : ∀ {d : V} {v : Value}, ltV n d → rd ρ c d v → rd (roCut n ρ) c d v
 | .int _ _, _, _, h => h
 | .bool _, _, _, h => h
 | .ifc _, _, _, h => h
 | .str _, _, _, h => h
 | .agg l, v, hp, h => by
  simp only [rd, ltV] at h hp ⊢
  obtain ⟨cs, e, h⟩ := h
  exact ⟨cs, e, cut_rdC hp h⟩
 | .sl z n g l, v, _, h => h
 | .pp n g d, v, _, h => h
 | .own i, _, hp, h => by
  simp only [ltV] at hp
  exact ⟨(roCut_lt hp).trans h.1, h.2⟩
 | .ptr i o, _, hp, h => by
  simp only [ltV, rd] at hp h ⊢
  obtain ⟨b, h1, h2⟩ := h
  exact ⟨b, (roCut_lt hp).trans h1, h2⟩
 | .optr i m k o, _, hp, h => by
  simp only [ltV, rd] at hp h ⊢
  obtain ⟨b, h1, h2⟩ := h
  exact ⟨b, (roCut_lt hp).trans h1, h2⟩
 | .osub i m k o, _, hp, h => by
  simp only [ltV, rd] at hp h ⊢
  obtain ⟨b, h1, h2⟩ := h
  exact ⟨b, (roCut_lt hp).trans h1, h2⟩
 | .tup l, v, hp, h => by
  simp only [rd, ltV] at h hp ⊢
  obtain ⟨cs, e, h⟩ := h
  exact ⟨cs, e, cut_rdT hp h⟩
 | .fn f l, v, hp, h => by
  simp only [rd, ltV] at h hp ⊢
  obtain ⟨cs, e, h⟩ := h
  exact ⟨cs, e, cut_rdT hp h⟩
 | .opq p, v, _, h => h
 | .un, _, _, _ => trivial
theorem cut_rdC {n : Nat} : ∀ {l : List V} {cs : List Value}, ltL n l → rdC ρ c l cs → rdC (roCut n ρ) c l cs
 | [], _, _, h => h
 | d :: l, cs, hp, h => by
  simp only [rdC, ltL] at h hp ⊢
  obtain ⟨u, c2, e, h1, h2, h3⟩ := h
  exact ⟨u, c2, e, h1, cut_rd hp.1 h2, cut_rdC hp.2 h3⟩
theorem cut_rdT {n : Nat} : ∀ {l : List V} {cs : List Value}, ltL n l → rdT ρ c l cs → rdT (roCut n ρ) c l cs
 | [], _, _, h => h
 | d :: l, cs, hp, h => by
  simp only [rdT, ltL] at h hp ⊢
  obtain ⟨u, c2, e, h2, h3⟩ := h
  exact ⟨u, c2, e, cut_rd hp.1 h2, cut_rdT hp.2 h3⟩
end
theorem subF_get {G : List (Nat × V)} {n : Nat} : ∀ {l : List (Nat × V)}, subF G n l → ∀ {t : Nat} {v : V}, getA l t = some v → ∃ u, getA G t = some u ∧ mt u v ∧ ltV n v
 | [], _, t, v, h => by simp [getA] at h
 | (k, x) :: l, hs, t, v, h => by
  simp only [subF] at hs
  simp only [getA] at h
  split at h
  ·rename_i e; subst e; cases h
   obtain ⟨h1, h2, _⟩ := hs
   unfold mtO at h1
   split at h1
   ·rename_i u hu; exact ⟨u, hu, h1, h2⟩
   ·exact h1.elim
  ·exact subF_get hs.2.2 h
theorem subH_get {G : List (Nat × Blk)} {n : Nat} : ∀ {l : List (Nat × Blk)}, subH G n l → ∀ {i : Nat} {b : Blk}, getA l i = some b → ∃ a, getA G i = some a ∧ mtB b (some a) ∧ i < n ∧ ltB n b
 | [], _, t, v, h => by simp [getA] at h
 | (k, x) :: l, hs, t, v, h => by
  simp only [subH] at hs
  simp only [getA] at h
  split at h
  ·rename_i e; subst e; cases h
   obtain ⟨h1, h2, h3, _⟩ := hs
   cases hu : getA G k with
   | none => rw [hu] at h1; exact h1.elim
   | some a => rw [hu] at h1; exact ⟨a, rfl, h1, h2, h3⟩
  ·exact subH_get hs.2.2.2 h
theorem mtI_arr {n k : Nat} {g : Bool} : ∀ {l m : List V} {cs : List Value}, mtL l m → ltL k m → arrIs (rV ρ n g) c cs l → arrIs (rV (roCut k ρ) n g) c cs m
 | [], [], cs, _, _, h => h
 | a :: l, b :: m, cs, hm, hl, h => by
  simp only [mtL, ltL, arrIs] at hm hl h ⊢
  obtain ⟨c1, c2, e, ⟨h1, h2⟩, h3⟩ := h
  exact ⟨c1, c2, e, ⟨h1, cut_rd hl.1 (mt_rd hm.1 h2)⟩, mtI_arr hm.2 hl.2 h3⟩
 | [], _ :: _, _, hm, _, _ => by simp [mtL] at hm
 | _ :: _, [], _, hm, _, _ => by simp [mtL] at hm
theorem mt_arr {n : Nat} {g : Bool} {l m : List V} {cs : List Value} (h : mtL l m) (ha : arrIs (rV ro0 n g) c cs l) : arrIs (rV ro0 n g) c cs m := rdE_arr.1 (mt_rdE h (rdE_arr.2 ha))
theorem mtB_ok {n i : Nat} {a b : Blk} (h : mtB b (some a)) (hi : i < n) (hl : ltB n b) (hb : blkOk c0 c ρ i a) : blkOk c0 c (roCut n ρ) i b ∧ privB b = privB a := by
 cases a <;> cases b <;> simp only [mtB] at h <;> try exact h.elim
 ·obtain ⟨rfl, rfl, hm⟩ := h
  obtain ⟨b, h1, h2, h3, T, cs, h4, h5, h6⟩ := hb
  exact ⟨⟨b, (roCut_lt hi).trans h1, h2, h3, T, cs, h4, h5, cut_rd hl (mt_rd hm h6)⟩, rfl⟩
 ·obtain ⟨rfl, rfl, rfl, hz, hm⟩ := h
  obtain ⟨v, h1, h2, h3, h4, a, cap, e, h5⟩ := hb
  have hlen := mtL_len hm
  refine ⟨⟨v, (roCut_lt hi).trans h1, ⟨hlen ▸ h2.1, ?_⟩, h3, h4, a, cap, hlen ▸ e, mtZ_ok hz h5⟩, rfl⟩
  rcases h2.2 with ⟨a', e9, rfl⟩ | ⟨g', cp, cur, e, k1, k2, k3, k4, k5, k6⟩
  ·exact .inl ⟨a', e9, List.eq_nil_of_length_eq_zero hlen.symm⟩
  ·rw [hlen] at e k3 k6
   exact .inr ⟨g', cp, cur, e, k1, k2, k3, k4, k5, mt_arr hm k6⟩
 ·obtain ⟨rfl, rfl, rfl, hz, hm⟩ := h
  obtain ⟨v, h1, h2, h3, h4, a, cap, e, h5⟩ := hb
  have hlen := mtL_len hm
  simp only [ltB] at hl
  refine ⟨⟨v, (roCut_lt hi).trans h1, ⟨hlen ▸ h2.1, ?_⟩, h3, h4, a, cap, hlen ▸ e, mtZ_ok hz h5⟩, rfl⟩
  rcases h2.2 with ⟨a', e9, rfl⟩ | ⟨g', cp, cur, e, k1, k2, k3, k4, k5, k6⟩
  ·exact .inl ⟨a', e9, List.eq_nil_of_length_eq_zero hlen.symm⟩
  ·rw [hlen] at e k3 k6
   exact .inr ⟨g', cp, cur, e, k1, k2, k3, k4, k5, mtI_arr hm hl k6⟩
 ·obtain ⟨rfl, rfl, hm⟩ := h
  obtain ⟨b, h1, b', o, cs, e, h2, h3, h4, h5, h6⟩ := hb
  exact ⟨⟨b, (roCut_lt hi).trans h1, b', o, cs, e, h2, h3, h4, h5, mt_rd hm h6⟩, rfl⟩
 ·obtain ⟨rfl, rfl, hz, hm⟩ := h
  obtain ⟨v, h1, h2⟩ := hb
  refine ⟨⟨v, (roCut_lt hi).trans h1, mt_rd ?_ h2⟩, rfl⟩
  simp only [mt]
  exact ⟨hz, .inr ⟨trivial, trivial, hm⟩⟩
 ·obtain ⟨rfl, rfl, rfl, hm⟩ := h
  obtain ⟨h1, h2, h3, T, cs, h4, h5, h6⟩ := hb
  exact ⟨⟨(roCut_lt hi).trans h1, h2, h3, T, cs, h4, h5, cut_rd hl (mt_rd hm h6)⟩, rfl⟩
 ·obtain ⟨rfl, rfl, rfl, rfl⟩ := h
  obtain ⟨r, h1, h2⟩ := hb
  exact ⟨⟨r, (roCut_lt hi).trans h1, h2⟩, rfl⟩
theorem weak_of (h1 : subF S.F S1.nx S1.F) (h2 : subH S.H S1.nx S1.H) : Weak E S S1 := by
 intro c0 c ρ F h
 refine ⟨c, roCut S1.nx ρ, rfl, ⟨h.1.since, h.1.gl, ?_, ?_, ?_⟩, fun i hi => by simp [roCut, Nat.not_lt.2 hi]⟩
 ·intro t v ht
  obtain ⟨u, hu, hm, hl⟩ := subF_get h1 ht
  exact cut_rd hl (mt_rd hm (h.1.slot t u hu))
 ·intro i b hb
  obtain ⟨a, ha, hm, hi, hl⟩ := subH_get h2 hb
  exact (mtB_ok hm hi hl (h.1.heap i a ha)).1
 ·intro i j bi bj k hij hbi hbj hpi hpj hk hk'
  obtain ⟨ai, hai, hmi, hi, hli⟩ := subH_get h2 hbi
  obtain ⟨aj, haj, hmj, hj, hlj⟩ := subH_get h2 hbj
  have e1 := (mtB_ok hmi hi hli (h.1.heap i ai hai)).2
  have e2 := (mtB_ok hmj hj hlj (h.1.heap j aj haj)).2
  rw [blkOf_eq (roCut_lt hi)] at hk
  rw [blkOf_eq (roCut_lt hj)] at hk'
  exact h.1.sep i j ai aj k hij hai haj (e1 ▸ hpi) (e2 ▸ hpj) hk hk'
def ownV : Option Blk → V
 | some (.own _ n g z l) => .sl z n g l
 | some (.pown n g z l) => .sl z n g l
 | _ => .un
mutual
def view0 (H : List (Nat × Blk)) : V → V
 | .own i => ownV (getA H i)
 | .ptr _ _ => .un
 | .optr _ _ _ _ => .un
 | .osub _ _ _ _ => .un
 | .agg l => .agg (view0L H l)
 | .tup l => .tup (view0L H l)
 | .fn f l => .fn f (view0L H l)
 | v => v
def view0L (H : List (Nat × Blk)) : List V → List V
 | [] => []
 | d :: l => view0 H d :: view0L H l
end
def ptrV (H : List (Nat × Blk)) (off : Nat) : Option Blk → V
 | some (.var n g d) => if off = 0 then .pp n g (view0 H d) else .un
 | some (.lent _ n g d) => if off = 0 then .pp n g (view0 H d) else .un
 | some (.pvar n g d) => if off = 0 then .pp n g d else .un
 | _ => .un
mutual
def view (H : List (Nat × Blk)) : V → V
 | .own i => ownV (getA H i)
 | .ptr i o => ptrV H o (getA H i)
 | .optr _ _ _ _ => .un
 | .osub _ _ _ _ => .un
 | .agg l => .agg (view0L H l)
 | .tup l => .tup (viewL H l)
 | .fn f l => .fn f (viewL H l)
 | v => v
def viewL (H : List (Nat × Blk)) : List V → List V
 | [] => []
 | d :: l => view H d :: viewL H l
end
theorem base_notX (h : Sim E c0 c ρ S F) {k : Nat} (hk : c0.mine k) : k ∉ (c0.base c h.since.size).X := fun hm => by
 obtain ⟨h1, h2⟩ := base_X.1 hm
 rcases hk with hk | hk
 ·have := c0.ok k h1; omega
 ·exact h2 hk
theorem own_base (h : Sim E c0 c ρ S F) {i : Nat} {b : Blk} {v : Value} (hb : getA S.H i = some b) (hv : ρ i = some v) : rd ro0 (c0.base c h.since.size) (ownV (some b)) v := by
 have hblk := h.heap i b hb
 have hpb := pub_base h
 cases b with
 | own T n g z l =>
  obtain ⟨v', h1, h2, h3, h4, a, cap, e, hz⟩ := hblk
  rw [hv] at h1; cases h1
  simp only [ownV]
  refine rd_sl.2 ⟨a, cap, e, ⟨h2.1, ?_⟩, hz, ?_⟩
  ·rcases h2.2 with ⟨a', _, rfl⟩ | ⟨g', cp, cur, e2, _, _, k3, _⟩
   ·simp
   ·rw [e] at e2; cases e2; exact k3
  ·rcases h2.2 with ⟨a', _, rfl⟩ | ⟨g', cp, cur, e2, k1, k2, k3, k4, k5, k6⟩
   ·exact .inl rfl
   ·rw [e] at e2; cases e2
    refine .inr ⟨g', 0, _, rfl, c.ok g' k1, base_notX h (h3 g' (by rw [e]; rfl)), ?_, arrIs_mono hpb k6⟩
    intro j u hj
    rw [List.getElem?_take] at hj
    split at hj
    ·simp only [Nat.zero_add]
     show (c0.base c h.since.size).w.cell? _ = _
     simp only [Cx.base, World.cell?, k2]
     simpa using hj
    ·cases hj
 | pown n g z l =>
  obtain ⟨v', h1, h2⟩ := hblk
  rw [hv] at h1; cases h1
  exact rd_mono hpb h2
 | _ => trivial
mutual
theorem view0_rd (h : Sim E c0 c ρ S F) : ∀ {d : V} {v : Value}, rd ρ c d v → rd ro0 (c0.base c h.since.size) (view0 S.H d) v
 | .int _ _, _, hr => hr
 | .bool _, _, hr => hr
 | .ifc _, _, hr => hr
 | .str _, _, hr => hr
 | .agg l, v, hr => by
  simp only [rd, view0] at hr ⊢
  obtain ⟨cs, e, hr⟩ := hr
  exact ⟨cs, e, view0_rdC h hr⟩
 | .sl z n g l, v, hr => rd_mono (pub_base h) (show rd ro0 c (.sl z n g l) v from hr)
 | .pp n g d, v, hr => rd_mono (pub_base h) (show rd ro0 c (.pp n g d) v from hr)
 | .own i, v, hr => by
  simp only [rd] at hr
  simp only [view0]
  cases hb : getA S.H i with
  | none => trivial
  | some b => exact own_base h hb hr.1
 | .ptr _ _, _, _ => trivial
 | .optr _ _ _ _, _, _ => trivial
 | .osub _ _ _ _, _, _ => trivial
 | .tup l, v, hr => by
  simp only [rd, view0] at hr ⊢
  obtain ⟨cs, e, hr⟩ := hr
  exact ⟨cs, e, view0_rdT h hr⟩
 | .fn f l, v, hr => by
  simp only [rd, view0] at hr ⊢
  obtain ⟨cs, e, hr⟩ := hr
  exact ⟨cs, e, view0_rdT h hr⟩
 | .opq p, v, hr => rd_mono (pub_base h) (show rd ro0 c (.opq p) v from hr)
 | .un, _, _ => trivial
theorem view0_rdC (h : Sim E c0 c ρ S F) : ∀ {l : List V} {cs : List Value}, rdC ρ c l cs → rdC ro0 (c0.base c h.since.size) (view0L S.H l) cs
 | [], _, hr => hr
 | d :: l, cs, hr => by
  simp only [rdC, view0L] at hr ⊢
  obtain ⟨u, c2, e, h1, h2, h3⟩ := hr
  exact ⟨u, c2, e, h1, view0_rd h h2, view0_rdC h h3⟩
theorem view0_rdT (h : Sim E c0 c ρ S F) : ∀ {l : List V} {cs : List Value}, rdT ρ c l cs → rdT ro0 (c0.base c h.since.size) (view0L S.H l) cs
 | [], _, hr => hr
 | d :: l, cs, hr => by
  simp only [rdT, view0L] at hr ⊢
  obtain ⟨u, c2, e, h2, h3⟩ := hr
  exact ⟨u, c2, e, view0_rd h h2, view0_rdT h h3⟩
end
theorem ptr_base (h : Sim E c0 c ρ S F) {i off : Nat} {b : Blk} {v : Value} (hb : getA S.H i = some b) (hv : rd ρ c (.ptr i off) v) : rd ro0 (c0.base c h.since.size) (ptrV S.H off (some b)) v := by
 have hblk := h.heap i b hb
 have hpb := pub_base h
 simp only [rd] at hv
 obtain ⟨b0, hv, rfl⟩ := hv
 cases b with
 | var n g d =>
  obtain ⟨b', h1, h2, h3, T, cs, h4, h5, h6⟩ := hblk
  rw [hv] at h1; cases h1
  simp only [ptrV]
  split
  ·rename_i e; subst e
   simp only [rd]
   refine ⟨b0, 0, cs.toList, rfl, c.ok b0 h3, base_notX h h2, ?_, h5, view0_rd h h6⟩
   intro j u hj
   show c.w.cell? _ = _
   simp only [Nat.zero_add, World.cell?, h4]
   simpa using hj
  ·trivial
 | pvar n g d =>
  obtain ⟨b', h1, h2⟩ := hblk
  rw [hv] at h1; cases h1
  simp only [ptrV]
  split
  ·rename_i e; subst e
   exact rd_mono hpb (rd_pp.2 h2)
  ·trivial
 | lent k' n g d =>
  obtain ⟨h1, h2, h3, T, cs, h4, h5, h6⟩ := hblk
  rw [hv] at h1; cases h1
  simp only [ptrV]
  split
  ·rename_i e; subst e
   simp only [rd]
   refine ⟨b0, 0, cs.toList, rfl, c.ok b0 h3, base_notX h h2, ?_, h5, view0_rd h h6⟩
   intro j u hj
   show c.w.cell? _ = _
   simp only [Nat.zero_add, World.cell?, h4]
   simpa using hj
  ·trivial
 | _ => trivial
mutual
theorem view_rd (h : Sim E c0 c ρ S F) : ∀ {d : V} {v : Value}, rd ρ c d v → rd ro0 (c0.base c h.since.size) (view S.H d) v
 | .int _ _, _, hr => hr
 | .bool _, _, hr => hr
 | .ifc _, _, hr => hr
 | .str _, _, hr => hr
 | .agg l, v, hr => by
  simp only [rd, view] at hr ⊢
  obtain ⟨cs, e, hr⟩ := hr
  exact ⟨cs, e, view0_rdC h hr⟩
 | .sl z n g l, v, hr => rd_mono (pub_base h) (show rd ro0 c (.sl z n g l) v from hr)
 | .pp n g d, v, hr => rd_mono (pub_base h) (show rd ro0 c (.pp n g d) v from hr)
 | .own i, v, hr => by
  simp only [rd] at hr
  simp only [view]
  cases hb : getA S.H i with
  | none => trivial
  | some b => exact own_base h hb hr.1
 | .ptr i o, v, hr => by
  simp only [view]
  cases hb : getA S.H i with
  | none => trivial
  | some b => exact ptr_base h hb hr
 | .optr _ _ _ _, _, _ => trivial
 | .osub _ _ _ _, _, _ => trivial
 | .tup l, v, hr => by
  simp only [rd, view] at hr ⊢
  obtain ⟨cs, e, hr⟩ := hr
  exact ⟨cs, e, viewL_rd h hr⟩
 | .fn f l, v, hr => by
  simp only [rd, view] at hr ⊢
  obtain ⟨cs, e, hr⟩ := hr
  exact ⟨cs, e, viewL_rd h hr⟩
 | .opq p, v, hr => rd_mono (pub_base h) (show rd ro0 c (.opq p) v from hr)
 | .un, _, _ => trivial
theorem viewL_rd (h : Sim E c0 c ρ S F) : ∀ {l : List V} {cs : List Value}, rdT ρ c l cs → rdT ro0 (c0.base c h.since.size) (viewL S.H l) cs
 | [], _, hr => hr
 | d :: l, cs, hr => by
  simp only [rdT, viewL] at hr ⊢
  obtain ⟨u, c2, e, h2, h3⟩ := hr
  exact ⟨u, c2, e, view_rd h h2, viewL_rd h h3⟩
end
theorem give_pure {vs ws : List V} (hp : pureL vs) (hm : mtL vs ws) : giveOk E S vs S ws :=
 fun _ c ρ _ _ h hr => ⟨c, ρ, rfl, Cx.pub.refl _, h, mt_rdT hm (pure_rdT hp hr)⟩
theorem look_view {vs ws : List V} (hm : mtL (viewL S.H vs) ws) : lookOk E S vs ws :=
 fun _ _ _ _ _ h hr => mt_rdT hm (viewL_rd h hr)
theorem head_pure {vs ws : List V} (hp : pureL vs) (hm : mtL vs ws) : ∀ (c : Cx) (ρ : Ro) (us : List Value), rdT ρ c vs us → rdT ro0 c ws us :=
 fun _ _ _ hr => mt_rdT hm (pure_rdT hp hr)
theorem out_view {v r : V} (hm : mt (view S.H v) r) : outOk E S v r [] := by
 intro c0 c ρ F u hY h hr
 refine ⟨c0.base c h.1.since.size, ro0, rfl, ?_, mt_rd hm (view_rd h.1 hr), HOk.nil⟩
 refine (Cx.leY.le ⟨h.1.since.below, fun k hk hy => ?_⟩ hY)
 rw [base_X]
 exact ⟨fun h => h.1, fun h => ⟨h, hy⟩⟩
end
end Go.Proofs.YteolfhljhnplpaaGreatDoor
namespace Go.Proofs.YteolfhljhnplpaaGreatDoor
open Go.RowKit
inductive Ct where
 | code (c : Code)
 | ops (i : Nat) (ds : List (Nat × Nat)) (l : List Oper)
 | blk (id : Nat)
 | lp (K : St → Prop)
 | fin (Q : Exit → St → Prop)
def cont (E : Env) (J : Cuts) : List Ct → Exit → St → Prop
 | [], _, _ => False
 | .code c :: k, .normal, S => wpA E J c (cont E J k) S
 | .code _ :: k, e, S => cont E J k e S
 | .ops i ds l :: k, .normal, S => opsK E i ds l (cont E J k .normal) S
 | .ops _ _ _ :: k, e, S => cont E J k e S
 | .blk id :: k, e, S => blockK (cont E J k) id e S
 | .lp K :: k, e, S => thenK (cont E J k) K e S
 | .fin Q :: _, e, S => Q e S
section
variable {E : Env} {J : Cuts} {k : List Ct} {S : St}
theorem ct_start {c : Code} {Q : Exit → St → Prop} (h : cont E J [.code c, .fin Q] .normal S) : wpA E J c Q S := h
def seqC (E : Env) (J : Cuts) (M : Bool) (a b : Code) (k : List Ct) (S : St) : Prop := match M with
 | false => cont E J (.code a :: .code b :: k) .normal S
 | true => cont E J (.code a :: .lp (weakK E (cont E J (.code b :: k) .normal)) :: k) .normal S
theorem then_code {b : Code} : thenK (cont E J k) (wpA E J b (cont E J k)) = cont E J (.code b :: k) := by funext e S'; cases e <;> rfl
theorem then_lp {K : St → Prop} : thenK (cont E J k) K = cont E J (.lp K :: k) := by funext e S'; cases e <;> rfl
theorem ct_seq {a b : Code} : cont E J (.code (.seq a b) :: k) .normal S = seqC E J (cutAt J b) a b k S := by
 simp only [cont, wpA, seqC]
 cases cutAt J b with
 | false => simp only [then_code]
 | true => rw [then_lp]
theorem seqC_none {a b : Code} : seqC E J false a b k S = cont E J (.code a :: .code b :: k) .normal S := Eq.trans rfl rfl
theorem seqC_intro {a b : Code} (M : St → Prop) (h2 : ∀ S1, M S1 → cont E J (.code b :: k) .normal S1)
  (h1 : (∀ S1, M S1 → cont E J (.code b :: k) .normal S1) → cont E J (.code a :: .lp (weakK E (cont E J (.code b :: k) .normal)) :: k) .normal S) : seqC E J true a b k S := h1 h2
theorem cut_intro {M : St → Prop} (S1 : St) (hF : subF S.F S1.nx S1.F) (hH : subH S.H S1.nx S1.H) (hM : M S1) : cont E J (.lp (weakK E M) :: k) .normal S := ⟨S1, weak_of hF hH, hM⟩
theorem seqC_congr {M M' : Bool} {a b : Code} (h : M = M') : seqC E J M a b k S = seqC E J M' a b k S := by rw [h]
theorem ct_skip : cont E J (.code .skip :: k) .normal S = cont E J k .normal S := Eq.trans rfl rfl
theorem ct_ret : cont E J (.code .ret :: k) .normal S = cont E J k .ret S := Eq.trans rfl rfl
theorem ct_exit {id : Nat} : cont E J (.code (.exit id) :: k) .normal S = cont E J k (.exit id) S := Eq.trans rfl rfl
theorem ct_code_ret {c : Code} : cont E J (.code c :: k) .ret S = cont E J k .ret S := Eq.trans rfl rfl
theorem ct_code_exit {c : Code} {i : Nat} : cont E J (.code c :: k) (.exit i) S = cont E J k (.exit i) S := Eq.trans rfl rfl
theorem ct_blk_ret {i : Nat} : cont E J (.blk i :: k) .ret S = cont E J k .ret S := Eq.trans rfl rfl
theorem ct_blk_normal {i : Nat} : cont E J (.blk i :: k) .normal S = cont E J k .normal S := Eq.trans rfl rfl
theorem ct_blk_exit {i j : Nat} : cont E J (.blk i :: k) (.exit j) S = if j = i then cont E J k .normal S else cont E J k (.exit j) S := Eq.trans rfl rfl
theorem ct_lp_ret {K : St → Prop} : cont E J (.lp K :: k) .ret S = cont E J k .ret S := Eq.trans rfl rfl
theorem ct_lp_exit {K : St → Prop} {i : Nat} : cont E J (.lp K :: k) (.exit i) S = cont E J k (.exit i) S := Eq.trans rfl rfl
theorem ct_fin {Q : Exit → St → Prop} {e : Exit} : cont E J (.fin Q :: k) e S = Q e S := by cases e <;> rfl
theorem ct_block {id : Nat} {a : Code} : cont E J (.code (.block id a) :: k) .normal S = cont E J (.code a :: .blk id :: k) .normal S := Eq.trans rfl rfl
theorem ct_region {id : Nat} {ops : Array Oper} : cont E J (.code (.region id ops false) :: k) .normal S = cont E J (.ops 0 [] ops.toList :: k) .normal S := Eq.trans rfl rfl
noncomputable def noJ : Cuts := []
def cutS (J : Cuts) : Option Nat → Bool
 | some i => memN J i
 | none => false
theorem cutAt_cons {p : Nat} {L : Cuts} {b : Code} : cutAt (p :: L) b = cutS (p :: L) (firstR b) := by
 unfold cutAt cutS; cases firstR b <;> rfl
theorem cutAt_noJ {b : Code} : cutAt noJ b = false := by unfold cutAt; split <;> rfl
def condC (E : Env) (J : Cuts) (v : Option V) (a b : Code) (k : List Ct) (S : St) : Prop := condK v (cont E J (.code a :: k) .normal S) (cont E J (.code b :: k) .normal S)
theorem ct_cond {x : Operand} {a b : Code} : cont E J (.code (.cond x a b) :: k) .normal S = condC E J (S.ev E.gv x) a b k S := Eq.trans rfl rfl
theorem condC_true {a b : Code} : condC E J (some (.bool true)) a b k S = cont E J (.code a :: k) .normal S := by simp [condC, condK, branch]
theorem condC_false {a b : Code} : condC E J (some (.bool false)) a b k S = cont E J (.code b :: k) .normal S := by simp [condC, condK, branch]
theorem condC_intro {c : Bool} {a b : Code} (h1 : c = true → cont E J (.code a :: k) .normal S) (h2 : c = false → cont E J (.code b :: k) .normal S) : condC E J (some (.bool c)) a b k S := ⟨h1, h2⟩
def bindC (E : Env) (J : Cuts) (r : Res) (S : St) (d : Option Nat) (k : List Ct) : Prop := bindK S S.nx d (cont E J k .normal) r
theorem bindC_true {v : V} {e : Eff} {d : Option Nat} : bindC E J (some (True, v, e)) S d k = cont E J k .normal ((S.eff S.nx e).put d v) := by simp [bindC, bindK]
theorem bindC_intro {c : Prop} {v : V} {e : Eff} {d : Option Nat} (h1 : c) (h2 : cont E J k .normal ((S.eff S.nx e).put d v)) : bindC E J (some (c, v, e)) S d k := ⟨h1, fun _ => h2⟩
def callC (E : Env) (J : Cuts) (v : Option V) (vs : Option (List V)) (S : St) (d : Option Nat) (k : List Ct) : Prop := callK E S d (cont E J k .normal) v vs
def opC (E : Env) (J : Cuts) (op : Op) (T : TypeId) (S : St) (d : Option Nat) (k : List Ct) : Prop :=
 match isCall op with
 | some (x, l, Ts) => callC E J (S.ev E.gv x) (evs E S l Ts) S d k
 | none => bindC E J (opF E S S.nx T op) S d k
def guardC (E : Env) (J : Cuts) (v : Option V) (op : Op) (T : TypeId) (want : Bool) (S : St) (d : Option Nat) (k : List Ct) : Prop :=
 guardV v want (opC E J op T S d k) (cont E J k .normal (S.put d (.tup [])))
def guardT (E : Env) (J : Cuts) (t : Option Nat) (op : Op) (T : TypeId) (want : Bool) (S : St) (d : Option Nat) (k : List Ct) : Prop :=
 match t with
 | some t => guardC E J (getA S.F t) op T want S d k
 | none => False
theorem ct_ops_nil {i : Nat} {ds : List (Nat × Nat)} : cont E J (.ops i ds [] :: k) .normal S = cont E J k .normal S := Eq.trans rfl rfl
theorem ct_op {i : Nat} {ds : List (Nat × Nat)} {l : List Oper} {d : Option Nat} {op : Op} {T : TypeId} {pos : String} {af : Array Edge} : cont E J (.ops i ds ({ dst := d, op := op, type := T, pos := pos, after := af, guard := none } :: l) :: k) .normal S = opC E J op T S d (.ops (i + 1) (pushD i d ds) l :: k) := Eq.trans rfl rfl
theorem ct_opg {i : Nat} {ds : List (Nat × Nat)} {l : List Oper} {d : Option Nat} {op : Op} {T : TypeId} {pos : String} {af : Array Edge} {j : Nat} {want : Bool} : cont E J (.ops i ds ({ dst := d, op := op, type := T, pos := pos, after := af, guard := some (j, want) } :: l) :: k) .normal S = guardT E J (getA ds j) op T want S d (.ops (i + 1) (pushD i d ds) l :: k) := Eq.trans rfl rfl
theorem guardC_tt {op : Op} {T : TypeId} {d : Option Nat} : guardC E J (some (.bool true)) op T true S d k = opC E J op T S d k := by simp [guardC, guardV, branch]
theorem guardC_ff {op : Op} {T : TypeId} {d : Option Nat} : guardC E J (some (.bool false)) op T false S d k = opC E J op T S d k := by simp [guardC, guardV, branch]
theorem guardC_tf {op : Op} {T : TypeId} {d : Option Nat} : guardC E J (some (.bool true)) op T false S d k = cont E J k .normal (S.put d (.tup [])) := by simp [guardC, guardV, branch]
theorem guardC_ft {op : Op} {T : TypeId} {d : Option Nat} : guardC E J (some (.bool false)) op T true S d k = cont E J k .normal (S.put d (.tup [])) := by simp [guardC, guardV, branch]
theorem guardC_ud {op : Op} {T : TypeId} {d : Option Nat} {w : Bool} : guardC E J (some (.tup [])) op T w S d k = cont E J k .normal (S.put d (.tup [])) := by simp [guardC, guardV]
theorem guardC_t {op : Op} {T : TypeId} {d : Option Nat} {b : Bool} (h1 : b = true → opC E J op T S d k) (h2 : b = false → cont E J k .normal (S.put d (.tup []))) : guardC E J (some (.bool b)) op T true S d k := ⟨h1, h2⟩
theorem guardC_f {op : Op} {T : TypeId} {d : Option Nat} {b : Bool} (h1 : b = false → opC E J op T S d k) (h2 : b = true → cont E J k .normal (S.put d (.tup []))) : guardC E J (some (.bool b)) op T false S d k := ⟨h1, h2⟩
theorem callC_give {f : FuncId} {caps vs : List V} {d : Option Nat} {ws : List V} {r : V} {H : List Blk} (hc : CallOk E f ws r H) (hp : pureL (vs ++ caps)) (hm : mtL (vs ++ caps) ws) (h : wfV r → cont E J k .normal (S.after d r H)) : callC E J (some (.fn f caps)) (some vs) S d k :=
 .inl ⟨ws, r, H, hc, .inl ⟨S, give_pure hp hm, h⟩⟩
theorem callC_look {f : FuncId} {caps vs : List V} {d : Option Nat} {ws : List V} {r : V} (hc : CallOk E f ws r []) (hf : flatV r) (hm : mtL (viewL S.H (vs ++ caps)) ws) (h : wfV r → cont E J k .normal (S.put d r)) : callC E J (some (.fn f caps)) (some vs) S d k :=
 .inl ⟨ws, r, [], hc, .inr ⟨hf, rfl, look_view hm, h⟩⟩
theorem ct_loop {a : Code} (I : Nat → St → Prop) (k0 : Nat) (S1 : St) (hF : subF S.F S1.nx S1.F) (hH : subH S.H S1.nx S1.H) (h0 : I k0 S1)
  (h : ∀ n S', I n S' → cont E J (.code a :: .lp (fun S2 => ∃ n', n' < n ∧ ∃ S3, Weak E S2 S3 ∧ I n' S3) :: k) .normal S') : cont E J (.code (.loop a) :: k) .normal S :=
 ⟨I, k0, ⟨S1, weak_of hF hH, h0⟩, h⟩
theorem lp_intro {I : Nat → St → Prop} {n : Nat} (n' : Nat) (S3 : St) (hlt : n' < n) (hF : subF S.F S3.nx S3.F) (hH : subH S.H S3.nx S3.H) (hI : I n' S3) : cont E J (.lp (fun S2 => ∃ n', n' < n ∧ ∃ S3, Weak E S2 S3 ∧ I n' S3) :: k) .normal S :=
 ⟨n', hlt, S3, weak_of hF hH, hI⟩
def retC (E : Env) (S : St) (r : V) (H : List Blk) : Option (List V) → Prop
 | some vs => outOk E S (tupV vs) r H
 | none => False
theorem retK_ret {rs : List ResultVar} {r : V} {H : List Blk} : retK E rs r H .ret S = retC E S r H (resL E.tb S rs) := Eq.trans rfl rfl
theorem retC_view {vs : List V} {r : V} (hm : mt (view S.H (tupV vs)) r) : retC E S r [] (some vs) := out_view hm
structure Dr where
 J : Cuts
 S0 : St
 wr : List Nat
 wl : List (Nat × Nat)
 need : List (List Nat)
 ub : List (Nat × Nat)
 k : List Ct
def drawC (E : Env) (D : Dr) (m i : Nat) (l : List Oper) (R : List (Nat × HRes)) : Prop := drawK E D.S0 D.wr D.wl D.need D.ub (cont E D.J D.k .normal) m i l R
theorem ct_draw {id : Nat} {ops : Array Oper} (n m : Nat) (wr : List Nat) (wl : List (Nat × Nat)) (need : List (List Nat)) (ub : List (Nat × Nat)) (hB : (wlB ops m wl && flowB n m ops wr need && ((List.range m).all fun i => (need.getD i []).all fun j => decide (j < i))) = true) (hU : ubB m need ub S.nx = true)
  (h : drawC E ⟨J, S, wr, wl, need, ub, k⟩ m 0 ops.toList []) : cont E J (.code (.region id ops true) :: k) .normal S := by
 exact ⟨n, m, wr, wl, need, ub, hB, hU, h⟩
section
variable {D : Dr} {m i : Nat} {l : List Oper} {R : List (Nat × HRes)} {d : Option Nat} {op : Op} {T : TypeId}
theorem drawC_zero : drawC E D 0 i l R = cont E D.J (.ops i (dsR R) l :: D.k) .normal (viewS D.S0 D.wr allN (endB D.ub R) R i) := Eq.trans rfl rfl
def hbindC (E : Env) (D : Dr) (m i : Nat) (l : List Oper) (R : List (Nat × HRes)) (d : Option Nat) (nid : Nat) (r : Res) : Prop := headRes D.ub i nid d (fun r => drawC E D m (i + 1) l ((i, r) :: R)) r
def hcallC (E : Env) (D : Dr) (m i : Nat) (l : List Oper) (R : List (Nat × HRes)) (d : Option Nat) (S : St) (v : Option V) (vs : Option (List V)) : Prop := headCall E S D.ub i d (fun r => drawC E D m (i + 1) l ((i, r) :: R)) v vs
def hopC (E : Env) (D : Dr) (m i : Nat) (l : List Oper) (R : List (Nat × HRes)) (d : Option Nat) (op : Op) (T : TypeId) (S : St) : Prop :=
 match isCall op with
 | some (x, xs, Ts) => hcallC E D m i l R d S (S.ev E.gv x) (evs E S xs Ts)
 | none => hbindC E D m i l R d S.nx (opH E S S.nx T op)
def hguardC (E : Env) (D : Dr) (m i : Nat) (l : List Oper) (R : List (Nat × HRes)) (d : Option Nat) (op : Op) (T : TypeId) (want : Bool) : Bool → Option HRes → Prop
 | true, some ⟨some _, v, _⟩ => guardV (some v) want (hopC E D m i l R d op T (viewS D.S0 (wrF D.wl D.need i D.wr) (memN (D.need.getD i [])) (banK D.ub D.need i R) R i)) (drawC E D m (i + 1) l ((i, ⟨d, .tup [], none⟩) :: R))
 | _, _ => False
theorem drawC_op {pos : String} {af : Array Edge} : drawC E D (m + 1) i ({ dst := d, op := op, type := T, pos := pos, after := af, guard := none } :: l) R = hopC E D m i l R d op T (viewS D.S0 (wrF D.wl D.need i D.wr) (memN (D.need.getD i [])) (banK D.ub D.need i R) R i) := by
 simp only [drawC, drawK, headGuard, headStep, hopC, hcallC, hbindC]
 all_goals cases isCall op <;> rfl
theorem drawC_opg {pos : String} {af : Array Edge} {j : Nat} {want : Bool} : drawC E D (m + 1) i ({ dst := d, op := op, type := T, pos := pos, after := af, guard := some (j, want) } :: l) R = hguardC E D m i l R d op T want (memN (D.need.getD i []) j) (getA R j) := by
 simp only [drawC, drawK, headGuard]
 cases memN (D.need.getD i []) j <;> cases getA R j with
 | none => rfl
 | some r =>
  obtain ⟨t, v, b⟩ := r
  cases t <;> first | rfl | (simp only [hguardC, headStep, hopC, hcallC, hbindC, drawC]; cases isCall op <;> rfl)
theorem hguardC_tt {t : Nat} {b : Option (Nat × Blk)} : hguardC E D m i l R d op T true true (some ⟨some t, .bool true, b⟩) = hopC E D m i l R d op T (viewS D.S0 (wrF D.wl D.need i D.wr) (memN (D.need.getD i [])) (banK D.ub D.need i R) R i) := by simp [hguardC, guardV, branch]
theorem hguardC_ff {t : Nat} {b : Option (Nat × Blk)} : hguardC E D m i l R d op T false true (some ⟨some t, .bool false, b⟩) = hopC E D m i l R d op T (viewS D.S0 (wrF D.wl D.need i D.wr) (memN (D.need.getD i [])) (banK D.ub D.need i R) R i) := by simp [hguardC, guardV, branch]
theorem hguardC_tf {t : Nat} {b : Option (Nat × Blk)} : hguardC E D m i l R d op T true true (some ⟨some t, .bool false, b⟩) = drawC E D m (i + 1) l ((i, ⟨d, .tup [], none⟩) :: R) := by simp [hguardC, guardV, branch]
theorem hguardC_ft {t : Nat} {b : Option (Nat × Blk)} : hguardC E D m i l R d op T false true (some ⟨some t, .bool true, b⟩) = drawC E D m (i + 1) l ((i, ⟨d, .tup [], none⟩) :: R) := by simp [hguardC, guardV, branch]
theorem hguardC_ud {t : Nat} {w : Bool} {b : Option (Nat × Blk)} : hguardC E D m i l R d op T w true (some ⟨some t, .tup [], b⟩) = drawC E D m (i + 1) l ((i, ⟨d, .tup [], none⟩) :: R) := by simp [hguardC, guardV]
theorem hguardC_t {t : Nat} {b : Option (Nat × Blk)} {x : Bool} (h1 : x = true → hopC E D m i l R d op T (viewS D.S0 (wrF D.wl D.need i D.wr) (memN (D.need.getD i [])) (banK D.ub D.need i R) R i)) (h2 : x = false → drawC E D m (i + 1) l ((i, ⟨d, .tup [], none⟩) :: R)) : hguardC E D m i l R d op T true true (some ⟨some t, .bool x, b⟩) := ⟨h1, h2⟩
theorem hguardC_f {t : Nat} {b : Option (Nat × Blk)} {x : Bool} (h1 : x = false → hopC E D m i l R d op T (viewS D.S0 (wrF D.wl D.need i D.wr) (memN (D.need.getD i [])) (banK D.ub D.need i R) R i)) (h2 : x = true → drawC E D m (i + 1) l ((i, ⟨d, .tup [], none⟩) :: R)) : hguardC E D m i l R d op T false true (some ⟨some t, .bool x, b⟩) := ⟨h1, h2⟩
section
variable {nid : Nat}
theorem hbindC_none {v : V} : hbindC E D m i l R d nid (some (True, v, .none)) = drawC E D m (i + 1) l ((i, ⟨d, v, none⟩) :: R) := by simp [hbindC, headRes]
theorem hbindC_var {v x : V} {n : Nat} {g : Bool} : hbindC E D m i l R d nid (some (True, v, .new (.var n g x))) = (match memP D.ub i nid with | true => False | false => drawC E D m (i + 1) l ((i, ⟨d, v, some (nid, .var n g x)⟩) :: R)) := by
 simp only [hbindC, headRes]; cases memP D.ub i nid <;> simp [pubK, privB]
theorem hbindC_own {k : Nat} {U : TypeId} {n : Nat} {g : Bool} {z : Option Bool} {ll : List V} : hbindC E D m i l R d nid (some (True, .own k, .new (.own U n g z ll))) = (match memP D.ub i nid with | true => (match decide (k = nid) with | true => drawC E D m (i + 1) l ((i, ⟨d, .sl z n g ll, none⟩) :: R) | false => False) | false => drawC E D m (i + 1) l ((i, ⟨d, .own k, some (nid, .own U n g z ll)⟩) :: R)) := by
 simp only [hbindC, headRes]; cases memP D.ub i nid
 ·simp [privB]
 ·by_cases hk : k = nid <;> simp [pubK, hk]
theorem hbindC_pown {k : Nat} {n : Nat} {g : Bool} {z : Option Bool} {ll : List V} : hbindC E D m i l R d nid (some (True, .own k, .new (.pown n g z ll))) = (match memP D.ub i nid && decide (k = nid) with | true => drawC E D m (i + 1) l ((i, ⟨d, .sl z n g ll, none⟩) :: R) | false => False) := by
 simp only [hbindC, headRes]; cases memP D.ub i nid
 ·simp [privB]
 ·by_cases hk : k = nid <;> simp [pubK, hk]
theorem hbindC_upd {v : V} {id : Nat} {b : Blk} : hbindC E D m i l R d nid (some (True, v, .upd id b)) = (match memP D.ub i id && privB b with | true => drawC E D m (i + 1) l ((i, ⟨d, v, some (id, b)⟩) :: R) | false => False) := by
 simp only [hbindC, headRes]; cases memP D.ub i id && privB b <;> simp
theorem hbindC_intro {c : Prop} {v : V} (h1 : c) (h2 : drawC E D m (i + 1) l ((i, ⟨d, v, none⟩) :: R)) : hbindC E D m i l R d nid (some (c, v, .none)) := ⟨h1, fun _ => h2⟩
theorem hbindC_introN {c : Prop} {v : V} {U : TypeId} {n : Nat} {g : Bool} {z : Option Bool} {ll : List V} (h1 : c) (hm : memP D.ub i nid = false) (h2 : drawC E D m (i + 1) l ((i, ⟨d, v, some (nid, .own U n g z ll)⟩) :: R)) : hbindC E D m i l R d nid (some (c, v, .new (.own U n g z ll))) := by
 simp only [hbindC, headRes, hm]; exact ⟨h1, fun _ => h2⟩
theorem hbindC_introP {c : Prop} {k : Nat} {U : TypeId} {n : Nat} {g : Bool} {z : Option Bool} {ll : List V} (h1 : c) (hm : (memP D.ub i nid && decide (k = nid)) = true) (h2 : drawC E D m (i + 1) l ((i, ⟨d, .sl z n g ll, none⟩) :: R)) : hbindC E D m i l R d nid (some (c, .own k, .new (.own U n g z ll))) := by
 simp only [Bool.and_eq_true] at hm
 simp only [hbindC, headRes, hm.1]; exact ⟨hm.2, h1, fun _ => h2⟩
theorem hbindC_introV {c : Prop} {v x : V} {n : Nat} {g : Bool} (h1 : c) (hm : memP D.ub i nid = false) (h2 : drawC E D m (i + 1) l ((i, ⟨d, v, some (nid, .var n g x)⟩) :: R)) : hbindC E D m i l R d nid (some (c, v, .new (.var n g x))) := by
 simp only [hbindC, headRes, hm]; exact ⟨h1, fun _ => h2⟩
theorem hbindC_introU {c : Prop} {v : V} {id : Nat} {b : Blk} (h1 : c) (hm : (memP D.ub i id && privB b) = true) (h2 : drawC E D m (i + 1) l ((i, ⟨d, v, some (id, b)⟩) :: R)) : hbindC E D m i l R d nid (some (c, v, .upd id b)) := by
 simp only [hbindC, headRes, hm]; exact ⟨h1, fun _ => h2⟩
end
theorem hcallC_give {f : FuncId} {caps vs ws : List V} {r : V} (hc : CallOk E f ws r []) (hp : pureL (vs ++ caps)) (hm : mtL (vs ++ caps) ws) (h : drawC E D m (i + 1) l ((i, ⟨d, r, none⟩) :: R)) : hcallC E D m i l R d S (some (.fn f caps)) (some vs) :=
 .inl (.inl ⟨ws, r, hc, .inl (head_pure hp hm), h⟩)
theorem hcallC_look {f : FuncId} {caps vs ws : List V} {r : V} (hc : CallOk E f ws r []) (hf : flatV r) (hm : mtL (viewL S.H (vs ++ caps)) ws) (h : drawC E D m (i + 1) l ((i, ⟨d, r, none⟩) :: R)) : hcallC E D m i l R d S (some (.fn f caps)) (some vs) :=
 .inl (.inl ⟨ws, r, hc, .inr ⟨hf, look_view hm⟩, h⟩)
theorem hcallC_own {f : FuncId} {caps vs ws : List V} {U : TypeId} {n : Nat} {g : Bool} {z : Option Bool} {ll : List V} (hc : CallOk E f ws (.own 0) [.own U n g z ll]) (hp : pureL (vs ++ caps)) (hm : mtL (vs ++ caps) ws) (h : drawC E D m (i + 1) l ((i, ⟨d, .own S.nx, some (S.nx, .own U n g z ll)⟩) :: R)) : hcallC E D m i l R d S (some (.fn f caps)) (some vs) :=
 .inl (.inr ⟨ws, U, n, g, z, ll, hc, head_pure hp hm, h⟩)
theorem hbindC_introA {c : Prop} {id nid : Nat} {U : TypeId} {n : Nat} {g : Bool} {z : Option Bool} {ll : List V} (h1 : c) (hm : (memP D.ub i id && !decide (id = nid)) = true) (h2 : drawC E D m (i + 1) l ((i, ⟨d, .own nid, some (nid, .own U n g z ll)⟩) :: R)) : hbindC E D m i l R d nid (some (c, .own id, .app id (.own U n g z ll))) := by
 simp only [hbindC, headRes, decide_true, Bool.true_and, hm]
 exact ⟨h1, fun _ => h2⟩
theorem banK_nil {need : List (List Nat)} {i : Nat} : banK [] need i R = noBan := Eq.trans rfl rfl
theorem endB_nil : endB [] R = noBan := Eq.trans rfl rfl
theorem banK_cons {p : Nat × Nat} {ub : List (Nat × Nat)} {need : List (List Nat)} {i k : Nat} : banK (p :: ub) need i R k = (banF (p :: ub) need i k || killF (p :: ub) (memN (need.getD i [])) R k) := Eq.trans rfl rfl
theorem endB_cons {p : Nat × Nat} {ub : List (Nat × Nat)} {k : Nat} : endB (p :: ub) R k = killF (p :: ub) allN R k := Eq.trans rfl rfl
theorem killF_cons {ub : List (Nat × Nat)} {ns : Nat → Bool} {j k : Nat} {t : Option Nat} {v : V} {b : Option (Nat × Blk)} : killF ub ns ((j, ⟨t, v, b⟩) :: R) k = ((ns j && killsB ub j b k) || killF ub ns R k) := Eq.trans rfl rfl
theorem killF_end {ub : List (Nat × Nat)} {ns : Nat → Bool} {k : Nat} : killF ub ns [] k = false := Eq.trans rfl rfl
theorem killsB_none {ub : List (Nat × Nat)} {j k : Nat} : killsB ub j none k = false := Eq.trans rfl rfl
theorem killsB_some {ub : List (Nat × Nat)} {j k k' : Nat} {b : Blk} : killsB ub j (some (k', b)) k = (memP ub j k && !decide (k' = k)) := Eq.trans rfl rfl
theorem restH_consK {ub : List (Nat × Nat)} {p : Nat × Nat} {need : List (List Nat)} {i k : Nat} {b : Blk} {H : List (Nat × Blk)} : restH (banK (p :: ub) need i R) ((k, b) :: H) = if banK (p :: ub) need i R k = true then restH (banK (p :: ub) need i R) H else (k, b) :: restH (banK (p :: ub) need i R) H := by
 simp only [restH]; cases banK (p :: ub) need i R k <;> rfl
theorem restH_consE {ub : List (Nat × Nat)} {p : Nat × Nat} {k : Nat} {b : Blk} {H : List (Nat × Blk)} : restH (endB (p :: ub) R) ((k, b) :: H) = if endB (p :: ub) R k = true then restH (endB (p :: ub) R) H else (k, b) :: restH (endB (p :: ub) R) H := by
 simp only [restH]; cases endB (p :: ub) R k <;> rfl
theorem headF_some {ns : Nat → Bool} {j t : Nat} {v : V} {b : Option (Nat × Blk)} : headF ns ((j, ⟨some t, v, b⟩) :: R) = if ns j = true then (t, v) :: headF ns R else headF ns R := by
 simp only [headF]; cases ns j <;> rfl
theorem headF_none {ns : Nat → Bool} {j : Nat} {v : V} {b : Option (Nat × Blk)} : headF ns ((j, ⟨none, v, b⟩) :: R) = headF ns R := by
 simp only [headF]; cases ns j <;> rfl
theorem headH_some {ns : Nat → Bool} {j : Nat} {t : Option Nat} {v : V} {b : Nat × Blk} : headH ns ((j, ⟨t, v, some b⟩) :: R) = if ns j = true then b :: headH ns R else headH ns R := by
 simp only [headH]; cases ns j <;> rfl
theorem headHnone {ns : Nat → Bool} {j : Nat} {t : Option Nat} {v : V} : headH ns ((j, ⟨t, v, none⟩) :: R) = headH ns R := by
 simp only [headH]; cases ns j <;> rfl
theorem headF_nil {ns : Nat → Bool} : headF ns [] = [] := Eq.trans rfl rfl
theorem headH_nil {ns : Nat → Bool} : headH ns [] = [] := Eq.trans rfl rfl
theorem wrF_nil {need : List (List Nat)} {i : Nat} : ∀ {l : List Nat}, wrF [] need i l = l
 | [] => rfl
 | t :: l => congrArg (t :: ·) (wrF_nil (l := l))
theorem wrF_end {w k i : Nat} {wl : List (Nat × Nat)} {need : List (List Nat)} : wrF ((w, k) :: wl) need i [] = [] := Eq.trans rfl rfl
theorem wrF_cons {w k i t : Nat} {wl : List (Nat × Nat)} {need : List (List Nat)} {l : List Nat} : wrF ((w, k) :: wl) need i (t :: l) = if lateF ((w, k) :: wl) need i t = true then wrF ((w, k) :: wl) need i l else t :: wrF ((w, k) :: wl) need i l := by
 rw [wrF]; cases lateF ((w, k) :: wl) need i t <;> rfl
theorem lateF_cons {w k i t : Nat} {wl : List (Nat × Nat)} {need : List (List Nat)} : lateF ((w, k) :: wl) need i t = ((decide (k = t) && memN (need.getD w []) i) || lateF wl need i t) := Eq.trans rfl rfl
theorem lateF_nil {i t : Nat} {need : List (List Nat)} : lateF [] need i t = false := Eq.trans rfl rfl
theorem banF_nil {need : List (List Nat)} {i : Nat} : banF [] need i = noBan := by funext k; rfl
theorem restH_noBan : ∀ {H : List (Nat × Blk)}, restH noBan H = H
 | [] => rfl
 | (k, b) :: H => by simp only [restH, noBan, restH_noBan]
theorem restH_nil {ban : Nat → Bool} : restH ban [] = [] := Eq.trans rfl rfl
theorem banF_cons {w k i id : Nat} {ub : List (Nat × Nat)} {need : List (List Nat)} : banF ((w, k) :: ub) need i id = ((decide (k = id) && (!decide (w = i) && (!memN (need.getD i []) w && !memN (need.getD w []) i))) || banF ub need i id) := Eq.trans rfl rfl
theorem banF_end {id : Nat} : noBan id = false := Eq.trans rfl rfl
theorem dsR_some {j t : Nat} {v : V} {b : Option (Nat × Blk)} : dsR ((j, ⟨some t, v, b⟩) :: R) = (j, t) :: dsR R := Eq.trans rfl rfl
theorem dsR_none {j : Nat} {v : V} {b : Option (Nat × Blk)} : dsR ((j, ⟨none, v, b⟩) :: R) = dsR R := Eq.trans rfl rfl
theorem dsR_nil : dsR [] = [] := Eq.trans rfl rfl
theorem drawC_congr {R' : List (Nat × HRes)} (h : R = R') : drawC E D m i l R = drawC E D m i l R' := by rw [h]
theorem hbindC_congr {nid nid' : Nat} {r r' : Res} (h0 : nid = nid') (h : r = r') : hbindC E D m i l R d nid r = hbindC E D m i l R d nid' r' := by rw [h, h0]
theorem hcallC_congr {v v' : Option V} {vs vs' : Option (List V)} (h1 : v = v') (h2 : vs = vs') : hcallC E D m i l R d S v vs = hcallC E D m i l R d S v' vs' := by rw [h1, h2]
theorem hopC_congr {S S' : St} (h : S = S') : hopC E D m i l R d op T S = hopC E D m i l R d op T S' := by rw [h]
theorem hguardC_congr {w b b' : Bool} {r r' : Option HRes} (h1 : b = b') (h2 : r = r') : hguardC E D m i l R d op T w b r = hguardC E D m i l R d op T w b' r' := by rw [h1, h2]
end
theorem cont_congr {e : Exit} {S S' : St} (h : S = S') : cont E J k e S = cont E J k e S' := by rw [h]
theorem bindC_congr {r r' : Res} {d : Option Nat} (h : r = r') : bindC E J r S d k = bindC E J r' S d k := by rw [h]
theorem condC_congr {v v' : Option V} {a b : Code} (h : v = v') : condC E J v a b k S = condC E J v' a b k S := by rw [h]
theorem callC_congr {v v' : Option V} {vs vs' : Option (List V)} {d : Option Nat} (h1 : v = v') (h2 : vs = vs') : callC E J v vs S d k = callC E J v' vs' S d k := by rw [h1, h2]
theorem guardC_congr {v v' : Option V} {op : Op} {T : TypeId} {w : Bool} {d : Option Nat} (h : v = v') : guardC E J v op T w S d k = guardC E J v' op T w S d k := by rw [h]
theorem guardT_congr {t t' : Option Nat} {op : Op} {T : TypeId} {w : Bool} {d : Option Nat} (h : t = t') : guardT E J t op T w S d k = guardT E J t' op T w S d k := by rw [h]
end
attribute [congr] cont_congr bindC_congr condC_congr callC_congr guardC_congr guardT_congr seqC_congr drawC_congr hbindC_congr hcallC_congr hopC_congr hguardC_congr
theorem beq_ft : (false == true) = false := Eq.trans rfl rfl
theorem beq_tf : (true == false) = false := Eq.trans rfl rfl
theorem beq_tt : (true == true) = true := Eq.trans rfl rfl
theorem beq_ff : (false == false) = true := Eq.trans rfl rfl
theorem cutN_map {α : Type} {f : α → V} {l : List α} {i j : Nat} : cutN (l.map f) i j = (cutN l i j).map f := by simp [cutN, List.map_take, List.map_drop]
theorem spl_map {α : Type} {f : α → V} {l m : List α} {i k : Nat} : spl (l.map f) i k (m.map f) = (spl l i k m).map f := by simp [spl, List.map_take, List.map_drop]
theorem cutL_map {α : Type} {f : α → V} {l : List α} {i j : Int} : cutL (l.map f) i j = (sl l i j).map f := by simp [cutL, sl, List.map_take, List.map_drop]
theorem mtZ_self {z : Option Bool} : mtZ z z = True := by cases z <;> simp [mtZ]
theorem mtZ_none {z : Option Bool} : mtZ z none = True := by cases z <;> simp [mtZ]
theorem mtZ_some {a b : Bool} : mtZ (some a) (some b) = (a = b) := by simp [mtZ]
attribute [go_sem] mapNew lookF lookB putF putB keyI keyX keyR intsOf zF
theorem lenOneK (x : Int) : ([x].length = 1) = True := by simp
attribute [go_sem] lenOneK
attribute [go_sem] drawC_zero drawC_op drawC_opg hopC hguardC_ud hguardC_tt hguardC_ff hguardC_tf hguardC_ft hbindC_none hbindC_var hbindC_own hbindC_pown headF_some headF_none headH_some headHnone headF_nil headH_nil dsR_some dsR_none dsR_nil viewS restF memN allN wrF_nil wrF_end wrF_cons lateF_cons lateF_nil banF_nil restH_noBan restH_nil banK_nil endB_nil banK_cons endB_cons killF_cons killF_end killsB_none killsB_some restH_consK restH_consE banF_cons banF_end hbindC_upd memP privB ubB
 ct_seq ct_skip ct_ret ct_exit ct_code_ret ct_code_exit ct_blk_ret ct_blk_normal ct_blk_exit ct_lp_ret ct_lp_exit ct_fin ct_block ct_region seqC_none cutAt_noJ cutAt_cons cutS firstR ct_cond condC_true condC_false ct_ops_nil ct_op ct_opg guardT guardC_ud guardC_tt guardC_ff guardC_tf guardC_ft opC isCall bindC_true
 opH isSl subOf subO orElse opF mkFn evL evL.consO callF foldO byteV St.ev St.evT constV constT constI constS rngB nilT getA setA loadF loadV loadO loadPart storeF storeV storeO fieldF fieldP fieldX fieldY indexF indexO indexX intOp shOp boolOp strOp eqC eqOp nilB nilOp binF unF convF convS convB s2aF cutA zAgg zrB zrC Value.oneCell' pickF minF maxF lenF lenO extF nilChk setParts setPartsA buildF setElems sliceLit makeF allocF listF listO zApp appO appF isC loB hiB bound lenI sliceF rOk rIf rB
 St.eff St.put St.after shift shiftL shiftH purge purgeL purgeB purgeF purgeH part cellsN setPart pushD evs fitV pureV pureL flatV flatL retK_ret resL resV tupV
 view viewL view0 view0L ownV ptrV mt mtL mt_self mtL_self mtL_same mtZ_self mtZ_none mtZ_some subF subH mtO mtB ltV ltL ltB
 beq_ft beq_tf beq_tt beq_ff cutL_map
 slotsA moveF boxF Bool.or_true Bool.true_or Bool.or_false Bool.false_or Nat.sub_zero cutN_map spl_map copyF copyW copyN copyO rUpd lenS listS sliceO sliceP sliceAr giveR lenB isOwn Option.map_some Option.map_none Bool.and_true Bool.true_and Bool.false_and Bool.and_false Bool.not_true Bool.not_false decide_true decide_false true_and and_true false_and and_false true_implies false_implies implies_true and_self not_true_eq_false not_false_eq_true
 List.getElem?_cons_zero List.getElem?_cons_succ List.getD_cons_zero List.getD_cons_succ List.take_succ_cons List.take_zero List.take_nil List.drop_succ_cons List.drop_zero List.drop_nil List.cons_append List.nil_append List.append_nil List.length_cons List.length_nil List.set_cons_zero List.set_cons_succ List.replicate_zero List.replicate_succ List.map_cons List.map_nil List.map_append List.length_map List.map_set List.map_replicate List.tail_cons List.tail_nil List.headD_cons List.headD_nil
 Nat.add_zero Nat.zero_add ne_eq Prod.mk.injEq reduceCtorEq
theorem letk_opn {α β : Type} {a : α} {f : α → β} {R : β} (h : letk a f = R) : ∃ x, x = a ∧ f x = R := ⟨a, rfl, h⟩
theorem nn_u64 (a : Int) : 0 ≤ convI .u64 a := (rng_convI .u64 a).1
end Go.Proofs.YteolfhljhnplpaaGreatDoor
namespace Go.Proofs.YteolfhljhnplpaaGreatDoor
open Go.RowKit
def tabP (P : Program) (g : Nat) (name : String) (k : IntKind) (zs : List Int) (c : Cx) (v : Value) : Prop := v = .pointer (some ⟨g, 0, none⟩) ∧ g < c.w.heap.size ∧ g ∉ c.X ∧ P.globalNamed name = some g ∧ Lib.TabIs P c.w name k zs
def errP (P : Program) (g : Nat) (name : String) (c : Cx) (v : Value) : Prop := v = .pointer (some ⟨g, 0, none⟩) ∧ g < c.w.heap.size ∧ g ∉ c.X ∧ P.globalNamed name = some g ∧ ∃ t p, c.w.var? P name = some #[.iface t p]
def isI64 (_ : Cx) (v : Value) : Prop := ∃ m, v = .int .i64 m
def kg_0 : List Int := [2, 3, 5, 7, 11, 13, 17, 19, 23, 29, 31, 37]
def kg_4 : List Int := [0, 1, 56, 2, 57, 49, 28, 3, 61, 58, 42, 50, 38, 29, 17, 4, 62, 47, 59, 36, 45, 43, 51, 22, 53, 39, 33, 30, 24, 18, 12, 5, 63, 55, 48, 27, 60, 41, 37, 16, 46, 35, 44, 21, 52, 32, 23, 11, 54, 26, 40, 15, 34, 20, 31, 10, 25, 14, 19, 9, 13, 8, 7, 6]
def kg_5 : List Int := [1116352408, 1899447441, 3049323471, 3921009573, 961987163, 1508970993, 2453635748, 2870763221, 3624381080, 310598401, 607225278, 1426881987, 1925078388, 2162078206, 2614888103, 3248222580, 3835390401, 4022224774, 264347078, 604807628, 770255983, 1249150122, 1555081692, 1996064986, 2554220882, 2821834349, 2952996808, 3210313671, 3336571891, 3584528711, 113926993, 338241895, 666307205, 773529912, 1294757372, 1396182291, 1695183700, 1986661051, 2177026350, 2456956037, 2730485921, 2820302411, 3259730800, 3345764771, 3516065817, 3600352804, 4094571909, 275423344, 430227734, 506948616, 659060556, 883997877, 958139571, 1322822218, 1537002063, 1747873779, 1955562222, 2024104815, 2227730452, 2361852424, 2428436474, 2756734187, 3204031479, 3329325298]
noncomputable def tbl : List (TypeId × TI) := [(1, { n := 1, g := false, by' := 8, ok := true, z := .un, k := 6 }),
 (2, { n := 1, g := false, by' := 8, ok := true, z := .int .i64 0, k := 0, ik := .i64 }),
 (3, { n := 1, g := false, by' := 8, ok := true, z := .int .i64 0, k := 0, ik := .i64 }),
 (4, { n := 1, g := false, by' := 1, ok := true, z := .bool false, k := 1 }),
 (5, { n := 1, g := false, by' := 1, ok := true, z := .int .u8 0, k := 0, ik := .u8 }),
 (9, { n := 1, g := false, by' := 16, ok := true, z := .str [], k := 2 }),
 (12, { n := 1, g := false, by' := 8, ok := true, z := .int .u64 0, k := 0, ik := .u64 }),
 (15, { n := 1, g := false, by' := 8, ok := true, z := .un, k := 6 }),
 (16, { n := 1, g := false, by' := 8, ok := true, z := .un, k := 6 }),
 (17, { n := 1, g := false, by' := 8, ok := true, z := .un, k := 6 }),
 (20, { n := 1, g := false, by' := 16, ok := true, z := .un, k := 8 }),
 (21, { n := 1, g := false, by' := 4, ok := true, z := .int .i32 0, k := 0, ik := .i32 }),
 (23, { n := 3, g := true, by' := 24, ok := true, z := .agg [.int .i64 0, .int .i64 0, .int .i64 0], k := 5, fs := [(0, 3), (1, 3), (2, 3)], cmp := true, ck := [0, 0, 0] }),
 (25, { n := 6, g := true, by' := 48, ok := true, z := .agg [.int .i64 0, .int .i64 0, .int .i64 0, .int .i64 0, .int .i64 0, .int .i64 0], k := 5, fs := [(0, 23), (3, 3), (4, 3), (5, 3)], cmp := true, ck := [0, 0, 0, 0, 0, 0] }),
 (26, { n := 1, g := false, by' := 24, ok := true, z := .sl (some true) 2 true [], k := 3, el := 57 }),
 (28, { n := 3, g := true, by' := 40, ok := true, z := .agg [.int .i64 0, .int .i64 0, .sl (some true) 2 true []], k := 5, fs := [(0, 3), (1, 3), (2, 26)] }),
 (29, { n := 1, g := false, by' := 24, ok := true, z := .sl (some true) 1 false [], k := 3, el := 3 }),
 (30, { n := 1, g := false, by' := 8, ok := true, z := .un, k := 6 }),
 (31, { n := 1, g := false, by' := 8, ok := true, z := .int .i64 0, k := 0, ik := .i64 }),
 (33, { n := 1, g := false, by' := 8, ok := true, z := .un, k := 6 }),
 (35, { n := 1, g := false, by' := 8, ok := true, z := .un, k := 6 }),
 (36, { n := 1, g := false, by' := 24, ok := true, z := .sl (some true) 32 true [], k := 3, el := 40 }),
 (38, { n := 1, g := false, by' := 8, ok := true, z := .un, k := 6 }),
 (39, { n := 32, g := true, by' := 32, ok := true, z := .agg [.int .u8 0, .int .u8 0, .int .u8 0, .int .u8 0, .int .u8 0, .int .u8 0, .int .u8 0, .int .u8 0, .int .u8 0, .int .u8 0, .int .u8 0, .int .u8 0, .int .u8 0, .int .u8 0, .int .u8 0, .int .u8 0, .int .u8 0, .int .u8 0, .int .u8 0, .int .u8 0, .int .u8 0, .int .u8 0, .int .u8 0, .int .u8 0, .int .u8 0, .int .u8 0, .int .u8 0, .int .u8 0, .int .u8 0, .int .u8 0, .int .u8 0, .int .u8 0], k := 4, el := 5, len := 32, cmp := true, ck := [0, 0, 0, 0, 0, 0, 0, 0, 0, 0, 0, 0, 0, 0, 0, 0, 0, 0, 0, 0, 0, 0, 0, 0, 0, 0, 0, 0, 0, 0, 0, 0] }),
 (40, { n := 32, g := true, by' := 32, ok := true, z := .agg [.int .u8 0, .int .u8 0, .int .u8 0, .int .u8 0, .int .u8 0, .int .u8 0, .int .u8 0, .int .u8 0, .int .u8 0, .int .u8 0, .int .u8 0, .int .u8 0, .int .u8 0, .int .u8 0, .int .u8 0, .int .u8 0, .int .u8 0, .int .u8 0, .int .u8 0, .int .u8 0, .int .u8 0, .int .u8 0, .int .u8 0, .int .u8 0, .int .u8 0, .int .u8 0, .int .u8 0, .int .u8 0, .int .u8 0, .int .u8 0, .int .u8 0, .int .u8 0], k := 4, el := 5, len := 32, cmp := true, ck := [0, 0, 0, 0, 0, 0, 0, 0, 0, 0, 0, 0, 0, 0, 0, 0, 0, 0, 0, 0, 0, 0, 0, 0, 0, 0, 0, 0, 0, 0, 0, 0] }),
 (42, { n := 1, g := false, by' := 8, ok := true, z := .un, k := 6 }),
 (43, { n := 1, g := false, by' := 8, ok := true, z := .un, k := 6 }),
 (44, { n := 1, g := false, by' := 8, ok := true, z := .un, k := 6 }),
 (45, { n := 1, g := false, by' := 8, ok := true, z := .un, k := 6 }),
 (46, { n := 1, g := false, by' := 8, ok := true, z := .un, k := 6 }),
 (47, { n := 1, g := false, by' := 8, ok := true, z := .un, k := 6 }),
 (48, { n := 1, g := false, by' := 8, ok := true, z := .un, k := 6 }),
 (49, { n := 1, g := false, by' := 8, ok := true, z := .un, k := 6 }),
 (50, { n := 1, g := false, by' := 8, ok := true, z := .un, k := 6 }),
 (51, { n := 1, g := false, by' := 8, ok := true, z := .un, k := 6 }),
 (52, { n := 1, g := false, by' := 8, ok := true, z := .un, k := 6 }),
 (53, { n := 1, g := false, by' := 8, ok := true, z := .un, k := 6 }),
 (54, { n := 1, g := false, by' := 8, ok := true, z := .un, k := 6 }),
 (55, { n := 1, g := false, by' := 8, ok := true, z := .un, k := 6 }),
 (56, { n := 1, g := false, by' := 8, ok := true, z := .un, k := 6 }),
 (57, { n := 2, g := true, by' := 16, ok := true, z := .agg [.int .i64 0, .int .i64 0], k := 4, el := 3, len := 2, cmp := true, ck := [0, 0] }),
 (58, { n := 1, g := false, by' := 8, ok := true, z := .un, k := 6 }),
 (60, { n := 2, g := true, by' := 32, ok := true, z := .agg [.int .i64 0, .sl (some true) 32 true []], k := 5, fs := [(0, 3), (1, 36)] }),
 (62, { n := 1, g := false, by' := 8, ok := true, z := .un, k := 6 }),
 (63, { n := 1, g := false, by' := 8, ok := true, z := .un, k := 6 }),
 (64, { n := 1, g := false, by' := 8, ok := true, z := .un, k := 6 }),
 (65, { n := 1, g := false, by' := 8, ok := true, z := .un, k := 6 }),
 (66, { n := 1, g := false, by' := 8, ok := true, z := .un, k := 6 }),
 (67, { n := 1, g := false, by' := 24, ok := true, z := .sl (some true) 1 false [], k := 3, el := 5 }),
 (68, { n := 1, g := false, by' := 8, ok := true, z := .un, k := 6 }),
 (69, { n := 1, g := false, by' := 8, ok := true, z := .un, k := 6 }),
 (71, { n := 1, g := false, by' := 8, ok := true, z := .un, k := 6 }),
 (72, { n := 1, g := false, by' := 8, ok := true, z := .un, k := 6 }),
 (73, { n := 1, g := false, by' := 8, ok := true, z := .un, k := 6 }),
 (74, { n := 1, g := false, by' := 8, ok := true, z := .un, k := 6 }),
 (76, { n := 1, g := false, by' := 8, ok := true, z := .un, k := 6 }),
 (77, { n := 1, g := false, by' := 24, ok := true, z := .sl (some true) 4 true [], k := 3, el := 79 }),
 (79, { n := 4, g := true, by' := 64, ok := true, z := .agg [.int .i64 0, .int .i64 0, .sl (some true) 1 false [], .sl (some true) 4 true []], k := 5, fs := [(0, 3), (1, 3), (2, 67), (3, 77)] }),
 (80, { n := 1, g := false, by' := 8, ok := true, z := .un, k := 6 }),
 (81, { n := 1, g := false, by' := 8, ok := true, z := .un, k := 6 }),
 (82, { n := 1, g := false, by' := 8, ok := true, z := .un, k := 6 }),
 (83, { n := 1, g := false, by' := 8, ok := true, z := .un, k := 6 }),
 (84, { n := 1, g := false, by' := 8, ok := true, z := .un, k := 6 }),
 (85, { n := 1, g := false, by' := 8, ok := true, z := .un, k := 6 }),
 (86, { n := 1, g := false, by' := 8, ok := true, z := .un, k := 6 }),
 (87, { n := 1, g := false, by' := 8, ok := true, z := .un, k := 6 }),
 (88, { n := 1, g := false, by' := 8, ok := true, z := .un, k := 6 }),
 (89, { n := 1, g := false, by' := 8, ok := true, z := .un, k := 6 }),
 (90, { n := 1, g := false, by' := 8, ok := true, z := .un, k := 6 }),
 (91, { n := 1, g := false, by' := 8, ok := true, z := .un, k := 6 }),
 (92, { n := 1, g := false, by' := 8, ok := true, z := .un, k := 6 }),
 (93, { n := 1, g := false, by' := 8, ok := true, z := .un, k := 6 }),
 (94, { n := 1, g := false, by' := 24, ok := true, z := .sl (some true) 1 false [], k := 3, el := 36 }),
 (96, { n := 1, g := false, by' := 8, ok := true, z := .un, k := 6 }),
 (97, { n := 1, g := false, by' := 8, ok := true, z := .un, k := 6 }),
 (98, { n := 1, g := false, by' := 8, ok := true, z := .un, k := 6 }),
 (99, { n := 1, g := false, by' := 8, ok := true, z := .un, k := 6 }),
 (100, { n := 1, g := false, by' := 8, ok := true, z := .un, k := 6 }),
 (101, { n := 1, g := false, by' := 8, ok := true, z := .int .u64 0, k := 0, ik := .u64 }),
 (103, { n := 1, g := false, by' := 8, ok := true, z := .un, k := 6 }),
 (105, { n := 1, g := false, by' := 8, ok := true, z := .un, k := 6 }),
 (106, { n := 1, g := false, by' := 8, ok := true, z := .un, k := 6 }),
 (107, { n := 1, g := false, by' := 8, ok := true, z := .un, k := 6 }),
 (108, { n := 1, g := false, by' := 8, ok := true, z := .un, k := 7, el := 3, len := 4 }),
 (109, { n := 1, g := false, by' := 8, ok := true, z := .un, k := 6 }),
 (110, { n := 1, g := false, by' := 8, ok := true, z := .un, k := 6 }),
 (111, { n := 1, g := false, by' := 8, ok := true, z := .un, k := 6 }),
 (112, { n := 1, g := false, by' := 8, ok := true, z := .un, k := 6 }),
 (113, { n := 1, g := false, by' := 8, ok := true, z := .un, k := 6 }),
 (114, { n := 1, g := false, by' := 8, ok := true, z := .un, k := 6 }),
 (115, { n := 1, g := false, by' := 8, ok := true, z := .un, k := 6 }),
 (116, { n := 1, g := false, by' := 8, ok := true, z := .un, k := 6 }),
 (117, { n := 1, g := false, by' := 8, ok := true, z := .int .u64 0, k := 0, ik := .u64 }),
 (118, { n := 1, g := false, by' := 8, ok := true, z := .un, k := 6 }),
 (119, { n := 1, g := false, by' := 8, ok := true, z := .un, k := 6 }),
 (120, { n := 1, g := false, by' := 8, ok := true, z := .un, k := 6 }),
 (121, { n := 1, g := false, by' := 8, ok := true, z := .un, k := 6 }),
 (124, { n := 1, g := false, by' := 8, ok := true, z := .un, k := 6 }),
 (125, { n := 1, g := false, by' := 8, ok := true, z := .un, k := 6 }),
 (126, { n := 1, g := false, by' := 8, ok := true, z := .un, k := 6 }),
 (127, { n := 1, g := false, by' := 8, ok := true, z := .un, k := 6 }),
 (128, { n := 1, g := false, by' := 8, ok := true, z := .un, k := 6 }),
 (129, { n := 1, g := false, by' := 8, ok := true, z := .un, k := 6 }),
 (130, { n := 1, g := false, by' := 4, ok := true, z := .int .u32 0, k := 0, ik := .u32 }),
 (131, { n := 1, g := false, by' := 8, ok := true, z := .un, k := 6 }),
 (132, { n := 1, g := false, by' := 24, ok := true, z := .sl (some true) 1 false [], k := 3, el := 9 }),
 (133, { n := 1, g := false, by' := 8, ok := true, z := .un, k := 6 }),
 (134, { n := 1, g := false, by' := 8, ok := true, z := .un, k := 6 }),
 (135, { n := 1, g := false, by' := 8, ok := true, z := .un, k := 6 }),
 (136, { n := 1, g := false, by' := 8, ok := true, z := .un, k := 6 }),
 (137, { n := 1, g := false, by' := 16, ok := true, z := .un, k := 8 }),
 (138, { n := 1, g := false, by' := 16, ok := true, z := .un, k := 8 }),
 (140, { n := 1, g := false, by' := 8, ok := true, z := .un, k := 6 }),
 (141, { n := 1, g := false, by' := 8, ok := true, z := .un, k := 6 }),
 (143, { n := 1, g := false, by' := 8, ok := true, z := .un, k := 6 }),
 (144, { n := 1, g := false, by' := 8, ok := true, z := .un, k := 6 }),
 (145, { n := 1, g := false, by' := 8, ok := true, z := .un, k := 6 }),
 (146, { n := 1, g := false, by' := 8, ok := true, z := .un, k := 6 }),
 (147, { n := 1, g := false, by' := 8, ok := true, z := .un, k := 6 }),
 (148, { n := 1, g := false, by' := 8, ok := true, z := .un, k := 6 }),
 (149, { n := 1, g := false, by' := 8, ok := true, z := .un, k := 6 }),
 (150, { n := 1, g := false, by' := 8, ok := true, z := .un, k := 6 }),
 (151, { n := 1, g := false, by' := 8, ok := true, z := .un, k := 6 }),
 (153, { n := 1, g := false, by' := 8, ok := true, z := .un, k := 6 }),
 (154, { n := 1, g := false, by' := 8, ok := true, z := .un, k := 6 }),
 (155, { n := 1, g := false, by' := 8, ok := true, z := .un, k := 6 }),
 (157, { n := 1, g := false, by' := 8, ok := true, z := .un, k := 6 }),
 (158, { n := 1, g := false, by' := 8, ok := true, z := .un, k := 6 }),
 (159, { n := 1, g := false, by' := 8, ok := true, z := .un, k := 6 }),
 (161, { n := 1, g := false, by' := 8, ok := true, z := .un, k := 6 }),
 (162, { n := 1, g := false, by' := 8, ok := true, z := .un, k := 6 }),
 (163, { n := 1, g := false, by' := 8, ok := true, z := .un, k := 6 }),
 (164, { n := 1, g := false, by' := 8, ok := true, z := .un, k := 6 }),
 (165, { n := 1, g := false, by' := 8, ok := true, z := .un, k := 6 }),
 (166, { n := 1, g := false, by' := 8, ok := true, z := .un, k := 6 }),
 (169, { n := 1, g := false, by' := 8, ok := true, z := .un, k := 6 }),
 (170, { n := 1, g := false, by' := 8, ok := true, z := .un, k := 6 }),
 (171, { n := 1, g := false, by' := 8, ok := true, z := .un, k := 6 }),
 (172, { n := 1, g := false, by' := 8, ok := true, z := .un, k := 6 }),
 (173, { n := 12, g := true, by' := 96, ok := true, z := .agg [.int .u64 0, .int .u64 0, .int .u64 0, .int .u64 0, .int .u64 0, .int .u64 0, .int .u64 0, .int .u64 0, .int .u64 0, .int .u64 0, .int .u64 0, .int .u64 0], k := 4, el := 117, len := 12, cmp := true, ck := [0, 0, 0, 0, 0, 0, 0, 0, 0, 0, 0, 0] }),
 (174, { n := 1, g := false, by' := 8, ok := true, z := .un, k := 6 }),
 (175, { n := 1, g := false, by' := 8, ok := true, z := .un, k := 6 }),
 (176, { n := 1, g := false, by' := 8, ok := true, z := .un, k := 6 }),
 (177, { n := 1, g := false, by' := 24, ok := true, z := .sl (some true) 1 false [], k := 3, el := 130 }),
 (179, { n := 1, g := true, by' := 24, ok := true, z := .agg [.sl (some true) 1 false []], k := 5, fs := [(0, 177)] }),
 (180, { n := 1, g := false, by' := 8, ok := true, z := .un, k := 6 }),
 (181, { n := 1, g := false, by' := 8, ok := true, z := .un, k := 6 }),
 (182, { n := 1, g := false, by' := 8, ok := true, z := .un, k := 6 }),
 (183, { n := 1, g := false, by' := 8, ok := true, z := .un, k := 6 }),
 (184, { n := 1, g := false, by' := 8, ok := true, z := .un, k := 6 }),
 (185, { n := 8, g := true, by' := 32, ok := true, z := .agg [.int .u32 0, .int .u32 0, .int .u32 0, .int .u32 0, .int .u32 0, .int .u32 0, .int .u32 0, .int .u32 0], k := 4, el := 130, len := 8, cmp := true, ck := [0, 0, 0, 0, 0, 0, 0, 0] }),
 (186, { n := 1, g := false, by' := 8, ok := true, z := .un, k := 6 }),
 (187, { n := 1, g := false, by' := 8, ok := true, z := .un, k := 6 }),
 (188, { n := 1, g := false, by' := 8, ok := true, z := .un, k := 6 }),
 (189, { n := 1, g := false, by' := 8, ok := true, z := .un, k := 6 }),
 (190, { n := 1, g := false, by' := 8, ok := true, z := .un, k := 6 }),
 (191, { n := 1, g := false, by' := 24, ok := true, z := .sl (some true) 1 false [], k := 3, el := 67 }),
 (192, { n := 1, g := false, by' := 8, ok := true, z := .un, k := 6 }),
 (193, { n := 1, g := false, by' := 8, ok := true, z := .un, k := 6 }),
 (195, { n := 1, g := false, by' := 8, ok := true, z := .un, k := 6 }),
 (196, { n := 1, g := false, by' := 8, ok := true, z := .un, k := 6 }),
 (197, { n := 1, g := false, by' := 8, ok := true, z := .un, k := 6 }),
 (198, { n := 1, g := false, by' := 8, ok := true, z := .un, k := 6 }),
 (199, { n := 1, g := false, by' := 8, ok := true, z := .un, k := 6 }),
 (202, { n := 1, g := false, by' := 8, ok := true, z := .un, k := 6 }),
 (203, { n := 1, g := false, by' := 8, ok := true, z := .un, k := 6 }),
 (204, { n := 1, g := false, by' := 8, ok := true, z := .un, k := 6 }),
 (205, { n := 1, g := false, by' := 8, ok := true, z := .un, k := 6 }),
 (206, { n := 64, g := true, by' := 64, ok := true, z := .agg [.int .u8 0, .int .u8 0, .int .u8 0, .int .u8 0, .int .u8 0, .int .u8 0, .int .u8 0, .int .u8 0, .int .u8 0, .int .u8 0, .int .u8 0, .int .u8 0, .int .u8 0, .int .u8 0, .int .u8 0, .int .u8 0, .int .u8 0, .int .u8 0, .int .u8 0, .int .u8 0, .int .u8 0, .int .u8 0, .int .u8 0, .int .u8 0, .int .u8 0, .int .u8 0, .int .u8 0, .int .u8 0, .int .u8 0, .int .u8 0, .int .u8 0, .int .u8 0, .int .u8 0, .int .u8 0, .int .u8 0, .int .u8 0, .int .u8 0, .int .u8 0, .int .u8 0, .int .u8 0, .int .u8 0, .int .u8 0, .int .u8 0, .int .u8 0, .int .u8 0, .int .u8 0, .int .u8 0, .int .u8 0, .int .u8 0, .int .u8 0, .int .u8 0, .int .u8 0, .int .u8 0, .int .u8 0, .int .u8 0, .int .u8 0, .int .u8 0, .int .u8 0, .int .u8 0, .int .u8 0, .int .u8 0, .int .u8 0, .int .u8 0, .int .u8 0], k := 4, el := 5, len := 64, cmp := true, ck := [0, 0, 0, 0, 0, 0, 0, 0, 0, 0, 0, 0, 0, 0, 0, 0, 0, 0, 0, 0, 0, 0, 0, 0, 0, 0, 0, 0, 0, 0, 0, 0, 0, 0, 0, 0, 0, 0, 0, 0, 0, 0, 0, 0, 0, 0, 0, 0, 0, 0, 0, 0, 0, 0, 0, 0, 0, 0, 0, 0, 0, 0, 0, 0] }),
 (207, { n := 1, g := false, by' := 8, ok := true, z := .un, k := 6 }),
 (208, { n := 1, g := false, by' := 8, ok := true, z := .un, k := 6 }),
 (209, { n := 1, g := false, by' := 8, ok := true, z := .un, k := 6 }),
 (210, { n := 1, g := false, by' := 8, ok := true, z := .un, k := 6 }),
 (211, { n := 1, g := false, by' := 8, ok := true, z := .un, k := 6 }),
 (212, { n := 1, g := false, by' := 8, ok := true, z := .un, k := 6 }),
 (213, { n := 1, g := false, by' := 8, ok := true, z := .un, k := 6 }),
 (214, { n := 64, g := true, by' := 256, ok := true, z := .agg [.int .u32 0, .int .u32 0, .int .u32 0, .int .u32 0, .int .u32 0, .int .u32 0, .int .u32 0, .int .u32 0, .int .u32 0, .int .u32 0, .int .u32 0, .int .u32 0, .int .u32 0, .int .u32 0, .int .u32 0, .int .u32 0, .int .u32 0, .int .u32 0, .int .u32 0, .int .u32 0, .int .u32 0, .int .u32 0, .int .u32 0, .int .u32 0, .int .u32 0, .int .u32 0, .int .u32 0, .int .u32 0, .int .u32 0, .int .u32 0, .int .u32 0, .int .u32 0, .int .u32 0, .int .u32 0, .int .u32 0, .int .u32 0, .int .u32 0, .int .u32 0, .int .u32 0, .int .u32 0, .int .u32 0, .int .u32 0, .int .u32 0, .int .u32 0, .int .u32 0, .int .u32 0, .int .u32 0, .int .u32 0, .int .u32 0, .int .u32 0, .int .u32 0, .int .u32 0, .int .u32 0, .int .u32 0, .int .u32 0, .int .u32 0, .int .u32 0, .int .u32 0, .int .u32 0, .int .u32 0, .int .u32 0, .int .u32 0, .int .u32 0, .int .u32 0], k := 4, el := 130, len := 64, cmp := true, ck := [0, 0, 0, 0, 0, 0, 0, 0, 0, 0, 0, 0, 0, 0, 0, 0, 0, 0, 0, 0, 0, 0, 0, 0, 0, 0, 0, 0, 0, 0, 0, 0, 0, 0, 0, 0, 0, 0, 0, 0, 0, 0, 0, 0, 0, 0, 0, 0, 0, 0, 0, 0, 0, 0, 0, 0, 0, 0, 0, 0, 0, 0, 0, 0] }),
 (215, { n := 1, g := false, by' := 8, ok := true, z := .un, k := 6 }),
 (216, { n := 1, g := false, by' := 8, ok := true, z := .un, k := 6 }),
 (217, { n := 24, g := true, by' := 24, ok := true, z := .agg [.int .u8 0, .int .u8 0, .int .u8 0, .int .u8 0, .int .u8 0, .int .u8 0, .int .u8 0, .int .u8 0, .int .u8 0, .int .u8 0, .int .u8 0, .int .u8 0, .int .u8 0, .int .u8 0, .int .u8 0, .int .u8 0, .int .u8 0, .int .u8 0, .int .u8 0, .int .u8 0, .int .u8 0, .int .u8 0, .int .u8 0, .int .u8 0], k := 4, el := 5, len := 24, cmp := true, ck := [0, 0, 0, 0, 0, 0, 0, 0, 0, 0, 0, 0, 0, 0, 0, 0, 0, 0, 0, 0, 0, 0, 0, 0] }),
 (218, { n := 1, g := false, by' := 8, ok := true, z := .un, k := 6 }),
 (220, { n := 1, g := false, by' := 8, ok := true, z := .un, k := 6 }),
 (221, { n := 1, g := false, by' := 8, ok := true, z := .un, k := 6 }),
 (222, { n := 1, g := false, by' := 8, ok := true, z := .un, k := 6 }),
 (223, { n := 1, g := false, by' := 8, ok := true, z := .un, k := 6 }),
 (225, { n := 1, g := false, by' := 8, ok := true, z := .un, k := 6 }),
 (226, { n := 1, g := false, by' := 8, ok := true, z := .un, k := 6 }),
 (228, { n := 1, g := false, by' := 8, ok := true, z := .un, k := 6 }),
 (229, { n := 1, g := false, by' := 8, ok := true, z := .un, k := 6 }),
 (232, { n := 1, g := false, by' := 8, ok := true, z := .un, k := 6 }),
 (233, { n := 1, g := false, by' := 8, ok := true, z := .un, k := 6 }),
 (234, { n := 20, g := true, by' := 160, ok := true, z := .agg [.int .u64 0, .int .u64 0, .int .u64 0, .int .u64 0, .int .u64 0, .int .u64 0, .int .u64 0, .int .u64 0, .int .u64 0, .int .u64 0, .int .u64 0, .int .u64 0, .int .u64 0, .int .u64 0, .int .u64 0, .int .u64 0, .int .u64 0, .int .u64 0, .int .u64 0, .int .u64 0], k := 4, el := 117, len := 20, cmp := true, ck := [0, 0, 0, 0, 0, 0, 0, 0, 0, 0, 0, 0, 0, 0, 0, 0, 0, 0, 0, 0] }),
 (235, { n := 65, g := true, by' := 65, ok := true, z := .agg [.int .u8 0, .int .u8 0, .int .u8 0, .int .u8 0, .int .u8 0, .int .u8 0, .int .u8 0, .int .u8 0, .int .u8 0, .int .u8 0, .int .u8 0, .int .u8 0, .int .u8 0, .int .u8 0, .int .u8 0, .int .u8 0, .int .u8 0, .int .u8 0, .int .u8 0, .int .u8 0, .int .u8 0, .int .u8 0, .int .u8 0, .int .u8 0, .int .u8 0, .int .u8 0, .int .u8 0, .int .u8 0, .int .u8 0, .int .u8 0, .int .u8 0, .int .u8 0, .int .u8 0, .int .u8 0, .int .u8 0, .int .u8 0, .int .u8 0, .int .u8 0, .int .u8 0, .int .u8 0, .int .u8 0, .int .u8 0, .int .u8 0, .int .u8 0, .int .u8 0, .int .u8 0, .int .u8 0, .int .u8 0, .int .u8 0, .int .u8 0, .int .u8 0, .int .u8 0, .int .u8 0, .int .u8 0, .int .u8 0, .int .u8 0, .int .u8 0, .int .u8 0, .int .u8 0, .int .u8 0, .int .u8 0, .int .u8 0, .int .u8 0, .int .u8 0, .int .u8 0], k := 4, el := 5, len := 65, cmp := true, ck := [0, 0, 0, 0, 0, 0, 0, 0, 0, 0, 0, 0, 0, 0, 0, 0, 0, 0, 0, 0, 0, 0, 0, 0, 0, 0, 0, 0, 0, 0, 0, 0, 0, 0, 0, 0, 0, 0, 0, 0, 0, 0, 0, 0, 0, 0, 0, 0, 0, 0, 0, 0, 0, 0, 0, 0, 0, 0, 0, 0, 0, 0, 0, 0, 0] }),
 (236, { n := 1, g := false, by' := 8, ok := true, z := .un, k := 6 }),
 (237, { n := 1, g := false, by' := 8, ok := true, z := .un, k := 6 }),
 (238, { n := 1, g := false, by' := 8, ok := true, z := .un, k := 6 }),
 (241, { n := 1, g := false, by' := 8, ok := true, z := .un, k := 6 }),
 (247, { n := 1, g := false, by' := 8, ok := true, z := .un, k := 6 }),
 (253, { n := 1, g := false, by' := 8, ok := true, z := .un, k := 6 }),
 (256, { n := 1, g := false, by' := 8, ok := true, z := .un, k := 6 })]
noncomputable def En : Env := { P := Tryz.prog, tb := tbOf tbl, gv := fun g => if g = 0 then some (.pp 12 true (.agg (kg_0.map (V.int .u64)))) else if g = 1 then some (.pp 8 true (.agg [.int .u32 1779033703, .int .u32 3144134277, .int .u32 1013904242, .int .u32 2773480762, .int .u32 1359893119, .int .u32 2600822924, .int .u32 528734635, .int .u32 1541459225])) else if g = 4 then some (.pp 64 true (.agg (kg_4.map (V.int .u8)))) else if g = 5 then some (.pp 64 true (.agg (kg_5.map (V.int .u32)))) else if g = 6 then some (.opq (errP Tryz.prog 6 "strconv.ErrSyntax")) else if g = 7 then some (.opq (errP Tryz.prog 7 "strconv.ErrRange")) else if g = 8 then some (.opq (tabP Tryz.prog 8 "internal/strconv.uint64pow10" .u64 Lib.pow10Tab)) else if g = 9 then some (.pp 1 false (.opq isI64)) else none }
@[go_sem] theorem gv0 : En.gv 0 = some (.pp 12 true (.agg (kg_0.map (V.int .u64)))) := Eq.trans rfl rfl
@[go_sem] theorem gv1 : En.gv 1 = some (.pp 8 true (.agg [.int .u32 1779033703, .int .u32 3144134277, .int .u32 1013904242, .int .u32 2773480762, .int .u32 1359893119, .int .u32 2600822924, .int .u32 528734635, .int .u32 1541459225])) := Eq.trans rfl rfl
@[go_sem] theorem gv4 : En.gv 4 = some (.pp 64 true (.agg (kg_4.map (V.int .u8)))) := Eq.trans rfl rfl
@[go_sem] theorem gv5 : En.gv 5 = some (.pp 64 true (.agg (kg_5.map (V.int .u32)))) := Eq.trans rfl rfl
set_option maxRecDepth 100000 in
theorem tbl_ok : tablesB Tryz.prog tbl = true := by kernel_rfl
theorem En_ok : EnvOk En := ⟨fun _ h => tOk (l := tbl) tbl_ok h⟩
theorem En_mo : En.P.follows .mixedOrders = true := by kernel_rfl
@[go_sem] theorem tb1 : En.tb 1 = { n := 1, g := false, by' := 8, ok := true, z := .un, k := 6 } := rfl
@[go_sem] theorem tb2 : En.tb 2 = { n := 1, g := false, by' := 8, ok := true, z := .int .i64 0, k := 0, ik := .i64 } := rfl
@[go_sem] theorem tb3 : En.tb 3 = { n := 1, g := false, by' := 8, ok := true, z := .int .i64 0, k := 0, ik := .i64 } := rfl
@[go_sem] theorem tb4 : En.tb 4 = { n := 1, g := false, by' := 1, ok := true, z := .bool false, k := 1 } := rfl
@[go_sem] theorem tb5 : En.tb 5 = { n := 1, g := false, by' := 1, ok := true, z := .int .u8 0, k := 0, ik := .u8 } := rfl
@[go_sem] theorem tb9 : En.tb 9 = { n := 1, g := false, by' := 16, ok := true, z := .str [], k := 2 } := rfl
@[go_sem] theorem tb12 : En.tb 12 = { n := 1, g := false, by' := 8, ok := true, z := .int .u64 0, k := 0, ik := .u64 } := rfl
@[go_sem] theorem tb15 : En.tb 15 = { n := 1, g := false, by' := 8, ok := true, z := .un, k := 6 } := rfl
@[go_sem] theorem tb16 : En.tb 16 = { n := 1, g := false, by' := 8, ok := true, z := .un, k := 6 } := rfl
@[go_sem] theorem tb17 : En.tb 17 = { n := 1, g := false, by' := 8, ok := true, z := .un, k := 6 } := rfl
@[go_sem] theorem tb20 : En.tb 20 = { n := 1, g := false, by' := 16, ok := true, z := .un, k := 8 } := rfl
@[go_sem] theorem tb21 : En.tb 21 = { n := 1, g := false, by' := 4, ok := true, z := .int .i32 0, k := 0, ik := .i32 } := rfl
@[go_sem] theorem tb23 : En.tb 23 = { n := 3, g := true, by' := 24, ok := true, z := .agg [.int .i64 0, .int .i64 0, .int .i64 0], k := 5, fs := [(0, 3), (1, 3), (2, 3)], cmp := true, ck := [0, 0, 0] } := rfl
@[go_sem] theorem tb25 : En.tb 25 = { n := 6, g := true, by' := 48, ok := true, z := .agg [.int .i64 0, .int .i64 0, .int .i64 0, .int .i64 0, .int .i64 0, .int .i64 0], k := 5, fs := [(0, 23), (3, 3), (4, 3), (5, 3)], cmp := true, ck := [0, 0, 0, 0, 0, 0] } := rfl
@[go_sem] theorem tb26 : En.tb 26 = { n := 1, g := false, by' := 24, ok := true, z := .sl (some true) 2 true [], k := 3, el := 57 } := rfl
@[go_sem] theorem tb28 : En.tb 28 = { n := 3, g := true, by' := 40, ok := true, z := .agg [.int .i64 0, .int .i64 0, .sl (some true) 2 true []], k := 5, fs := [(0, 3), (1, 3), (2, 26)] } := rfl
@[go_sem] theorem tb29 : En.tb 29 = { n := 1, g := false, by' := 24, ok := true, z := .sl (some true) 1 false [], k := 3, el := 3 } := rfl
@[go_sem] theorem tb30 : En.tb 30 = { n := 1, g := false, by' := 8, ok := true, z := .un, k := 6 } := rfl
@[go_sem] theorem tb31 : En.tb 31 = { n := 1, g := false, by' := 8, ok := true, z := .int .i64 0, k := 0, ik := .i64 } := rfl
@[go_sem] theorem tb33 : En.tb 33 = { n := 1, g := false, by' := 8, ok := true, z := .un, k := 6 } := rfl
@[go_sem] theorem tb35 : En.tb 35 = { n := 1, g := false, by' := 8, ok := true, z := .un, k := 6 } := rfl
@[go_sem] theorem tb36 : En.tb 36 = { n := 1, g := false, by' := 24, ok := true, z := .sl (some true) 32 true [], k := 3, el := 40 } := rfl
@[go_sem] theorem tb38 : En.tb 38 = { n := 1, g := false, by' := 8, ok := true, z := .un, k := 6 } := rfl
@[go_sem] theorem tb39 : En.tb 39 = { n := 32, g := true, by' := 32, ok := true, z := .agg [.int .u8 0, .int .u8 0, .int .u8 0, .int .u8 0, .int .u8 0, .int .u8 0, .int .u8 0, .int .u8 0, .int .u8 0, .int .u8 0, .int .u8 0, .int .u8 0, .int .u8 0, .int .u8 0, .int .u8 0, .int .u8 0, .int .u8 0, .int .u8 0, .int .u8 0, .int .u8 0, .int .u8 0, .int .u8 0, .int .u8 0, .int .u8 0, .int .u8 0, .int .u8 0, .int .u8 0, .int .u8 0, .int .u8 0, .int .u8 0, .int .u8 0, .int .u8 0], k := 4, el := 5, len := 32, cmp := true, ck := [0, 0, 0, 0, 0, 0, 0, 0, 0, 0, 0, 0, 0, 0, 0, 0, 0, 0, 0, 0, 0, 0, 0, 0, 0, 0, 0, 0, 0, 0, 0, 0] } := rfl
@[go_sem] theorem tb40 : En.tb 40 = { n := 32, g := true, by' := 32, ok := true, z := .agg [.int .u8 0, .int .u8 0, .int .u8 0, .int .u8 0, .int .u8 0, .int .u8 0, .int .u8 0, .int .u8 0, .int .u8 0, .int .u8 0, .int .u8 0, .int .u8 0, .int .u8 0, .int .u8 0, .int .u8 0, .int .u8 0, .int .u8 0, .int .u8 0, .int .u8 0, .int .u8 0, .int .u8 0, .int .u8 0, .int .u8 0, .int .u8 0, .int .u8 0, .int .u8 0, .int .u8 0, .int .u8 0, .int .u8 0, .int .u8 0, .int .u8 0, .int .u8 0], k := 4, el := 5, len := 32, cmp := true, ck := [0, 0, 0, 0, 0, 0, 0, 0, 0, 0, 0, 0, 0, 0, 0, 0, 0, 0, 0, 0, 0, 0, 0, 0, 0, 0, 0, 0, 0, 0, 0, 0] } := rfl
@[go_sem] theorem tb42 : En.tb 42 = { n := 1, g := false, by' := 8, ok := true, z := .un, k := 6 } := rfl
@[go_sem] theorem tb43 : En.tb 43 = { n := 1, g := false, by' := 8, ok := true, z := .un, k := 6 } := rfl
@[go_sem] theorem tb44 : En.tb 44 = { n := 1, g := false, by' := 8, ok := true, z := .un, k := 6 } := rfl
@[go_sem] theorem tb45 : En.tb 45 = { n := 1, g := false, by' := 8, ok := true, z := .un, k := 6 } := rfl
@[go_sem] theorem tb46 : En.tb 46 = { n := 1, g := false, by' := 8, ok := true, z := .un, k := 6 } := rfl
@[go_sem] theorem tb47 : En.tb 47 = { n := 1, g := false, by' := 8, ok := true, z := .un, k := 6 } := rfl
@[go_sem] theorem tb48 : En.tb 48 = { n := 1, g := false, by' := 8, ok := true, z := .un, k := 6 } := rfl
@[go_sem] theorem tb49 : En.tb 49 = { n := 1, g := false, by' := 8, ok := true, z := .un, k := 6 } := rfl
@[go_sem] theorem tb50 : En.tb 50 = { n := 1, g := false, by' := 8, ok := true, z := .un, k := 6 } := rfl
@[go_sem] theorem tb51 : En.tb 51 = { n := 1, g := false, by' := 8, ok := true, z := .un, k := 6 } := rfl
@[go_sem] theorem tb52 : En.tb 52 = { n := 1, g := false, by' := 8, ok := true, z := .un, k := 6 } := rfl
@[go_sem] theorem tb53 : En.tb 53 = { n := 1, g := false, by' := 8, ok := true, z := .un, k := 6 } := rfl
@[go_sem] theorem tb54 : En.tb 54 = { n := 1, g := false, by' := 8, ok := true, z := .un, k := 6 } := rfl
@[go_sem] theorem tb55 : En.tb 55 = { n := 1, g := false, by' := 8, ok := true, z := .un, k := 6 } := rfl
@[go_sem] theorem tb56 : En.tb 56 = { n := 1, g := false, by' := 8, ok := true, z := .un, k := 6 } := rfl
@[go_sem] theorem tb57 : En.tb 57 = { n := 2, g := true, by' := 16, ok := true, z := .agg [.int .i64 0, .int .i64 0], k := 4, el := 3, len := 2, cmp := true, ck := [0, 0] } := rfl
@[go_sem] theorem tb58 : En.tb 58 = { n := 1, g := false, by' := 8, ok := true, z := .un, k := 6 } := rfl
@[go_sem] theorem tb60 : En.tb 60 = { n := 2, g := true, by' := 32, ok := true, z := .agg [.int .i64 0, .sl (some true) 32 true []], k := 5, fs := [(0, 3), (1, 36)] } := rfl
@[go_sem] theorem tb62 : En.tb 62 = { n := 1, g := false, by' := 8, ok := true, z := .un, k := 6 } := rfl
@[go_sem] theorem tb63 : En.tb 63 = { n := 1, g := false, by' := 8, ok := true, z := .un, k := 6 } := rfl
@[go_sem] theorem tb64 : En.tb 64 = { n := 1, g := false, by' := 8, ok := true, z := .un, k := 6 } := rfl
@[go_sem] theorem tb65 : En.tb 65 = { n := 1, g := false, by' := 8, ok := true, z := .un, k := 6 } := rfl
@[go_sem] theorem tb66 : En.tb 66 = { n := 1, g := false, by' := 8, ok := true, z := .un, k := 6 } := rfl
@[go_sem] theorem tb67 : En.tb 67 = { n := 1, g := false, by' := 24, ok := true, z := .sl (some true) 1 false [], k := 3, el := 5 } := rfl
@[go_sem] theorem tb68 : En.tb 68 = { n := 1, g := false, by' := 8, ok := true, z := .un, k := 6 } := rfl
@[go_sem] theorem tb69 : En.tb 69 = { n := 1, g := false, by' := 8, ok := true, z := .un, k := 6 } := rfl
@[go_sem] theorem tb71 : En.tb 71 = { n := 1, g := false, by' := 8, ok := true, z := .un, k := 6 } := rfl
@[go_sem] theorem tb72 : En.tb 72 = { n := 1, g := false, by' := 8, ok := true, z := .un, k := 6 } := rfl
@[go_sem] theorem tb73 : En.tb 73 = { n := 1, g := false, by' := 8, ok := true, z := .un, k := 6 } := rfl
@[go_sem] theorem tb74 : En.tb 74 = { n := 1, g := false, by' := 8, ok := true, z := .un, k := 6 } := rfl
@[go_sem] theorem tb76 : En.tb 76 = { n := 1, g := false, by' := 8, ok := true, z := .un, k := 6 } := rfl
@[go_sem] theorem tb77 : En.tb 77 = { n := 1, g := false, by' := 24, ok := true, z := .sl (some true) 4 true [], k := 3, el := 79 } := rfl
@[go_sem] theorem tb79 : En.tb 79 = { n := 4, g := true, by' := 64, ok := true, z := .agg [.int .i64 0, .int .i64 0, .sl (some true) 1 false [], .sl (some true) 4 true []], k := 5, fs := [(0, 3), (1, 3), (2, 67), (3, 77)] } := rfl
@[go_sem] theorem tb80 : En.tb 80 = { n := 1, g := false, by' := 8, ok := true, z := .un, k := 6 } := rfl
@[go_sem] theorem tb81 : En.tb 81 = { n := 1, g := false, by' := 8, ok := true, z := .un, k := 6 } := rfl
@[go_sem] theorem tb82 : En.tb 82 = { n := 1, g := false, by' := 8, ok := true, z := .un, k := 6 } := rfl
@[go_sem] theorem tb83 : En.tb 83 = { n := 1, g := false, by' := 8, ok := true, z := .un, k := 6 } := rfl
@[go_sem] theorem tb84 : En.tb 84 = { n := 1, g := false, by' := 8, ok := true, z := .un, k := 6 } := rfl
@[go_sem] theorem tb85 : En.tb 85 = { n := 1, g := false, by' := 8, ok := true, z := .un, k := 6 } := rfl
@[go_sem] theorem tb86 : En.tb 86 = { n := 1, g := false, by' := 8, ok := true, z := .un, k := 6 } := rfl
@[go_sem] theorem tb87 : En.tb 87 = { n := 1, g := false, by' := 8, ok := true, z := .un, k := 6 } := rfl
@[go_sem] theorem tb88 : En.tb 88 = { n := 1, g := false, by' := 8, ok := true, z := .un, k := 6 } := rfl
@[go_sem] theorem tb89 : En.tb 89 = { n := 1, g := false, by' := 8, ok := true, z := .un, k := 6 } := rfl
@[go_sem] theorem tb90 : En.tb 90 = { n := 1, g := false, by' := 8, ok := true, z := .un, k := 6 } := rfl
@[go_sem] theorem tb91 : En.tb 91 = { n := 1, g := false, by' := 8, ok := true, z := .un, k := 6 } := rfl
@[go_sem] theorem tb92 : En.tb 92 = { n := 1, g := false, by' := 8, ok := true, z := .un, k := 6 } := rfl
@[go_sem] theorem tb93 : En.tb 93 = { n := 1, g := false, by' := 8, ok := true, z := .un, k := 6 } := rfl
@[go_sem] theorem tb94 : En.tb 94 = { n := 1, g := false, by' := 24, ok := true, z := .sl (some true) 1 false [], k := 3, el := 36 } := rfl
@[go_sem] theorem tb96 : En.tb 96 = { n := 1, g := false, by' := 8, ok := true, z := .un, k := 6 } := rfl
@[go_sem] theorem tb97 : En.tb 97 = { n := 1, g := false, by' := 8, ok := true, z := .un, k := 6 } := rfl
@[go_sem] theorem tb98 : En.tb 98 = { n := 1, g := false, by' := 8, ok := true, z := .un, k := 6 } := rfl
@[go_sem] theorem tb99 : En.tb 99 = { n := 1, g := false, by' := 8, ok := true, z := .un, k := 6 } := rfl
@[go_sem] theorem tb100 : En.tb 100 = { n := 1, g := false, by' := 8, ok := true, z := .un, k := 6 } := rfl
@[go_sem] theorem tb101 : En.tb 101 = { n := 1, g := false, by' := 8, ok := true, z := .int .u64 0, k := 0, ik := .u64 } := rfl
@[go_sem] theorem tb103 : En.tb 103 = { n := 1, g := false, by' := 8, ok := true, z := .un, k := 6 } := rfl
@[go_sem] theorem tb105 : En.tb 105 = { n := 1, g := false, by' := 8, ok := true, z := .un, k := 6 } := rfl
@[go_sem] theorem tb106 : En.tb 106 = { n := 1, g := false, by' := 8, ok := true, z := .un, k := 6 } := rfl
@[go_sem] theorem tb107 : En.tb 107 = { n := 1, g := false, by' := 8, ok := true, z := .un, k := 6 } := rfl
@[go_sem] theorem tb108 : En.tb 108 = { n := 1, g := false, by' := 8, ok := true, z := .un, k := 7, el := 3, len := 4 } := rfl
@[go_sem] theorem tb109 : En.tb 109 = { n := 1, g := false, by' := 8, ok := true, z := .un, k := 6 } := rfl
@[go_sem] theorem tb110 : En.tb 110 = { n := 1, g := false, by' := 8, ok := true, z := .un, k := 6 } := rfl
@[go_sem] theorem tb111 : En.tb 111 = { n := 1, g := false, by' := 8, ok := true, z := .un, k := 6 } := rfl
@[go_sem] theorem tb112 : En.tb 112 = { n := 1, g := false, by' := 8, ok := true, z := .un, k := 6 } := rfl
@[go_sem] theorem tb113 : En.tb 113 = { n := 1, g := false, by' := 8, ok := true, z := .un, k := 6 } := rfl
@[go_sem] theorem tb114 : En.tb 114 = { n := 1, g := false, by' := 8, ok := true, z := .un, k := 6 } := rfl
@[go_sem] theorem tb115 : En.tb 115 = { n := 1, g := false, by' := 8, ok := true, z := .un, k := 6 } := rfl
@[go_sem] theorem tb116 : En.tb 116 = { n := 1, g := false, by' := 8, ok := true, z := .un, k := 6 } := rfl
@[go_sem] theorem tb117 : En.tb 117 = { n := 1, g := false, by' := 8, ok := true, z := .int .u64 0, k := 0, ik := .u64 } := rfl
@[go_sem] theorem tb118 : En.tb 118 = { n := 1, g := false, by' := 8, ok := true, z := .un, k := 6 } := rfl
@[go_sem] theorem tb119 : En.tb 119 = { n := 1, g := false, by' := 8, ok := true, z := .un, k := 6 } := rfl
@[go_sem] theorem tb120 : En.tb 120 = { n := 1, g := false, by' := 8, ok := true, z := .un, k := 6 } := rfl
@[go_sem] theorem tb121 : En.tb 121 = { n := 1, g := false, by' := 8, ok := true, z := .un, k := 6 } := rfl
@[go_sem] theorem tb124 : En.tb 124 = { n := 1, g := false, by' := 8, ok := true, z := .un, k := 6 } := rfl
@[go_sem] theorem tb125 : En.tb 125 = { n := 1, g := false, by' := 8, ok := true, z := .un, k := 6 } := rfl
@[go_sem] theorem tb126 : En.tb 126 = { n := 1, g := false, by' := 8, ok := true, z := .un, k := 6 } := rfl
@[go_sem] theorem tb127 : En.tb 127 = { n := 1, g := false, by' := 8, ok := true, z := .un, k := 6 } := rfl
@[go_sem] theorem tb128 : En.tb 128 = { n := 1, g := false, by' := 8, ok := true, z := .un, k := 6 } := rfl
@[go_sem] theorem tb129 : En.tb 129 = { n := 1, g := false, by' := 8, ok := true, z := .un, k := 6 } := rfl
@[go_sem] theorem tb130 : En.tb 130 = { n := 1, g := false, by' := 4, ok := true, z := .int .u32 0, k := 0, ik := .u32 } := rfl
@[go_sem] theorem tb131 : En.tb 131 = { n := 1, g := false, by' := 8, ok := true, z := .un, k := 6 } := rfl
@[go_sem] theorem tb132 : En.tb 132 = { n := 1, g := false, by' := 24, ok := true, z := .sl (some true) 1 false [], k := 3, el := 9 } := rfl
@[go_sem] theorem tb133 : En.tb 133 = { n := 1, g := false, by' := 8, ok := true, z := .un, k := 6 } := rfl
@[go_sem] theorem tb134 : En.tb 134 = { n := 1, g := false, by' := 8, ok := true, z := .un, k := 6 } := rfl
@[go_sem] theorem tb135 : En.tb 135 = { n := 1, g := false, by' := 8, ok := true, z := .un, k := 6 } := rfl
@[go_sem] theorem tb136 : En.tb 136 = { n := 1, g := false, by' := 8, ok := true, z := .un, k := 6 } := rfl
@[go_sem] theorem tb137 : En.tb 137 = { n := 1, g := false, by' := 16, ok := true, z := .un, k := 8 } := rfl
@[go_sem] theorem tb138 : En.tb 138 = { n := 1, g := false, by' := 16, ok := true, z := .un, k := 8 } := rfl
@[go_sem] theorem tb140 : En.tb 140 = { n := 1, g := false, by' := 8, ok := true, z := .un, k := 6 } := rfl
@[go_sem] theorem tb141 : En.tb 141 = { n := 1, g := false, by' := 8, ok := true, z := .un, k := 6 } := rfl
@[go_sem] theorem tb143 : En.tb 143 = { n := 1, g := false, by' := 8, ok := true, z := .un, k := 6 } := rfl
@[go_sem] theorem tb144 : En.tb 144 = { n := 1, g := false, by' := 8, ok := true, z := .un, k := 6 } := rfl
@[go_sem] theorem tb145 : En.tb 145 = { n := 1, g := false, by' := 8, ok := true, z := .un, k := 6 } := rfl
@[go_sem] theorem tb146 : En.tb 146 = { n := 1, g := false, by' := 8, ok := true, z := .un, k := 6 } := rfl
@[go_sem] theorem tb147 : En.tb 147 = { n := 1, g := false, by' := 8, ok := true, z := .un, k := 6 } := rfl
@[go_sem] theorem tb148 : En.tb 148 = { n := 1, g := false, by' := 8, ok := true, z := .un, k := 6 } := rfl
@[go_sem] theorem tb149 : En.tb 149 = { n := 1, g := false, by' := 8, ok := true, z := .un, k := 6 } := rfl
@[go_sem] theorem tb150 : En.tb 150 = { n := 1, g := false, by' := 8, ok := true, z := .un, k := 6 } := rfl
@[go_sem] theorem tb151 : En.tb 151 = { n := 1, g := false, by' := 8, ok := true, z := .un, k := 6 } := rfl
@[go_sem] theorem tb153 : En.tb 153 = { n := 1, g := false, by' := 8, ok := true, z := .un, k := 6 } := rfl
@[go_sem] theorem tb154 : En.tb 154 = { n := 1, g := false, by' := 8, ok := true, z := .un, k := 6 } := rfl
@[go_sem] theorem tb155 : En.tb 155 = { n := 1, g := false, by' := 8, ok := true, z := .un, k := 6 } := rfl
@[go_sem] theorem tb157 : En.tb 157 = { n := 1, g := false, by' := 8, ok := true, z := .un, k := 6 } := rfl
@[go_sem] theorem tb158 : En.tb 158 = { n := 1, g := false, by' := 8, ok := true, z := .un, k := 6 } := rfl
@[go_sem] theorem tb159 : En.tb 159 = { n := 1, g := false, by' := 8, ok := true, z := .un, k := 6 } := rfl
@[go_sem] theorem tb161 : En.tb 161 = { n := 1, g := false, by' := 8, ok := true, z := .un, k := 6 } := rfl
@[go_sem] theorem tb162 : En.tb 162 = { n := 1, g := false, by' := 8, ok := true, z := .un, k := 6 } := rfl
@[go_sem] theorem tb163 : En.tb 163 = { n := 1, g := false, by' := 8, ok := true, z := .un, k := 6 } := rfl
@[go_sem] theorem tb164 : En.tb 164 = { n := 1, g := false, by' := 8, ok := true, z := .un, k := 6 } := rfl
@[go_sem] theorem tb165 : En.tb 165 = { n := 1, g := false, by' := 8, ok := true, z := .un, k := 6 } := rfl
@[go_sem] theorem tb166 : En.tb 166 = { n := 1, g := false, by' := 8, ok := true, z := .un, k := 6 } := rfl
@[go_sem] theorem tb169 : En.tb 169 = { n := 1, g := false, by' := 8, ok := true, z := .un, k := 6 } := rfl
@[go_sem] theorem tb170 : En.tb 170 = { n := 1, g := false, by' := 8, ok := true, z := .un, k := 6 } := rfl
@[go_sem] theorem tb171 : En.tb 171 = { n := 1, g := false, by' := 8, ok := true, z := .un, k := 6 } := rfl
@[go_sem] theorem tb172 : En.tb 172 = { n := 1, g := false, by' := 8, ok := true, z := .un, k := 6 } := rfl
@[go_sem] theorem tb173 : En.tb 173 = { n := 12, g := true, by' := 96, ok := true, z := .agg [.int .u64 0, .int .u64 0, .int .u64 0, .int .u64 0, .int .u64 0, .int .u64 0, .int .u64 0, .int .u64 0, .int .u64 0, .int .u64 0, .int .u64 0, .int .u64 0], k := 4, el := 117, len := 12, cmp := true, ck := [0, 0, 0, 0, 0, 0, 0, 0, 0, 0, 0, 0] } := rfl
@[go_sem] theorem tb174 : En.tb 174 = { n := 1, g := false, by' := 8, ok := true, z := .un, k := 6 } := rfl
@[go_sem] theorem tb175 : En.tb 175 = { n := 1, g := false, by' := 8, ok := true, z := .un, k := 6 } := rfl
@[go_sem] theorem tb176 : En.tb 176 = { n := 1, g := false, by' := 8, ok := true, z := .un, k := 6 } := rfl
@[go_sem] theorem tb177 : En.tb 177 = { n := 1, g := false, by' := 24, ok := true, z := .sl (some true) 1 false [], k := 3, el := 130 } := rfl
@[go_sem] theorem tb179 : En.tb 179 = { n := 1, g := true, by' := 24, ok := true, z := .agg [.sl (some true) 1 false []], k := 5, fs := [(0, 177)] } := rfl
@[go_sem] theorem tb180 : En.tb 180 = { n := 1, g := false, by' := 8, ok := true, z := .un, k := 6 } := rfl
@[go_sem] theorem tb181 : En.tb 181 = { n := 1, g := false, by' := 8, ok := true, z := .un, k := 6 } := rfl
@[go_sem] theorem tb182 : En.tb 182 = { n := 1, g := false, by' := 8, ok := true, z := .un, k := 6 } := rfl
@[go_sem] theorem tb183 : En.tb 183 = { n := 1, g := false, by' := 8, ok := true, z := .un, k := 6 } := rfl
@[go_sem] theorem tb184 : En.tb 184 = { n := 1, g := false, by' := 8, ok := true, z := .un, k := 6 } := rfl
@[go_sem] theorem tb185 : En.tb 185 = { n := 8, g := true, by' := 32, ok := true, z := .agg [.int .u32 0, .int .u32 0, .int .u32 0, .int .u32 0, .int .u32 0, .int .u32 0, .int .u32 0, .int .u32 0], k := 4, el := 130, len := 8, cmp := true, ck := [0, 0, 0, 0, 0, 0, 0, 0] } := rfl
@[go_sem] theorem tb186 : En.tb 186 = { n := 1, g := false, by' := 8, ok := true, z := .un, k := 6 } := rfl
@[go_sem] theorem tb187 : En.tb 187 = { n := 1, g := false, by' := 8, ok := true, z := .un, k := 6 } := rfl
@[go_sem] theorem tb188 : En.tb 188 = { n := 1, g := false, by' := 8, ok := true, z := .un, k := 6 } := rfl
@[go_sem] theorem tb189 : En.tb 189 = { n := 1, g := false, by' := 8, ok := true, z := .un, k := 6 } := rfl
@[go_sem] theorem tb190 : En.tb 190 = { n := 1, g := false, by' := 8, ok := true, z := .un, k := 6 } := rfl
@[go_sem] theorem tb191 : En.tb 191 = { n := 1, g := false, by' := 24, ok := true, z := .sl (some true) 1 false [], k := 3, el := 67 } := rfl
@[go_sem] theorem tb192 : En.tb 192 = { n := 1, g := false, by' := 8, ok := true, z := .un, k := 6 } := rfl
@[go_sem] theorem tb193 : En.tb 193 = { n := 1, g := false, by' := 8, ok := true, z := .un, k := 6 } := rfl
@[go_sem] theorem tb195 : En.tb 195 = { n := 1, g := false, by' := 8, ok := true, z := .un, k := 6 } := rfl
@[go_sem] theorem tb196 : En.tb 196 = { n := 1, g := false, by' := 8, ok := true, z := .un, k := 6 } := rfl
@[go_sem] theorem tb197 : En.tb 197 = { n := 1, g := false, by' := 8, ok := true, z := .un, k := 6 } := rfl
@[go_sem] theorem tb198 : En.tb 198 = { n := 1, g := false, by' := 8, ok := true, z := .un, k := 6 } := rfl
@[go_sem] theorem tb199 : En.tb 199 = { n := 1, g := false, by' := 8, ok := true, z := .un, k := 6 } := rfl
@[go_sem] theorem tb202 : En.tb 202 = { n := 1, g := false, by' := 8, ok := true, z := .un, k := 6 } := rfl
@[go_sem] theorem tb203 : En.tb 203 = { n := 1, g := false, by' := 8, ok := true, z := .un, k := 6 } := rfl
@[go_sem] theorem tb204 : En.tb 204 = { n := 1, g := false, by' := 8, ok := true, z := .un, k := 6 } := rfl
@[go_sem] theorem tb205 : En.tb 205 = { n := 1, g := false, by' := 8, ok := true, z := .un, k := 6 } := rfl
@[go_sem] theorem tb206 : En.tb 206 = { n := 64, g := true, by' := 64, ok := true, z := .agg [.int .u8 0, .int .u8 0, .int .u8 0, .int .u8 0, .int .u8 0, .int .u8 0, .int .u8 0, .int .u8 0, .int .u8 0, .int .u8 0, .int .u8 0, .int .u8 0, .int .u8 0, .int .u8 0, .int .u8 0, .int .u8 0, .int .u8 0, .int .u8 0, .int .u8 0, .int .u8 0, .int .u8 0, .int .u8 0, .int .u8 0, .int .u8 0, .int .u8 0, .int .u8 0, .int .u8 0, .int .u8 0, .int .u8 0, .int .u8 0, .int .u8 0, .int .u8 0, .int .u8 0, .int .u8 0, .int .u8 0, .int .u8 0, .int .u8 0, .int .u8 0, .int .u8 0, .int .u8 0, .int .u8 0, .int .u8 0, .int .u8 0, .int .u8 0, .int .u8 0, .int .u8 0, .int .u8 0, .int .u8 0, .int .u8 0, .int .u8 0, .int .u8 0, .int .u8 0, .int .u8 0, .int .u8 0, .int .u8 0, .int .u8 0, .int .u8 0, .int .u8 0, .int .u8 0, .int .u8 0, .int .u8 0, .int .u8 0, .int .u8 0, .int .u8 0], k := 4, el := 5, len := 64, cmp := true, ck := [0, 0, 0, 0, 0, 0, 0, 0, 0, 0, 0, 0, 0, 0, 0, 0, 0, 0, 0, 0, 0, 0, 0, 0, 0, 0, 0, 0, 0, 0, 0, 0, 0, 0, 0, 0, 0, 0, 0, 0, 0, 0, 0, 0, 0, 0, 0, 0, 0, 0, 0, 0, 0, 0, 0, 0, 0, 0, 0, 0, 0, 0, 0, 0] } := rfl
@[go_sem] theorem tb207 : En.tb 207 = { n := 1, g := false, by' := 8, ok := true, z := .un, k := 6 } := rfl
@[go_sem] theorem tb208 : En.tb 208 = { n := 1, g := false, by' := 8, ok := true, z := .un, k := 6 } := rfl
@[go_sem] theorem tb209 : En.tb 209 = { n := 1, g := false, by' := 8, ok := true, z := .un, k := 6 } := rfl
@[go_sem] theorem tb210 : En.tb 210 = { n := 1, g := false, by' := 8, ok := true, z := .un, k := 6 } := rfl
@[go_sem] theorem tb211 : En.tb 211 = { n := 1, g := false, by' := 8, ok := true, z := .un, k := 6 } := rfl
@[go_sem] theorem tb212 : En.tb 212 = { n := 1, g := false, by' := 8, ok := true, z := .un, k := 6 } := rfl
@[go_sem] theorem tb213 : En.tb 213 = { n := 1, g := false, by' := 8, ok := true, z := .un, k := 6 } := rfl
@[go_sem] theorem tb214 : En.tb 214 = { n := 64, g := true, by' := 256, ok := true, z := .agg [.int .u32 0, .int .u32 0, .int .u32 0, .int .u32 0, .int .u32 0, .int .u32 0, .int .u32 0, .int .u32 0, .int .u32 0, .int .u32 0, .int .u32 0, .int .u32 0, .int .u32 0, .int .u32 0, .int .u32 0, .int .u32 0, .int .u32 0, .int .u32 0, .int .u32 0, .int .u32 0, .int .u32 0, .int .u32 0, .int .u32 0, .int .u32 0, .int .u32 0, .int .u32 0, .int .u32 0, .int .u32 0, .int .u32 0, .int .u32 0, .int .u32 0, .int .u32 0, .int .u32 0, .int .u32 0, .int .u32 0, .int .u32 0, .int .u32 0, .int .u32 0, .int .u32 0, .int .u32 0, .int .u32 0, .int .u32 0, .int .u32 0, .int .u32 0, .int .u32 0, .int .u32 0, .int .u32 0, .int .u32 0, .int .u32 0, .int .u32 0, .int .u32 0, .int .u32 0, .int .u32 0, .int .u32 0, .int .u32 0, .int .u32 0, .int .u32 0, .int .u32 0, .int .u32 0, .int .u32 0, .int .u32 0, .int .u32 0, .int .u32 0, .int .u32 0], k := 4, el := 130, len := 64, cmp := true, ck := [0, 0, 0, 0, 0, 0, 0, 0, 0, 0, 0, 0, 0, 0, 0, 0, 0, 0, 0, 0, 0, 0, 0, 0, 0, 0, 0, 0, 0, 0, 0, 0, 0, 0, 0, 0, 0, 0, 0, 0, 0, 0, 0, 0, 0, 0, 0, 0, 0, 0, 0, 0, 0, 0, 0, 0, 0, 0, 0, 0, 0, 0, 0, 0] } := rfl
@[go_sem] theorem tb215 : En.tb 215 = { n := 1, g := false, by' := 8, ok := true, z := .un, k := 6 } := rfl
@[go_sem] theorem tb216 : En.tb 216 = { n := 1, g := false, by' := 8, ok := true, z := .un, k := 6 } := rfl
@[go_sem] theorem tb217 : En.tb 217 = { n := 24, g := true, by' := 24, ok := true, z := .agg [.int .u8 0, .int .u8 0, .int .u8 0, .int .u8 0, .int .u8 0, .int .u8 0, .int .u8 0, .int .u8 0, .int .u8 0, .int .u8 0, .int .u8 0, .int .u8 0, .int .u8 0, .int .u8 0, .int .u8 0, .int .u8 0, .int .u8 0, .int .u8 0, .int .u8 0, .int .u8 0, .int .u8 0, .int .u8 0, .int .u8 0, .int .u8 0], k := 4, el := 5, len := 24, cmp := true, ck := [0, 0, 0, 0, 0, 0, 0, 0, 0, 0, 0, 0, 0, 0, 0, 0, 0, 0, 0, 0, 0, 0, 0, 0] } := rfl
@[go_sem] theorem tb218 : En.tb 218 = { n := 1, g := false, by' := 8, ok := true, z := .un, k := 6 } := rfl
@[go_sem] theorem tb220 : En.tb 220 = { n := 1, g := false, by' := 8, ok := true, z := .un, k := 6 } := rfl
@[go_sem] theorem tb221 : En.tb 221 = { n := 1, g := false, by' := 8, ok := true, z := .un, k := 6 } := rfl
@[go_sem] theorem tb222 : En.tb 222 = { n := 1, g := false, by' := 8, ok := true, z := .un, k := 6 } := rfl
@[go_sem] theorem tb223 : En.tb 223 = { n := 1, g := false, by' := 8, ok := true, z := .un, k := 6 } := rfl
@[go_sem] theorem tb225 : En.tb 225 = { n := 1, g := false, by' := 8, ok := true, z := .un, k := 6 } := rfl
@[go_sem] theorem tb226 : En.tb 226 = { n := 1, g := false, by' := 8, ok := true, z := .un, k := 6 } := rfl
@[go_sem] theorem tb228 : En.tb 228 = { n := 1, g := false, by' := 8, ok := true, z := .un, k := 6 } := rfl
@[go_sem] theorem tb229 : En.tb 229 = { n := 1, g := false, by' := 8, ok := true, z := .un, k := 6 } := rfl
@[go_sem] theorem tb232 : En.tb 232 = { n := 1, g := false, by' := 8, ok := true, z := .un, k := 6 } := rfl
@[go_sem] theorem tb233 : En.tb 233 = { n := 1, g := false, by' := 8, ok := true, z := .un, k := 6 } := rfl
@[go_sem] theorem tb234 : En.tb 234 = { n := 20, g := true, by' := 160, ok := true, z := .agg [.int .u64 0, .int .u64 0, .int .u64 0, .int .u64 0, .int .u64 0, .int .u64 0, .int .u64 0, .int .u64 0, .int .u64 0, .int .u64 0, .int .u64 0, .int .u64 0, .int .u64 0, .int .u64 0, .int .u64 0, .int .u64 0, .int .u64 0, .int .u64 0, .int .u64 0, .int .u64 0], k := 4, el := 117, len := 20, cmp := true, ck := [0, 0, 0, 0, 0, 0, 0, 0, 0, 0, 0, 0, 0, 0, 0, 0, 0, 0, 0, 0] } := rfl
@[go_sem] theorem tb235 : En.tb 235 = { n := 65, g := true, by' := 65, ok := true, z := .agg [.int .u8 0, .int .u8 0, .int .u8 0, .int .u8 0, .int .u8 0, .int .u8 0, .int .u8 0, .int .u8 0, .int .u8 0, .int .u8 0, .int .u8 0, .int .u8 0, .int .u8 0, .int .u8 0, .int .u8 0, .int .u8 0, .int .u8 0, .int .u8 0, .int .u8 0, .int .u8 0, .int .u8 0, .int .u8 0, .int .u8 0, .int .u8 0, .int .u8 0, .int .u8 0, .int .u8 0, .int .u8 0, .int .u8 0, .int .u8 0, .int .u8 0, .int .u8 0, .int .u8 0, .int .u8 0, .int .u8 0, .int .u8 0, .int .u8 0, .int .u8 0, .int .u8 0, .int .u8 0, .int .u8 0, .int .u8 0, .int .u8 0, .int .u8 0, .int .u8 0, .int .u8 0, .int .u8 0, .int .u8 0, .int .u8 0, .int .u8 0, .int .u8 0, .int .u8 0, .int .u8 0, .int .u8 0, .int .u8 0, .int .u8 0, .int .u8 0, .int .u8 0, .int .u8 0, .int .u8 0, .int .u8 0, .int .u8 0, .int .u8 0, .int .u8 0, .int .u8 0], k := 4, el := 5, len := 65, cmp := true, ck := [0, 0, 0, 0, 0, 0, 0, 0, 0, 0, 0, 0, 0, 0, 0, 0, 0, 0, 0, 0, 0, 0, 0, 0, 0, 0, 0, 0, 0, 0, 0, 0, 0, 0, 0, 0, 0, 0, 0, 0, 0, 0, 0, 0, 0, 0, 0, 0, 0, 0, 0, 0, 0, 0, 0, 0, 0, 0, 0, 0, 0, 0, 0, 0, 0] } := rfl
@[go_sem] theorem tb236 : En.tb 236 = { n := 1, g := false, by' := 8, ok := true, z := .un, k := 6 } := rfl
@[go_sem] theorem tb237 : En.tb 237 = { n := 1, g := false, by' := 8, ok := true, z := .un, k := 6 } := rfl
@[go_sem] theorem tb238 : En.tb 238 = { n := 1, g := false, by' := 8, ok := true, z := .un, k := 6 } := rfl
@[go_sem] theorem tb241 : En.tb 241 = { n := 1, g := false, by' := 8, ok := true, z := .un, k := 6 } := rfl
@[go_sem] theorem tb247 : En.tb 247 = { n := 1, g := false, by' := 8, ok := true, z := .un, k := 6 } := rfl
@[go_sem] theorem tb253 : En.tb 253 = { n := 1, g := false, by' := 8, ok := true, z := .un, k := 6 } := rfl
@[go_sem] theorem tb256 : En.tb 256 = { n := 1, g := false, by' := 8, ok := true, z := .un, k := 6 } := rfl
end Go.Proofs.YteolfhljhnplpaaGreatDoor
namespace Go.Proofs.YteolfhljhnplpaaGreatDoor
open Go.RowKit
section
variable {E : Env} {J : Cuts} {k : List Ct} {S S1 S2 : St}
theorem Weak.trans (h : Weak E S S1) (h' : Weak E S1 S2) : Weak E S S2 := by
 intro c0 c ρ F hs
 obtain ⟨c1, ρ1, e, h1⟩ := h c0 c ρ F hs
 obtain ⟨c2, ρ2, e2, h2⟩ := h' c0 c1 ρ1 F h1
 exact ⟨c2, ρ2, e2.trans e, h2⟩
theorem weak_nil (t T : Nat) {n : Nat} {g : Bool} (h : getA S.F t = some (.sl (some true) n g [])) (hg : g = false → n = 1) : Weak E S ⟨(t, .own S.nx) :: S.F, (S.nx, .own T n g (some true) []) :: S.H, S.nx + 1⟩ := by
 intro c0 c ρ F hs
 have hf : ρ S.nx = none := hs.2 _ (Nat.le_refl _)
 have hrd := hs.1.slot _ _ h
 have e : F t = .slice none 0 0 := by
  simp only [rd, zOk] at hrd
  obtain ⟨a, cap, e, _, ⟨rfl, rfl⟩, _⟩ := hrd
  exact e
 have hro : roLe ρ (fun i => if i = S.nx then some (.slice none 0 0) else ρ i) := roLe_new hf fun i hi => by simp [hi]
 have hat : (fun i => if i = S.nx then some (Value.slice none 0 0) else ρ i) S.nx = some (.slice none 0 0) := by simp
 have hoth : ∀ i, i ≠ S.nx → (fun i => if i = S.nx then some (Value.slice none 0 0) else ρ i) i = ρ i := fun i hi => by simp [hi]
 generalize (fun i => if i = S.nx then some (Value.slice none 0 0) else ρ i) = ρ' at hro hat hoth
 refine ⟨c, ρ', rfl, ⟨hs.1.since, hs.1.gl, ?_, ?_, ?_⟩, ?_⟩
 ·intro t' v ht
  simp only [getA] at ht
  split at ht
  ·rename_i e'; subst e'; cases ht
   simp only [rd]
   exact ⟨e ▸ hat, by rw [e]; rfl⟩
  ·exact rd_ro hro (hs.1.slot t' v ht)
 ·intro i b hb
  simp only [getA] at hb
  split at hb
  ·rename_i e'; subst e'; cases hb
   refine ⟨_, hat, Own.nil, fun k hk => by simp [blk] at hk, hg, none, 0, rfl, rfl, rfl⟩
  ·exact blkOk_ro hro (hs.1.heap i b hb)
 ·intro i j bi bj k hij hbi hbj hpi hpj hk hk'
  have hn : blkOf ρ' S.nx = none := by simp [blkOf, hat, blk]
  have hi : i ≠ S.nx := fun e' => by rw [e', hn] at hk; cases hk
  have hj : j ≠ S.nx := fun e' => by rw [e', hn] at hk'; cases hk'
  simp only [getA, Ne.symm hi, Ne.symm hj, if_false] at hbi hbj
  rw [blkOf_eq (hoth i hi)] at hk
  rw [blkOf_eq (hoth j hj)] at hk'
  exact hs.1.sep i j bi bj k hij hbi hbj hpi hpj hk hk'
 ·intro i hi
  have hi' : S.nx + 1 ≤ i := hi
  rw [hoth i (by omega)]
  exact hs.2 i (by omega)
theorem ct_loopW {a : Code} (I : Nat → St → Prop) (k0 : Nat) (S1 S2 : St) (hW : Weak E S S1) (hF : subF S1.F S2.nx S2.F) (hH : subH S1.H S2.nx S2.H) (h0 : I k0 S2)
  (h : ∀ n S', I n S' → cont E J (.code a :: .lp (fun S2 => ∃ n', n' < n ∧ ∃ S3, Weak E S2 S3 ∧ I n' S3) :: k) .normal S') : cont E J (.code (.loop a) :: k) .normal S :=
 ⟨I, k0, ⟨S2, hW.trans (weak_of hF hH), h0⟩, h⟩
end
def iter {α R : Type} : Nat → ((α → R) → α → R) → (α → R) → α → R
 | 0, _, d, a => d a
 | n + 1, f, d, a => f (iter n f d) a
theorem iter_opn {α R : Type} {n : Nat} {f : (α → R) → α → R} {d : α → R} {a : α} {r : R} (h : iter n f d a = r) : ∃ g e, g = f ∧ e = d ∧ iter n g e a = r := ⟨f, d, rfl, rfl, h⟩
theorem iter_step {α R : Type} {n : Nat} {f g : (α → R) → α → R} {d : α → R} {a : α} {r : R} (h : iter n f d a = r) (hn : 0 < n) (hf : f = g) : ∃ ag, ag = iter (n - 1) f d ∧ g ag a = r := by
 subst hf
 cases n with
 | zero => omega
 | succ m => exact ⟨_, rfl, h⟩
theorem iter_again {α R : Type} {n : Nat} {f : (α → R) → α → R} {d ag : α → R} {a : α} {r : R} (h : ag a = r) (e : ag = iter n f d) : iter n f d a = r := e ▸ h
def letj {α R : Type} (j : α → R) (f : (α → R) → R) : R := f j
theorem letj_opn {α R : Type} {j : α → R} {f : (α → R) → R} {r : R} (h : letj j f = r) : ∃ g, g = j ∧ f g = r := ⟨j, rfl, h⟩
theorem letj_use {α R : Type} {g j : α → R} {a : α} {r : R} (h : g a = r) (e : g = j) : j a = r := e ▸ h
theorem add_one {i : Int} (h0 : -9223372036854775808 ≤ i) (h : i + 1 ≤ 9223372036854775807) : addI .i64 i 1 = i + 1 := by
 unfold addI; rw [IntKind.wrap_i64]; omega
theorem LEN_eq : LEN = 1073741824 := rfl
theorem rng_i64 {d : Int} : Rng .i64 d = (-9223372036854775808 ≤ d ∧ d ≤ 9223372036854775807) := by simp [Rng, IntKind.min, IntKind.max, IntKind.bits, IntKind.signed]
theorem rng_u64 {d : Int} : Rng .u64 d = (0 ≤ d ∧ d ≤ 18446744073709551615) := by simp [Rng, IntKind.min, IntKind.max, IntKind.bits, IntKind.signed]
theorem rng_u8 {d : Int} : Rng .u8 d = (0 ≤ d ∧ d ≤ 255) := by simp [Rng, IntKind.min, IntKind.max, IntKind.bits, IntKind.signed]
theorem rng_u32 {d : Int} : Rng .u32 d = (0 ≤ d ∧ d ≤ 4294967295) := by simp [Rng, IntKind.min, IntKind.max, IntKind.bits, IntKind.signed]
theorem rng_i32 {d : Int} : Rng .i32 d = (-2147483648 ≤ d ∧ d ≤ 2147483647) := by simp [Rng, IntKind.min, IntKind.max, IntKind.bits, IntKind.signed]
theorem sl_len {α : Type} {l : List α} {i j : Int} : (sl l i j).length = min (j.toNat - i.toNat) (l.length - i.toNat) := by simp [sl]
theorem st_len {α : Type} {l : List α} {i : Int} {x : α} : (st l i x).length = l.length := by simp [st]
theorem elt_mp {α : Type} [Inhabited α] {l : List α} {f : α → V} {i : Int} (h : i.toNat < l.length) (d : V) : elt (l.map f) i.toNat d = f (gt l i) := by
 simp [elt, gt, List.getD, h]
theorem add_ok {a b : Int} (h0 : -9223372036854775808 ≤ a + b) (h : a + b ≤ 9223372036854775807) : addI .i64 a b = a + b := by
 unfold addI; rw [IntKind.wrap_i64]; omega
theorem sub_ok {a b : Int} (h0 : -9223372036854775808 ≤ a - b) (h : a - b ≤ 9223372036854775807) : subI .i64 a b = a - b := by
 unfold subI; rw [IntKind.wrap_i64]; omega
theorem gt_cons0 {α : Type} [Inhabited α] {a : α} {l : List α} : gt (a :: l) 0 = a := rfl
theorem gt_conss {α : Type} [Inhabited α] {a : α} {l : List α} {i : Int} (h : 0 < i) : gt (a :: l) i = gt l (i - 1) := by
 obtain ⟨n, rfl⟩ : ∃ n : Nat, i = ((n + 1 : Nat) : Int) := ⟨(i - 1).toNat, by omega⟩
 simp [gt]
theorem remI_nn {k : IntKind} {n : Nat} {b : Int} : remI k ((n : Nat) : Int) b = ((n : Nat) : Int) % b := Int.tmod_eq_emod_of_nonneg (by omega)
theorem allU8_map : ∀ {B : List Int}, allU8 (B.map (V.int .u8))
 | [] => trivial
 | _ :: B => ⟨trivial, allU8_map (B := B)⟩
@[go_sem] theorem u8s_map : ∀ {B : List Int}, (B.map (V.int .u8)).map (fun d => u8N (numV d)) = B.map u8N
 | [] => rfl
 | x :: B => by rw [List.map_cons, List.map_cons, u8s_map (B := B)]; rfl
def nat8 (a : List UInt8) : List Int := a.map fun b => (b.toNat : Int)
theorem nat8_len {a : List UInt8} : (nat8 a).length = a.length := by simp [nat8]
@[go_sem] theorem u8V_map : ∀ {a : List UInt8}, a.map u8V = (nat8 a).map (V.int .u8)
 | [] => rfl
 | x :: B => by rw [List.map_cons, u8V_map (a := B)]; rfl
def gtsN {α : Type} [Inhabited α] (f : α → V) (l : List α) : Nat → Int → List V
 | 0, _ => []
 | k + 1, i => f (gt l i) :: gtsN f l k (i + 1)
def arrF {α : Type} [Inhabited α] (l : List α) : Nat → Int → List α
 | 0, _ => []
 | k + 1, i => gt l i :: arrF l k (i + 1)
def arrN {α : Type} [Inhabited α] (n : Nat) (l : List α) : List α := arrF l n 0
theorem arrF_len {α : Type} [Inhabited α] {l : List α} : ∀ {k : Nat} {i : Int}, (arrF l k i).length = k
 | 0, _ => rfl
 | k + 1, i => by simp [arrF, arrF_len (k := k)]
theorem arrN_len {α : Type} [Inhabited α] {l : List α} {n : Nat} : (arrN n l).length = n := arrF_len
@[go_sem] theorem set_snoc {α β : Type} {l : List α} {f : α → β} {a b : β} : (l.map f ++ [a]).set l.length b = l.map f ++ [b] := by
 rw [List.set_append_right _ _ (by simp)]; simp
attribute [go_sem] gtsN arrN arrF
end Go.Proofs.YteolfhljhnplpaaGreatDoor
