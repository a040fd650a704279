import Derived.Test.YtcbdmoihobdjaaaV9
namespace Go.Proofs.Ytcbdmoihobdjaaa
open Go.RowKit
structure HRes where
  d : Option Nat
  v : V
  b : Option (Nat × Blk)
def memN : List Nat → Nat → Bool
  | [], _ => false
  | k :: l, i => if k = i then true else memN l i
def headF (ns : Nat → Bool) : List (Nat × HRes) → List (Nat × V)
  | [] => []
  | (j, r) :: R => match ns j, r.d with
    | true, some t => (t, r.v) :: headF ns R
    | _, _ => headF ns R
def headH (ns : Nat → Bool) : List (Nat × HRes) → List (Nat × Blk)
  | [] => []
  | (j, r) :: R => match ns j, r.b with
    | true, some b => b :: headH ns R
    | _, _ => headH ns R
def banF (ub : List (Nat × Nat)) (need : List (List Nat)) (i : Nat) (id : Nat) : Bool := match ub with
  | [] => false
  | (w, k) :: l => (decide (k = id) && (!decide (w = i) && (!memN (need.getD i []) w && !memN (need.getD w []) i))) || banF l need i id
def lateF (wl : List (Nat × Nat)) (need : List (List Nat)) (i t : Nat) : Bool := match wl with
  | [] => false
  | (w, k) :: l => (decide (k = t) && memN (need.getD w []) i) || lateF l need i t
def wrF (wl : List (Nat × Nat)) (need : List (List Nat)) (i : Nat) : List Nat → List Nat
  | [] => []
  | t :: l => match lateF wl need i t with
    | true => wrF wl need i l
    | false => t :: wrF wl need i l
def wlB (ops : Array Oper) (m : Nat) (wl : List (Nat × Nat)) : Bool := wl.all fun p => decide (p.1 < m) && decide (dstOf ops p.1 = some p.2)
def restH (ban : Nat → Bool) : List (Nat × Blk) → List (Nat × Blk)
  | [] => []
  | (k, b) :: H => match ban k with
    | true => restH ban H
    | false => (k, b) :: restH ban H
def memP : List (Nat × Nat) → Nat → Nat → Bool
  | [], _, _ => false
  | (w, k) :: l, i, id => (decide (w = i) && decide (k = id)) || memP l i id
def noBan : Nat → Bool := fun _ => false
def killsB (ub : List (Nat × Nat)) (j : Nat) (b : Option (Nat × Blk)) (k : Nat) : Bool := match b with
  | some (k', _) => memP ub j k && !decide (k' = k)
  | none => false
def killF (ub : List (Nat × Nat)) (ns : Nat → Bool) : List (Nat × HRes) → Nat → Bool
  | [], _ => false
  | (j, r) :: R, k => (ns j && killsB ub j r.b k) || killF ub ns R k
def banK (ub : List (Nat × Nat)) (need : List (List Nat)) (i : Nat) (R : List (Nat × HRes)) : Nat → Bool := match ub with
  | [] => noBan
  | p :: l => fun k => banF (p :: l) need i k || killF (p :: l) (memN (need.getD i [])) R k
def endB (ub : List (Nat × Nat)) (R : List (Nat × HRes)) : Nat → Bool := match ub with
  | [] => noBan
  | p :: l => killF (p :: l) (fun _ => true) R
def newB (_ : Nat) (need : List (List Nat)) (n w k : Nat) : Bool := decide (n ≤ k) && (decide (k - n = w) || (decide (k - n < w) && memN (need.getD w []) (k - n)))
def ubB (m : Nat) (need : List (List Nat)) : List (Nat × Nat) → Nat → Bool
  | [], _ => true
  | (w, k) :: l, n => (decide (k < n) || newB m need n w k) && (l.all (fun p => !decide (p.2 = k)) && ubB m need l n)
def restF (wr : List Nat) : List (Nat × V) → List (Nat × V)
  | [] => []
  | (t, v) :: F => if memN wr t = true then restF wr F else (t, v) :: restF wr F
def viewS (S0 : St) (wr : List Nat) (ns : Nat → Bool) (ban : Nat → Bool) (R : List (Nat × HRes)) (i : Nat) : St := ⟨headF ns R ++ restF wr S0.F, restH ban (headH ns R ++ S0.H), S0.nx + i⟩
def allN : Nat → Bool := fun _ => true
def dsR : List (Nat × HRes) → List (Nat × Nat)
  | [] => []
  | (j, r) :: R => match r.d with
    | some t => (j, t) :: dsR R
    | none => dsR R
def headUse (E : Env) (S : St) (C : List V → V → Prop) (vs : List V) (K : V → Prop) : Prop :=
  ∃ ws r, C ws r ∧ ((∀ c ρ us, rdT ρ c vs us → rdT ro0 c ws us) ∨ (flatV r ∧ lookOk E S vs ws)) ∧ K r
def headUseO (C : List V → Blk → Prop) (vs : List V) (K : Blk → Prop) : Prop :=
  ∃ ws T n g z l, C ws (.own T n g z l) ∧ (∀ c ρ us, rdT ρ c vs us → rdT ro0 c ws us) ∧ K (.own T n g z l)
def headUpd (E : Env) (S : St) (ub : List (Nat × Nat)) (i : Nat) (f : FuncId) (vs : List V) (K : V → Nat → Blk → Prop) : Prop :=
  (∀ as w, (callFunc f as).run E.P w = .ok (.enter f as) w) ∧ ∃ r id b, memP ub i id = true ∧ privB b = true ∧ (∃ b0, getA S.H id = some b0 ∧ privB b0 = true) ∧
    (∀ c0 c ρ F us, Sim E c0 c ρ S F → rdT ρ c vs us → Calls E.P f us.toArray c.w fun e w' => ∃ u c', e = .returned u ∧ c'.w = w' ∧ c.chg (blkOf ρ id) c' ∧ blkOk c0 c' ρ id b ∧ rd ρ c' r u) ∧ K r id b
def inPlace (c c' : Cx) (ρ : Ro) (id : Nat) (T n : Nat) (g : Bool) (z : Option Bool) (l : List V) (u : Value) : Prop :=
  c.chg (blkOf ρ id) c' ∧ Own c' T u (rV ro0 n g) l ∧ (∀ k, blk u = some k → blkOf ρ id = some k ∨ c.w.heap.size ≤ k) ∧ (g = false → n = 1) ∧ ∃ a cap, u = .slice a l.length cap ∧ zOk z a cap
def headKill (E : Env) (S : St) (ub : List (Nat × Nat)) (i : Nat) (f : FuncId) (vs : List V) (K : Blk → Prop) : Prop :=
  (∀ as w, (callFunc f as).run E.P w = .ok (.enter f as) w) ∧ ∃ id T n g z l, (memP ub i id && !decide (id = S.nx)) = true ∧ (∃ b0, getA S.H id = some b0 ∧ privB b0 = true) ∧
    (∀ c0 c ρ F us, Sim E c0 c ρ S F → rdT ρ c vs us → Calls E.P f us.toArray c.w fun e w' => ∃ u c', e = .returned u ∧ c'.w = w' ∧ inPlace c c' ρ id T n g z l u) ∧ K (.own T n g z l)
def headCall (E : Env) (S : St) (ub : List (Nat × Nat)) (i : Nat) (d : Option Nat) (K : HRes → Prop) : Option V → Option (List V) → Prop
  | some (.fn f caps), some vs => (headUse E S (fun ws r => CallOk E f ws r []) (vs ++ caps) (fun r => K ⟨d, r, none⟩) ∨ headUseO (fun ws b => CallOk E f ws (.own 0) [b]) (vs ++ caps) fun b => K ⟨d, .own S.nx, some (S.nx, b)⟩) ∨ headUpd E S ub i f (vs ++ caps) (fun r id b => K ⟨d, r, some (id, b)⟩) ∨ headKill E S ub i f (vs ++ caps) (fun b => K ⟨d, .own S.nx, some (S.nx, b)⟩)
  | _, _ => False
def pubK (c : Prop) (nid : Nat) (K : V → Prop) : V → Blk → Prop
  | .own k, .own _ n g z l => decide (k = nid) = true ∧ c ∧ (c → K (.sl z n g l))
  | _, _ => False
def headRes (ub : List (Nat × Nat)) (i nid : Nat) (d : Option Nat) (K : HRes → Prop) : Res → Prop
  | some (c, v, .none) => c ∧ (c → K ⟨d, v, none⟩)
  | some (c, v, .new b) => match memP ub i nid with
    | true => pubK c nid (fun v' => K ⟨d, v', none⟩) v b
    | false => match privB b with
      | true => c ∧ (c → K ⟨d, v, some (nid, b)⟩)
      | false => False
  | some (c, v, .upd id b) => match memP ub i id && privB b with
    | true => c ∧ (c → K ⟨d, v, some (id, b)⟩)
    | false => False
  | some (c, .own id', .app id (.own T n g z l)) => match decide (id' = id) && (memP ub i id && !decide (id = nid)) with
    | true => c ∧ (c → K ⟨d, .own nid, some (nid, .own T n g z l)⟩)
    | false => False
  | _ => False
def headStep (E : Env) (S : St) (ub : List (Nat × Nat)) (i : Nat) (o : Oper) (K : HRes → Prop) : Prop :=
  match isCall o.op with
  | some (x, l, Ts) => headCall E S ub i o.dst K (S.ev E.gv x) (evs E S l Ts)
  | none => headRes ub i S.nx o.dst K (opH E S S.nx o.type o.op)
def gb : V → Option (Option Bool)
  | .bool b => some (some b)
  | .tup [] => some none
  | _ => none
def headGuard (ns : Nat → Bool) (R : List (Nat × HRes)) (o : Oper) (A B : Prop) : Prop :=
  match o.guard with
  | none => A
  | some (j, want) => match ns j, getA R j with
    | true, some r => match r.d with
      | some _ => guardV (some r.v) want A B
      | none => False
    | _, _ => False
def drawK (E : Env) (S0 : St) (wr : List Nat) (wl : List (Nat × Nat)) (need : List (List Nat)) (ub : List (Nat × Nat)) (K : St → Prop) : Nat → Nat → List Oper → List (Nat × HRes) → Prop
  | 0, i, l, R => opsK E i (dsR R) l K (viewS S0 wr allN (endB ub R) R i)
  | _ + 1, _, [], _ => False
  | m + 1, i, o :: l, R => headGuard (memN (need.getD i [])) R o (headStep E (viewS S0 (wrF wl need i wr) (memN (need.getD i [])) (banK ub need i R) R i) ub i o fun r => drawK E S0 wr wl need ub K m (i + 1) l ((i, r) :: R)) (drawK E S0 wr wl need ub K m (i + 1) l ((i, ⟨o.dst, .tup [], none⟩) :: R))
section
variable {E : Env} {c0 c : Cx} {ρ : Ro} {S S0 : St} {F : Fm} {nid : Nat} {wr : List Nat} {wl : List (Nat × Nat)} {need : List (List Nat)} {ub : List (Nat × Nat)} {ops : Array Oper} {m : Nat}
theorem memN_iff {l : List Nat} {i : Nat} : memN l i = true ↔ i ∈ l := by
  induction l with
  | nil => simp [memN]
  | cons k l ih =>
    simp only [memN, List.mem_cons]
    split
    · rename_i h; simp [h]
    · rename_i h; rw [ih]; constructor
      · exact .inr
      · rintro (h' | h')
        · exact absurd h'.symm h
        · exact h'
theorem headF_mem {ns : Nat → Bool} {R : List (Nat × HRes)} {t : Nat} {v : V} (h : (t, v) ∈ headF ns R) : ∃ j r, (j, r) ∈ R ∧ ns j = true ∧ r.d = some t ∧ r.v = v := by
  induction R with
  | nil => simp [headF] at h
  | cons p R ih =>
    obtain ⟨j, r⟩ := p
    simp only [headF] at h
    split at h
    · rename_i h1 h2
      rcases List.mem_cons.1 h with e | h
      · cases e; exact ⟨j, r, by simp, h1, h2, rfl⟩
      · obtain ⟨j', r', h3, h4⟩ := ih h; exact ⟨j', r', by simp [h3], h4⟩
    · obtain ⟨j', r', h3, h4⟩ := ih h; exact ⟨j', r', by simp [h3], h4⟩
theorem headH_mem {ns : Nat → Bool} {R : List (Nat × HRes)} {i : Nat} {b : Blk} (h : (i, b) ∈ headH ns R) : ∃ j r, (j, r) ∈ R ∧ ns j = true ∧ r.b = some (i, b) := by
  induction R with
  | nil => simp [headH] at h
  | cons p R ih =>
    obtain ⟨j, r⟩ := p
    simp only [headH] at h
    split at h
    · rename_i h1 h2
      rcases List.mem_cons.1 h with e | h
      · subst e; exact ⟨j, r, by simp, h1, h2⟩
      · obtain ⟨j', r', h3, h4⟩ := ih h; exact ⟨j', r', by simp [h3], h4⟩
    · obtain ⟨j', r', h3, h4⟩ := ih h; exact ⟨j', r', by simp [h3], h4⟩
theorem headH_none {ns : Nat → Bool} {R : List (Nat × HRes)} {i : Nat} (h : getA (headH ns R) i = none) : ∀ j r b, (j, r) ∈ R → ns j = true → r.b ≠ some (i, b) := by
  induction R with
  | nil => intro j r b hm; simp at hm
  | cons p R ih =>
    obtain ⟨j0, r0⟩ := p
    intro j r b hm hn hb
    simp only [headH] at h
    split at h
    · rename_i b0 h1 h2
      obtain ⟨k0, b0⟩ := b0
      simp only [getA] at h
      split at h
      · cases h
      · rename_i hne
        rcases List.mem_cons.1 hm with e | hm
        · cases e; rw [h2] at hb; cases hb; exact hne rfl
        · exact ih h j r b hm hn hb
    · rename_i hno
      rcases List.mem_cons.1 hm with e | hm
      · cases e; exact hno _ hn hb
      · exact ih h j r b hm hn hb
theorem restH_get {ban : Nat → Bool} {H : List (Nat × Blk)} {i : Nat} {b : Blk} (h : getA (restH ban H) i = some b) : ban i = false ∧ getA H i = some b := by
  induction H with
  | nil => simp [restH, getA] at h
  | cons p H ih =>
    obtain ⟨k, x⟩ := p
    simp only [restH] at h
    split at h
    · rename_i hk
      obtain ⟨h1, h2⟩ := ih h
      refine ⟨h1, ?_⟩
      simp only [getA]
      rw [if_neg (fun e => by subst e; rw [hk] at h1; cases h1)]
      exact h2
    · rename_i hk
      simp only [getA] at h ⊢
      split at h
      · rename_i e; subst e; exact ⟨hk, by rw [if_pos rfl]; exact h⟩
      · rename_i e; rw [if_neg e]; exact ih h
theorem banF_false : ∀ {ub : List (Nat × Nat)} {i id w : Nat}, banF ub need i id = false → memP ub w id = true → w = i ∨ w ∈ need.getD i [] ∨ i ∈ need.getD w []
  | [], _, _, _, _, h => by simp [memP] at h
  | (w0, k) :: l, i, id, w, h, hm => by
    simp only [banF, Bool.or_eq_false_iff, Bool.and_eq_false_iff, Bool.not_eq_false', decide_eq_true_eq, decide_eq_false_iff_not] at h
    simp only [memP, Bool.or_eq_true, Bool.and_eq_true, decide_eq_true_eq] at hm
    rcases hm with ⟨rfl, rfl⟩ | hm
    · rcases h.1 with h1 | h1 | h1 | h1
      · exact absurd rfl h1
      · exact .inl h1
      · exact .inr (.inl (memN_iff.1 h1))
      · exact .inr (.inr (memN_iff.1 h1))
    · exact banF_false h.2 hm
theorem killF_false {ns : Nat → Bool} {k : Nat} : ∀ {R : List (Nat × HRes)}, killF ub ns R k = false → ∀ j r, (j, r) ∈ R → ns j = true → killsB ub j r.b k = false
  | [], _, j, r, hm, _ => by cases hm
  | (j0, r0) :: R, h, j, r, hm, hn => by
    simp only [killF, Bool.or_eq_false_iff, Bool.and_eq_false_iff] at h
    rcases List.mem_cons.1 hm with e | hm
    · cases e
      rcases h.1 with h1 | h1
      · rw [hn] at h1; cases h1
      · exact h1
    · exact killF_false h.2 j r hm hn
theorem killsB_nil {j k : Nat} {b : Option (Nat × Blk)} : killsB [] j b k = false := by
  unfold killsB; split <;> simp [memP]
theorem killF_nil {ns : Nat → Bool} {k : Nat} : ∀ {R : List (Nat × HRes)}, killF [] ns R k = false
  | [] => rfl
  | (j, r) :: R => by simp [killF, killsB_nil, killF_nil (R := R)]
theorem banK_false {i k : Nat} {R : List (Nat × HRes)} (h : banK ub need i R k = false) : banF ub need i k = false ∧ killF ub (memN (need.getD i [])) R k = false := by
  cases ub with
  | nil => exact ⟨rfl, killF_nil⟩
  | cons p l => simpa [banK, Bool.or_eq_false_iff] using h
theorem endB_false {k : Nat} {R : List (Nat × HRes)} (h : endB ub R k = false) : killF ub (fun _ => true) R k = false := by
  cases ub with
  | nil => exact killF_nil
  | cons p l => exact h
theorem killsB_mem {j k : Nat} {b : Option (Nat × Blk)} (h : killsB ub j b k = true) : memP ub j k = true := by
  unfold killsB at h
  split at h
  · simp only [Bool.and_eq_true] at h; exact h.1
  · cases h
theorem ubB_or : ∀ {ub : List (Nat × Nat)} {n w id : Nat}, ubB m need ub n = true → memP ub w id = true → id < n ∨ newB m need n w id = true
  | [], _, _, _, _, h => by simp [memP] at h
  | (w0, k) :: l, n, w, id, h, hm => by
    simp only [ubB, Bool.and_eq_true, Bool.or_eq_true, decide_eq_true_eq] at h
    simp only [memP, Bool.or_eq_true, Bool.and_eq_true, decide_eq_true_eq] at hm
    rcases hm with ⟨rfl, rfl⟩ | hm
    · exact h.1
    · exact ubB_or h.2.2 hm
theorem newB_spec {n w k : Nat} (h : newB m need n w k = true) : n ≤ k ∧ (k - n = w ∨ (k - n < w ∧ k - n ∈ need.getD w [])) := by
  simp only [newB, Bool.and_eq_true, Bool.or_eq_true, decide_eq_true_eq] at h
  refine ⟨h.1, ?_⟩
  rcases h.2 with h2 | h2
  · exact .inl h2
  · exact .inr ⟨h2.1, memN_iff.1 h2.2⟩
theorem memP_mem : ∀ {ub : List (Nat × Nat)} {w id : Nat}, memP ub w id = true → (w, id) ∈ ub
  | [], _, _, h => by simp [memP] at h
  | (w0, k) :: l, w, id, hm => by
    simp only [memP, Bool.or_eq_true, Bool.and_eq_true, decide_eq_true_eq] at hm
    rcases hm with ⟨rfl, rfl⟩ | hm
    · simp
    · exact List.mem_cons_of_mem _ (memP_mem hm)
theorem ubB_one : ∀ {ub : List (Nat × Nat)} {n w w' id : Nat}, ubB m need ub n = true → memP ub w id = true → memP ub w' id = true → w = w'
  | [], _, _, _, _, _, h, _ => by simp [memP] at h
  | (w0, k) :: l, n, w, w', id, h, hm, hm' => by
    simp only [ubB, Bool.and_eq_true, decide_eq_true_eq, List.all_eq_true, Bool.not_eq_true', decide_eq_false_iff_not] at h
    simp only [memP, Bool.or_eq_true, Bool.and_eq_true, decide_eq_true_eq] at hm hm'
    rcases hm with ⟨rfl, rfl⟩ | hm <;> rcases hm' with ⟨rfl, e⟩ | hm'
    · rfl
    · exact absurd rfl (h.2.1 _ (memP_mem hm'))
    · subst e; exact absurd rfl (h.2.1 _ (memP_mem hm))
    · exact ubB_one h.2.2 hm hm'
theorem restF_get {F : List (Nat × V)} {t : Nat} {v : V} (h : getA (restF wr F) t = some v) : t ∉ wr ∧ getA F t = some v := by
  induction F with
  | nil => simp [restF, getA] at h
  | cons p F ih =>
    obtain ⟨k, x⟩ := p
    simp only [restF] at h
    split at h
    · rename_i hk
      obtain ⟨h1, h2⟩ := ih h
      refine ⟨h1, ?_⟩
      simp only [getA]
      rw [if_neg (show ¬ k = t from fun e => h1 (e ▸ memN_iff.1 hk))]
      exact h2
    · rename_i hk
      simp only [getA] at h ⊢
      split at h
      · rename_i e; subst e
        exact ⟨fun hm => hk (memN_iff.2 hm), by rw [if_pos rfl]; exact h⟩
      · rename_i e
        rw [if_neg e]
        exact ih h
def NK (ub : List (Nat × Nat)) (R : List (Nat × HRes)) (L : Nat → Prop) (i : Nat) : Prop := ∀ j r, (j, r) ∈ R → L j → killsB ub j r.b i = false
def PB (S0 : St) (ub : List (Nat × Nat)) (R : List (Nat × HRes)) (L : Nat → Prop) (i : Nat) : Prop := NK ub R L i ∧ ((∃ b, getA S0.H i = some b ∧ privB b = true) ∨ ∃ l r b, (l, r) ∈ R ∧ L l ∧ r.b = some (i, b))
structure DInv (E : Env) (c0 : Cx) (S0 : St) (ub : List (Nat × Nat)) (m : Nat) (R : List (Nat × HRes)) (L : Nat → Prop) (F : Fm) (c : Cx) (ρ : Ro) : Prop where
  since : Since c0 c
  gl : Gl E c
  slot : ∀ j r, (j, r) ∈ R → L j → ∀ t, r.d = some t → rd ρ c r.v (F t)
  old : ∀ t v, getA S0.F t = some v → (∀ j r, (j, r) ∈ R → L j → r.d ≠ some t) → rd ρ c v (F t)
  heap : ∀ j r k b, (j, r) ∈ R → L j → r.b = some (k, b) → (∀ w r' b', (w, r') ∈ R → L w → r'.b = some (k, b') → w ≤ j) → NK ub R L k → blkOk c0 c ρ k b
  heap0 : ∀ i b, getA S0.H i = some b → (∀ j r b', (j, r) ∈ R → L j → r.b ≠ some (i, b')) → NK ub R L i → blkOk c0 c ρ i b
  sep : ∀ i j k, i ≠ j → PB S0 ub R L i → PB S0 ub R L j → blkOf ρ i = some k → blkOf ρ j ≠ some k
  fresh : ∀ i, S0.nx ≤ i → (∀ j, j < m → L j → i ≠ S0.nx + j) → ρ i = none
theorem lastOf {R : List (Nat × HRes)} {L : Nat → Prop} {a : Nat} (h : ∃ j r b, (j, r) ∈ R ∧ L j ∧ r.b = some (a, b)) :
    ∃ j r b, (j, r) ∈ R ∧ L j ∧ r.b = some (a, b) ∧ ∀ w r' b', (w, r') ∈ R → L w → r'.b = some (a, b') → w ≤ j := by
  induction R with
  | nil => obtain ⟨_, _, _, h, _⟩ := h; cases h
  | cons p R ih =>
    by_cases hR : ∃ j r b, (j, r) ∈ R ∧ L j ∧ r.b = some (a, b)
    · obtain ⟨j, r, b, h1, h2, h3, h4⟩ := ih hR
      by_cases hp : L p.1 ∧ (∃ b', p.2.b = some (a, b')) ∧ j < p.1
      · obtain ⟨g1, ⟨b', g2⟩, g3⟩ := hp
        refine ⟨p.1, p.2, b', by simp, g1, g2, fun w r' b'' hw hl hb => ?_⟩
        rcases List.mem_cons.1 hw with e | hw
        · exact Nat.le_of_eq (congrArg Prod.fst e)
        · have := h4 w r' b'' hw hl hb; omega
      · refine ⟨j, r, b, by simp [h1], h2, h3, fun w r' b'' hw hl hb => ?_⟩
        rcases List.mem_cons.1 hw with e | hw
        · subst e
          exact Nat.le_of_not_lt fun hlt => hp ⟨hl, ⟨b'', hb⟩, hlt⟩
        · exact h4 w r' b'' hw hl hb
    · obtain ⟨j, r, b, h1, h2, h3⟩ := h
      rcases List.mem_cons.1 h1 with e | h1
      · refine ⟨j, r, b, by simp [e], h2, h3, fun w r' b' hw hl hb => ?_⟩
        rcases List.mem_cons.1 hw with e' | hw
        · rw [← e] at e'; cases e'; exact Nat.le_refl _
        · exact absurd ⟨w, r', b', hw, hl, hb⟩ hR
      · exact absurd ⟨j, r, b, h1, h2, h3⟩ hR
theorem getA_cat' {α : Type} {l m : List (Nat × α)} {i : Nat} {x : α} (h : getA (l ++ m) i = some x) : getA l i = some x ∨ (getA l i = none ∧ getA m i = some x) := by
  rw [getA_append] at h
  cases hl : getA l i with
  | some y => rw [hl] at h; exact .inl h
  | none => rw [hl] at h; exact .inr ⟨rfl, h⟩
theorem headH_first {ns : Nat → Bool} {R : List (Nat × HRes)} {i : Nat} {b : Blk} (ho : R.Pairwise fun p q => q.1 < p.1) (h : getA (headH ns R) i = some b) :
    ∃ j r, (j, r) ∈ R ∧ ns j = true ∧ r.b = some (i, b) ∧ ∀ w r' b', (w, r') ∈ R → ns w = true → r'.b = some (i, b') → w ≤ j := by
  induction R with
  | nil => simp [headH, getA] at h
  | cons p R ih =>
    obtain ⟨j0, r0⟩ := p
    obtain ⟨ho1, ho2⟩ := List.pairwise_cons.1 ho
    simp only [headH] at h
    split at h
    · rename_i b0 h1 h2
      obtain ⟨k0, b0⟩ := b0
      simp only [getA] at h
      split at h
      · rename_i e
        subst e; cases h
        refine ⟨j0, r0, by simp, h1, h2, fun w r' b' hw _ _ => ?_⟩
        rcases List.mem_cons.1 hw with e | hw
        · cases e; exact Nat.le_refl _
        · exact Nat.le_of_lt (ho1 _ hw)
      · rename_i hne
        obtain ⟨j, r, g1, g2, g3, g4⟩ := ih ho2 h
        refine ⟨j, r, by simp [g1], g2, g3, fun w r' b' hw hn hb => ?_⟩
        rcases List.mem_cons.1 hw with e | hw
        · cases e; rw [h2] at hb; cases hb; exact absurd rfl hne
        · exact g4 w r' b' hw hn hb
    · rename_i hno
      obtain ⟨j, r, g1, g2, g3, g4⟩ := ih ho2 h
      refine ⟨j, r, by simp [g1], g2, g3, fun w r' b' hw hn hb => ?_⟩
      rcases List.mem_cons.1 hw with e | hw
      · cases e; exact absurd hb (hno _ hn)
      · exact g4 w r' b' hw hn hb
theorem getA_cat {α : Type} {l m : List (Nat × α)} {i : Nat} {x : α} (h : getA (l ++ m) i = some x) : (i, x) ∈ l ∨ (getA l i = none ∧ getA m i = some x) := by
  rw [getA_append] at h
  cases hl : getA l i with
  | some y => rw [hl] at h; cases h; exact .inl (getA_mem hl)
  | none => rw [hl] at h; exact .inr ⟨rfl, h⟩
structure ROk (S0 : St) (ub : List (Nat × Nat)) (ops : Array Oper) (i : Nat) (R : List (Nat × HRes)) : Prop where
  dst : ∀ j r, (j, r) ∈ R → j < i ∧ r.d = dstOf ops j
  uniq : ∀ j r r', (j, r) ∈ R → (j, r') ∈ R → r = r'
  priv : ∀ j r k b, (j, r) ∈ R → r.b = some (k, b) → privB b = true
  place : ∀ j r k b, (j, r) ∈ R → r.b = some (k, b) → k = S0.nx + j ∨ memP ub j k = true
  ord : R.Pairwise fun p q => q.1 < p.1
theorem ROk.two {i : Nat} {R : List (Nat × HRes)} (h : ROk S0 ub ops i R) (hU : ubB m need ub S0.nx = true) {j j' k : Nat} {r r' : HRes} {b b' : Blk} (h1 : (j, r) ∈ R) (h2 : (j', r') ∈ R) (e1 : r.b = some (k, b)) (e2 : r'.b = some (k, b')) :
    j = j' ∨ (k = S0.nx + j ∧ j < j' ∧ j ∈ need.getD j' []) ∨ (k = S0.nx + j' ∧ j' < j ∧ j' ∈ need.getD j []) := by
  rcases h.place j r k b h1 e1 with g1 | g1 <;> rcases h.place j' r' k b' h2 e2 with g2 | g2
  · exact .inl (by omega)
  · rcases ubB_or hU g2 with g | g
    · omega
    · obtain ⟨_, g3⟩ := newB_spec g
      have ek : k - S0.nx = j := by omega
      rw [ek] at g3
      rcases g3 with g3 | g3
      · exact .inl g3
      · exact .inr (.inl ⟨g1, g3⟩)
  · rcases ubB_or hU g1 with g | g
    · omega
    · obtain ⟨_, g3⟩ := newB_spec g
      have ek : k - S0.nx = j' := by omega
      rw [ek] at g3
      rcases g3 with g3 | g3
      · exact .inl g3.symm
      · exact .inr (.inr ⟨g2, g3⟩)
  · exact .inl (ubB_one hU g1 g2)
theorem DInv.lt {R : List (Nat × HRes)} {L : Nat → Prop} (h : DInv E c0 S0 ub m R L F c ρ) (hp : ∀ j r k b, (j, r) ∈ R → r.b = some (k, b) → privB b = true) {a k : Nat} (ha : PB S0 ub R L a) (hk : blkOf ρ a = some k) : k < c.w.heap.size := by
  by_cases hu : ∃ j r b, (j, r) ∈ R ∧ L j ∧ r.b = some (a, b)
  · obtain ⟨j, r, b, h1, h2, h3, h4⟩ := lastOf hu
    exact blkOk_lt (hp j r a b h1 h3) (h.heap j r a b h1 h2 h3 h4 ha.1) k hk
  · obtain ⟨hnk, ha⟩ := ha
    rcases ha with ⟨b, h1, h2⟩ | ⟨l, r, b, h1, h2, h3⟩
    · exact blkOk_lt h2 (h.heap0 a b h1 (fun j r b' g1 g2 g3 => hu ⟨j, r, b', g1, g2, g3⟩) hnk) k hk
    · exact absurd ⟨l, r, b, h1, h2, h3⟩ hu
theorem DInv.ge {R : List (Nat × HRes)} {L : Nat → Prop} (h : DInv E c0 S0 ub m R L F c ρ) (hp : ∀ j r k b, (j, r) ∈ R → r.b = some (k, b) → privB b = true) {a k : Nat} (ha : PB S0 ub R L a) (hk : blkOf ρ a = some k) : c0.mine k := by
  have key : ∀ b, privB b = true → blkOk c0 c ρ a b → c0.mine k := by
    intro b hb h1
    cases b with
    | var n g d =>
      obtain ⟨b, h1, h2, h3⟩ := h1
      simp only [blkOf, h1, Option.some.injEq] at hk
      subst hk; exact h2
    | own E n g z l =>
      obtain ⟨v, h1, h2, h3, _, a, cap, e, _⟩ := h1
      refine h3 k ?_
      unfold blkOf at hk
      rw [h1] at hk
      subst e
      exact hk
    | ownI E n g z l =>
      obtain ⟨v, h1, h2, h3, _, a, cap, e, _⟩ := h1
      refine h3 k ?_
      unfold blkOf at hk
      rw [h1] at hk
      subst e
      exact hk
    | pvar n g d => cases hb
    | pown n g z l => cases hb
    | lent k' n g d =>
      obtain ⟨h1, h2, h3⟩ := h1
      simp only [blkOf, h1, Option.some.injEq] at hk
      subst hk; exact h2
  by_cases hu : ∃ j r b, (j, r) ∈ R ∧ L j ∧ r.b = some (a, b)
  · obtain ⟨j, r, b, h1, h2, h3, h4⟩ := lastOf hu
    exact key b (hp j r a b h1 h3) (h.heap j r a b h1 h2 h3 h4 ha.1)
  · obtain ⟨hnk, ha⟩ := ha
    rcases ha with ⟨b, h1, h2⟩ | ⟨l, r, b, h1, h2, h3⟩
    · exact key b h2 (h.heap0 a b h1 (fun j r b' g1 g2 g3 => hu ⟨j, r, b', g1, g2, g3⟩) hnk)
    · exact absurd ⟨l, r, b, h1, h2, h3⟩ hu
theorem DInv.sim {R : List (Nat × HRes)} {L : Nat → Prop} (h : DInv E c0 S0 ub m R L F c ρ) {ns ban : Nat → Bool} {wr : List Nat} (hwo : ∀ t, t ∉ wr → ∀ j r, (j, r) ∈ R → L j → r.d ≠ some t) (hns : ∀ j, ns j = true → L j) (hH0 : ∀ i b, getA S0.H i = some b → i < S0.nx) (hban : ∀ k, k < S0.nx → ban k = false → ∀ j r b, (j, r) ∈ R → L j → r.b = some (k, b) → ns j = true) (hkill : ∀ k, ban k = false → NK ub R L k) (i : Nat) (ho : R.Pairwise fun p q => q.1 < p.1) (hlast : ∀ j r k b, ban k = false → (j, r) ∈ R → ns j = true → r.b = some (k, b) → ∀ w r' b', (w, r') ∈ R → L w → r'.b = some (k, b') → j < w → ns w = true) :
    Sim E c0 c ρ (viewS S0 wr ns ban R i) F := by
  have hH : ∀ k b, getA (restH ban (headH ns R ++ S0.H)) k = some b → blkOk c0 c ρ k b ∧ (privB b = true → PB S0 ub R L k) := by
    intro k b hb0
    obtain ⟨h1, hb⟩ := restH_get hb0
    rcases getA_cat' hb with hm | ⟨hn, h2⟩
    · obtain ⟨j, r, h3, h2, h4, h5⟩ := headH_first ho hm
      refine ⟨h.heap j r k b h3 (hns j h2) h4 (fun w r' b' hw hl hb' => ?_) (hkill k h1), fun _ => ⟨hkill k h1, .inr ⟨j, r, b, h3, hns j h2, h4⟩⟩⟩
      rcases Nat.lt_or_ge j w with hlt | hge
      · exact h5 w r' b' hw (hlast j r k b h1 h3 h2 h4 w r' b' hw hl hb' hlt) hb'
      · exact hge
    · exact ⟨h.heap0 k b h2 (fun j r b' g1 g2 g3 => headH_none hn j r b' g1 (hban k (hH0 k b h2) h1 j r b' g1 g2 g3) g3) (hkill k h1), fun hp => ⟨hkill k h1, .inl ⟨b, h2, hp⟩⟩⟩
  refine ⟨h.since, h.gl, ?_, fun k b hb => (hH k b hb).1, ?_⟩
  · intro t v ht
    rcases getA_cat ht with hm | ⟨_, hm⟩
    · obtain ⟨j, r, h1, h2, h3, rfl⟩ := headF_mem hm
      exact h.slot j r h1 (hns j h2) t h3
    · obtain ⟨h1, h2⟩ := restF_get hm
      exact h.old t v h2 (hwo t h1)
  · intro a b ba bb k hab ha hb hpa hpb hk
    exact h.sep a b k hab ((hH a ba ha).2 hpa) ((hH b bb hb).2 hpb) hk
def Just (E : Env) (S : St) (ub : List (Nat × Nat)) (i : Nat) (o : Oper) (r : HRes) : Prop :=
  r.d = o.dst ∧ match isCall o.op with
  | some (x, l, Ts) => ∃ f caps vs ws, S.ev E.gv x = some (.fn f caps) ∧ evs E S l Ts = some vs ∧ ((r.b = none ∧ CallOk E f ws r.v [] ∧ ((∀ c ρ us, rdT ρ c (vs ++ caps) us → rdT ro0 c ws us) ∨ (flatV r.v ∧ lookOk E S (vs ++ caps) ws))) ∨
      (∃ T n g z l, r.v = .own S.nx ∧ r.b = some (S.nx, .own T n g z l) ∧ CallOk E f ws (.own 0) [.own T n g z l] ∧ ∀ c ρ us, rdT ρ c (vs ++ caps) us → rdT ro0 c ws us) ∨
      headUpd E S ub i f (vs ++ caps) (fun v id b => r.v = v ∧ r.b = some (id, b)) ∨ headKill E S ub i f (vs ++ caps) (fun b => r.v = .own S.nx ∧ r.b = some (S.nx, b)))
  | none => ∃ cnd v e, opH E S S.nx o.type o.op = some (cnd, v, e) ∧ cnd ∧ ((r.v = v ∧ ((e = .none ∧ r.b = none) ∨ (∃ b, e = .new b ∧ r.b = some (S.nx, b) ∧ privB b = true) ∨ ∃ id b, e = .upd id b ∧ r.b = some (id, b) ∧ privB b = true)) ∨
      (∃ T n g z l, v = .own S.nx ∧ e = .new (.own T n g z l) ∧ r.v = .sl z n g l ∧ r.b = none) ∨
      ∃ id T n g z l, v = .own id ∧ e = .app id (.own T n g z l) ∧ r.v = .own S.nx ∧ r.b = some (S.nx, .own T n g z l) ∧ (memP ub i id && !decide (id = S.nx)) = true)
def TraceOk (E : Env) (S0 : St) (wr : List Nat) (wl : List (Nat × Nat)) (need : List (List Nat)) (ub : List (Nat × Nat)) (ops : Array Oper) (R : List (Nat × HRes)) (i : Nat) : Prop :=
  ∀ o, ops[i]? = some o → ∃ r, (i, r) ∈ R ∧ r.d = o.dst ∧
    ((o.guard = none ∧ Just E (viewS S0 (wrF wl need i wr) (memN (need.getD i [])) (banK ub need i R) R i) ub i o r) ∨
     ∃ j want b rj, o.guard = some (j, want) ∧ j ∈ need.getD i [] ∧ (j, rj) ∈ R ∧ rj.d ≠ none ∧ gb rj.v = some b ∧ ((b = some want ∧ Just E (viewS S0 (wrF wl need i wr) (memN (need.getD i [])) (banK ub need i R) R i) ub i o r) ∨ (b ≠ some want ∧ r.v = .tup [] ∧ r.b = none)))
def DidTo (c0 c : Cx) (S0 : St) (ub : List (Nat × Nat)) (R : List (Nat × HRes)) (L : Nat → Prop) (i : Nat) (b : Option (Nat × Blk)) (c' : Cx) (ρ ρ' : Ro) (o : Option Nat) : Prop :=
  (b = none ∧ o = none ∧ ρ' = ρ) ∨ (∃ x, b = some (S0.nx + i, x) ∧ o = none ∧ blkOk c0 c' ρ' (S0.nx + i) x ∧ ∀ k, blkOf ρ' (S0.nx + i) = some k → c.w.heap.size ≤ k) ∨
    (∃ id x, b = some (id, x) ∧ True ∧ o = blkOf ρ id ∧ ρ' = ρ ∧ blkOk c0 c' ρ id x ∧ PB S0 ub R L id) ∨
    ∃ id x, b = some (S0.nx + i, x) ∧ memP ub i id = true ∧ id ≠ S0.nx + i ∧ o = blkOf ρ id ∧ blkOk c0 c' ρ' (S0.nx + i) x ∧ (∀ k, blkOf ρ' (S0.nx + i) = some k → blkOf ρ id = some k ∨ c.w.heap.size ≤ k) ∧ PB S0 ub R L id
theorem DInv.next {R : List (Nat × HRes)} {L : Nat → Prop} (h : DInv E c0 S0 ub m R L F c ρ) (hU : ubB m need ub S0.nx = true) (hR : ROk S0 ub ops m R) {i : Nat} (him : i < m) {r : HRes} (hr : (i, r) ∈ R)
    (hdist : ∀ j r' t, (j, r') ∈ R → j ≠ i → r'.d = some t → r.d ≠ some t) (hnL : ¬ L i) (hnw : ∀ j r' k b b', (j, r') ∈ R → L j → r'.b = some (k, b') → r.b = some (k, b) → j < i) {c' : Cx} {ρ' : Ro} {o : Option Nat} (hch : c.chg o c') (hro : ∀ k, k ≠ S0.nx + i → ρ' k = ρ k) (hn : ρ (S0.nx + i) = none)
    (hdid : DidTo c0 c S0 ub R L i r.b c' ρ ρ' o) {u : Value} (hv : rd ρ' c' r.v u) :
    DInv E c0 S0 ub m R (fun j => j = i ∨ L j) (updO F r.d u) c' ρ' := by
  have hrl := roLe_new hn hro
  have hpriv := hR.priv
  have hupd : ∀ t, r.d ≠ some t → updO F r.d u t = F t := by
    intro t ht
    cases hd : r.d with
    | none => rfl
    | some d => exact upd_ne _ _ (by rintro rfl; exact ht hd)
  -- what the operation may have turned is a block of the call's own
  have hoge : ∀ k, o = some k → c0.mine k := by
    intro k hk
    rcases hdid with ⟨_, e, _⟩ | ⟨x, _, e, _⟩ | ⟨id, x, _, _, e, _, _, hpb⟩ | ⟨id, x, _, _, _, e, _, _, hpb⟩
    · rw [e] at hk; cases hk
    · rw [e] at hk; cases hk
    · rw [e] at hk; exact h.ge hpriv hpb hk
    · rw [e] at hk; exact h.ge hpriv hpb hk
  -- another block stays as it was
  have stay : ∀ k b, (privB b = true → PB S0 ub R L k) → (∀ x, r.b ≠ some (k, x)) → (∀ y, memP ub i k = true → k ≠ S0.nx + i → r.b ≠ some (S0.nx + i, y)) → blkOk c0 c ρ k b → blkOk c0 c' ρ' k b := by
    intro k b hpb hne hkl hb
    refine blkOk_ro hrl (blkOk_chg hch (fun hp x hx => ?_) hb)
    rcases hdid with ⟨_, e, _⟩ | ⟨y, _, e, _⟩ | ⟨id, y, e1, _, e2, _, _, hpi⟩ | ⟨id, y, e1, e3, e4, e2, _, _, hpi⟩
    rotate_right
    · rw [e2]
      intro hx'
      have hki : id ≠ k := by rintro rfl; exact hkl y e3 e4 e1
      exact h.sep id k x hki hpi (hpb hp) hx' hx
    · rw [e]; exact fun e => by cases e
    · rw [e]; exact fun e => by cases e
    · rw [e2]
      intro hx'
      have hki : id ≠ k := by rintro rfl; exact hne y e1
      exact h.sep id k x hki hpi (hpb hp) hx' hx
  refine ⟨h.since.chg hch hoge, h.gl.mono hch.pub, ?_, ?_, ?_, ?_, ?_, ?_⟩
  · intro j r' hj hL t ht
    by_cases e : j = i
    · subst e
      have := hR.uniq j r' r hj hr
      subst this
      rw [ht]
      simpa [updO, upd_same] using hv
    · rw [hupd t (hdist j r' t hj e ht)]
      exact rd_ro hrl (rd_mono hch.pub (h.slot j r' hj (hL.resolve_left e) t ht))
  · intro t v ht hno
    rw [hupd t (fun e => hno i r hr (.inl rfl) e)]
    exact rd_ro hrl (rd_mono hch.pub (h.old t v ht fun j r' g1 g2 => hno j r' g1 (.inr g2)))
  · intro j r' k b hj hL hb' hla hnk
    by_cases e : j = i
    · subst e
      have := hR.uniq j r' r hj hr
      subst this
      rcases hdid with ⟨e, _⟩ | ⟨y, e, _, h2, _⟩ | ⟨id, y, e, _, _, e2, h2, _⟩ | ⟨id, y, e, _, _, _, h2, _⟩
      · rw [e] at hb'; cases hb'
      · rw [e] at hb'; cases hb'; exact h2
      · rw [e] at hb'; cases hb'; rw [e2]; exact h2
      · rw [e] at hb'; cases hb'; exact h2
    · have hLj := hL.resolve_left e
      have hnk' : NK ub R L k := fun j r' g1 g2 => hnk j r' g1 (.inr g2)
      exact stay k b (fun _ => ⟨hnk', .inr ⟨j, r', b, hj, hLj, hb'⟩⟩) (fun x hx => by
        have h1 := hla i r x hr (.inl rfl) hx
        have h2 := hnw j r' k x b hj hLj hb' hx
        omega) (fun y hy hkx he => by
        have := hnk i r hr (.inl rfl)
        rw [he] at this
        simp only [killsB, hy, Bool.true_and, Bool.not_eq_false', decide_eq_true_eq] at this
        omega) (h.heap j r' k b hj hLj hb' (fun w r2 b2 hw hl => hla w r2 b2 hw (.inr hl)) hnk')
  · intro k b hb' hno hnk
    have hne : ∀ x, r.b ≠ some (k, x) := fun x => hno i r x hr (.inl rfl)
    exact stay k b (fun hp => ⟨fun j r' g1 g2 => hnk j r' g1 (.inr g2), .inl ⟨b, hb', hp⟩⟩) hne (fun y hy hkx he => by
      have := hnk i r hr (.inl rfl)
      rw [he] at this
      simp only [killsB, hy, Bool.true_and, Bool.not_eq_false', decide_eq_true_eq] at this
      omega) (h.heap0 k b hb' (fun j r' b' g1 g2 => hno j r' b' g1 (.inr g2)) fun j r' g1 g2 => hnk j r' g1 (.inr g2))
  · -- blocks lie apart
    have old : ∀ a k, a ≠ S0.nx + i → PB S0 ub R (fun j => j = i ∨ L j) a → blkOf ρ' a = some k → PB S0 ub R L a ∧ blkOf ρ a = some k ∧ k < c.w.heap.size := by
      intro a k ha hc hk
      rw [blkOf_eq (hro a ha)] at hk
      have hpa : PB S0 ub R L a := by
        obtain ⟨hnk, hc⟩ := hc
        have hnk' : NK ub R L a := fun j r' g1 g2 => hnk j r' g1 (.inr g2)
        rcases hc with ⟨b, h1, h2⟩ | ⟨l, r', b, h1, h2, h3⟩
        · exact ⟨hnk', .inl ⟨b, h1, h2⟩⟩
        · by_cases e : l = i
          · subst e
            have := hR.uniq l r' r h1 hr
            subst this
            rcases hdid with ⟨e, _⟩ | ⟨y, e, _⟩ | ⟨id, y, e, _, _, _, _, hpb⟩ | ⟨id, y, e, _⟩
            · rw [e] at h3; cases h3
            · rw [e] at h3; cases h3; exact absurd rfl ha
            · rw [e] at h3; cases h3; exact hpb
            · rw [e] at h3; cases h3; exact absurd rfl ha
          · exact ⟨hnk', .inr ⟨l, r', b, h1, h2.resolve_left e, h3⟩⟩
      exact ⟨hpa, hk, h.lt hpriv hpa hk⟩
    have new : ∀ k, blkOf ρ' (S0.nx + i) = some k → c.w.heap.size ≤ k ∨ ∃ id, blkOf ρ id = some k ∧ PB S0 ub R L id ∧ ¬ PB S0 ub R (fun j => j = i ∨ L j) id := by
      intro k hk
      rcases hdid with ⟨_, _, e⟩ | ⟨y, _, _, _, h2⟩ | ⟨id, y, _, _, _, e, _⟩ | ⟨id, y, e1, e2, e3, _, _, h2, hpb⟩
      · rw [e] at hk; unfold blkOf at hk; rw [hn] at hk; cases hk
      · exact .inl (h2 k hk)
      · rw [e] at hk; unfold blkOf at hk; rw [hn] at hk; cases hk
      · rcases h2 k hk with h2 | h2
        · refine .inr ⟨id, h2, hpb, ?_⟩
          rintro ⟨g3, _⟩
          have := g3 i r hr (.inl rfl)
          rw [e1] at this
          simp only [killsB, e2, Bool.true_and, Bool.not_eq_false', decide_eq_true_eq] at this
          omega
        · exact .inl h2
    intro a b k hab ha hb' hk hk'
    by_cases e1 : a = S0.nx + i
    · have e2 : b ≠ S0.nx + i := by omega
      obtain ⟨h4, h5, h3⟩ := old b k e2 hb' hk'
      rw [e1] at hk
      rcases new k hk with h6 | ⟨id, h6, h7, h8⟩
      · omega
      · exact h.sep id b k (fun e => h8 (e ▸ hb')) h7 h4 h6 h5
    · obtain ⟨h1, h2, h3⟩ := old a k e1 ha hk
      by_cases e2 : b = S0.nx + i
      · rw [e2] at hk'
        rcases new k hk' with h6 | ⟨id, h6, h7, h8⟩
        · omega
        · exact h.sep id a k (fun e => h8 (e ▸ ha)) h7 h1 h6 h2
      · obtain ⟨h4, h5, _⟩ := old b k e2 hb' hk'
        exact h.sep a b k hab h1 h4 h2 h5
  · intro k hk hne
    have h1 : k ≠ S0.nx + i := hne i him (.inl rfl)
    rw [hro k h1]
    exact h.fresh k hk (fun j hm hj => hne j hm (.inr hj))
theorem wrF_not {wl : List (Nat × Nat)} {need : List (List Nat)} {i t : Nat} : ∀ {wr : List Nat}, t ∈ wr → t ∉ wrF wl need i wr → ∃ w, (w, t) ∈ wl ∧ i ∈ need.getD w []
  | [], h, _ => by cases h
  | x :: l, h, hn => by
    simp only [wrF] at hn
    have key : lateF wl need i t = true → ∃ w, (w, t) ∈ wl ∧ i ∈ need.getD w [] := by
      clear hn h
      induction wl with
      | nil => intro h; cases h
      | cons q wl ih =>
        obtain ⟨w, k⟩ := q
        intro h
        simp only [lateF, Bool.or_eq_true, Bool.and_eq_true, decide_eq_true_eq] at h
        rcases h with ⟨rfl, h2⟩ | h
        · exact ⟨w, by simp, memN_iff.1 h2⟩
        · obtain ⟨w', h1, h2⟩ := ih h; exact ⟨w', by simp [h1], h2⟩
    split at hn
    · rename_i hl
      rcases List.mem_cons.1 h with rfl | h
      · exact key hl
      · exact wrF_not h hn
    · simp only [List.mem_cons, not_or] at hn
      rcases List.mem_cons.1 h with rfl | h
      · exact absurd rfl hn.1
      · exact wrF_not h hn.2
theorem wlB_spec {m : Nat} {wl : List (Nat × Nat)} (h : wlB ops m wl = true) {w t : Nat} (hm : (w, t) ∈ wl) : w < m ∧ dstOf ops w = some t := by
  have := List.all_eq_true.1 h (w, t) hm
  simpa using this
theorem step_draw (hE : EnvOk E) (hwl : wlB ops m wl = true) (hW : writeB ops m wr = true) (hU : ubB m need ub S0.nx = true) {R : List (Nat × HRes)} (hR : ROk S0 ub ops m R) (hH0 : ∀ i b, getA S0.H i = some b → i < S0.nx)
    (hT : ∀ i, i < m → TraceOk E S0 wr wl need ub ops R i) : StepOb E.P ops need m (fun L F w => ∃ c ρ, c.w = w ∧ DInv E c0 S0 ub m R L F c ρ) := by
  rintro L F w i o ⟨c, ρ, rfl, hI⟩ him ho hneedL hafter hnL K hK
  obtain ⟨r, hr, hd, hj⟩ := hT i him o ho
  have hfr : ρ (S0.nx + i) = none := hI.fresh _ (by omega) (fun j _ hj => by
    intro e
    have : i = j := by omega
    subst this; exact hnL hj)
  have hdist : ∀ j r' t, (j, r') ∈ R → j ≠ i → r'.d = some t → r.d ≠ some t := by
    intro j r' t h1 h2 h3 h4
    obtain ⟨h5, h6⟩ := hR.dst j r' h1
    obtain ⟨h7, h8⟩ := hR.dst i r hr
    exact writeB_ne hW h7 h5 (Ne.symm h2) (h8 ▸ h4) (h6 ▸ h3)
  have hwo : ∀ t, t ∉ wrF wl need i wr → ∀ j r', (j, r') ∈ R → L j → r'.d ≠ some t := by
    intro t ht j r' hj hL hd'
    obtain ⟨h5, h6⟩ := hR.dst j r' hj
    obtain ⟨w, h7, h8⟩ := wrF_not (writeB_spec hW h5 (h6 ▸ hd')).1 ht
    obtain ⟨h9, h10⟩ := wlB_spec hwl h7
    have hjw : j = w := Classical.byContradiction fun hne => writeB_ne hW h5 h9 hne (h6 ▸ hd') h10
    subst hjw
    exact absurd hL (hafter j h5 h8)
  have hns : ∀ j, memN (need.getD i []) j = true → L j := fun j hj => hneedL j (memN_iff.1 hj)
  have hban : ∀ k, k < S0.nx → banK ub need i R k = false → ∀ j r b, (j, r) ∈ R → L j → r.b = some (k, b) → memN (need.getD i []) j = true := by
    intro k hkn hk0 j r' b hj hL hb
    have hk := (banK_false hk0).1
    obtain ⟨hjm, _⟩ := hR.dst j r' hj
    have hji : j ≠ i := by rintro rfl; exact hnL hL
    rcases hR.place j r' k b hj hb with e | hm
    · omega
    · rcases banF_false hk hm with e | e | e
      · exact absurd e hji
      · exact memN_iff.2 e
      · exact absurd hL (hafter j hjm e)
  have hlast : ∀ j r k b, banK ub need i R k = false → (j, r) ∈ R → memN (need.getD i []) j = true → r.b = some (k, b) → ∀ w r' b', (w, r') ∈ R → L w → r'.b = some (k, b') → j < w → memN (need.getD i []) w = true := by
    intro j r1 k b hbn hj hn hb w r' b' hw hl hb' hlt
    rcases hR.place w r' k b' hw hb' with e | hm
    · rcases hR.two hU hj hw hb hb' with e | ⟨e1, e2⟩ | ⟨e1, e2⟩
      · omega
      · omega
      · omega
    · rcases banF_false (banK_false hbn).1 hm with e | e | e
      · subst e; exact absurd hl hnL
      · exact memN_iff.2 e
      · exact absurd hl (hafter w (hR.dst w r' hw).1 e)
  have hnw : ∀ j r' k b b', (j, r') ∈ R → L j → r'.b = some (k, b') → r.b = some (k, b) → j < i := by
    intro j r' k b b' hj hl hb' hb
    rcases hR.two hU hj hr hb' hb with e | ⟨e1, e2⟩ | ⟨e1, e2⟩
    · subst e; exact absurd hl hnL
    · exact e2.1
    · exact absurd hl (hafter j (hR.dst j r' hj).1 e2.2)
  have hkill : ∀ k, banK ub need i R k = false → NK ub R L k := by
    intro k hk0 j r' hj hL
    obtain ⟨hk, hkf⟩ := banK_false hk0
    cases hb : killsB ub j r'.b k with
    | false => rfl
    | true =>
      obtain ⟨hjm, _⟩ := hR.dst j r' hj
      have hji : j ≠ i := by rintro rfl; exact hnL hL
      rcases banF_false hk (killsB_mem hb) with e | e | e
      · exact absurd e hji
      · have := killF_false hkf j r' hj (memN_iff.2 e)
        rw [hb] at this; cases this
      · exact absurd hL (hafter j hjm e)
  have hsim := hI.sim hwo hns hH0 hban hkill i hR.ord hlast
  have exec : Just E (viewS S0 (wrF wl need i wr) (memN (need.getD i [])) (banK ub need i R) R i) ub i o r → Yields E.P (fun v w' => K (updO F o.dst v) w') (run E.P F o c.w) := by
    rintro ⟨_, hju⟩
    split at hju
    · rename_i x l Ts hi
      obtain ⟨f, caps, vs, ws, hx, hvs, hres⟩ := hju
      have hop : ∃ cl, o.op = .call cl ∧ cl.callee = .value x ∧ cl.args.toList = l := by
        unfold isCall at hi
        split at hi
        · rename_i cl ho'
          split at hi
          · rename_i y hy
            simp only [Option.some.injEq, Prod.mk.injEq] at hi
            obtain ⟨rfl, h2, _⟩ := hi
            exact ⟨cl, ho', hy, h2⟩
          · cases hi
        · cases hi
      obtain ⟨cl, ho', hcl, rfl⟩ := hop
      have hf := ev_rd hsim hx
      simp only [rd] at hf
      obtain ⟨cap, hf, hcap⟩ := hf
      have hus := rdT_append (evs_rd hsim hvs) hcap
      rcases hres with ⟨hb, hc, hlook⟩ | ⟨T, n, g, z, ll, hrv, hb, hc, hgive⟩ | ⟨hent, rv, id, b, hmem, hpb, ⟨b0, hb0, hp0⟩, hcalls, hrv, hrb⟩ | ⟨hent, id, T, n, g, z, ll, hmem, ⟨b0, hb0, hp0⟩, hcalls, hrv, hrb⟩
      case inr.inr.inl =>
        rw [run_callv (F := F) (w := c.w) ho' hcl hf hent]
        refine (hcalls c0 c ρ F _ hsim hus).mono ?_
        rintro e w' ⟨u, c', rfl, rfl, hch, hbk, hrd⟩
        refine ⟨u, rfl, hK _ _ ⟨c', ρ, rfl, ?_⟩⟩
        rw [← hd]
        have hpb' : PB S0 ub R L id := by
          obtain ⟨hbn, hb9⟩ := restH_get hb0
          rcases getA_cat hb9 with hm | ⟨_, hm⟩
          · obtain ⟨j, r', g1, g2, g3⟩ := headH_mem hm
            exact ⟨hkill id hbn, .inr ⟨j, r', b0, g1, hns j g2, g3⟩⟩
          · exact ⟨hkill id hbn, .inl ⟨b0, hm, hp0⟩⟩
        exact hI.next hU hR him hr hdist hnL hnw hch (fun _ _ => rfl) hfr (.inr (.inr (.inl ⟨id, b, hrb, trivial, rfl, rfl, hbk, hpb'⟩))) (by rw [hrv]; exact hrd)
      case inr.inr.inr =>
        simp only [Bool.and_eq_true, decide_eq_true_eq] at hmem
        have hidn : id ≠ S0.nx + i := by have := hmem.2; simpa [viewS] using this
        rw [run_callv (F := F) (w := c.w) ho' hcl hf hent]
        refine (hcalls c0 c ρ F _ hsim hus).mono ?_
        rintro e w' ⟨u, c', rfl, rfl, hch, hown, hbl, hone, a, cap, es, hz⟩
        have hat : roSet ρ (S0.nx + i) u (S0.nx + i) = some u := roSet_same
        have hbo : blkOf (roSet ρ (S0.nx + i) u) (S0.nx + i) = blk u := by simp only [blkOf, hat]; rw [es]
        have hpb' : PB S0 ub R L id := by
          obtain ⟨hbn, hb9⟩ := restH_get hb0
          rcases getA_cat hb9 with hm | ⟨_, hm⟩
          · obtain ⟨j, r', g1, g2, g3⟩ := headH_mem hm
            exact ⟨hkill id hbn, .inr ⟨j, r', b0, g1, hns j g2, g3⟩⟩
          · exact ⟨hkill id hbn, .inl ⟨b0, hm, hp0⟩⟩
        refine ⟨u, rfl, hK _ _ ⟨c', roSet ρ (S0.nx + i) u, rfl, ?_⟩⟩
        rw [← hd]
        refine hI.next hU hR him hr hdist hnL hnw hch (fun k hk => roSet_ne hk) hfr (.inr (.inr (.inr ⟨id, _, hrb, hmem.1, hidn, rfl, ⟨u, hat, hown, fun k hk => ?_, hone, a, cap, es, hz⟩, fun k hk => hbl k (hbo ▸ hk), hpb'⟩))) ?_
        · rcases hbl k hk with h1 | h1
          · exact hI.ge hR.priv hpb' h1
          · exact .inl (Nat.le_trans hI.since.size h1)
        · rw [hrv]
          simp only [rd]
          exact ⟨hat, by rw [es]; rfl⟩
      case inr.inl =>
        rw [run_callv (F := F) (w := c.w) ho' hcl hf hc.1]
        refine (show Calls E.P f _ c.w _ from hc.2 c.noY _ rfl (hI.gl.mono (Cx.pub_noY c)) (rdT_mono (Cx.pub_noY c) (hgive c ρ _ hus))).mono ?_
        rintro e w' ⟨v, c', ρr, rfl, rfl, hle', hrd, hH⟩
        have hle : c.le c' := ⟨hle'.below, hle'.old⟩
        obtain ⟨v', hv, hown, hge, hone, a, cap, es, hz⟩ := (hH.1 0 _ rfl).2
        simp only [rd] at hrd
        have e : v' = v := by have := hrd.1; rw [hv] at this; exact Option.some.inj this
        subst e
        have hat : roSet ρ (S0.nx + i) v' (S0.nx + i) = some v' := roSet_same
        refine ⟨v', rfl, hK _ _ ⟨c', roSet ρ (S0.nx + i) v', rfl, ?_⟩⟩
        rw [← hd]
        refine hI.next hU hR him hr hdist hnL hnw hle.chg (fun k hk => roSet_ne hk) hfr (.inr (.inl ⟨_, hb, rfl, ⟨v', hat, hown, fun k hk => .inl (Nat.le_trans hI.since.size (Cx.noY_mine (hge k hk))), hone, a, cap, es, hz⟩, fun k hk => ?_⟩)) ?_
        · simp only [blkOf, hat] at hk
          rw [es] at hk
          exact Cx.noY_mine (hge k (by rw [es]; exact hk))
        · rw [hrv]
          simp only [rd]
          exact ⟨hat, hrd.2⟩
      rw [run_callv (F := F) (w := c.w) ho' hcl hf hc.1]
      rcases hlook with hgive | ⟨hfl, hlk⟩
      · refine (show Calls E.P f _ c.w _ from hc.2 c.noY _ rfl (hI.gl.mono (Cx.pub_noY c)) (rdT_mono (Cx.pub_noY c) (hgive c ρ _ hus))).mono ?_
        rintro e w' ⟨v, c', ρr, rfl, rfl, hle', hrd, hH⟩
        have hle : c.le c' := ⟨hle'.below, hle'.old⟩
        refine ⟨v, rfl, hK _ _ ⟨c', ρ, rfl, ?_⟩⟩
        rw [← hd]
        refine hI.next hU hR him hr hdist hnL hnw hle.chg (fun _ _ => rfl) hfr (.inl ⟨hb, rfl, rfl⟩) ?_
        refine rd_ro (fun k v hk => ?_) hrd
        exact absurd (hH.2.1 k (Nat.zero_le _)) (by rw [hk]; simp)
      · have hrd := hlk c0 c ρ F _ hsim hus
        have hpb := pub_base hsim
        refine (show Calls E.P f _ c.w _ from hc.2 (c0.base c hsim.since.size) _ rfl (hI.gl.mono hpb) hrd).mono ?_
        rintro e w' ⟨v, c', ρr, rfl, rfl, hle, hrd, hH⟩
        have hbl : Below c.w.heap.size c.w c'.w := hle.below
        refine ⟨v, rfl, hK _ _ ⟨c.at c'.w hbl.size, ρ, rfl, ?_⟩⟩
        rw [← hd]
        exact hI.next hU hR him hr hdist hnL hnw (Cx.le_at hbl).chg (fun _ _ => rfl) hfr (.inl ⟨hb, rfl, rfl⟩) (flat_rd hfl hrd)
    · obtain ⟨cnd, vv, e, hop, hc, he⟩ := hju
      refine (opH_sound hE hsim hfr hop hc).mono ?_
      rintro u w' ⟨c', ρ', rfl, hpre, hrel, hrd⟩
      rcases he with ⟨hrv, ⟨rfl, hb⟩ | ⟨b, rfl, hb, hp⟩ | ⟨id, b, rfl, hb, hp⟩⟩ | ⟨T, n, g, z, ll, rfl, rfl, hrv, hrb⟩ | ⟨id, T, n, g, z, ll, rfl, rfl, hrv, hrb, hmem⟩
      rotate_right
      · simp only [Bool.and_eq_true, decide_eq_true_eq] at hmem
        have hidn : id ≠ S0.nx + i := by have := hmem.2; simpa [viewS] using this
        obtain ⟨h1, h2, h3, h4⟩ := hrel
        obtain ⟨b1, hb1, hp1, _⟩ := hpre
        have hpb' : PB S0 ub R L id := by
          obtain ⟨hbn, hb9⟩ := restH_get hb1
          rcases getA_cat hb9 with hm | ⟨_, hm⟩
          · obtain ⟨j, r', g1, g2, g3⟩ := headH_mem hm
            exact ⟨hkill id hbn, .inr ⟨j, r', b1, g1, hns j g2, g3⟩⟩
          · exact ⟨hkill id hbn, .inl ⟨b1, hm, hp1⟩⟩
        obtain ⟨u', e1, hown, hge, hone, a, cap, es, hz⟩ := h3
        simp only [rd] at hrd
        have eu : u' = u := by rw [hrd.1] at e1; exact (Option.some.inj e1).symm
        subst eu
        have hat : roSet ρ (S0.nx + i) u' (S0.nx + i) = some u' := roSet_same
        have hbo : blkOf (roSet ρ (S0.nx + i) u') (S0.nx + i) = blk u' := by simp only [blkOf, hat]; rw [es]
        have hbi : blkOf ρ' id = blk u' := by unfold blkOf; rw [e1, es]
        refine hK _ _ ⟨c', roSet ρ (S0.nx + i) u', rfl, ?_⟩
        rw [← hd]
        refine hI.next hU hR him hr hdist hnL hnw h1 (fun k hk => roSet_ne hk) hfr (.inr (.inr (.inr ⟨id, _, hrb, hmem.1, hidn, rfl, ⟨u', hat, hown, hge, hone, a, cap, es, hz⟩, fun k hk => h4 k (by rw [hbi, ← hbo]; exact hk), hpb'⟩))) ?_
        rw [hrv]
        simp only [rd]
        exact ⟨hat, hrd.2⟩
      rotate_right
      · obtain ⟨h1, h2, h3, h4⟩ := hrel
        obtain ⟨u', e1, hown, hge, hone, a, cap, es, hz⟩ := h3
        simp only [rd] at hrd
        have eu : u' = u := Option.some.inj (e1.symm.trans hrd.1)
        subst eu
        have hbo : blkOf ρ' (S0.nx + i) = blk u' := by
          unfold blkOf
          rw [show ρ' (S0.nx + i) = some u' from e1, es]
        have hle2 : c.le (c'.dropv u') := le_dropv h1 (fun g hg => h4 g (by rw [← hbo] at hg; exact hg))
        refine hK _ _ ⟨c'.dropv u', ρ, rfl, ?_⟩
        rw [← hd]
        refine hI.next hU hR him hr hdist hnL hnw hle2.chg (fun _ _ => rfl) hfr (.inl ⟨hrb, rfl, rfl⟩) ?_
        rw [hrv]
        obtain ⟨a', cap', e5, g1, g2⟩ := slice_val.1 hown.val
        rw [es] at e5; cases e5
        exact rd_sl.2 ⟨a, cap, es, g1, hz, g2⟩
      all_goals (refine hK _ _ ⟨c', ρ', rfl, ?_⟩; rw [← hd])
      all_goals (rw [← hrv] at hrd)
      · obtain ⟨rfl, rfl⟩ := hrel
        exact hI.next hU hR him hr hdist hnL hnw (Cx.le.refl _).chg (fun _ _ => rfl) hfr (.inl ⟨hb, rfl, rfl⟩) hrd
      · obtain ⟨h1, h2, h3, h4⟩ := hrel
        exact hI.next hU hR him hr hdist hnL hnw h1.chg h2 hfr (.inr (.inl ⟨b, hb, rfl, h3, h4⟩)) hrd
      · obtain ⟨h1, rfl, h3⟩ := hrel
        obtain ⟨b1, hb1, hp1, _⟩ := hpre
        have hpb : PB S0 ub R L id := by
          obtain ⟨hbn, hb9⟩ := restH_get hb1
          rcases getA_cat hb9 with hm | ⟨_, hm⟩
          · obtain ⟨j, r', g1, g2, g3⟩ := headH_mem hm
            exact ⟨hkill id hbn, .inr ⟨j, r', b1, g1, hns j g2, g3⟩⟩
          · exact ⟨hkill id hbn, .inl ⟨b1, hm, hp1⟩⟩
        rcases hR.place i r id b hr hb with e | hm
        · -- a block that is not there yet
          exfalso
          have h5 := hsim.heap _ _ hb1
          have h6 : ρ' id = none := by rw [e]; exact hfr
          cases b1 <;> first | (obtain ⟨_, h5, _⟩ := h5; rw [h6] at h5; cases h5) | (obtain ⟨h5, _⟩ := h5; rw [h6] at h5; cases h5)
        · exact hI.next hU hR him hr hdist hnL hnw h1 (fun _ _ => rfl) hfr (.inr (.inr (.inl ⟨id, b, hb, trivial, rfl, rfl, h3, hpb⟩))) hrd
  rcases hj with ⟨hg, hju⟩ | ⟨j, want, b, rj, hg, hjn, hrj, hdj, hvj, hj⟩
  · have : guardB ops F o = true := by simp [guardB, hg]
    rw [if_pos this]
    exact exec hju
  · have hgb : guardB ops F o = (b == some want) := by
      obtain ⟨h5, h6⟩ := hR.dst j rj hrj
      cases hdd : rj.d with
      | none => exact absurd hdd hdj
      | some t =>
        have hv := hI.slot j rj hrj (hneedL j hjn) t hdd
        rw [hdd] at h6
        simp only [guardB, hg]
        rw [show (ops[j]?).bind (·.dst) = some t from h6.symm]
        unfold gb at hvj
        split at hvj
        · rename_i hb; rw [hb] at hv; cases hvj; simp only [rd] at hv; simp [hv]
        · rename_i hb; rw [hb] at hv; cases hvj; simp only [rd] at hv; obtain ⟨cs, hv, _⟩ := hv; simp [hv]
        · cases hvj
    rcases hj with ⟨hbw, hju⟩ | ⟨hbw, hvu, hbn⟩
    · rw [if_pos (by rw [hgb, hbw]; simp)]
      exact exec hju
    · rw [if_neg (by rw [hgb]; simp [hbw])]
      refine hK _ _ ⟨c, ρ, rfl, ?_⟩
      rw [← hd]
      exact hI.next hU hR him hr hdist hnL hnw (Cx.le.refl _).chg (fun _ _ => rfl) hfr (u := undef) (.inl ⟨hbn, rfl, rfl⟩) (by rw [hvu]; exact ⟨[], rfl, rfl⟩)
theorem headF_skip {ns : Nat → Bool} {R : List (Nat × HRes)} : ∀ {X : List (Nat × HRes)}, (∀ p ∈ X, ns p.1 = false) → headF ns (X ++ R) = headF ns R
  | [], _ => rfl
  | (j, r) :: X, h => by
    have hj : ns j = false := h (j, r) (by simp)
    simp only [List.cons_append, headF, hj]
    exact headF_skip (fun p hp => h p (by simp [hp]))
theorem headH_skip {ns : Nat → Bool} {R : List (Nat × HRes)} : ∀ {X : List (Nat × HRes)}, (∀ p ∈ X, ns p.1 = false) → headH ns (X ++ R) = headH ns R
  | [], _ => rfl
  | (j, r) :: X, h => by
    have hj : ns j = false := h (j, r) (by simp)
    simp only [List.cons_append, headH, hj]
    exact headH_skip (fun p hp => h p (by simp [hp]))
theorem killF_skip {ns : Nat → Bool} {k : Nat} : ∀ {X R : List (Nat × HRes)}, (∀ p ∈ X, ns p.1 = false) → killF ub ns (X ++ R) k = killF ub ns R k
  | [], _, _ => rfl
  | (j, r) :: X, R, h => by
    have hj : ns j = false := h (j, r) (by simp)
    simp only [List.cons_append, killF, hj, Bool.false_and, Bool.false_or]
    exact killF_skip fun p hp => h p (by simp [hp])
theorem banK_skip {i : Nat} {X R : List (Nat × HRes)} (h : ∀ p ∈ X, memN (need.getD i []) p.1 = false) : banK ub need i (X ++ R) = banK ub need i R := by
  cases ub with
  | nil => rfl
  | cons p l => funext k; simp only [banK, killF_skip h]
theorem ROk.cons {i : Nat} {R : List (Nat × HRes)} (h : ROk S0 ub ops i R) {r : HRes} (hd : r.d = dstOf ops i) (hp : ∀ k b, r.b = some (k, b) → privB b = true) (hq : ∀ k b, r.b = some (k, b) → k = S0.nx + i ∨ memP ub i k = true) : ROk S0 ub ops (i + 1) ((i, r) :: R) := by
  refine ⟨?_, ?_, ?_, ?_, List.pairwise_cons.2 ⟨fun p hp => (h.dst p.1 p.2 hp).1, h.ord⟩⟩
  · intro j r' hj
    rcases List.mem_cons.1 hj with e | hj
    · cases e; exact ⟨by omega, hd⟩
    · have := h.dst j r' hj; exact ⟨by omega, this.2⟩
  · intro j r1 r2 h1 h2
    rcases List.mem_cons.1 h1 with e1 | h1 <;> rcases List.mem_cons.1 h2 with e2 | h2
    · cases e1; cases e2; rfl
    · cases e1; have := (h.dst _ _ h2).1; omega
    · cases e2; have := (h.dst _ _ h1).1; omega
    · exact h.uniq j r1 r2 h1 h2
  · intro j r' k b hj hb
    rcases List.mem_cons.1 hj with e | hj
    · cases e; exact hp k b hb
    · exact h.priv j r' k b hj hb
  · intro j r' k b hj hb
    rcases List.mem_cons.1 hj with e | hj
    · cases e; exact hq k b hb
    · exact h.place j r' k b hj hb
def placeR (S : St) (ub : List (Nat × Nat)) (i : Nat) (r : HRes) : Prop := ∀ k b, r.b = some (k, b) → privB b = true ∧ (k = S.nx ∨ memP ub i k = true)
theorem headStep_just {S : St} {i : Nat} {o : Oper} {K : HRes → Prop} (h : headStep E S ub i o K) : ∃ r, Just E S ub i o r ∧ K r ∧ placeR S ub i r := by
  unfold headStep at h
  split at h
  · rename_i x l Ts hi
    unfold headCall at h
    split at h
    · rename_i f caps vs hx hvs
      rcases h with (⟨ws, r, hc, hl, hk⟩ | ⟨ws, T, n, g, z, ll, hc, hl, hk⟩) | ⟨hent, r, id, b, hm, hp, hb0, hcalls, hk⟩ | ⟨hent, id, T, n, g, z, ll, hm, hb0, hcalls, hk⟩
      · refine ⟨⟨o.dst, r, none⟩, ⟨rfl, ?_⟩, hk, fun k b hb => by cases hb⟩
        rw [hi]
        exact ⟨f, caps, vs, ws, hx, hvs, .inl ⟨rfl, hc, hl⟩⟩
      · refine ⟨⟨o.dst, .own S.nx, some (S.nx, .own T n g z ll)⟩, ⟨rfl, ?_⟩, hk, fun k b hb => by cases hb; exact ⟨rfl, .inl rfl⟩⟩
        rw [hi]
        exact ⟨f, caps, vs, ws, hx, hvs, .inr (.inl ⟨T, n, g, z, ll, rfl, rfl, hc, hl⟩)⟩
      · refine ⟨⟨o.dst, r, some (id, b)⟩, ⟨rfl, ?_⟩, hk, fun k b' hb => by cases hb; exact ⟨hp, .inr hm⟩⟩
        rw [hi]
        exact ⟨f, caps, vs, [], hx, hvs, .inr (.inr (.inl ⟨hent, r, id, b, hm, hp, hb0, hcalls, rfl, rfl⟩))⟩
      · refine ⟨⟨o.dst, .own S.nx, some (S.nx, .own T n g z ll)⟩, ⟨rfl, ?_⟩, hk, fun k b hb => by cases hb; exact ⟨rfl, .inl rfl⟩⟩
        rw [hi]
        exact ⟨f, caps, vs, [], hx, hvs, .inr (.inr (.inr ⟨hent, id, T, n, g, z, ll, hm, hb0, hcalls, rfl, rfl⟩))⟩
    · exact h.elim
  · rename_i hi
    unfold headRes at h
    split at h
    · rename_i cnd v hop
      refine ⟨⟨o.dst, v, none⟩, ⟨rfl, ?_⟩, h.2 h.1, fun k b hb => by cases hb⟩
      rw [hi]
      exact ⟨cnd, v, .none, hop, h.1, .inl ⟨rfl, .inl ⟨rfl, rfl⟩⟩⟩
    · rename_i cnd v b hop
      split at h
      · unfold pubK at h
        split at h
        · rename_i k T n g z l
          obtain ⟨hk, hc, hK⟩ := h
          simp only [decide_eq_true_eq] at hk
          subst hk
          refine ⟨⟨o.dst, .sl z n g l, none⟩, ⟨rfl, ?_⟩, hK hc, fun k b' hb => by cases hb⟩
          rw [hi]
          exact ⟨cnd, _, _, hop, hc, .inr (.inl ⟨T, n, g, z, l, rfl, rfl, rfl, rfl⟩)⟩
        · exact h.elim
      split at h
      · rename_i hp
        refine ⟨⟨o.dst, v, some (S.nx, b)⟩, ⟨rfl, ?_⟩, h.2 h.1, fun k b' hb => by cases hb; exact ⟨hp, .inl rfl⟩⟩
        rw [hi]
        exact ⟨cnd, v, .new b, hop, h.1, .inl ⟨rfl, .inr (.inl ⟨b, rfl, rfl, hp⟩)⟩⟩
      · exact h.elim
    · rename_i cnd v id b hop
      split at h
      · rename_i hp
        simp only [Bool.and_eq_true] at hp
        refine ⟨⟨o.dst, v, some (id, b)⟩, ⟨rfl, ?_⟩, h.2 h.1, fun k b' hb => by cases hb; exact ⟨hp.2, .inr hp.1⟩⟩
        rw [hi]
        exact ⟨cnd, v, .upd id b, hop, h.1, .inl ⟨rfl, .inr (.inr ⟨id, b, rfl, rfl, hp.2⟩)⟩⟩
      · exact h.elim
    · rename_i cnd id' id T n g z ll hop
      split at h
      · rename_i hp
        simp only [Bool.and_eq_true, decide_eq_true_eq] at hp
        obtain ⟨rfl, hp⟩ := hp
        refine ⟨⟨o.dst, .own S.nx, some (S.nx, .own T n g z ll)⟩, ⟨rfl, ?_⟩, h.2 h.1, fun k b' hb => by cases hb; exact ⟨rfl, .inl rfl⟩⟩
        rw [hi]
        exact ⟨cnd, _, _, hop, h.1, .inr (.inr ⟨id', T, n, g, z, ll, rfl, rfl, rfl, rfl, by simp only [Bool.and_eq_true]; exact hp⟩)⟩
      · exact h.elim
    · exact h.elim
theorem headGuard_just {ns : Nat → Bool} {R : List (Nat × HRes)} {o : Oper} {A B : Prop} (h : headGuard ns R o A B) :
    (o.guard = none ∧ A) ∨ ∃ j want b rj, o.guard = some (j, want) ∧ ns j = true ∧ (j, rj) ∈ R ∧ rj.d ≠ none ∧ gb rj.v = some b ∧ ((b = some want ∧ A) ∨ (b ≠ some want ∧ B)) := by
  unfold headGuard at h
  split at h
  · rename_i hg; exact .inl ⟨hg, h⟩
  · rename_i j want hg
    split at h
    · rename_i r hns hr
      split at h
      · rename_i t hd
        unfold guardV at h
        split at h
        · rename_i b hb
          simp only [Option.some.injEq] at hb
          refine .inr ⟨j, want, some b, r, hg, hns, getA_mem hr, by simp [hd], by rw [hb]; rfl, ?_⟩
          by_cases e : b = want
          · exact .inl ⟨by rw [e], h.1 e⟩
          · exact .inr ⟨by simp [e], h.2 (by cases b <;> cases want <;> simp_all)⟩
        · rename_i hb
          simp only [Option.some.injEq] at hb
          exact .inr ⟨j, want, none, r, hg, hns, getA_mem hr, by simp [hd], by rw [hb]; rfl, .inr ⟨by simp, h⟩⟩
        · exact h.elim
      · exact h.elim
    · exact h.elim
theorem draw_trace {K : St → Prop} (hneed : ∀ i, i < m → ∀ j ∈ need.getD i [], j < i) :
    ∀ (k i : Nat) (l pre : List Oper) (R : List (Nat × HRes)), ops.toList = pre ++ l → pre.length = i → i + k = m → ROk S0 ub ops i R → drawK E S0 wr wl need ub K k i l R →
      ∃ X l', ROk S0 ub ops m (X ++ R) ∧ (∀ p ∈ X, i ≤ p.1) ∧ (∀ j, i ≤ j → j < m → TraceOk E S0 wr wl need ub ops (X ++ R) j) ∧ (∃ pre', ops.toList = pre' ++ l' ∧ pre'.length = m) ∧ opsK E m (dsR (X ++ R)) l' K (viewS S0 wr allN (endB ub (X ++ R)) (X ++ R) m)
  | 0, i, l, pre, R, hl, hp, hm, hR, hk => by
    obtain rfl : i = m := by omega
    exact ⟨[], l, hR, by simp, fun j h1 h2 => by omega, ⟨pre, hl, hp⟩, hk⟩
  | k + 1, i, [], pre, R, hl, hp, hm, hR, hk => hk.elim
  | k + 1, i, o :: l, pre, R, hl, hp, hm, hR, hk => by
    have ho : ops[i]? = some o := by
      rw [← Array.getElem?_toList, hl, ← hp, List.getElem?_append_right (Nat.le_refl _)]
      simp
    have hdo : o.dst = dstOf ops i := by simp [dstOf, ho]
    -- what is left, behind the entry of this operation
    have rest : ∀ r : HRes, r.d = o.dst → placeR (viewS S0 (wrF wl need i wr) (memN (need.getD i [])) (banK ub need i R) R i) ub i r → drawK E S0 wr wl need ub K k (i + 1) l ((i, r) :: R) →
        ∃ X l', ROk S0 ub ops m (X ++ (i, r) :: R) ∧ (∀ p ∈ X, i + 1 ≤ p.1) ∧ (∀ j, i + 1 ≤ j → j < m → TraceOk E S0 wr wl need ub ops (X ++ (i, r) :: R) j) ∧ (∃ pre', ops.toList = pre' ++ l' ∧ pre'.length = m) ∧ opsK E m (dsR (X ++ (i, r) :: R)) l' K (viewS S0 wr allN (endB ub (X ++ (i, r) :: R)) (X ++ (i, r) :: R) m) :=
      fun r hd hb hk => draw_trace hneed k (i + 1) l (pre ++ [o]) _ (by rw [hl]; simp) (by simp [hp]) (by omega) (hR.cons (hd.trans hdo) (fun k b h => (hb k b h).1) (fun k b h => (hb k b h).2)) hk
    have view : ∀ (r : HRes) (X : List (Nat × HRes)), (∀ p ∈ X, i + 1 ≤ p.1) → viewS S0 (wrF wl need i wr) (memN (need.getD i [])) (banK ub need i (X ++ (i, r) :: R)) (X ++ (i, r) :: R) i = viewS S0 (wrF wl need i wr) (memN (need.getD i [])) (banK ub need i R) R i := by
      intro r X hX
      have hsk : ∀ p ∈ X ++ [(i, r)], memN (need.getD i []) p.1 = false := by
        intro p hp'
        have hge : i ≤ p.1 := by
          rcases List.mem_append.1 hp' with h | h
          · have := hX p h; omega
          · simp at h; subst h; exact Nat.le_refl _
        cases hb : memN (need.getD i []) p.1 with
        | false => rfl
        | true =>
          have := hneed i (by omega) p.1 (memN_iff.1 hb)
          omega
      have e : X ++ (i, r) :: R = (X ++ [(i, r)]) ++ R := by simp
      unfold viewS
      rw [e, headF_skip hsk, headH_skip hsk, banK_skip hsk]
    have fin : ∀ (r : HRes), r.d = o.dst → placeR (viewS S0 (wrF wl need i wr) (memN (need.getD i [])) (banK ub need i R) R i) ub i r → drawK E S0 wr wl need ub K k (i + 1) l ((i, r) :: R) →
        ((o.guard = none ∧ Just E (viewS S0 (wrF wl need i wr) (memN (need.getD i [])) (banK ub need i R) R i) ub i o r) ∨ ∃ j want b rj, o.guard = some (j, want) ∧ j ∈ need.getD i [] ∧ (j, rj) ∈ R ∧ rj.d ≠ none ∧ gb rj.v = some b ∧ ((b = some want ∧ Just E (viewS S0 (wrF wl need i wr) (memN (need.getD i [])) (banK ub need i R) R i) ub i o r) ∨ (b ≠ some want ∧ r.v = .tup [] ∧ r.b = none))) →
        ∃ X l', ROk S0 ub ops m (X ++ R) ∧ (∀ p ∈ X, i ≤ p.1) ∧ (∀ j, i ≤ j → j < m → TraceOk E S0 wr wl need ub ops (X ++ R) j) ∧ (∃ pre', ops.toList = pre' ++ l' ∧ pre'.length = m) ∧ opsK E m (dsR (X ++ R)) l' K (viewS S0 wr allN (endB ub (X ++ R)) (X ++ R) m) := by
      intro r hd hb hk hj
      obtain ⟨X, l', h1, h2, h3, h4, h5⟩ := rest r hd hb hk
      have e : X ++ (i, r) :: R = (X ++ [(i, r)]) ++ R := by simp
      refine ⟨X ++ [(i, r)], l', by rw [← e]; exact h1, ?_, ?_, h4, by rw [← e]; exact h5⟩
      · intro p hp'
        rcases List.mem_append.1 hp' with h | h
        · have := h2 p h; omega
        · simp at h; subst h; exact Nat.le_refl _
      · intro j hj1 hj2
        rw [← e]
        rcases Nat.lt_or_ge i j with h | h
        · exact h3 j h hj2
        · obtain rfl : j = i := by omega
          intro o' ho'
          rw [ho] at ho'; cases ho'
          refine ⟨r, by simp, hd, ?_⟩
          rw [view r X h2]
          rcases hj with hj | ⟨j', want, b, rj, g1, g2, g3, g4⟩
          · exact .inl hj
          · exact .inr ⟨j', want, b, rj, g1, g2, by simp [g3], g4⟩
    simp only [drawK] at hk
    rcases headGuard_just hk with ⟨hg, hk⟩ | ⟨j, want, b, rj, hg, hns, hrj, hdj, hvj, ⟨hb, hk⟩ | ⟨hb, hk⟩⟩
    · obtain ⟨r, hj, hk, hp'⟩ := headStep_just hk
      exact fin r hj.1 hp' hk (.inl ⟨hg, hj⟩)
    · obtain ⟨r, hj, hk, hp'⟩ := headStep_just hk
      exact fin r hj.1 hp' hk (.inr ⟨j, want, b, rj, hg, memN_iff.1 hns, hrj, hdj, hvj, .inl ⟨hb, hj⟩⟩)
    · exact fin ⟨o.dst, .tup [], none⟩ rfl (fun k b hb => by cases hb) hk (.inr ⟨j, want, b, rj, hg, memN_iff.1 hns, hrj, hdj, hvj, .inr ⟨hb, rfl, rfl⟩⟩)
theorem dsR_mem : ∀ {R : List (Nat × HRes)} {j t : Nat}, getA (dsR R) j = some t → ∃ r, (j, r) ∈ R ∧ r.d = some t
  | [], j, t, h => by simp [dsR, getA] at h
  | (k, r) :: R, j, t, h => by
    simp only [dsR] at h
    split at h
    · rename_i t' ht
      simp only [getA] at h
      split at h
      · rename_i e; subst e; cases h; exact ⟨r, by simp, ht⟩
      · obtain ⟨r', h1, h2⟩ := dsR_mem h; exact ⟨r', by simp [h1], h2⟩
    · obtain ⟨r', h1, h2⟩ := dsR_mem h; exact ⟨r', by simp [h1], h2⟩
theorem draw_sound (hwl : wlB ops m wl = true) (hE : EnvOk E) (hmo : E.P.follows .mixedOrders = true) {n n' : Nat} (hsl : slotsB n ops = true) (hB : flowB n' m ops wr need = true) (hU : ubB m need ub S0.nx = true) (hneed : ∀ i, i < m → ∀ j ∈ need.getD i [], j < i) {K : St → Prop} {Q : Exit → Act → World → Prop} (hQ : Then E c0 n K (Q .normal))
    {id : Nat} {a : Act} (h : SimN E c0 c ρ S0 F) (hf : Fr n F a) (hk : drawK E S0 wr wl need ub K m 0 ops.toList []) : (Code.region id ops true).wp E.P Q a c.w := by
  simp only [flowB, Bool.and_eq_true, decide_eq_true_eq] at hB
  obtain ⟨⟨⟨⟨⟨_, hE'⟩, hN⟩, hW⟩, hTB⟩, hm⟩ := hB
  obtain ⟨R, l', hR, _, hT, ⟨pre', hl', hp'⟩, hk'⟩ := draw_trace hneed m 0 ops.toList [] [] rfl rfl (by omega) ⟨by simp, by simp, by simp, by simp, .nil⟩ hk
  rw [List.append_nil] at hR hT hk'
  have hH0 : ∀ i b, getA S0.H i = some b → i < S0.nx := by
    intro i b hb
    rcases Nat.lt_or_ge i S0.nx with h1 | h1
    · exact h1
    · exfalso
      have h5 := h.1.heap _ _ hb
      have h6 := h.2 i h1
      cases b <;> first | (obtain ⟨_, h5, _⟩ := h5; rw [h6] at h5; cases h5) | (obtain ⟨h5, _⟩ := h5; rw [h6] at h5; cases h5)
  refine wp_region_any hmo ?_
  have hdr : Below c.w.heap.size c.w c.w.drew := (Below.refl _ _).drew
  have hle : c.le (c.at c.w.drew hdr.size) := Cx.le_at hdr
  have hnone : ∀ i, ¬ listedP (Array.replicate ops.size false) i := fun i hi => by
    simp only [listedP, Array.getD_eq_getD_getElem?, Array.getElem?_replicate] at hi
    split at hi <;> simp at hi
  refine flowX_any (Inv := fun L F w => ∃ c ρ, c.w = w ∧ DInv E c0 S0 ub m R L F c ρ) hsl hE' hN hTB hm ?_ (step_draw hE hwl hW hU hR hH0 (fun i hi => hT i (Nat.zero_le _) hi)) ?_ ops.size _ (by simp) ?_ ?_ ?_ F _ ⟨c.at c.w.drew hdr.size, ρ, rfl, ?_⟩ a hf
  · rintro L L' F w hL ⟨c, ρ, hc, hI⟩
    have hpb : ∀ i, PB S0 ub R L' i → PB S0 ub R L i := fun i h1 => ⟨fun j r e1 e2 => h1.1 j r e1 ((hL j (hR.dst j r e1).1).1 e2), h1.2.imp (fun x => x) fun ⟨l, r, b, g1, g2, g3⟩ => ⟨l, r, b, g1, (hL l (hR.dst l r g1).1).2 g2, g3⟩⟩
    refine ⟨c, ρ, hc, hI.since, hI.gl, ?_, fun t v ht hno => hI.old t v ht fun j r g1 g2 => hno j r g1 ((hL j (hR.dst j r g1).1).1 g2), ?_, ?_, ?_, ?_⟩
    · intro j r hj hl; exact hI.slot j r hj ((hL j (hR.dst j r hj).1).2 hl)
    · intro j r k b hj hl hb hla hnk; exact hI.heap j r k b hj ((hL j (hR.dst j r hj).1).2 hl) hb (fun w r' b' hw hl' => hla w r' b' hw ((hL w (hR.dst w r' hw).1).1 hl')) fun j r e1 e2 => hnk j r e1 ((hL j (hR.dst j r e1).1).1 e2)
    · intro i b hb hno hnk; exact hI.heap0 i b hb (fun j r b' g1 g2 => hno j r b' g1 ((hL j (hR.dst j r g1).1).1 g2)) fun j r e1 e2 => hnk j r e1 ((hL j (hR.dst j r e1).1).1 e2)
    · intro i j k hij h1 h2
      exact hI.sep i j k hij (hpb i h1) (hpb j h2)
    · intro i hi hne
      exact hI.fresh i hi fun j hj hl => hne j hj ((hL j hj).1 hl)
  · rintro F w ⟨c, ρ, rfl, hI⟩ a hf
    have hS : SimN E c0 c ρ (viewS S0 wr allN (endB ub R) R m) F := by
      refine ⟨hI.sim (wr := wr) (fun t ht j r g1 _ g3 => ht (writeB_spec hW (hR.dst j r g1).1 ((hR.dst j r g1).2 ▸ g3)).1) (fun _ _ => trivial) hH0 (fun _ _ _ _ _ _ _ _ _ => rfl) (fun k hk j r h1 _ => killF_false (endB_false hk) j r h1 rfl) m hR.ord (fun _ _ _ _ _ _ _ _ _ _ _ _ _ _ _ => rfl), fun i hi => hI.fresh i ?_ ?_⟩
      · simp only [viewS] at hi; omega
      · intro j hj _; simp only [viewS] at hi; omega
    have hds : dsOk ops m (dsR R) := by
      intro j t hj
      obtain ⟨r, h1, h2⟩ := dsR_mem hj
      obtain ⟨h3, h4⟩ := hR.dst j r h1
      exact ⟨h3, by rw [← h2, h4]; rfl⟩
    have := ops_sound hE hsl hQ l' pre' (dsR R) hl' (by rw [hp']; exact hds) c ρ _ F a hS hf (by rw [hp']; exact hk')
    rw [hp'] at this
    have hlen : l'.length = ops.size - m := by
      have h6 : ops.size = pre'.length + l'.length := by
        have := congrArg List.length hl'
        simpa using this
      omega
    rw [hlen] at this
    exact this
  · have : ∀ i, (Array.replicate ops.size false).getD i false = false := fun i => by
      simp only [Array.getD_eq_getD_getElem?, Array.getElem?_replicate]; split <;> rfl
    simp [leftOf, this]
  · intro i o hi; exact absurd hi (hnone i)
  · intro i hi; exact absurd hi (hnone i)
  · refine ⟨h.1.since.le hle, h.1.gl.mono hle.pub, ?_, ?_, ?_, ?_, ?_, ?_⟩
    · intro j r _ hl; exact absurd hl (hnone j)
    · intro t v ht _; exact rd_mono hle.pub (h.1.slot t v ht)
    · intro j r k b _ hl; exact absurd hl (hnone j)
    · intro i b hb _ _; exact blkOk_chg hle.chg (fun _ _ _ hx => by cases hx) (h.1.heap i b hb)
    · rintro i j k hij ⟨_, ⟨bi, h1, h2⟩ | ⟨l, r, b, _, hl, _⟩⟩ ⟨_, ⟨bj, h3, h4⟩ | ⟨l', r', b', _, hl', _⟩⟩
      · exact h.1.sep i j bi bj k hij h1 h3 h2 h4
      · exact absurd hl' (hnone _)
      · exact absurd hl (hnone _)
      · exact absurd hl (hnone _)
    · intro i hi _; exact h.2 i hi
end
end Go.Proofs.Ytcbdmoihobdjaaa
