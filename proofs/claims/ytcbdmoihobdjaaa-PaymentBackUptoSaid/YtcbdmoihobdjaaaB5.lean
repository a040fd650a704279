/-
  Base 5: the forms in which the generated proofs use the rules.
-/
import Derived.Test.YtcbdmoihobdjaaaB4
namespace Go.Proofs.Ytcbdmoihobdjaaa
open Go.RowKit

/-- Arithmetic as Go has it, by kind. -/
def addI (k : IntKind) (a b : Int) : Int := k.wrap (a + b)
def subI (k : IntKind) (a b : Int) : Int := k.wrap (a - b)
def mulI (k : IntKind) (a b : Int) : Int := k.wrap (a * b)
def quoI (k : IntKind) (a b : Int) : Int := k.wrap (a.tdiv b)
def remI (_ : IntKind) (a b : Int) : Int := a.tmod b
def negI (k : IntKind) (a : Int) : Int := k.wrap (0 - a)
def convI (k : IntKind) (a : Int) : Int := k.wrap a
def gt {α : Type} [Inhabited α] (l : List α) (i : Int) : α := l.getD i.toNat default
theorem gt_nat {α : Type} [Inhabited α] (l : List α) (i : Nat) : gt l (i : Int) = l.getD i default := rfl

theorem rng_addI (k : IntKind) (a b : Int) : Rng k (addI k a b) := rng_wrap _ _
theorem rng_subI (k : IntKind) (a b : Int) : Rng k (subI k a b) := rng_wrap _ _
theorem rng_mulI (k : IntKind) (a b : Int) : Rng k (mulI k a b) := rng_wrap _ _
theorem rng_quoI (k : IntKind) (a b : Int) : Rng k (quoI k a b) := rng_wrap _ _
theorem rng_negI (k : IntKind) (a : Int) : Rng k (negI k a) := rng_wrap _ _
theorem rng_convI (k : IntKind) (a : Int) : Rng k (convI k a) := rng_wrap _ _
theorem rng_shlI (k : IntKind) (a b : Int) : Rng k (shlI k a b) := rng_wrap _ _
theorem rng_andI (k : IntKind) (a b : Int) : Rng k (andI k a b) := rng_wrap _ _
theorem rng_orI (k : IntKind) (a b : Int) : Rng k (orI k a b) := rng_wrap _ _
theorem rng_xorI (k : IntKind) (a b : Int) : Rng k (xorI k a b) := rng_wrap _ _
theorem rng_andNotI (k : IntKind) (a b : Int) : Rng k (andNotI k a b) := rng_wrap _ _
theorem rng_notI (k : IntKind) (a : Int) : Rng k (notI k a) := rng_wrap _ _
theorem rng_len {n : Nat} (h : n ≤ LEN) : Rng .i64 (n : Int) := by
  unfold LEN at h
  simp only [Rng, IntKind.min, IntKind.max, IntKind.bits, IntKind.signed, if_true]
  omega

theorem natAbs_tmod_le (a b : Int) : (a.tmod b).natAbs ≤ a.natAbs := by
  rw [Int.natAbs_tmod]; exact Nat.mod_le _ _
theorem rng_remI {k : IntKind} {a : Int} (b : Int) (h : Rng k a) : Rng k (remI k a b) := by
  have h1 := natAbs_tmod_le a b
  have h2 : 0 ≤ a → 0 ≤ a.tmod b := fun h => Int.tmod_nonneg b h
  have h3 : a ≤ 0 → a.tmod b ≤ 0 := fun h => by
    have := Int.tmod_nonneg b (show 0 ≤ -a by omega)
    rw [Int.neg_tmod] at this
    omega
  unfold Rng at *
  unfold remI
  have hm : k.min ≤ 0 := by cases k <;> decide
  have hx : 0 ≤ k.max := by cases k <;> decide
  rcases Int.le_total 0 a with h4 | h4
  · have := h2 h4; omega
  · have := h3 h4; omega
theorem rng_shrI {k : IntKind} {a : Int} (b : Int) (h : Rng k a) : Rng k (shrI k a b) := by
  unfold shrI
  have hp : (1 : Int) ≤ 2 ^ (min b.toNat k.bits) := by
    have : (1 : Nat) ≤ 2 ^ (min b.toNat k.bits) := Nat.one_le_two_pow
    exact_mod_cast this
  have hm : k.min ≤ 0 := by cases k <;> decide
  have hx : 0 ≤ k.max := by cases k <;> decide
  unfold Rng at *
  generalize (2 : Int) ^ (min b.toNat k.bits) = p at *
  rw [Int.fdiv_eq_ediv_of_nonneg _ (by omega)]
  constructor
  · refine (Int.le_ediv_iff_mul_le (by omega)).2 ?_
    have : k.min * p ≤ k.min * 1 := Int.mul_le_mul_of_nonpos_left hm hp
    omega
  · rcases Int.le_total 0 a with h4 | h4
    · have := Int.ediv_le_self p h4; omega
    · have : a / p ≤ 0 := by
        have h5 : a / p ≤ 0 / p := Int.ediv_le_ediv (by omega) h4
        simpa using h5
      omega

/-- A value that is named and then used. -/
def letk {α β : Type} (a : α) (f : α → β) : β := f a
theorem letk_step {α β : Type} {a x : α} {f : α → β} {R : β} (hx : x = a) (h : R = letk a f) : R = f x := by subst hx; exact h
theorem ne_true {b : Bool} (h : b = false) : ¬ (b = true) := by simp [h]

/-- What has held since the call began. -/
structure Since (c0 c : Cx) : Prop where
  below : BelowY c0.Y c0.w.heap.size c0.w c.w
  X : ∀ k, k ∈ c0.X → k ∉ c0.Y → k ∈ c.X
theorem Since.refl (c : Cx) : Since c c := ⟨BelowY.refl _ _ _, fun _ h _ => h⟩
theorem Since.le {c0 c c' : Cx} (h : Since c0 c) (k : c.le c') : Since c0 c' :=
  ⟨h.below.step k.below h.below.size, fun i hi hy => (k.old i (c.ok i (h.X i hi hy))).2 (h.X i hi hy)⟩
theorem Since.size {c0 c : Cx} (h : Since c0 c) : c0.w.heap.size ≤ c.w.heap.size := h.below.size

/-! ## Keeping what is known over a step -/
theorem kRep {α : Type} {r : Rep α} {c c' : Cx} {v v' : Value} {d : α} (h : r.val c v d) (e : v' = v) (k : c.pub c') : r.val c' v' d := by subst e; exact h.mono k
theorem kPt {α : Type} {r : Rep α} {c c' : Cx} {v v' : Value} {d : α} (h : ptIs r c v d) (e : v' = v) (k : c.pub c') : ptIs r c' v' d := by subst e; exact (rvPt r).mono h k
theorem kRV {α : Type} {r : RV α} {c c' : Cx} {v v' : Value} {d : α} (h : r.p c v d) (e : v' = v) (k : c.pub c') : r.p c' v' d := by subst e; exact r.mono h k
theorem kPh {φ : Ph} {c c' : Cx} {v v' : Value} (h : φ.p v c) (e : v' = v) (k : c.le c') : φ.p v' c' := by subst e; exact φ.mono h k

section
variable {P : Program}

/-- THE RULE FOR A REGION, in the form of the generated proofs. -/
theorem region' {ops : Array Oper} {Q : Exit → Act → World → Prop} {n : Nat} {F0 : Fm} {c0 : Cx} (m : Nat) (wr : List Nat) (need : List (List Nat)) (rest : List Nat) (Φ : Nat → Ph)
    (hB : flowB n m ops wr need = true) (hR : List.range' m (ops.size - m) = rest) (hmo : P.follows .mixedOrders = true) {id : Nat} {draw : Bool} {a : Act} (hf : Fr n F0 a)
    (H : AllFrom (HeadOb P ops need wr F0 c0 Φ) 0 m)
    (hT : ∀ F c, Facts0 ops m wr F0 c0 Φ F c → ∀ a, Fr n F a → wpOps P ops Q rest a c.w) :
    (Code.region id ops draw).wp P Q a c0.w := by
  subst hR
  exact region m wr need Φ hB hmo hf H fun F c h1 h2 h3 a ha => hT F c ⟨h1, h2, h3⟩ a ha

/-- A region without an open order: every operation in turn. -/
def seqB (n m : Nat) (ops : Array Oper) (wr : List Nat) (need : List (List Nat)) : Bool :=
  slotsB n ops && writeB ops m wr && decide (m ≤ ops.size) && (List.range m).all fun i => (need.getD i []).all fun j => decide (j < i)

theorem flow_seq' {ops : Array Oper} {Q : Exit → Act → World → Prop} {n m : Nat} {wr : List Nat} {need : List (List Nat)} {F0 : Fm} {c0 : Cx} {Φ : Nat → Ph} (hs : slotsB n ops = true) (hlt : ∀ i, i < m → ∀ j ∈ need.getD i [], j < i) (hW : writeB ops m wr = true) (hm : m ≤ ops.size)
    (H : ∀ i, i < m → HeadOb P ops need wr F0 c0 Φ i)
    (hT : ∀ F c, HeadInv ops m wr F0 c0 Φ (fun _ => True) F c → ∀ a, Fr n F a → wpOps P ops Q (List.range' m (ops.size - m)) a c.w) :
    ∀ k r, k + r = m → ∀ F c, HeadInv ops m wr F0 c0 Φ (fun j => j < k) F c → ∀ a, Fr n F a → wpOps P ops Q (List.range' k (r + (ops.size - m))) a c.w := by
  intro k r
  induction r generalizing k with
  | zero =>
    intro hk F c hI a hf
    obtain rfl : k = m := by omega
    simpa using hT F c ⟨hI.1, fun i hi _ d hd => hI.2.1 i hi hi d hd, hI.2.2⟩ a hf
  | succ r ih =>
    intro hk F c hI a hf
    have hkm : k < m := by omega
    have hlk : k < ops.size := by omega
    have ho : ops[k]? = some ops[k] := Array.getElem?_eq_getElem hlk
    rw [show r + 1 + (ops.size - m) = (r + (ops.size - m)) + 1 by omega, List.range'_succ]
    refine ops_cons hs hf ho ?_
    refine H k hkm _ ho F c hI.1 (fun j hj d hd => hI.2.1 j (by have := hlt k hkm j hj; omega) (hlt k hkm j hj) d hd) hI.2.2 (fun v w' => ∀ a', Fr n (updO F (ops[k]).dst v) a' → wpOps P ops Q (List.range' (k + 1) (r + (ops.size - m))) a' w') ?_
    intro v c' hle hv a' hf'
    refine ih (k + 1) (by omega) _ c' ⟨hI.1.trans hle, ?_, ?_⟩ a' hf'
    · intro j hj hjk d hd
      by_cases hij : j = k
      · subst hij
        have : (ops[j]).dst = some d := by simpa [dstOf, ho] using hd
        rw [this]
        simpa [updO, upd_same] using hv
      · have hold : (Φ j).p (F d) c := hI.2.1 j hj (by omega) d hd
        have hne : (ops[k]).dst ≠ some d := by
          have := writeB_ne hW hj hkm hij hd
          simpa [dstOf, ho] using this
        have : updO F (ops[k]).dst v d = F d := by
          cases hod : (ops[k]).dst with
          | none => rfl
          | some e => exact upd_ne _ _ (by rintro rfl; exact hne hod)
        rw [this]
        exact (Φ j).mono hold hle
    · intro t ht
      have : updO F (ops[k]).dst v t = F t := by
        cases hod : (ops[k]).dst with
        | none => rfl
        | some e =>
          have := (writeB_spec hW hkm (d := e) (by simp [dstOf, ho, hod])).1
          exact upd_ne _ _ (by rintro rfl; exact ht this)
      rw [this]
      exact hI.2.2 t ht

theorem regionS {ops : Array Oper} {Q : Exit → Act → World → Prop} {n : Nat} {F0 : Fm} {c0 : Cx} (m : Nat) (wr : List Nat) (need : List (List Nat)) (rest : List Nat) (Φ : Nat → Ph)
    (hB : seqB n m ops wr need = true) (hR : List.range' m (ops.size - m) = rest) {id : Nat} {a : Act} (hf : Fr n F0 a)
    (H : AllFrom (HeadOb P ops need wr F0 c0 Φ) 0 m)
    (hT : ∀ F c, Facts0 ops m wr F0 c0 Φ F c → ∀ a, Fr n F a → wpOps P ops Q rest a c.w) :
    (Code.region id ops false).wp P Q a c0.w := by
  subst hR
  simp only [seqB, Bool.and_eq_true, decide_eq_true_eq, List.all_eq_true] at hB
  obtain ⟨⟨⟨hs, hW⟩, hm⟩, hlt⟩ := hB
  refine wp_region ?_
  have := flow_seq' (Q := Q) hs (fun i hi => hlt i (List.mem_range.2 hi)) hW hm (fun i hi => H.get i (Nat.zero_le _) (by omega)) (fun F c hI a hf => hT F c ⟨hI.1, fun i hi d hd => hI.2.1 i hi trivial d hd, hI.2.2⟩ a hf) 0 m (by omega) F0 c0 ⟨Cx.le.refl _, fun i _ h => absurd h (by omega), fun _ _ => rfl⟩ a hf
  rw [show m + (ops.size - m) = ops.size by omega] at this
  rw [List.range_eq_range']
  exact this

/-- An operation behind the head. -/
theorem tail_op {ops : Array Oper} {Q : Exit → Act → World → Prop} {n i : Nat} {rest : List Nat} {a : Act} {w : World} {F : Fm} {o : Oper} (hs : slotsB n ops = true) (hf : Fr n F a) (ho : ops[i]? = some o) (hg : o.guard = none)
    (h : Yields P (fun v w' => ∀ F' a', Fr n F' a' → (∀ d, o.dst = some d → F' d = v) → (∀ t, o.dst ≠ some t → F' t = F t) → wpOps P ops Q rest a' w') (run P F o w)) : wpOps P ops Q (i :: rest) a w := by
  refine ops_cons hs hf ho ?_
  have : guardB ops F o = true := by simp [guardB, hg]
  rw [if_pos this]
  refine h.mono fun v w' hk a' hf' => hk _ a' hf' (fun d hd => by rw [hd]; exact upd_same _ _ _) (fun t ht => ?_)
  cases hd : o.dst with
  | none => rfl
  | some e => exact upd_ne _ _ (by rintro rfl; exact ht hd)

theorem wp_if {x y : Code} {Q : Exit → Act → World → Prop} {n : Nat} {F : Fm} {a : Act} {w : World} {t : Operand} {b : Bool} (hf : Fr n F a) (hs : ev F t = .bool b) (h1 : b = true → x.wp P Q a w) (h2 : b = false → y.wp P Q a w) : (Code.cond t x y).wp P Q a w :=
  wp_cond_split (by rw [hf.eval]; exact hs) h1 h2

theorem wp_cut {x y : Code} {Q : Exit → Act → World → Prop} {a : Act} {w : World} (M : Act → World → Prop) (h1 : x.wp P (Exit.then M Q) a w) (h2 : ∀ a w, M a w → y.wp P Q a w) : (Code.seq x y).wp P Q a w :=
  wp_seq (wp_mono h1 fun e a w h => by cases e <;> first | exact h2 _ _ h | exact h)

/-- A loop, by a number of rounds still to come. -/
theorem wp_rounds {c : Code} {Q : Exit → Act → World → Prop} {a : Act} {w : World} (I : Nat → Act → World → Prop) (k0 : Nat) (h0 : I k0 a w)
    (round : ∀ k a w, I k a w → c.wp P (Exit.then (fun a' w' => ∃ k', k' < k ∧ I k' a' w') Q) a w) : (Code.loop c).wp P Q a w := by
  intro b ks cs
  have key : ∀ n a w, I n a w → ∃ e a' w', Q e a' w' ∧ Arrives P (lone (b.at a (.code c :: .inLoop c :: ks)) cs w) b ks cs e a' w' := by
    intro n
    induction n using Nat.strongRecOn with
    | _ n ih =>
      intro a w hI
      obtain ⟨e, a₁, w₁, hq, harr⟩ := round n a w hI b (.inLoop c :: ks) cs
      cases e with
      | normal =>
        obtain ⟨k', hlt, hI₁⟩ := hq
        obtain ⟨e₂, a₂, w₂, hq₂, harr₂⟩ := ih k' hlt a₁ w₁ hI₁
        exact ⟨e₂, a₂, w₂, hq₂, .of_steps (Steps.trans harr (.one step_inLoop)) harr₂⟩
      | exit id => exact ⟨_, a₁, w₁, hq, .pass (x := .inLoop c) rfl (fun _ _ => .inl (by simp)) harr⟩
      | goto l => exact ⟨_, a₁, w₁, hq, .pass (x := .inLoop c) rfl (fun _ _ => .inl (by simp)) harr⟩
      | ret => exact ⟨_, a₁, w₁, hq, .pass (x := .inLoop c) rfl (fun _ _ => .inl (by simp)) harr⟩
      | panic ch => exact ⟨_, a₁, w₁, hq, .pass (x := .inLoop c) rfl (fun _ _ => .inl (by simp)) harr⟩
      | outgrown => exact ⟨_, a₁, w₁, hq, .pass (x := .inLoop c) rfl (fun _ _ => .inl (by simp)) harr⟩
  obtain ⟨e, a', w', hq, harr⟩ := key k0 a w h0
  exact ⟨e, a', w', hq, .of_steps (.one step_loop) harr⟩

theorem results2 {fn : Func} {n : Nat} {F : Fm} {a : Act} {w : World} {t u : Nat} (hf : Fr n F a) (hr : fn.results = #[.tmp t, .tmp u]) : (results fn a.tmps).run P w = .ok (.tuple #[F t, F u]) w := by
  simp [results, hr, hf.slot]
theorem results3 {fn : Func} {n : Nat} {F : Fm} {a : Act} {w : World} {t u v : Nat} (hf : Fr n F a) (hr : fn.results = #[.tmp t, .tmp u, .tmp v]) : (results fn a.tmps).run P w = .ok (.tuple #[F t, F u, F v]) w := by
  simp [results, hr, hf.slot]
theorem results4 {fn : Func} {n : Nat} {F : Fm} {a : Act} {w : World} {t u v x : Nat} (hf : Fr n F a) (hr : fn.results = #[.tmp t, .tmp u, .tmp v, .tmp x]) : (results fn a.tmps).run P w = .ok (.tuple #[F t, F u, F v, F x]) w := by
  simp [results, hr, hf.slot]

theorem wp_cut0 {x : Code} {Q : Exit → Act → World → Prop} {a : Act} {w : World} (M : Act → World → Prop) (h1 : x.wp P (Exit.then M Q) a w) (h2 : ∀ a w, M a w → Q .normal a w) : x.wp P Q a w :=
  wp_mono h1 fun e a w h => by cases e <;> first | exact h2 _ _ h | exact h

/-- The rest of a model, under a name. -/
theorem cps {κ : Type} {R : Type} {X : R} (f : κ → R) {k0 : κ} (h : X = f k0) : ∃ k, k = k0 ∧ X = f k := ⟨k0, rfl, h⟩

/-- A call of a named function. -/
theorem y_call' {K : Value → World → Prop} {F : Fm} {o : Oper} {c : Cx} {α : Type} {r : RV α} {d : α} {f : FuncId} {l : List Operand} {ats : Array TypeId} (ho : o.op = .call { callee := .value (.func f), args := l.toArray, argTypes := ats })
    (hc : ∀ as w, (callFunc f as).run P w = .ok (.enter f as) w) (hf : Calls P f (l.map (ev F)).toArray c.w (Post c r d)) (h : ∀ v c', c.le c' → r.p c' v d → K v c'.w) : Yields P K (run P F o c.w) :=
  y_call ho hc (by simp) hf h
theorem y_callv' {K : Value → World → Prop} {F : Fm} {o : Oper} {c : Cx} {α : Type} {r : RV α} {d : α} {f : FuncId} {x : Operand} {l : List Operand} {ats : Array TypeId} {cap : List Value} (ho : o.op = .call { callee := .value x, args := l.toArray, argTypes := ats })
    (hx : ev F x = .func (.func f) #[] cap.toArray) (hc : ∀ as w, (callFunc f as).run P w = .ok (.enter f as) w) (hf : Calls P f (l.map (ev F) ++ cap).toArray c.w (Post c r d)) (h : ∀ v c', c.le c' → r.p c' v d → K v c'.w) : Yields P K (run P F o c.w) :=
  y_callv (vs := (l.map (ev F)).toArray) ho hx hc (by simp) (by have e : (l.map (ev F)).toArray ++ cap.toArray = (l.map (ev F) ++ cap).toArray := by simp
                                                                rw [e]; exact hf) h

/-- A new private variable, as a fact about its address. -/
def Ph.newVar {α : Type} (c0 : Cx) (r : Rep α) (d : α) : Ph :=
  ⟨fun v c => ∃ b, v = .pointer (some ⟨b, 0, none⟩) ∧ c0.w.heap.size ≤ b ∧ Var c b r d, fun ⟨b, h1, h2, h3⟩ k => ⟨b, h1, h2, h3.le k⟩⟩

/-- A function value: called with a readable argument it hands back a readable result. -/
def FnIs {α β : Type} (P : Program) (c : Cx) (v : Value) (r : Rep α) (s : RV β) (p : α → β) : Prop :=
  ∃ f cap, v = .func (.func f) #[] (List.toArray cap) ∧ (∀ as w, (callFunc f as).run P w = .ok (.enter f as) w) ∧ ∀ c' x u, c.le c' → r.val c' u x → Calls P f (u :: cap).toArray c'.w (Post c' s (p x))
theorem FnIs.le {α β : Type} {c c' : Cx} {v v' : Value} {r : Rep α} {s : RV β} {p : α → β} (h : FnIs P c v r s p) (e : v' = v) (k : c.le c') : FnIs P c' v' r s p := by
  subst e
  obtain ⟨f, cap, h1, h2, h3⟩ := h
  exact ⟨f, cap, h1, h2, fun c'' x u hle hx => h3 c'' x u (k.trans hle) hx⟩
def Ph.fn {α β : Type} (P : Program) (r : Rep α) (s : RV β) (p : α → β) : Ph := ⟨fun v c => FnIs P c v r s p, fun h k => h.le rfl k⟩
theorem y_callp {K : Value → World → Prop} {F : Fm} {o : Oper} {c : Cx} {α β : Type} {r : Rep α} {s : RV β} {p : α → β} {d : α} {x y : Operand} {ats : Array TypeId} (ho : o.op = .call { callee := .value x, args := #[y], argTypes := ats })
    (hx : FnIs P c (ev F x) r s p) (hy : r.val c (ev F y) d) (h : ∀ v c', c.le c' → s.p c' v (p d) → K v c'.w) : Yields P K (run P F o c.w) := by
  obtain ⟨f, cap, h1, h2, h3⟩ := hx
  exact y_callv' (l := [y]) ho h1 h2 (h3 c d _ (Cx.le.refl _) hy) h

theorem nil_val {α : Type} {r : Rep α} {c : Cx} : (rSlice r).val c (.slice none 0 0) [] := slice_val.2 ⟨none, 0, rfl, ⟨Nat.zero_le _, Nat.zero_le _⟩, .inl rfl⟩
theorem slice_rng {α : Type} {r : Rep α} {c : Cx} {v : Value} {l : List α} (h : (rSlice r).val c v l) : l.length ≤ LEN := by
  obtain ⟨_, _, _, h1, _⟩ := slice_val.1 h; exact h1.1

theorem letk_open {α β : Type} {a : α} {f : α → β} {R : β} (h : R = letk a f) : ∃ x, x = a ∧ R = f x := ⟨a, rfl, h⟩
instance (k : IntKind) (d : Int) : Decidable (Rng k d) := inferInstanceAs (Decidable (_ ∧ _))
theorem rng_zero (k : IntKind) : Rng k 0 := by cases k <;> decide
theorem rng64 {d : Int} (h : Rng .i64 d) : -9223372036854775808 ≤ d ∧ d ≤ 9223372036854775807 := by
  simpa [Rng, IntKind.min, IntKind.max, IntKind.bits, IntKind.signed] using h
theorem add_nat (i : Nat) (h : (i : Int) + 1 ≤ 9223372036854775807) : addI .i64 (i : Int) (1 : Int) = ((i + 1 : Nat) : Int) := by
  unfold addI; rw [IntKind.wrap_i64]; omega
theorem rng_nn {k : IntKind} {d : Int} (hk : k.min = 0) (h : Rng k d) : 0 ≤ d := by have := h.1; omega
/-- The elements from i on, up to j. -/
def sl {α : Type} (l : List α) (i j : Int) : List α := (l.drop i.toNat).take (j.toNat - i.toNat)
def st {α : Type} (l : List α) (i : Int) (x : α) : List α := l.set i.toNat x
theorem arrIs_replicate {α : Type} {r : Rep α} {c : Cx} {cz : List Value} {z : α} (n : Nat) (h : r.is c cz z) : arrIs r c (List.replicate n cz).flatten (List.replicate n z) := by
  induction n with
  | zero => simp [arrIs]
  | succ n ih => exact ⟨cz, _, by simp [List.replicate_succ], h, ih⟩

section
variable {K : Value → World → Prop} {F : Fm} {o : Oper} {c : Cx} {w : World}
theorem y_ext2_0 {α β : Type} {r : Rep α} {s : Rep β} {x : Operand} {d : α × β} (ho : o.op = .extract x 0) (hx : (rvTup2 r.rv s.rv).p c (ev F x) d) (h : ∀ v, r.val c v d.1 → K v c.w) : Yields P K (run P F o c.w) := by
  obtain ⟨v1, v2, e, h1, h2⟩ := hx
  exact y_extract ho e rfl (h v1 h1)
theorem y_ext2_1 {α β : Type} {r : Rep α} {s : Rep β} {x : Operand} {d : α × β} (ho : o.op = .extract x 1) (hx : (rvTup2 r.rv s.rv).p c (ev F x) d) (h : ∀ v, s.val c v d.2 → K v c.w) : Yields P K (run P F o c.w) := by
  obtain ⟨v1, v2, e, h1, h2⟩ := hx
  exact y_extract ho e rfl (h v2 h2)
theorem y_ext3_0 {α β γ : Type} {r : Rep α} {s : Rep β} {t : Rep γ} {x : Operand} {d : α × β × γ} (ho : o.op = .extract x 0) (hx : (rvTup3 r.rv s.rv t.rv).p c (ev F x) d) (h : ∀ v, r.val c v d.1 → K v c.w) : Yields P K (run P F o c.w) := by
  obtain ⟨v1, v2, v3, e, h1, h2, h3⟩ := hx
  exact y_extract ho e rfl (h v1 h1)
theorem y_ext3_1 {α β γ : Type} {r : Rep α} {s : Rep β} {t : Rep γ} {x : Operand} {d : α × β × γ} (ho : o.op = .extract x 1) (hx : (rvTup3 r.rv s.rv t.rv).p c (ev F x) d) (h : ∀ v, s.val c v d.2.1 → K v c.w) : Yields P K (run P F o c.w) := by
  obtain ⟨v1, v2, v3, e, h1, h2, h3⟩ := hx
  exact y_extract ho e rfl (h v2 h2)
theorem y_ext3_2 {α β γ : Type} {r : Rep α} {s : Rep β} {t : Rep γ} {x : Operand} {d : α × β × γ} (ho : o.op = .extract x 2) (hx : (rvTup3 r.rv s.rv t.rv).p c (ev F x) d) (h : ∀ v, t.val c v d.2.2 → K v c.w) : Yields P K (run P F o c.w) := by
  obtain ⟨v1, v2, v3, e, h1, h2, h3⟩ := hx
  exact y_extract ho e rfl (h v3 h3)
theorem y_makeFunc0 {f : FuncId} (ho : o.op = .makeFunc (.func f) #[] #[]) (h : K (.func (.func f) #[] (List.toArray [])) w) : Yields P K (run P F o w) :=
  yv (w' := w) (by simp [run, execOp, ho, Instr.makeFunc]) h
theorem y_makeFunc1 {f : FuncId} {x : Operand} {v : Value} (ho : o.op = .makeFunc (.func f) #[] #[x]) (hx : ev F x = v) (h : K (.func (.func f) #[] (List.toArray [v])) w) : Yields P K (run P F o w) :=
  yv (v := .func (.func f) #[] (List.toArray [v])) (w' := w) (by simp [run, execOp, ho, Instr.makeFunc, hx]) h
theorem y_makeFunc2 {f : FuncId} {x y : Operand} {v u : Value} (ho : o.op = .makeFunc (.func f) #[] #[x, y]) (hx : ev F x = v) (hy : ev F y = u) (h : K (.func (.func f) #[] (List.toArray [v, u])) w) : Yields P K (run P F o w) :=
  yv (v := .func (.func f) #[] (List.toArray [v, u])) (w' := w) (by simp [run, execOp, ho, Instr.makeFunc, hx, hy]) h
end

theorem enter' {f : FuncId} {fn : Func} {code : Code} {args : Array Value} {c0 : Cx} {α : Type} {r : RV α} {d : α} {n : Nat} (hf : P.funcs[f]? = some fn) (hb : fn.body = some code) (hn : args.size ≤ n) (hnt : fn.ntmps = n)
    (h : ∀ F a, Fr n F a → (∀ t v, args[t]? = some v → F t = v) → code.wp P (bodyPost P fn (Post c0 r d)) a c0.w) : Calls P f args c0.w (Post c0 r d) :=
  enter hf hb hn hnt fun F a hfr hF => h F a hfr fun t v hv => by
    rw [hF t]
    have hlt : t < args.size := (Array.getElem?_eq_some_iff.1 hv).1
    have he : args[t] = v := by simpa [Array.getElem?_eq_getElem hlt] using hv
    simp [Array.getD_eq_getD_getElem?, Array.getElem?_append, hlt, he]
end
end Go.Proofs.Ytcbdmoihobdjaaa
