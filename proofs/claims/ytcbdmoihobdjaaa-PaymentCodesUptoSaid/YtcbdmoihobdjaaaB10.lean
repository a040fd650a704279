import Derived.Test.YtcbdmoihobdjaaaB9
namespace Go.Proofs.Ytcbdmoihobdjaaa
open Go.RowKit
section
variable {P : Program} {ops : Array Oper} {Q : Exit → Act → World → Prop} {n m : Nat} {wr : List Nat} {need : List (List Nat)} {Inv : (Nat → Prop) → Fm → World → Prop}
def StepOb (P : Program) (ops : Array Oper) (need : List (List Nat)) (m : Nat) (Inv : (Nat → Prop) → Fm → World → Prop) : Prop :=
  ∀ L F w i o, Inv L F w → i < m → ops[i]? = some o → (∀ j ∈ need.getD i [], L j) → (∀ j, j < m → i ∈ need.getD j [] → ¬ L j) → ¬ L i →
    ∀ K : Fm → World → Prop, (∀ F' w', Inv (fun j => j = i ∨ L j) F' w' → K F' w') → if guardB ops F o then Yields P (fun v w' => K (updO F o.dst v) w') (run P F o w) else K (updO F o.dst undef) w
theorem flowX_any (hs : slotsB n ops = true) (hE : edgesB ops = true) (hN : needB ops need = true) (hTB : tailB ops m need = true) (hm : m ≤ ops.size)
    (hC : ∀ L L' F w, (∀ i, i < m → (L i ↔ L' i)) → Inv L F w → Inv L' F w) (H : StepOb P ops need m Inv)
    (hT : ∀ F w, Inv (fun _ => True) F w → ∀ a, Fr n F a → wpOps P ops Q (List.range' m (ops.size - m)) a w) :
    ∀ fuel (listed : Array Bool), listed.size = ops.size → leftOf listed ops.size = fuel → Closed ops (listedP listed) → (∀ j, listedP listed j → j < m) →
      ∀ F w, Inv (listedP listed) F w → ∀ a, Fr n F a → wpAny P .any ops Q fuel listed a w := by
  intro fuel
  induction fuel with
  | zero =>
    intro listed hz hleft _ hlm F c hI a hf
    have hall := left_zero hleft
    have hmN : m = ops.size := by
      rcases Nat.lt_or_ge m ops.size with h | h
      · have := hlm m (hall m h); omega
      · omega
    refine ⟨ready_done hz hall, ?_⟩
    have := hT F c (hC _ _ F c (fun i hi => ⟨fun _ => trivial, fun _ => hall i (by omega)⟩) hI) a hf
    simpa [hmN, wpOps] using this
  | succ fuel ih =>
    intro listed hz hleft hcl hlm F c hI a hf
    refine ⟨fun h0 => ?_, fun i hi => ?_⟩
    · exfalso
      have hall := ready_nil hE hz h0
      have : leftOf listed ops.size = 0 := List.countP_eq_zero.2 fun i hi => by
        have := hall i (List.mem_range.1 hi)
        simpa [listedP] using this
      omega
    · obtain ⟨h1, h2, o, ho, h3⟩ := (ready_iff hz i).1 hi
      have hneed := need_listed hE hN hcl i o ho h3
      by_cases him : i < m
      · refine op_next hs hf ho ?_
        have hnot : ∀ j, j < m → i ∈ need.getD j [] → ¬ listedP listed j := by
          intro j hj hij hl
          have hjo : ops[j]? = some ops[j] := Array.getElem?_eq_getElem (by omega)
          exact h2 (need_listed hE hN hcl j _ hjo (fun e he hb => hcl j _ hl hjo e he hb) i hij)
        refine H _ F c i o hI him ho hneed hnot h2 (fun F' w' => ∀ a', Fr n F' a' → wpAny P .any ops Q fuel (listed.setIfInBounds i true) a' w') ?_
        intro F' c' hI' a' hf'
        refine ih _ (by simpa using hz) (by have := left_set hz h1 h2; omega) ?_ ?_ F' c' (hC _ _ F' c' (fun j _ => (listed_set hz h1 j).symm) hI') a' hf'
        · intro j oj hj hoj e he hb
          rw [listed_set hz h1]
          rcases (listed_set hz h1 j).1 hj with rfl | hj
          · rw [ho] at hoj; cases hoj; exact .inr (h3 e he hb)
          · exact .inr (hcl j oj hj hoj e he hb)
        · intro j hj
          rcases (listed_set hz h1 j).1 hj with rfl | hj
          · exact him
          · exact hlm j hj
      · have hall : ∀ j, j < i → listedP listed j := fun j hj => hneed j (tailB_spec hTB h1 (by omega) j hj)
        have him' : i = m := by
          rcases Nat.lt_or_ge m i with h | h
          · have := hlm m (hall m h); omega
          · omega
        have hfull := hT F c (hC _ _ F c (fun j hj => ⟨fun _ => trivial, fun _ => hall j (by omega)⟩) hI) a hf
        have hleftm : fuel + 1 = ops.size - m := by
          rw [← hleft]
          have hp : ∀ j, j < ops.size → ((!listed.getD j false) = true ↔ m ≤ j) := fun j hj => by
            have a1 : listedP listed j ↔ j < m := ⟨hlm j, fun h => hall j (by omega)⟩
            simp only [listedP] at a1
            cases hb : listed.getD j false <;> simp [hb] at a1 ⊢ <;> omega
          have : leftOf listed ops.size = (List.range ops.size).countP (fun j => decide (m ≤ j)) := List.countP_congr fun j hj => by
            rw [hp j (List.mem_range.1 hj)]; simp
          rw [this]
          have hsplit : List.range ops.size = List.range m ++ List.range' m (ops.size - m) := by
            have h := @List.range'_append_1 0 m (ops.size - m)
            rw [Nat.zero_add, show m + (ops.size - m) = ops.size by omega] at h
            rw [List.range_eq_range', List.range_eq_range', h]
          rw [hsplit, List.countP_append]
          have z1 : (List.range m).countP (fun j => decide (m ≤ j)) = 0 := List.countP_eq_zero.2 fun j hj => by
            have := List.mem_range.1 hj; simp; omega
          have z2 : (List.range' m (ops.size - m)).countP (fun j => decide (m ≤ j)) = (List.range' m (ops.size - m)).length := List.countP_eq_length.2 fun j hj => by
            have := List.mem_range'_1.1 hj; simp; omega
          rw [z1, z2]
          simp
        have hany := tail_any (P := P) (Q := Q) hE hN hTB hm (ops.size - m) m (Nat.le_refl _) (by omega) listed a c hz (fun j hj => ⟨hlm j, fun h => hall j (by omega)⟩) hfull
        rw [← hleftm] at hany
        exact hany.2 i hi
end
structure Cx.chgs (G : List Nat) (c c' : Cx) : Prop where
  os : c'.w.os = c.w.os
  tape : c'.w.tape = c.w.tape
  output : c'.w.output = c.w.output
  size : c.w.heap.size ≤ c'.w.heap.size
  keep : ∀ k, k < c.w.heap.size → k ∉ G → c'.w.heap[k]? = c.w.heap[k]?
  old : ∀ k, k < c.w.heap.size → (k ∈ c'.X ↔ k ∈ c.X)
theorem Cx.chgs.refl {G : List Nat} (c : Cx) : c.chgs G c := ⟨rfl, rfl, rfl, Nat.le_refl _, fun _ _ _ => rfl, fun _ _ => Iff.rfl⟩
theorem Cx.chgs.chg {G : List Nat} {g : Option Nat} {a b c : Cx} (h : a.chgs G b) (k : b.chg g c) (hg : ∀ i, g = some i → i ∈ G) : a.chgs G c :=
  ⟨k.os.trans h.os, k.tape.trans h.tape, k.output.trans h.output, Nat.le_trans h.size k.size, fun i hi hn => (k.keep i (Nat.lt_of_lt_of_le hi h.size) (fun e => hn (hg i e))).trans (h.keep i hi hn), fun i hi => (k.old i (Nat.lt_of_lt_of_le hi h.size)).trans (h.old i hi)⟩
theorem Cx.chgs.pub {G : List Nat} {c c' : Cx} (h : c.chgs G c') (hG : ∀ k, k ∈ G → k ∈ c.X) : c.pub c' := ⟨h.size, fun k hk hx => ⟨fun h' => hx ((h.old k hk).1 h'), h.keep k hk (fun e => hx (hG k e))⟩⟩
theorem Cx.chgs.var {α : Type} {G : List Nat} {b : Nat} {c c' : Cx} {r : Rep α} {d : α} (h : c.chgs G c') (hG : ∀ k, k ∈ G → k ∈ c.X) (hv : Var c b r d) (hn : b ∉ G) : Var c' b r d := by
  obtain ⟨h1, T, cs, h2, h3⟩ := hv
  have hlt := c.ok b h1
  exact ⟨(h.old b hlt).2 h1, T, cs, (h.keep b hlt hn).trans h2, r.mono h3 (h.pub hG)⟩
theorem Own.chgs {α : Type} {G : List Nat} {c c' : Cx} {E : TypeId} {v : Value} {r : Rep α} {l : List α} (h : Own c E v r l) (k : c.chgs G c') (hG : ∀ k, k ∈ G → k ∈ c.X) (hne : ∀ i, blk v = some i → i ∉ G) : Own c' E v r l := by
  refine ⟨h.1, ?_⟩
  rcases h.2 with h' | ⟨g', cap, cur, rfl, h1, h2, h3, h4, h5, h6⟩
  · exact .inl h'
  · have hlt := c.ok g' h1
    exact .inr ⟨g', cap, cur, rfl, (k.old g' hlt).2 h1, (k.keep g' hlt (hne g' rfl)).trans h2, h3, h4, h5, arrIs_mono (k.pub hG) h6⟩
theorem Since.chgs {c0 c c' : Cx} {G : List Nat} (h : Since c0 c) (k : c.chgs G c') (hb : ∀ i, i ∈ G → c0.mine i) : Since c0 c' :=
  ⟨⟨k.os.trans h.below.os, k.tape.trans h.below.tape, k.output.trans h.below.output, Nat.le_trans h.below.size k.size, fun i hi hy => (k.keep i (Nat.lt_of_lt_of_le hi h.below.size) (fun e => by
      rcases hb i e with h1 | h1
      · omega
      · exact hy h1)).trans (h.below.block i hi hy)⟩,
   fun i hi hy => (k.old i (c.ok i (h.X i hi hy))).2 (h.X i hi hy)⟩
structure Px where
  p : Value → Cx → Prop
  ok : Nat → Prop
  mono : ∀ {v c g c'}, p v c → c.chg g c' → (∀ k, g = some k → ok k) → p v c'
def Px.any : Px := ⟨fun _ _ => True, fun _ => True, fun _ _ _ => trivial⟩
def Px.eq (v0 : Value) : Px := ⟨fun v _ => v = v0, fun _ => True, fun h _ _ => h⟩
def Px.rep {α : Type} (r : Rep α) (d : α) : Px := ⟨fun v c => r.val c v d, fun _ => True, fun h k _ => h.mono k.pub⟩
def Px.rv {α : Type} (r : RV α) (d : α) : Px := ⟨fun v c => r.p c v d, fun _ => True, fun h k _ => r.mono h k.pub⟩
def Px.gb (A : Prop) (g : Bool) : Px := ⟨fun v _ => (A → v = .bool g) ∧ (¬ A → v = undef), fun _ => True, fun h _ _ => h⟩
def Px.newVar {α : Type} (c0 : Cx) (r : Rep α) (d : α) : Px :=
  ⟨fun v c => ∃ b, v = .pointer (some ⟨b, 0, none⟩) ∧ c0.w.heap.size ≤ b ∧ Var c b r d, fun k => k < c0.w.heap.size,
   fun ⟨b, h1, h2, h3⟩ k ho => ⟨b, h1, h2, k.var (fun e => Nat.not_le_of_lt (ho _ e) h2) h3⟩⟩
def Px.own {α : Type} (c0 : Cx) (E : TypeId) (r : Rep α) (l : List α) : Px :=
  ⟨fun v c => Own c E v r l ∧ ∀ g, blk v = some g → c0.w.heap.size ≤ g, fun k => k < c0.w.heap.size,
   fun h k ho => ⟨h.1.chg k (fun i hi e => Nat.not_le_of_lt (ho _ e) (h.2 i hi)), h.2⟩⟩
def Px.var {α : Type} (b : Nat) (r : Rep α) (d : α) : Px := ⟨fun _ c => Var c b r d, fun k => k ≠ b, fun h k ho => k.var (fun e => ho _ e rfl) h⟩
section
variable {P : Program} {ops : Array Oper} {wr : List Nat} {need : List (List Nat)} {F0 : Fm} {c0 : Cx} {G : List Nat} {gs : List (Option Nat)} {bo : List (Value → Option Nat)} {Φ : Nat → Px} {m : Nat}
end
theorem le_dropv {c c' : Cx} {v : Value} (h : c.le c') (hg : ∀ g, blk v = some g → c.w.heap.size ≤ g) : c.le (c'.dropv v) :=
  ⟨h.below, fun k hk => by
    rw [← h.old k hk]
    simp only [Cx.dropv, List.mem_filter, decide_eq_true_eq, ne_eq]
    exact ⟨fun h => h.1, fun h => ⟨h, fun e => Nat.not_le_of_lt hk (hg k e)⟩⟩⟩
theorem all_nil {p : Nat → Prop} : ∀ k, k ∈ ([] : List Nat) → p k := by simp
theorem all_cons {p : Nat → Prop} {b : Nat} {G : List Nat} (h : p b) (k : ∀ k, k ∈ G → p k) : ∀ k, k ∈ b :: G → p k := by
  intro i hi
  rcases List.mem_cons.1 hi with rfl | hi
  · exact h
  · exact k i hi
theorem y_makeFuncN {P : Program} {K : Value → World → Prop} {F : Fm} {o : Oper} {w : World} {f : FuncId} {l : List Operand} {vs : List Value} (ho : o.op = .makeFunc (.func f) #[] l.toArray) (hv : l.map (ev F) = vs) (h : K (.func (.func f) #[] vs.toArray) w) : Yields P K (run P F o w) :=
  yv (v := .func (.func f) #[] vs.toArray) (w' := w) (by simp [run, execOp, ho, Instr.makeFunc, hv]) h
def minI (a b : Int) : Int := if b < a then b else a
def maxI (a b : Int) : Int := if a < b then b else a
theorem rng_minI {k : IntKind} {a b : Int} (h1 : Rng k a) (h2 : Rng k b) : Rng k (minI a b) := by unfold minI; split <;> assumption
theorem rng_maxI {k : IntKind} {a b : Int} (h1 : Rng k a) (h2 : Rng k b) : Rng k (maxI a b) := by unfold maxI; split <;> assumption
section
variable {P : Program} {K : Value → World → Prop} {F : Fm} {o : Oper} {c : Cx} {w : World}
theorem y_min {x y : Operand} {k : IntKind} {a b : Int} {ats : Array TypeId} (ho : o.op = .call { callee := .builtin .min, args := #[x, y], argTypes := ats }) (hx : ev F x = .int k a) (hy : ev F y = .int k b) (h : K (.int k (minI a b)) w) : Yields P K (run P F o w) :=
  yv (v := .int k (minI a b)) (w' := w) (by simp [run, execOp, ho, resolve, invoke, builtin, Builtin.min_, Builtin.min2, hx, hy, minI]) h
theorem y_max {x y : Operand} {k : IntKind} {a b : Int} {ats : Array TypeId} (ho : o.op = .call { callee := .builtin .max, args := #[x, y], argTypes := ats }) (hx : ev F x = .int k a) (hy : ev F y = .int k b) (h : K (.int k (maxI a b)) w) : Yields P K (run P F o w) :=
  yv (v := .int k (maxI a b)) (w' := w) (by simp [run, execOp, ho, resolve, invoke, builtin, Builtin.max_, Builtin.max2, hx, hy, maxI]) h
end
end Go.Proofs.Ytcbdmoihobdjaaa
