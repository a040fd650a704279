/-
  Base 10: a region whose head also stores into variables of one's own, in whatever order.
-/
import Derived.Test.YtcbdmoihobdjaaaB9
namespace Go.Proofs.Ytcbdmoihobdjaaa
open Go.RowKit

section
variable {P : Program} {ops : Array Oper} {Q : Exit → Act → World → Prop} {n m : Nat} {wr : List Nat} {need : List (List Nat)} {Inv : (Nat → Prop) → Fm → World → Prop}

/-- One step of the head, as an invariant over what is listed sees it. -/
def StepOb (P : Program) (ops : Array Oper) (need : List (List Nat)) (m : Nat) (Inv : (Nat → Prop) → Fm → World → Prop) : Prop :=
  ∀ L F w i o, Inv L F w → i < m → ops[i]? = some o → (∀ j ∈ need.getD i [], L j) → (∀ j, j < m → i ∈ need.getD j [] → ¬ L j) → ¬ L i →
    ∀ K : Fm → World → Prop, (∀ F' w', Inv (fun j => j = i ∨ L j) F' w' → K F' w') → if guardB ops F o then Yields P (fun v w' => K (updO F o.dst v) w') (run P F o w) else K (updO F o.dst undef) w

theorem flowX_any (hs : slotsB n ops = true) (hE : edgesB ops = true) (hN : needB ops need = true) (hTB : tailB ops m need = true) (hm : m ≤ ops.size)
    (hC : ∀ L L' F w, (∀ i, i < m → (L i ↔ L' i)) → Inv L F w → Inv L' F w) (H : StepOb P ops need m Inv)
    (hT : ∀ F w, Inv (fun _ => True) F w → ∀ a, Fr n F a → wpOps P ops Q (List.range' m (ops.size - m)) a w) :
    ∀ fuel (listed : Array Bool), listed.size = ops.size → leftOf listed ops.size = fuel → Closed ops (listedP listed) → (∀ j, listedP listed j → j < m) →
      ∀ F w, Inv (listedP listed) F w → ∀ a, Fr n F a → wpAny P .any ops Q fuel listed a w := by
  intro fuel
  induction fuel with
  | zero =>
    intro listed hz hleft _ hlm F c hI a hf
    have hall := left_zero hleft
    have hmN : m = ops.size := by
      rcases Nat.lt_or_ge m ops.size with h | h
      · have := hlm m (hall m h); omega
      · omega
    refine ⟨ready_done hz hall, ?_⟩
    have := hT F c (hC _ _ F c (fun i hi => ⟨fun _ => trivial, fun _ => hall i (by omega)⟩) hI) a hf
    simpa [hmN, wpOps] using this
  | succ fuel ih =>
    intro listed hz hleft hcl hlm F c hI a hf
    refine ⟨fun h0 => ?_, fun i hi => ?_⟩
    · exfalso
      have hall := ready_nil hE hz h0
      have : leftOf listed ops.size = 0 := List.countP_eq_zero.2 fun i hi => by
        have := hall i (List.mem_range.1 hi)
        simpa [listedP] using this
      omega
    · obtain ⟨h1, h2, o, ho, h3⟩ := (ready_iff hz i).1 hi
      have hneed := need_listed hE hN hcl i o ho h3
      by_cases him : i < m
      · refine op_next hs hf ho ?_
        have hnot : ∀ j, j < m → i ∈ need.getD j [] → ¬ listedP listed j := by
          intro j hj hij hl
          have hjo : ops[j]? = some ops[j] := Array.getElem?_eq_getElem (by omega)
          exact h2 (need_listed hE hN hcl j _ hjo (fun e he hb => hcl j _ hl hjo e he hb) i hij)
        refine H _ F c i o hI him ho hneed hnot h2 (fun F' w' => ∀ a', Fr n F' a' → wpAny P .any ops Q fuel (listed.setIfInBounds i true) a' w') ?_
        intro F' c' hI' a' hf'
        refine ih _ (by simpa using hz) (by have := left_set hz h1 h2; omega) ?_ ?_ F' c' (hC _ _ F' c' (fun j _ => (listed_set hz h1 j).symm) hI') a' hf'
        · intro j oj hj hoj e he hb
          rw [listed_set hz h1]
          rcases (listed_set hz h1 j).1 hj with rfl | hj
          · rw [ho] at hoj; cases hoj; exact .inr (h3 e he hb)
          · exact .inr (hcl j oj hj hoj e he hb)
        · intro j hj
          rcases (listed_set hz h1 j).1 hj with rfl | hj
          · exact him
          · exact hlm j hj
      · have hall : ∀ j, j < i → listedP listed j := fun j hj => hneed j (tailB_spec hTB h1 (by omega) j hj)
        have him' : i = m := by
          rcases Nat.lt_or_ge m i with h | h
          · have := hlm m (hall m h); omega
          · omega
        have hfull := hT F c (hC _ _ F c (fun j hj => ⟨fun _ => trivial, fun _ => hall j (by omega)⟩) hI) a hf
        have hleftm : fuel + 1 = ops.size - m := by
          rw [← hleft]
          have hp : ∀ j, j < ops.size → ((!listed.getD j false) = true ↔ m ≤ j) := fun j hj => by
            have a1 : listedP listed j ↔ j < m := ⟨hlm j, fun h => hall j (by omega)⟩
            simp only [listedP] at a1
            cases hb : listed.getD j false <;> simp [hb] at a1 ⊢ <;> omega
          have : leftOf listed ops.size = (List.range ops.size).countP (fun j => decide (m ≤ j)) := List.countP_congr fun j hj => by
            rw [hp j (List.mem_range.1 hj)]; simp
          rw [this]
          have hsplit : List.range ops.size = List.range m ++ List.range' m (ops.size - m) := by
            have h := @List.range'_append_1 0 m (ops.size - m)
            rw [Nat.zero_add, show m + (ops.size - m) = ops.size by omega] at h
            rw [List.range_eq_range', List.range_eq_range', h]
          rw [hsplit, List.countP_append]
          have z1 : (List.range m).countP (fun j => decide (m ≤ j)) = 0 := List.countP_eq_zero.2 fun j hj => by
            have := List.mem_range.1 hj; simp; omega
          have z2 : (List.range' m (ops.size - m)).countP (fun j => decide (m ≤ j)) = (List.range' m (ops.size - m)).length := List.countP_eq_length.2 fun j hj => by
            have := List.mem_range'_1.1 hj; simp; omega
          rw [z1, z2]
          simp
        have hany := tail_any (P := P) (Q := Q) hE hN hTB hm (ops.size - m) m (Nat.le_refl _) (by omega) listed a c hz (fun j hj => ⟨hlm j, fun h => hall j (by omega)⟩) hfull
        rw [← hleftm] at hany
        exact hany.2 i hi
end

/-- Some private blocks may have turned; new blocks may have come. -/
structure Cx.chgs (G : List Nat) (c c' : Cx) : Prop where
  os : c'.w.os = c.w.os
  tape : c'.w.tape = c.w.tape
  output : c'.w.output = c.w.output
  size : c.w.heap.size ≤ c'.w.heap.size
  keep : ∀ k, k < c.w.heap.size → k ∉ G → c'.w.heap[k]? = c.w.heap[k]?
  old : ∀ k, k < c.w.heap.size → (k ∈ c'.X ↔ k ∈ c.X)
theorem Cx.chgs.refl {G : List Nat} (c : Cx) : c.chgs G c := ⟨rfl, rfl, rfl, Nat.le_refl _, fun _ _ _ => rfl, fun _ _ => Iff.rfl⟩
theorem Cx.chgs.chg {G : List Nat} {g : Option Nat} {a b c : Cx} (h : a.chgs G b) (k : b.chg g c) (hg : ∀ i, g = some i → i ∈ G) : a.chgs G c :=
  ⟨k.os.trans h.os, k.tape.trans h.tape, k.output.trans h.output, Nat.le_trans h.size k.size, fun i hi hn => (k.keep i (Nat.lt_of_lt_of_le hi h.size) (fun e => hn (hg i e))).trans (h.keep i hi hn), fun i hi => (k.old i (Nat.lt_of_lt_of_le hi h.size)).trans (h.old i hi)⟩
theorem Cx.chgs.pub {G : List Nat} {c c' : Cx} (h : c.chgs G c') (hG : ∀ k, k ∈ G → k ∈ c.X) : c.pub c' := ⟨h.size, fun k hk hx => ⟨fun h' => hx ((h.old k hk).1 h'), h.keep k hk (fun e => hx (hG k e))⟩⟩
theorem Cx.chgs.var {α : Type} {G : List Nat} {b : Nat} {c c' : Cx} {r : Rep α} {d : α} (h : c.chgs G c') (hG : ∀ k, k ∈ G → k ∈ c.X) (hv : Var c b r d) (hn : b ∉ G) : Var c' b r d := by
  obtain ⟨h1, T, cs, h2, h3⟩ := hv
  have hlt := c.ok b h1
  exact ⟨(h.old b hlt).2 h1, T, cs, (h.keep b hlt hn).trans h2, r.mono h3 (h.pub hG)⟩
theorem Cx.chgs.var' {α : Type} {G : List Nat} {b : Nat} {c c' : Cx} {r : Rep α} {d : α} (h : c.chgs G c') (hG : ∀ k, k ∈ G → k ∈ c.X) (hv : Var c b r d) (hn : c'.w.heap[b]? = c.w.heap[b]?) : Var c' b r d := by
  obtain ⟨h1, T, cs, h2, h3⟩ := hv
  have hlt := c.ok b h1
  exact ⟨(h.old b hlt).2 h1, T, cs, hn.trans h2, r.mono h3 (h.pub hG)⟩
theorem Own.chgs {α : Type} {G : List Nat} {c c' : Cx} {E : TypeId} {v : Value} {r : Rep α} {l : List α} (h : Own c E v r l) (k : c.chgs G c') (hG : ∀ k, k ∈ G → k ∈ c.X) (hne : ∀ i, blk v = some i → i ∉ G) : Own c' E v r l := by
  refine ⟨h.1, ?_⟩
  rcases h.2 with h' | ⟨g', cap, cur, rfl, h1, h2, h3, h4, h5, h6⟩
  · exact .inl h'
  · have hlt := c.ok g' h1
    exact .inr ⟨g', cap, cur, rfl, (k.old g' hlt).2 h1, (k.keep g' hlt (hne g' rfl)).trans h2, h3, h4, h5, arrIs_mono (k.pub hG) h6⟩
theorem Since.chgs {c0 c c' : Cx} {G : List Nat} (h : Since c0 c) (k : c.chgs G c') (hb : ∀ i, i ∈ G → c0.mine i) : Since c0 c' :=
  ⟨⟨k.os.trans h.below.os, k.tape.trans h.below.tape, k.output.trans h.below.output, Nat.le_trans h.below.size k.size, fun i hi hy => (k.keep i (Nat.lt_of_lt_of_le hi h.below.size) (fun e => by
      rcases hb i e with h1 | h1
      · omega
      · exact hy h1)).trans (h.below.block i hi hy)⟩,
   fun i hi hy => (k.old i (c.ok i (h.X i hi hy))).2 (h.X i hi hy)⟩

/-- What is known of a value, and which blocks may turn beside it. -/
structure Px where
  p : Value → Cx → Prop
  ok : Nat → Prop
  mono : ∀ {v c g c'}, p v c → c.chg g c' → (∀ k, g = some k → ok k) → p v c'
def Px.any : Px := ⟨fun _ _ => True, fun _ => True, fun _ _ _ => trivial⟩
def Px.eq (v0 : Value) : Px := ⟨fun v _ => v = v0, fun _ => True, fun h _ _ => h⟩
def Px.when (b : Prop) (φ : Px) : Px := ⟨fun v c => b → φ.p v c, φ.ok, fun h k ho hb => φ.mono (h hb) k ho⟩
def Px.rep {α : Type} (r : Rep α) (d : α) : Px := ⟨fun v c => r.val c v d, fun _ => True, fun h k _ => h.mono k.pub⟩
def Px.rv {α : Type} (r : RV α) (d : α) : Px := ⟨fun v c => r.p c v d, fun _ => True, fun h k _ => r.mono h k.pub⟩
def Px.gb (A : Prop) (g : Bool) : Px := ⟨fun v _ => (A → v = .bool g) ∧ (¬ A → v = undef), fun _ => True, fun h _ _ => h⟩
def Px.opt (v : Value) (n i off : Nat) : Px := ⟨fun p _ => optIs v n i off p, fun _ => True, fun h _ _ => h⟩
def Px.nilt {α : Type} (l : List α) (want : Bool) : Px := ⟨fun v _ => NilT l want v, fun _ => True, fun h _ _ => h⟩
def Px.newVar {α : Type} (c0 : Cx) (r : Rep α) (d : α) : Px :=
  ⟨fun v c => ∃ b, v = .pointer (some ⟨b, 0, none⟩) ∧ c0.w.heap.size ≤ b ∧ Var c b r d, fun k => k < c0.w.heap.size,
   fun ⟨b, h1, h2, h3⟩ k ho => ⟨b, h1, h2, k.var (fun e => Nat.not_le_of_lt (ho _ e) h2) h3⟩⟩
def Px.own {α : Type} (c0 : Cx) (E : TypeId) (r : Rep α) (l : List α) : Px :=
  ⟨fun v c => Own c E v r l ∧ ∀ g, blk v = some g → c0.w.heap.size ≤ g, fun k => k < c0.w.heap.size,
   fun h k ho => ⟨h.1.chg k (fun i hi e => Nat.not_le_of_lt (ho _ e) (h.2 i hi)), h.2⟩⟩
/-- A variable behind its store. -/
def Px.var {α : Type} (b : Nat) (r : Rep α) (d : α) : Px := ⟨fun _ c => Var c b r d, fun k => k ≠ b, fun h k ho => k.var (fun e => ho _ e rfl) h⟩

/-- The block that a pointer leads to. -/
def pb : Value → Option Nat
  | .pointer (some a) => some a.block
  | _ => none
def nb : Value → Option Nat := fun _ => none
theorem noB {p : Prop} {g : Nat} (h : (none : Option Nat) = some g) : p := by cases h

section
variable {P : Program} {ops : Array Oper} {wr : List Nat} {need : List (List Nat)} {F0 : Fm} {c0 : Cx} {G : List Nat} {gs : List (Option Nat)} {bo : List (Value → Option Nat)} {Φ : Nat → Px} {m : Nat}

def slotV (ops : Array Oper) (F : Fm) (i : Nat) : Value := match dstOf ops i with | some d => F d | none => undef

/-- The facts in an obligation. -/
structure FactsX (ops : Array Oper) (need : List (List Nat)) (wr : List Nat) (G : List Nat) (gs : List (Option Nat)) (F0 : Fm) (c0 : Cx) (Φ : Nat → Px) (m i : Nat) (F : Fm) (c : Cx) : Prop where
  le : c0.chgs G c
  of : ∀ j, j ∈ need.getD i [] → ∀ d, dstOf ops j = some d → (Φ j).p (F d) c
  old : ∀ t, t ∉ wr → F t = F0 t
  same : ∀ j, j < m → ∀ b, gs.getD j none = some b → (j = i ∨ i ∈ need.getD j []) → c.w.heap[b]? = c0.w.heap[b]?
structure FactsX0 (ops : Array Oper) (m : Nat) (wr : List Nat) (G : List Nat) (bo : List (Value → Option Nat)) (F0 : Fm) (c0 : Cx) (Φ : Nat → Px) (F : Fm) (c : Cx) : Prop where
  le : c0.chgs G c
  of : ∀ j, j < m → ∀ d, dstOf ops j = some d → (Φ j).p (F d) c
  st : ∀ j, j < m → dstOf ops j = none → (Φ j).p undef c
  dis : ∀ i j, i < m → j < m → i ≠ j → ∀ d e, dstOf ops i = some d → dstOf ops j = some e → ∀ g, bo.getD i nb (F d) = some g → bo.getD j nb (F e) ≠ some g
  old : ∀ t, t ∉ wr → F t = F0 t

def HeadX (P : Program) (ops : Array Oper) (need : List (List Nat)) (wr : List Nat) (G : List Nat) (gs : List (Option Nat)) (bo : List (Value → Option Nat)) (F0 : Fm) (c0 : Cx) (Φ : Nat → Px) (m i : Nat) : Prop :=
  ∀ o, ops[i]? = some o → ∀ F c, FactsX ops need wr G gs F0 c0 Φ m i F c →
    ∀ K : Value → World → Prop, (∀ v c', c.chg (gs.getD i none) c' → (Φ i).p v c' → (∀ g, bo.getD i nb v = some g → c.w.heap.size ≤ g ∧ g < c'.w.heap.size) → K v c'.w) → if guardB ops F o then Yields P (fun v w' => K (if o.dst = none then undef else v) w') (run P F o c.w) else K undef c.w

def InvX (ops : Array Oper) (m : Nat) (wr : List Nat) (G : List Nat) (gs : List (Option Nat)) (bo : List (Value → Option Nat)) (F0 : Fm) (c0 : Cx) (Φ : Nat → Px) (L : Nat → Prop) (F : Fm) (w : World) : Prop :=
  ∃ c : Cx, c.w = w ∧ c0.chgs G c ∧ (∀ i, i < m → L i → (Φ i).p (slotV ops F i) c) ∧ (∀ i, i < m → ¬ L i → ∀ b, gs.getD i none = some b → c.w.heap[b]? = c0.w.heap[b]?) ∧ (∀ t, t ∉ wr → F t = F0 t) ∧
    (∀ i, i < m → L i → ∀ g, bo.getD i nb (slotV ops F i) = some g → g < c.w.heap.size) ∧ (∀ i j, i < m → j < m → L i → L j → i ≠ j → ∀ g, bo.getD i nb (slotV ops F i) = some g → bo.getD j nb (slotV ops F j) ≠ some g)

def distinctB (gs : List (Option Nat)) (G : List Nat) : Prop := (∀ i b, gs.getD i none = some b → b ∈ G) ∧ ∀ i j b, gs.getD i none = some b → gs.getD j none = some b → i = j

theorem stepX (hW : writeB ops m wr = true) (hE : edgesB ops = true) (hN : needB ops need = true) (hd : distinctB gs G) (hGlt : ∀ k, k ∈ G → k < c0.w.heap.size)
    (hok : ∀ i, i < m → ∀ k, k ∈ G → gs.getD i none = some k ∨ (Φ i).ok k) (H : ∀ i, i < m → HeadX P ops need wr G gs bo F0 c0 Φ m i) : StepOb P ops need m (InvX ops m wr G gs bo F0 c0 Φ) := by
  rintro L F w i o ⟨c, rfl, h1, h2, h3, h4, h5, h6⟩ hi ho hneed hnot hLi K hK
  have hfx : FactsX ops need wr G gs F0 c0 Φ m i F c := ⟨h1, fun j hj d hdj => by
      have hjm : j < m := by have := need_lt hE hN ho j hj; omega
      have := h2 j hjm (hneed j hj)
      simpa [slotV, hdj] using this, h4, fun j hj b hb hor => h3 j hj (by
      rcases hor with rfl | h
      · exact hLi
      · exact hnot j hj h) b hb⟩
  have hother : ∀ v j, j < m → j ≠ i → slotV ops (updO F o.dst v) j = slotV ops F j := by
    intro v j hj hij
    unfold slotV
    cases hdj : dstOf ops j with
    | none => rfl
    | some d =>
      have hne : o.dst ≠ some d := by
        have := writeB_ne hW hj hi hij hdj
        simpa [dstOf, ho] using this
      cases hod : o.dst with
      | none => rfl
      | some e => exact upd_ne _ _ (by rintro rfl; exact hne hod)
  have hself : ∀ v, slotV ops (updO F o.dst v) i = if o.dst = none then undef else v := by
    intro v
    cases hod : o.dst with
    | none => simp [slotV, dstOf, ho, hod]
    | some d => simp [slotV, dstOf, ho, hod, updO, upd_same]
  have key : ∀ v c', c.chg (gs.getD i none) c' → (Φ i).p (if o.dst = none then undef else v) c' → (∀ g, bo.getD i nb (if o.dst = none then undef else v) = some g → c.w.heap.size ≤ g ∧ g < c'.w.heap.size) → InvX ops m wr G gs bo F0 c0 Φ (fun j => j = i ∨ L j) (updO F o.dst v) c'.w := by
    intro v c' hch hv hbo
    refine ⟨c', rfl, h1.chg hch (fun k hk => hd.1 i k hk), ?_, ?_, ?_, ?_, ?_⟩
    · intro j hj hLj
      by_cases hij : j = i
      · subst hij
        rw [hself]; exact hv
      · have hold := h2 j hj (hLj.resolve_left hij)
        have hok' : ∀ k, gs.getD i none = some k → (Φ j).ok k := fun k hk => (hok j hj k (hd.1 i k hk)).resolve_left (fun e => hij (hd.2 j i k e hk))
        rw [hother v j hj hij]
        exact (Φ j).mono hold hch hok'
    · intro j hj hLj b hb
      have hij : j ≠ i := fun e => hLj (.inl e)
      have hne : gs.getD i none ≠ some b := fun e => hij (hd.2 j i b hb e)
      exact (hch.keep b (Nat.lt_of_lt_of_le (hGlt b (hd.1 j b hb)) h1.size) hne).trans (h3 j hj (fun e => hLj (.inr e)) b hb)
    · intro t ht
      have : updO F o.dst v t = F t := by
        cases hod : o.dst with
        | none => rfl
        | some e =>
          have := (writeB_spec hW hi (d := e) (by simp [dstOf, ho, hod])).1
          exact upd_ne _ _ (by rintro rfl; exact ht this)
      rw [this]
      exact h4 t ht
    · intro j hj hLj g hg
      by_cases hij : j = i
      · subst hij
        rw [hself] at hg
        exact (hbo g hg).2
      · rw [hother v j hj hij] at hg
        exact Nat.lt_of_lt_of_le (h5 j hj (hLj.resolve_left hij) g hg) hch.size
    · intro j k hj hk hLj hLk hjk g hg hg'
      by_cases hij : j = i
      · subst hij
        rw [hself] at hg
        rw [hother v k hk (Ne.symm hjk)] at hg'
        have a1 := (hbo g hg).1
        have a2 := h5 k hk (hLk.resolve_left (Ne.symm hjk)) g hg'
        omega
      · rw [hother v j hj hij] at hg
        by_cases hik : k = i
        · subst hik
          rw [hself] at hg'
          have a1 := (hbo g hg').1
          have a2 := h5 j hj (hLj.resolve_left hij) g hg
          omega
        · rw [hother v k hk hik] at hg'
          exact h6 j k hj hk (hLj.resolve_left hij) (hLk.resolve_left hik) hjk g hg hg'
  have hH := H i hi o ho F c hfx (fun v w' => ∀ u, (o.dst = none → v = undef) → (o.dst ≠ none → u = v) → K (updO F o.dst u) w') (fun v c' hch hv hbo u hu1 hu2 => by
    have huv : (if o.dst = none then undef else u) = v := by
      by_cases e : o.dst = none
      · rw [if_pos e]; exact (hu1 e).symm
      · rw [if_neg e, hu2 e]
    exact hK _ _ (key u c' hch (huv ▸ hv) (huv ▸ hbo)))
  split
  · rename_i hg
    rw [if_pos hg] at hH
    refine hH.mono fun v w' hk => hk v (fun e => by simp [e]) (fun e => by simp [e])
  · rename_i hg
    rw [if_neg hg] at hH
    exact hH undef (fun _ => rfl) (fun _ => rfl)

/-- THE RULE FOR A REGION with stores in its head. -/
theorem regionX {Q : Exit → Act → World → Prop} {n : Nat} (m : Nat) (wr : List Nat) (G : List Nat) (gs : List (Option Nat)) (bo : List (Value → Option Nat)) (need : List (List Nat)) (rest : List Nat) (Φ : Nat → Px)
    (hB : flowB n m ops wr need = true) (hR : List.range' m (ops.size - m) = rest) (hmo : P.follows .mixedOrders = true) {id : Nat} {a : Act} (hf : Fr n F0 a) (hd : distinctB gs G) (hGlt : ∀ k, k ∈ G → k < c0.w.heap.size)
    (hok : AllFrom (fun i => ∀ k, k ∈ G → gs.getD i none = some k ∨ (Φ i).ok k) 0 m)
    (H : AllFrom (HeadX P ops need wr G gs bo F0 c0 Φ m) 0 m)
    (hT : ∀ F c, FactsX0 ops m wr G bo F0 c0 Φ F c → ∀ a, Fr n F a → wpOps P ops Q rest a c.w) :
    (Code.region id ops true).wp P Q a c0.w := by
  subst hR
  simp only [flowB, Bool.and_eq_true, decide_eq_true_eq] at hB
  obtain ⟨⟨⟨⟨⟨hs, hE⟩, hN⟩, hW⟩, hTB⟩, hm⟩ := hB
  refine wp_region_any hmo ?_
  have hdr : c0.chgs G (c0.at c0.w.drew (Nat.le_refl _)) := ⟨rfl, rfl, rfl, Nat.le_refl _, fun _ _ _ => rfl, fun _ _ => Iff.rfl⟩
  have hnone : ∀ i, ¬ listedP (Array.replicate ops.size false) i := fun i hi => by
    simp only [listedP, Array.getD_eq_getD_getElem?, Array.getElem?_replicate] at hi
    split at hi <;> simp at hi
  refine flowX_any (Inv := InvX ops m wr G gs bo F0 c0 Φ) hs hE hN hTB hm ?_ (stepX hW hE hN hd hGlt (fun i hi => hok.get i (Nat.zero_le _) (by omega)) (fun i hi => H.get i (Nat.zero_le _) (by omega))) ?_ ops.size _ (by simp) ?_ ?_ ?_ F0 _ ⟨_, rfl, hdr, ?_, ?_, fun _ _ => rfl, ?_, ?_⟩ a hf
  · rintro L L' F w hL ⟨c, hc, h1, h2, h3, h4, h5, h6⟩
    exact ⟨c, hc, h1, fun i hi hl => h2 i hi ((hL i hi).2 hl), fun i hi hl => h3 i hi (fun e => hl ((hL i hi).1 e)), h4, fun i hi hl => h5 i hi ((hL i hi).2 hl), fun i j hi hj hl hl' => h6 i j hi hj ((hL i hi).2 hl) ((hL j hj).2 hl')⟩
  · rintro F w ⟨c, rfl, h1, h2, h3, h4, h5, h6⟩ a hf
    exact hT F c ⟨h1, fun j hj d hdj => by have := h2 j hj trivial; simpa [slotV, hdj] using this, fun j hj hdj => by have := h2 j hj trivial; simpa [slotV, hdj] using this, fun i j hi hj hij d e hd he g hg => by
      have := h6 i j hi hj trivial trivial hij g
      simp only [slotV, hd, he] at this
      exact this hg, h4⟩ a hf
  · have : ∀ i, (Array.replicate ops.size false).getD i false = false := fun i => by
      simp only [Array.getD_eq_getD_getElem?, Array.getElem?_replicate]; split <;> rfl
    simp [leftOf, this]
  · intro i o hi; exact absurd hi (hnone i)
  · intro i hi; exact absurd hi (hnone i)
  · intro i _ hi; exact absurd hi (hnone i)
  · intro i _ _ b _; rfl
  · intro i _ hi; exact absurd hi (hnone i)
  · intro i j _ _ hi; exact absurd hi (hnone i)

theorem obX {i : Nat} {o : Oper} (ho : ops[i]? = some o) (hg : o.guard = none) (hdst : o.dst ≠ none)
    (h : ∀ F c, FactsX ops need wr G gs F0 c0 Φ m i F c → ∀ K : Value → World → Prop, (∀ v c', c.chg (gs.getD i none) c' → (Φ i).p v c' → (∀ g, bo.getD i nb v = some g → c.w.heap.size ≤ g ∧ g < c'.w.heap.size) → K v c'.w) → Yields P K (run P F o c.w)) : HeadX P ops need wr G gs bo F0 c0 Φ m i := by
  intro o' ho' F c hfx K hK
  rw [ho] at ho'; cases ho'
  have : guardB ops F o = true := by simp [guardB, hg]
  rw [if_pos this]
  exact (h F c hfx K hK).mono fun v w' hk => by rw [if_neg hdst]; exact hk
theorem obXs {i : Nat} {o : Oper} (ho : ops[i]? = some o) (hg : o.guard = none) (hdst : o.dst = none) (hb : bo.getD i nb undef = none)
    (h : ∀ F c, FactsX ops need wr G gs F0 c0 Φ m i F c → ∀ K : Value → World → Prop, (∀ c', c.chg (gs.getD i none) c' → (Φ i).p undef c' → K undef c'.w) → Yields P K (run P F o c.w)) : HeadX P ops need wr G gs bo F0 c0 Φ m i := by
  intro o' ho' F c hfx K hK
  rw [ho] at ho'; cases ho'
  have : guardB ops F o = true := by simp [guardB, hg]
  rw [if_pos this]
  refine (h F c hfx (fun _ w' => K undef w') (fun c' h1 h2 => hK undef c' h1 h2 (fun g hg => by rw [hb] at hg; cases hg))).mono fun v w' hk => by rw [if_pos hdst]; exact hk
end

theorem le_dropv {c c' : Cx} {v : Value} (h : c.le c') (hg : ∀ g, blk v = some g → c.w.heap.size ≤ g) : c.le (c'.dropv v) :=
  ⟨h.below, fun k hk => by
    rw [← h.old k hk]
    simp only [Cx.dropv, List.mem_filter, decide_eq_true_eq, ne_eq]
    exact ⟨fun h => h.1, fun h => ⟨h, fun e => Nat.not_le_of_lt hk (hg k e)⟩⟩⟩
theorem slice_rngN {α : Type} {r : Rep α} {c : Cx} {v : Value} {l : List α} (h : (rSlice r).val c v l) : l.length ≤ 1073741824 := slice_rng h
theorem Own.lenN {α : Type} {c : Cx} {E : TypeId} {v : Value} {r : Rep α} {l : List α} (h : Own c E v r l) : l.length ≤ 1073741824 := h.1
/-- A new struct, one of whose slices is to be one's own. -/
theorem hole_zero {α : Type} {r : Rep α} {c : Cx} {v : Value} {d : α} {off : Nat} (h : r.val c v d) (hv : v.cells.toList[off]? = some nilS) : (rHole r off).val c v (d, nilS) := by
  obtain ⟨cs, h1, rfl⟩ := h
  rw [mkV_cells r h1] at hv
  have e : cs.set off nilS = cs := by
    apply List.ext_getElem?
    intro j
    by_cases e : j = off
    · subst e; rw [List.getElem?_set_self (List.getElem?_eq_some_iff.1 hv).1, hv]
    · rw [List.getElem?_set_ne (fun h => e h.symm)]
  exact ⟨cs, ⟨hv, rfl, by rw [e]; exact h1⟩, rfl⟩
theorem Facts.ol {ops : Array Oper} {need : List (List Nat)} {wr : List Nat} {F0 : Fm} {c0 : Cx} {Φ : Nat → Ph} {i : Nat} {F : Fm} {c : Cx} (h : Facts ops need wr F0 c0 Φ i F c) (t : Nat) (ht : t ∉ wr := by decide) : F t = F0 t := h.old t ht
theorem Facts0.ol {ops : Array Oper} {m : Nat} {wr : List Nat} {F0 : Fm} {c0 : Cx} {Φ : Nat → Ph} {F : Fm} {c : Cx} (h : Facts0 ops m wr F0 c0 Φ F c) (t : Nat) (ht : t ∉ wr := by decide) : F t = F0 t := h.old t ht
theorem FactsX.ol {ops : Array Oper} {need : List (List Nat)} {wr G : List Nat} {gs : List (Option Nat)} {F0 : Fm} {c0 : Cx} {Φ : Nat → Px} {m i : Nat} {F : Fm} {c : Cx} (h : FactsX ops need wr G gs F0 c0 Φ m i F c) (t : Nat) (ht : t ∉ wr := by decide) : F t = F0 t := h.old t ht
theorem ng1 {p q : Prop} (hn : ¬ p) : Cx → p → q := fun _ h => absurd h hn
theorem ng2 {p : Prop} {g : Bool} (hn : ¬ p) : Cx → (p → undef = .bool g) ∧ (¬ p → undef = undef) := fun _ => ⟨fun h => absurd h hn, fun _ => rfl⟩
def seqNeed (n : Nat) : List (List Nat) := (List.range n).map List.range
theorem notIn_nil {b : Nat} : b ∉ ([] : List Nat) := by simp
theorem notIn_cons {b d : Nat} {G : List Nat} (h : b ≠ d) (k : b ∉ G) : b ∉ d :: G := by simp [h, k]
theorem all_nil {p : Nat → Prop} : ∀ k, k ∈ ([] : List Nat) → p k := by simp
theorem all_cons {p : Nat → Prop} {b : Nat} {G : List Nat} (h : p b) (k : ∀ k, k ∈ G → p k) : ∀ k, k ∈ b :: G → p k := by
  intro i hi
  rcases List.mem_cons.1 hi with rfl | hi
  · exact h
  · exact k i hi
theorem lall_nil {α : Type} {p : α → Prop} : ∀ k, k ∈ ([] : List α) → p k := by simp
theorem lall_cons {α : Type} {p : α → Prop} {b : α} {G : List α} (h : p b) (k : ∀ k, k ∈ G → p k) : ∀ k, k ∈ b :: G → p k := by
  intro i hi
  rcases List.mem_cons.1 hi with rfl | hi
  · exact h
  · exact k i hi
theorem blkIn_nil {v : Value} : ∀ i, blk v = some i → i ∉ ([] : List Nat) := by simp
theorem blkIn_cons {v : Value} {b : Nat} {G : List Nat} (h : blk v ≠ some b) (k : ∀ i, blk v = some i → i ∉ G) : ∀ i, blk v = some i → i ∉ b :: G :=
  fun i hi => notIn_cons (fun e => h (e ▸ hi)) (k i hi)
theorem dis_nil : distinctB [] [] := ⟨fun i b h => by simp at h, fun i j b h => by simp at h⟩
theorem dis_none {gs : List (Option Nat)} {G : List Nat} (h : distinctB gs G) : distinctB (none :: gs) G := by
  refine ⟨fun i b hb => ?_, fun i j b hb hb' => ?_⟩
  · cases i with
    | zero => simp at hb
    | succ i => exact h.1 i b (by simpa using hb)
  · cases i with
    | zero => simp at hb
    | succ i => cases j with
      | zero => simp at hb'
      | succ j => exact congrArg (· + 1) (h.2 i j b (by simpa using hb) (by simpa using hb'))
theorem dis_some {gs : List (Option Nat)} {G : List Nat} {d : Nat} (h : distinctB gs G) (hd : d ∉ G) : distinctB (some d :: gs) (d :: G) := by
  refine ⟨fun i b hb => ?_, fun i j b hb hb' => ?_⟩
  · cases i with
    | zero => simp at hb; simp [hb]
    | succ i => exact List.mem_cons_of_mem _ (h.1 i b (by simpa using hb))
  · cases i with
    | zero =>
      simp at hb; subst hb
      cases j with
      | zero => rfl
      | succ j => exact absurd (h.1 j d (by simpa using hb')) hd
    | succ i =>
      cases j with
      | zero => simp at hb'; subst hb'; exact absurd (h.1 i d (by simpa using hb)) hd
      | succ j => exact congrArg (· + 1) (h.2 i j b (by simpa using hb) (by simpa using hb'))

theorem cons_eq {α : Type} {a b : α} {l m : List α} (h : a = b) (k : l = m) : a :: l = b :: m := by rw [h, k]
theorem y_makeFuncN {P : Program} {K : Value → World → Prop} {F : Fm} {o : Oper} {w : World} {f : FuncId} {l : List Operand} {vs : List Value} (ho : o.op = .makeFunc (.func f) #[] l.toArray) (hv : l.map (ev F) = vs) (h : K (.func (.func f) #[] vs.toArray) w) : Yields P K (run P F o w) :=
  yv (v := .func (.func f) #[] vs.toArray) (w' := w) (by simp [run, execOp, ho, Instr.makeFunc, hv]) h

/-! ## min, max -/
def minI (a b : Int) : Int := if b < a then b else a
def maxI (a b : Int) : Int := if a < b then b else a
theorem rng_minI {k : IntKind} {a b : Int} (h1 : Rng k a) (h2 : Rng k b) : Rng k (minI a b) := by unfold minI; split <;> assumption
theorem rng_maxI {k : IntKind} {a b : Int} (h1 : Rng k a) (h2 : Rng k b) : Rng k (maxI a b) := by unfold maxI; split <;> assumption
theorem minI_eq (a b : Int) : minI a b = min a b := by unfold minI; omega
theorem maxI_eq (a b : Int) : maxI a b = max a b := by unfold maxI; omega
section
variable {P : Program} {K : Value → World → Prop} {F : Fm} {o : Oper} {c : Cx} {w : World}
theorem y_min {x y : Operand} {k : IntKind} {a b : Int} {ats : Array TypeId} (ho : o.op = .call { callee := .builtin .min, args := #[x, y], argTypes := ats }) (hx : ev F x = .int k a) (hy : ev F y = .int k b) (h : K (.int k (minI a b)) w) : Yields P K (run P F o w) :=
  yv (v := .int k (minI a b)) (w' := w) (by simp [run, execOp, ho, resolve, invoke, builtin, Builtin.min_, Builtin.min2, hx, hy, minI]) h
theorem y_max {x y : Operand} {k : IntKind} {a b : Int} {ats : Array TypeId} (ho : o.op = .call { callee := .builtin .max, args := #[x, y], argTypes := ats }) (hx : ev F x = .int k a) (hy : ev F y = .int k b) (h : K (.int k (maxI a b)) w) : Yields P K (run P F o w) :=
  yv (v := .int k (maxI a b)) (w' := w) (by simp [run, execOp, ho, resolve, invoke, builtin, Builtin.max_, Builtin.max2, hx, hy, maxI]) h
end
end Go.Proofs.Ytcbdmoihobdjaaa
