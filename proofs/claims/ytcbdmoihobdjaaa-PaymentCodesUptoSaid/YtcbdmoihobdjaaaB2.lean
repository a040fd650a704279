import Derived.Test.YtcbdmoihobdjaaaB1
namespace Go.Proofs.Ytcbdmoihobdjaaa
open Go.RowKit
structure Ph where
 p : Value → Cx → Prop
 mono : ∀ {v c c'}, p v c → c.le c' → p v c'
def Ph.any : Ph := ⟨fun _ _ => True, fun _ _ => trivial⟩
def Ph.eq (v0 : Value) : Ph := ⟨fun v _ => v = v0, fun h _ => h⟩
def dstOf (ops : Array Oper) (i : Nat) : Option Nat := (ops[i]?).bind (·.dst)
def edgesB (ops : Array Oper) : Bool :=
 (List.range ops.size).all fun i => match ops[i]? with
  | some o => o.after.all fun e => !Region.binds .any e || decide (e.on < i)
  | none => true
def needB (ops : Array Oper) (need : List (List Nat)) : Bool :=
 (List.range ops.size).all fun i => match ops[i]? with
  | some o => (need.getD i []).all fun j => o.after.any fun e => Region.binds .any e && (e.on == j || (need.getD e.on []).contains j)
  | none => true
def writeB (ops : Array Oper) (m : Nat) (wr : List Nat) : Bool :=
 (List.range m).all fun i => match dstOf ops i with
  | some d => wr.contains d && (List.range i).all fun j => dstOf ops j != some d
  | none => true
def tailB (ops : Array Oper) (m : Nat) (need : List (List Nat)) : Bool :=
 (List.range ops.size).all fun i => decide (i < m) || (List.range i).all fun j => (need.getD i []).contains j
def flowB (n m : Nat) (ops : Array Oper) (wr : List Nat) (need : List (List Nat)) : Bool :=
 slotsB n ops && edgesB ops && needB ops need && writeB ops m wr && tailB ops m need && decide (m ≤ ops.size)
section
variable {ops : Array Oper} {need : List (List Nat)}
theorem edgesB_spec (h : edgesB ops = true) {i : Nat} {o : Oper} (ho : ops[i]? = some o) : ∀ e ∈ o.after, Region.binds .any e = true → e.on < i := by
 intro e he hb
 have hi : i < ops.size := (Array.getElem?_eq_some_iff.1 ho).1
 have h1 := List.all_eq_true.1 h i (List.mem_range.2 hi)
 simp only [ho] at h1
 obtain ⟨k, hk, rfl⟩ := Array.mem_iff_getElem.1 he
 have := (Array.all_eq_true.1 h1) k hk
 simpa [hb] using this
theorem needB_spec (h : needB ops need = true) {i : Nat} {o : Oper} (ho : ops[i]? = some o) : ∀ j ∈ need.getD i [], ∃ e ∈ o.after, Region.binds .any e = true ∧ (e.on = j ∨ j ∈ need.getD e.on []) := by
 intro j hj
 have hi : i < ops.size := (Array.getElem?_eq_some_iff.1 ho).1
 have h1 := List.all_eq_true.1 h i (List.mem_range.2 hi)
 simp only [ho] at h1
 have h2 := List.all_eq_true.1 h1 j hj
 obtain ⟨k, hk, h3⟩ := Array.any_eq_true.1 h2
 simp only [Bool.and_eq_true, Bool.or_eq_true, beq_iff_eq, List.contains_iff_mem] at h3
 exact ⟨o.after[k], Array.getElem_mem hk, h3.1, h3.2⟩
theorem writeB_spec {m : Nat} {wr : List Nat} (h : writeB ops m wr = true) {i : Nat} (hi : i < m) {d : Nat} (hd : dstOf ops i = some d) : d ∈ wr ∧ ∀ j < i, dstOf ops j ≠ some d := by
 have h1 := List.all_eq_true.1 h i (List.mem_range.2 hi)
 simp only [hd, Bool.and_eq_true, List.contains_iff_mem] at h1
 exact ⟨h1.1, fun j hj => by simpa using List.all_eq_true.1 h1.2 j (List.mem_range.2 hj)⟩
theorem writeB_ne {m : Nat} {wr : List Nat} (h : writeB ops m wr = true) {i j : Nat} (hi : i < m) (hj : j < m) (hne : i ≠ j) {d : Nat} (hd : dstOf ops i = some d) : dstOf ops j ≠ some d := by
 rcases Nat.lt_or_ge j i with h1 | h1
 ·exact (writeB_spec h hi hd).2 j h1
 ·intro hj'
  exact (writeB_spec h hj hj').2 i (by omega) hd
theorem tailB_spec {m : Nat} (h : tailB ops m need = true) {i : Nat} (hi : i < ops.size) (hm : m ≤ i) : ∀ j < i, j ∈ need.getD i [] := by
 intro j hj
 have h1 := List.all_eq_true.1 h i (List.mem_range.2 hi)
 simp only [Bool.or_eq_true, decide_eq_true_eq] at h1
 rcases h1 with h1 | h1
 ·omega
 ·simpa using List.all_eq_true.1 h1 j (List.mem_range.2 hj)
def Closed (ops : Array Oper) (L : Nat → Prop) : Prop := ∀ i o, L i → ops[i]? = some o → ∀ e ∈ o.after, Region.binds .any e = true → L e.on
theorem need_listed (hE : edgesB ops = true) (hN : needB ops need = true) {L : Nat → Prop} (hL : Closed ops L) :
  ∀ i o, ops[i]? = some o → (∀ e ∈ o.after, Region.binds .any e = true → L e.on) → ∀ j ∈ need.getD i [], L j := by
 intro i
 induction i using Nat.strongRecOn with
 | _ i ih =>
  intro o ho ha j hj
  obtain ⟨e, he, hb, h⟩ := needB_spec hN ho j hj
  rcases h with rfl | h
  ·exact ha e he hb
  ·have hlt := edgesB_spec hE ho e he hb
   have hle := ha e he hb
   cases hoe : ops[e.on]? with
   | none =>
    have hi : i < ops.size := (Array.getElem?_eq_some_iff.1 ho).1
    have := Array.getElem?_eq_none_iff.1 hoe
    omega
   | some oe => exact ih e.on hlt oe hoe (fun e' he' hb' => hL e.on oe hle hoe e' he' hb') j h
theorem need_lt (hE : edgesB ops = true) (hN : needB ops need = true) {i : Nat} {o : Oper} (ho : ops[i]? = some o) : ∀ j ∈ need.getD i [], j < i := by
 refine need_listed (L := fun j => j < i) hE hN (fun k o' hk ho' e he hb => ?_) i o ho (fun e he hb => edgesB_spec hE ho e he hb)
 have := edgesB_spec hE ho' e he hb
 omega
end
section
variable {P : Program} {ops : Array Oper} {Q : Exit → Act → World → Prop} {n m : Nat} {wr : List Nat} {need : List (List Nat)} {F0 : Fm} {c0 : Cx} {Φ : Nat → Ph}
def HeadOb (P : Program) (ops : Array Oper) (need : List (List Nat)) (wr : List Nat) (F0 : Fm) (c0 : Cx) (Φ : Nat → Ph) (i : Nat) : Prop :=
 ∀ o, ops[i]? = some o → ∀ F c, c0.le c → (∀ j, j ∈ need.getD i [] → ∀ d, dstOf ops j = some d → (Φ j).p (F d) c) → (∀ t, t ∉ wr → F t = F0 t) →
  ∀ K : Value → World → Prop, (∀ v c', c.le c' → (Φ i).p v c' → K v c'.w) → if guardB ops F o then Yields P K (run P F o c.w) else K undef c.w
def HeadInv (ops : Array Oper) (m : Nat) (wr : List Nat) (F0 : Fm) (c0 : Cx) (Φ : Nat → Ph) (L : Nat → Prop) (F : Fm) (c : Cx) : Prop :=
 c0.le c ∧ (∀ i, i < m → L i → ∀ d, dstOf ops i = some d → (Φ i).p (F d) c) ∧ (∀ t, t ∉ wr → F t = F0 t)
theorem head_step (hW : writeB ops m wr = true) (hE : edgesB ops = true) (hN : needB ops need = true) {L : Nat → Prop} {F : Fm} {c : Cx} (hI : HeadInv ops m wr F0 c0 Φ L F c)
  {i : Nat} (hi : i < m) {o : Oper} (ho : ops[i]? = some o) (hL : ∀ j ∈ need.getD i [], L j) (H : HeadOb P ops need wr F0 c0 Φ i)
  {K : Fm → World → Prop} (hK : ∀ F' c', HeadInv ops m wr F0 c0 Φ (fun j => j = i ∨ L j) F' c' → K F' c'.w) :
  if guardB ops F o then Yields P (fun v w' => K (updO F o.dst v) w') (run P F o c.w) else K (updO F o.dst undef) c.w := by
 refine H o ho F c hI.1 (fun j hj d hd => hI.2.1 j (by have := need_lt hE hN ho j hj; omega) (hL j hj) d hd) hI.2.2 (fun v w' => K (updO F o.dst v) w') ?_
 intro v c' hle hv
 refine hK _ _ ⟨hI.1.trans hle, ?_, ?_⟩
 ·intro j hj hLj d hd
  by_cases hij : j = i
  ·subst hij
   have : o.dst = some d := by simpa [dstOf, ho] using hd
   rw [this]
   simpa [updO, upd_same] using hv
  ·have hold : (Φ j).p (F d) c := hI.2.1 j hj (hLj.resolve_left hij) d hd
   have hne : o.dst ≠ some d := by
    have := writeB_ne hW hj hi hij hd
    simpa [dstOf, ho] using this
   have : updO F o.dst v d = F d := by
    cases hod : o.dst with
    | none => rfl
    | some e => exact upd_ne _ _ (by rintro rfl; exact hne hod)
   rw [this]
   exact (Φ j).mono hold hle
 ·intro t ht
  have : updO F o.dst v t = F t := by
   cases hod : o.dst with
   | none => rfl
   | some e =>
    have := (writeB_spec hW hi (d := e) (by simp [dstOf, ho, hod])).1
    exact upd_ne _ _ (by rintro rfl; exact ht this)
  rw [this]
  exact hI.2.2 t ht
theorem flow_seq (hs : slotsB n ops = true) (hE : edgesB ops = true) (hN : needB ops need = true) (hW : writeB ops m wr = true) (hm : m ≤ ops.size)
  (H : ∀ i, i < m → HeadOb P ops need wr F0 c0 Φ i)
  (hT : ∀ F c, HeadInv ops m wr F0 c0 Φ (fun _ => True) F c → ∀ a, Fr n F a → wpOps P ops Q (List.range' m (ops.size - m)) a c.w) :
  ∀ k r, k + r = m → ∀ F c, HeadInv ops m wr F0 c0 Φ (fun j => j < k) F c → ∀ a, Fr n F a → wpOps P ops Q (List.range' k (r + (ops.size - m))) a c.w := by
 intro k r
 induction r generalizing k with
 | zero =>
  intro hk F c hI a hf
  obtain rfl : k = m := by omega
  simpa using hT F c ⟨hI.1, fun i hi _ d hd => hI.2.1 i hi hi d hd, hI.2.2⟩ a hf
 | succ r ih =>
  intro hk F c hI a hf
  have hkm : k < m := by omega
  have hlt : k < ops.size := by omega
  have ho : ops[k]? = some ops[k] := Array.getElem?_eq_getElem hlt
  rw [show r + 1 + (ops.size - m) = (r + (ops.size - m)) + 1 by omega, List.range'_succ]
  refine ops_cons hs hf ho ?_
  have hL : ∀ j ∈ need.getD k [], j < k := need_lt hE hN ho
  refine head_step hW hE hN hI hkm ho hL (H k hkm) (K := fun F' w' => ∀ a', Fr n F' a' → wpOps P ops Q (List.range' (k + 1) (r + (ops.size - m))) a' w') ?_
  intro F' c' hI' a' hf'
  exact ih (k + 1) (by omega) F' c' ⟨hI'.1, fun i hi hik d hd => hI'.2.1 i hi (by omega) d hd, hI'.2.2⟩ a' hf'
def listedP (listed : Array Bool) (i : Nat) : Prop := listed.getD i false = true
theorem listed_set {listed : Array Bool} {N i : Nat} (hz : listed.size = N) (hi : i < N) (j : Nat) : listedP (listed.setIfInBounds i true) j ↔ (j = i ∨ listedP listed j) := by
 unfold listedP
 simp only [Array.getD_eq_getD_getElem?, Array.getElem?_setIfInBounds]
 by_cases h : i = j
 ·subst h; simp [hz, hi]
 ·simp [h, Ne.symm h]
theorem ready_iff {listed : Array Bool} (hz : listed.size = ops.size) (i : Nat) : i ∈ Region.ready .any ops listed ↔ i < ops.size ∧ ¬ listedP listed i ∧ ∃ o, ops[i]? = some o ∧ ∀ e ∈ o.after, Region.binds .any e = true → listedP listed e.on := by
 unfold Region.ready listedP
 simp only [List.mem_filter, List.mem_range, Bool.and_eq_true, Bool.not_eq_true']
 constructor
 ·rintro ⟨hi, h1, h2⟩
  have ho : ops[i]? = some ops[i] := Array.getElem?_eq_getElem hi
  rw [ho] at h2
  simp only [Option.map_some, Option.getD_some] at h2
  refine ⟨hi, ?_, ops[i], ho, fun e he hb => ?_⟩
  ·have : i < listed.size := by omega
   simp [Array.getD_eq_getD_getElem?, Array.getElem?_eq_getElem this] at h1 ⊢
   exact h1
  ·obtain ⟨k, hk, rfl⟩ := Array.mem_iff_getElem.1 he
   have := (Array.all_eq_true.1 h2) k hk
   simpa [hb] using this
 ·rintro ⟨hi, h1, o, ho, h2⟩
  have hl : i < listed.size := by omega
  refine ⟨hi, ?_, ?_⟩
  ·simp [Array.getD_eq_getD_getElem?, Array.getElem?_eq_getElem hl] at h1 ⊢
   exact h1
  ·rw [ho]
   simp only [Option.map_some, Option.getD_some]
   refine Array.all_eq_true.2 fun k hk => ?_
   have := h2 o.after[k] (Array.getElem_mem hk)
   cases hb : Region.binds .any o.after[k]
   ·simp
   ·simpa using this hb
theorem ready_nil {listed : Array Bool} (hE : edgesB ops = true) (hz : listed.size = ops.size) (h : Region.ready .any ops listed = []) : ∀ i, i < ops.size → listedP listed i := by
 intro i
 induction i using Nat.strongRecOn with
 | _ i ih =>
  intro hi
  by_cases hl : listedP listed i
  ·exact hl
  ·exfalso
   have ho : ops[i]? = some ops[i] := Array.getElem?_eq_getElem hi
   have : i ∈ Region.ready .any ops listed := (ready_iff hz i).2 ⟨hi, hl, _, ho, fun e he hb => ih e.on (edgesB_spec hE ho e he hb) (by have := edgesB_spec hE ho e he hb; omega)⟩
   rw [h] at this
   simp at this
def leftOf (listed : Array Bool) (N : Nat) : Nat := (List.range N).countP fun i => !listed.getD i false
theorem countP_upd (p q : Nat → Bool) (i : Nat) : ∀ l : List Nat, l.Nodup → i ∈ l → p i = true → q i = false → (∀ j, j ≠ i → q j = p j) → l.countP p = l.countP q + 1
 | [], _, h, _, _, _ => by simp at h
 | a :: l, hn, hm, hp, hq, he => by
  obtain ⟨ha, hl⟩ := List.nodup_cons.1 hn
  by_cases h : a = i
  ·subst h
   have : l.countP p = l.countP q := List.countP_congr fun j hj => by
    have : j ≠ a := fun e => ha (e ▸ hj)
    simp [he j this]
   simp [hp, hq, this]
  ·have hm' : i ∈ l := by
    rcases List.mem_cons.1 hm with h' | h'
    ·exact absurd h'.symm h
    ·exact h'
   have := countP_upd p q i l hl hm' hp hq he
   simp only [List.countP_cons, he a h, this]
   omega
theorem left_set {listed : Array Bool} {N i : Nat} (hz : listed.size = N) (hi : i < N) (hl : ¬ listedP listed i) : leftOf listed N = leftOf (listed.setIfInBounds i true) N + 1 := by
 refine countP_upd _ _ i _ List.nodup_range (List.mem_range.2 hi) ?_ ?_ ?_
 ·simpa [listedP] using hl
 ·have := (listed_set hz hi i).2 (.inl rfl)
  simp only [listedP] at this
  simp [this]
 ·intro j hj
  have := listed_set hz hi j
  simp only [listedP, hj, false_or] at this
  cases h1 : listed.getD j false <;> cases h2 : (listed.setIfInBounds i true).getD j false <;> simp_all
theorem left_zero {listed : Array Bool} {N : Nat} (h : leftOf listed N = 0) : ∀ i, i < N → listedP listed i := by
 intro i hi
 have := List.countP_eq_zero.1 h i (List.mem_range.2 hi)
 simpa [listedP] using this
theorem ready_done {listed : Array Bool} (hz : listed.size = ops.size) (h : ∀ i, i < ops.size → listedP listed i) : Region.ready .any ops listed = [] := by
 apply List.eq_nil_iff_forall_not_mem.2
 intro i hi
 obtain ⟨h1, h2, _⟩ := (ready_iff hz i).1 hi
 exact h2 (h i h1)
theorem tail_any (hE : edgesB ops = true) (hN : needB ops need = true) (hT : tailB ops m need = true) (hm : m ≤ ops.size) :
  ∀ r k, m ≤ k → k + r = ops.size → ∀ (listed : Array Bool) (a : Act) (w : World), listed.size = ops.size → (∀ j, j < ops.size → (listedP listed j ↔ j < k)) →
   wpOps P ops Q (List.range' k r) a w → wpAny P .any ops Q r listed a w := by
 intro r
 induction r with
 | zero =>
  intro k hmk hk listed a w hz hl h
  exact ⟨ready_done hz fun i hi => (hl i hi).2 (by omega), h⟩
 | succ r ih =>
  intro k hmk hk listed a w hz hl h
  have hk' : k < ops.size := by omega
  have hclosed : Closed ops (listedP listed) := fun i o hi ho e he hb => by
   have h1 : i < ops.size := (Array.getElem?_eq_some_iff.1 ho).1
   have h2 := (hl i h1).1 hi
   have h3 := edgesB_spec hE ho e he hb
   exact (hl _ (by omega)).2 (by omega)
  refine ⟨fun h0 => ?_, fun i hi => ?_⟩
  ·exact absurd ((hl k hk').1 (ready_nil hE hz h0 k hk')) (by omega)
  ·obtain ⟨h1, h2, o, ho, h3⟩ := (ready_iff hz i).1 hi
   have hik : i = k := by
    have hge : k ≤ i := Nat.le_of_not_lt fun hlt => h2 ((hl i h1).2 hlt)
    rcases Nat.lt_or_ge k i with hlt | hle
    ·have := need_listed hE hN hclosed i o ho h3 k (tailB_spec hT h1 (by omega) k hlt)
     exact absurd ((hl k hk').1 this) (by omega)
    ·omega
   subst hik
   rw [List.range'_succ, wpOps_cons] at h
   refine wpOp_mono (fun a' w' h' => ?_) h
   refine ih (i + 1) (by omega) (by omega) _ a' w' (by simpa using hz) (fun j hj => ?_) h'
   rw [listed_set hz h1 j, hl j hj]
   omega
theorem flow_any (hs : slotsB n ops = true) (hE : edgesB ops = true) (hN : needB ops need = true) (hW : writeB ops m wr = true) (hTB : tailB ops m need = true) (hm : m ≤ ops.size)
  (H : ∀ i, i < m → HeadOb P ops need wr F0 c0 Φ i)
  (hT : ∀ F c, HeadInv ops m wr F0 c0 Φ (fun _ => True) F c → ∀ a, Fr n F a → wpOps P ops Q (List.range' m (ops.size - m)) a c.w) :
  ∀ fuel (listed : Array Bool), listed.size = ops.size → leftOf listed ops.size = fuel → Closed ops (listedP listed) → (∀ j, listedP listed j → j < m) →
   ∀ F c, HeadInv ops m wr F0 c0 Φ (listedP listed) F c → ∀ a, Fr n F a → wpAny P .any ops Q fuel listed a c.w := by
 intro fuel
 induction fuel with
 | zero =>
  intro listed hz hleft _ hlm F c hI a hf
  have hall := left_zero hleft
  have hmN : m = ops.size := by
   rcases Nat.lt_or_ge m ops.size with h | h
   ·have := hlm m (hall m h); omega
   ·omega
  refine ⟨ready_done hz hall, ?_⟩
  have := hT F c ⟨hI.1, fun i hi _ d hd => hI.2.1 i hi (hall i (by omega)) d hd, hI.2.2⟩ a hf
  simpa [hmN, wpOps] using this
 | succ fuel ih =>
  intro listed hz hleft hcl hlm F c hI a hf
  refine ⟨fun h0 => ?_, fun i hi => ?_⟩
  ·exfalso
   have hall := ready_nil hE hz h0
   have : leftOf listed ops.size = 0 := List.countP_eq_zero.2 fun i hi => by
    have := hall i (List.mem_range.1 hi)
    simpa [listedP] using this
   omega
  ·obtain ⟨h1, h2, o, ho, h3⟩ := (ready_iff hz i).1 hi
   have hneed := need_listed hE hN hcl i o ho h3
   by_cases him : i < m
   ·refine op_next hs hf ho ?_
    refine head_step hW hE hN hI him ho hneed (H i him) (K := fun F' w' => ∀ a', Fr n F' a' → wpAny P .any ops Q fuel (listed.setIfInBounds i true) a' w') ?_
    intro F' c' hI' a' hf'
    refine ih _ (by simpa using hz) (by have := left_set hz h1 h2; omega) ?_ ?_ F' c' ⟨hI'.1, fun j hj hlj d hd => hI'.2.1 j hj ((listed_set hz h1 j).1 hlj) d hd, hI'.2.2⟩ a' hf'
    ·intro j oj hj hoj e he hb
     rw [listed_set hz h1]
     rcases (listed_set hz h1 j).1 hj with rfl | hj
     ·rw [ho] at hoj; cases hoj; exact .inr (h3 e he hb)
     ·exact .inr (hcl j oj hj hoj e he hb)
    ·intro j hj
     rcases (listed_set hz h1 j).1 hj with rfl | hj
     ·exact him
     ·exact hlm j hj
   ·-- the first operation behind the head
    have hall : ∀ j, j < i → listedP listed j := fun j hj => hneed j (tailB_spec hTB h1 (by omega) j hj)
    have him' : i = m := by
     rcases Nat.lt_or_ge m i with h | h
     ·have := hlm m (hall m h); omega
     ·omega
    have hfull := hT F c ⟨hI.1, fun j hj _ d hd => hI.2.1 j hj (hall j (by omega)) d hd, hI.2.2⟩ a hf
    have hleftm : fuel + 1 = ops.size - m := by
     rw [← hleft]
     have hp : ∀ j, j < ops.size → ((!listed.getD j false) = true ↔ m ≤ j) := fun j hj => by
      have a1 : listedP listed j ↔ j < m := ⟨hlm j, fun h => hall j (by omega)⟩
      simp only [listedP] at a1
      cases hb : listed.getD j false <;> simp [hb] at a1 ⊢ <;> omega
     have : leftOf listed ops.size = (List.range ops.size).countP (fun j => decide (m ≤ j)) := List.countP_congr fun j hj => by
      rw [hp j (List.mem_range.1 hj)]; simp
     rw [this]
     have hsplit : List.range ops.size = List.range m ++ List.range' m (ops.size - m) := by
      have h := @List.range'_append_1 0 m (ops.size - m)
      rw [Nat.zero_add, show m + (ops.size - m) = ops.size by omega] at h
      rw [List.range_eq_range', List.range_eq_range', h]
     rw [hsplit, List.countP_append]
     have z1 : (List.range m).countP (fun j => decide (m ≤ j)) = 0 := List.countP_eq_zero.2 fun j hj => by
      have := List.mem_range.1 hj; simp; omega
     have z2 : (List.range' m (ops.size - m)).countP (fun j => decide (m ≤ j)) = (List.range' m (ops.size - m)).length := List.countP_eq_length.2 fun j hj => by
      have := List.mem_range'_1.1 hj; simp; omega
     rw [z1, z2]
     simp
    have hany := tail_any (P := P) (Q := Q) hE hN hTB hm (ops.size - m) m (Nat.le_refl _) (by omega) listed a c.w hz (fun j hj => ⟨hlm j, fun h => hall j (by omega)⟩) hfull
    rw [← hleftm] at hany
    exact hany.2 i hi
theorem flow (hB : flowB n m ops wr need = true) (hmo : P.follows .mixedOrders = true) {id : Nat} {draw : Bool} {a : Act} (hf : Fr n F0 a)
  (H : ∀ i, i < m → HeadOb P ops need wr F0 c0 Φ i)
  (hT : ∀ F c, c0.le c → (∀ i, i < m → ∀ d, dstOf ops i = some d → (Φ i).p (F d) c) → (∀ t, t ∉ wr → F t = F0 t) → ∀ a, Fr n F a → wpOps P ops Q (List.range' m (ops.size - m)) a c.w) :
  (Code.region id ops draw).wp P Q a c0.w := by
 simp only [flowB, Bool.and_eq_true, decide_eq_true_eq] at hB
 obtain ⟨⟨⟨⟨⟨hs, hE⟩, hN⟩, hW⟩, hTB⟩, hm⟩ := hB
 have hT' : ∀ F c, HeadInv ops m wr F0 c0 Φ (fun _ => True) F c → ∀ a, Fr n F a → wpOps P ops Q (List.range' m (ops.size - m)) a c.w :=
  fun F c hI a hf => hT F c hI.1 (fun i hi d hd => hI.2.1 i hi trivial d hd) hI.2.2 a hf
 cases draw with
 | false =>
  refine wp_region ?_
  have := flow_seq (Q := Q) hs hE hN hW hm H hT' 0 m (by omega) F0 c0 ⟨Cx.le.refl _, fun i _ h => absurd h (by omega), fun _ _ => rfl⟩ a hf
  rw [show m + (ops.size - m) = ops.size by omega] at this
  rw [List.range_eq_range']
  exact this
 | true =>
  refine wp_region_any hmo ?_
  have hd : c0.le (c0.at c0.w.drew (Nat.le_refl _)) := ⟨(Below.refl _ _).drew, fun _ _ => Iff.rfl⟩
  refine flow_any (Q := Q) hs hE hN hW hTB hm H hT' ops.size _ (by simp) ?_ ?_ ?_ F0 (c0.at c0.w.drew (Nat.le_refl _)) ⟨hd, ?_, fun _ _ => rfl⟩ a hf
  ·have : ∀ i, (Array.replicate ops.size false).getD i false = false := fun i => by
    simp only [Array.getD_eq_getD_getElem?, Array.getElem?_replicate]; split <;> rfl
   simp [leftOf, this]
  ·intro i o hi
   exfalso
   simp only [listedP, Array.getD_eq_getD_getElem?, Array.getElem?_replicate] at hi
   split at hi <;> simp at hi
  ·intro i hi
   exfalso
   simp only [listedP, Array.getD_eq_getD_getElem?, Array.getElem?_replicate] at hi
   split at hi <;> simp at hi
  ·intro i _ hi
   exfalso
   simp only [listedP, Array.getD_eq_getD_getElem?, Array.getElem?_replicate] at hi
   split at hi <;> simp at hi
end
end Go.Proofs.Ytcbdmoihobdjaaa
