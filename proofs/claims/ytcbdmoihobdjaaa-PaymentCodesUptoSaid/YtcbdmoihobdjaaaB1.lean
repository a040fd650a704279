import Derived.Orders
import Derived.Below
import Derived.WalkKit
namespace Go.Proofs.Ytcbdmoihobdjaaa
open Go.RowKit
abbrev Fm := Nat → Value
def ev (F : Fm) : Operand → Value
 | .tmp t => F t
 | .const v => v
 | .global g => .pointer (some ⟨g, 0, none⟩)
 | .func f => .func (.func f) #[] #[]
structure Fr (n : Nat) (F : Fm) (a : Act) : Prop where
 size : a.tmps.size = n
 defers : a.defers = []
 slot : ∀ t, a.tmps.getD t undef = F t
theorem Fr.eval {n : Nat} {F : Fm} {a : Act} (h : Fr n F a) : a.eval = ev F := by
 funext x
 cases x with
 | tmp t => exact h.slot t
 | const v => rfl
 | global g => rfl
 | func f => rfl
def upd (F : Fm) (d : Nat) (v : Value) : Fm := fun t => if t = d then v else F t
theorem upd_same (F : Fm) (d : Nat) (v : Value) : upd F d v d = v := by simp [upd]
theorem upd_ne (F : Fm) {d t : Nat} (v : Value) (h : t ≠ d) : upd F d v t = F t := by simp [upd, h]
def updO (F : Fm) : Option Nat → Value → Fm
 | some d, v => upd F d v
 | none, _ => F
theorem Fr.put {n : Nat} {F : Fm} {a : Act} (h : Fr n F a) (d : Option Nat) (v : Value) (hd : ∀ t, d = some t → t < n) : Fr n (updO F d v) (a.put d v) := by
 cases d with
 | none => exact ⟨h.size, h.defers, h.slot⟩
 | some d =>
  have hlt : d < n := hd d rfl
  refine ⟨by simpa [Act.put] using h.size, h.defers, fun t => ?_⟩
  have hs := h.slot t
  have hn := h.size
  simp only [Act.put, updO, upd]
  by_cases e : t = d
  ·subst e
   simp [Array.getD_eq_getD_getElem?, hn, hlt]
  ·rw [if_neg e, ← hs]
   simp [Array.getD_eq_getD_getElem?, Ne.symm e]
structure Cx where
 X : List Nat
 w : World
 ok : ∀ k, k ∈ X → k < w.heap.size
 
 Y : List Nat := []
def Cx.mine (c0 : Cx) (k : Nat) : Prop := c0.w.heap.size ≤ k ∨ k ∈ c0.Y
structure BelowY (Y : List Nat) (B : Nat) (w w' : World) : Prop where
 os : w'.os = w.os
 tape : w'.tape = w.tape
 output : w'.output = w.output
 size : w.heap.size ≤ w'.heap.size
 block : ∀ k, k < B → k ∉ Y → w'.heap[k]? = w.heap[k]?
theorem BelowY.refl (Y : List Nat) (B : Nat) (w : World) : BelowY Y B w w := ⟨rfl, rfl, rfl, Nat.le_refl _, fun _ _ _ => rfl⟩
theorem BelowY.step {Y : List Nat} {B B' : Nat} {a b c : World} (h : BelowY Y B a b) (k : Below B' b c) (hB : B ≤ B') : BelowY Y B a c :=
 ⟨k.os.trans h.os, k.tape.trans h.tape, k.output.trans h.output, Nat.le_trans h.size k.size, fun i hi hy => (k.block i (Nat.lt_of_lt_of_le hi hB)).trans (h.block i hi hy)⟩
theorem BelowY.below {B : Nat} {w w' : World} (h : BelowY [] B w w') : Below B w w' := ⟨h.os, h.tape, h.output, h.size, fun k hk => h.block k hk (by simp)⟩
structure Cx.le (c c' : Cx) : Prop where
 below : Below c.w.heap.size c.w c'.w
 old : ∀ k, k < c.w.heap.size → (k ∈ c'.X ↔ k ∈ c.X)
theorem Cx.le.refl (c : Cx) : c.le c := ⟨Below.refl _ _, fun _ _ => Iff.rfl⟩
theorem Cx.le.trans {a b c : Cx} (h : a.le b) (k : b.le c) : a.le c :=
 ⟨h.below.trans (k.below.mono h.below.size), fun i hi => (k.old i (Nat.lt_of_lt_of_le hi h.below.size)).trans (h.old i hi)⟩
theorem Cx.le.size {c c' : Cx} (h : c.le c') : c.w.heap.size ≤ c'.w.heap.size := h.below.size
structure Cx.leY (c c' : Cx) : Prop where
 below : BelowY c.Y c.w.heap.size c.w c'.w
 old : ∀ k, k < c.w.heap.size → k ∉ c.Y → (k ∈ c'.X ↔ k ∈ c.X)
def Cx.noY (c : Cx) : Cx := ⟨c.X, c.w, c.ok, []⟩
theorem Cx.noY_mine {c : Cx} {k : Nat} (h : c.noY.mine k) : c.w.heap.size ≤ k := by
 rcases h with h | h
 ·exact h
 ·exact absurd h (by simp [Cx.noY])
theorem Cx.mine_of {c : Cx} {k : Nat} (hY : c.Y = []) (h : c.mine k) : c.w.heap.size ≤ k := by
 rcases h with h | h
 ·exact h
 ·rw [hY] at h; cases h
theorem Cx.leY.le {c c' : Cx} (h : c.leY c') (hY : c.Y = []) : c.le c' := by
 obtain ⟨h1, h2⟩ := h
 rw [hY] at h1 h2
 exact ⟨h1.below, fun k hk => h2 k hk (by simp)⟩
structure Cx.pub (c c' : Cx) : Prop where
 size : c.w.heap.size ≤ c'.w.heap.size
 keep : ∀ k, k < c.w.heap.size → k ∉ c.X → k ∉ c'.X ∧ c'.w.heap[k]? = c.w.heap[k]?
theorem Cx.pub.refl (c : Cx) : c.pub c := ⟨Nat.le_refl _, fun _ _ h => ⟨h, rfl⟩⟩
theorem Cx.pub_noY (c : Cx) : c.pub c.noY := ⟨Nat.le_refl _, fun _ _ h => ⟨h, rfl⟩⟩
theorem Cx.pub.trans {a b c : Cx} (h : a.pub b) (k : b.pub c) : a.pub c :=
 ⟨Nat.le_trans h.size k.size, fun i hi hx => by
  obtain ⟨h1, h2⟩ := h.keep i hi hx
  obtain ⟨h3, h4⟩ := k.keep i (Nat.lt_of_lt_of_le hi h.size) h1
  exact ⟨h3, h4.trans h2⟩⟩
theorem Cx.le.pub {c c' : Cx} (h : c.le c') : c.pub c' :=
 ⟨h.size, fun k hk hx => ⟨fun h' => hx ((h.old k hk).1 h'), h.below.block k hk⟩⟩
def Cx.at (c : Cx) (w' : World) (h : c.w.heap.size ≤ w'.heap.size) : Cx := { X := c.X, w := w', ok := fun k hk => Nat.lt_of_lt_of_le (c.ok k hk) h }
theorem Cx.le_at {c : Cx} {w' : World} (h : Below c.w.heap.size c.w w') : c.le (c.at w' h.size) := ⟨h, fun _ _ => Iff.rfl⟩
def Cx.new (c : Cx) (o : Obj) : Cx := { X := c.w.heap.size :: c.X, w := c.w.alloc o, ok := fun k hk => (by
 rcases List.mem_cons.1 hk with rfl | h
 ·simp
 ·have := c.ok k h; simp; omega) }
theorem Cx.le_new (c : Cx) (o : Obj) : c.le (c.new o) :=
 ⟨(Below.refl _ _).alloc (Nat.le_refl _) _, fun k hk => by simp [Cx.new, Nat.ne_of_lt hk]⟩
def Yields (P : Program) (K : Value → World → Prop) : Result Next → Prop
 | .ok (.value v) w' => K v w'
 | .ok .skip w' => K undef w'
 | .ok (.enter f args) w' => Calls P f args w' fun e w'' => ∃ v, e = .returned v ∧ K v w''
 | _ => False
theorem Yields.mono {P : Program} {K K' : Value → World → Prop} (h : ∀ v w, K v w → K' v w) {r : Result Next} (hr : Yields P K r) : Yields P K' r := by
 cases r with
 | halt x w => exact hr
 | ok n w =>
  cases n <;> first
   | exact h _ _ hr
   | exact Calls.mono hr (fun e w'' ⟨v, he, hk⟩ => ⟨v, he, h _ _ hk⟩)
   | exact hr
abbrev run (P : Program) (F : Fm) (o : Oper) (w : World) : Result Next := (execOp (ev F) o).run P w
theorem wp_of_yields {P : Program} {o : Oper} {a : Act} {w : World} {K : Act → World → Prop} {Q : Exit → Act → World → Prop} {n : Nat} {F : Fm} (hf : Fr n F a)
  (h : Yields P (fun v w' => K (a.put o.dst v) w') (run P F o w)) : o.wp P a w K Q := by
 unfold Oper.wp run at *
 rw [hf.eval]
 generalize (execOp (ev F) o).run P w = r at *
 cases r with
 | halt x w => exact h.elim
 | ok x w =>
  cases x <;> first
   | exact h
   | exact Calls.mono h (fun e w'' ⟨v, he, hk⟩ => by subst he; exact hk)
   | exact h.elim
def guardB (ops : Array Oper) (F : Fm) (o : Oper) : Bool :=
 match o.guard with
 | none => true
 | some (j, want) => match (ops[j]?).bind (·.dst) with
  | some d => (match F d with | .bool b => b == want | _ => false)
  | none => false
theorem wanted_eq {n : Nat} {ops : Array Oper} {F : Fm} {a : Act} (hf : Fr n F a) (o : Oper) (hg : ∀ j b, o.guard = some (j, b) → ∀ d, (ops[j]?).bind (·.dst) = some d → d < n) :
  Region.wanted o (yielded ops a.tmps) = guardB ops F o := by
 unfold Region.wanted guardB
 cases hgd : o.guard with
 | none => rfl
 | some p =>
  obtain ⟨j, want⟩ := p
  simp only
  unfold yielded
  cases hd : (ops[j]?).bind (·.dst) with
  | none => simp
  | some d =>
   have hlt := hg j want hgd d hd
   have hs := hf.slot d
   have hz : d < a.tmps.size := by rw [hf.size]; exact hlt
   have : a.tmps[d]? = some (F d) := by
    rw [← hs, Array.getD_eq_getD_getElem?, Array.getElem?_eq_getElem hz]; rfl
   simp only [Option.bind_some, this]
   cases F d <;> simp
def slotsB (n : Nat) (ops : Array Oper) : Bool :=
 ops.all fun o => match o.dst with | some d => decide (d < n) | none => true
theorem slotsB_spec {n : Nat} {ops : Array Oper} (h : slotsB n ops = true) {i : Nat} {o : Oper} (ho : ops[i]? = some o) : ∀ d, o.dst = some d → d < n := by
 intro d hd
 obtain ⟨hi, rfl⟩ := Array.getElem?_eq_some_iff.1 ho
 have := (Array.all_eq_true.1 h) i hi
 simp [hd] at this
 exact this
theorem guard_lt {n : Nat} {ops : Array Oper} (h : slotsB n ops = true) (o : Oper) : ∀ j b, o.guard = some (j, b) → ∀ d, (ops[j]?).bind (·.dst) = some d → d < n := by
 intro j b _ d hd
 cases ho : ops[j]? with
 | none => simp [ho] at hd
 | some o' => simp [ho] at hd; exact slotsB_spec h ho d hd
theorem op_next {P : Program} {n : Nat} {ops : Array Oper} {Q : Exit → Act → World → Prop} {K : Act → World → Prop} {i : Nat} {a : Act} {w : World} {F : Fm} {o : Oper} (hs : slotsB n ops = true) (hf : Fr n F a) (ho : ops[i]? = some o)
  (h : if guardB ops F o then Yields P (fun v w' => ∀ a', Fr n (updO F o.dst v) a' → K a' w') (run P F o w) else (∀ a', Fr n (updO F o.dst undef) a' → K a' w)) :
  wpOp P ops Q i K a w := by
 have hlt := slotsB_spec hs ho
 have hw := wanted_eq (ops := ops) hf o (guard_lt hs o)
 simp only [wpOp, ho, hw]
 split
 ·rename_i hg
  rw [if_pos hg] at h
  exact .inl (wp_of_yields hf (Yields.mono (fun v w' hk => hk _ (hf.put _ _ hlt)) h))
 ·rename_i hg
  rw [if_neg hg] at h
  exact h _ (hf.put _ _ hlt)
theorem ops_cons {P : Program} {n : Nat} {ops : Array Oper} {Q : Exit → Act → World → Prop} {i : Nat} {rest : List Nat} {a : Act} {w : World} {F : Fm} {o : Oper} (hs : slotsB n ops = true) (hf : Fr n F a) (ho : ops[i]? = some o)
  (h : if guardB ops F o then Yields P (fun v w' => ∀ a', Fr n (updO F o.dst v) a' → wpOps P ops Q rest a' w') (run P F o w) else (∀ a', Fr n (updO F o.dst undef) a' → wpOps P ops Q rest a' w)) :
  wpOps P ops Q (i :: rest) a w := by
 rw [wpOps_cons]
 exact op_next hs hf ho h
end Go.Proofs.Ytcbdmoihobdjaaa
