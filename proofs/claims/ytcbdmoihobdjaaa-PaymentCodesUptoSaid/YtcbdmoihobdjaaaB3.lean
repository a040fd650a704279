import Derived.Test.YtcbdmoihobdjaaaB2
namespace Go.Proofs.Ytcbdmoihobdjaaa
open Go.RowKit
def mkV (agg : Bool) (cs : List Value) : Value := if agg then .agg cs.toArray else cs.headD undef
structure Rep (α : Type) where
 n : Nat
 agg : Bool
 is : Cx → List Value → α → Prop
 len : ∀ {c cs d}, is c cs d → cs.length = n
 mono : ∀ {c c' cs d}, is c cs d → c.pub c' → is c' cs d
 one : agg = false → n = 1
 cell : ∀ {c cs d}, is c cs d → ∀ u ∈ cs, u.oneCell' = true
def Rep.val {α : Type} (r : Rep α) (c : Cx) (v : Value) (d : α) : Prop := ∃ cs, r.is c cs d ∧ v = mkV r.agg cs
theorem Rep.val.mono {α : Type} {r : Rep α} {c c' : Cx} {v : Value} {d : α} (h : r.val c v d) (k : c.pub c') : r.val c' v d :=
 let ⟨cs, h1, h2⟩ := h
 ⟨cs, r.mono h1 k, h2⟩
theorem mkV_cells {α : Type} (r : Rep α) {c : Cx} {cs : List Value} {d : α} (h : r.is c cs d) : (mkV r.agg cs).cells.toList = cs := by
 unfold mkV
 cases ha : r.agg with
 | true => simp [Value.cells]
 | false =>
  have hl := r.len h
  rw [r.one ha] at hl
  match cs, hl with
  | [u], _ =>
   have := r.cell h u (by simp)
   cases u <;> first | rfl | simp [Value.oneCell'] at this
theorem Rep.val.cells {α : Type} {r : Rep α} {c : Cx} {v : Value} {d : α} (h : r.val c v d) : r.is c v.cells.toList d := by
 obtain ⟨cs, h1, rfl⟩ := h
 rw [mkV_cells r h1]
 exact h1
def Ph.rep {α : Type} (r : Rep α) (d : α) : Ph := ⟨fun v c => r.val c v d, fun h k => h.mono k.pub⟩
structure RV (α : Type) where
 p : Cx → Value → α → Prop
 mono : ∀ {c c' v d}, p c v d → c.pub c' → p c' v d
def Rep.rv {α : Type} (r : Rep α) : RV α := ⟨r.val, fun h k => h.mono k⟩
def Ph.rv {α : Type} (r : RV α) (d : α) : Ph := ⟨fun v c => r.p c v d, fun h k => r.mono h k.pub⟩
def Rng (k : IntKind) (d : Int) : Prop := k.min ≤ d ∧ d ≤ k.max
def LEN : Nat := 1073741824
theorem rng_wrap (k : IntKind) (n : Int) : Rng k (k.wrap n) := by
 cases k <;> simp [Rng, IntKind.wrap, IntKind.min, IntKind.max, IntKind.bits, IntKind.signed] <;> omega
def rPair {α β : Type} (r : Rep α) (s : Rep β) : Rep (α × β) where
 n := r.n + s.n
 agg := true
 is c cs d := ∃ c1 c2, cs = c1 ++ c2 ∧ r.is c c1 d.1 ∧ s.is c c2 d.2
 len h := by obtain ⟨c1, c2, rfl, h1, h2⟩ := h; rw [List.length_append, r.len h1, s.len h2]
 mono h k := by obtain ⟨c1, c2, e, h1, h2⟩ := h; exact ⟨c1, c2, e, r.mono h1 k, s.mono h2 k⟩
 one h := by cases h
 cell h := by
  obtain ⟨c1, c2, rfl, h1, h2⟩ := h
  intro u hu
  rcases List.mem_append.1 hu with h | h
  ·exact r.cell h1 u h
  ·exact s.cell h2 u h
def arrIs {α : Type} (r : Rep α) (c : Cx) : List Value → List α → Prop
 | cs, [] => cs = []
 | cs, d :: l => ∃ c1 c2, cs = c1 ++ c2 ∧ r.is c c1 d ∧ arrIs r c c2 l
theorem arrIs_len {α : Type} {r : Rep α} {c : Cx} : ∀ {cs : List Value} {l : List α}, arrIs r c cs l → cs.length = l.length * r.n
 | _, [], h => by rw [h]; simp
 | _, d :: l, ⟨c1, c2, e, h1, h2⟩ => by rw [e, List.length_append, r.len h1, arrIs_len h2, List.length_cons, Nat.add_mul]; omega
theorem arrIs_mono {α : Type} {r : Rep α} {c c' : Cx} (k : c.pub c') : ∀ {cs : List Value} {l : List α}, arrIs r c cs l → arrIs r c' cs l
 | _, [], h => h
 | _, _ :: _, ⟨c1, c2, e, h1, h2⟩ => ⟨c1, c2, e, r.mono h1 k, arrIs_mono k h2⟩
theorem arrIs_cell {α : Type} {r : Rep α} {c : Cx} : ∀ {cs : List Value} {l : List α}, arrIs r c cs l → ∀ u ∈ cs, u.oneCell' = true
 | _, [], h => by rw [h]; simp
 | _, _ :: _, ⟨c1, c2, e, h1, h2⟩ => by
  subst e
  intro u hu
  rcases List.mem_append.1 hu with h | h
  ·exact r.cell h1 u h
  ·exact arrIs_cell h2 u h
theorem arrIs_append {α : Type} {r : Rep α} {c : Cx} : ∀ {cs ds : List Value} {l m : List α}, arrIs r c cs l → arrIs r c ds m → arrIs r c (cs ++ ds) (l ++ m)
 | _, _, [], _, h, h' => by rw [h]; simpa using h'
 | _, _, _ :: _, _, ⟨c1, c2, e, h1, h2⟩, h' => ⟨c1, c2 ++ _, by rw [e, List.append_assoc], h1, arrIs_append h2 h'⟩
theorem arrIs_get {α : Type} {r : Rep α} {c : Cx} : ∀ {cs : List Value} {l : List α}, arrIs r c cs l → ∀ (i : Nat) (h : i < l.length), r.is c ((cs.drop (i * r.n)).take r.n) l[i]
 | _, d :: l, ⟨c1, c2, e, h1, h2⟩, 0, _ => by
  subst e
  have := r.len h1
  simp [← this]
  exact h1
 | _, d :: l, ⟨c1, c2, e, h1, h2⟩, i + 1, h => by
  subst e
  have hl := r.len h1
  have := arrIs_get h2 i (by simpa using h)
  rw [Nat.add_mul, Nat.one_mul, Nat.add_comm, ← List.drop_drop, ← hl, List.drop_left, hl]
  simpa using this
theorem arrIs_set {α : Type} {r : Rep α} {c : Cx} {cx : List Value} {x : α} (hx : r.is c cx x) : ∀ {cs : List Value} {l : List α}, arrIs r c cs l → ∀ (i : Nat), i < l.length → arrIs r c (cs.take (i * r.n) ++ cx ++ cs.drop (i * r.n + r.n)) (l.set i x)
 | _, d :: l, ⟨c1, c2, e, h1, h2⟩, 0, _ => by
  subst e
  have := r.len h1
  simp [← this]
  exact ⟨cx, c2, rfl, hx, h2⟩
 | _, d :: l, ⟨c1, c2, e, h1, h2⟩, i + 1, h => by
  subst e
  have hl := r.len h1
  have := arrIs_set hx h2 i (by simpa using h)
  simp only [List.set_cons_succ]
  refine ⟨c1, _, ?_, h1, this⟩
  rw [show (i + 1) * r.n = c1.length + i * r.n by rw [hl, Nat.add_mul]; omega, List.take_append, List.take_of_length_le (Nat.le_add_right _ _), Nat.add_sub_cancel_left, Nat.add_assoc, List.drop_append, List.drop_eq_nil_of_le (Nat.le_add_right _ _), Nat.add_sub_cancel_left]
  simp
def rArr {α : Type} (r : Rep α) (m : Nat) : Rep (List α) where
 n := m * r.n
 agg := true
 is c cs l := l.length = m ∧ arrIs r c cs l
 len h := by rw [arrIs_len h.2, h.1]
 mono h k := ⟨h.1, arrIs_mono k h.2⟩
 one h := by cases h
 cell h := arrIs_cell h.2
def cellsAt (w : World) (b o : Nat) (cs : List Value) : Prop := ∀ j u, cs[j]? = some u → w.cell? ⟨b, o + j, none⟩ = some u
theorem cellsAt.mono {w w' : World} {b o : Nat} {cs : List Value} (h : cellsAt w b o cs) (hb : w'.heap[b]? = w.heap[b]?) : cellsAt w' b o cs :=
 fun j u hj => (World.cell?_of_block (a := ⟨b, o + j, none⟩) hb).trans (h j u hj)
theorem cellsAt.part {w : World} {b o : Nat} {cs : List Value} (h : cellsAt w b o cs) (k n : Nat) : cellsAt w b (o + k) ((cs.drop k).take n) := by
 intro j u hj
 have hlt : j < n := by
  rcases Nat.lt_or_ge j n with h | h
  ·exact h
  ·rw [List.getElem?_take, if_neg (by omega)] at hj; cases hj
 rw [List.getElem?_take_of_lt hlt, List.getElem?_drop] at hj
 rw [Nat.add_assoc]
 exact h _ u hj
def ptIs {α : Type} (r : Rep α) (c : Cx) (v : Value) (d : α) : Prop :=
 ∃ b o cs, v = .pointer (some ⟨b, o, none⟩) ∧ b < c.w.heap.size ∧ b ∉ c.X ∧ cellsAt c.w b o cs ∧ r.is c cs d
def rvPt {α : Type} (r : Rep α) : RV α :=
 ⟨ptIs r, fun ⟨b, o, cs, e, h1, h2, h3, h4⟩ k => ⟨b, o, cs, e, Nat.lt_of_lt_of_le h1 k.size, (k.keep b h1 h2).1, h3.mono (k.keep b h1 h2).2, r.mono h4 k⟩⟩
def sliceIs {α : Type} (r : Rep α) (c : Cx) (a : Option Addr) (l : List α) : Prop :=
 l = [] ∨ ∃ b o cs, a = some ⟨b, o, none⟩ ∧ b < c.w.heap.size ∧ b ∉ c.X ∧ cellsAt c.w b o cs ∧ arrIs r c cs l
def rSlice {α : Type} (r : Rep α) : Rep (List α) where
 n := 1
 agg := false
 is c cs l := ∃ a cap, cs = [.slice a l.length cap] ∧ (l.length ≤ LEN ∧ l.length ≤ cap) ∧ sliceIs r c a l
 len h := by obtain ⟨a, cap, rfl, _⟩ := h; rfl
 mono h k := by
  obtain ⟨a, cap, e, hl, h⟩ := h
  refine ⟨a, cap, e, hl, ?_⟩
  rcases h with h | ⟨b, o, cs, e, h1, h2, h3, h4⟩
  ·exact .inl h
  ·exact .inr ⟨b, o, cs, e, Nat.lt_of_lt_of_le h1 k.size, (k.keep b h1 h2).1, h3.mono (k.keep b h1 h2).2, arrIs_mono k h4⟩
 one _ := rfl
 cell h := by obtain ⟨a, cap, rfl, _⟩ := h; simp [Value.oneCell']
theorem slice_val {α : Type} {r : Rep α} {c : Cx} {v : Value} {l : List α} : (rSlice r).val c v l ↔ ∃ a cap, v = .slice a l.length cap ∧ (l.length ≤ LEN ∧ l.length ≤ cap) ∧ sliceIs r c a l := by
 constructor
 ·rintro ⟨cs, ⟨a, cap, rfl, h⟩, rfl⟩; exact ⟨a, cap, rfl, h⟩
 ·rintro ⟨a, cap, rfl, h⟩; exact ⟨_, ⟨a, cap, rfl, h⟩, rfl⟩
structure Sub {α β : Type} (r : Rep α) (off : Nat) (s : Rep β) (get : α → β) (set : α → β → α) : Prop where
 bound : off + s.n ≤ r.n
 get_is : ∀ {c cs d}, r.is c cs d → s.is c ((cs.drop off).take s.n) (get d)
 set_is : ∀ {c cs d cx x}, r.is c cs d → s.is c cx x → r.is c (cs.take off ++ cx ++ cs.drop (off + s.n)) (set d x)
theorem Sub.self {α : Type} (r : Rep α) : Sub r 0 r id (fun _ x => x) where
 bound := by simp
 get_is h := by simpa [← r.len h] using h
 set_is h h' := by
  have := r.len h
  simpa [← this] using h'
theorem Sub.fst {α β γ : Type} {r : Rep α} {s : Rep β} {t : Rep γ} {off : Nat} {get : α → γ} {set : α → γ → α} (h : Sub r off t get set) : Sub (rPair r s) off t (fun d => get d.1) (fun d x => (set d.1 x, d.2)) where
 bound := by have := h.bound; simp [rPair]; omega
 get_is := by
  rintro c cs d ⟨c1, c2, rfl, h1, h2⟩
  have hl := r.len h1
  have hb := h.bound
  have := h.get_is h1
  rw [List.drop_append, List.take_append, List.length_drop]
  have : off - c1.length = 0 := by omega
  rw [this, show t.n - (c1.length - off) = 0 by omega]
  simpa using h.get_is h1
 set_is := by
  rintro c cs d cx x ⟨c1, c2, rfl, h1, h2⟩ hx
  have hl := r.len h1
  have hb := h.bound
  refine ⟨_, c2, ?_, h.set_is h1 hx, h2⟩
  rw [List.take_append, List.drop_append, show off - c1.length = 0 by omega, show off + t.n - c1.length = 0 by omega]
  simp
theorem Sub.snd {α β γ : Type} {r : Rep α} {s : Rep β} {t : Rep γ} {off : Nat} {get : β → γ} {set : β → γ → β} (h : Sub s off t get set) : Sub (rPair r s) (r.n + off) t (fun d => get d.2) (fun d x => (d.1, set d.2 x)) where
 bound := by have := h.bound; simp [rPair]; omega
 get_is := by
  rintro c cs d ⟨c1, c2, rfl, h1, h2⟩
  have hl := r.len h1
  rw [← hl, List.drop_append, List.drop_eq_nil_of_le (by omega), Nat.add_sub_cancel_left]
  simpa using h.get_is h2
 set_is := by
  rintro c cs d cx x ⟨c1, c2, rfl, h1, h2⟩ hx
  have hl := r.len h1
  refine ⟨c1, _, ?_, h1, h.set_is h2 hx⟩
  rw [← hl, List.take_append, List.take_of_length_le (by omega), Nat.add_sub_cancel_left, Nat.add_assoc, List.drop_append, List.drop_eq_nil_of_le (by omega), Nat.add_sub_cancel_left]
  simp
theorem Sub.elem {α : Type} [Inhabited α] {r : Rep α} {m : Nat} (i : Nat) (hi : i < m) : Sub (rArr r m) (i * r.n) r (fun l => l.getD i default) (fun l x => l.set i x) where
 bound := by
  have : (i + 1) * r.n ≤ m * r.n := Nat.mul_le_mul_right _ hi
  rw [Nat.add_mul, Nat.one_mul] at this
  exact this
 get_is := by
  rintro c cs l ⟨hl, h⟩
  have := arrIs_get h i (by omega)
  simpa [List.getD, List.getElem?_eq_getElem (show i < l.length by omega)] using this
 set_is := by
  rintro c cs l cx x ⟨hl, h⟩ hx
  exact ⟨by simpa using hl, arrIs_set hx h i (by omega)⟩
def Var {α : Type} (c : Cx) (b : Nat) (r : Rep α) (d : α) : Prop :=
 b ∈ c.X ∧ ∃ T cs, c.w.heap[b]? = some (.cells cs T (0, 0)) ∧ r.is c cs.toList d
theorem Var.le {α : Type} {c c' : Cx} {b : Nat} {r : Rep α} {d : α} (h : Var c b r d) (k : c.le c') : Var c' b r d := by
 obtain ⟨hb, T, cs, hh, hi⟩ := h
 have hlt := c.ok b hb
 exact ⟨(k.old b hlt).2 hb, T, cs, (k.below.block b hlt).trans hh, r.mono hi k.pub⟩
theorem Var.lt {α : Type} {c : Cx} {b : Nat} {r : Rep α} {d : α} (h : Var c b r d) : b < c.w.heap.size := c.ok b h.1
structure Cx.mut (b : Nat) (c c' : Cx) : Prop where
 X : c'.X = c.X
 os : c'.w.os = c.w.os
 tape : c'.w.tape = c.w.tape
 output : c'.w.output = c.w.output
 size : c'.w.heap.size = c.w.heap.size
 keep : ∀ k, k ≠ b → c'.w.heap[k]? = c.w.heap[k]?
theorem Cx.mut.pub {b : Nat} {c c' : Cx} (h : c.mut b c') (hb : b ∈ c.X) : c.pub c' :=
 ⟨Nat.le_of_eq h.size.symm, fun k _ hx => ⟨by rw [h.X]; exact hx, h.keep k (fun e => hx (e ▸ hb))⟩⟩
theorem Cx.mut.var {α : Type} {b b' : Nat} {c c' : Cx} {r : Rep α} {d : α} (h : c.mut b c') (hb : b ∈ c.X) (hne : b' ≠ b) (hv : Var c b' r d) : Var c' b' r d := by
 obtain ⟨h1, T, cs, h2, h3⟩ := hv
 exact ⟨by rw [h.X]; exact h1, T, cs, (h.keep b' hne).trans h2, r.mono h3 (h.pub hb)⟩
def Post {α : Type} (c0 : Cx) (r : RV α) (d : α) : Ending → World → Prop :=
 fun e w' => ∃ v, e = .returned v ∧ ∃ hb : Below c0.w.heap.size c0.w w', r.p (c0.at w' hb.size) v d
end Go.Proofs.Ytcbdmoihobdjaaa
