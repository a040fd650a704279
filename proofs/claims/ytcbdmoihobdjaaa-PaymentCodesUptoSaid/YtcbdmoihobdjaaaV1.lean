import Derived.Test.YtcbdmoihobdjaaaB9
namespace Go.Proofs.Ytcbdmoihobdjaaa
open Go.RowKit
inductive V where
 | int (k : IntKind) (n : Int)
 | bool (b : Bool)
 | str (l : List UInt8)
 | agg (l : List V)
 | sl (z : Option Bool) (n : Nat) (g : Bool) (l : List V)
 | pp (n : Nat) (g : Bool) (d : V)
 | own (id : Nat)
 | ptr (id off : Nat)
 | optr (id n i off : Nat)
 | osub (id n i j : Nat)
 | tup (l : List V)
 | fn (f : FuncId) (cap : List V)
 | opq (p : Cx → Value → Prop)
 | un
instance : Inhabited V := ⟨.un⟩
abbrev Ro := Nat → Option Value
def ro0 : Ro := fun _ => none
def zOk (z : Option Bool) (a : Option Addr) (cap : Nat) : Prop :=
 match z with
 | some true => a = none ∧ cap = 0
 | some false => a ≠ none
 | none => a = none → cap = 0
theorem zOk_none {z : Option Bool} {a : Option Addr} {cap : Nat} (h : zOk z a cap) : a = none → cap = 0 := by
 rcases z with _ | _ | _
 ·exact h
 ·exact fun e => absurd e h
 ·exact fun _ => h.2
def subIs (u : Value) (n i j : Nat) (v : Value) : Prop := (∃ a len cap, u = .slice a len cap ∧ i ≤ j ∧ j ≤ len ∧ v = .slice (if cap = i then a else a.map (·.add (i * n))) (j - i) (cap - i)) ∨
 ∃ b, n = 1 ∧ i = 0 ∧ u = .pointer (some ⟨b, 0, none⟩) ∧ v = .slice (some ⟨b, 0, none⟩) j j
theorem sub_slice {u v : Value} {n i j : Nat} (h : subIs u n i j v) {a : Option Addr} {len cap : Nat} (e : u = .slice a len cap) : ∃ a len cap, u = .slice a len cap ∧ i ≤ j ∧ j ≤ len ∧ v = .slice (if cap = i then a else a.map (·.add (i * n))) (j - i) (cap - i) := by
 rcases h with h | ⟨b, _, _, e', _⟩
 ·exact h
 ·rw [e] at e'; cases e'
def Grows (p : Cx → Value → Prop) : Prop := ∀ c c' v, p c v → c.pub c' → p c' v
def shapeOk (n : Nat) (g : Bool) (cs : List Value) : Prop := cs.length = n ∧ (g = false → n = 1) ∧ ∀ u ∈ cs, u.oneCell' = true
mutual
def rd (ρ : Ro) (c : Cx) : V → Value → Prop
 | .int k n, v => v = .int k n ∧ Rng k n
 | .bool b, v => v = .bool b
 | .str l, v => v = .string ⟨l.toArray⟩ ∧ l.length ≤ LEN
 | .agg l, v => ∃ cs : List Value, v = .agg cs.toArray ∧ rdC ρ c l cs
 | .sl z n g l, v => ∃ a cap, v = .slice a l.length cap ∧ (l.length ≤ LEN ∧ l.length ≤ cap) ∧ zOk z a cap ∧
   (l = [] ∨ ∃ b o cs, a = some ⟨b, o, none⟩ ∧ b < c.w.heap.size ∧ b ∉ c.X ∧ cellsAt c.w b o cs ∧ rdE c n g l cs)
 | .pp n g d, v => ∃ b o cs, v = .pointer (some ⟨b, o, none⟩) ∧ b < c.w.heap.size ∧ b ∉ c.X ∧ cellsAt c.w b o cs ∧ shapeOk n g cs ∧ rd ro0 c d (mkV g cs)
 | .own id, v => ρ id = some v ∧ v.oneCell' = true
 | .ptr id off, v => ∃ b, ρ id = some (.pointer (some ⟨b, 0, none⟩)) ∧ v = .pointer (some ⟨b, off, none⟩)
 | .optr id n i off, v => ∃ u, ρ id = some u ∧ optIs u n i off v
 | .osub id n i j, v => ∃ u, ρ id = some u ∧ subIs u n i j v
 | .tup l, v => ∃ cs : List Value, v = .tuple cs.toArray ∧ rdT ρ c l cs
 | .fn f cap, v => ∃ cs : List Value, v = .func (.func f) #[] cs.toArray ∧ rdT ρ c cap cs
 | .opq p, v => p c v ∧ v.oneCell' = true ∧ Grows p
 | .un, _ => True
def rdC (ρ : Ro) (c : Cx) : List V → List Value → Prop
 | [], cs => cs = []
 | d :: l, cs => ∃ u c2, cs = u :: c2 ∧ u.oneCell' = true ∧ rd ρ c d u ∧ rdC ρ c l c2
def rdT (ρ : Ro) (c : Cx) : List V → List Value → Prop
 | [], cs => cs = []
 | d :: l, cs => ∃ u c2, cs = u :: c2 ∧ rd ρ c d u ∧ rdT ρ c l c2
def rdE (c : Cx) (n : Nat) (g : Bool) : List V → List Value → Prop
 | [], cs => cs = []
 | d :: l, cs => ∃ c1 c2, cs = c1 ++ c2 ∧ (shapeOk n g c1 ∧ rd ro0 c d (mkV g c1)) ∧ rdE c n g l c2
end
mutual
theorem rd_mono {ρ : Ro} {c c' : Cx} (k : c.pub c') : ∀ {d : V} {v : Value}, rd ρ c d v → rd ρ c' d v
 | .int _ _, _, h => h
 | .bool _, _, h => h
 | .str _, _, h => h
 | .agg l, v, h => by
  simp only [rd] at h ⊢
  obtain ⟨cs, e, h⟩ := h
  exact ⟨cs, e, rdC_mono k h⟩
 | .sl z n g l, v, h => by
  simp only [rd] at h ⊢
  obtain ⟨a, cap, e, hl, hz, h⟩ := h
  refine ⟨a, cap, e, hl, hz, ?_⟩
  rcases h with h | ⟨b, o, cs, e, h1, h2, h3, h4⟩
  ·exact .inl h
  ·exact .inr ⟨b, o, cs, e, Nat.lt_of_lt_of_le h1 k.size, (k.keep b h1 h2).1, h3.mono (k.keep b h1 h2).2, rdE_mono k h4⟩
 | .pp n g d, v, h => by
  simp only [rd] at h ⊢
  obtain ⟨b, o, cs, e, h1, h2, h3, h4, h5⟩ := h
  exact ⟨b, o, cs, e, Nat.lt_of_lt_of_le h1 k.size, (k.keep b h1 h2).1, h3.mono (k.keep b h1 h2).2, h4, rd_mono k h5⟩
 | .own _, _, h => h
 | .ptr _ _, _, h => h
 | .optr _ _ _ _, _, h => h
 | .osub _ _ _ _, _, h => h
 | .tup l, v, h => by
  simp only [rd] at h ⊢
  obtain ⟨cs, e, h⟩ := h
  exact ⟨cs, e, rdT_mono k h⟩
 | .fn f l, v, h => by
  simp only [rd] at h ⊢
  obtain ⟨cs, e, h⟩ := h
  exact ⟨cs, e, rdT_mono k h⟩
 | .opq p, v, h => by
  simp only [rd] at h ⊢
  exact ⟨h.2.2 _ _ _ h.1 k, h.2⟩
 | .un, _, _ => trivial
theorem rdC_mono {ρ : Ro} {c c' : Cx} (k : c.pub c') : ∀ {l : List V} {cs : List Value}, rdC ρ c l cs → rdC ρ c' l cs
 | [], _, h => h
 | d :: l, cs, h => by
  simp only [rdC] at h ⊢
  obtain ⟨u, c2, e, h1, h2, h3⟩ := h
  exact ⟨u, c2, e, h1, rd_mono k h2, rdC_mono k h3⟩
theorem rdT_mono {ρ : Ro} {c c' : Cx} (k : c.pub c') : ∀ {l : List V} {cs : List Value}, rdT ρ c l cs → rdT ρ c' l cs
 | [], _, h => h
 | d :: l, cs, h => by
  simp only [rdT] at h ⊢
  obtain ⟨u, c2, e, h2, h3⟩ := h
  exact ⟨u, c2, e, rd_mono k h2, rdT_mono k h3⟩
theorem rdE_mono {c c' : Cx} {n : Nat} {g : Bool} (k : c.pub c') : ∀ {l : List V} {cs : List Value}, rdE c n g l cs → rdE c' n g l cs
 | [], _, h => h
 | d :: l, cs, h => by
  simp only [rdE] at h ⊢
  obtain ⟨c1, c2, e, ⟨h1, h2⟩, h3⟩ := h
  exact ⟨c1, c2, e, ⟨h1, rd_mono k h2⟩, rdE_mono k h3⟩
end
def rV (ρ : Ro) (n : Nat) (g : Bool) : Rep V where
 n := bif g then n else 1
 agg := g
 is c cs d := shapeOk n g cs ∧ rd ρ c d (mkV g cs)
 len h := by
  obtain ⟨⟨h1, h2, _⟩, _⟩ := h
  cases g
  ·rw [h1, h2 rfl]; rfl
  ·exact h1
 mono h k := ⟨h.1, rd_mono k h.2⟩
 one h := by rw [h]; rfl
 cell h := h.1.2.2
theorem rV_n {ρ : Ro} {n : Nat} {g : Bool} (h : g = false → n = 1) : (rV ρ n g).n = n := by
 cases g
 ·rw [h rfl]; rfl
 ·rfl
theorem rdE_arr {c : Cx} {n : Nat} {g : Bool} : ∀ {l : List V} {cs : List Value}, rdE c n g l cs ↔ arrIs (rV ro0 n g) c cs l
 | [], cs => by simp [rdE, arrIs]
 | d :: l, cs => by
  simp only [rdE, arrIs]
  constructor
  ·rintro ⟨c1, c2, e, h1, h2⟩; exact ⟨c1, c2, e, h1, rdE_arr.1 h2⟩
  ·rintro ⟨c1, c2, e, h1, h2⟩; exact ⟨c1, c2, e, h1, rdE_arr.2 h2⟩
theorem rd_sl {ρ : Ro} {c : Cx} {z : Option Bool} {n : Nat} {g : Bool} {l : List V} {v : Value} :
  rd ρ c (.sl z n g l) v ↔ ∃ a cap, v = .slice a l.length cap ∧ (l.length ≤ LEN ∧ l.length ≤ cap) ∧ zOk z a cap ∧ sliceIs (rV ro0 n g) c a l := by
 simp only [rd, sliceIs, rdE_arr]
theorem rd_slice {ρ : Ro} {c : Cx} {z : Option Bool} {n : Nat} {g : Bool} {l : List V} {v : Value} (h : rd ρ c (.sl z n g l) v) : (rSlice (rV ro0 n g)).val c v l := by
 obtain ⟨a, cap, e, h1, h2, h3⟩ := rd_sl.1 h
 exact slice_val.2 ⟨a, cap, e, h1, h3⟩
theorem rd_pp {ρ : Ro} {c : Cx} {n : Nat} {g : Bool} {d : V} {v : Value} : rd ρ c (.pp n g d) v ↔ ptIs (rV ro0 n g) c v d := by
 simp only [rd, ptIs, rV]
theorem rdC_len {ρ : Ro} {c : Cx} : ∀ {l : List V} {cs : List Value}, rdC ρ c l cs → cs.length = l.length
 | [], _, h => by simp only [rdC] at h; rw [h]; rfl
 | d :: l, cs, h => by
  simp only [rdC] at h
  obtain ⟨u, c2, e, _, _, h3⟩ := h
  rw [e, List.length_cons, List.length_cons, rdC_len h3]
theorem rdC_drop {ρ : Ro} {c : Cx} : ∀ (k : Nat) {l : List V} {cs : List Value}, rdC ρ c l cs → rdC ρ c (l.drop k) (cs.drop k)
 | 0, _, _, h => by simpa using h
 | k + 1, [], cs, h => by simp only [rdC] at h; subst h; simp [rdC]
 | k + 1, d :: l, cs, h => by
  simp only [rdC] at h
  obtain ⟨u, c2, e, _, _, h3⟩ := h
  rw [e]; exact rdC_drop k h3
theorem rdC_take {ρ : Ro} {c : Cx} : ∀ (k : Nat) {l : List V} {cs : List Value}, rdC ρ c l cs → rdC ρ c (l.take k) (cs.take k)
 | 0, _, _, h => by simp [rdC]
 | k + 1, [], cs, h => by simp only [rdC] at h; subst h; simp [rdC]
 | k + 1, d :: l, cs, h => by
  simp only [rdC] at h
  obtain ⟨u, c2, e, h1, h2, h3⟩ := h
  rw [e]
  simp only [List.take_succ_cons, rdC]
  exact ⟨u, _, rfl, h1, h2, rdC_take k h3⟩
theorem rdC_append {ρ : Ro} {c : Cx} : ∀ {l m : List V} {cs ds : List Value}, rdC ρ c l cs → rdC ρ c m ds → rdC ρ c (l ++ m) (cs ++ ds)
 | [], m, cs, ds, h, h' => by simp only [rdC] at h; subst h; simpa using h'
 | d :: l, m, cs, ds, h, h' => by
  simp only [rdC] at h
  obtain ⟨u, c2, e, h1, h2, h3⟩ := h
  rw [e]
  simp only [List.cons_append, rdC]
  exact ⟨u, _, rfl, h1, h2, rdC_append h3 h'⟩
theorem rdC_get {ρ : Ro} {c : Cx} {l : List V} {cs : List Value} (h : rdC ρ c l cs) (i : Nat) (hi : i < cs.length) : rd ρ c (l.getD i .un) cs[i] := by
 have h1 := rdC_drop i h
 have hl := rdC_len h
 have hil : i < l.length := by omega
 rw [List.drop_eq_getElem_cons hil, List.drop_eq_getElem_cons hi] at h1
 simp only [rdC] at h1
 obtain ⟨u, c2, e, _, h2, _⟩ := h1
 simp only [List.cons.injEq] at e
 rw [e.1, List.getD_eq_getElem?_getD, List.getElem?_eq_getElem hil]
 exact h2
theorem rdC_cell {ρ : Ro} {c : Cx} : ∀ {l : List V} {cs : List Value}, rdC ρ c l cs → ∀ u ∈ cs, u.oneCell' = true
 | [], _, h => by simp only [rdC] at h; subst h; simp
 | d :: l, cs, h => by
  simp only [rdC] at h
  obtain ⟨u, c2, e, h1, h2, h3⟩ := h
  subst e
  intro x hx
  rcases List.mem_cons.1 hx with rfl | hx
  ·exact h1
  ·exact rdC_cell h3 x hx
theorem rdC_un {ρ : Ro} {c : Cx} : ∀ {n : Nat} {cs : List Value}, cs.length = n → (∀ u ∈ cs, u.oneCell' = true) → rdC ρ c (List.replicate n .un) cs
 | 0, cs, h, _ => by simpa [rdC] using h
 | n + 1, [], h, _ => by simp at h
 | n + 1, u :: cs, h, h' => by
  simp only [List.replicate_succ, rdC]
  exact ⟨u, cs, rfl, h' u (by simp), trivial, rdC_un (by simpa using h) (fun x hx => h' x (by simp [hx]))⟩
theorem rd_agg {ρ : Ro} {c : Cx} {d : V} {cs : List Value} (h : rd ρ c d (.agg cs.toArray)) : d = .un ∨ ∃ l, d = .agg l ∧ rdC ρ c l cs := by
 cases d with
 | agg l =>
  simp only [rd] at h
  obtain ⟨cs', e, h⟩ := h
  have : cs = cs' := by simpa using e
  subst this
  exact .inr ⟨l, rfl, h⟩
 | un => exact .inl rfl
 | own id => simp [rd, Value.oneCell'] at h
 | opq p => simp [rd, Value.oneCell'] at h
 | optr id n i off =>
  simp only [rd] at h
  obtain ⟨u, _, g, len, cap, _, e⟩ := h
  cases e
 | osub id n i j =>
  simp only [rd] at h
  obtain ⟨u, _, ⟨a, len, cap, _, _, _, e⟩ | ⟨b, _, _, _, e⟩⟩ := h <;> cases e
 | _ => simp [rd] at h
def part (d : V) (off n : Nat) (g : Bool) : V :=
 match d with
 | .agg l => if g then .agg ((l.drop off).take n) else l.getD off .un
 | _ => .un
def cellsN (n : Nat) : Bool → V → List V
 | true, .agg l => l
 | true, _ => List.replicate n .un
 | false, x => [x]
def setPart (d : V) (off n : Nat) (g : Bool) (x : V) : V :=
 match d with
 | .agg l => .agg (l.take off ++ cellsN n g x ++ l.drop (off + n))
 | _ => .un
theorem cellsN_rd {ρ : Ro} {c : Cx} {n : Nat} {g : Bool} {x : V} {cx : List Value} (h : shapeOk n g cx) (hx : rd ρ c x (mkV g cx)) : rdC ρ c (cellsN n g x) cx := by
 obtain ⟨h1, h2, h3⟩ := h
 cases g with
 | true =>
  rcases rd_agg (by simpa [mkV] using hx) with rfl | ⟨l, rfl, hl⟩
  ·exact rdC_un h1 h3
  ·exact hl
 | false =>
  have hn := h2 rfl
  rw [hn] at h1
  match cx, h1 with
  | [u], _ =>
   simp only [cellsN, rdC]
   exact ⟨u, [], rfl, h3 u (by simp), by simpa [mkV] using hx, rfl⟩
theorem subV {ρ : Ro} {n n' off : Nat} {g' : Bool} (hb : off + n' ≤ n) (hn : g' = false → n' = 1) : Sub (rV ρ n true) off (rV ρ n' g') (fun d => part d off n' g') (fun d x => setPart d off n' g' x) where
 bound := by rw [rV_n hn]; exact hb
 get_is := by
  rintro c cs d ⟨⟨h1, h2, h3⟩, h4⟩
  rw [rV_n hn]
  have hlen : ((cs.drop off).take n').length = n' := by simp; omega
  refine ⟨⟨hlen, hn, fun u hu => h3 u (List.mem_of_mem_drop (List.mem_of_mem_take hu))⟩, ?_⟩
  rcases rd_agg (by simpa [mkV] using h4) with rfl | ⟨l, rfl, hl⟩
  ·trivial
  ·cases g' with
   | true =>
    simp only [part, if_true, mkV, rd]
    exact ⟨_, rfl, rdC_take n' (rdC_drop off hl)⟩
   | false =>
    have hn1 := hn rfl
    subst hn1
    have hlt : off < cs.length := by omega
    have e : (cs.drop off).take 1 = [cs[off]] := by
     rw [List.drop_eq_getElem_cons hlt]; rfl
    simp only [part, Bool.false_eq_true, if_false, mkV, e, List.headD_cons]
    exact rdC_get hl off hlt
 set_is := by
  rintro c cs d cx x ⟨⟨h1, h2, h3⟩, h4⟩ ⟨h5, h6⟩
  rw [rV_n hn]
  have hx := h5.1
  refine ⟨⟨by simp; omega, h2, ?_⟩, ?_⟩
  ·intro u hu
   rcases List.mem_append.1 hu with hu | hu
   ·rcases List.mem_append.1 hu with hu | hu
    ·exact h3 u (List.mem_of_mem_take hu)
    ·exact h5.2.2 u hu
   ·exact h3 u (List.mem_of_mem_drop hu)
  ·rcases rd_agg (by simpa [mkV] using h4) with rfl | ⟨l, rfl, hl⟩
   ·trivial
   ·simp only [setPart, mkV, if_true, rd]
    exact ⟨_, rfl, rdC_append (rdC_append (rdC_take off hl) (cellsN_rd h5 h6)) (rdC_drop (off + n') hl)⟩
mutual
def wfV : V → Prop
 | .int k n => Rng k n
 | .str l => l.length ≤ LEN
 | .agg l => wfL l
 | .sl _ _ _ l => l.length ≤ LEN ∧ wfL l
 | .pp _ _ d => wfV d
 | .tup l => wfL l
 | .fn _ l => wfL l
 | _ => True
def wfL : List V → Prop
 | [] => True
 | d :: l => wfV d ∧ wfL l
end
mutual
theorem rd_wf {ρ : Ro} {c : Cx} : ∀ {d : V} {v : Value}, rd ρ c d v → wfV d
 | .int _ _, _, h => h.2
 | .bool _, _, _ => trivial
 | .str _, _, h => h.2
 | .agg l, v, h => by
  simp only [rd] at h
  obtain ⟨cs, e, h⟩ := h
  exact rdC_wf h
 | .sl z n g l, v, h => by
  simp only [rd] at h
  obtain ⟨a, cap, e, hl, hz, h⟩ := h
  refine ⟨hl.1, ?_⟩
  rcases h with rfl | ⟨b, o, cs, e, h1, h2, h3, h4⟩
  ·trivial
  ·exact rdE_wf h4
 | .pp n g d, v, h => by
  simp only [rd] at h
  obtain ⟨b, o, cs, e, h1, h2, h3, h4, h5⟩ := h
  simp only [wfV]
  exact rd_wf h5
 | .own _, _, _ => trivial
 | .ptr _ _, _, _ => trivial
 | .optr _ _ _ _, _, _ => trivial
 | .osub _ _ _ _, _, _ => trivial
 | .tup l, v, h => by
  simp only [rd] at h
  obtain ⟨cs, e, h⟩ := h
  exact rdT_wf h
 | .fn f l, v, h => by
  simp only [rd] at h
  obtain ⟨cs, e, h⟩ := h
  exact rdT_wf h
 | .opq p, v, h => trivial
 | .un, _, _ => trivial
theorem rdC_wf {ρ : Ro} {c : Cx} : ∀ {l : List V} {cs : List Value}, rdC ρ c l cs → wfL l
 | [], _, h => trivial
 | d :: l, cs, h => by
  simp only [rdC] at h
  obtain ⟨u, c2, e, h1, h2, h3⟩ := h
  exact ⟨rd_wf h2, rdC_wf h3⟩
theorem rdT_wf {ρ : Ro} {c : Cx} : ∀ {l : List V} {cs : List Value}, rdT ρ c l cs → wfL l
 | [], _, h => trivial
 | d :: l, cs, h => by
  simp only [rdT] at h
  obtain ⟨u, c2, e, h2, h3⟩ := h
  exact ⟨rd_wf h2, rdT_wf h3⟩
theorem rdE_wf {c : Cx} {n : Nat} {g : Bool} : ∀ {l : List V} {cs : List Value}, rdE c n g l cs → wfL l
 | [], _, h => trivial
 | d :: l, cs, h => by
  simp only [rdE] at h
  obtain ⟨c1, c2, e, ⟨h1, h2⟩, h3⟩ := h
  exact ⟨rd_wf h2, rdE_wf h3⟩
end
def roLe (ρ ρ' : Ro) : Prop := ∀ i v, ρ i = some v → ρ' i = some v
mutual
theorem rd_ro {ρ ρ' : Ro} {c : Cx} (k : roLe ρ ρ') : ∀ {d : V} {v : Value}, rd ρ c d v → rd ρ' c d v
 | .int _ _, _, h => h
 | .bool _, _, h => h
 | .str _, _, h => h
 | .agg l, v, h => by
  simp only [rd] at h ⊢
  obtain ⟨cs, e, h⟩ := h
  exact ⟨cs, e, rdC_ro k h⟩
 | .sl z n g l, v, h => h
 | .pp n g d, v, h => h
 | .own _, _, h => ⟨k _ _ h.1, h.2⟩
 | .ptr _ _, _, h => by
  simp only [rd] at h ⊢
  obtain ⟨b, h1, h2⟩ := h
  exact ⟨b, k _ _ h1, h2⟩
 | .optr _ _ _ _, _, h => by
  simp only [rd] at h ⊢
  obtain ⟨u, h1, h2⟩ := h
  exact ⟨u, k _ _ h1, h2⟩
 | .osub _ _ _ _, _, h => by
  simp only [rd] at h ⊢
  obtain ⟨u, h1, h2⟩ := h
  exact ⟨u, k _ _ h1, h2⟩
 | .tup l, v, h => by
  simp only [rd] at h ⊢
  obtain ⟨cs, e, h⟩ := h
  exact ⟨cs, e, rdT_ro k h⟩
 | .fn f l, v, h => by
  simp only [rd] at h ⊢
  obtain ⟨cs, e, h⟩ := h
  exact ⟨cs, e, rdT_ro k h⟩
 | .opq p, v, h => h
 | .un, _, _ => trivial
theorem rdC_ro {ρ ρ' : Ro} {c : Cx} (k : roLe ρ ρ') : ∀ {l : List V} {cs : List Value}, rdC ρ c l cs → rdC ρ' c l cs
 | [], _, h => h
 | d :: l, cs, h => by
  simp only [rdC] at h ⊢
  obtain ⟨u, c2, e, h1, h2, h3⟩ := h
  exact ⟨u, c2, e, h1, rd_ro k h2, rdC_ro k h3⟩
theorem rdT_ro {ρ ρ' : Ro} {c : Cx} (k : roLe ρ ρ') : ∀ {l : List V} {cs : List Value}, rdT ρ c l cs → rdT ρ' c l cs
 | [], _, h => h
 | d :: l, cs, h => by
  simp only [rdT] at h ⊢
  obtain ⟨u, c2, e, h2, h3⟩ := h
  exact ⟨u, c2, e, rd_ro k h2, rdT_ro k h3⟩
end
end Go.Proofs.Ytcbdmoihobdjaaa
