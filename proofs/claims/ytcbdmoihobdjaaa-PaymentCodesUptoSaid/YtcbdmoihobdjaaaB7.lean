import Derived.Test.YtcbdmoihobdjaaaB6
namespace Go.Proofs.Ytcbdmoihobdjaaa
open Go.RowKit
structure Cx.chg (g : Option Nat) (c c' : Cx) : Prop where
  os : c'.w.os = c.w.os
  tape : c'.w.tape = c.w.tape
  output : c'.w.output = c.w.output
  size : c.w.heap.size ≤ c'.w.heap.size
  keep : ∀ k, k < c.w.heap.size → g ≠ some k → c'.w.heap[k]? = c.w.heap[k]?
  old : ∀ k, k < c.w.heap.size → (k ∈ c'.X ↔ k ∈ c.X)
  priv : ∀ k, g = some k → k ∈ c.X
theorem Cx.mut.chg {b : Nat} {c c' : Cx} (h : c.mut b c') (hb : b ∈ c.X) : c.chg (some b) c' :=
  ⟨h.os, h.tape, h.output, Nat.le_of_eq h.size.symm, fun k _ hk => h.keep k (fun e => hk (e ▸ rfl)), fun k _ => by rw [h.X], fun k hk => by cases hk; exact hb⟩
theorem Cx.chg.pub {g : Option Nat} {c c' : Cx} (h : c.chg g c') : c.pub c' :=
  ⟨h.size, fun k hk hx => ⟨fun h' => hx ((h.old k hk).1 h'), h.keep k hk (fun e => hx (h.priv k e))⟩⟩
theorem Cx.chg.var {α : Type} {g : Option Nat} {b : Nat} {c c' : Cx} {r : Rep α} {d : α} (h : c.chg g c') (hne : g ≠ some b) (hv : Var c b r d) : Var c' b r d := by
  obtain ⟨h1, T, cs, h2, h3⟩ := hv
  have hlt := c.ok b h1
  exact ⟨(h.old b hlt).2 h1, T, cs, (h.keep b hlt hne).trans h2, r.mono h3 h.pub⟩
theorem Since.chg {c0 c c' : Cx} {g : Option Nat} (h : Since c0 c) (k : c.chg g c') (hb : ∀ i, g = some i → c0.mine i) : Since c0 c' :=
  ⟨⟨k.os.trans h.below.os, k.tape.trans h.below.tape, k.output.trans h.below.output, Nat.le_trans h.below.size k.size, fun i hi hy => (k.keep i (Nat.lt_of_lt_of_le hi h.below.size) (fun e => by
      rcases hb i e with h1 | h1
      · omega
      · exact hy h1)).trans (h.below.block i hi hy)⟩,
   fun i hi hy => (k.old i (c.ok i (h.X i hi hy))).2 (h.X i hi hy)⟩
def blk : Value → Option Nat
  | .slice (some a) _ (_ + 1) => some a.block
  | _ => none
def Own {α : Type} (c : Cx) (E : TypeId) (v : Value) (r : Rep α) (l : List α) : Prop :=
  l.length ≤ LEN ∧ ((∃ a, v = .slice a 0 0 ∧ l = []) ∨
    ∃ g cap cur, v = .slice (some ⟨g, 0, none⟩) l.length (cap + 1) ∧ g ∈ c.X ∧ c.w.heap[g]? = some (.cells cur E (0, 0)) ∧ l.length ≤ cap + 1 ∧ cap + 1 ≤ maxLen ∧ cur.size = (cap + 1) * r.n ∧ arrIs r c (cur.toList.take (l.length * r.n)) l)
theorem Own.len {α : Type} {c : Cx} {E : TypeId} {v : Value} {r : Rep α} {l : List α} (h : Own c E v r l) : l.length ≤ LEN := h.1
theorem Own.nil {α : Type} {c : Cx} {E : TypeId} {r : Rep α} : Own c E (.slice none 0 0) r ([] : List α) := ⟨Nat.zero_le _, .inl ⟨none, rfl, rfl⟩⟩
theorem Own.isX {α : Type} {c : Cx} {E : TypeId} {v : Value} {r : Rep α} {l : List α} (h : Own c E v r l) : ∀ g, blk v = some g → g ∈ c.X := by
  intro g hg
  rcases h.2 with ⟨a, rfl, _⟩ | ⟨g', cap, cur, rfl, h1, _⟩
  · cases a <;> simp [blk] at hg
  · simp [blk] at hg; subst hg; exact h1
theorem Own.lt {α : Type} {c : Cx} {E : TypeId} {v : Value} {r : Rep α} {l : List α} (h : Own c E v r l) : ∀ g, blk v = some g → g < c.w.heap.size := fun g hg => c.ok g (h.isX g hg)
theorem Own.chg {α : Type} {g : Option Nat} {c c' : Cx} {E : TypeId} {v : Value} {r : Rep α} {l : List α} (h : Own c E v r l) (k : c.chg g c') (hne : ∀ i, blk v = some i → g ≠ some i) : Own c' E v r l := by
  refine ⟨h.1, ?_⟩
  rcases h.2 with h' | ⟨g', cap, cur, rfl, h1, h2, h3, h4, h5, h6⟩
  · exact .inl h'
  · have hlt := c.ok g' h1
    exact .inr ⟨g', cap, cur, rfl, (k.old g' hlt).2 h1, (k.keep g' hlt (hne g' rfl)).trans h2, h3, h4, h5, arrIs_mono k.pub h6⟩
theorem Cx.le.chg {c c' : Cx} (h : c.le c') : c.chg none c' := ⟨h.below.os, h.below.tape, h.below.output, h.size, fun k hk _ => h.below.block k hk, h.old, fun k hk => by cases hk⟩
theorem Own.le {α : Type} {c c' : Cx} {E : TypeId} {v : Value} {r : Rep α} {l : List α} (h : Own c E v r l) (k : c.le c') : Own c' E v r l := h.chg k.chg (fun _ _ => by simp)
def Ph.own {α : Type} (c0 : Cx) (E : TypeId) (r : Rep α) (l : List α) : Ph :=
  ⟨fun v c => Own c E v r l ∧ ∀ g, blk v = some g → c0.w.heap.size ≤ g, fun h k => ⟨h.1.le k, h.2⟩⟩
def Cx.dropv (c : Cx) (v : Value) : Cx := { X := c.X.filter (fun k => blk v ≠ some k), w := c.w, ok := fun k hk => c.ok k (List.mem_filter.1 hk).1 }
theorem Cx.pub_dropv (c : Cx) (v : Value) : c.pub (c.dropv v) := ⟨Nat.le_refl _, fun k _ hk => ⟨fun h => hk (List.mem_filter.1 h).1, rfl⟩⟩
theorem Own.val {α : Type} {c : Cx} {E : TypeId} {v : Value} {r : Rep α} {l : List α} (h : Own c E v r l) : (rSlice r).val (c.dropv v) v l := by
  obtain ⟨hl, h⟩ := h
  refine slice_val.2 ?_
  rcases h with ⟨a, rfl, rfl⟩ | ⟨g, cap, cur, rfl, h1, h2, h3, h4, h5, h6⟩
  · exact ⟨a, 0, rfl, ⟨hl, Nat.le_refl _⟩, .inl rfl⟩
  · refine ⟨some ⟨g, 0, none⟩, cap + 1, rfl, ⟨hl, h3⟩, .inr ⟨g, 0, _, rfl, c.ok g h1, ?_, ?_, arrIs_mono (c.pub_dropv _) h6⟩⟩
    · intro hk
      have := (List.mem_filter.1 hk).2
      simp [blk] at this
    · intro j u hj
      rw [List.getElem?_take] at hj
      split at hj
      · simp only [Nat.zero_add]
        show (c.dropv _).w.cell? _ = _
        simp only [Cx.dropv, World.cell?, h2]
        simpa using hj
      · cases hj
theorem Cx.dropv_var {α : Type} {c : Cx} {b : Nat} {v : Value} {r : Rep α} {d : α} (h : Var c b r d) (hne : blk v ≠ some b) : Var (c.dropv v) b r d := by
  obtain ⟨h1, T, cs, h2, h3⟩ := h
  exact ⟨List.mem_filter.2 ⟨h1, by simpa using hne⟩, T, cs, h2, r.mono h3 (c.pub_dropv v)⟩
theorem Cx.dropv_own {α : Type} {c : Cx} {E : TypeId} {v u : Value} {r : Rep α} {l : List α} (h : Own c E u r l) (hne : ∀ g, blk u = some g → blk v ≠ some g) : Own (c.dropv v) E u r l := by
  refine ⟨h.1, ?_⟩
  rcases h.2 with h' | ⟨g', cap, cur, rfl, h1, h2, h3, h4, h5, h6⟩
  · exact .inl h'
  · exact .inr ⟨g', cap, cur, rfl, List.mem_filter.2 ⟨h1, by simpa using hne g' rfl⟩, h2, h3, h4, h5, arrIs_mono (c.pub_dropv v) h6⟩
theorem Since.dropv {c0 c : Cx} {v : Value} (h : Since c0 c) (hg : ∀ g, blk v = some g → c0.mine g) : Since c0 (c.dropv v) :=
  ⟨h.below, fun k hk hy => List.mem_filter.2 ⟨h.X k hk hy, by
    have := c0.ok k hk
    simp only [decide_eq_true_eq, ne_eq]
    intro e
    rcases hg k e with h1 | h1
    · omega
    · exact hy h1⟩⟩
def Src {α : Type} (c : Cx) (v : Value) (r : Rep α) (l : List α) : Prop :=
  ∃ a cap, v = .slice a l.length cap ∧ (l = [] ∨ ∃ b o cs, a = some ⟨b, o, none⟩ ∧ cellsAt c.w b o cs ∧ arrIs r c cs l)
theorem src_val {α : Type} {c : Cx} {v : Value} {r : Rep α} {l : List α} (h : (rSlice r).val c v l) : Src c v r l := by
  obtain ⟨a, cap, rfl, _, h⟩ := slice_val.1 h
  rcases h with h | ⟨b, o, cs, e, _, _, h3, h4⟩
  · exact ⟨a, cap, rfl, .inl h⟩
  · exact ⟨a, cap, rfl, .inr ⟨b, o, cs, e, h3, h4⟩⟩
theorem src_own {α : Type} {c : Cx} {E : TypeId} {v : Value} {r : Rep α} {l : List α} (h : Own c E v r l) : Src c v r l := by
  rcases h.2 with ⟨a, rfl, rfl⟩ | ⟨g, cap, cur, rfl, h1, h2, h3, h4, h5, h6⟩
  · exact ⟨a, 0, rfl, .inl rfl⟩
  · refine ⟨_, _, rfl, .inr ⟨g, 0, _, rfl, ?_, h6⟩⟩
    intro j u hj
    rw [List.getElem?_take] at hj
    split at hj
    · simp only [Nat.zero_add, World.cell?, h2]
      simpa using hj
    · cases hj
structure ElemOk {α : Type} (P : Program) (T E : TypeId) (r : Rep α) (bytes : Nat) (z : α) : Prop where
  under : P.underlying T = some (.slice E)
  info : ∃ i zv, P.info? E = some i ∧ i.zero = some zv ∧ i.size = r.n ∧ i.bytes = bytes ∧ ∀ c : Cx, r.val c zv z
  pos : 0 < r.n
section
variable {P : Program} {K : Value → World → Prop} {F : Fm} {o : Oper} {c : Cx}
theorem own_new {α : Type} (c : Cx) (E : TypeId) (r : Rep α) (l : List α) (xs : List Value) (extra : Array Value) (G : Nat) (h0 : 0 < G) (hG : l.length ≤ G) (hM : G ≤ maxLen) (hlen : l.length ≤ LEN) (hx : arrIs r c xs l) (he : extra.size = (G - l.length) * r.n) (w0 : World)
    (hw0 : w0.heap = c.w.heap ∧ w0.os = c.w.os ∧ w0.tape = c.w.tape ∧ w0.output = c.w.output) :
    ∃ c' : Cx, c'.w = w0.alloc (.cells (xs.toArray ++ extra) E) ∧ c.le c' ∧ Own c' E (.slice (some ⟨c.w.heap.size, 0, none⟩) l.length G) r l ∧ c.w.heap.size < c'.w.heap.size := by
  obtain ⟨e1, e2, e3, e4⟩ := hw0
  obtain ⟨cp, rfl⟩ : ∃ cp, G = cp + 1 := ⟨G - 1, by omega⟩
  have hxl := arrIs_len hx
  have hle : Below c.w.heap.size c.w (w0.alloc (.cells (xs.toArray ++ extra) E)) :=
    ⟨e2, e3, e4, by simp [e1], fun k hk => by rw [Below.heap_alloc w0 _ k (by rw [e1]; exact hk), e1]⟩
  have hnew := heap_alloc_new w0 (.cells (xs.toArray ++ extra) E)
  rw [e1] at hnew
  refine ⟨⟨c.w.heap.size :: c.X, w0.alloc (.cells (xs.toArray ++ extra) E), fun k hk => ?_, []⟩, rfl, ⟨hle, fun k hk => ?_⟩, ?_, ?_⟩
  · rcases List.mem_cons.1 hk with rfl | h
    · simp [e1]
    · have := c.ok k h; simp [e1]; omega
  · simp [Nat.ne_of_lt hk]
  · refine ⟨hlen, .inr ⟨c.w.heap.size, cp, _, rfl, by simp, hnew, hG, hM, ?_, ?_⟩⟩
    · simp only [Array.size_append, List.size_toArray, he, hxl, ← Nat.add_mul]
      congr 1; omega
    · have htake : (xs.toArray ++ extra).toList.take (l.length * r.n) = xs := by
        simp only [Array.toList_append]
        rw [← hxl, List.take_left]
      rw [htake]
      exact arrIs_mono ⟨hle.size, fun k hk hx => ⟨by simp [Nat.ne_of_lt hk, hx], hle.block k hk⟩⟩ hx
  · simp [e1]
theorem blk_new {g n cap : Nat} {i : Nat} (h : blk (.slice (some ⟨g, 0, none⟩) n cap) = some i) : i = g := by
  cases cap <;> simp [blk] at h
  exact h.symm
theorem append_own {α : Type} {T E U : TypeId} {r : Rep α} {bytes : Nat} {z : α} {v u : Value} {l m : List α} (hE : ElemOk P T E r bytes z) (ho : Own c E v r l) (hs : Src c u r m) (hlen : l.length + m.length ≤ LEN) (hby : (l.length + m.length) * bytes ≤ 140737488355328) :
    ∃ v' c', (Builtin.append_ #[T, T] U #[v, u]).run P c.w = .ok v' c'.w ∧ c.chg (blk v) c' ∧ Own c' E v' r (l ++ m) ∧ ∀ g, blk v' = some g → blk v = some g ∨ c.w.heap.size ≤ g := by
  obtain ⟨i, zv, hi, hz, hsz, hb, hzr⟩ := hE.info
  have hpos := hE.pos
  have hmax : l.length + m.length ≤ 9223372036854775807 := by unfold LEN at hlen; omega
  have hzs : zv.cells.size = r.n := by
    have := r.len (hzr c).cells
    simpa using this
  obtain ⟨a2, cap2, rfl, hsrc⟩ := hs
  have hmax' : ((l.length + m.length : Nat) : Int) ≤ 9223372036854775807 := by omega
  -- nothing to append
  by_cases hm : m = []
  · subst hm
    have hself : c.chg (blk v) c := ⟨rfl, rfl, rfl, Nat.le_refl _, fun _ _ _ => rfl, fun _ _ => Iff.rfl, ho.isX⟩
    refine ⟨v, c, ?_, hself, by simpa using ho, fun g hg => .inl hg⟩
    have hfirst : ∀ w : World, (Builtin.firstCells i.size 0 (.slice a2 0 cap2)).run P w = .ok #[] w := fun w => by
      cases a2 <;> simp [Builtin.firstCells, loadCells, loadCellsFrom]
    rcases ho.2 with ⟨a, rfl, rfl⟩ | ⟨g, cap, cur, rfl, h1, h2, h3, h4, h5, h6⟩
    · cases a <;> simp [Builtin.append_, run_underlying hE.under, sizeOf, typeInfo, hi, Builtin.lenOf, hfirst, storeCells]
    · simp [Builtin.append_, run_underlying hE.under, sizeOf, typeInfo, hi, Builtin.lenOf, hfirst, storeCells, h3]
  · obtain ⟨b2, o2, cs2, rfl, hc2, har2⟩ := hsrc.resolve_left hm
    have hmp : 0 < m.length := List.length_pos_iff.2 hm
    have hl2 := arrIs_len har2
    have hnews : ∀ j x, cs2[j]? = some x → c.w.cell? ((⟨b2, o2, none⟩ : Addr).add j) = some x := fun j x hj => by
      have hadd : (⟨b2, o2, none⟩ : Addr).add j = ⟨b2, o2 + j, none⟩ := by unfold Addr.add; split <;> simp_all
      rw [hadd]; exact hc2 j x hj
    -- a new array
    have grown : ∀ (old : Nat) (xs : List Value), old < l.length + m.length → arrIs r c xs l →
        ∃ c' : Cx, c'.w = c.w.drew.alloc (.cells (xs.toArray ++ cs2.toArray ++ Builtin.zeroCells zv.cells (grownCap c.w (l.length + m.length) old E - (l.length + m.length))) E) ∧ c.le c' ∧
          Own c' E (.slice (some ⟨c.w.heap.size, 0, none⟩) (l.length + m.length) (grownCap c.w (l.length + m.length) old E)) r (l ++ m) := by
      intro old xs hold hxs
      have hge := grownCap_ge c.w (l.length + m.length) old E
      have hcm : grownCap c.w (l.length + m.length) old E ≤ maxLen := grownCap_le_maxLen c.w _ old E (by unfold maxLen; omega)
      obtain ⟨c', h1, h2, h3, _⟩ := own_new c E r (l ++ m) (xs ++ cs2) (Builtin.zeroCells zv.cells (grownCap c.w (l.length + m.length) old E - (l.length + m.length))) (grownCap c.w (l.length + m.length) old E) (by omega) (by simpa using hge) hcm (by simpa using hlen)
        (arrIs_append hxs har2) (by rw [size_zeroCells, hzs]; simp) c.w.drew ⟨rfl, rfl, rfl, rfl⟩
      refine ⟨c', by rw [h1]; simp, h2, by simpa using h3⟩
    rcases ho.2 with ⟨a, rfl, rfl⟩ | ⟨g, cap, cur, rfl, h1, h2, h3, h4, h5, h6⟩
    · -- no capacity
      have hz0 : arrIs r c [] ([] : List α) := rfl
      obtain ⟨c', hw, hle, hown⟩ := grown 0 [] (by simp; omega) hz0
      simp only [List.length_nil, Nat.zero_add] at hw hown hmax' hby
      have hch : c.chg (blk (.slice a 0 0)) c' := by
        have : blk (.slice a 0 0) = none := by cases a <;> rfl
        rw [this]; exact hle.chg
      refine ⟨_, c', ?_, hch, hown, fun g hg => .inr (Nat.le_of_eq (blk_new hg).symm)⟩
      rw [hw]
      cases a with
      | none =>
        have := run_append_nil (P := P) c.w T U E i zv hE.under hi hz ⟨b2, o2, none⟩ m.length cap2 cs2 (by rw [hl2, hsz]) hnews hmp hmax' (by rw [hb]; omega)
        simpa using this
      | some ad =>
        have := run_append_grow (P := P) c.w T U E i zv hE.under hi hz ad 0 0 [] (by simp) (by simp) ⟨b2, o2, none⟩ m.length cap2 cs2 (by rw [hl2, hsz]) hnews (by omega) (by simpa using hmax') (growslice_fits (by omega) (by rw [hb]; simpa using hby))
        simpa using this
    · by_cases hroom : l.length + m.length ≤ cap + 1
      · -- there is room
        have hfit : l.length * i.size + cs2.length ≤ cur.size := by rw [hl2, h5, hsz, ← Nat.add_mul]; exact Nat.mul_le_mul_right _ hroom
        have hr := run_append_room (P := P) c.w T U E i hE.under hi g l.length (cap + 1) cur h2 ⟨b2, o2, none⟩ m.length cap2 cs2 (by rw [hl2, hsz]) hnews (arrIs_cell har2) hroom hfit
        rw [hsz] at hr
        have hcok : ∀ k, k ∈ c.X → k < (c.w.setRow g (cur.toList.take (l.length * r.n) ++ cs2 ++ cur.toList.drop (l.length * r.n + cs2.length)).toArray).heap.size := fun k hk => by simpa using c.ok k hk
        have hch : c.chg (some g) ⟨c.X, _, hcok, []⟩ := ⟨rfl, rfl, rfl, by simp, fun k _ hk => setRow_other _ _ _ _ (fun e => hk (e ▸ rfl)), fun _ _ => Iff.rfl, fun k hk => by cases hk; exact h1⟩
        refine ⟨_, ⟨c.X, _, hcok, []⟩, hr, hch, ⟨by simpa using hlen, .inr ⟨g, cap, _, by simp, h1, setRow_heap c.w g cur _ E _ h2, by simpa using hroom, h4, ?_, ?_⟩⟩, fun g' hg' => .inl (by rw [blk_new hg']; rfl)⟩
        · simp only [List.size_toArray, List.length_append, List.length_take, List.length_drop, Array.length_toList]
          rw [h5, hl2] at *
          have : (l.length + m.length) * r.n ≤ (cap + 1) * r.n := Nat.mul_le_mul_right _ hroom
          rw [Nat.add_mul] at this
          omega
        · have hxl := arrIs_len h6
          have htake : (cur.toList.take (l.length * r.n) ++ cs2 ++ cur.toList.drop (l.length * r.n + cs2.length)).toArray.toList.take ((l ++ m).length * r.n) = cur.toList.take (l.length * r.n) ++ cs2 := by
            simp only [List.length_append, Nat.add_mul]
            rw [List.take_append_of_le_length (by rw [List.length_append, hxl, hl2]; omega)]
            exact List.take_of_length_le (by rw [List.length_append, hxl, hl2]; omega)
          rw [htake]
          exact arrIs_append (arrIs_mono hch.pub h6) (arrIs_mono hch.pub har2)
      · -- it grows
        have hxl := arrIs_len h6
        obtain ⟨c', hw, hle, hown⟩ := grown (cap + 1) _ (by omega) h6
        have holds : ∀ j x, (cur.toList.take (l.length * r.n))[j]? = some x → c.w.cell? ((⟨g, 0, none⟩ : Addr).add j) = some x := fun j x hj => by
          have hadd : (⟨g, 0, none⟩ : Addr).add j = ⟨g, j, none⟩ := by unfold Addr.add; split <;> simp_all
          rw [hadd]
          rw [List.getElem?_take] at hj
          split at hj
          · simp only [World.cell?, h2]; simpa using hj
          · cases hj
        have hr := run_append_grow (P := P) c.w T U E i zv hE.under hi hz ⟨g, 0, none⟩ l.length (cap + 1) _ (by rw [hxl, hsz]) holds ⟨b2, o2, none⟩ m.length cap2 cs2 (by rw [hl2, hsz]) hnews (by omega) hmax' (growslice_fits (by omega) (by rw [hb]; exact hby))
        refine ⟨_, c', by rw [hw]; exact hr, ?_, hown, fun g' hg' => .inr (Nat.le_of_eq (blk_new hg').symm)⟩
        have hc := hle.chg
        exact ⟨hc.os, hc.tape, hc.output, hc.size, fun k hk _ => hc.keep k hk (by simp), hc.old, fun k hk => ho.isX k hk⟩
theorem y_append {α : Type} {T E : TypeId} {r : Rep α} {bytes : Nat} {z : α} {x y : Operand} {l m : List α} (hop : o.op = .call { callee := .builtin .append, args := #[x, y], argTypes := #[T, T] }) (hE : ElemOk P T E r bytes z) (ho : Own c E (ev F x) r l) (hs : Src c (ev F y) r m)
    (hlen : l.length + m.length ≤ LEN) (hby : (l.length + m.length) * bytes ≤ 140737488355328)
    (h : ∀ v' c', c.chg (blk (ev F x)) c' → Own c' E v' r (l ++ m) → (∀ g, blk v' = some g → blk (ev F x) = some g ∨ c.w.heap.size ≤ g) → K v' c'.w) : Yields P K (run P F o c.w) := by
  obtain ⟨v', c', hr, h1, h2, h3⟩ := append_own (U := o.type) hE ho hs hlen hby
  refine yv (v := v') (w' := c'.w) ?_ (h v' c' h1 h2 h3)
  simp only [run, execOp, hop, resolve, invoke, builtin, Sem.run_bind, Sem.run_pure, Result.andThen_ok, List.map_toArray, List.map_cons, List.map_nil, hr]
theorem madeCells_eq (z : Array Value) (k : Nat) : (madeCells z (k * z.size)).toList = (List.replicate k z.toList).flatten := by
  unfold madeCells
  simp only [Array.toList_map, Array.toList_range]
  induction k with
  | zero => simp
  | succ k ih =>
    rw [Nat.add_mul, Nat.one_mul, List.range_add, List.map_append, ih, List.replicate_succ', List.flatten_append, List.map_map]
    congr 1
    simp only [List.flatten_cons, List.flatten_nil, List.append_nil]
    apply List.ext_getElem
    · simp
    · intro j h1 h2
      have hj : j < z.size := by simpa using h2
      simp [Nat.add_comm (k * z.size) j, Nat.mod_eq_of_lt hj, hj]
theorem y_make {α : Type} {T E : TypeId} {r : Rep α} {bytes : Nat} {z : α} {x y : Operand} {k1 k2 : IntKind} {n cap : Int} (hop : o.op = .makeSlice T x y) (hE : ElemOk P T E r bytes z) (hx : ev F x = .int k1 n) (hy : ev F y = .int k2 cap) (h0 : 0 ≤ n) (hc : n ≤ cap)
    (hlen : cap ≤ LEN) (hby : (bytes : Int) * cap ≤ 281474976710656)
    (h : ∀ v' c', c.le c' → Own c' E v' r (List.replicate n.toNat z) → (∀ g, blk v' = some g → c.w.heap.size ≤ g) → K v' c'.w) : Yields P K (run P F o c.w) := by
  obtain ⟨i, zv, hi, hz, hsz, hb, hzr⟩ := hE.info
  have hpos := hE.pos
  have hzs : zv.cells.size = r.n := by
    have := r.len (hzr c).cells
    simpa using this
  have hl : cap ≤ 1073741824 := by unfold LEN at hlen; omega
  have hr := run_make (P := P) c.w T E i zv hE.under hi hz k1 k2 n cap h0 hc (by rw [hb]; exact hby) (by omega)
  have hstep : run P F o c.w = .ok (.value (.slice (some ⟨c.w.heap.size, 0, none⟩) n.toNat cap.toNat)) (c.w.alloc (.cells (madeCells zv.cells (cap.toNat * i.size)) E)) := by
    simp [run, execOp, hop, hx, hy, hr]
  have hcells : ∀ k, arrIs r c (List.replicate k zv.cells.toList).flatten (List.replicate k z) := fun k => arrIs_replicate k (hzr c).cells
  have hmade : madeCells zv.cells (cap.toNat * i.size) = ((List.replicate n.toNat zv.cells.toList).flatten).toArray ++ ((List.replicate (cap.toNat - n.toNat) zv.cells.toList).flatten).toArray := by
    apply Array.ext'
    rw [hsz, ← hzs, madeCells_eq]
    simp only [Array.toList_append, List.toList_toArray, ← List.flatten_append, List.replicate_append_replicate]
    rw [show n.toNat + (cap.toNat - n.toNat) = cap.toNat by omega]
  by_cases hcap : cap.toNat = 0
  · have hn : n.toNat = 0 := by omega
    have hbl : Below c.w.heap.size c.w (c.w.alloc (.cells (madeCells zv.cells (cap.toNat * i.size)) E)) := (Below.refl _ _).alloc (Nat.le_refl _) _
    have e0 : List.replicate n.toNat z = [] := by rw [hn]; rfl
    have e1 : Value.slice (some ⟨c.w.heap.size, 0, none⟩) n.toNat cap.toNat = .slice (some ⟨c.w.heap.size, 0, none⟩) 0 0 := by rw [hn, hcap]
    rw [e0] at h
    refine yv hstep ?_
    rw [e1]
    exact h _ (c.at _ hbl.size) (Cx.le_at hbl) ⟨Nat.zero_le _, .inl ⟨_, rfl, rfl⟩⟩ (fun g hg => by simp [blk] at hg)
  · obtain ⟨c', hw, hle, hown, _⟩ := own_new c E r (List.replicate n.toNat z) _ ((List.replicate (cap.toNat - n.toNat) zv.cells.toList).flatten).toArray cap.toNat (by omega) (by simp; omega) (by unfold maxLen; omega) (by simp; unfold LEN; omega) (hcells _) (by
      have := arrIs_len (hcells (cap.toNat - n.toNat))
      simpa using this) c.w ⟨rfl, rfl, rfl, rfl⟩
    refine yv hstep ?_
    rw [hmade, ← hw]
    exact h _ c' hle (by simpa using hown) (fun g hg => Nat.le_of_eq (blk_new hg).symm)
end
end Go.Proofs.Ytcbdmoihobdjaaa
