import Derived.Test.YtcbdmoihobdjaaaB7
namespace Go.Proofs.Ytcbdmoihobdjaaa
open Go.RowKit
section
variable {P : Program} {K : Value → World → Prop} {F : Fm} {o : Oper} {c : Cx} {w : World}
def optIs (v : Value) (n i off : Nat) (p : Value) : Prop := ∃ g len cap, v = .slice (some ⟨g, 0, none⟩) len (cap + 1) ∧ p = .pointer (some ⟨g, i * n + off, none⟩)
theorem y_fieldAddr_own {S : TypeId} {x : Operand} {k off n i o1 : Nat} {v : Value} (ho : o.op = .fieldAddr S x k) (hf : FieldOk P S k off) (hx : optIs v n i o1 (ev F x)) (h : ∀ u, optIs v n i (o1 + off) u → K u w) : Yields P K (run P F o w) := by
 obtain ⟨g, len, cap, e1, e2⟩ := hx
 have hadd : (⟨g, i * n + o1, none⟩ : Addr).add off = ⟨g, i * n + (o1 + off), none⟩ := by unfold Addr.add; split <;> simp_all [Nat.add_assoc]
 refine yv (v := .pointer (some ⟨g, i * n + (o1 + off), none⟩)) (w' := w) ?_ (h _ ⟨g, len, cap, e1, rfl⟩)
 simp [run, execOp, ho, e2, hf w, hadd]
theorem elem_cells {α : Type} {r : Rep α} {cur : Array Value} {l : List α} {i : Nat} (h : arrIs r c (cur.toList.take (l.length * r.n)) l) (hi : i < l.length) : r.is c ((cur.toList.drop (i * r.n)).take r.n) l[i] := by
 have := arrIs_get h i hi
 rw [List.drop_take, List.take_take] at this
 have h1 : (i + 1) * r.n ≤ l.length * r.n := Nat.mul_le_mul_right _ hi
 rw [Nat.add_mul, Nat.one_mul] at h1
 rwa [show min r.n (l.length * r.n - i * r.n) = r.n by omega] at this
theorem y_load_own {α β : Type} [Inhabited α] {r : Rep α} {s : Rep β} {T E : TypeId} {x : Operand} {v : Value} {l : List α} {i off : Nat} {get : α → β} {set : α → β → α} (ho : o.op = .load T x) (hT : TyOk P T s) (hv : Own c E v r l) (hs : Sub r off s get set) (hi : i < l.length)
  (hx : optIs v r.n i off (ev F x)) (h : ∀ u, s.val c u (get (l.getD i default)) → K u c.w) : Yields P K (run P F o c.w) := by
 obtain ⟨g, len, cap, e1, e2⟩ := hx
 subst e1
 rcases hv.2 with ⟨a, e, rfl⟩ | ⟨g', cap', cur, e, h1, h2, h3, h4, h5, h6⟩
 ·simp at hi
 ·cases e
  have hel := elem_cells h6 hi
  have hg : l.getD i default = l[i] := by simp [List.getD, List.getElem?_eq_getElem hi]
  have hpart := hs.get_is hel
  have hcells : cellsAt c.w g (i * r.n + off) ((((cur.toList.drop (i * r.n)).take r.n).drop off).take s.n) := by
   have h0 : cellsAt c.w g 0 cur.toList := by
    intro j u hj
    have : cur[j]? = some u := by simpa using hj
    simp [World.cell?, h2, this]
   have := (h0.part (i * r.n) r.n).part off s.n
   simpa using this
  rw [hg] at h
  refine yv (v := mkV s.agg _) (w' := c.w) ?_ (h _ ⟨_, hpart, rfl⟩)
  simp [run, execOp, ho, Instr.loadAt, e2, Instr.sureAddr, run_loadVar_at hT hpart hcells]
theorem y_store_own {α β : Type} [Inhabited α] {r : Rep α} {s : Rep β} {T E : TypeId} {x y : Operand} {v : Value} {l : List α} {i off : Nat} {get : α → β} {set : α → β → α} {d : β} (ho : o.op = .store T x y) (hT : TyOk P T s) (hv : Own c E v r l) (hs : Sub r off s get set) (hi : i < l.length)
  (hx : optIs v r.n i off (ev F x)) (hy : s.val c (ev F y) d) (h : ∀ c', c.chg (blk v) c' → Own c' E v r (l.set i (set (l.getD i default) d)) → K undef c'.w) : Yields P K (run P F o c.w) := by
 obtain ⟨g, len, cap, e1, e2⟩ := hx
 subst e1
 rcases hv.2 with ⟨a, e, rfl⟩ | ⟨g', cap', cur, e, h1, h2, h3, h4, h5, h6⟩
 ·simp at hi
 ·cases e
  have hel := elem_cells h6 hi
  have hg : l.getD i default = l[i] := by simp [List.getD, List.getElem?_eq_getElem hi]
  have hyc := hy.cells
  have hyl := s.len hyc
  have hbd := hs.bound
  have hin : (i + 1) * r.n ≤ l.length * r.n := Nat.mul_le_mul_right _ hi
  rw [Nat.add_mul, Nat.one_mul] at hin
  have hcap : l.length * r.n ≤ (cap + 1) * r.n := Nat.mul_le_mul_right _ h3
  have hfit : i * r.n + off + (ev F y).cells.toList.length ≤ cur.size := by omega
  have hst := run_storeCells_at P g (i * r.n + off) E (ev F y).cells.toList 0 cur c.w h2 (by simpa using hfit) (s.cell hyc)
  simp only [Nat.add_zero] at hst
  have hnew := hs.set_is hel hyc
  have hset := arrIs_set hnew h6 i hi
  let cur' := (cur.toList.take (i * r.n + off) ++ (ev F y).cells.toList ++ cur.toList.drop (i * r.n + off + (ev F y).cells.toList.length)).toArray
  have hcok : ∀ k, k ∈ c.X → k < (c.w.setRow g cur').heap.size := fun k hk => by simpa using c.ok k hk
  have hch : c.chg (some g) ⟨c.X, c.w.setRow g cur', hcok, []⟩ := ⟨rfl, rfl, rfl, by simp, fun k _ hk => setRow_other _ _ _ _ (fun e => hk (e ▸ rfl)), fun _ _ => Iff.rfl, fun k hk => by cases hk; exact h1⟩
  refine ys (w' := c.w.setRow g cur') ?_ (h ⟨c.X, _, hcok, []⟩ hch ⟨by simpa using hv.1, .inr ⟨g, cap, cur', by simp, h1, setRow_heap c.w g cur _ E _ h2, by simpa using h3, h4, ?_, ?_⟩⟩)
  ·have hsz : (ev F y).cells.size = s.n := by rw [← hyl]; simp
   simp only [run, execOp, ho, Instr.storeAt, e2, Instr.sureAddr, Sem.run_bind, Sem.run_pure, Result.andThen_ok, storeVar, hT.size, hsz, ne_eq, not_true_eq_false, if_false, hst, cur']
  ·simp only [cur', List.size_toArray, List.length_append, List.length_take, List.length_drop, Array.length_toList]
   have hsz : (ev F y).cells.size = s.n := by rw [← hyl]; simp
   have hf2 := hfit
   simp only [Array.length_toList] at hf2
   rw [h5] at hf2 ⊢
   omega
  ·rw [hg]
   refine arrIs_mono hch.pub (cast (congrArg (fun q => arrIs r c q _) ?_) hset)
   simp only [cur', List.length_set]
   generalize hL : l.length * r.n = L at *
   generalize hI : i * r.n = I at *
   generalize hY : (ev F y).cells.toList = ys at *
   rw [hyl]
   have hc1 : cur.toList.length = (cap + 1) * r.n := by simpa using h5
   -- both sides, piece by piece
   have e1 : (cur.toList.take L).take I = cur.toList.take I := by rw [List.take_take, show min I L = I by omega]
   have e2 : (cur.toList.drop I).take r.n = (cur.toList.drop I).take r.n := rfl
   have e3 : (cur.toList.take L).drop (I + r.n) = (cur.toList.drop (I + r.n)).take (L - (I + r.n)) := by rw [List.drop_take]
   have e4 : ((cur.toList.drop I).take r.n).take off = (cur.toList.drop I).take off := by rw [List.take_take, show min off r.n = off by omega]
   have e5 : ((cur.toList.drop I).take r.n).drop (off + s.n) = (cur.toList.drop (I + off + s.n)).take (r.n - (off + s.n)) := by rw [List.drop_take, List.drop_drop, Nat.add_assoc]
   rw [e1, e3, e4, e5]
   have e6 : cur.toList.take (I + off) = cur.toList.take I ++ (cur.toList.drop I).take off := by rw [List.take_add]
   rw [e6]
   have e7 : cur.toList.drop (I + off + s.n) = (cur.toList.drop (I + off + s.n)).take (r.n - (off + s.n)) ++ cur.toList.drop (I + r.n) := by
    conv => lhs; rw [← List.take_append_drop (r.n - (off + s.n)) (cur.toList.drop (I + off + s.n))]
    rw [List.drop_drop, show I + off + s.n + (r.n - (off + s.n)) = I + r.n by omega]
   have hlt : (cur.toList.take I ++ (cur.toList.drop I).take off ++ ys ++ (cur.toList.drop (I + off + s.n)).take (r.n - (off + s.n))).length = I + r.n := by
    simp only [List.length_append, List.length_take, List.length_drop, hc1, hyl]
    omega
   rw [List.toList_toArray]
   conv => rhs; rw [e7, ← List.append_assoc, List.take_append, hlt, List.take_of_length_le (by rw [hlt]; omega)]
   simp [List.append_assoc]
theorem optIs.congr {v : Value} {n i off : Nat} {p q : Value} (h : optIs v n i off p) (e : q = p) : optIs v n i off q := by subst e; exact h
theorem y_buildSlice {α : Type} {T E : TypeId} {r : Rep α} {bytes n : Nat} {z : α} {parts : List (Nat × Operand)} {d : List α} (ho : o.op = .buildSlice T n parts.toArray) (hE : ElemOk P T E r bytes z) (hn : n * r.n ≤ 16777216)
  (hf : FillsTo (fun i => some (i * r.n, r.n)) (rArr r n) c (parts.map fun p => (p.1, ev F p.2)) (List.replicate n z) d) (hd : d.length = n)
  (h : ∀ v c', c.le c' → Own c' E v r d → (∀ g, blk v = some g → c.w.heap.size ≤ g) → K v c'.w) : Yields P K (run P F o c.w) := by
 obtain ⟨i, zv, hi, hz, hsz, hb, hzr⟩ := hE.info
 have hpos := hE.pos
 have hzs : zv.cells.size = r.n := by
  have := r.len (hzr c).cells
  simpa using this
 have hru : (underlying T).run P c.w = .ok (.slice E) c.w := by simp [underlying, hE.under]
 have hzero : (Array.range (n * i.size)).map (fun j => zv.cells[j % zv.cells.size]!) = madeCells zv.cells (n * i.size) := rfl
 have hz0 : (rArr r n).is c (madeCells zv.cells (n * i.size)).toList (List.replicate n z) := by
  rw [hsz, ← hzs, madeCells_eq]
  exact ⟨by simp, arrIs_replicate n (hzr c).cells⟩
 obtain ⟨cs', h1, h2⟩ := hf _ hz0
 have hstep : run P F o c.w = .ok (.value (.slice (some ⟨c.w.heap.size, 0, none⟩) n n)) (c.w.alloc (.cells cs' E)) := by
  have e : (parts.toArray.map fun (p : Nat × Operand) => (p.1, ev F p.2)).toList = parts.map fun p => (p.1, ev F p.2) := by simp
  have hnot : ¬ (16777216 < n * r.n) := by omega
  by_cases hn0 : n = 0
  ·subst hn0
   have h1' : Instr.fill (fun i => some (i * r.n, r.n)) #[] (parts.map fun p => (p.1, ev F p.2)) = some cs' := by simpa [madeCells, Array.range_zero'] using h1
   simp [run, execOp, ho, Instr.buildSlice, hru, sizeOf, typeInfo, hi, hsz, Array.range_zero', h1', newRow]
  ·have hne : n * r.n ≠ 0 := Nat.mul_ne_zero hn0 (by omega)
   rw [hsz] at h1
   simp [run, execOp, ho, Instr.buildSlice, hru, sizeOf, typeInfo, hi, zeroValue, hz, hsz, hnot, hne]
   have hn0' : ¬ r.n = 0 := by omega
   rw [show (Array.map (fun x => zv.cells[x % zv.cells.size]!) (Array.range (n * r.n))) = madeCells zv.cells (n * r.n) from rfl, h1]
   simp [newRow]
 by_cases hn0 : n = 0
 ·subst hn0
  have hbl : Below c.w.heap.size c.w (c.w.alloc (.cells cs' E)) := (Below.refl _ _).alloc (Nat.le_refl _) _
  refine yv hstep ?_
  exact h _ (c.at _ hbl.size) (Cx.le_at hbl) ⟨by omega, .inl ⟨_, rfl, List.eq_nil_of_length_eq_zero hd⟩⟩ (fun g hg => by simp [blk] at hg)
 ·have hl : n ≤ 16777216 := Nat.le_trans (Nat.le_mul_of_pos_right n hpos) hn
  obtain ⟨c', hw, hle, hown, _⟩ := own_new c E r d cs'.toList #[] n (by omega) (by omega) (by unfold maxLen; omega) (by unfold LEN; omega) h2.2 (by simp [hd]) c.w ⟨rfl, rfl, rfl, rfl⟩
  refine yv hstep ?_
  have e : c'.w = c.w.alloc (.cells cs' E) := by rw [hw]; simp
  rw [← e]
  rw [hd] at hown
  exact h _ c' hle hown (fun g hg => Nat.le_of_eq (blk_new hg).symm)
theorem slice_part {α : Type} {r : Rep α} {a : Option Addr} {l : List α} {lo hi m : Nat} (h : sliceIs r c a l) (h1 : lo ≤ hi) (h2 : hi ≤ l.length) (hm : hi ≤ m) : sliceIs r c (if m = lo then a else a.map (·.add (lo * r.n))) ((l.drop lo).take (hi - lo)) := by
 rcases h with rfl | ⟨b, o, cs, rfl, k1, k2, k3, k4⟩
 ·exact .inl (by simp)
 ·by_cases he : lo = hi
  ·subst he; exact .inl (by simp)
  ·rw [if_neg (by omega)]
   have hadd : (⟨b, o, none⟩ : Addr).add (lo * r.n) = ⟨b, o + lo * r.n, none⟩ := by unfold Addr.add; split <;> simp_all
   refine .inr ⟨b, o + lo * r.n, (cs.drop (lo * r.n)).take ((hi - lo) * r.n), by simp [hadd], k1, k2, k3.part _ _, ?_⟩
   have key : ∀ (cs : List Value) (l : List α) (lo n : Nat), arrIs r c cs l → lo + n ≤ l.length → arrIs r c ((cs.drop (lo * r.n)).take (n * r.n)) ((l.drop lo).take n) := by
    intro cs l lo n
    induction lo generalizing cs l with
    | zero =>
     induction n generalizing cs l with
     | zero => intro _ _; simp [arrIs]
     | succ n ih =>
      intro ha hl
      match l, ha with
      | d :: l, ⟨c1, c2, e, i1, i2⟩ =>
       have hl1 := r.len i1
       have := ih c2 l i2 (by simp at hl; omega)
       simp only [Nat.zero_mul, List.drop_zero, List.take_succ_cons] at this ⊢
       refine ⟨c1, c2.take (n * r.n), ?_, i1, this⟩
       subst e
       rw [Nat.add_mul, Nat.one_mul, List.take_append, hl1, List.take_of_length_le (by omega), show n * r.n + r.n - r.n = n * r.n by omega]
      | [], _ => simp at hl
    | succ lo ih =>
     intro ha hl
     match l, ha with
     | d :: l, ⟨c1, c2, e, i1, i2⟩ =>
      have hl1 := r.len i1
      have := ih c2 l i2 (by simp at hl; omega)
      subst e
      rw [show (lo + 1) * r.n = c1.length + lo * r.n by rw [hl1, Nat.add_mul]; omega, ← List.drop_drop, List.drop_left]
      simpa using this
     | [], _ => simp at hl
   exact key cs l lo (hi - lo) k4 (by omega)
theorem bound_ok {x : Value} {k : IntKind} {i : Int} {y : Nat} {code : BoundsCode} (hx : x = .int k i) (h : 0 ≤ i ∧ i ≤ y) : (Instr.sliceBound x y code).run P w = .ok i.toNat w := by
 subst hx
 simp [Instr.sliceBound, asIntOf, h.1, h.2]
theorem y_slice {α : Type} {r : Rep α} {T E : TypeId} {x : Operand} {lo hi : Option Operand} {l : List α} {i j : Int} (ho : o.op = .slice T x lo hi none) (hT : P.underlying T = some (.slice E)) (hE : TyOk P E r)
  (hx : (rSlice r).val c (ev F x) l) (hlo : (lo = none ∧ i = 0) ∨ ∃ y k, lo = some y ∧ ev F y = .int k i) (hhi : (hi = none ∧ j = l.length) ∨ ∃ y k, hi = some y ∧ ev F y = .int k j) (h0 : 0 ≤ i ∧ i ≤ j ∧ j ≤ l.length)
  (h : ∀ v, (rSlice r).val c v ((l.drop i.toNat).take (j.toNat - i.toNat)) → (∃ a cap, ev F x = .slice a l.length cap ∧ v = .slice (if cap = i.toNat then a else a.map (·.add (i.toNat * r.n))) (j.toNat - i.toNat) (cap - i.toNat)) → K v c.w) : Yields P K (run P F o c.w) := by
 obtain ⟨a, cap, e, hl, hs⟩ := slice_val.1 hx
 have hru : (underlying T).run P c.w = .ok (.slice E) c.w := by simp [underlying, hT]
 have hb1 : ∀ y k code, ev F y = .int k j → (Instr.sliceBound (ev F y) cap code).run P c.w = .ok j.toNat c.w := fun y k code hy => bound_ok hy ⟨by omega, by have := hl.2; omega⟩
 have hb2 : ∀ y k code, ev F y = .int k i → (Instr.sliceBound (ev F y) j.toNat code).run P c.w = .ok i.toNat c.w := fun y k code hy => bound_ok hy ⟨by omega, by omega⟩
 have hp := slice_part (m := cap) hs (show i.toNat ≤ j.toNat by omega) (show j.toNat ≤ l.length by omega) (by have := hl.2; omega)
 have hn : ((l.drop i.toNat).take (j.toNat - i.toNat)).length = j.toNat - i.toNat := by simp; omega
 refine yv (v := .slice (if cap = i.toNat then a else a.map (·.add (i.toNat * r.n))) (j.toNat - i.toNat) (cap - i.toNat)) (w' := c.w) ?_ (h _ (slice_val.2 ⟨_, cap - i.toNat, by rw [hn], ⟨by rw [hn]; have := hl.1; omega, by rw [hn]; have := hl.2; omega⟩, hp⟩) ⟨a, cap, e, rfl⟩)
 have hnot : ∀ T', P.underlying T = some T' → T' = .slice E := fun T' h' => by rw [hT] at h'; exact (Option.some.inj h').symm
 rcases hlo with ⟨rfl, rfl⟩ | ⟨y1, k1, rfl, hy1⟩ <;> rcases hhi with ⟨rfl, rfl⟩ | ⟨y2, k2, rfl, hy2⟩
 ·simp [run, execOp, ho, Instr.sliceAt, hru, e, Instr.slice, Instr.sliceBounds, hE.size]
 ·simp [run, execOp, ho, Instr.sliceAt, hru, e, Instr.slice, Instr.sliceBounds, hE.size, hb1 y2 k2 _ hy2]
 ·have hb3 : ∀ code, (Instr.sliceBound (ev F y1) l.length code).run P c.w = .ok i.toNat c.w := fun code => bound_ok hy1 ⟨by omega, by omega⟩
  simp [run, execOp, ho, Instr.sliceAt, hru, e, Instr.slice, Instr.sliceBounds, hE.size, hb3]
 ·simp [run, execOp, ho, Instr.sliceAt, hru, e, Instr.slice, Instr.sliceBounds, hE.size, hb1 y2 k2 _ hy2, hb2 y1 k1 _ hy1]
end
end Go.Proofs.Ytcbdmoihobdjaaa
