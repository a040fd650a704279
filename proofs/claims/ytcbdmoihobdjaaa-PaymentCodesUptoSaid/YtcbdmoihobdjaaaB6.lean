import Derived.Test.YtcbdmoihobdjaaaB5
namespace Go.Proofs.Ytcbdmoihobdjaaa
open Go.RowKit
theorem fill_splice (xs : List Value) : ∀ (cs : Array Value) (off k : Nat), off + k + xs.length ≤ cs.size →
  ((xs.zipIdx k).foldl (fun cs (p : Value × Nat) => cs.setIfInBounds (off + p.2) p.1) cs).toList = cs.toList.take (off + k) ++ xs ++ cs.toList.drop (off + k + xs.length) := by
 induction xs with
 | nil => intro cs off k h; simp
 | cons x xs ih =>
  intro cs off k h
  simp only [List.zipIdx_cons, List.foldl_cons]
  rw [ih _ off (k + 1) (by simp at h ⊢; omega)]
  simp only [Array.toList_setIfInBounds, List.length_cons]
  have hlt : off + k < cs.toList.length := by simp at h ⊢; omega
  have e1 : (cs.toList.set (off + k) x).take (off + (k + 1)) = cs.toList.take (off + k) ++ [x] := by
   rw [show off + (k + 1) = (off + k) + 1 by omega, List.take_succ_eq_append_getElem (by simpa using hlt)]
   congr 1
   ·rw [List.take_set]
    exact List.set_eq_of_length_le (by simp; omega)
   ·simp
  have e2 : (cs.toList.set (off + k) x).drop (off + (k + 1) + xs.length) = cs.toList.drop (off + k + (xs.length + 1)) := by
   rw [List.drop_set_of_lt (by omega)]
   congr 1; omega
  rw [e1, e2]
  simp
def FillsTo {α : Type} (place : Nat → Option (Nat × Nat)) (r : Rep α) (c : Cx) (l : List (Nat × Value)) (d d' : α) : Prop :=
 ∀ cs : Array Value, r.is c cs.toList d → ∃ cs', Instr.fill place cs l = some cs' ∧ r.is c cs'.toList d'
theorem fills_nil {α : Type} {place : Nat → Option (Nat × Nat)} {r : Rep α} {c : Cx} {d : α} : FillsTo place r c [] d d := fun cs h => ⟨cs, rfl, h⟩
theorem fills_cons {α β : Type} {place : Nat → Option (Nat × Nat)} {r : Rep α} {s : Rep β} {c : Cx} {i off : Nat} {get : α → β} {set : α → β → α} {v : Value} {x : β} {l : List (Nat × Value)} {d d' : α}
  (hs : Sub r off s get set) (hp : place i = some (off, s.n)) (hv : s.val c v x) (h : FillsTo place r c l (set d x) d') : FillsTo place r c ((i, v) :: l) d d' := by
 intro cs hc
 have hx := hv.cells
 have hl := s.len hx
 have hr := r.len hc
 have hb := hs.bound
 have hvs : v.cells.size = s.n := by rw [← hl]; simp
 have hcs : cs.size = r.n := by rw [← hr]; simp
 have hfold : (v.cells.zipIdx.foldl (fun cs (p : Value × Nat) => cs.setIfInBounds (off + p.2) p.1) cs).toList = cs.toList.take off ++ v.cells.toList ++ cs.toList.drop (off + s.n) := by
  have := fill_splice v.cells.toList cs off 0 (by simp; omega)
  simp only [Nat.add_zero] at this
  rw [hl] at this
  rw [← this, ← Array.foldl_toList]
  simp
 obtain ⟨cs', h1, h2⟩ := h _ (hfold ▸ hs.set_is hc hx)
 refine ⟨cs', ?_, h2⟩
 unfold Instr.fill
 simp only [hp]
 rw [if_neg (by simp [hvs]; omega)]
 exact h1
section
variable {P : Program} {K : Value → World → Prop} {F : Fm} {o : Oper} {c : Cx} {w : World}
def BuildOk (P : Program) (T : TypeId) (pl : Array (Nat × Nat)) : Prop :=
 ∃ fs, P.underlying T = some (.struct fs) ∧ ∀ w, (fs.mapM fun f => do pure (f.offset, ← sizeOf f.type) : Sem (Array (Nat × Nat))).run P w = .ok pl w
theorem y_build {α : Type} {r : Rep α} {T : TypeId} {parts : List (Nat × Operand)} {pl : Array (Nat × Nat)} {d d' : α} {z : Value} (ho : o.op = .build T parts.toArray) (hb : BuildOk P T pl) (hz : ∀ w, (zeroValue T).run P w = .ok z w) (hzd : r.val c z d) (ha : r.agg = true)
  (hf : FillsTo (pl[·]?) r c (parts.map fun p => (p.1, ev F p.2)) d d') (h : ∀ v, r.val c v d' → K v c.w) : Yields P K (run P F o c.w) := by
 obtain ⟨fs, hu, hm⟩ := hb
 obtain ⟨cs', h1, h2⟩ := hf z.cells hzd.cells
 refine yv (v := .agg cs') (w' := c.w) ?_ (h _ ⟨cs'.toList, h2, by simp [mkV, ha]⟩)
 have hru : (underlying T).run P c.w = .ok (.struct fs) c.w := by simp [underlying, hu]
 have e : (parts.toArray.map fun (p : Nat × Operand) => (p.1, ev F p.2)).toList = parts.map fun p => (p.1, ev F p.2) := by simp
 have hm' := hm c.w
 simp only [run, execOp, ho, Instr.build, Sem.run_bind, hz, Result.andThen_ok, hru, hm', e, h1, Sem.run_pure]
theorem y_buildA {α : Type} {r : Rep α} {T el : TypeId} {m n : Nat} {parts : List (Nat × Operand)} {d d' : α} {z : Value} (ho : o.op = .build T parts.toArray) (hu : P.underlying T = some (.array m el)) (hs : ∀ w, (sizeOf el).run P w = .ok n w) (hz : ∀ w, (zeroValue T).run P w = .ok z w) (hzd : r.val c z d) (ha : r.agg = true)
  (hf : FillsTo (fun i => some (i * n, n)) r c (parts.map fun p => (p.1, ev F p.2)) d d') (h : ∀ v, r.val c v d' → K v c.w) : Yields P K (run P F o c.w) := by
 obtain ⟨cs', h1, h2⟩ := hf z.cells hzd.cells
 refine yv (v := .agg cs') (w' := c.w) ?_ (h _ ⟨cs'.toList, h2, by simp [mkV, ha]⟩)
 have hru : (underlying T).run P c.w = .ok (.array m el) c.w := by simp [underlying, hu]
 have e : (parts.toArray.map fun (p : Nat × Operand) => (p.1, ev F p.2)).toList = parts.map fun p => (p.1, ev F p.2) := by simp
 have hm' := hs c.w
 simp only [run, execOp, ho, Instr.build, Sem.run_bind, hz, Result.andThen_ok, hru, hm', e, h1, Sem.run_pure]
theorem toList_mk (l : List UInt8) : (ByteArray.mk l.toArray).toList = l := by rw [ByteArray.toList_eq]
theorem run_part {α β : Type} {r : Rep α} {s : Rep β} {T : TypeId} {off : Nat} {get : α → β} {set : α → β → α} {cs : Array Value} {d : α} (hT : TyOk P T s) (hs : Sub r off s get set) (h : r.is c cs.toList d) :
  ∃ v, (part T cs off).run P w = .ok v w ∧ s.val c v (get d) := by
 have hi := hs.get_is h
 have hl := s.len hi
 have hr := r.len h
 have hb := hs.bound
 have hcs : cs.size = r.n := by rw [← hr]; simp
 cases ha : s.agg with
 | true =>
  refine ⟨_, ?_, ⟨_, hi, rfl⟩⟩
  have : (cs.extract off (off + s.n)).toList = (cs.toList.drop off).take s.n := by
   rw [Array.toList_extract, List.extract_eq_take_drop]
   congr 1; omega
  have e : cs.extract off (off + s.n) = ((cs.toList.drop off).take s.n).toArray := by rw [← this]
  simp only [part, hT.agg, ha, Sem.run_bind, Result.andThen_ok, if_true, hT.size, Sem.run_pure, mkV, e]
 | false =>
  have h1 := s.one ha
  refine ⟨_, ?_, ⟨_, hi, rfl⟩⟩
  have hlt : off < cs.size := by omega
  simp only [part, hT.agg, ha, Sem.run_bind, Result.andThen_ok, Bool.false_eq_true, if_false, Array.getElem?_eq_getElem hlt, Sem.run_pure, mkV, h1]
  congr 1
  simp [List.take_one, List.head?_drop, hlt]
end
end Go.Proofs.Ytcbdmoihobdjaaa
