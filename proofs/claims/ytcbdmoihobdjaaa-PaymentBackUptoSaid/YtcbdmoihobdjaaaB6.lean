/-
  Base 6: building a struct, comparing two values of one type, strings.
-/
import Derived.Test.YtcbdmoihobdjaaaB5
namespace Go.Proofs.Ytcbdmoihobdjaaa
open Go.RowKit

/-! ## Building -/
theorem fill_splice (xs : List Value) : ∀ (cs : Array Value) (off k : Nat), off + k + xs.length ≤ cs.size →
    ((xs.zipIdx k).foldl (fun cs (p : Value × Nat) => cs.setIfInBounds (off + p.2) p.1) cs).toList = cs.toList.take (off + k) ++ xs ++ cs.toList.drop (off + k + xs.length) := by
  induction xs with
  | nil => intro cs off k h; simp
  | cons x xs ih =>
    intro cs off k h
    simp only [List.zipIdx_cons, List.foldl_cons]
    rw [ih _ off (k + 1) (by simp at h ⊢; omega)]
    simp only [Array.toList_setIfInBounds, List.length_cons]
    have hlt : off + k < cs.toList.length := by simp at h ⊢; omega
    have e1 : (cs.toList.set (off + k) x).take (off + (k + 1)) = cs.toList.take (off + k) ++ [x] := by
      rw [show off + (k + 1) = (off + k) + 1 by omega, List.take_succ_eq_append_getElem (by simpa using hlt)]
      congr 1
      · rw [List.take_set]
        exact List.set_eq_of_length_le (by simp; omega)
      · simp
    have e2 : (cs.toList.set (off + k) x).drop (off + (k + 1) + xs.length) = cs.toList.drop (off + k + (xs.length + 1)) := by
      rw [List.drop_set_of_lt (by omega)]
      congr 1; omega
    rw [e1, e2]
    simp

def FillsTo {α : Type} (place : Nat → Option (Nat × Nat)) (r : Rep α) (c : Cx) (l : List (Nat × Value)) (d d' : α) : Prop :=
  ∀ cs : Array Value, r.is c cs.toList d → ∃ cs', Instr.fill place cs l = some cs' ∧ r.is c cs'.toList d'

theorem fills_nil {α : Type} {place : Nat → Option (Nat × Nat)} {r : Rep α} {c : Cx} {d : α} : FillsTo place r c [] d d := fun cs h => ⟨cs, rfl, h⟩

theorem fills_cons {α β : Type} {place : Nat → Option (Nat × Nat)} {r : Rep α} {s : Rep β} {c : Cx} {i off : Nat} {get : α → β} {set : α → β → α} {v : Value} {x : β} {l : List (Nat × Value)} {d d' : α}
    (hs : Sub r off s get set) (hp : place i = some (off, s.n)) (hv : s.val c v x) (h : FillsTo place r c l (set d x) d') : FillsTo place r c ((i, v) :: l) d d' := by
  intro cs hc
  have hx := hv.cells
  have hl := s.len hx
  have hr := r.len hc
  have hb := hs.bound
  have hvs : v.cells.size = s.n := by rw [← hl]; simp
  have hcs : cs.size = r.n := by rw [← hr]; simp
  have hfold : (v.cells.zipIdx.foldl (fun cs (p : Value × Nat) => cs.setIfInBounds (off + p.2) p.1) cs).toList = cs.toList.take off ++ v.cells.toList ++ cs.toList.drop (off + s.n) := by
    have := fill_splice v.cells.toList cs off 0 (by simp; omega)
    simp only [Nat.add_zero] at this
    rw [hl] at this
    rw [← this, ← Array.foldl_toList]
    simp
  obtain ⟨cs', h1, h2⟩ := h _ (hfold ▸ hs.set_is hc hx)
  refine ⟨cs', ?_, h2⟩
  unfold Instr.fill
  simp only [hp]
  rw [if_neg (by simp [hvs]; omega)]
  exact h1

section
variable {P : Program} {K : Value → World → Prop} {F : Fm} {o : Oper} {c : Cx} {w : World}

/-- The places of a struct's fields, as the program's tables have them. -/
def BuildOk (P : Program) (T : TypeId) (pl : Array (Nat × Nat)) : Prop :=
  ∃ fs, P.underlying T = some (.struct fs) ∧ ∀ w, (fs.mapM fun f => do pure (f.offset, ← sizeOf f.type) : Sem (Array (Nat × Nat))).run P w = .ok pl w

theorem y_build {α : Type} {r : Rep α} {T : TypeId} {parts : List (Nat × Operand)} {pl : Array (Nat × Nat)} {d d' : α} {z : Value} (ho : o.op = .build T parts.toArray) (hb : BuildOk P T pl) (hz : ∀ w, (zeroValue T).run P w = .ok z w) (hzd : r.val c z d) (ha : r.agg = true)
    (hf : FillsTo (pl[·]?) r c (parts.map fun p => (p.1, ev F p.2)) d d') (h : ∀ v, r.val c v d' → K v c.w) : Yields P K (run P F o c.w) := by
  obtain ⟨fs, hu, hm⟩ := hb
  obtain ⟨cs', h1, h2⟩ := hf z.cells hzd.cells
  refine yv (v := .agg cs') (w' := c.w) ?_ (h _ ⟨cs'.toList, h2, by simp [mkV, ha]⟩)
  have hru : (underlying T).run P c.w = .ok (.struct fs) c.w := by simp [underlying, hu]
  have e : (parts.toArray.map fun (p : Nat × Operand) => (p.1, ev F p.2)).toList = parts.map fun p => (p.1, ev F p.2) := by simp
  have hm' := hm c.w
  simp only [run, execOp, ho, Instr.build, Sem.run_bind, hz, Result.andThen_ok, hru, hm', e, h1, Sem.run_pure]

theorem y_buildA {α : Type} {r : Rep α} {T el : TypeId} {m n : Nat} {parts : List (Nat × Operand)} {d d' : α} {z : Value} (ho : o.op = .build T parts.toArray) (hu : P.underlying T = some (.array m el)) (hs : ∀ w, (sizeOf el).run P w = .ok n w) (hz : ∀ w, (zeroValue T).run P w = .ok z w) (hzd : r.val c z d) (ha : r.agg = true)
    (hf : FillsTo (fun i => some (i * n, n)) r c (parts.map fun p => (p.1, ev F p.2)) d d') (h : ∀ v, r.val c v d' → K v c.w) : Yields P K (run P F o c.w) := by
  obtain ⟨cs', h1, h2⟩ := hf z.cells hzd.cells
  refine yv (v := .agg cs') (w' := c.w) ?_ (h _ ⟨cs'.toList, h2, by simp [mkV, ha]⟩)
  have hru : (underlying T).run P c.w = .ok (.array m el) c.w := by simp [underlying, hu]
  have e : (parts.toArray.map fun (p : Nat × Operand) => (p.1, ev F p.2)).toList = parts.map fun p => (p.1, ev F p.2) := by simp
  have hm' := hs c.w
  simp only [run, execOp, ho, Instr.build, Sem.run_bind, hz, Result.andThen_ok, hru, hm', e, h1, Sem.run_pure]

/-! ## Comparing -/
def EqOk {α : Type} (P : Program) (dep : Nat) (T : TypeId) (r : Rep α) (eq : α → α → Bool) : Prop :=
  ∀ n, dep ≤ n → ∀ c w v1 v2 d1 d2, r.val c v1 d1 → r.val c v2 d2 → (Op.equalIn n T v1 v2).run P w = .ok (eq d1 d2) w

theorem eqOk_int {T : TypeId} {k : IntKind} (hT : P.underlying T = some (.int k)) : EqOk P 1 T (rInt k) (· == ·) := by
  intro n hn c w v1 v2 d1 d2 h1 h2
  obtain ⟨m, rfl⟩ : ∃ m, n = m + 1 := ⟨n - 1, by omega⟩
  rw [(int_val.1 h1).1, (int_val.1 h2).1]
  exact run_equalIn_int w m T k k d1 d2 hT
theorem eqOk_bool {T : TypeId} (hT : P.underlying T = some .bool) : EqOk P 1 T rBool (· == ·) := by
  intro n hn c w v1 v2 d1 d2 h1 h2
  obtain ⟨m, rfl⟩ : ∃ m, n = m + 1 := ⟨n - 1, by omega⟩
  rw [bool_val.1 h1, bool_val.1 h2]
  exact run_equalIn_bool' w m T d1 d2 hT
theorem toList_mk (l : List UInt8) : (ByteArray.mk l.toArray).toList = l := by rw [ByteArray.toList_eq]
theorem eqOk_str {T : TypeId} (hT : P.underlying T = some .string) : EqOk P 1 T rStr (· == ·) := by
  intro n hn c w v1 v2 d1 d2 h1 h2
  obtain ⟨m, rfl⟩ : ∃ m, n = m + 1 := ⟨n - 1, by omega⟩
  rw [(str_val.1 h1).1, (str_val.1 h2).1]
  have := run_equalIn_string (P := P) w m T ⟨d1.toArray⟩ ⟨d2.toArray⟩ hT
  rw [toList_mk, toList_mk] at this
  exact this

theorem run_part {α β : Type} {r : Rep α} {s : Rep β} {T : TypeId} {off : Nat} {get : α → β} {set : α → β → α} {cs : Array Value} {d : α} (hT : TyOk P T s) (hs : Sub r off s get set) (h : r.is c cs.toList d) :
    ∃ v, (part T cs off).run P w = .ok v w ∧ s.val c v (get d) := by
  have hi := hs.get_is h
  have hl := s.len hi
  have hr := r.len h
  have hb := hs.bound
  have hcs : cs.size = r.n := by rw [← hr]; simp
  cases ha : s.agg with
  | true =>
    refine ⟨_, ?_, ⟨_, hi, rfl⟩⟩
    have : (cs.extract off (off + s.n)).toList = (cs.toList.drop off).take s.n := by
      rw [Array.toList_extract, List.extract_eq_take_drop]
      congr 1; omega
    have e : cs.extract off (off + s.n) = ((cs.toList.drop off).take s.n).toArray := by rw [← this]
    simp only [part, hT.agg, ha, Sem.run_bind, Result.andThen_ok, if_true, hT.size, Sem.run_pure, mkV, e]
  | false =>
    have h1 := s.one ha
    refine ⟨_, ?_, ⟨_, hi, rfl⟩⟩
    have hlt : off < cs.size := by omega
    simp only [part, hT.agg, ha, Sem.run_bind, Result.andThen_ok, Bool.false_eq_true, if_false, Array.getElem?_eq_getElem hlt, Sem.run_pure, mkV, h1]
    congr 1
    simp [List.take_one, List.head?_drop, hlt]

def FieldsEq {α : Type} (P : Program) (dep : Nat) (r : Rep α) (fs : List Field) (eq : α → α → Bool) : Prop :=
  ∀ n, dep ≤ n → ∀ c w (xs ys : Array Value) d1 d2, r.is c xs.toList d1 → r.is c ys.toList d2 → (Op.eqFields n xs ys fs).run P w = .ok (eq d1 d2) w
theorem fieldsEq_nil {α : Type} {dep : Nat} {r : Rep α} : FieldsEq P dep r [] (fun _ _ => true) := by
  intro n hn c w xs ys d1 d2 h1 h2
  simp [Op.eqFields]
theorem fieldsEq_cons {α β : Type} {dep : Nat} {r : Rep α} {s : Rep β} {f : Field} {fs : List Field} {get : α → β} {set : α → β → α} {eq : β → β → Bool} {eqr : α → α → Bool} (hn : f.name ≠ "_") (hs : Sub r f.offset s get set) (hT : TyOk P f.type s) (he : EqOk P dep f.type s eq)
    (hr : FieldsEq P dep r fs eqr) : FieldsEq P dep r (f :: fs) (fun a b => eq (get a) (get b) && eqr a b) := by
  intro n hd c w xs ys d1 d2 h1 h2
  obtain ⟨v1, e1, i1⟩ := run_part (P := P) (w := w) hT hs h1
  obtain ⟨v2, e2, i2⟩ := run_part (P := P) (w := w) hT hs h2
  have h3 := he n hd c w v1 v2 _ _ i1 i2
  have h4 := hr n hd c w xs ys d1 d2 h1 h2
  simp only [Op.eqFields, hn, ne_eq, not_false_eq_true, if_true, Sem.run_bind, e1, e2, Result.andThen_ok, h3, Sem.run_ite]
  cases eq (get d1) (get d2) <;> simp [h4]
theorem eqOk_struct {α : Type} {dep : Nat} {T : TypeId} {r : Rep α} {fs : Array Field} {eq : α → α → Bool} (hu : P.underlying T = some (.struct fs)) (ha : r.agg = true) (hp : P.stoodInHeld T = false) (hf : FieldsEq P dep r fs.toList eq) : EqOk P (dep + 1) T r eq := by
  intro n hn c w v1 v2 d1 d2 h1 h2
  obtain ⟨m, rfl⟩ : ∃ m, n = m + 1 := ⟨n - 1, by omega⟩
  obtain ⟨x1, i1, rfl⟩ := h1
  obtain ⟨x2, i2, rfl⟩ := h2
  have hfs : P.fieldsOf T = fs := by simp [Program.fieldsOf, hu]
  simp only [mkV, ha, if_true]
  rw [run_equalIn_struct w m T _ _ (by rw [hfs]; exact hu) hp, hfs]
  exact hf m (by omega) c w _ _ d1 d2 (by simpa using i1) (by simpa using i2)

/-- Two lists of one length, element by element. -/
def allEq {α : Type} (eq : α → α → Bool) : List α → List α → Bool
  | a :: l, b :: m => eq a b && allEq eq l m
  | _, _ => true

theorem arr_part {α : Type} {E : TypeId} {r : Rep α} (hE : TyOk P E r) {xs : List Value} {l : List α} {k : Nat} {d : α} (h : arrIs r c (xs.drop (k * r.n)) (d :: l)) :
    ∃ v, (part E xs.toArray (k * r.n)).run P w = .ok v w ∧ r.val c v d ∧ arrIs r c (xs.drop ((k + 1) * r.n)) l := by
  obtain ⟨c1, c2, e, h1, h2⟩ := h
  have hl := r.len h1
  have hc2 : xs.drop ((k + 1) * r.n) = c2 := by
    rw [show (k + 1) * r.n = k * r.n + r.n by rw [Nat.add_mul, Nat.one_mul], ← List.drop_drop, e, ← hl, List.drop_left]
  have hc1 : (xs.drop (k * r.n)).take r.n = c1 := by rw [e, ← hl, List.take_left]
  rw [hc2]
  cases ha : r.agg with
  | true =>
    refine ⟨_, ?_, ⟨c1, h1, rfl⟩, h2⟩
    have e2 : xs.toArray.extract (k * r.n) (k * r.n + r.n) = c1.toArray := by
      rw [← hc1]
      simp [List.extract_eq_take_drop]
    simp only [part, hE.agg, ha, Sem.run_bind, Result.andThen_ok, if_true, hE.size, Sem.run_pure, mkV, e2]
  | false =>
    refine ⟨_, ?_, ⟨c1, h1, rfl⟩, h2⟩
    have hn := r.one ha
    rw [hn] at hl
    match c1, hl with
    | [u], _ =>
      have hg : xs[k * r.n]? = some u := by
        have : (xs.drop (k * r.n))[0]? = some u := by rw [e]; rfl
        simpa using this
      simp only [part, hE.agg, ha, Sem.run_bind, Result.andThen_ok, Bool.false_eq_true, if_false, List.getElem?_toArray, hg, Sem.run_pure, mkV, List.headD_cons]

theorem forIn_eq {α : Type} {dep n : Nat} {E : TypeId} {r : Rep α} {eq : α → α → Bool} (hE : TyOk P E r) (he : EqOk P dep E r eq) (hd : dep ≤ n) {xs ys : List Value} :
    ∀ (l1 l2 : List α) (k : Nat), arrIs r c (xs.drop (k * r.n)) l1 → arrIs r c (ys.drop (k * r.n)) l2 → l1.length = l2.length →
      (forIn (List.range' k l1.length) ((none, ()) : Option Bool × Unit) fun i (_ : Option Bool × Unit) => do
            let a ← part E xs.toArray (i * r.n)
            let b ← part E ys.toArray (i * r.n)
            let t ← Op.equalIn n E a b
            if (!t) = true then pure (ForInStep.done ((some false, ()) : Option Bool × Unit)) else pure (ForInStep.yield (none, ()))).run P w = .ok (if allEq eq l1 l2 then (none, ()) else (some false, ())) w
  | [], [], k, _, _, _ => by simp [allEq]
  | a :: l1, b :: l2, k, h1, h2, hl => by
    obtain ⟨v1, e1, i1, t1⟩ := arr_part (P := P) (w := w) hE h1
    obtain ⟨v2, e2, i2, t2⟩ := arr_part (P := P) (w := w) hE h2
    have h3 := he n hd c w v1 v2 a b i1 i2
    have ih := forIn_eq hE he hd l1 l2 (k + 1) t1 t2 (by simpa using hl)
    simp only [List.length_cons, List.range'_succ, List.forIn_cons, Sem.run_bind, e1, e2, h3, Result.andThen_ok, Sem.run_ite]
    cases hb : eq a b
    · simp [allEq, hb]
    · simp only [Bool.not_true, Bool.false_eq_true, if_false, Sem.run_pure, Result.andThen_ok, allEq, hb, Bool.true_and]
      exact ih

theorem eqOk_arr {α : Type} {dep m : Nat} {T E : TypeId} {r : Rep α} {eq : α → α → Bool} (hu : P.underlying T = some (.array m E)) (hE : TyOk P E r) (he : EqOk P dep E r eq) : EqOk P (dep + 1) T (rArr r m) (allEq eq) := by
  intro n hn c w v1 v2 d1 d2 h1 h2
  obtain ⟨k, rfl⟩ : ∃ m, n = m + 1 := ⟨n - 1, by omega⟩
  obtain ⟨x1, i1, rfl⟩ := h1
  obtain ⟨x2, i2, rfl⟩ := h2
  have hru : (underlying T).run P w = .ok (.array m E) w := by simp [underlying, hu]
  have hf := forIn_eq (P := P) (c := c) (w := w) (xs := x1) (ys := x2) hE he (show dep ≤ k by omega) d1 d2 0 (by simpa using i1.2) (by simpa using i2.2) (i1.1.trans i2.1.symm)
  rw [i1.1] at hf
  simp only [mkV, rArr, if_true, Op.equalIn, Sem.run_bind, hru, Result.andThen_ok, hE.size, Std.Legacy.Range.forIn_eq_forIn_range', Std.Legacy.Range.size, Nat.sub_zero, Nat.add_one_sub_one, Nat.div_one]
  rw [hf]
  simp only [Result.andThen_ok]
  cases allEq eq d1 d2 <;> simp

theorem y_eql_val {α : Type} {dep : Nat} {T U : TypeId} {r : Rep α} {eq : α → α → Bool} {x y : Operand} {d1 d2 : α} (ho : o.op = .binOp .eql T x y U) (ha : r.agg = true) (hg : P.eqGuardType P.depth T = false) (he : EqOk P dep T r eq) (hd : dep ≤ 10000)
    (hx : r.val c (ev F x) d1) (hy : r.val c (ev F y) d2) (h : K (.bool (eq d1 d2)) c.w) : Yields P K (run P F o c.w) := by
  have h1 := he 10000 hd c c.w _ _ _ _ hx hy
  obtain ⟨x1, i1, e1⟩ := hx
  obtain ⟨x2, i2, e2⟩ := hy
  simp only [mkV, ha, if_true] at e1 e2
  refine yv (v := .bool (eq d1 d2)) (w' := c.w) ?_ h
  rw [e1, e2] at h1
  simp only [run, execOp, ho, e1, e2, Sem.run_bind, run_eqGuard_agg c.w .eql T x y _ _ hg, Result.andThen_ok, run_eql_struct, h1, Sem.run_pure]
theorem y_neq_val {α : Type} {dep : Nat} {T U : TypeId} {r : Rep α} {eq : α → α → Bool} {x y : Operand} {d1 d2 : α} (ho : o.op = .binOp .neq T x y U) (ha : r.agg = true) (hg : P.eqGuardType P.depth T = false) (he : EqOk P dep T r eq) (hd : dep ≤ 10000)
    (hx : r.val c (ev F x) d1) (hy : r.val c (ev F y) d2) (h : K (.bool (!eq d1 d2)) c.w) : Yields P K (run P F o c.w) := by
  have h1 := he 10000 hd c c.w _ _ _ _ hx hy
  obtain ⟨x1, i1, e1⟩ := hx
  obtain ⟨x2, i2, e2⟩ := hy
  simp only [mkV, ha, if_true] at e1 e2
  refine yv (v := .bool (!eq d1 d2)) (w' := c.w) ?_ h
  rw [e1, e2] at h1
  simp only [run, execOp, ho, e1, e2, Sem.run_bind, run_eqGuard_agg c.w .neq T x y _ _ hg, Result.andThen_ok, run_neq_struct, h1, Sem.run_pure]
end
end Go.Proofs.Ytcbdmoihobdjaaa
