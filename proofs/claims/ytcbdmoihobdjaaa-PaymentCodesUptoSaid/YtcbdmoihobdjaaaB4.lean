import Derived.Test.YtcbdmoihobdjaaaB3
namespace Go.Proofs.Ytcbdmoihobdjaaa
open Go.RowKit
section
variable {P : Program} {K : Value → World → Prop} {F : Fm} {o : Oper} {c : Cx} {w : World}
theorem yv {v : Value} {w' : World} (hr : run P F o w = .ok (.value v) w') (h : K v w') : Yields P K (run P F o w) := by rw [hr]; exact h
theorem ys {w' : World} (hr : run P F o w = .ok .skip w') (h : K undef w') : Yields P K (run P F o w) := by rw [hr]; exact h
theorem y_move {x : Operand} (ho : o.op = .move x) (h : K (ev F x) w) : Yields P K (run P F o w) :=
 yv (v := ev F x) (w' := w) (by simp [run, execOp, ho]) h
theorem y_assign {x : Operand} (ho : o.op = .assign x) (h : K (ev F x) w) : Yields P K (run P F o w) :=
 yv (v := ev F x) (w' := w) (by simp [run, execOp, ho]) h
theorem y_pick {x y z : Operand} {b : Bool} (ho : o.op = .pick x y z) (hx : ev F x = .bool b) (h : K (if b then ev F y else ev F z) w) : Yields P K (run P F o w) :=
 yv (v := if b then ev F y else ev F z) (w' := w) (by simp [run, execOp, ho, hx, asBool]) h
structure TyOk {α : Type} (P : Program) (T : TypeId) (r : Rep α) : Prop where
 agg : ∀ w, (isAgg T).run P w = .ok r.agg w
 size : ∀ w, (sizeOf T).run P w = .ok r.n w
theorem run_loadVar_at {α : Type} {r : Rep α} {T : TypeId} (hT : TyOk P T r) {b off : Nat} {cs : List Value} {d : α} (hi : r.is c cs d) (hc : cellsAt w b off cs) :
  (loadVar T ⟨b, off, none⟩).run P w = .ok (mkV r.agg cs) w := by
 have hl := r.len hi
 have hadd : ∀ j, (⟨b, off, none⟩ : Addr).add j = ⟨b, off + j, none⟩ := by
  intro j; unfold Addr.add; split <;> simp_all
 have hcs : ∀ j v, cs[j]? = some v → w.cell? ((⟨b, off, none⟩ : Addr).add j) = some v := fun j v hj => by rw [hadd]; exact hc j v hj
 cases ha : r.agg with
 | true =>
  have := run_loadCells_list (P := P) w ⟨b, off, none⟩ cs hcs
  rw [hl] at this
  simp [loadVar, hT.agg, ha, hT.size, this, mkV]
 | false =>
  rw [r.one ha] at hl
  match cs, hl with
  | [u], _ =>
   have h0 := hcs 0 u rfl
   simp [Addr.add] at h0
   simp [loadVar, hT.agg, ha, h0, mkV]
theorem y_load_pt {α : Type} {r : Rep α} {T : TypeId} {x : Operand} {d : α} (ho : o.op = .load T x) (hT : TyOk P T r) (hx : ptIs r c (ev F x) d) (h : ∀ v, r.val c v d → K v c.w) : Yields P K (run P F o c.w) := by
 obtain ⟨b, off, cs, e, h1, h2, h3, h4⟩ := hx
 refine yv (v := mkV r.agg cs) (w' := c.w) ?_ (h _ ⟨cs, h4, rfl⟩)
 simp [run, execOp, ho, Instr.loadAt, e, Instr.sureAddr, run_loadVar_at hT h4 h3]
theorem var_part {α β : Type} {r : Rep α} {s : Rep β} {b off : Nat} {get : α → β} {set : α → β → α} {d : α} (hv : Var c b r d) (hs : Sub r off s get set) : ∃ cs, cellsAt c.w b off cs ∧ s.is c cs (get d) := by
 obtain ⟨hb, U, cs, hh, hi⟩ := hv
 refine ⟨_, fun j u hj => ?_, hs.get_is hi⟩
 have h0 : cellsAt c.w b 0 cs.toList := by
  intro j u hj
  have : cs[j]? = some u := by simpa using hj
  simp [World.cell?, hh, this]
 have := h0.part off s.n j u hj
 simpa using this
theorem y_load_var {α β : Type} {r : Rep α} {s : Rep β} {T : TypeId} {x : Operand} {b off : Nat} {get : α → β} {set : α → β → α} {d : α} (ho : o.op = .load T x) (hT : TyOk P T s) (hv : Var c b r d) (hs : Sub r off s get set)
  (hx : ev F x = .pointer (some ⟨b, off, none⟩)) (h : ∀ v, s.val c v (get d) → K v c.w) : Yields P K (run P F o c.w) := by
 obtain ⟨cs, hcs, hi⟩ := var_part hv hs
 refine yv (v := mkV s.agg cs) (w' := c.w) ?_ (h _ ⟨_, hi, rfl⟩)
 simp [run, execOp, ho, Instr.loadAt, hx, Instr.sureAddr, run_loadVar_at hT hi hcs]
theorem store_world {α β : Type} {r : Rep α} {s : Rep β} {b off : Nat} {get : α → β} {set : α → β → α} {d : α} {x : β} {cx : List Value} (hv : Var c b r d) (hs : Sub r off s get set) (hx : s.is c cx x) :
  ∃ c', c.mut b c' ∧ Var c' b r (set d x) ∧ ∀ T, (∀ w, (sizeOf T).run P w = .ok s.n w) → ∀ v : Value, v.cells.toList = cx → (storeVar T ⟨b, off, none⟩ v).run P c.w = .ok () c'.w := by
 obtain ⟨hb, U, cs, hh, hi⟩ := hv
 have hl := r.len hi
 have hlx := s.len hx
 have hbd := hs.bound
 have hnew := hs.set_is hi hx
 refine ⟨⟨c.X, c.w.setRow b (cs.toList.take off ++ cx ++ cs.toList.drop (off + cx.length)).toArray, fun k hk => (by simpa using c.ok k hk), []⟩, ⟨rfl, rfl, rfl, rfl, by simp, fun k hk => setRow_other _ _ _ _ hk⟩, ?_, ?_⟩
 ·refine ⟨hb, U, _, setRow_heap c.w b cs _ U _ hh, ?_⟩
  have hmut : c.pub ⟨c.X, c.w.setRow b (cs.toList.take off ++ cx ++ cs.toList.drop (off + cx.length)).toArray, fun k hk => (by simpa using c.ok k hk), []⟩ :=
   ⟨by simp, fun k _ hk => ⟨hk, setRow_other _ _ _ _ (fun e => hk (e ▸ hb))⟩⟩
  have := r.mono hnew hmut
  rw [← hlx] at this
  simpa using this
 ·intro T hT v hvc
  have hsz : v.cells.size = s.n := by rw [← hlx, ← hvc]; simp
  have hst := run_storeCells_at P b off U cx 0 cs c.w hh (by simp at hl; omega) (s.cell hx)
  simp only [Nat.add_zero] at hst
  simp [storeVar, hT, hsz, hvc, hst]
theorem y_store_var {α β : Type} {r : Rep α} {s : Rep β} {T : TypeId} {x y : Operand} {b off : Nat} {get : α → β} {set : α → β → α} {d : α} {e : β} (ho : o.op = .store T x y) (hT : TyOk P T s) (hv : Var c b r d) (hs : Sub r off s get set)
  (hx : ev F x = .pointer (some ⟨b, off, none⟩)) (hy : s.val c (ev F y) e) (h : ∀ c', c.mut b c' → Var c' b r (set d e) → K undef c'.w) : Yields P K (run P F o c.w) := by
 obtain ⟨c', h1, h2, h3⟩ := store_world (P := P) hv hs hy.cells
 refine ys (w' := c'.w) ?_ (h c' h1 h2)
 simp [run, execOp, ho, Instr.storeAt, hx, Instr.sureAddr, h3 T hT.size _ rfl]
def FieldOk (P : Program) (S : TypeId) (k off : Nat) : Prop := ∀ w a, (Instr.fieldAt S (.pointer (some a)) k).run P w = .ok (.pointer (some (a.add off))) w
theorem fieldOk {S : TypeId} {k off : Nat} {fs : Array Field} {f : Field} {n : Nat} (hu : P.underlying S = some (.struct fs)) (hf : fs[k]? = some f) (ho : f.offset = off) (hn : ∀ w, (sizeOf f.type).run P w = .ok (n + 1) w) : FieldOk P S k off := by
 intro w a
 have hru : (underlying S).run P w = .ok (.struct fs) w := by simp [underlying, hu]
 simp [Instr.fieldAt, hru, hf, Instr.sureAddr, fieldPlace, hn, ho]
theorem y_fieldAddr_pt {α β : Type} {r : Rep α} {s : Rep β} {S : TypeId} {x : Operand} {k off : Nat} {get : α → β} {set : α → β → α} {d : α} (ho : o.op = .fieldAddr S x k) (hf : FieldOk P S k off) (hs : Sub r off s get set)
  (hx : ptIs r c (ev F x) d) (h : ∀ v, ptIs s c v (get d) → K v c.w) : Yields P K (run P F o c.w) := by
 obtain ⟨b, o1, cs, e, h1, h2, h3, h4⟩ := hx
 have hadd : (⟨b, o1, none⟩ : Addr).add off = ⟨b, o1 + off, none⟩ := by unfold Addr.add; split <;> simp_all
 refine yv (v := .pointer (some ⟨b, o1 + off, none⟩)) (w' := c.w) ?_ (h _ ⟨b, o1 + off, _, rfl, h1, h2, h3.part off s.n, hs.get_is h4⟩)
 simp [run, execOp, ho, e, hf c.w, hadd]
theorem y_fieldAddr_var {S : TypeId} {x : Operand} {k off b o1 : Nat} (ho : o.op = .fieldAddr S x k) (hf : FieldOk P S k off) (hx : ev F x = .pointer (some ⟨b, o1, none⟩))
  (h : K (.pointer (some ⟨b, o1 + off, none⟩)) w) : Yields P K (run P F o w) := by
 have hadd : (⟨b, o1, none⟩ : Addr).add off = ⟨b, o1 + off, none⟩ := by unfold Addr.add; split <;> simp_all
 refine yv (v := .pointer (some ⟨b, o1 + off, none⟩)) (w' := w) ?_ h
 simp [run, execOp, ho, hx, hf w, hadd]
theorem cellsAt_elem {α : Type} {r : Rep α} {b o1 : Nat} {cs : List Value} {l : List α} (h : cellsAt w b o1 cs) (ha : arrIs r c cs l) (i : Nat) (hi : i < l.length) :
  cellsAt w b (o1 + i * r.n) ((cs.drop (i * r.n)).take r.n) ∧ r.is c ((cs.drop (i * r.n)).take r.n) l[i] := ⟨h.part _ _, arrIs_get ha i hi⟩
theorem y_indexAddr_slice {α : Type} [Inhabited α] {r : Rep α} {T E : TypeId} {x y : Operand} {l : List α} {i : Int} {k : IntKind} (ho : o.op = .indexAddr T x y) (hT : P.underlying T = some (.slice E)) (hE : TyOk P E r)
  (hx : (rSlice r).val c (ev F x) l) (hy : ev F y = .int k i) (hi : 0 ≤ i ∧ i < l.length) (h : ∀ v, ptIs r c v (l.getD i.toNat default) → K v c.w) : Yields P K (run P F o c.w) := by
 obtain ⟨a, cap, e, _, hs⟩ := slice_val.1 hx
 have hin : i.toNat < l.length := by omega
 rcases hs with rfl | ⟨b, o1, cs, rfl, h1, h2, h3, h4⟩
 ·simp at hin
 ·have hru : (underlying T).run P c.w = .ok (.slice E) c.w := by simp [underlying, hT]
  obtain ⟨h5, h6⟩ := cellsAt_elem h3 h4 i.toNat hin
  have hadd : (⟨b, o1, none⟩ : Addr).add (i.toNat * r.n) = ⟨b, o1 + i.toNat * r.n, none⟩ := by unfold Addr.add; split <;> simp_all
  have hg : l.getD i.toNat default = l[i.toNat] := by simp [List.getD, List.getElem?_eq_getElem hin]
  refine yv (v := .pointer (some ⟨b, o1 + i.toNat * r.n, none⟩)) (w' := c.w) ?_ (h _ ⟨b, _, _, rfl, h1, h2, h5, hg ▸ h6⟩)
  simp [run, execOp, ho, Instr.indexAt, e, hy, asIntOf, hru, hi.1, hi.2, hE.size, hadd]
theorem y_indexAddr_var {T E : TypeId} {x y : Operand} {i : Int} {k : IntKind} {b o1 n m : Nat} (ho : o.op = .indexAddr T x y) (hT : P.underlying T = some (.array m E)) (hE : ∀ w, (sizeOf E).run P w = .ok n w)
  (hx : ev F x = .pointer (some ⟨b, o1, none⟩)) (hy : ev F y = .int k i) (hi : 0 ≤ i ∧ i < m) (h : K (.pointer (some ⟨b, o1 + i.toNat * n, none⟩)) w) : Yields P K (run P F o w) := by
 have hru : (underlying T).run P w = .ok (.array m E) w := by simp [underlying, hT]
 have hadd : (⟨b, o1, none⟩ : Addr).add (i.toNat * n) = ⟨b, o1 + i.toNat * n, none⟩ := by unfold Addr.add; split <;> simp_all
 refine yv (v := .pointer (some ⟨b, o1 + i.toNat * n, none⟩)) (w' := w) ?_ h
 simp [run, execOp, ho, Instr.indexAt, hx, hy, asIntOf, hru, Instr.sureAddr, hi.1, hi.2, hE, hadd]
theorem y_nilCheck {x : Operand} {a : Addr} (ho : o.op = .nilCheck x) (hx : ev F x = .pointer (some a)) (h : K (.pointer (some a)) w) : Yields P K (run P F o w) :=
 yv (v := .pointer (some a)) (w' := w) (by simp [run, execOp, ho, hx]) h
theorem y_box {α : Type} {r : Rep α} {T : TypeId} {x : Operand} {d : α} (ho : o.op = .box T x) (hx : r.val c (ev F x) d)
  (h : ∀ b c', c.le c' → c.w.heap.size = b → b < c'.w.heap.size → Var c' b r d → K (.pointer (some ⟨b, 0, none⟩)) c'.w) : Yields P K (run P F o c.w) := by
 have hle := Cx.le_new c (.cells (ev F x).cells T)
 refine yv (v := .pointer (some ⟨c.w.heap.size, 0, none⟩)) (w' := (c.new (.cells (ev F x).cells T)).w) ?_ (h _ _ hle rfl (by simp [Cx.new]) ⟨by simp [Cx.new], T, _, heap_alloc_new _ _, r.mono hx.cells hle.pub⟩)
 simp [run, execOp, ho, Instr.box, newVar, newRow, Cx.new]
theorem y_alloc {α : Type} {r : Rep α} {T : TypeId} {d : α} {z : Value} (ho : o.op = .alloc T) (hz : ∀ w, (zeroValue T).run P w = .ok z w) (hx : r.val c z d)
  (h : ∀ b c', c.le c' → c.w.heap.size = b → b < c'.w.heap.size → Var c' b r d → K (.pointer (some ⟨b, 0, none⟩)) c'.w) : Yields P K (run P F o c.w) := by
 have hle := Cx.le_new c (.cells z.cells T)
 refine yv (v := .pointer (some ⟨c.w.heap.size, 0, none⟩)) (w' := (c.new (.cells z.cells T)).w) ?_ (h _ _ hle rfl (by simp [Cx.new]) ⟨by simp [Cx.new], T, _, heap_alloc_new _ _, r.mono hx.cells hle.pub⟩)
 simp [run, execOp, ho, Instr.alloc, newVar, newRow, Cx.new, hz]
theorem y_add {T U : TypeId} {x y : Operand} {k : IntKind} {a b : Int} (ho : o.op = .binOp .add T x y U) (hx : ev F x = .int k a) (hy : ev F y = .int k b) (h : K (.int k (k.wrap (a + b))) w) : Yields P K (run P F o w) :=
 yv (v := .int k (k.wrap (a + b))) (w' := w) (by simp [run, execOp, ho, hx, hy, eqGuard, binOp, Op.intArith]) h
theorem y_sub {T U : TypeId} {x y : Operand} {k : IntKind} {a b : Int} (ho : o.op = .binOp .sub T x y U) (hx : ev F x = .int k a) (hy : ev F y = .int k b) (h : K (.int k (k.wrap (a - b))) w) : Yields P K (run P F o w) :=
 yv (v := .int k (k.wrap (a - b))) (w' := w) (by simp [run, execOp, ho, hx, hy, eqGuard, binOp, Op.intArith]) h
theorem y_mul {T U : TypeId} {x y : Operand} {k : IntKind} {a b : Int} (ho : o.op = .binOp .mul T x y U) (hx : ev F x = .int k a) (hy : ev F y = .int k b) (h : K (.int k (k.wrap (a * b))) w) : Yields P K (run P F o w) :=
 yv (v := .int k (k.wrap (a * b))) (w' := w) (by simp [run, execOp, ho, hx, hy, eqGuard, binOp, Op.intArith]) h
theorem y_quo {T U : TypeId} {x y : Operand} {k : IntKind} {a b : Int} (ho : o.op = .binOp .quo T x y U) (hx : ev F x = .int k a) (hy : ev F y = .int k b) (hb : b ≠ 0) (h : K (.int k (k.wrap (a.tdiv b))) w) : Yields P K (run P F o w) :=
 yv (v := .int k (k.wrap (a.tdiv b))) (w' := w) (by simp [run, execOp, ho, hx, hy, eqGuard, binOp, Op.intDiv, hb]) h
theorem y_rem {T U : TypeId} {x y : Operand} {k : IntKind} {a b : Int} (ho : o.op = .binOp .rem T x y U) (hx : ev F x = .int k a) (hy : ev F y = .int k b) (hb : b ≠ 0) (h : K (.int k (a.tmod b)) w) : Yields P K (run P F o w) :=
 yv (v := .int k (a.tmod b)) (w' := w) (by simp [run, execOp, ho, hx, hy, eqGuard, binOp, Op.intDiv, hb]) h
theorem y_lss {T U : TypeId} {x y : Operand} {k : IntKind} {a b : Int} (ho : o.op = .binOp .lss T x y U) (hx : ev F x = .int k a) (hy : ev F y = .int k b) (h : K (.bool (decide (a < b))) w) : Yields P K (run P F o w) :=
 yv (v := .bool (decide (a < b))) (w' := w) (by simp [run, execOp, ho, hx, hy, eqGuard, binOp, Op.intCmp]) h
theorem y_leq {T U : TypeId} {x y : Operand} {k : IntKind} {a b : Int} (ho : o.op = .binOp .leq T x y U) (hx : ev F x = .int k a) (hy : ev F y = .int k b) (h : K (.bool (decide (a ≤ b))) w) : Yields P K (run P F o w) :=
 yv (v := .bool (decide (a ≤ b))) (w' := w) (by simp [run, execOp, ho, hx, hy, eqGuard, binOp, Op.intCmp]) h
theorem y_gtr {T U : TypeId} {x y : Operand} {k : IntKind} {a b : Int} (ho : o.op = .binOp .gtr T x y U) (hx : ev F x = .int k a) (hy : ev F y = .int k b) (h : K (.bool (decide (a > b))) w) : Yields P K (run P F o w) :=
 yv (v := .bool (decide (a > b))) (w' := w) (by simp [run, execOp, ho, hx, hy, eqGuard, binOp, Op.intCmp]) h
theorem y_geq {T U : TypeId} {x y : Operand} {k : IntKind} {a b : Int} (ho : o.op = .binOp .geq T x y U) (hx : ev F x = .int k a) (hy : ev F y = .int k b) (h : K (.bool (decide (a ≥ b))) w) : Yields P K (run P F o w) :=
 yv (v := .bool (decide (a ≥ b))) (w' := w) (by simp [run, execOp, ho, hx, hy, eqGuard, binOp, Op.intCmp]) h
theorem y_eql {T U : TypeId} {x y : Operand} {k : IntKind} {a b : Int} (ho : o.op = .binOp .eql T x y U) (hx : ev F x = .int k a) (hy : ev F y = .int k b) (h : K (.bool (a == b)) w) : Yields P K (run P F o w) :=
 yv (v := .bool (a == b)) (w' := w) (by simp [run, execOp, ho, hx, hy, eqGuard, binOp, Op.intCmp]) h
theorem y_neq {T U : TypeId} {x y : Operand} {k : IntKind} {a b : Int} (ho : o.op = .binOp .neq T x y U) (hx : ev F x = .int k a) (hy : ev F y = .int k b) (h : K (.bool (a != b)) w) : Yields P K (run P F o w) :=
 yv (v := .bool (a != b)) (w' := w) (by simp [run, execOp, ho, hx, hy, eqGuard, binOp, Op.intCmp]) h
def shlI (k : IntKind) (a b : Int) : Int := k.wrap (a * 2 ^ (min b.toNat k.bits))
def shrI (k : IntKind) (a b : Int) : Int := a.fdiv (2 ^ (min b.toNat k.bits))
theorem y_shl {T U : TypeId} {x y : Operand} {k l : IntKind} {a b : Int} (ho : o.op = .binOp .shl T x y U) (hx : ev F x = .int k a) (hy : ev F y = .int l b) (hb : 0 ≤ b) (h : K (.int k (shlI k a b)) w) : Yields P K (run P F o w) :=
 yv (v := .int k (shlI k a b)) (w' := w) (by simp [run, execOp, ho, hx, hy, eqGuard, binOp, Op.shift, show ¬ b < 0 by omega, shlI]) h
theorem y_shr {T U : TypeId} {x y : Operand} {k l : IntKind} {a b : Int} (ho : o.op = .binOp .shr T x y U) (hx : ev F x = .int k a) (hy : ev F y = .int l b) (hb : 0 ≤ b) (h : K (.int k (shrI k a b)) w) : Yields P K (run P F o w) :=
 yv (v := .int k (shrI k a b)) (w' := w) (by simp [run, execOp, ho, hx, hy, eqGuard, binOp, Op.shift, show ¬ b < 0 by omega, shrI]) h
def andI (k : IntKind) (a b : Int) : Int := k.wrap (BitVec.ofInt k.bits a &&& BitVec.ofInt k.bits b).toNat
def orI (k : IntKind) (a b : Int) : Int := k.wrap (BitVec.ofInt k.bits a ||| BitVec.ofInt k.bits b).toNat
def xorI (k : IntKind) (a b : Int) : Int := k.wrap (BitVec.ofInt k.bits a ^^^ BitVec.ofInt k.bits b).toNat
def andNotI (k : IntKind) (a b : Int) : Int := k.wrap (BitVec.ofInt k.bits a &&& ~~~BitVec.ofInt k.bits b).toNat
theorem y_band {T U : TypeId} {x y : Operand} {k : IntKind} {a b : Int} (ho : o.op = .binOp .and T x y U) (hx : ev F x = .int k a) (hy : ev F y = .int k b) (h : K (.int k (andI k a b)) w) : Yields P K (run P F o w) :=
 yv (v := .int k (andI k a b)) (w' := w) (by simp [run, execOp, ho, hx, hy, eqGuard, binOp, Op.intBits, andI]) h
theorem y_bor {T U : TypeId} {x y : Operand} {k : IntKind} {a b : Int} (ho : o.op = .binOp .or T x y U) (hx : ev F x = .int k a) (hy : ev F y = .int k b) (h : K (.int k (orI k a b)) w) : Yields P K (run P F o w) :=
 yv (v := .int k (orI k a b)) (w' := w) (by simp [run, execOp, ho, hx, hy, eqGuard, binOp, Op.intBits, orI]) h
theorem y_bxor {T U : TypeId} {x y : Operand} {k : IntKind} {a b : Int} (ho : o.op = .binOp .xor T x y U) (hx : ev F x = .int k a) (hy : ev F y = .int k b) (h : K (.int k (xorI k a b)) w) : Yields P K (run P F o w) :=
 yv (v := .int k (xorI k a b)) (w' := w) (by simp [run, execOp, ho, hx, hy, eqGuard, binOp, Op.intBits, xorI]) h
theorem y_bandNot {T U : TypeId} {x y : Operand} {k : IntKind} {a b : Int} (ho : o.op = .binOp .andNot T x y U) (hx : ev F x = .int k a) (hy : ev F y = .int k b) (h : K (.int k (andNotI k a b)) w) : Yields P K (run P F o w) :=
 yv (v := .int k (andNotI k a b)) (w' := w) (by simp [run, execOp, ho, hx, hy, eqGuard, binOp, Op.intBits, andNotI]) h
theorem run_equalIn_bool (n : Nat) {T : TypeId} {a b : Bool} (hT : P.underlying T = some .bool) : (Op.equalIn (n + 1) T (.bool a) (.bool b)).run P w = .ok (a == b) w := by
 simp [Op.equalIn, underlying, hT]
theorem run_beql {T : TypeId} {a b : Bool} (hT : P.underlying T = some .bool) : (binOp .eql T (.bool a) (.bool b)).run P w = .ok (.bool (a == b)) w := by
 have := run_equalIn_bool (w := w) (a := a) (b := b) 9999 hT
 simp only [binOp]
 simp [Op.equal, Op.maxDepth, this]
theorem run_bneq {T : TypeId} {a b : Bool} (hT : P.underlying T = some .bool) : (binOp .neq T (.bool a) (.bool b)).run P w = .ok (.bool (a != b)) w := by
 have := run_equalIn_bool (w := w) (a := a) (b := b) 9999 hT
 simp only [binOp]
 simp [Op.equal, Op.maxDepth, this, bne]
theorem run_eqGuard_bool (op : BinOp) {T : TypeId} {x y : Operand} {a b : Bool} : (eqGuard op T x y (.bool a) (.bool b)).run P w = .ok () w := by
 cases op <;> simp [eqGuard]
theorem y_beql {T U : TypeId} {x y : Operand} {a b : Bool} (ho : o.op = .binOp .eql T x y U) (hT : P.underlying T = some .bool) (hx : ev F x = .bool a) (hy : ev F y = .bool b) (h : K (.bool (a == b)) w) : Yields P K (run P F o w) :=
 yv (v := .bool (a == b)) (w' := w) (by simp [run, execOp, ho, hx, hy, run_eqGuard_bool, run_beql hT]) h
theorem y_bneq {T U : TypeId} {x y : Operand} {a b : Bool} (ho : o.op = .binOp .neq T x y U) (hT : P.underlying T = some .bool) (hx : ev F x = .bool a) (hy : ev F y = .bool b) (h : K (.bool (a != b)) w) : Yields P K (run P F o w) :=
 yv (v := .bool (a != b)) (w' := w) (by simp [run, execOp, ho, hx, hy, run_eqGuard_bool, run_bneq hT]) h
theorem y_not {T : TypeId} {x : Operand} {b : Bool} (ho : o.op = .unOp .not T x) (hx : ev F x = .bool b) (h : K (.bool (!b)) w) : Yields P K (run P F o w) :=
 yv (v := .bool (!b)) (w' := w) (by simp [run, execOp, ho, hx, Op.unary]) h
theorem y_neg {T : TypeId} {x : Operand} {k : IntKind} {a : Int} (ho : o.op = .unOp .neg T x) (hx : ev F x = .int k a) (h : K (.int k (k.wrap (0 - a))) w) : Yields P K (run P F o w) :=
 yv (v := .int k (k.wrap (0 - a))) (w' := w) (by simp [run, execOp, ho, hx, Op.unary, Op.intArith]) h
def notI (k : IntKind) (a : Int) : Int := xorI k (if k.signed then -1 else k.max) a
theorem y_compl {T : TypeId} {x : Operand} {k : IntKind} {a : Int} (ho : o.op = .unOp .xor T x) (hx : ev F x = .int k a) (h : K (.int k (notI k a)) w) : Yields P K (run P F o w) :=
 yv (v := .int k (notI k a)) (w' := w) (by simp [run, execOp, ho, hx, Op.unary, Op.intBits, notI, xorI]) h
theorem y_conv_int {S T : TypeId} {x : Operand} {k l : IntKind} {a : Int} (ho : o.op = .convert S T x) (hS : P.underlying S = some (.int k)) (hT : P.underlying T = some (.int l)) (hx : ev F x = .int k a) (h : K (.int l (l.wrap a)) w) : Yields P K (run P F o w) :=
 yv (v := .int l (l.wrap a)) (w' := w) (by simp [run, execOp, ho, hx, convert, underlying, hS, hT, Conv.intToInt]) h
theorem y_len_slice {α : Type} {r : Rep α} {T E : TypeId} {ats : Array TypeId} {x : Operand} {l : List α} (ho : o.op = .call { callee := .builtin .len, args := #[x], argTypes := #[T] }) (hT : P.underlying T = some (.slice E))
  (hx : (rSlice r).val c (ev F x) l) (h : K (.int .i64 l.length) c.w) : Yields P K (run P F o c.w) := by
 obtain ⟨a, cap, e, _⟩ := slice_val.1 hx
 refine yv (v := .int .i64 l.length) (w' := c.w) ?_ h
 simp [run, execOp, ho, resolve, invoke, builtin, Builtin.len_, underlying, hT, e, goInt]
theorem y_len_str {T : TypeId} {x : Operand} {l : List UInt8} (ho : o.op = .call { callee := .builtin .len, args := #[x], argTypes := #[T] }) (hT : P.underlying T = some .string)
  (hx : ev F x = .string ⟨l.toArray⟩) (h : K (.int .i64 l.length) w) : Yields P K (run P F o w) := by
 refine yv (v := .int .i64 l.length) (w' := w) ?_ h
 have hz : (ByteArray.mk l.toArray).size = l.length := rfl
 simp [run, execOp, ho, resolve, invoke, builtin, Builtin.len_, underlying, hT, hx, goInt, hz]
theorem y_extract {x : Operand} {k : Nat} {vs : Array Value} {v : Value} (ho : o.op = .extract x k) (hx : ev F x = .tuple vs) (hv : vs[k]? = some v) (h : K v w) : Yields P K (run P F o w) :=
 yv (v := v) (w' := w) (by simp [run, execOp, ho, hx, Instr.extract, hv]) h
end
section
variable {P : Program} {ops : Array Oper} {wr : List Nat} {need : List (List Nat)} {F0 : Fm} {c0 : Cx} {Φ : Nat → Ph} {i : Nat}
def Ph.gb (A : Prop) (g : Bool) : Ph := ⟨fun v _ => (A → v = .bool g) ∧ (¬ A → v = undef), fun h _ => h⟩
end
def AllFrom (p : Nat → Prop) : Nat → Nat → Prop
 | _, 0 => True
 | k, n + 1 => p k ∧ AllFrom p (k + 1) n
theorem AllFrom.get {p : Nat → Prop} : ∀ {n k : Nat}, AllFrom p k n → ∀ i, k ≤ i → i < k + n → p i
 | 0, _, _, i, h1, h2 => by omega
 | n + 1, k, ⟨h, h'⟩, i, h1, h2 => by
  by_cases e : i = k
  ·subst e; exact h
  ·exact h'.get i (by omega) (by omega)
theorem region {P : Program} {ops : Array Oper} {Q : Exit → Act → World → Prop} {n : Nat} {F0 : Fm} {c0 : Cx} (m : Nat) (wr : List Nat) (need : List (List Nat)) (Φ : Nat → Ph)
  (hB : flowB n m ops wr need = true) (hmo : P.follows .mixedOrders = true) {id : Nat} {draw : Bool} {a : Act} (hf : Fr n F0 a)
  (H : AllFrom (HeadOb P ops need wr F0 c0 Φ) 0 m)
  (hT : ∀ F c, c0.le c → (∀ i, i < m → ∀ d, dstOf ops i = some d → (Φ i).p (F d) c) → (∀ t, t ∉ wr → F t = F0 t) → ∀ a, Fr n F a → wpOps P ops Q (List.range' m (ops.size - m)) a c.w) :
  (Code.region id ops draw).wp P Q a c0.w :=
 flow hB hmo hf (fun i hi => H.get i (Nat.zero_le _) (by omega)) hT
theorem enter {P : Program} {f : FuncId} {fn : Func} {code : Code} {args : Array Value} {c0 : Cx} {α : Type} {r : RV α} {d : α} {n : Nat} (hf : P.funcs[f]? = some fn) (hb : fn.body = some code) (hn : args.size ≤ n) (hnt : fn.ntmps = n)
  (h : ∀ F a, Fr n F a → (∀ t, F t = (args ++ Array.replicate (n - args.size) undef).getD t undef) → code.wp P (bodyPost P fn (Post c0 r d)) a c0.w) : Calls P f args c0.w (Post c0 r d) := by
 refine calls_of_wp hf hb (h _ _ ⟨?_, rfl, fun t => rfl⟩ (fun t => by rw [hnt]))
 simp; omega
end Go.Proofs.Ytcbdmoihobdjaaa
