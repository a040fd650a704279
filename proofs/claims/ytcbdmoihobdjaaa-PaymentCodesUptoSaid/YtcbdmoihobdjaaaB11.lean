import Derived.Test.YtcbdmoihobdjaaaB10
import Derived.Laws.CopyRow
namespace Go.Proofs.Ytcbdmoihobdjaaa
open Go.RowKit
theorem arrIs_take {α : Type} {r : Rep α} {c : Cx} : ∀ (i : Nat) {cs : List Value} {l : List α}, arrIs r c cs l → arrIs r c (cs.take (i * r.n)) (l.take i)
 | 0, cs, l, h => by simp [arrIs]
 | i + 1, cs, [], h => by simp only [arrIs] at h; subst h; simp [arrIs]
 | i + 1, cs, d :: l, h => by
  simp only [arrIs] at h
  obtain ⟨c1, c2, e, h1, h2⟩ := h
  have hl := r.len h1
  subst e
  rw [Nat.add_mul, Nat.one_mul, ← hl, Nat.add_comm, List.take_length_add_append]
  simp only [List.take_succ_cons, arrIs]
  refine ⟨c1, _, rfl, h1, ?_⟩
  have := arrIs_take i h2
  rwa [← hl] at this
theorem arrIs_drop {α : Type} {r : Rep α} {c : Cx} : ∀ (i : Nat) {cs : List Value} {l : List α}, arrIs r c cs l → arrIs r c (cs.drop (i * r.n)) (l.drop i)
 | 0, cs, l, h => by simpa using h
 | i + 1, cs, [], h => by simp only [arrIs] at h; subst h; simp [arrIs]
 | i + 1, cs, d :: l, h => by
  simp only [arrIs] at h
  obtain ⟨c1, c2, e, h1, h2⟩ := h
  have hl := r.len h1
  subst e
  rw [Nat.add_mul, Nat.one_mul, ← hl, Nat.add_comm, List.drop_length_add_append, List.drop_succ_cons]
  have := arrIs_drop i h2
  rwa [← hl] at this
section
variable {P : Program} {K : Value → World → Prop} {F : Fm} {o : Oper} {c : Cx}
theorem y_sliceH {T E : TypeId} {n : Nat} {x : Operand} {lo hi : Option Operand} {a : Option Addr} {len cap : Nat} {i j : Int} (ho : o.op = .slice T x lo hi none) (hT : P.underlying T = some (.slice E)) (hE : ∀ w, (sizeOf E).run P w = .ok n w)
  (hx : ev F x = .slice a len cap) (hlo : (lo = none ∧ i = 0) ∨ ∃ y k, lo = some y ∧ ev F y = .int k i) (hhi : (hi = none ∧ j = len) ∨ ∃ y k, hi = some y ∧ ev F y = .int k j) (h0 : 0 ≤ i ∧ i ≤ j ∧ j ≤ len) (hc : len ≤ cap)
  (h : K (.slice (if cap = i.toNat then a else a.map (·.add (i.toNat * n))) (j.toNat - i.toNat) (cap - i.toNat)) c.w) : Yields P K (run P F o c.w) := by
 have hru : (underlying T).run P c.w = .ok (.slice E) c.w := by simp [underlying, hT]
 have hb1 : ∀ y k code, ev F y = .int k j → (Instr.sliceBound (ev F y) cap code).run P c.w = .ok j.toNat c.w := fun y k code hy => bound_ok hy ⟨by omega, by omega⟩
 have hb2 : ∀ y k code, ev F y = .int k i → (Instr.sliceBound (ev F y) j.toNat code).run P c.w = .ok i.toNat c.w := fun y k code hy => bound_ok hy ⟨by omega, by omega⟩
 refine yv (v := .slice (if cap = i.toNat then a else a.map (·.add (i.toNat * n))) (j.toNat - i.toNat) (cap - i.toNat)) (w' := c.w) ?_ h
 rcases hlo with ⟨rfl, rfl⟩ | ⟨y1, k1, rfl, hy1⟩ <;> rcases hhi with ⟨rfl, rfl⟩ | ⟨y2, k2, rfl, hy2⟩
 ·simp [run, execOp, ho, Instr.sliceAt, hru, hx, Instr.slice, Instr.sliceBounds, hE]
 ·simp [run, execOp, ho, Instr.sliceAt, hru, hx, Instr.slice, Instr.sliceBounds, hE, hb1 y2 k2 _ hy2]
 ·have hb3 : ∀ code, (Instr.sliceBound (ev F y1) len code).run P c.w = .ok i.toNat c.w := fun code => bound_ok hy1 ⟨by omega, by omega⟩
  simp [run, execOp, ho, Instr.sliceAt, hru, hx, Instr.slice, Instr.sliceBounds, hE, hb3]
 ·simp [run, execOp, ho, Instr.sliceAt, hru, hx, Instr.slice, Instr.sliceBounds, hE, hb1 y2 k2 _ hy2, hb2 y1 k1 _ hy1]
theorem copy_own {α : Type} {T E E' U : TypeId} {r : Rep α} {d v u : Value} {l m : List α} {i j len cap : Nat} {a : Option Addr} (hT : P.underlying T = some (.slice E)) (hE : ∀ w, (sizeOf E).run P w = .ok r.n w) (hn : 0 < r.n) (ho : Own c E' v r l) (hv : v = .slice a len cap) (hij : i ≤ j) (hj : j ≤ len)
  (hd : d = .slice (if cap = i then a else a.map (·.add (i * r.n))) (j - i) (cap - i)) (hs : Src c u r m) :
  ∃ c', (Builtin.copy_ #[T, T] U #[d, u]).run P c.w = .ok (.int .i64 ((min (j - i) m.length : Nat) : Int)) c'.w ∧ c.chg (blk v) c' ∧ Own c' E' v r (l.take i ++ m.take (min (j - i) m.length) ++ l.drop (i + min (j - i) m.length)) := by
 have hru : (underlying T).run P c.w = .ok (.slice E) c.w := by simp [underlying, hT]
 obtain ⟨a2, cap2, rfl, hsrc⟩ := hs
 have hself : c.chg (blk v) c := ⟨rfl, rfl, rfl, Nat.le_refl _, fun _ _ _ => rfl, fun _ _ => Iff.rfl, ho.isX⟩
 generalize hk : min (j - i) m.length = k
 have hmin : Nat.min m.length (j - i) = k := by rw [← hk]; exact Nat.min_comm _ _
 by_cases hk0 : k = 0
 ·subst hk0
  refine ⟨c, ?_, hself, by simpa using ho⟩
  have hfirst : ∀ w : World, (Builtin.firstCells r.n 0 (.slice a2 m.length cap2)).run P w = .ok #[] w := fun w => by
   cases a2 <;> simp [Builtin.firstCells, loadCells, loadCellsFrom]
  subst hd
  generalize (if cap = i then a else a.map (·.add (i * r.n))) = q
  cases q <;> simp [Builtin.copy_, hru, Builtin.lenOf, hmin, hE, hfirst, storeCells, goInt]
 ·have hmp : m ≠ [] := by rintro rfl; simp at hk; omega
  obtain ⟨b2, o2, cs2, rfl, hc2, har2⟩ := hsrc.resolve_left hmp
  rcases ho.2 with ⟨a', e1, rfl⟩ | ⟨g, cp, cur, e1, h1, h2, h3, h4, h5, h6⟩
  ·rw [hv] at e1; cases e1; omega
  ·rw [hv] at e1
   cases e1
   have hik : i + k ≤ l.length := by omega
   have hadd : (⟨g, 0, none⟩ : Addr).add (i * r.n) = ⟨g, i * r.n, none⟩ := by unfold Addr.add; split <;> simp_all
   have hne : ¬ cp + 1 = i := by omega
   rw [if_neg hne] at hd
   simp only [Option.map_some, hadd] at hd
   have hl2 := arrIs_len har2
   have hnl : (cs2.take (k * r.n)).length = k * r.n := by
    rw [List.length_take, hl2]
    exact Nat.min_eq_left (Nat.mul_le_mul_right _ (by omega))
   have hnews : ∀ q x, (cs2.take (k * r.n))[q]? = some x → c.w.cell? ((⟨b2, o2, none⟩ : Addr).add q) = some x := fun q x hq => by
    have hadd : (⟨b2, o2, none⟩ : Addr).add q = ⟨b2, o2 + q, none⟩ := by unfold Addr.add; split <;> simp_all
    rw [hadd]
    refine hc2 q x ?_
    rw [List.getElem?_take] at hq
    split at hq
    ·exact hq
    ·cases hq
   have hfc := run_firstCells_some (P := P) c.w r.n k ⟨b2, o2, none⟩ m.length cap2 _ hnl hnews
   have hmono : (i + k) * r.n ≤ (cp + 1) * r.n := Nat.mul_le_mul_right _ (by omega)
   have hfit : i * r.n + 0 + (cs2.take (k * r.n)).length ≤ cur.size := by rw [hnl, h5, Nat.add_zero, ← Nat.add_mul]; exact hmono
   have hone : ∀ x ∈ cs2.take (k * r.n), x.oneCell' = true := fun x hx => arrIs_cell har2 x (List.mem_of_mem_take hx)
   have hst := run_storeCells_at P g (i * r.n) E' (cs2.take (k * r.n)) 0 cur c.w h2 hfit hone
   simp only [Nat.add_zero] at hst
   have hcok : ∀ q, q ∈ c.X → q < (c.w.setRow g (cur.toList.take (i * r.n) ++ cs2.take (k * r.n) ++ cur.toList.drop (i * r.n + (cs2.take (k * r.n)).length)).toArray).heap.size := fun q hq => by simpa using c.ok q hq
   have hch : c.chg (some g) ⟨c.X, _, hcok, []⟩ := ⟨rfl, rfl, rfl, by simp, fun q _ hq => setRow_other _ _ _ _ (fun e => hq (e ▸ rfl)), fun _ _ => Iff.rfl, fun q hq => by cases hq; exact h1⟩
   subst hv
   refine ⟨⟨c.X, _, hcok, []⟩, ?_, hch, ⟨?_, .inr ⟨g, cp, _, ?_, h1, setRow_heap c.w g cur _ E' _ h2, ?_, h4, ?_, ?_⟩⟩⟩
   ·subst hd
    simp only [Builtin.copy_]
    simp [hru, Builtin.lenOf, hmin, hE, hfc, hst, goInt]
   ·have := ho.1; simp only [List.length_append, List.length_take, List.length_drop]; omega
   ·congr 1; simp only [List.length_append, List.length_take, List.length_drop]; omega
   ·simp only [List.length_append, List.length_take, List.length_drop]; omega
   ·simp only [List.size_toArray, List.length_append, List.length_drop, hnl, Array.length_toList]
    rw [List.length_take, Array.length_toList, h5]
    have : (i + k) * r.n ≤ (cp + 1) * r.n := hmono
    rw [Nat.add_mul] at this
    rw [Nat.min_eq_left (by omega)]
    omega
   ·have hll : (l.take i ++ m.take k ++ l.drop (i + k)).length = l.length := by simp only [List.length_append, List.length_take, List.length_drop]; omega
    rw [hll]
    have hCl : (cur.toList.take (l.length * r.n)).length = l.length * r.n := arrIs_len h6
    have hsplit : ((cur.toList.take (i * r.n) ++ cs2.take (k * r.n) ++ cur.toList.drop (i * r.n + (cs2.take (k * r.n)).length)).toArray.toList).take (l.length * r.n) =
      (cur.toList.take (l.length * r.n)).take (i * r.n) ++ cs2.take (k * r.n) ++ (cur.toList.take (l.length * r.n)).drop ((i + k) * r.n) := by
     have q1 : (i + k) * r.n ≤ l.length * r.n := Nat.mul_le_mul_right _ hik
     have q2 : l.length * r.n ≤ (cp + 1) * r.n := Nat.mul_le_mul_right _ h3
     rw [Nat.add_mul] at q1
     rw [Nat.add_mul i k, hnl, List.take_take, Nat.min_eq_left (by omega), List.drop_take]
     simp only [List.append_assoc]
     have q3 : (cur.toList.take (i * r.n)).length = i * r.n := by rw [List.length_take, Array.length_toList, h5]; omega
     have e1 : (cur.toList.take (i * r.n)).take (l.length * r.n) = cur.toList.take (i * r.n) := List.take_of_length_le (by rw [q3]; omega)
     have e2 : (cs2.take (k * r.n)).take (l.length * r.n - i * r.n) = cs2.take (k * r.n) := List.take_of_length_le (by rw [hnl]; omega)
     rw [List.take_append, q3, e1, List.take_append, hnl, e2]
     congr 3
     omega
    rw [hsplit]
    refine arrIs_append (arrIs_append (arrIs_mono hch.pub (arrIs_take i h6)) (arrIs_mono hch.pub (arrIs_take k har2))) (arrIs_mono hch.pub (arrIs_drop (i + k) h6))
end
end Go.Proofs.Ytcbdmoihobdjaaa
