import Derived.Test.YtcbdmoihobdjaaaV2
namespace Go.Proofs.Ytcbdmoihobdjaaa
open Go.RowKit
theorem rngB_rng {k : IntKind} {n : Int} (h : rngB k n = true) : Rng k n := by
 cases k <;> simp [rngB, Rng, IntKind.min, IntKind.max, IntKind.bits, IntKind.signed] at h ⊢ <;> omega
mutual
theorem zrB_rd {ρ : Ro} {c : Cx} : ∀ {d : V} {v : Value}, zrB d v = true → rd ρ c d v
 | .int k n, .int k' n', h => by
  simp only [zrB, Bool.and_eq_true, decide_eq_true_eq] at h
  obtain ⟨⟨rfl, rfl⟩, h⟩ := h
  exact ⟨rfl, rngB_rng h⟩
 | .bool b, .bool b', h => by
  simp only [zrB, decide_eq_true_eq] at h
  subst h; rfl
 | .str [], .string s, h => by
  simp only [zrB, decide_eq_true_eq] at h
  refine ⟨?_, Nat.zero_le _⟩
  obtain ⟨⟨l⟩⟩ := s
  simp only at h
  subst h; rfl
 | .sl (some true) n g [], .slice none 0 0, h => by
  simp only [rd]
  exact ⟨none, 0, rfl, ⟨Nat.zero_le _, Nat.zero_le _⟩, ⟨rfl, rfl⟩, .inl trivial⟩
 | .agg l, .agg cs, h => by
  simp only [zrB] at h
  simp only [rd]
  exact ⟨cs.toList, rfl, zrC_rd h⟩
 | .un, _, _ => trivial
theorem zrC_rd {ρ : Ro} {c : Cx} : ∀ {l : List V} {cs : List Value}, zrC l cs = true → rdC ρ c l cs
 | [], [], _ => rfl
 | d :: l, u :: cs, h => by
  simp only [zrC, Bool.and_eq_true] at h
  simp only [rdC]
  exact ⟨u, cs, rfl, h.1.1, zrB_rd h.1.2, zrC_rd h.2⟩
end
def zeroB (ti : TI) : Option Value → Bool
 | some zv => zrB ti.z zv && (match ti.g, zv with
  | true, .agg cs => decide (cs.size = ti.n) && cs.toList.all (·.oneCell')
  | false, u => u.oneCell'
  | _, _ => false)
 | none => false
def fieldsB (tb : TypeId → TI) (n : Nat) : Nat → List (Nat × TypeId) → List Field → Bool
 | off, [], [] => decide (off = n)
 | off, (o, U) :: l, f :: fs => decide (o = off) && decide (f.offset = o) && decide (f.type = U) && (tb U).ok && decide (f.name ≠ "_") && fieldsB tb n (off + (tb U).n) l fs
 | _, _, _ => false
def kindB (P : Program) (tb : TypeId → TI) (T : TypeId) (ti : TI) : TypeDesc → Bool
 | .int k => decide (ti.k = 0) && decide (ti.ik = k) && !ti.g
 | .bool => decide (ti.k = 1) && !ti.g
 | .string => decide (ti.k = 2) && !ti.g
 | .slice e => decide (ti.k = 3) && decide (ti.el = e) && (tb e).ok && !ti.g
 | .array m e => decide (ti.k = 4) && decide (ti.el = e) && decide (ti.len = m) && (tb e).ok && ti.g && decide (ti.n = m * (tb e).n)
 | .struct fs => decide (ti.k = 5) && ti.g && fieldsB tb ti.n 0 ti.fs fs.toList && !(P.stoodInHeld T)
 | _ => decide (ti.k = 6) && !ti.g
def cmpB (tb : TypeId → TI) : Nat → TypeId → Bool
 | 0, _ => false
 | d + 1, T => (tb T).ok && (decide ((tb T).k = 0) || decide ((tb T).k = 1) || decide ((tb T).k = 2) || (decide ((tb T).k = 5) && (tb T).fs.all fun p => cmpB tb d p.2) || (decide ((tb T).k = 4) && cmpB tb d (tb T).el))
def ckOf (tb : TypeId → TI) : Nat → TypeId → List Nat
 | 0, _ => []
 | d + 1, T => match (tb T).k with
  | 5 => (tb T).fs.flatMap fun p => ckOf tb d p.2
  | 4 => (List.replicate (tb T).len (ckOf tb d (tb T).el)).flatten
  | k => [k]
def tiB (P : Program) (tb : TypeId → TI) (T : TypeId) (ti : TI) : Bool :=
 match P.info? T, P.underlying T with
 | some i, some d => decide (i.size = ti.n) && decide (0 < ti.n) && decide (i.bytes = ti.by') && decide (ti.by' ≤ 32768) && (ti.g || decide (ti.n = 1)) && zeroB ti i.zero && kindB P tb T ti d && (!ti.cmp || (cmpB tb 9 T && !(P.eqGuardType P.depth T) && decide (ti.ck = ckOf tb 9 T)))
 | _, _ => false
def tbOf (l : List (TypeId × TI)) : TypeId → TI := fun T => (getA l T).getD {}
def tablesB (P : Program) (l : List (TypeId × TI)) : Bool := l.all fun p => tiB P (tbOf l) p.1 (tbOf l p.1)
structure TOk (P : Program) (tb : TypeId → TI) (T : TypeId) : Prop where
 ty : ∀ ρ, TyOk P T (rV ρ (tb T).n (tb T).g)
 one : (tb T).g = false → (tb T).n = 1
 pos : 0 < (tb T).n
 info : ∃ i zv, P.info? T = some i ∧ i.zero = some zv ∧ i.size = (tb T).n ∧ i.bytes = (tb T).by' ∧ ∀ ρ c, (rV ρ (tb T).n (tb T).g).val c zv (tb T).z
 by_ : (tb T).by' ≤ 32768
 kind : ∃ d, P.underlying T = some d ∧ kindB P tb T (tb T) d = true
 cmp : (tb T).cmp = true → cmpB tb 9 T = true ∧ P.eqGuardType P.depth T = false ∧ (tb T).ck = ckOf tb 9 T
theorem getA_mem {α : Type} {l : List (Nat × α)} {t : Nat} {v : α} (h : getA l t = some v) : (t, v) ∈ l := by
 induction l with
 | nil => simp [getA] at h
 | cons p l ih =>
  obtain ⟨k, x⟩ := p
  simp only [getA] at h
  split at h
  ·rename_i e; subst e; cases h; simp
  ·exact List.mem_cons_of_mem _ (ih h)
theorem mkV_val {c : Cx} {ρ : Ro} {n : Nat} {g : Bool} {d : V} {v : Value} (h : rd ρ c d v) (hs : shapeOk n g v.cells.toList) (hv : v = mkV g v.cells.toList) : (rV ρ n g).val c v d := ⟨v.cells.toList, ⟨hs, hv ▸ h⟩, hv⟩
theorem tOk {P : Program} {l : List (TypeId × TI)} (hB : tablesB P l = true) {T : TypeId} (h : (tbOf l T).ok = true) : TOk P (tbOf l) T := by
 have hmem : ∃ ti, (T, ti) ∈ l := by
  unfold tbOf at h
  cases hg : getA l T with
  | none => rw [hg] at h; cases h
  | some ti => exact ⟨ti, getA_mem hg⟩
 obtain ⟨ti, hm⟩ := hmem
 have h1 := List.all_eq_true.1 hB _ hm
 simp only at h1
 generalize hti : tbOf l T = ti at *
 unfold tiB at h1
 cases hi : P.info? T with
 | none => rw [hi] at h1; cases h1
 | some i =>
  cases hu : P.underlying T with
  | none => rw [hi, hu] at h1; cases h1
  | some d =>
   rw [hi, hu] at h1
   simp only [Bool.and_eq_true, Bool.or_eq_true, decide_eq_true_eq] at h1
   obtain ⟨⟨⟨⟨⟨⟨⟨h1, h2⟩, h3⟩, h4⟩, h5⟩, h6⟩, h7⟩, h8⟩ := h1
   have hone : ti.g = false → ti.n = 1 := fun hg => by rcases h5 with h5 | h5; (rw [hg] at h5; cases h5); exact h5
   refine ⟨fun ρ => ⟨fun w => ?_, fun w => ?_⟩, ?_, ?_, ?_, ?_, ?_, ?_⟩ <;> rw [hti]
   ·have hru : (underlying T).run P w = .ok d w := by simp [underlying, hu]
    simp only [isAgg, Sem.run_bind, hru, Result.andThen_ok, rV]
    cases hg : ti.g <;> cases d <;> simp_all [kindB]
   ·rw [rV_n hone]
    simp [sizeOf, typeInfo, hi, h1]
   ·exact hone
   ·exact h2
   ·unfold zeroB at h6
    cases hz : i.zero with
    | none => rw [hz] at h6; cases h6
    | some zv =>
     rw [hz] at h6
     simp only [Bool.and_eq_true] at h6
     refine ⟨i, zv, hi, hz, h1, h3, fun ρ c => mkV_val (zrB_rd h6.1) ?_ ?_⟩
     ·have h9 := h6.2
      cases hg : ti.g <;> rw [hg] at h9
      ·refine ⟨?_, fun _ => hone hg, ?_⟩
       ·rw [hone hg]
        cases zv <;> simp_all [Value.cells, Value.oneCell']
       ·cases zv <;> simp_all [Value.cells, Value.oneCell']
      ·cases zv with
       | agg cs =>
        simp only [Bool.and_eq_true, decide_eq_true_eq, List.all_eq_true] at h9
        exact ⟨by simpa [Value.cells] using h9.1, (fun hf => by cases hf), h9.2⟩
       | _ => cases h9
     ·have h9 := h6.2
      cases hg : ti.g <;> rw [hg] at h9
      ·cases zv <;> simp_all [Value.cells, Value.oneCell', mkV]
      ·cases zv <;> simp_all [Value.cells, mkV]
   ·exact h4
   ·exact ⟨d, hu, h7⟩
   ·intro hc
    rcases h8 with h8 | h8
    ·rw [hc] at h8; cases h8
    ·exact ⟨h8.1.1, by simpa using h8.1.2, h8.2⟩
end Go.Proofs.Ytcbdmoihobdjaaa
