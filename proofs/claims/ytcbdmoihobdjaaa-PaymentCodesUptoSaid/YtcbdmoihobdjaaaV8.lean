import Derived.Lib.ConvBytes
import Derived.Laws.BytesArg
import Derived.Test.YtcbdmoihobdjaaaVQ
namespace Go.Proofs.Ytcbdmoihobdjaaa
open Go.RowKit
section
variable {E : Env} {c0 c : Cx} {ρ : Ro} {S : St} {F : Fm} {nid : Nat}
def roSet (ρ : Ro) (n : Nat) (v : Value) : Ro := fun i => if i = n then some v else ρ i
theorem roSet_same {n : Nat} {v : Value} : roSet ρ n v n = some v := by simp [roSet]
theorem roSet_ne {n i : Nat} {v : Value} (h : i ≠ n) : roSet ρ n v i = ρ i := by simp [roSet, h]
theorem var_out {b n : Nat} {g : Bool} {d : V} {c' : Cx} (hf : ρ nid = none) (hs : Since c0 c) (hle : c.le c') (hb : c.w.heap.size = b) (hv : Var c' b (rV ρ n g) d) :
  OutP c0 c ρ S nid (.ptr nid 0) (.new (.var n g d)) (.pointer (some ⟨b, 0, none⟩)) c'.w := by
 have hro := roLe_new (ρ' := roSet ρ nid (.pointer (some ⟨b, 0, none⟩))) hf (fun i hi => roSet_ne hi)
 refine ⟨c', roSet ρ nid (.pointer (some ⟨b, 0, none⟩)), rfl, trivial, ⟨hle, fun i hi => roSet_ne hi, ?_, ?_⟩, ?_⟩
 ·obtain ⟨h1, T, cs, h2, h3, h4⟩ := hv
  exact ⟨b, roSet_same, .inl (by rw [← hb]; exact hs.size), h1, T, cs, h2, h3, rd_ro hro h4⟩
 ·intro k hk
  simp only [blkOf, roSet_same, Option.some.injEq] at hk
  omega
 ·simp only [rd]; exact ⟨b, roSet_same, rfl⟩
theorem alloc_sound (hE : EnvOk E) (h : Sim E c0 c ρ S F) (hf : ρ nid = none) {o : Oper} {U : TypeId} (hop : o.op = .alloc U) (hU : (E.tb U).ok = true) {cnd : Prop} {v : V} {e : Eff}
  (hr : allocF (E.tb U) nid True (E.tb U).z = some (cnd, v, e)) : Yields E.P (OutP c0 c ρ S nid v e) (run E.P F o c.w) := by
 cases hr
 obtain ⟨i, zv, hi, hz, hsz, hb, hzr⟩ := (hE.t U hU).info
 have hzv : ∀ w, (zeroValue U).run E.P w = .ok zv w := fun w => by simp [zeroValue, typeInfo, hi, hz]
 exact y_alloc hop hzv (hzr ρ c) fun b c' hle hbz hlt hv => var_out hf h.since hle hbz hv
theorem box_sound (hE : EnvOk E) (h : Sim E c0 c ρ S F) (hf : ρ nid = none) {o : Oper} {U : TypeId} {x : Operand} (hop : o.op = .box U x) (hU : (E.tb U).ok = true) {cnd : Prop} {v : V} {e : Eff}
  (hr : boxF (E.tb U) nid (S.evT E U x) = some (cnd, v, e)) (hc : cnd) : Yields E.P (OutP c0 c ρ S nid v e) (run E.P F o c.w) := by
 cases hx : S.evT E U x with
 | none => rw [hx] at hr; cases hr
 | some d =>
  rw [hx] at hr
  cases hr
  exact y_box hop (fit_val (hE.t U hU).one hc (evT_rd h hx)) fun b c' hle hbz hlt hv => var_out hf h.since hle hbz hv
theorem setParts_fills (hE : EnvOk E) (h : Sim E c0 c ρ S F) {pl : Array (Nat × Nat)} {n : Nat} {fs : List (Nat × TypeId)}
  (hfs : ∀ (k o : Nat) (U : TypeId), fs[k]? = some (o, U) → (E.tb U).ok = true ∧ o + (E.tb U).n ≤ n ∧ pl[k]? = some (o, (E.tb U).n)) :
  ∀ (ps : List (Nat × Operand)) (c1 : Prop) (d : V) {cnd : Prop} {v : V} {e : Eff}, setParts E S fs c1 d ps = some (cnd, v, e) → cnd → c1 ∧ e = .none ∧ FillsTo (pl[·]?) (rV ρ n true) c (ps.map fun p => (p.1, ev F p.2)) d v
 | [], c1, d, cnd, v, e, hr, hc => by
  simp only [setParts] at hr
  cases hr
  exact ⟨hc, rfl, fills_nil⟩
 | (k, x) :: ps, c1, d, cnd, v, e, hr, hc => by
  simp only [setParts] at hr
  split at hr
  ·rename_i o U hk
   split at hr
   ·rename_i u hu
    obtain ⟨⟨h1, h2⟩, h3, h4⟩ := setParts_fills hE h hfs ps _ _ hr hc
    obtain ⟨h5, h6, h7⟩ := hfs k o U hk
    have hT := hE.t U h5
    refine ⟨h1, h3, fills_cons (subV h6 hT.one) ?_ (fit_val hT.one h2 (evT_rd h hu)) h4⟩
    rw [rV_n hT.one]; exact h7
   ·cases hr
  ·cases hr
theorem setPartsA_fills (hE : EnvOk E) (h : Sim E c0 c ρ S F) {el : TypeId} {m n : Nat} (hel : (E.tb el).ok = true) (hn : n = m * (E.tb el).n) :
  ∀ (ps : List (Nat × Operand)) (c1 : Prop) (d : V) {cnd : Prop} {v : V} {e : Eff}, setPartsA E S el m c1 d ps = some (cnd, v, e) → cnd → c1 ∧ e = .none ∧ FillsTo (fun i => some (i * (E.tb el).n, (E.tb el).n)) (rV ρ n true) c (ps.map fun p => (p.1, ev F p.2)) d v
 | [], c1, d, cnd, v, e, hr, hc => by
  simp only [setPartsA] at hr
  cases hr
  exact ⟨hc, rfl, fills_nil⟩
 | (k, x) :: ps, c1, d, cnd, v, e, hr, hc => by
  simp only [setPartsA] at hr
  split at hr
  ·rename_i u hu
   obtain ⟨⟨h1, hk, h2⟩, h3, h4⟩ := setPartsA_fills hE h hel hn ps _ _ hr hc
   have hT := hE.t el hel
   have h6 : k * (E.tb el).n + (E.tb el).n ≤ n := by
    have := Nat.mul_le_mul_right (E.tb el).n (Nat.succ_le_of_lt hk)
    rw [Nat.succ_mul] at this
    omega
   refine ⟨h1, h3, fills_cons (subV h6 hT.one) ?_ (fit_val hT.one h2 (evT_rd h hu)) h4⟩
   rw [rV_n hT.one]
  ·cases hr
theorem buildA_sound (hE : EnvOk E) (h : Sim E c0 c ρ S F) {o : Oper} {U : TypeId} {ps : Array (Nat × Operand)} (hop : o.op = .build U ps) (hU : (E.tb U).ok = true) (h4 : (E.tb U).k = 4) {cnd : Prop} {v : V} {e : Eff}
  (hr : setPartsA E S (E.tb U).el (E.tb U).len True (E.tb U).z ps.toList = some (cnd, v, e)) (hc : cnd) : Yields E.P (OutP c0 c ρ S nid v e) (run E.P F o c.w) := by
 have hT := hE.t U hU
 obtain ⟨d, hd, hb⟩ := hT.kind
 cases d with
 | array m e1 =>
  simp only [kindB, Bool.and_eq_true, decide_eq_true_eq] at hb
  obtain ⟨⟨⟨⟨⟨_, h5⟩, h6⟩, h7⟩, hg⟩, h8⟩ := hb
  subst h5 h6
  have hE1 := hE.t _ h7
  have hsz1 : ∀ w, (sizeOf (E.tb U).el).run E.P w = .ok (E.tb (E.tb U).el).n w := fun w => by
   have := (hE1.ty ro0).size w
   rwa [rV_n hE1.one] at this
  obtain ⟨i, zv, hi, hz, hsz, hby, hzr⟩ := hT.info
  have hzv : ∀ w, (zeroValue U).run E.P w = .ok zv w := fun w => by simp [zeroValue, typeInfo, hi, hz]
  obtain ⟨_, rfl, hfill⟩ := setPartsA_fills (ρ := ρ) (c := c) (F := F) hE h h7 h8 ps.toList True (E.tb U).z hr hc
  have hzr' := hzr ρ c
  rw [hg] at hzr'
  exact y_buildA (parts := ps.toList) (by simpa using hop) hd hsz1 hzv hzr' rfl hfill fun u hu => outP_none (val_rd hu)
 | _ => simp_all [kindB]
theorem build_sound (hE : EnvOk E) (h : Sim E c0 c ρ S F) {o : Oper} {U : TypeId} {ps : Array (Nat × Operand)} (hop : o.op = .build U ps) (hU : (E.tb U).ok = true) {cnd : Prop} {v : V} {e : Eff}
  (hr : buildF E S (E.tb U) ps.toList = some (cnd, v, e)) (hc : cnd) : Yields E.P (OutP c0 c ρ S nid v e) (run E.P F o c.w) := by
 unfold buildF at hr
 by_cases h5 : (E.tb U).k = 5
 case neg =>
  rw [if_neg h5] at hr
  obtain ⟨h4, hr2⟩ := ite_some hr
  exact buildA_sound hE h hop hU h4 hr2 hc
 rw [if_pos h5] at hr
 have hr2 := hr
 have hT := hE.t U hU
 obtain ⟨d, hd, hb⟩ := hT.kind
 cases d with
 | struct fs =>
  simp only [kindB, Bool.and_eq_true] at hb
  have hg := hb.1.1.2
  have hget : ∀ {k o : Nat} {W : TypeId}, (E.tb U).fs[k]? = some (o, W) → ∃ f, fs.toList[k]? = some f ∧ f.offset = o ∧ f.type = W ∧ (E.tb W).ok = true ∧ f.name ≠ "_" ∧ o + (E.tb W).n ≤ (E.tb U).n := fun hk => (fieldsB_get hb.1.2).2 hk
  -- the places
  have hpl : ∀ (l : List (Nat × TypeId)) (fl : List Field) (off : Nat), fieldsB E.tb (E.tb U).n off l fl = true → ∀ w, (fl.mapM fun f => do pure (f.offset, ← sizeOf f.type) : Sem (List (Nat × Nat))).run E.P w = .ok (l.map fun p => (p.1, (E.tb p.2).n)) w := by
   intro l
   induction l with
   | nil => intro fl off hf w; cases fl <;> simp_all [fieldsB]
   | cons p l ih =>
    obtain ⟨o1, U1⟩ := p
    intro fl off hf w
    cases fl with
    | nil => simp [fieldsB] at hf
    | cons f fl =>
     simp only [fieldsB, Bool.and_eq_true, decide_eq_true_eq] at hf
     obtain ⟨⟨⟨⟨⟨h1, h2⟩, h3⟩, h4⟩, h5⟩, h6⟩ := hf
     have hsz := ((hE.t U1 h4).ty ro0).size w
     rw [rV_n (hE.t U1 h4).one] at hsz
     have ih' := ih fl _ h6 w
     simp only [List.mapM_cons, Sem.run_bind, h3, hsz, Result.andThen_ok, Sem.run_pure, ih', List.map_cons, h2]
  have hbo : BuildOk E.P U ((E.tb U).fs.map fun p => (p.1, (E.tb p.2).n)).toArray := by
   refine ⟨fs, hd, fun w => ?_⟩
   have := hpl _ _ _ hb.1.2 w
   rw [Array.mapM_eq_mapM_toList]
   simp only [map_eq_pure_bind, Sem.run_bind, this, Result.andThen_ok, Sem.run_pure]
  obtain ⟨i, zv, hi, hz, hsz, hby, hzr⟩ := hT.info
  have hzv : ∀ w, (zeroValue U).run E.P w = .ok zv w := fun w => by simp [zeroValue, typeInfo, hi, hz]
  obtain ⟨_, rfl, hfill⟩ := setParts_fills (ρ := ρ) (c := c) (F := F) (n := (E.tb U).n) (pl := ((E.tb U).fs.map fun p => (p.1, (E.tb p.2).n)).toArray) hE h (fun k o1 U1 hk => by
   obtain ⟨f, e1, e2, e3, e4, e5, e6⟩ := hget hk
   exact ⟨e4, e6, by simp [hk]⟩) ps.toList True (E.tb U).z hr2 hc
  have hzr' := hzr ρ c
  rw [hg] at hzr'
  exact y_build (parts := ps.toList) (by simpa using hop) hbo hzv hzr' rfl hfill fun u hu => outP_none (val_rd hu)
 | _ => simp_all [kindB]
theorem elemOk (hE : EnvOk E) {T : TypeId} (h : (E.tb T).ok = true) (hk : (E.tb T).k = 3) : ElemOk E.P T (E.tb T).el (rV ro0 (E.tb (E.tb T).el).n (E.tb (E.tb T).el).g) (E.tb (E.tb T).el).by' (E.tb (E.tb T).el).z := by
 obtain ⟨hu, hel⟩ := kind_slice hE h hk
 have hT := hE.t _ hel
 obtain ⟨i, zv, hi, hz, hsz, hby, hzr⟩ := hT.info
 refine ⟨hu, ⟨i, zv, hi, hz, ?_, hby, fun c => hzr ro0 c⟩, ?_⟩
 ·rw [rV_n hT.one]; exact hsz
 ·rw [rV_n hT.one]; exact hT.pos
theorem own_out {T : TypeId} {n : Nat} {g : Bool} {z : Option Bool} {l : List V} {c' : Cx} {v : Value} (hf : ρ nid = none) (hs : Since c0 c) (hle : c.le c') (ho : Own c' T v (rV ro0 n g) l) (hk : ∀ k, blk v = some k → c.w.heap.size ≤ k) (h1 : g = false → n = 1)
  (hz : ∃ a cap, v = .slice a l.length cap ∧ zOk z a cap) : OutP c0 c ρ S nid (.own nid) (.new (.own T n g z l)) v c'.w := by
 refine ⟨c', roSet ρ nid v, rfl, trivial, ⟨hle, fun i hi => roSet_ne hi, ?_, ?_⟩, ?_⟩
 ·exact ⟨v, roSet_same, ho, fun k hk' => .inl (Nat.le_trans hs.size (hk k hk')), h1, hz⟩
 ·intro k hk'
  obtain ⟨a, cap, rfl, _⟩ := hz
  simp only [blkOf, roSet_same] at hk'
  exact hk k hk'
 ·obtain ⟨a, cap, rfl, _⟩ := hz
  simp only [rd]
  exact ⟨roSet_same, rfl⟩
theorem setElems_fills (hE : EnvOk E) (h : Sim E c0 c ρ S F) {el : TypeId} (hel : (E.tb el).ok = true) {n : Nat} :
  ∀ (ps : List (Nat × Operand)) (c1 : Prop) (d : List V) {cnd : Prop} {l : List V}, setElems E S el n c1 d ps = some (cnd, l) → cnd → c1 ∧ l.length = d.length ∧
   FillsTo (fun i => some (i * (rV ro0 (E.tb el).n (E.tb el).g).n, (rV ro0 (E.tb el).n (E.tb el).g).n)) (rArr (rV ro0 (E.tb el).n (E.tb el).g) n) c (ps.map fun p => (p.1, ev F p.2)) d l
 | [], c1, d, cnd, l, hr, hc => by
  simp only [setElems] at hr
  cases hr
  exact ⟨hc, rfl, fills_nil⟩
 | (k, x) :: ps, c1, d, cnd, l, hr, hc => by
  simp only [setElems] at hr
  split at hr
  ·rename_i u hu
   obtain ⟨⟨h1, h2, h3, h4⟩, h5, h6⟩ := setElems_fills hE h hel ps _ _ hr hc
   have hT := hE.t el hel
   refine ⟨h1, by simpa using h5, fills_cons (Sub.elem k h2) rfl (fit_val hT.one h4 (pure_rd h3 (evT_rd h hu))) h6⟩
  ·cases hr
theorem sliceLit_run {P : Program} {o : Oper} {α : Type} {T E : TypeId} {r : Rep α} {bytes n : Nat} {z : α} {parts : List (Nat × Operand)} {d : List α} (ho : o.op = .buildSlice T n parts.toArray) (hE : ElemOk P T E r bytes z) (hn : n * r.n ≤ 16777216)
  (hf : FillsTo (fun i => some (i * r.n, r.n)) (rArr r n) c (parts.map fun p => (p.1, ev F p.2)) (List.replicate n z) d) :
  ∃ w1, run P F o c.w = .ok (.value (.slice (some ⟨c.w.heap.size, 0, none⟩) n n)) w1 := by
 obtain ⟨i, zv, hi, hz, hsz, hb, hzr⟩ := hE.info
 have hpos := hE.pos
 have hzs : zv.cells.size = r.n := by
  have := r.len (hzr c).cells
  simpa using this
 have hru : (underlying T).run P c.w = .ok (.slice E) c.w := by simp [underlying, hE.under]
 have hz0 : (rArr r n).is c (madeCells zv.cells (n * i.size)).toList (List.replicate n z) := by
  rw [hsz, ← hzs, madeCells_eq]
  exact ⟨by simp, arrIs_replicate n (hzr c).cells⟩
 obtain ⟨cs', h1, h2⟩ := hf _ hz0
 have hnot : ¬ (16777216 < n * r.n) := by omega
 refine ⟨c.w.alloc (.cells cs' E), ?_⟩
 by_cases hn0 : n = 0
 ·subst hn0
  have h1' : Instr.fill (fun i => some (i * r.n, r.n)) #[] (parts.map fun p => (p.1, ev F p.2)) = some cs' := by simpa [madeCells, Array.range_zero'] using h1
  simp [run, execOp, ho, Instr.buildSlice, hru, sizeOf, typeInfo, hi, hsz, Array.range_zero', h1', newRow]
 ·have hne : n * r.n ≠ 0 := Nat.mul_ne_zero hn0 (by omega)
  rw [hsz] at h1
  simp [run, execOp, ho, Instr.buildSlice, hru, sizeOf, typeInfo, hi, zeroValue, hz, hsz, hnot, hne]
  have hn0' : ¬ r.n = 0 := by omega
  rw [show (Array.map (fun x => zv.cells[x % zv.cells.size]!) (Array.range (n * r.n))) = madeCells zv.cells (n * r.n) from rfl, h1]
  simp [newRow]
theorem sliceLit_sound (hE : EnvOk E) (h : Sim E c0 c ρ S F) (hf : ρ nid = none) {o : Oper} {U : TypeId} {n : Nat} {ps : Array (Nat × Operand)} (hop : o.op = .buildSlice U n ps) (hU : (E.tb U).ok = true) {cnd : Prop} {v : V} {e : Eff}
  (hr : sliceLit E U n nid (setElems E S (E.tb U).el n True (List.replicate n (E.tb (E.tb U).el).z) ps.toList) = some (cnd, v, e)) (hc : cnd) : Yields E.P (OutP c0 c ρ S nid v e) (run E.P F o c.w) := by
 cases hs : setElems E S (E.tb U).el n True (List.replicate n (E.tb (E.tb U).el).z) ps.toList with
 | none => rw [hs] at hr; cases hr
 | some p =>
  obtain ⟨c1, l⟩ := p
  rw [hs] at hr
  unfold sliceLit at hr
  obtain ⟨⟨h3, h4⟩, hr2⟩ := ite_some hr
  cases hr2
  obtain ⟨hu, hel⟩ := kind_slice hE hU h3
  have hT := hE.t _ hel
  obtain ⟨_, hlen, hfill⟩ := setElems_fills (ρ := ρ) (c := c) (F := F) hE h hel ps.toList True _ hs hc
  rw [List.length_replicate] at hlen
  have hEl := elemOk hE hU h3
  obtain ⟨i, zv, hi, hz, hsz, hb, hzr⟩ := hEl.info
  have hn' : n * (rV ro0 (E.tb (E.tb U).el).n (E.tb (E.tb U).el).g).n ≤ 16777216 := by rw [rV_n hT.one]; exact h4
  obtain ⟨w1, hw1⟩ := sliceLit_run (P := E.P) (F := F) (o := o) (c := c) (parts := ps.toList) (by simpa using hop) hEl hn' hfill
  have key := y_buildSlice (P := E.P) (F := F) (o := o) (c := c) (K := fun u w' => u = .slice (some ⟨c.w.heap.size, 0, none⟩) n n → OutP c0 c ρ S nid (.own nid) (.new (.own (E.tb U).el (E.tb (E.tb U).el).n (E.tb (E.tb U).el).g (some false) l)) u w') (parts := ps.toList) (by simpa using hop) hEl hn' hfill hlen
   (fun u c' hle ho hk hu => own_out hf h.since hle ho hk hT.one ⟨_, _, by rw [hlen]; exact hu, by simp [zOk]⟩)
  rw [hw1] at key ⊢
  exact key rfl
theorem make_sound (hE : EnvOk E) (h : Sim E c0 c ρ S F) (hf : ρ nid = none) {o : Oper} {U : TypeId} {x y : Operand} (hop : o.op = .makeSlice U x y) (hU : (E.tb U).ok = true) {cnd : Prop} {v : V} {e : Eff}
  (hr : makeF E U nid (S.ev E.gv x) (S.ev E.gv y) = some (cnd, v, e)) (hc : cnd) : Yields E.P (OutP c0 c ρ S nid v e) (run E.P F o c.w) := by
 unfold makeF at hr
 split at hr
 ·rename_i k1 n k2 m hx hy
  obtain ⟨h3, hr2⟩ := ite_some hr
  cases hr2
  obtain ⟨hu, hel⟩ := kind_slice hE hU h3
  have hT := hE.t _ hel
  have hEl := elemOk hE hU h3
  obtain ⟨h0, hnm, hm⟩ := hc
  have e1 := (ev_rd h hx).1
  have e2 := (ev_rd h hy).1
  have hby : ((E.tb (E.tb U).el).by' : Int) * m ≤ 281474976710656 := by
   have h1 := hT.by_
   have h2 : ((E.tb (E.tb U).el).by' : Int) ≤ 32768 := by omega
   have : ((E.tb (E.tb U).el).by' : Int) * m ≤ 32768 * 1073741824 := Int.mul_le_mul h2 hm (by omega) (by omega)
   omega
  obtain ⟨i, zv, hi, hz, hsz, hb, hzr⟩ := hEl.info
  have hrm := run_make (P := E.P) c.w U (E.tb U).el i zv hEl.under hi hz k1 k2 n m h0 hnm (by rw [hb]; exact hby) (by omega)
  have hw1 : run E.P F o c.w = .ok (.value (.slice (some ⟨c.w.heap.size, 0, none⟩) n.toNat m.toNat)) (c.w.alloc (.cells (madeCells zv.cells (m.toNat * i.size)) (E.tb U).el)) := by
   simp [run, execOp, hop, e1, e2, hrm]
  have key := y_make (P := E.P) (F := F) (o := o) (c := c) (K := fun u w' => u = .slice (some ⟨c.w.heap.size, 0, none⟩) n.toNat m.toNat → OutP c0 c ρ S nid (.own nid) (.new (.own (E.tb U).el (E.tb (E.tb U).el).n (E.tb (E.tb U).el).g (some false) (List.replicate n.toNat (E.tb (E.tb U).el).z))) u w') hop hEl e1 e2 h0 hnm
   (by unfold LEN; omega) hby (fun u c' hle ho hk hu => own_out hf h.since hle ho hk hT.one ⟨_, _, by rw [List.length_replicate]; exact hu, by simp [zOk]⟩)
  rw [hw1] at key ⊢
  exact key rfl
 ·cases hr
theorem list_src (h : Sim E c0 c ρ S F) {el : TI} {x : Operand} {d : V} {m : List V} (hx : rd ρ c d (ev F x)) (hm : listF S.H el (some d) = some m) : Src c (ev F x) (rV ro0 el.n el.g) m := by
 unfold listF at hm
 split at hm
 ·rename_i z n g l he
  cases he
  obtain ⟨⟨rfl, rfl⟩, hm2⟩ := ite_some hm
  cases hm2
  exact src_val (rd_slice hx)
 ·rename_i id he
  cases he
  simp only [rd] at hx
  unfold listO at hm
  split at hm
  ·rename_i E' n g z l hH
   obtain ⟨⟨rfl, rfl⟩, hm2⟩ := ite_some hm
   cases hm2
   obtain ⟨v', e1, hown, _⟩ := h.heap _ _ hH
   rw [hx.1] at e1; cases e1
   exact src_own hown
  ·rename_i n g z l hH
   obtain ⟨⟨rfl, rfl⟩, hm2⟩ := ite_some hm
   cases hm2
   obtain ⟨v', e1, hsl⟩ := h.heap _ _ hH
   rw [hx.1] at e1; cases e1
   exact src_val (rd_slice hsl)
  ·cases hm
 ·rename_i id n i j he
  cases he
  simp only [rd] at hx
  obtain ⟨u, hu, hsub⟩ := hx
  unfold listS at hm
  split at hm
  ·rename_i E' n' g z l hH
   obtain ⟨⟨rfl, rfl, rfl⟩, hm2⟩ := ite_some hm
   cases hm2
   obtain ⟨v', e2, hown, _, hone, a', cap', es, _⟩ := h.heap _ _ hH
   rw [hu] at e2; cases e2
   obtain ⟨a, len, cap, e1, hij, hjl, hev⟩ := sub_slice hsub es
   have hn : (rV ro0 el.n el.g).n = el.n := rV_n hone
   rw [e1] at es
   have hll : l.length = len := by cases es; rfl
   obtain ⟨a2, cap2, e3, hs⟩ := src_own hown
   rw [e1] at e3; cases e3
   unfold cutN
   refine ⟨_, cap - i, by rw [hev]; congr 1; simp only [List.length_take, List.length_drop]; omega, ?_⟩
   by_cases h0 : j = i
   ·subst h0; exact .inl (by simp)
   ·rcases hs with rfl | ⟨b, o, cs, rfl, hc, ha⟩
    ·simp at hjl; omega
    ·have hcap : ¬ cap = i := by
      rcases hown.2 with ⟨a4, e4, rfl⟩ | ⟨g4, cp4, cur4, e4, _, _, k3, _⟩
      ·simp at hjl; omega
      ·rw [e1] at e4; cases e4; omega
     rw [if_neg hcap]
     have hadd : (⟨b, o, none⟩ : Addr).add (i * el.n) = ⟨b, o + i * el.n, none⟩ := by unfold Addr.add; split <;> simp_all
     refine .inr ⟨b, o + i * el.n, (cs.drop (i * el.n)).take ((j - i) * el.n), by simp [hadd], ?_, ?_⟩
     ·intro q x hq
      rw [List.getElem?_take] at hq
      split at hq
      ·rw [List.getElem?_drop] at hq
       have := hc (i * el.n + q) x hq
       rwa [show o + i * el.n + q = o + (i * el.n + q) by omega]
      ·cases hq
     ·have := arrIs_take (j - i) (arrIs_drop i ha)
      rwa [hn] at this
  ·cases hm
 ·cases hm
theorem zApp_ok {T : TypeId} {n : Nat} {g : Bool} {l m : List V} {v' : Value} {c' : Cx} (ho : Own c' T v' (rV ro0 n g) (l ++ m)) : ∃ a cap, v' = .slice a (l ++ m).length cap ∧ zOk (zApp m) a cap := by
 rcases ho.2 with ⟨a, h1, h2⟩ | ⟨g', cap, cur, e, _⟩
 ·rw [h2]
  refine ⟨a, 0, h1, ?_⟩
  have : m = [] := (List.append_eq_nil_iff.1 h2).2
  subst this
  exact fun _ => rfl
 ·refine ⟨_, _, e, ?_⟩
  cases m <;> simp [zApp, zOk]
theorem appF_none {H : List (Nat × Blk)} {ti el : TI} {a : Option V} {m : Option (List V)} (hm : m = none) : appF H ti el nid a m = none := by
 unfold appF; split <;> simp_all
theorem append_sound (hE : EnvOk E) (h : Sim E c0 c ρ S F) (hf : ρ nid = none) {o : Oper} {U : TypeId} {x y : Operand} (hop : o.op = .call { callee := .builtin .append, args := #[x, y], argTypes := #[U, U] }) (hU : (E.tb U).ok = true) {cnd : Prop} {v : V} {e : Eff}
  (hr : appF S.H (E.tb U) (E.tb (E.tb U).el) nid (S.evT E U x) (listF S.H (E.tb (E.tb U).el) (S.evT E U y)) = some (cnd, v, e)) (hc : cnd) : Yields E.P (OutP c0 c ρ S nid v e) (run E.P F o c.w) := by
 have hby2 : ∀ (k : Nat), (E.tb U).k = 3 → k ≤ 1073741824 → k * (E.tb (E.tb U).el).by' ≤ 140737488355328 := by
  intro k h3 hk
  have h1 := (hE.t _ (kind_slice hE hU h3).2).by_
  have : k * (E.tb (E.tb U).el).by' ≤ 1073741824 * 32768 := Nat.mul_le_mul hk h1
  omega
 cases hy : S.evT E U y with
 | none =>
  rw [hy] at hr
  rw [appF_none (by rfl)] at hr
  cases hr
 | some dy =>
  rw [hy] at hr
  cases hm : listF S.H (E.tb (E.tb U).el) (some dy) with
  | none => rw [hm, appF_none rfl] at hr; cases hr
  | some m =>
   rw [hm] at hr
   have hsrc := list_src h (evT_rd h hy) hm
   unfold appF at hr
   split at hr
   ·rename_i id m' hx hm'
    cases hm'
    obtain ⟨h3, hr2⟩ := ite_some hr
    have hT := hE.t _ (kind_slice hE hU h3).2
    have hEl := elemOk hE hU h3
    have hp := evT_rd h hx
    simp only [rd] at hp
    unfold appO at hr2
    split at hr2
    ·rename_i E' n g z l hH
     obtain ⟨⟨rfl, rfl, rfl⟩, hr3⟩ := ite_some hr2
     cases hr3
     obtain ⟨v', e1, hown, hge, hone, hz⟩ := h.heap _ _ hH
     have hbo : blkOf ρ id = blk v' := by
      obtain ⟨a, cap, es, _⟩ := hz
      unfold blkOf; rw [e1, es]
     rw [hp.1] at e1; cases e1
     refine y_append hop hEl hown hsrc (by unfold LEN; omega) (hby2 _ h3 hc) fun u c' hch ho hk => ?_
     refine ⟨c', roSet ρ id u, rfl, ⟨_, hH, rfl, rfl⟩, ⟨hbo ▸ hch, fun i hi => roSet_ne hi, ?_, ?_⟩, ?_⟩
     ·refine ⟨u, roSet_same, ho, fun k hk' => ?_, hone, zApp_ok ho⟩
      rcases hk k hk' with h5 | h5
      ·exact hge k h5
      ·exact .inl (Nat.le_trans h.since.size h5)
     ·intro k hk'
      obtain ⟨a, cap, es, _⟩ := zApp_ok ho
      subst es
      simp only [blkOf, roSet_same] at hk'
      rw [hbo]
      exact hk k hk'
     ·obtain ⟨a, cap, es, _⟩ := zApp_ok ho
      subst es
      simp only [rd]
      exact ⟨roSet_same, rfl⟩
    ·cases hr2
   ·rename_i z g m' hx hm'
    cases hm'
    obtain ⟨h3, hr2⟩ := ite_some hr
    cases hr2
    have hT := hE.t _ (kind_slice hE hU h3).2
    have hEl := elemOk hE hU h3
    obtain ⟨a, cap, he, hl, hz, _⟩ := rd_sl.1 (evT_rd h hx)
    obtain ⟨rfl, rfl⟩ := hz
    have hown : Own c (E.tb U).el (ev F x) (rV ro0 (E.tb (E.tb U).el).n (E.tb (E.tb U).el).g) [] := by rw [he]; exact Own.nil
    refine y_append hop hEl hown hsrc (by unfold LEN; simp only [List.length_nil]; omega) (by simpa using hby2 _ h3 hc) fun u c' hch ho hk => ?_
    have hbn : blk (ev F x) = none := by rw [he]; rfl
    rw [hbn] at hch hk
    have hle : c.le c' := ⟨⟨hch.os, hch.tape, hch.output, hch.size, fun k hk => hch.keep k hk (by simp)⟩, hch.old⟩
    have ho' : Own c' (E.tb U).el u (rV ro0 (E.tb (E.tb U).el).n (E.tb (E.tb U).el).g) m := by simpa using ho
    refine own_out hf h.since hle ho' (fun k hk' => ?_) hT.one (by simpa using zApp_ok ho)
    rcases hk k hk' with h5 | h5
    ·cases h5
    ·exact h5
   ·cases hr
theorem subIs_self {T : TypeId} {n : Nat} {g : Bool} {l : List V} {v : Value} (ho : Own c T v (rV ro0 n g) l) {a : Option Addr} {cap : Nat} (hv : v = .slice a l.length cap) : v = .slice (if cap = 0 then a else a.map (·.add (0 * (rV ro0 n g).n))) (l.length - 0) (cap - 0) := by
 rcases ho.2 with ⟨a', e1, rfl⟩ | ⟨g', cp, cur, e1, _⟩
 ·rw [e1] at hv; cases hv; simp [e1]
 ·rw [e1] at hv; cases hv
  have hadd : (⟨g', 0, none⟩ : Addr).add 0 = ⟨g', 0, none⟩ := by unfold Addr.add; split <;> simp_all
  simp [e1, hadd]
theorem copyO_sound (hE : EnvOk E) (h : Sim E c0 c ρ S F) {o : Oper} {U : TypeId} {x y : Operand} (hop : o.op = .call { callee := .builtin .copy, args := #[x, y], argTypes := #[U, U] }) (hU : (E.tb U).ok = true) (h3 : (E.tb U).k = 3) {id i j : Nat} {m : List V} {T : TypeId} {n : Nat} {g : Bool} {z : Option Bool} {l : List V} {cnd : Prop} {v : V} {e : Eff}
  (hH : getA S.H id = some (.own T n g z l)) {u : Value} (hu : ρ id = some u) {a : Option Addr} {len cap : Nat} (eu : u = .slice a len cap) (hij : i ≤ j) (hjl : j ≤ len) (hx : ev F x = .slice (if cap = i then a else a.map (·.add (i * n))) (j - i) (cap - i)) (hs : Src c (ev F y) (rV ro0 (E.tb (E.tb U).el).n (E.tb (E.tb U).el).g) m)
  (hr : copyO (E.tb (E.tb U).el) id i j m (some (.own T n g z l)) = some (cnd, v, e)) : Yields E.P (OutP c0 c ρ S nid v e) (run E.P F o c.w) := by
 unfold copyO at hr
 obtain ⟨⟨rfl, rfl⟩, hr2⟩ := ite_some hr
 cases hr2
 obtain ⟨hu3, hel⟩ := kind_slice hE hU h3
 have hT := hE.t _ hel
 obtain ⟨v', e2, hown, hge, hone, a', cap', es, hz⟩ := h.heap _ _ hH
 rw [hu] at e2; cases e2
 rw [eu] at es
 have hll : l.length = len := by cases es; rfl
 have hn : (rV ro0 (E.tb (E.tb U).el).n (E.tb (E.tb U).el).g).n = (E.tb (E.tb U).el).n := rV_n hone
 have hbo : blkOf ρ id = blk u := by unfold blkOf; rw [hu, eu]
 have hzz : zOk z a cap := by cases es; exact hz
 obtain ⟨c', hrun, hch, hown'⟩ := copy_own (P := E.P) (U := o.type) (d := ev F x) (u := ev F y) hu3 (hT.ty ro0).size (by rw [hn]; exact hT.pos) hown eu hij hjl (by rw [hn]; exact hx) hs
 refine yv (v := .int .i64 ((min (j - i) m.length : Nat) : Int)) (w' := c'.w) ?_ ⟨c', ρ, rfl, ⟨_, hH, rfl, rfl⟩, ⟨hbo ▸ hch, rfl, u, hu, hown', hge, hone, a, cap, ?_, hzz⟩, ⟨rfl, ?_⟩⟩
 ·simp only [run, execOp, hop, resolve, invoke, builtin, Sem.run_bind, Sem.run_pure, Result.andThen_ok, List.map_toArray, List.map_cons, List.map_nil, hrun]
 ·rw [eu]
  congr 1
  simp only [spl, List.length_append, List.length_take, List.length_drop]
  omega
 ·have := hown.len
  exact rng_len (by omega)
theorem copyF_none {H : List (Nat × Blk)} {ti el : TI} {a : Option V} {m : Option (List V)} (hm : m = none) : copyF H ti el a m = none := by
 unfold copyF; split <;> simp_all
theorem rdC_rdE {ρ' : Ro} : ∀ {l : List V} {cs : List Value}, (∀ d ∈ l, ∀ v, rd ρ' c d v → rd ro0 c d v) → rdC ρ' c l cs → rdE c 1 false l cs
 | [], _, _, h => by simp only [rdC] at h; subst h; rfl
 | d :: l, cs, hp, h => by
  simp only [rdC] at h
  obtain ⟨u, c2, rfl, h1, h2, h3⟩ := h
  simp only [rdE]
  exact ⟨[u], c2, rfl, ⟨⟨rfl, fun _ => rfl, by simpa using h1⟩, hp d (by simp) u h2⟩, rdC_rdE (fun d hd => hp d (by simp [hd])) h3⟩
theorem rdE_pureC : ∀ {l : List V} {cs : List Value}, rdE c 1 false l cs → rdC ρ c l cs
 | [], cs, h => by simpa [rdE, rdC] using h
 | d :: l, cs, h => by
  simp only [rdE, rdC] at h ⊢
  obtain ⟨c1, c2, rfl, ⟨h1, h2⟩, h3⟩ := h
  match c1, h1.1 with
  | [u], _ => exact ⟨u, c2, rfl, h1.2.2 u (by simp), rd_ro (fun _ _ k => by cases k) h2, rdE_pureC h3⟩
theorem copyV_sound (hE : EnvOk E) (h : Sim E c0 c ρ S F) {o : Oper} {U : TypeId} {x y : Operand} (hop : o.op = .call { callee := .builtin .copy, args := #[x, y], argTypes := #[U, U] }) (hU : (E.tb U).ok = true) (h3 : (E.tb U).k = 3) {id j n' : Nat} {m l : List V}
  (hH : getA S.H id = some (.var n' true (.agg l))) {u : Value} (hu : ρ id = some u) (hsub : subIs u 1 0 j (ev F x)) (g1 : (E.tb (E.tb U).el).n = 1) (g2 : (E.tb (E.tb U).el).g = false) (g3 : j = l.length) (g4 : 0 < l.length) (g5 : l.length ≤ 1073741824) (hpu : pureL l)
  (hs : Src c (ev F y) (rV ro0 (E.tb (E.tb U).el).n (E.tb (E.tb U).el).g) m) :
  Yields E.P (OutP c0 c ρ S nid (.int .i64 ((min j m.length : Nat) : Int)) (.upd id (.var n' true (.agg (spl l 0 (min j m.length) m))))) (run E.P F o c.w) := by
 obtain ⟨hu3, hel⟩ := kind_slice hE hU h3
 have hT := hE.t _ hel
 obtain ⟨b, e2, hmine, hX, T, cs, hh, hi⟩ := h.heap _ _ hH
 rw [hu] at e2; cases e2
 obtain ⟨b', _, _, e3, e4⟩ := hsub.resolve_left (by rintro ⟨a, len, cap, e, _⟩; cases e)
 cases e3
 obtain ⟨cs', e3, k6⟩ := (show rd ρ c (.agg l) (mkV true cs.toList) from hi.2)
 have e5 : cs.toList = cs' := by
  have e5 : cs = cs'.toArray := by simpa [mkV] using e3
  rw [e5]
 subst e5
 have hlen := rdC_len k6
 have hn : (rV ro0 1 false).n = 1 := rV_n (fun _ => rfl)
 have hE0 := rdC_rdE (ρ' := ro0) (fun _ _ _ h => h) (pure_rdC hpu k6)
 obtain ⟨cp, hcp⟩ : ∃ cp, l.length = cp + 1 := ⟨l.length - 1, by omega⟩
 have hown : Own c T (.slice (some ⟨b, 0, none⟩) l.length l.length) (rV ro0 1 false) l := by
  refine ⟨by unfold LEN; omega, .inr ⟨b, cp, cs, by rw [hcp], hX, hh, by omega, by unfold maxLen; omega, by rw [hn, ← Array.length_toList]; omega, ?_⟩⟩
  rw [hn, Nat.mul_one, ← hlen, List.take_length]
  exact rdE_arr.1 hE0
 rw [g1, g2] at hs
 have hsz : ∀ w, (sizeOf (E.tb U).el).run E.P w = .ok (rV ro0 1 false).n w := fun w => by
  have := (hT.ty ro0).size w
  rwa [rV_n hT.one, g1, ← hn] at this
 have hadd : (⟨b, 0, none⟩ : Addr).add (0 * (rV ro0 1 false).n) = ⟨b, 0, none⟩ := by unfold Addr.add; split <;> simp_all
 obtain ⟨c', hrun, hch, hown'⟩ := copy_own (P := E.P) (U := o.type) (i := 0) (j := j) (d := ev F x) (u := ev F y) hu3 hsz (by rw [hn]; exact Nat.one_pos) hown rfl (Nat.zero_le _) (by omega) (by rw [e4, if_neg (by omega)]; simp only [Option.map_some, hadd, Nat.sub_zero, g3]) hs
 have hbo : blkOf ρ id = some b := by unfold blkOf; rw [hu]
 have hbl : blk (.slice (some ⟨b, 0, none⟩) l.length l.length) = some b := by rw [hcp]; rfl
 rw [hbl] at hch
 rw [Nat.sub_zero] at hrun hown'
 refine yv (v := .int .i64 ((min j m.length : Nat) : Int)) (w' := c'.w) ?_ ⟨c', ρ, rfl, ⟨_, hH, rfl, rfl⟩, ⟨hbo ▸ hch, rfl, b, hu, hmine, ?_⟩, ⟨rfl, ?_⟩⟩
 ·simp only [run, execOp, hop, resolve, invoke, builtin, Sem.run_bind, Sem.run_pure, Result.andThen_ok, List.map_toArray, List.map_cons, List.map_nil, hrun]
 ·obtain ⟨_, h5⟩ := hown'
  have hsl : (l.take 0 ++ m.take (min j m.length) ++ l.drop (0 + min j m.length)).length = l.length := by
   simp only [List.length_append, List.length_take, List.length_drop]; omega
  rcases h5 with ⟨a, e6, e7⟩ | ⟨g, cap, cur, e6, f1, f2, f3, f4, f5, f6⟩
  ·rw [e7] at hsl; simp at hsl; omega
  ·have e8 : b = g ∧ l.length = cap + 1 := by
    simp only [Value.slice.injEq, Option.some.injEq, Addr.mk.injEq] at e6
    exact ⟨e6.1.1, e6.2.2⟩
   obtain ⟨rfl, e9⟩ := e8
   have hcur : cur.size = l.length := by rw [f5, hn]; omega
   rw [hsl, hn, Nat.mul_one, ← hcur, ← Array.length_toList, List.take_length] at f6
   refine ⟨f1, T, cur, f2, ⟨?_, ?_⟩⟩
   ·have := hi.1
    obtain ⟨s1, s2, s3⟩ := this
    have e10 := rdE_arr.2 f6
    refine ⟨?_, fun e => s2 e, ?_⟩
    ·rw [← s1]; rw [Array.length_toList, hcur, hlen]
    ·exact rdC_cell (rdE_pureC (ρ := ρ) e10)
   ·refine ⟨cur.toList, by simp [mkV], ?_⟩
    exact rdE_pureC (rdE_arr.2 f6)
 ·exact rng_len (Nat.le_trans (Nat.min_le_left _ _) (by unfold LEN; omega))
theorem copy_sound (hE : EnvOk E) (h : Sim E c0 c ρ S F) {o : Oper} {U : TypeId} {x y : Operand} (hop : o.op = .call { callee := .builtin .copy, args := #[x, y], argTypes := #[U, U] }) (hU : (E.tb U).ok = true) {cnd : Prop} {v : V} {e : Eff}
  (hr : copyF S.H (E.tb U) (E.tb (E.tb U).el) (S.ev E.gv x) (listF S.H (E.tb (E.tb U).el) (S.evT E U y)) = some (cnd, v, e)) (hc : cnd) : Yields E.P (OutP c0 c ρ S nid v e) (run E.P F o c.w) := by
 cases hy : S.evT E U y with
 | none => rw [hy, copyF_none (by rfl)] at hr; cases hr
 | some dy =>
  rw [hy] at hr
  cases hm : listF S.H (E.tb (E.tb U).el) (some dy) with
  | none => rw [hm, copyF_none rfl] at hr; cases hr
  | some m =>
   rw [hm] at hr
   have hsrc := list_src h (evT_rd h hy) hm
   unfold copyF at hr
   split at hr
   ·rename_i id m' hx hm'
    cases hm'
    obtain ⟨h3, hr2⟩ := ite_some hr
    have hp := ev_rd h hx
    simp only [rd] at hp
    unfold copyW at hr2
    split at hr2
    ·rename_i T n g z l hH
     obtain ⟨v', e1, hown, _, hone, a, cap, es, _⟩ := h.heap _ _ hH
     rw [hp.1] at e1; cases e1
     have hself := subIs_self hown es
     rw [rV_n hone] at hself
     exact copyO_sound hE h hop hU h3 hH hp.1 es (Nat.zero_le _) (Nat.le_refl _) hself hsrc hr2
    ·cases hr2
   ·rename_i id n i j m' hx hm'
    cases hm'
    obtain ⟨h3, hr2⟩ := ite_some hr
    have hp := ev_rd h hx
    simp only [rd] at hp
    obtain ⟨u, hu, hsub⟩ := hp
    unfold copyN at hr2
    split at hr2
    ·rename_i T n' g z l hH
     obtain ⟨rfl, hr3⟩ := ite_some hr2
     obtain ⟨v', e2, _, _, _, a', cap', es, _⟩ := h.heap _ _ hH
     rw [hu] at e2; cases e2
     obtain ⟨a, len, cap, e1, hij, hjl, hev⟩ := sub_slice hsub es
     exact copyO_sound hE h hop hU h3 hH hu e1 hij hjl hev hsrc hr3
    ·rename_i n' l hH
     obtain ⟨⟨rfl, rfl, g1, g2, g3, g4, g5⟩, hr3⟩ := ite_some hr2
     cases hr3
     exact copyV_sound hE h hop hU h3 hH hu hsub g1 g2 g3 g4 g5 hc hsrc
    ·cases hr2
   ·cases hr
theorem u8_arr : ∀ {l : List V} {cs : List Value}, allU8 l → arrIs (rV ro0 1 false) c cs l → cs = (l.map numV).map (Value.int .u8)
 | [], cs, _, h => by simp only [arrIs] at h; subst h; rfl
 | d :: l, cs, hu, h => by
  simp only [allU8, arrIs] at hu h
  obtain ⟨c1, c2, rfl, ⟨⟨h1, _⟩, h2⟩, h3⟩ := h
  obtain ⟨h4, h5⟩ := hu
  match c1, h1 with
  | [u], _ =>
   cases d with
   | int k n =>
    cases k <;> simp only [isU8] at h4
    have e : u = .int .u8 n := h2.1
    subst e
    simp [u8_arr h5 h3, numV]
   | _ => simp only [isU8] at h4
theorem u8_rdE : ∀ {a : List UInt8}, rdE c 1 false (a.map u8V) (a.map fun b => .int .u8 b.toNat)
 | [] => rfl
 | x :: a => by
  simp only [List.map_cons, rdE]
  refine ⟨[_], _, rfl, ⟨⟨rfl, fun _ => rfl, by simp [Value.oneCell']⟩, ?_⟩, u8_rdE⟩
  refine ⟨rfl, ?_⟩
  have := UInt8.toNat_lt x
  simp [Rng, IntKind.min, IntKind.max, IntKind.bits, IntKind.signed]; omega
theorem blk_zero {i n m k : Nat} (h : blk (.slice (some ⟨i, 0, none⟩) n m) = some k) : k = i := by
 cases m with
 | zero => cases h
 | succ m => simp only [blk, Option.some.injEq] at h; exact h.symm
theorem conv_sound (hE : EnvOk E) (h : Sim E c0 c ρ S F) (hf : ρ nid = none) {o : Oper} {U W : TypeId} {x : Operand} (hop : o.op = .convert U W x) (hU : (E.tb U).ok = true) (hW : (E.tb W).ok = true) {cnd : Prop} {v : V} {e : Eff}
  (hr : convF E.tb (E.tb U) (E.tb W) nid (listF S.H (E.tb (E.tb U).el) (S.ev E.gv x)) (S.ev E.gv x) = some (cnd, v, e)) (hc : cnd) : Yields E.P (OutP c0 c ρ S nid v e) (run E.P F o c.w) := by
 unfold convF at hr
 split at hr
 ·rename_i k a hx
  obtain ⟨⟨h1, h2, h3⟩, hr2⟩ := ite_some hr
  cases hr2
  have hu := kind_int hE hU h1
  rw [h3] at hu
  exact y_conv_int hop hu (kind_int hE hW h2) (ev_rd h hx).1 (int_out (rng_convI _ _))
 ·rename_i a hx
  have e := ev_rd h hx
  unfold convS at hr
  split at hr
  ·rename_i hk
   cases hr
   refine yv (v := .string ⟨a.toArray⟩) (w' := c.w) ?_ (outP_none ⟨rfl, e.2⟩)
   simp [run, execOp, hop, e.1, convert, underlying, kind_str hE hU hk.1, kind_str hE hW hk.2]
  ·obtain ⟨⟨k1, k2, k3, k4⟩, hr2⟩ := ite_some hr
   cases hr2
   obtain ⟨hu, hel⟩ := kind_slice hE hW k2
   have hue := kind_int hE hel k3
   rw [k4] at hue
   have hsz : (⟨a.toArray⟩ : ByteArray).size = a.length := by simp [ByteArray.size]
   have hrun : run E.P F o c.w = .ok (.value (.slice (some ⟨c.w.heap.size, 0, none⟩) a.length (grownCap c.w a.length 0 (E.tb W).el))) (Lib.bytesWorld c.w (E.tb W).el ⟨a.toArray⟩) := by
    have := Lib.run_convert_string_bytes (P := E.P) c.w U W (E.tb W).el ⟨a.toArray⟩ (kind_str hE hU k1) hu hue
    rw [hsz] at this
    simp [run, execOp, hop, e.1, this]
   have hbe : Below c.w.heap.size c.w (Lib.bytesWorld c.w (E.tb W).el ⟨a.toArray⟩) := by
    refine ⟨?_, ?_, ?_, by rw [Lib.bytesWorld_size]; omega, fun k hk => Lib.bytesWorld_at_old _ _ _ k hk⟩ <;> rfl
   have hrd : rd ro0 (c.at _ hbe.size) (.sl (some false) 1 false (a.map u8V)) (.slice (some ⟨c.w.heap.size, 0, none⟩) a.length (grownCap c.w a.length 0 (E.tb W).el)) := by
    refine rd_sl.2 ⟨_, _, by rw [List.length_map], ⟨by rw [List.length_map]; exact e.2, by rw [List.length_map]; exact grownCap_ge _ _ _ _⟩, by simp [zOk], .inr ⟨c.w.heap.size, 0, a.map fun b => .int .u8 b.toNat, rfl, ?_, ?_, ?_, ?_⟩⟩
    ·show c.w.heap.size < (Lib.bytesWorld _ _ _).heap.size
     rw [Lib.bytesWorld_size]; omega
    ·intro hk; exact absurd (c.ok _ hk) (Nat.lt_irrefl _)
    ·intro j u hj
     have hjl : j < a.length := by
      have := (List.getElem?_eq_some_iff.1 hj).1
      simpa using this
     show (Lib.bytesWorld _ _ _).cell? _ = _
     rw [Nat.zero_add, Lib.bytesWorld_cell _ _ _ j (by rw [hsz]; exact hjl)]
     simp [List.getElem?_eq_getElem hjl] at hj
     simp [List.getD, List.getElem?_eq_getElem hjl, ← hj]
    ·refine rdE_arr.1 ?_
     exact u8_rdE
   rw [hrun]
   refine ⟨c.at _ hbe.size, roSet ρ nid _, rfl, trivial, ⟨Cx.le_at hbe, fun i hi => roSet_ne hi, ⟨_, roSet_same, hrd⟩, fun k hk => ?_⟩, ⟨roSet_same, rfl⟩⟩
   simp only [blkOf, roSet_same] at hk
   exact Nat.le_of_eq (blk_zero hk).symm
 ·rename_i d hn1 hn2 hx
  rw [hx] at hr
  unfold convB at hr
  split at hr
  ·rename_i l hl
   obtain ⟨⟨k1, k2, k3, k4, k5, k6⟩, hr2⟩ := ite_some hr
   cases hr2
   obtain ⟨hu, hel⟩ := kind_slice hE hU k1
   have hue := kind_int hE hel k3
   rw [k4] at hue
   obtain ⟨a, cap, ev1, hs⟩ := list_src h (ev_rd h hx) hl
   rw [k5, k6] at hs
   have key : run E.P F o c.w = .ok (.value (.string ⟨(l.map fun d => u8N (numV d)).toArray⟩)) c.w := by
    have hcv : (convert U W (ev F x)).run E.P c.w = .ok (.string ⟨(l.map fun d => u8N (numV d)).toArray⟩) c.w := by
     rw [ev1]
     rcases hs with rfl | ⟨b, o1, cs, rfl, hcell, harr⟩
     ·cases a with
      | none => exact run_convert_bytes_nil c.w U _ hu hue _ _ W (kind_str hE hW k2)
      | some a =>
       rw [run_convert_bytes_string c.w U W _ _ _ _ hu hue (kind_str hE hW k2)]
       rw [run_bytesToString c.w a _ _ [] (by simpa using run_loadCells_list (P := E.P) c.w a [] (fun j v hj => by simp at hj))]
       rfl
     ·have hcs := u8_arr hc.1 harr
      have hlen : cs.length = l.length := by rw [hcs]; simp
      have := run_convert_bytes_arg c.w U _ hu hue b o1 l.length cap (l.map numV) (by simp) (fun i hi => by
       have := hcell i (.int .u8 ((l.map numV).getD i 0)) (by rw [hcs]; simp [List.getD, List.getElem?_eq_getElem hi])
       exact this) W (kind_str hE hW k2)
      rw [this]
      simp only [strOfNums, List.map_map]
      rfl
    simp [run, execOp, hop, hcv]
   refine yv key (outP_none ⟨rfl, ?_⟩)
   simpa [LEN] using hc.2
  ·cases hr
 ·cases hr
theorem eltsN_eq : ∀ {l : List V} {k i : Nat}, i + k ≤ l.length → eltsN l k i = (l.drop i).take k
 | l, 0, i, _ => by simp [eltsN]
 | l, k + 1, i, h => by
  have hi : i < l.length := by omega
  rw [List.drop_eq_getElem_cons hi, List.take_succ_cons, eltsN, eltsN_eq (k := k) (i := i + 1) (by omega)]
  simp [elt, List.getD, List.getElem?_eq_getElem hi]
theorem rdE_rdC1 : ∀ {l : List V} {cs : List Value}, arrIs (rV ro0 1 false) c cs l → rdC ro0 c l cs
 | [], cs, h => by simp only [arrIs] at h; subst h; rfl
 | d :: l, cs, h => by
  simp only [arrIs] at h
  obtain ⟨c1, c2, rfl, ⟨⟨h1, _, h0⟩, h2⟩, h3⟩ := h
  match c1, h1 with
  | [u], _ =>
   simp only [rdC]
   exact ⟨u, c2, rfl, h0 u (by simp), h2, rdE_rdC1 h3⟩
theorem s2a_sound (hE : EnvOk E) (h : Sim E c0 c ρ S F) {o : Oper} {A : TypeId} {x : Operand} (hop : o.op = .sliceToArrayPointer A x) (hA : (E.tb A).ok = true) {cnd : Prop} {v : V} {e : Eff}
  (hr : s2aF (E.tb A) (E.tb (E.tb A).el) (S.ev E.gv x) = some (cnd, v, e)) (hc : cnd) : Yields E.P (OutP c0 c ρ S nid v e) (run E.P F o c.w) := by
 unfold s2aF at hr
 split at hr
 ·rename_i z n g l hx
  obtain ⟨⟨h4, g1, g2, rfl, rfl, g3⟩, hr2⟩ := ite_some hr
  cases hr2
  obtain ⟨hu, hel⟩ := kind_arr hE hA h4
  have hru : (underlying A).run E.P c.w = .ok (.array (E.tb A).len (E.tb (E.tb A).el).el) c.w ∨ (underlying A).run E.P c.w = .ok (.array (E.tb A).len (E.tb A).el) c.w := .inr (by simp [underlying, hu])
  have hru2 : (underlying A).run E.P c.w = .ok (.array (E.tb A).len (E.tb A).el) c.w := by simp [underlying, hu]
  obtain ⟨a, cap, e1, ⟨hl, _⟩, hz, hs⟩ := rd_sl.1 (ev_rd h hx)
  rcases hs with rfl | ⟨b, o1, cs, rfl, k1, k2, k3, k4⟩
  ·simp at hc; omega
  refine yv (v := .pointer (some ⟨b, o1, none⟩)) (w' := c.w) ?_ (outP_none ?_)
  ·simp [run, execOp, hop, Instr.arrayAt, e1, hru2, Nat.not_lt.2 hc]
  ·have hcd := rdE_rdC1 k4
   have hlen := rdC_len hcd
   refine rd_pp.2 ⟨b, o1, (cs.take (E.tb A).len), rfl, k1, k2, by simpa using k3.part 0 (E.tb A).len, ⟨by simp; omega, (fun hh => nomatch hh), fun u hu => rdC_cell hcd u (List.mem_of_mem_take hu)⟩, ?_⟩
   rw [eltsN_eq (by omega)]
   exact ⟨_, rfl, by simpa using rdC_take (E.tb A).len hcd⟩
 ·cases hr
theorem part_rd {ρ' : Ro} {z : Option Bool} {n : Nat} {g : Bool} {l l' : List V} {v u : Value} {i q s : Nat} (hv : rd ρ' c (.sl z n g l) v) (hu : (rSlice (rV ro0 n g)).val c u l')
  (hhd : ∃ a cap, v = .slice a l.length cap ∧ u = .slice (if cap = i then a else a.map (·.add (i * s))) q (cap - i)) : rd ρ c (.sl none n g l') u := by
 obtain ⟨a, cap, e, h1, h2⟩ := slice_val.1 hu
 obtain ⟨a1, cap1, e1, e2⟩ := hhd
 obtain ⟨a2, cap2, e3, _, hz, _⟩ := rd_sl.1 hv
 rw [e1] at e3; cases e3
 refine rd_sl.2 ⟨a, cap, e, h1, fun ha => ?_, h2⟩
 rw [e2] at e
 simp only [Value.slice.injEq] at e
 obtain ⟨g1, g2, g3⟩ := e
 subst ha
 have : a1 = none := by
  split at g1
  ·exact g1
  ·cases a1 with
   | none => rfl
   | some x => cases g1
 have := zOk_none hz this
 omega
theorem arr_slice {o : Oper} {U El : TypeId} {m b off o' : Nat} {x : Operand} {lo hi : Option Operand} (hop : o.op = .slice U x lo hi none) (hu : E.P.underlying U = some (.array m El)) (hsz : ∀ w, (sizeOf El).run E.P w = .ok 1 w)
  (hx : ev F x = .pointer (some ⟨b, o' + off, none⟩)) {i j : Int} (hlo : (lo = none ∧ i = 0) ∨ ∃ y k, lo = some y ∧ ev F y = .int k i) (hhi : (hi = none ∧ j = m) ∨ ∃ y k, hi = some y ∧ ev F y = .int k j) (hc : 0 ≤ i ∧ i ≤ j ∧ j ≤ m) (hm : m ≤ 1073741824)
  {l : List V} {cs : List Value} (h1 : b < c.w.heap.size) (h2 : b ∉ c.X) (h3 : cellsAt c.w b o' cs) (h4 : rdC ro0 c l cs) (hl : off + m ≤ l.length) {ρ' : Ro} :
  Yields E.P (fun u w' => w' = c.w ∧ rd ρ' c (.sl (some false) 1 false (cutA (l.drop off) i j)) u) (run E.P F o c.w) := by
 have hru : (underlying U).run E.P c.w = .ok (.array m El) c.w := by simp [underlying, hu]
 obtain ⟨c1, c2, c3⟩ := hc
 have hlen := rdC_len h4
 have hi' : i = ((i.toNat : Nat) : Int) := by omega
 have hj' : j = ((j.toNat : Nat) : Int) := by omega
 have hrun : run E.P F o c.w = .ok (.value (.slice (some (if m - i.toNat = 0 then ⟨b, o' + off, none⟩ else ⟨b, o' + off + i.toNat, none⟩)) (j.toNat - i.toNat) (m - i.toNat))) c.w := by
  have c4 : (0 : Int) ≤ j := by omega
  have c5 : i ≤ (m : Int) := by omega
  have hmi : (m = i.toNat) ↔ (m - i.toNat = 0) := by omega
  rcases hlo with ⟨rfl, rfl⟩ | ⟨y, k, rfl, ey⟩ <;> rcases hhi with ⟨rfl, rfl⟩ | ⟨y2, k2, rfl, ey2⟩
  ·simp [run, execOp, hop, Instr.sliceAt, hx, hru, Instr.sureAddr, Instr.sliceBounds, hsz, Addr.add]
  ·simp [run, execOp, hop, Instr.sliceAt, hx, hru, Instr.sureAddr, Instr.sliceBounds, Instr.sliceBound, asIntOf, ey2, hsz, Addr.add, c3, c4]
  ·simp [run, execOp, hop, Instr.sliceAt, hx, hru, Instr.sureAddr, Instr.sliceBounds, Instr.sliceBound, asIntOf, ey, hsz, Addr.add, c1, c2, hmi]
   split
   ·rfl
   ·split
    ·have e0 : i.toNat = 0 := by omega
     simp [e0]
    ·rfl
  ·simp [run, execOp, hop, Instr.sliceAt, hx, hru, Instr.sureAddr, Instr.sliceBounds, Instr.sliceBound, asIntOf, ey, ey2, hsz, Addr.add, c1, c2, c3, c4, hmi, hj'.symm]
   split
   ·rfl
   ·split
    ·have e0 : i.toNat = 0 := by omega
     simp [e0]
    ·rfl
 rw [hrun]
 refine ⟨rfl, rd_sl.2 ?_⟩
 have hcl : (cutA (l.drop off) i j).length = j.toNat - i.toNat := by simp [cutA]; omega
 refine ⟨_, m - i.toNat, by rw [hcl], ⟨by rw [hcl]; unfold LEN; omega, by rw [hcl]; omega⟩, by simp [zOk], ?_⟩
 by_cases hz : m - i.toNat = 0
 ·left
  exact List.eq_nil_of_length_eq_zero (by rw [hcl]; omega)
 ·right
  rw [if_neg hz]
  have hp := h3.part (off + i.toNat) (j.toNat - i.toNat)
  refine ⟨b, o' + off + i.toNat, _, rfl, h1, h2, by rw [Nat.add_assoc]; exact hp, rdE_arr.1 (rdC_rdE (ρ' := ro0) (fun _ _ _ h => h) ?_)⟩
  have := rdC_take (j.toNat - i.toNat) (rdC_drop (off + i.toNat) h4)
  simpa [cutA, List.drop_drop] using this
theorem slice_sound (hE : EnvOk E) (h : Sim E c0 c ρ S F) {o : Oper} {U : TypeId} {x : Operand} {lo hi : Option Operand} (hop : o.op = .slice U x lo hi none) (hU : (E.tb U).ok = true) {cnd : Prop} {v : V} {e : Eff}
  (hr : sliceF S.H (E.tb U) (E.tb (E.tb U).el) (S.ev E.gv x) (loB (S.ev E.gv) lo) (hiB (lenI (E.tb U).len S.H (S.ev E.gv x)) (S.ev E.gv) hi) = some (cnd, v, e)) (hc : cnd) : Yields E.P (OutP c0 c ρ S nid v e) (run E.P F o c.w) := by
 have hlo : ∀ i, loB (S.ev E.gv) lo = some i → (lo = none ∧ i = 0) ∨ ∃ y k, lo = some y ∧ ev F y = .int k i := by
  intro i hi
  cases lo with
  | none => cases hi; exact .inl ⟨rfl, rfl⟩
  | some y =>
   simp only [loB] at hi
   unfold bound at hi
   split at hi
   ·rename_i e; cases e
   ·rename_i k i' e; cases hi
    simp only [Option.some.injEq] at e
    exact .inr ⟨y, k, rfl, (ev_rd h e).1⟩
   ·cases hi
 have hhi : ∀ n j, hiB n (S.ev E.gv) hi = some j → (hi = none ∧ j = n) ∨ ∃ y k, hi = some y ∧ ev F y = .int k j := by
  intro n j hj
  cases hi with
  | none => cases hj; exact .inl ⟨rfl, rfl⟩
  | some y =>
   simp only [hiB] at hj
   unfold bound at hj
   split at hj
   ·rename_i e; cases e
   ·rename_i k i' e; cases hj
    simp only [Option.some.injEq] at e
    exact .inr ⟨y, k, rfl, (ev_rd h e).1⟩
   ·cases hj
 unfold sliceF at hr
 split at hr
 ·rename_i z n g l i j hx hi1 hj1
  obtain ⟨⟨h3, rfl, rfl⟩, hr2⟩ := ite_some hr
  cases hr2
  obtain ⟨hu, hel⟩ := kind_slice hE hU h3
  have hT := hE.t _ hel
  rw [hx] at hj1
  have hrd := ev_rd h hx
  refine y_slice hop hu (hT.ty ro0) (rd_slice hrd) (hlo _ hi1) (hhi _ _ hj1) hc fun u hu' hhd => outP_none ?_
  exact part_rd hrd hu' hhd
 ·rename_i s i j hx hi1 hj1
  obtain ⟨h2, hr2⟩ := ite_some hr
  cases hr2
  have hu := kind_str hE hU h2
  have hru : (underlying U).run E.P c.w = .ok .string c.w := by simp [underlying, hu]
  obtain ⟨e1, hl⟩ := ev_rd h hx
  rw [hx] at hj1
  have hlo' := hlo _ hi1
  have hhi' := hhi _ _ hj1
  simp only [lenI] at hhi'
  obtain ⟨c1, c2, c3⟩ := hc
  have hsz : (⟨s.toArray⟩ : ByteArray).size = s.length := rfl
  have hext : (⟨s.toArray⟩ : ByteArray).extract i.toNat j.toNat = ⟨((s.drop i.toNat).take (j.toNat - i.toNat)).toArray⟩ := by
   apply ByteArray.ext
   simp [ByteArray.data_extract, List.extract_eq_take_drop]
  have h0 : (0 : Int) ≤ (s.length : Int) := by omega
  have c4 : (0 : Int) ≤ j := by omega
  refine yv (v := .string ⟨((s.drop i.toNat).take (j.toNat - i.toNat)).toArray⟩) (w' := c.w) ?_ (outP_none ⟨rfl, by simp only [List.length_take, List.length_drop]; omega⟩)
  rw [← hext]
  have hj' : (j.toNat : Int) = j := by omega
  rcases hlo' with ⟨rfl, rfl⟩ | ⟨y, k, rfl, ey⟩ <;> rcases hhi' with ⟨rfl, rfl⟩ | ⟨y2, k2, rfl, ey2⟩
  ·have hfull : (⟨s.toArray⟩ : ByteArray).extract 0 s.length = ⟨s.toArray⟩ := by apply ByteArray.ext; simp
   simp [run, execOp, hop, Instr.sliceAt, e1, Instr.slice, hru, Instr.sliceBounds, hsz, hfull]
  ·simp [run, execOp, hop, Instr.sliceAt, e1, ey2, Instr.slice, hru, Instr.sliceBounds, Instr.sliceBound, asIntOf, hsz, c3, c4]
  ·simp [run, execOp, hop, Instr.sliceAt, e1, ey, Instr.slice, hru, Instr.sliceBounds, Instr.sliceBound, asIntOf, hsz, c1, c2]
  ·simp [run, execOp, hop, Instr.sliceAt, e1, ey, ey2, Instr.slice, hru, Instr.sliceBounds, Instr.sliceBound, asIntOf, hsz, c1, c2, c3, c4, hj']
 ·rename_i id i j hx hi1 hj1
  obtain ⟨h3, hr2⟩ := ite_some hr
  obtain ⟨hu, hel⟩ := kind_slice hE hU h3
  have hT := hE.t _ hel
  have hp := ev_rd h hx
  simp only [rd] at hp
  rw [hx] at hj1
  unfold sliceO at hr2
  split at hr2
  ·rename_i E' n g z l hH
   obtain ⟨⟨rfl, rfl⟩, hr3⟩ := ite_some hr2
   cases hr3
   obtain ⟨v', e1, hown, _, hone, a, cap, es, _⟩ := h.heap _ _ hH
   rw [hp.1] at e1; cases e1
   simp only [lenI, hH, lenB] at hj1
   have hcap : l.length ≤ cap := by
    rcases hown.2 with ⟨a4, e4, rfl⟩ | ⟨g4, cp4, cur4, e4, _, _, k3, _⟩
    ·simp
    ·rw [es] at e4; cases e4; exact k3
   have hsz : ∀ w, (sizeOf (E.tb U).el).run E.P w = .ok (E.tb (E.tb U).el).n w := fun w => by
    have := (hT.ty ro0).size w
    rwa [rV_n hT.one] at this
   refine y_sliceH hop hu hsz es (hlo _ hi1) (hhi _ _ hj1) hc hcap (outP_none ?_)
   simp only [rd]
   exact ⟨_, hp.1, .inl ⟨a, _, cap, es, by omega, by omega, rfl⟩⟩
  ·rename_i n g z l hH
   obtain ⟨⟨rfl, rfl⟩, hr3⟩ := ite_some hr2
   cases hr3
   obtain ⟨v', e1, hsl⟩ := h.heap _ _ hH
   rw [hp.1] at e1; cases e1
   simp only [lenI, hH, lenB] at hj1
   refine y_slice hop hu (hT.ty ro0) (rd_slice hsl) (hlo _ hi1) (hhi _ _ hj1) hc fun u hu' hhd => outP_none ?_
   exact part_rd hsl hu' hhd
  ·cases hr2
 ·rename_i id off i j hx hi1 hj1
  obtain ⟨h4, hr2⟩ := ite_some hr
  obtain ⟨hu, hel⟩ := kind_arr hE hU h4
  have hT := hE.t _ hel
  have hp := ev_rd h hx
  simp only [rd] at hp
  obtain ⟨b, hb, he⟩ := hp
  rw [hx] at hj1
  simp only [lenI] at hj1
  unfold sliceP at hr2
  split at hr2
  ·rename_i n l hH
   unfold sliceAr at hr2
   obtain ⟨⟨g1, g2, g3, g4⟩, hr3⟩ := ite_some hr2
   cases hr3
   obtain ⟨b', e1, b2, o2, cs, e2, k1, k2, k3, k4, k5⟩ := h.heap _ _ hH
   rw [hb] at e1; cases e1; cases e2
   have hsz : ∀ w, (sizeOf (E.tb U).el).run E.P w = .ok 1 w := fun w => by
    have := (hT.ty ro0).size w
    rwa [rV_n hT.one, g1] at this
   obtain ⟨cs', e3, k6⟩ := (show rd ro0 c (.agg l) (mkV true cs) from k5)
   have e4 : cs = cs' := by simpa [mkV] using e3
   subst e4
   refine (arr_slice (c := c) (ρ' := ρ) (o' := 0) hop hu hsz (by simpa using he) (hlo _ hi1) (hhi _ _ hj1) hc g4 k1 k2 k3 k6 g3).mono ?_
   rintro u w' ⟨rfl, hu'⟩
   exact outP_none hu'
  ·rename_i n l hH
   unfold giveR at hr2
   split at hr2
   ·rename_i c9 v9 e9 hs
    cases hr2
    unfold sliceAr at hs
    obtain ⟨⟨g1, g2, g3, g4⟩, hr3⟩ := ite_some hs
    cases hr3
    obtain ⟨hc, hpu⟩ := hc
    obtain ⟨b', e1, hge, hX, T, cs, hh, hi⟩ := h.heap _ _ hH
    rw [hb] at e1; cases e1
    have hsz : ∀ w, (sizeOf (E.tb U).el).run E.P w = .ok 1 w := fun w => by
     have := (hT.ty ro0).size w
     rwa [rV_n hT.one, g1] at this
    obtain ⟨cs', e3, k6⟩ := (show rd ρ c (.agg l) (mkV true cs.toList) from hi.2)
    have e4 : cs.toList = cs' := by
     have e5 : cs = cs'.toArray := by simpa [mkV] using e3
     rw [e5]
    subst e4
    have hbv : blk (.slice (some ⟨b, 0, none⟩) 0 1) = some b := rfl
    have hpd := c.pub_dropv (.slice (some ⟨b, 0, none⟩) 0 1)
    have k1 : b < (c.dropv (.slice (some ⟨b, 0, none⟩) 0 1)).w.heap.size := c.ok b hX
    have k2 : b ∉ (c.dropv (.slice (some ⟨b, 0, none⟩) 0 1)).X := by simp [Cx.dropv, List.mem_filter, hbv]
    have k3 : cellsAt (c.dropv (.slice (some ⟨b, 0, none⟩) 0 1)).w b 0 cs.toList := by
     intro j u hj
     simp only [Cx.dropv, World.cell?, hh]
     simpa using hj
    have k7 := rdC_mono hpd (pure_rdC (ρ' := ro0) hpu k6)
    refine (arr_slice (c := c.dropv (.slice (some ⟨b, 0, none⟩) 0 1)) (ρ' := ρ) (o' := 0) hop hu hsz (by simpa using he) (hlo _ hi1) (hhi _ _ hj1) hc g4 k1 k2 k3 k7 g3).mono ?_
    rintro u w' ⟨rfl, hu'⟩
    exact ⟨_, ρ, rfl, ⟨_, _, _, hH, rfl⟩, ⟨rfl, ⟨b, hb, b, 0, cs.toList, rfl, k1, k2, k3, hi.1, ⟨_, rfl, k7⟩⟩, b, hb, rfl⟩, hu'⟩
   ·cases hr2
  ·cases hr2
 ·rename_i n l i j hx hi1 hj1
  obtain ⟨h4, hr2⟩ := ite_some hr
  obtain ⟨hu, hel⟩ := kind_arr hE hU h4
  have hT := hE.t _ hel
  have hp := ev_rd h hx
  simp only [rd] at hp
  obtain ⟨b, o2, cs, e2, k1, k2, k3, k4, k5⟩ := hp
  rw [hx] at hj1
  simp only [lenI] at hj1
  unfold sliceAr at hr2
  obtain ⟨⟨g1, g2, g3, g4⟩, hr3⟩ := ite_some hr2
  cases hr3
  have hsz : ∀ w, (sizeOf (E.tb U).el).run E.P w = .ok 1 w := fun w => by
   have := (hT.ty ro0).size w
   rwa [rV_n hT.one, g1] at this
  obtain ⟨cs', e3, k6⟩ := (show rd ro0 c (.agg l) (mkV true cs) from k5)
  have e4 : cs = cs' := by simpa [mkV] using e3
  subst e4
  refine (arr_slice (ρ' := ρ) (off := 0) (o' := o2) hop hu hsz (by simpa using e2) (hlo _ hi1) (hhi _ _ hj1) hc g4 k1 k2 k3 k6 g3).mono ?_
  rintro u w' ⟨rfl, hu'⟩
  exact outP_none hu'
 ·cases hr
theorem evL_rd (h : Sim E c0 c ρ S F) : ∀ {l : List Operand} {vs : List V}, evL (S.ev E.gv) l = some vs → rdT ρ c vs (l.map (ev F))
 | [], vs, e => by simp only [evL, Option.some.injEq] at e; subst e; rfl
 | x :: l, vs, e => by
  unfold evL at e
  cases hx : S.ev E.gv x with
  | none => rw [hx] at e; cases e
  | some v =>
   cases hl : evL (S.ev E.gv) l with
   | none => rw [hx, hl] at e; cases e
   | some us =>
    rw [hx, hl] at e
    simp only [evL.consO, Option.some.injEq] at e
    subst e
    exact ⟨_, _, rfl, ev_rd h hx, evL_rd h hl⟩
theorem makeFn_sound (h : Sim E c0 c ρ S F) {o : Oper} {fn : Fn} {first cs : Array Operand} (hop : o.op = .makeFunc fn first cs) {cnd : Prop} {v : V} {e : Eff}
  (hr : mkFn fn first.toList (evL (S.ev E.gv) cs.toList) = some (cnd, v, e)) : Yields E.P (OutP c0 c ρ S nid v e) (run E.P F o c.w) := by
 unfold mkFn at hr
 split at hr
 ·rename_i f l hf hl
  cases hr
  obtain ⟨first⟩ := first
  obtain ⟨cs⟩ := cs
  simp only at hf hl
  subst hf
  exact y_makeFuncN hop rfl (outP_none ⟨_, rfl, evL_rd h hl⟩)
 ·cases hr
theorem opF_sound (hE : EnvOk E) (h : Sim E c0 c ρ S F) (hf : ρ nid = none) {o : Oper} {cnd : Prop} {v : V} {e : Eff} (hr : opF E S nid o.type o.op = some (cnd, v, e)) (hc : cnd) : Yields E.P (OutP c0 c ρ S nid v e) (run E.P F o c.w) := by
 have hbind : ∀ {x : Option V}, moveF x = some (cnd, v, e) → x = some v ∧ e = .none := by
  intro x hx
  cases x with
  | none => cases hx
  | some d => cases hx; exact ⟨rfl, rfl⟩
 generalize hop : o.op = op at hr
 unfold opF at hr
 split at hr
 ·obtain ⟨h1, rfl⟩ := hbind hr
  exact y_move hop (outP_none (evT_rd h h1))
 ·obtain ⟨h1, rfl⟩ := hbind hr
  exact y_assign hop (outP_none (evT_rd h h1))
 ·exact pick_sound h hop hr
 ·obtain ⟨h1, h2⟩ := rB_some hr; exact load_sound hE h hop h1 h2 hc
 ·obtain ⟨h1, h2⟩ := rB_some hr; exact store_sound hE h hop h1 h2 hc
 ·obtain ⟨h1, h2⟩ := rB_some hr; exact field_sound hE h hop h1 h2
 ·obtain ⟨h1, h2⟩ := rB_some hr; exact fieldX_sound hE h hop h1 h2 hc
 ·obtain ⟨h1, h2⟩ := rB_some hr; exact index_sound hE h hop h1 h2 hc
 ·obtain ⟨h1, h2⟩ := rB_some hr; exact indexX_sound hE h hop h1 h2 hc
 ·obtain ⟨h1, h2⟩ := rB_some hr; exact alloc_sound hE h hf hop h1 h2
 ·obtain ⟨h1, h2⟩ := rB_some hr; exact box_sound hE h hf hop h1 h2 hc
 ·obtain ⟨h1, h2⟩ := rB_some hr; exact build_sound hE h hop h1 h2 hc
 ·obtain ⟨h1, h2⟩ := rB_some hr; exact sliceLit_sound hE h hf hop h1 h2 hc
 ·obtain ⟨h1, h2⟩ := rB_some hr; exact make_sound hE h hf hop h1 h2 hc
 ·obtain ⟨h1, h2⟩ := rB_some hr
  rename_i bop U x y W
  unfold binF at h2
  split at h2
  ·rename_i k a k' b hx hy
   have e1 := ev_rd h hx
   have e2 := ev_rd h hy
   exact bin_sound hE h hop e1.1 e2.1 e1.2 e2.2 h2 hc
  ·rename_i a b hx hy
   exact bool_sound hE hop h1 (ev_rd h hx) (ev_rd h hy) h2
  ·rename_i a b hx hy
   exact str_sound hop (ev_rd h hx).1 (ev_rd h hy).1 h2 hc
  ·rename_i a b hx hy
   obtain ⟨⟨h3, h5⟩, h4⟩ := ite_some h2
   exact agg_sound hE h hop h1 h3 h5 (ev_rd h hx) (ev_rd h hy) h4
  ·rename_i z n g l hx hy
   obtain ⟨h3, h4⟩ := ite_some h2
   have hn := ev_rd h hy
   obtain ⟨a, cap, he, hl, hz, _⟩ := rd_sl.1 hn
   obtain ⟨rfl, rfl⟩ := hz
   exact nil_sound hE hop h1 h3 (ev_rd h hx) he h4
  ·cases h2
 ·exact un_sound h hop hr
 ·obtain ⟨h1, h2⟩ := rB_some hr
  simp only [Bool.and_eq_true] at h1
  exact conv_sound hE h hf hop h1.1 h1.2 h2 hc
 ·obtain ⟨h1, h2⟩ := rB_some hr; exact s2a_sound hE h hop h1 h2 hc
 ·exact ext_sound h hop hr
 ·exact nilChk_sound h hop hr
 ·obtain ⟨h1, h2⟩ := rB_some hr; exact slice_sound hE h hop h1 h2 hc
 ·rename_i cl
  obtain ⟨callee, args, ats⟩ := cl
  obtain ⟨args⟩ := args
  obtain ⟨ats⟩ := ats
  simp only at hr
  unfold callF at hr
  split at hr
  ·obtain ⟨h1, h2⟩ := rB_some hr; exact len_sound hE h hop h1 h2
  ·exact min_sound h hop hr
  ·exact max_sound h hop hr
  ·exact minN_sound h hop hr
  ·exact maxN_sound h hop hr
  ·obtain ⟨⟨rfl, h1⟩, h2⟩ := ite_some hr
   exact copy_sound hE h hop h1 h2 hc
  ·obtain ⟨⟨rfl, h1⟩, h2⟩ := ite_some hr
   exact append_sound hE h hf hop h1 h2 hc
  ·cases hr
 ·exact makeFn_sound h hop hr
 ·cases hr
theorem subOf_sound (hE : EnvOk E) (h : Sim E c0 c ρ S F) {o : Oper} {U : TypeId} {x : Operand} (hop : o.op = .slice U x none none none) {cnd : Prop} {v : V} {e : Eff}
  (hr : subOf E.tb S.H U (S.ev E.gv x) = some (cnd, v, e)) : Yields E.P (OutP c0 c ρ S nid v e) (run E.P F o c.w) := by
 unfold subOf at hr
 split at hr
 ·rename_i id hx
  unfold subO at hr
  split at hr
  ·rename_i n l hH
   obtain ⟨⟨g0, g1, g2, g3, g4, g5, g6⟩, hr2⟩ := ite_some hr
   cases hr2
   obtain ⟨hu, hel⟩ := kind_arr hE g0 g1
   have hT := hE.t _ hel
   have hp := ev_rd h hx
   simp only [rd] at hp
   obtain ⟨b, hb, he⟩ := hp
   have hsz : ∀ w, (sizeOf (E.tb U).el).run E.P w = .ok 1 w := fun w => by
    have := (hT.ty ro0).size w
    rwa [rV_n hT.one, g2] at this
   have hru : (underlying U).run E.P c.w = .ok (.array (E.tb U).len (E.tb U).el) c.w := by simp [underlying, hu]
   have hne : ¬ (E.tb U).len = 0 := by omega
   refine yv (v := .slice (some ⟨b, 0, none⟩) (E.tb U).len (E.tb U).len) (w' := c.w) ?_ (outP_none ?_)
   ·simp [run, execOp, hop, Instr.sliceAt, he, hru, Instr.sureAddr, Instr.sliceBounds, hsz, Addr.add]
   ·simp only [rd]
    exact ⟨_, hb, .inr ⟨b, rfl, rfl, rfl, rfl⟩⟩
  ·cases hr
 ·cases hr
theorem opH_sound (hE : EnvOk E) (h : Sim E c0 c ρ S F) (hf : ρ nid = none) {o : Oper} {cnd : Prop} {v : V} {e : Eff} (hr : opH E S nid o.type o.op = some (cnd, v, e)) (hc : cnd) : Yields E.P (OutP c0 c ρ S nid v e) (run E.P F o c.w) := by
 unfold opH at hr
 split at hr
 ·rename_i U x hi
  have hop : o.op = .slice U x none none none := by
   unfold isSl at hi
   split at hi
   ·rename_i hop; cases hi; exact hop
   ·cases hi
  unfold orElse at hr
  split at hr
  ·rename_i r hr2
   cases hr
   exact subOf_sound hE h hop hr2
  ·exact opF_sound hE h hf hr hc
 ·exact opF_sound hE h hf hr hc
end
end Go.Proofs.Ytcbdmoihobdjaaa
