/-
  Base 9: slices of one's own that stand in fields of variables and of results (holes); results in cells; nil; array literals.
-/
import Derived.Test.YtcbdmoihobdjaaaB8
namespace Go.Proofs.Ytcbdmoihobdjaaa
open Go.RowKit

/-- One cell, whatever it holds. -/
def rRaw : Rep Value where
  n := 1
  agg := false
  is _ cs v := cs = [v] ∧ v.oneCell' = true
  len h := by rw [h.1]; rfl
  mono h _ := h
  one _ := rfl
  cell h := by rw [h.1]; simpa using h.2
theorem raw_val {c : Cx} {v u : Value} (h : rRaw.val c v u) : v = u := by obtain ⟨cs, ⟨rfl, _⟩, rfl⟩ := h; rfl
theorem raw_mk {c : Cx} {v : Value} (h : v.oneCell' = true) : rRaw.val c v v := ⟨[v], ⟨rfl, h⟩, rfl⟩
theorem tyRaw {P : Program} {α : Type} {T : TypeId} {r : Rep α} (h : TyOk P T r) (h1 : r.agg = false) (h2 : r.n = 1) : TyOk P T rRaw := ⟨fun w => by rw [h.agg, h1]; rfl, fun w => by rw [h.size, h2]; rfl⟩

theorem tyHole {P : Program} {α β : Type} {T : TypeId} {r : Rep α} {r' : Rep β} (h : TyOk P T r) (h1 : r'.agg = r.agg := by rfl) (h2 : r'.n = r.n := by rfl) : TyOk P T r' := ⟨fun w => by rw [h.agg, h1], fun w => by rw [h.size, h2]⟩

/-- The nil slice. -/
abbrev nilS : Value := .slice none 0 0

/-- Read as r, but for the cell at a place, which holds the value beside; r reads it as the nil slice. -/
def rHole {α : Type} (r : Rep α) (off : Nat) : Rep (α × Value) where
  n := r.n
  agg := r.agg
  is c cs d := cs[off]? = some d.2 ∧ d.2.oneCell' = true ∧ r.is c (cs.set off nilS) d.1
  len h := by have := r.len h.2.2; simpa using this
  mono h k := ⟨h.1, h.2.1, r.mono h.2.2 k⟩
  one h := r.one h
  cell h := by
    intro u hu
    obtain ⟨h1, h2, h3⟩ := h
    obtain ⟨j, hj⟩ := List.mem_iff_getElem?.1 hu
    by_cases e : j = off
    · subst e; rw [h1] at hj; cases hj; exact h2
    · refine r.cell h3 u (List.mem_iff_getElem?.2 ⟨j, ?_⟩)
      rw [List.getElem?_set_ne (fun h => e h.symm)]; exact hj

theorem cut1 {cs : List Value} {off : Nat} {v : Value} (h : cs[off]? = some v) : (cs.drop off).take 1 = [v] := by
  obtain ⟨hl, rfl⟩ := List.getElem?_eq_some_iff.1 h
  rw [List.take_one, List.head?_drop, h]; rfl
theorem splice1 {cs : List Value} {off : Nat} {v : Value} (h : off < cs.length) : cs.take off ++ [v] ++ cs.drop (off + 1) = cs.set off v := by
  rw [List.set_eq_take_append_cons_drop, if_pos h]; simp
theorem Sub.atHole {α : Type} {r : Rep α} {off : Nat} (h : off < r.n) : Sub (rHole r off) off rRaw (fun d => d.2) (fun d v => (d.1, v)) where
  bound := h
  get_is := by
    rintro c cs d ⟨h1, h2, h3⟩
    exact ⟨cut1 h1, h2⟩
  set_is := by
    rintro c cs d cx v ⟨h1, h2, h3⟩ ⟨rfl, h4⟩
    have hl := (List.getElem?_eq_some_iff.1 h1).1
    show _ ∧ _ ∧ _
    rw [show rRaw.n = 1 from rfl, splice1 hl]
    exact ⟨by simp [hl], h4, by simpa using h3⟩

/-- A part beside the hole. -/
theorem Sub.hole {α β : Type} {r : Rep α} {s : Rep β} {off o1 : Nat} {get : α → β} {set : α → β → α} (h : Sub r o1 s get set) (hd : off < o1 ∨ o1 + s.n ≤ off) : Sub (rHole r off) o1 s (fun d => get d.1) (fun d x => (set d.1 x, d.2)) where
  bound := h.bound
  get_is := by
    rintro c cs d ⟨h1, h2, h3⟩
    have := h.get_is h3
    refine cast (congrArg (fun q => s.is c q _) ?_) this
    apply List.ext_getElem?
    intro j
    rw [List.getElem?_take, List.getElem?_take]
    split
    · rw [List.getElem?_drop, List.getElem?_drop, List.getElem?_set_ne (by omega)]
    · rfl
  set_is := by
    rintro c cs d cx x ⟨h1, h2, h3⟩ hx
    have hl := r.len h3
    have hlx := s.len hx
    have hb := h.bound
    have hset := h.set_is h3 hx
    have hoff := (List.getElem?_eq_some_iff.1 h1).1
    simp at hl
    have hmin : min o1 cs.length = o1 := Nat.min_eq_left (by omega)
    refine ⟨?_, h2, ?_⟩
    · rcases hd with hd | hd
      · rw [List.append_assoc, List.getElem?_append_left (by simp; omega), List.getElem?_take_of_lt hd]; exact h1
      · rw [List.getElem?_append_right (by simp; omega), List.getElem?_drop]
        simp only [List.length_append, List.length_take]
        rw [← h1]; congr 1; omega
    · refine cast (congrArg (fun q => r.is c q _) ?_) hset
      apply List.ext_getElem?
      intro j
      have hlen : off < (cs.take o1 ++ cx ++ cs.drop (o1 + s.n)).length := by
        have := (List.getElem?_eq_some_iff.1 h1).1
        simp; omega
      by_cases e : j = off
      · subst e
        rw [List.getElem?_set_self hlen]
        rcases hd with hd | hd
        · rw [List.append_assoc, List.getElem?_append_left (by simp; omega), List.getElem?_take_of_lt hd, List.getElem?_set_self hoff]
        · rw [List.getElem?_append_right (by simp; omega), List.getElem?_drop]
          simp only [List.length_append, List.length_take, List.length_set]
          rw [show o1 + s.n + (j - (min o1 cs.length + cx.length)) = j by omega, List.getElem?_set_self hoff]
      · rw [List.getElem?_set_ne (fun h => e h.symm)]
        have hs : ∀ i, i ≠ off → (cs.set off nilS)[i]? = cs[i]? := fun i hi => List.getElem?_set_ne (fun h => hi h.symm)
        by_cases h4 : j < o1
        · rw [List.append_assoc, List.append_assoc, List.getElem?_append_left (by simp; omega), List.getElem?_append_left (by simp; omega), List.getElem?_take_of_lt h4, List.getElem?_take_of_lt h4, hs _ e]
        · by_cases h5 : j < o1 + s.n
          · rw [List.getElem?_append_left (by simp; omega), List.getElem?_append_right (by simp; omega), List.getElem?_append_left (by simp; omega), List.getElem?_append_right (by simp; omega)]
            simp
          · rw [List.getElem?_append_right (by simp; omega), List.getElem?_append_right (by simp; omega), List.getElem?_drop, List.getElem?_drop]
            simp only [List.length_append, List.length_take, List.length_set]
            exact hs _ (by omega)

/-- What stands in the hole reads as the empty list. -/
theorem hole_nil {α γ : Type} {r : Rep α} {s : Rep γ} {off : Nat} {get : α → List γ} {set : α → List γ → α} {c : Cx} {cs : List Value} {d : α × Value} (hs : Sub r off (rSlice s) get set) (h : (rHole r off).is c cs d) : get d.1 = [] := by
  have := hs.get_is h.2.2
  have hl := (List.getElem?_eq_some_iff.1 h.1).1
  rw [show (rSlice s).n = 1 from rfl, cut1 (v := nilS) (by simp [hl])] at this
  obtain ⟨a, cap, e, _⟩ := this
  cases hg : get d.1 with
  | nil => rfl
  | cons x l => rw [hg] at e; simp at e

theorem own_cell {α : Type} {c : Cx} {E : TypeId} {v : Value} {r : Rep α} {l : List α} (h : Own c E v r l) : v.oneCell' = true := by
  rcases h.2 with ⟨a, rfl, _⟩ | ⟨g, cap, cur, rfl, _⟩ <;> rfl

section
variable {P : Program} {K : Value → World → Prop} {F : Fm} {o : Oper} {c : Cx} {w : World}

/-- A hole is filled for good: its slice is public. -/
theorem hole_fill {α γ : Type} {r : Rep α} {s : Rep γ} {off : Nat} {get : α → List γ} {set : α → List γ → α} {cs : List Value} {d : α × Value} {l : List γ} (hs : Sub r off (rSlice s) get set) (h : (rHole r off).is c cs d) (hv : (rSlice s).val c d.2 l) : r.is c cs (set d.1 l) := by
  have h1 := hs.set_is h.2.2 hv.cells
  have hl := (List.getElem?_eq_some_iff.1 h.1).1
  have hc : d.2.cells.toList = [d.2] := by
    obtain ⟨a, cap, e, _⟩ := slice_val.1 hv
    rw [e]; rfl
  rw [hc, show (rSlice s).n = 1 from rfl, splice1 (by simpa using hl), List.set_set] at h1
  have e : cs.set off d.2 = cs := by
    apply List.ext_getElem?
    intro j
    by_cases e : j = off
    · subst e; rw [List.getElem?_set_self hl, h.1]
    · rw [List.getElem?_set_ne (fun h => e h.symm)]
  rwa [e] at h1
theorem Var.close {α γ : Type} {r : Rep α} {s : Rep γ} {b off : Nat} {E : TypeId} {get : α → List γ} {set : α → List γ → α} {d : α} {v : Value} {l : List γ} (h : Var c b (rHole r off) (d, v)) (ho : Own c E v s l) (hne : blk v ≠ some b) (hs : Sub r off (rSlice s) get set) : Var (c.dropv v) b r (set d l) := by
  obtain ⟨h1, T, cs, h2, h3⟩ := Cx.dropv_var h hne
  exact ⟨h1, T, cs, h2, hole_fill hs h3 ho.val⟩

/-- A slice of one's own is put into a field: the field becomes a hole. -/
theorem y_store_hole {α γ : Type} {r : Rep α} {s : Rep γ} {T E : TypeId} {x y : Operand} {b off : Nat} {get : α → List γ} {set : α → List γ → α} {d : α} {v : Value} {l : List γ} (hop : o.op = .store T x y) (hT : TyOk P T (rSlice s)) (hv : Var c b r d) (hs : Sub r off (rSlice s) get set)
    (hx : ev F x = .pointer (some ⟨b, off, none⟩)) (hy : ev F y = v) (ho : Own c E v s l) (h : ∀ c', c.mut b c' → Var c' b (rHole r off) (set d [], v) → K undef c'.w) : Yields P K (run P F o c.w) := by
  subst hy
  have hcl := own_cell ho
  have hcs : (ev F y).cells.toList = [ev F y] := by
    rcases ho.2 with ⟨a, e, _⟩ | ⟨g, cap, cur, e, _⟩ <;> rw [e] <;> rfl
  obtain ⟨hb, U, cs, hh, hi⟩ := hv
  have hl := r.len hi
  have hbd := hs.bound
  have hbd1 : off + 1 ≤ r.n := hbd
  have hnew := hs.set_is hi (nil_val (r := s) (c := c)).cells
  have hcell : ∀ u ∈ [ev F y], u.oneCell' = true := by simpa using hcl
  have hst := run_storeCells_at P b off U [ev F y] 0 cs c.w hh (by simp at hl ⊢; omega) hcell
  simp only [Nat.add_zero] at hst
  have hlc : off < cs.toList.length := by rw [hl]; omega
  have hcx : (cs.toList.take off ++ [ev F y] ++ cs.toList.drop (off + [ev F y].length)) = cs.toList.set off (ev F y) := splice1 hlc
  rw [hcx] at hst
  let c' : Cx := { X := c.X, w := c.w.setRow b (cs.toList.set off (ev F y)).toArray, ok := fun k hk => (by simpa using c.ok k hk) }
  have hmut : c.mut b c' := ⟨rfl, rfl, rfl, rfl, by simp [c'], fun k hk => setRow_other _ _ _ _ hk⟩
  refine ys (w' := c'.w) ?_ (h c' hmut ⟨hb, U, _, setRow_heap c.w b cs _ U _ hh, ?_, hcl, ?_⟩)
  · have hsz : (ev F y).cells.size = 1 := by rw [← Array.length_toList, hcs]; rfl
    have h1 := hT.size c.w
    have h2 : (rSlice s).n = 1 := rfl
    simp only [run, execOp, hop, Instr.storeAt, hx, Instr.sureAddr, Sem.run_bind, Sem.run_pure, Result.andThen_ok, storeVar, h1, h2, hsz, ne_eq, not_true_eq_false, if_false, hcs, hst, c']
  · show (cs.toList.set off (ev F y)).toArray.toList[off]? = some (ev F y)
    rw [List.toList_toArray, List.getElem?_set_self hlc]
  · have hmono := r.mono hnew (hmut.pub hb)
    rw [show (nilS : Value).cells.toList = [nilS] from rfl, show (rSlice s).n = 1 from rfl, splice1 hlc] at hmono
    simpa using hmono

/-- A whole variable is overwritten, with what reads by another rule. -/
theorem y_store_whole {α β : Type} {r : Rep α} {s : Rep β} {T : TypeId} {x y : Operand} {b : Nat} {d : α} {e : β} (hop : o.op = .store T x y) (hT : TyOk P T s) (hv : Var c b r d) (hn : s.n = r.n)
    (hx : ev F x = .pointer (some ⟨b, 0, none⟩)) (hy : s.val c (ev F y) e) (h : ∀ c', c.mut b c' → Var c' b s e → K undef c'.w) : Yields P K (run P F o c.w) := by
  obtain ⟨hb, U, cs, hh, hi⟩ := hv
  have hl := r.len hi
  have hyc := hy.cells
  have hlx := s.len hyc
  have hst := run_storeCells_at P b 0 U (ev F y).cells.toList 0 cs c.w hh (by simp at hl hlx ⊢; omega) (s.cell hyc)
  simp only [Nat.add_zero, List.take_zero, List.nil_append, Nat.zero_add] at hst
  have hdrop : cs.toList.drop (ev F y).cells.toList.length = [] := List.drop_eq_nil_of_le (by rw [hl, hlx, hn]; exact Nat.le_refl _)
  rw [hdrop, List.append_nil] at hst
  let c' : Cx := { X := c.X, w := c.w.setRow b (ev F y).cells.toList.toArray, ok := fun k hk => (by simpa using c.ok k hk) }
  have hmut : c.mut b c' := ⟨rfl, rfl, rfl, rfl, by simp [c'], fun k hk => setRow_other _ _ _ _ hk⟩
  refine ys (w' := c'.w) ?_ (h c' hmut ⟨hb, U, _, setRow_heap c.w b cs _ U _ hh, ?_⟩)
  · have hsz : (ev F y).cells.size = s.n := by rw [← hlx]; simp
    simp only [run, execOp, hop, Instr.storeAt, hx, Instr.sureAddr, Sem.run_bind, Sem.run_pure, Result.andThen_ok, storeVar, hT.size, hsz, ne_eq, not_true_eq_false, if_false, hst, c']
  · simpa using s.mono hyc (hmut.pub hb)

/-! ## Results that are one's own -/
/-- What a call hands back, with what it owns. -/
def PostO (c0 : Cx) (Q : Cx → Value → Prop) : Ending → World → Prop := fun e w' => ∃ v c', e = .returned v ∧ c'.w = w' ∧ c0.le c' ∧ Q c' v
/-- The context behind a call that hands out some slices. -/
def Cx.outs (c0 c : Cx) (vs : List Value) (h : ∀ k, k ∈ c0.X ++ vs.filterMap blk → k < c.w.heap.size) : Cx := { X := c0.X ++ vs.filterMap blk, w := c.w, ok := h }
theorem Own.outs {α : Type} {c c' : Cx} {E : TypeId} {v : Value} {r : Rep α} {l : List α} (h : Own c E v r l) (hw : c'.w = c.w) (hp : c.pub c') (hx : ∀ g, blk v = some g → g ∈ c'.X) : Own c' E v r l := by
  refine ⟨h.1, ?_⟩
  rcases h.2 with h' | ⟨g', cap, cur, rfl, h1, h2, h3, h4, h5, h6⟩
  · exact .inl h'
  · exact .inr ⟨g', cap, cur, rfl, hx g' rfl, hw ▸ h2, h3, h4, h5, arrIs_mono hp h6⟩
theorem y_callO {f : FuncId} {l : List Operand} {ats : Array TypeId} {Q : Cx → Value → Prop} (ho : o.op = .call { callee := .value (.func f), args := l.toArray, argTypes := ats })
    (hc : ∀ as w, (callFunc f as).run P w = .ok (.enter f as) w) (hf : Calls P f (l.map (ev F)).toArray c.w (PostO c Q)) (h : ∀ v c', c.le c' → Q c' v → K v c'.w) : Yields P K (run P F o c.w) := by
  have hr : run P F o c.w = .ok (.enter f (l.map (ev F)).toArray) c.w := by
    simp [run, execOp, ho, resolve, ev, Deferred.ofValue, invoke, hc]
  rw [hr]
  exact hf.mono fun e w' ⟨v, c', he, hw, hle, hp⟩ => ⟨v, he, hw ▸ h v c' hle hp⟩
theorem enterQ {f : FuncId} {fn : Func} {code : Code} {args : Array Value} {c0 : Cx} {Q : Cx → Value → Prop} {n : Nat} (hf : P.funcs[f]? = some fn) (hb : fn.body = some code) (hn : args.size ≤ n) (hnt : fn.ntmps = n)
    (h : ∀ F a, Fr n F a → (∀ t v, args[t]? = some v → F t = v) → code.wp P (bodyPost P fn (PostO c0 Q)) a c0.w) : Calls P f args c0.w (PostO c0 Q) := by
  have hh : ∀ F a, Fr n F a → (∀ t, F t = (args ++ Array.replicate (n - args.size) undef).getD t undef) → code.wp P (bodyPost P fn (PostO c0 Q)) a c0.w := fun F a hfr hF => h F a hfr fun t v hv => by
    rw [hF t]
    have hlt : t < args.size := (Array.getElem?_eq_some_iff.1 hv).1
    have he : args[t] = v := by simpa [Array.getElem?_eq_getElem hlt] using hv
    simp [Array.getD_eq_getD_getElem?, Array.getElem?_append, hlt, he]
  refine calls_of_wp hf hb (hh _ _ ⟨?_, rfl, fun t => rfl⟩ (fun t => by rw [hnt]))
  simp; omega

/-! ## Results in cells -/
def ResIs (P : Program) (F : Fm) (w : World) : ResultVar → Value → Prop
  | .tmp t, v => F t = v
  | .cell t T, v => ∃ a, F t = .pointer (some a) ∧ (loadVar T a).run P w = .ok v w
theorem res_tmp {t : Nat} : ResIs P F w (.tmp t) (F t) := rfl
theorem res_cell {α : Type} {r : Rep α} {t T b : Nat} {d : α} (hT : TyOk P T r) (hv : Var c b r d) (hx : F t = .pointer (some ⟨b, 0, none⟩)) : ∃ v, ResIs P F c.w (.cell t T) v ∧ r.val c v d := by
  obtain ⟨cs, h1, h2⟩ := var_part hv (Sub.self r)
  exact ⟨_, ⟨_, hx, run_loadVar_at hT h2 h1⟩, ⟨_, h2, rfl⟩⟩
section
variable {fn : Func} {n : Nat} {a : Act} {r1 r2 r3 r4 : ResultVar} {v1 v2 v3 v4 : Value}
def oneResult (tmps : Array Value) : ResultVar → Sem Value
  | .tmp t => pure (tmps.getD t undef)
  | .cell a t => do loadVar t (← asAddr (tmps.getD a undef))
theorem results_eq (fn : Func) (tmps : Array Value) : results fn tmps = (do
    let vs ← fn.results.mapM (oneResult tmps)
    pure (if h : vs.size = 1 then vs[0] else .tuple vs)) := by
  have e : oneResult tmps = (fun
    | .tmp t => pure (tmps.getD t undef)
    | .cell a t => do loadVar t (← asAddr (tmps.getD a undef))) := by funext r; cases r <;> rfl
  rw [e]; rfl
theorem resIs_run (hf : Fr n F a) {r : ResultVar} {v : Value} (h : ResIs P F w r v) : (oneResult a.tmps r).run P w = .ok v w := by
  cases r with
  | tmp t => simp only [oneResult, Sem.run_pure]; rw [hf.slot]; exact congrArg (Result.ok · w) h
  | cell t T =>
    obtain ⟨ad, h1, h2⟩ := h
    simp only [oneResult, hf.slot, h1, asAddr, Sem.run_bind, Sem.run_pure, Result.andThen_ok]
    exact h2
theorem resultsL1 (hf : Fr n F a) (hr : fn.results = #[r1]) (h1 : ResIs P F w r1 v1) : (results fn a.tmps).run P w = .ok v1 w := by
  have e1 := resIs_run hf h1
  simp only [results_eq, hr, Array.mapM_eq_mapM_toList, List.mapM_cons, List.mapM_nil, Sem.run_bind, map_eq_pure_bind, e1, Result.andThen_ok, Sem.run_pure]
  rfl
theorem resultsL2 (hf : Fr n F a) (hr : fn.results = #[r1, r2]) (h1 : ResIs P F w r1 v1) (h2 : ResIs P F w r2 v2) : (results fn a.tmps).run P w = .ok (.tuple #[v1, v2]) w := by
  have e1 := resIs_run hf h1
  have e2 := resIs_run hf h2
  simp only [results_eq, hr, Array.mapM_eq_mapM_toList, List.mapM_cons, List.mapM_nil, Sem.run_bind, map_eq_pure_bind, e1, e2, Result.andThen_ok, Sem.run_pure]
  rfl
theorem resultsL3 (hf : Fr n F a) (hr : fn.results = #[r1, r2, r3]) (h1 : ResIs P F w r1 v1) (h2 : ResIs P F w r2 v2) (h3 : ResIs P F w r3 v3) : (results fn a.tmps).run P w = .ok (.tuple #[v1, v2, v3]) w := by
  have e1 := resIs_run hf h1
  have e2 := resIs_run hf h2
  have e3 := resIs_run hf h3
  simp only [results_eq, hr, Array.mapM_eq_mapM_toList, List.mapM_cons, List.mapM_nil, Sem.run_bind, map_eq_pure_bind, e1, e2, e3, Result.andThen_ok, Sem.run_pure]
  rfl
theorem resultsL4 (hf : Fr n F a) (hr : fn.results = #[r1, r2, r3, r4]) (h1 : ResIs P F w r1 v1) (h2 : ResIs P F w r2 v2) (h3 : ResIs P F w r3 v3) (h4 : ResIs P F w r4 v4) : (results fn a.tmps).run P w = .ok (.tuple #[v1, v2, v3, v4]) w := by
  have e1 := resIs_run hf h1
  have e2 := resIs_run hf h2
  have e3 := resIs_run hf h3
  have e4 := resIs_run hf h4
  simp only [results_eq, hr, Array.mapM_eq_mapM_toList, List.mapM_cons, List.mapM_nil, Sem.run_bind, map_eq_pure_bind, e1, e2, e3, e4, Result.andThen_ok, Sem.run_pure]
  rfl
end

theorem blk_nil : blk nilS = none := rfl

/-! ## Nil -/
/-- What a test for nil yields. -/
def NilT {α : Type} (l : List α) (want : Bool) (v : Value) : Prop := ∃ b, v = .bool b ∧ (b = want → l = [])
def Ph.nilt {α : Type} (l : List α) (want : Bool) : Ph := ⟨fun v _ => NilT l want v, fun h _ => h⟩
theorem y_nil_eql {α : Type} {r : Rep α} {T E U : TypeId} {x y : Operand} {l : List α} (ho : o.op = .binOp .eql T x y U) (hT : P.underlying T = some (.slice E)) (hx : (rSlice r).val c (ev F x) l) (hy : ev F y = nilS) (h : ∀ v, NilT l true v → K v c.w) : Yields P K (run P F o c.w) := by
  obtain ⟨a, cap, e, _, hs⟩ := slice_val.1 hx
  have hru : (underlying T).run P c.w = .ok (.slice E) c.w := by simp [underlying, hT]
  have hq0 : ∀ n, (Op.equalIn (n + 1) T (.slice a l.length cap) (.slice none 0 0)).run P c.w = .ok (decide (a = none)) c.w := by
    intro n
    cases a <;> simp [Op.equalIn, hru]
  have hq := hq0 9999
  refine yv (v := .bool (decide (a = none))) (w' := c.w) ?_ (h _ ⟨_, rfl, fun hb => ?_⟩)
  · have hq' : (Op.equal T (.slice a l.length cap) (.slice none 0 0)).run P c.w = .ok (decide (a = none)) c.w := hq
    simp [run, execOp, ho, e, hy, eqGuard, binOp, hq']
  · have : a = none := by simpa using hb
    subst this
    rcases hs with h | ⟨b, o, cs, e, _⟩
    · exact h
    · cases e
theorem y_nil_neq {α : Type} {r : Rep α} {T E U : TypeId} {x y : Operand} {l : List α} (ho : o.op = .binOp .neq T x y U) (hT : P.underlying T = some (.slice E)) (hx : (rSlice r).val c (ev F x) l) (hy : ev F y = nilS) (h : ∀ v, NilT l false v → K v c.w) : Yields P K (run P F o c.w) := by
  obtain ⟨a, cap, e, _, hs⟩ := slice_val.1 hx
  have hru : (underlying T).run P c.w = .ok (.slice E) c.w := by simp [underlying, hT]
  have hq0 : ∀ n, (Op.equalIn (n + 1) T (.slice a l.length cap) (.slice none 0 0)).run P c.w = .ok (decide (a = none)) c.w := by
    intro n
    cases a <;> simp [Op.equalIn, hru]
  have hq := hq0 9999
  refine yv (v := .bool (!decide (a = none))) (w' := c.w) ?_ (h _ ⟨_, rfl, fun hb => ?_⟩)
  · have hq' : (Op.equal T (.slice a l.length cap) (.slice none 0 0)).run P c.w = .ok (decide (a = none)) c.w := hq
    simp [run, execOp, ho, e, hy, eqGuard, binOp, hq']
  · have : a = none := by simpa using hb
    subst this
    rcases hs with h | ⟨b, o, cs, e, _⟩
    · exact h
    · cases e
theorem wp_nil {α : Type} {x y : Code} {Q : Exit → Act → World → Prop} {n : Nat} {a : Act} {t : Operand} {l : List α} {want : Bool} (hf : Fr n F a) (hs : NilT l want (ev F t)) (h1 : (true = want → l = []) → x.wp P Q a w) (h2 : (false = want → l = []) → y.wp P Q a w) : (Code.cond t x y).wp P Q a w := by
  obtain ⟨b, e, h⟩ := hs
  cases b
  · exact wp_if (b := false) hf e (fun h => by cases h) (fun _ => h2 h)
  · exact wp_if (b := true) hf e (fun _ => h1 h) (fun h => by cases h)

/-! ## Array literals -/
theorem y_buildArr {α : Type} {r : Rep α} {T E : TypeId} {m : Nat} {parts : List (Nat × Operand)} {d d' : List α} {z : Value} (ho : o.op = .build T parts.toArray) (hT : P.underlying T = some (.array m E)) (hE : TyOk P E r) (hz : ∀ w, (zeroValue T).run P w = .ok z w) (hzd : (rArr r m).val c z d)
    (hf : FillsTo (fun i => some (i * r.n, r.n)) (rArr r m) c (parts.map fun p => (p.1, ev F p.2)) d d') (h : ∀ v, (rArr r m).val c v d' → K v c.w) : Yields P K (run P F o c.w) := by
  obtain ⟨cs', h1, h2⟩ := hf z.cells hzd.cells
  refine yv (v := .agg cs') (w' := c.w) ?_ (h _ ⟨cs'.toList, h2, by simp [mkV, rArr]⟩)
  have hru : (underlying T).run P c.w = .ok (.array m E) c.w := by simp [underlying, hT]
  have e : (parts.toArray.map fun (p : Nat × Operand) => (p.1, ev F p.2)).toList = parts.map fun p => (p.1, ev F p.2) := by simp
  simp only [run, execOp, ho, Instr.build, Sem.run_bind, hz, Result.andThen_ok, hru, hE.size, e, h1, Sem.run_pure]
end
end Go.Proofs.Ytcbdmoihobdjaaa
