import Derived.Test.YtcbdmoihobdjaaaV6
namespace Go.Proofs.Ytcbdmoihobdjaaa
open Go.RowKit
section
variable {E : Env} {c0 c : Cx} {ρ : Ro} {S : St} {F : Fm} {nid : Nat}
theorem bool_sound (hE : EnvOk E) {o : Oper} {op : BinOp} {U W : TypeId} {x y : Operand} {a b : Bool} (hop : o.op = .binOp op U x y W) (hU : (E.tb U).ok = true) {cnd : Prop} {v : V} {e : Eff}
  (hx : ev F x = .bool a) (hy : ev F y = .bool b) (hr : boolOp (E.tb U) op a b = some (cnd, v, e)) : Yields E.P (OutP c0 c ρ S nid v e) (run E.P F o c.w) := by
 unfold boolOp at hr
 split at hr
 ·obtain ⟨h1, h2⟩ := ite_some hr
  cases h2
  exact y_beql hop (kind_bool hE hU h1) hx hy bool_out
 ·obtain ⟨h1, h2⟩ := ite_some hr
  cases h2
  exact y_bneq hop (kind_bool hE hU h1) hx hy bool_out
 ·cases hr
theorem str_append (a b : List UInt8) : (⟨a.toArray⟩ : ByteArray) ++ ⟨b.toArray⟩ = ⟨(a ++ b).toArray⟩ := by
 apply ByteArray.ext
 simp
theorem str_sound {o : Oper} {op : BinOp} {U W : TypeId} {x y : Operand} {a b : List UInt8} (hop : o.op = .binOp op U x y W) {cnd : Prop} {v : V} {e : Eff}
  (hx : ev F x = .string ⟨a.toArray⟩) (hy : ev F y = .string ⟨b.toArray⟩) (hr : strOp op a b = some (cnd, v, e)) (hc : cnd) : Yields E.P (OutP c0 c ρ S nid v e) (run E.P F o c.w) := by
 have hg : ∀ u, (eqGuard op U x y (.string ⟨a.toArray⟩) (.string ⟨b.toArray⟩)).run E.P u = .ok () u := fun u => by cases op <;> simp [eqGuard]
 cases op
 case add =>
  cases hr
  refine yv (v := .string ⟨(a ++ b).toArray⟩) (w' := c.w) ?_ (outP_none ⟨rfl, by simpa using hc⟩)
  have h1 : ¬ (((⟨a.toArray⟩ : ByteArray).size + (⟨b.toArray⟩ : ByteArray).size : Nat) : Int) > IntKind.i64.max := by
   have e1 : (⟨a.toArray⟩ : ByteArray).size = a.length := rfl
   have e2 : (⟨b.toArray⟩ : ByteArray).size = b.length := rfl
   rw [e1, e2]
   unfold LEN at hc
   simp [IntKind.max, IntKind.bits, IntKind.signed]
   omega
  have hbin : (binOp .add U (.string ⟨a.toArray⟩) (.string ⟨b.toArray⟩)).run E.P c.w = .ok (.string ⟨(a ++ b).toArray⟩) c.w := by
   simp only [binOp, Op.stringOp, if_neg h1, str_append, Sem.run_pure]
  simp only [run, execOp, hop, hx, hy, Sem.run_bind, hg, Result.andThen_ok, hbin, Sem.run_pure]
 all_goals cases hr
 all_goals
  refine yv (v := .bool _) (w' := c.w) ?_ bool_out
  simp only [run, execOp, hop, hx, hy, Sem.run_bind, hg, Result.andThen_ok, binOp, Op.stringOp, toList_mk, Sem.run_pure, ltS]
theorem nil_sound (hE : EnvOk E) {o : Oper} {op : BinOp} {U W : TypeId} {x y : Operand} {z : Option Bool} {n : Nat} {g : Bool} {l : List V} (hop : o.op = .binOp op U x y W) (hU : (E.tb U).ok = true) (hk : (E.tb U).k = 3) {cnd : Prop} {v : V} {e : Eff}
  (hx : rd ρ c (.sl z n g l) (ev F x)) (hy : ev F y = .slice none 0 0) (hr : nilOp op (nilB z l) = some (cnd, v, e)) : Yields E.P (OutP c0 c ρ S nid v e) (run E.P F o c.w) := by
 obtain ⟨hu, hel⟩ := kind_slice hE hU hk
 obtain ⟨a, cap, he, hl, hz, hs⟩ := rd_sl.1 hx
 have hru : (underlying U).run E.P c.w = .ok (.slice (E.tb U).el) c.w := by simp [underlying, hu]
 have hq0 : ∀ n, (Op.equalIn (n + 1) U (.slice a l.length cap) (.slice none 0 0)).run E.P c.w = .ok (decide (a = none)) c.w := by
  intro n
  cases a <;> simp [Op.equalIn, hru]
 have hq : (Op.equal U (.slice a l.length cap) (.slice none 0 0)).run E.P c.w = .ok (decide (a = none)) c.w := hq0 9999
 cases hb : nilB z l with
 | none => rw [hb] at hr; cases hr
 | some b =>
  rw [hb] at hr
  have hab : decide (a = none) = b := by
   unfold nilB at hb
   split at hb
   ·rename_i b' 
    cases hb
    cases b <;> simp_all [zOk]
   ·split at hb
    ·cases hb
    ·cases hb
     rcases hs with h | ⟨b, o, cs, e, _⟩
     ·cases h
     ·simp [e]
  cases op <;> simp only [nilOp, rOk] at hr <;> cases hr
  ·refine yv (v := .bool b) (w' := c.w) ?_ bool_out
   simp [run, execOp, hop, he, hy, eqGuard, binOp, hq, hab]
  ·refine yv (v := .bool (!b)) (w' := c.w) ?_ bool_out
   simp [run, execOp, hop, he, hy, eqGuard, binOp, hq, hab]
theorem un_sound (h : Sim E c0 c ρ S F) {o : Oper} {op : UnOp} {U : TypeId} {x : Operand} (hop : o.op = .unOp op U x) {cnd : Prop} {v : V} {e : Eff}
  (hr : unF op (S.ev E.gv x) = some (cnd, v, e)) : Yields E.P (OutP c0 c ρ S nid v e) (run E.P F o c.w) := by
 unfold unF at hr
 split at hr
 ·rename_i b hx
  split at hr
  ·cases hr; exact y_not hop (ev_rd h hx) bool_out
  ·cases hr
 ·rename_i k a hx
  split at hr
  ·cases hr; exact y_neg hop (ev_rd h hx).1 (int_out (rng_negI _ _))
  ·cases hr; exact y_compl hop (ev_rd h hx).1 (int_out (rng_notI _ _))
  ·cases hr
 ·cases hr
theorem pick_sound (h : Sim E c0 c ρ S F) {o : Oper} {T : TypeId} {x y z : Operand} (hop : o.op = .pick x y z) {cnd : Prop} {v : V} {e : Eff}
  (hr : pickF (S.ev E.gv x) (S.evT E T y) (S.evT E T z) = some (cnd, v, e)) : Yields E.P (OutP c0 c ρ S nid v e) (run E.P F o c.w) := by
 unfold pickF at hr
 split at hr
 ·rename_i a hx hy
  cases hr
  exact y_pick (b := true) hop (ev_rd h hx) (outP_none (evT_rd h hy))
 ·rename_i a hx hz
  cases hr
  exact y_pick (b := false) hop (ev_rd h hx) (outP_none (evT_rd h hz))
 ·cases hr
theorem len_sound (hE : EnvOk E) (h : Sim E c0 c ρ S F) {o : Oper} {U : TypeId} {x : Operand} (hop : o.op = .call { callee := .builtin .len, args := #[x], argTypes := #[U] }) (hU : (E.tb U).ok = true) {cnd : Prop} {v : V} {e : Eff}
  (hr : lenF S.H (E.tb U) (S.ev E.gv x) = some (cnd, v, e)) : Yields E.P (OutP c0 c ρ S nid v e) (run E.P F o c.w) := by
 unfold lenF at hr
 split at hr
 ·rename_i z n g l hx
  obtain ⟨h1, hr2⟩ := ite_some hr
  cases hr2
  have hs := rd_slice (ev_rd h hx)
  exact y_len_slice (ats := #[]) hop (kind_slice hE hU h1).1 hs (int_out (rng_len (slice_rng hs)))
 ·rename_i l hx
  obtain ⟨h1, hr2⟩ := ite_some hr
  cases hr2
  have e := ev_rd h hx
  exact y_len_str hop (kind_str hE hU h1) e.1 (int_out (rng_len e.2))
 ·rename_i id hx
  obtain ⟨h1, hr2⟩ := ite_some hr
  have hp := ev_rd h hx
  simp only [rd] at hp
  unfold lenO at hr2
  split at hr2
  ·rename_i E' n g z l hH
   cases hr2
   obtain ⟨v', e1, hown, _, _, a, cap, es, _⟩ := h.heap _ _ hH
   rw [hp.1] at e1; cases e1
   refine yv (v := .int .i64 l.length) (w' := c.w) ?_ (int_out (rng_len hown.len))
   simp [run, execOp, hop, resolve, invoke, builtin, Builtin.len_, underlying, (kind_slice hE hU h1).1, es, goInt]
  ·rename_i E' n g z l hH
   cases hr2
   obtain ⟨v', e1, hown, _, _, a, cap, es, _⟩ := h.heap _ _ hH
   rw [hp.1] at e1; cases e1
   refine yv (v := .int .i64 l.length) (w' := c.w) ?_ (int_out (rng_len hown.len))
   simp [run, execOp, hop, resolve, invoke, builtin, Builtin.len_, underlying, (kind_slice hE hU h1).1, es, goInt]
  ·rename_i n g z l hH
   cases hr2
   obtain ⟨v', e1, hsl⟩ := h.heap _ _ hH
   rw [hp.1] at e1; cases e1
   have hs := rd_slice hsl
   exact y_len_slice (ats := #[]) hop (kind_slice hE hU h1).1 hs (int_out (rng_len (slice_rng hs)))
  ·cases hr2
 ·rename_i id n i j hx
  obtain ⟨h1, hr2⟩ := ite_some hr
  have hp := ev_rd h hx
  simp only [rd] at hp
  obtain ⟨u, hu, hsub⟩ := hp
  unfold lenS at hr2
  split at hr2
  ·rename_i E' n' g z l hH
   cases hr2
   obtain ⟨v', e2, hown, _, _, a', cap', es, _⟩ := h.heap _ _ hH
   rw [hu] at e2; cases e2
   obtain ⟨a, len, cap, e1, hij, hjl, hev⟩ := sub_slice hsub es
   rw [es] at e1; cases e1
   have hlen := hown.len
   refine yv (v := .int .i64 ((j - i : Nat) : Int)) (w' := c.w) ?_ (int_out (rng_len (by omega)))
   simp [run, execOp, hop, resolve, invoke, builtin, Builtin.len_, underlying, (kind_slice hE hU h1).1, hev, goInt]
  ·cases hr2
 ·cases hr
theorem foldO_sound (h : Sim E c0 c ρ S F) {f2 : Value → Value → Sem Value} {op : Int → Int → Int} (hf : ∀ k a b, f2 (.int k a) (.int k b) = pure (.int k (op a b))) (hr : ∀ {k a b}, Rng k a → Rng k b → Rng k (op a b)) {cnd : Prop} {v : V} {e : Eff} :
  ∀ (l : List Operand) (k : IntKind) (a : Int), Rng k a → foldO E.gv S op (some (.int k a)) l = some (cnd, v, e) → ∃ b, rOk (V.int k b) = some (cnd, v, e) ∧ Rng k b ∧ (l.map (ev F)).foldlM f2 (.int k a) = pure (.int k b)
 | [], k, a, ha, hd => ⟨a, hd, ha, rfl⟩
 | x :: l, k, a, ha, hd => by
  unfold foldO at hd
  split at hd
  ·rename_i k' b hx
   obtain ⟨rfl, h2⟩ := ite_some hd
   have hb : rd ρ c (.int k b) (ev F x) := ev_rd h hx
   obtain ⟨b', h3, h4, h5⟩ := foldO_sound h hf hr l k (op a b) (hr ha hb.2) h2
   refine ⟨b', h3, h4, ?_⟩
   rw [List.map_cons, List.foldlM_cons, show ev F x = .int k b from hb.1, hf]
   exact h5
  ·cases hd
theorem minN_sound (h : Sim E c0 c ρ S F) {o : Oper} {x : Operand} {l : List Operand} {ats : Array TypeId} (hop : o.op = .call { callee := .builtin .min, args := ⟨x :: l⟩, argTypes := ats }) {cnd : Prop} {v : V} {e : Eff}
  (hr : foldO E.gv S minI (S.ev E.gv x) l = some (cnd, v, e)) : Yields E.P (OutP c0 c ρ S nid v e) (run E.P F o c.w) := by
 cases hx : S.ev E.gv x with
 | none => rw [hx] at hr; cases l <;> cases hr
 | some d =>
  rw [hx] at hr
  cases d <;> try (cases l <;> cases hr <;> done)
  rename_i k a
  have hd := ev_rd h hx
  obtain ⟨b, h1, h2, h3⟩ := foldO_sound h (f2 := Builtin.min2) (op := minI) (fun k a b => rfl) rng_minI l k a hd.2 hr
  cases h1
  refine yv (v := .int k b) (w' := c.w) ?_ (int_out h2)
  simp [run, execOp, hop, resolve, invoke, builtin, Builtin.min_, hd.1, h3]
theorem maxN_sound (h : Sim E c0 c ρ S F) {o : Oper} {x : Operand} {l : List Operand} {ats : Array TypeId} (hop : o.op = .call { callee := .builtin .max, args := ⟨x :: l⟩, argTypes := ats }) {cnd : Prop} {v : V} {e : Eff}
  (hr : foldO E.gv S maxI (S.ev E.gv x) l = some (cnd, v, e)) : Yields E.P (OutP c0 c ρ S nid v e) (run E.P F o c.w) := by
 cases hx : S.ev E.gv x with
 | none => rw [hx] at hr; cases l <;> cases hr
 | some d =>
  rw [hx] at hr
  cases d <;> try (cases l <;> cases hr <;> done)
  rename_i k a
  have hd := ev_rd h hx
  obtain ⟨b, h1, h2, h3⟩ := foldO_sound h (f2 := Builtin.max2) (op := maxI) (fun k a b => by simp [Builtin.max2, maxI]) rng_maxI l k a hd.2 hr
  cases h1
  refine yv (v := .int k b) (w' := c.w) ?_ (int_out h2)
  simp [run, execOp, hop, resolve, invoke, builtin, Builtin.max_, hd.1, h3]
theorem min_sound (h : Sim E c0 c ρ S F) {o : Oper} {x y : Operand} {ats : Array TypeId} (hop : o.op = .call { callee := .builtin .min, args := #[x, y], argTypes := ats }) {cnd : Prop} {v : V} {e : Eff}
  (hr : minF (S.ev E.gv x) (S.ev E.gv y) = some (cnd, v, e)) : Yields E.P (OutP c0 c ρ S nid v e) (run E.P F o c.w) := by
 unfold minF at hr
 split at hr
 ·rename_i k a k' b hx hy
  obtain ⟨rfl, hr2⟩ := ite_some hr
  cases hr2
  exact y_min hop (ev_rd h hx).1 (ev_rd h hy).1 (int_out (rng_minI (ev_rd h hx).2 (ev_rd h hy).2))
 ·cases hr
theorem max_sound (h : Sim E c0 c ρ S F) {o : Oper} {x y : Operand} {ats : Array TypeId} (hop : o.op = .call { callee := .builtin .max, args := #[x, y], argTypes := ats }) {cnd : Prop} {v : V} {e : Eff}
  (hr : maxF (S.ev E.gv x) (S.ev E.gv y) = some (cnd, v, e)) : Yields E.P (OutP c0 c ρ S nid v e) (run E.P F o c.w) := by
 unfold maxF at hr
 split at hr
 ·rename_i k a k' b hx hy
  obtain ⟨rfl, hr2⟩ := ite_some hr
  cases hr2
  exact y_max hop (ev_rd h hx).1 (ev_rd h hy).1 (int_out (rng_maxI (ev_rd h hx).2 (ev_rd h hy).2))
 ·cases hr
theorem rdT_get {l : List V} {cs : List Value} (h : rdT ρ c l cs) : ∀ {k : Nat} {v : V}, l[k]? = some v → ∃ u, cs[k]? = some u ∧ rd ρ c v u := by
 induction l generalizing cs with
 | nil => intro k v hk; simp at hk
 | cons d l ih =>
  intro k v hk
  simp only [rdT] at h
  obtain ⟨u, c2, rfl, h1, h2⟩ := h
  cases k with
  | zero => simp at hk; subst hk; exact ⟨u, rfl, h1⟩
  | succ k => exact ih h2 (by simpa using hk)
theorem ext_sound (h : Sim E c0 c ρ S F) {o : Oper} {x : Operand} {k : Nat} (hop : o.op = .extract x k) {cnd : Prop} {v : V} {e : Eff}
  (hr : extF k (S.ev E.gv x) = some (cnd, v, e)) : Yields E.P (OutP c0 c ρ S nid v e) (run E.P F o c.w) := by
 unfold extF at hr
 split at hr
 ·rename_i l hx
  split at hr
  ·rename_i d hd
   cases hr
   have hp := ev_rd h hx
   simp only [rd] at hp
   obtain ⟨cs, he, hl⟩ := hp
   obtain ⟨u, hu, hu'⟩ := rdT_get hl hd
   exact y_extract hop he (by simpa using hu) (outP_none hu')
  ·cases hr
 ·cases hr
theorem nilChk_sound (h : Sim E c0 c ρ S F) {o : Oper} {x : Operand} (hop : o.op = .nilCheck x) {cnd : Prop} {v : V} {e : Eff}
  (hr : nilChk (S.ev E.gv x) = some (cnd, v, e)) : Yields E.P (OutP c0 c ρ S nid v e) (run E.P F o c.w) := by
 unfold nilChk at hr
 split at hr
 ·rename_i id off hx
  cases hr
  have hp := ev_rd h hx
  have hp' := hp
  simp only [rd] at hp'
  obtain ⟨b, _, he⟩ := hp'
  rw [he] at hp
  exact y_nilCheck hop he (outP_none hp)
 ·rename_i id m i off hx
  cases hr
  have hp := ev_rd h hx
  have hp' := hp
  simp only [rd] at hp'
  obtain ⟨u, _, g, len, cap, _, he⟩ := hp'
  rw [he] at hp
  exact y_nilCheck hop he (outP_none hp)
 ·rename_i n g d hx
  cases hr
  have hp := ev_rd h hx
  obtain ⟨b, o, cs, he, _⟩ := rd_pp.1 hp
  rw [he] at hp
  exact y_nilCheck hop he (outP_none hp)
 ·rename_i f cap hx
  cases hr
  have hp := ev_rd h hx
  have hp' := hp
  simp only [rd] at hp'
  obtain ⟨cs, he, _⟩ := hp'
  rw [he] at hp
  exact yv (v := .func (.func f) #[] cs.toArray) (w' := c.w) (by simp [run, execOp, hop, he]) (outP_none hp)
 ·cases hr
end
end Go.Proofs.Ytcbdmoihobdjaaa
