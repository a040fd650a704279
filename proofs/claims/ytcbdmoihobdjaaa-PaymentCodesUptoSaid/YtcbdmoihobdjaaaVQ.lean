import Derived.Test.YtcbdmoihobdjaaaV7
namespace Go.Proofs.Ytcbdmoihobdjaaa
open Go.RowKit
section
variable {E : Env} {c0 c : Cx} {ρ : Ro} {S : St} {F : Fm} {nid : Nat}
theorem eqC_len : ∀ {ks : List Nat} {l m : List V} {r : Bool}, eqC ks l m = some r → l.length = ks.length ∧ m.length = ks.length
 | [], [], [], _, _ => ⟨rfl, rfl⟩
 | k :: ks, a :: l, b :: m, r, h => by
  have key : ∀ q, eqC ks l m = some q → (a :: l).length = (k :: ks).length ∧ (b :: m).length = (k :: ks).length := fun q hq => by
   have := eqC_len hq
   simpa using this
  unfold eqC at h
  split at h
  ·rename_i e; cases e
  ·rename_i e1 e2 e3
   cases e1; cases e2; cases e3
   obtain ⟨hk, h⟩ := ite_some h
   simp only [Option.map_eq_some_iff] at h
   obtain ⟨q, hq, _⟩ := h
   exact key q hq
  ·rename_i e1 e2 e3
   cases e1; cases e2; cases e3
   simp only [Option.map_eq_some_iff] at h
   obtain ⟨q, hq, _⟩ := h
   exact key q hq
  ·rename_i e1 e2 e3
   cases e1; cases e2; cases e3
   simp only [Option.map_eq_some_iff] at h
   obtain ⟨q, hq, _⟩ := h
   exact key q hq
  ·cases h
 | [], _ :: _, _, _, h => by simp [eqC] at h
 | [], [], _ :: _, _, h => by simp [eqC] at h
 | _ :: _, [], _, _, h => by unfold eqC at h; split at h <;> simp_all
 | _ :: _, _ :: _, [], _, h => by unfold eqC at h; split at h <;> simp_all
theorem eqC_append : ∀ {k1 k2 : List Nat} {l1 m1 l2 m2 : List V} {r : Bool}, l1.length = k1.length → m1.length = k1.length → eqC (k1 ++ k2) (l1 ++ l2) (m1 ++ m2) = some r → ∃ r1 r2, eqC k1 l1 m1 = some r1 ∧ eqC k2 l2 m2 = some r2 ∧ r = (r1 && r2)
 | [], k2, [], [], l2, m2, r, _, _, h => ⟨true, r, rfl, h, by simp⟩
 | k :: k1, k2, a :: l1, b :: m1, l2, m2, r, hl, hm, h => by
  have hl' : l1.length = k1.length := by simpa using hl
  have hm' : m1.length = k1.length := by simpa using hm
  simp only [List.cons_append] at h
  unfold eqC at h
  split at h
  ·rename_i e; cases e
  ·rename_i e1 e2 e3
   cases e1; cases e2; cases e3
   obtain ⟨hk, h⟩ := ite_some h
   simp only [Option.map_eq_some_iff] at h
   obtain ⟨q, hq, rfl⟩ := h
   obtain ⟨r1, r2, e1, e2, rfl⟩ := eqC_append hl' hm' hq
   refine ⟨_, r2, ?_, e2, (Bool.and_assoc _ _ _).symm⟩
   simp [eqC, hk, e1]
  ·rename_i e1 e2 e3
   cases e1; cases e2; cases e3
   simp only [Option.map_eq_some_iff] at h
   obtain ⟨q, hq, rfl⟩ := h
   obtain ⟨r1, r2, e1, e2, rfl⟩ := eqC_append hl' hm' hq
   exact ⟨_, r2, by simp [eqC, e1], e2, (Bool.and_assoc _ _ _).symm⟩
  ·rename_i e1 e2 e3
   cases e1; cases e2; cases e3
   simp only [Option.map_eq_some_iff] at h
   obtain ⟨q, hq, rfl⟩ := h
   obtain ⟨r1, r2, e1, e2, rfl⟩ := eqC_append hl' hm' hq
   exact ⟨_, r2, by simp [eqC, e1], e2, (Bool.and_assoc _ _ _).symm⟩
  ·cases h
 | [], _, _ :: _, _, _, _, _, hl, _, _ => by simp at hl
 | [], _, [], _ :: _, _, _, _, _, hm, _ => by simp at hm
 | _ :: _, _, [], _, _, _, _, hl, _, _ => by simp at hl
 | _ :: _, _, _ :: _, [], _, _, _, _, hm, _ => by simp at hm
theorem eqC_part {k1 k2 : List Nat} {la lb : List V} {r : Bool} {n : Nat} (h : eqC (k1 ++ k2) la lb = some r) (hn : k1.length = n) : ∃ r1 r2, eqC k1 (la.take n) (lb.take n) = some r1 ∧ eqC k2 (la.drop n) (lb.drop n) = some r2 ∧ r = (r1 && r2) := by
 obtain ⟨h1, h2⟩ := eqC_len h
 simp only [List.length_append] at h1 h2
 refine eqC_append (l1 := la.take n) (m1 := lb.take n) (by simp; omega) (by simp; omega) ?_
 rwa [List.take_append_drop, List.take_append_drop]
theorem part_run {U : TypeId} {w : World} (hT : TOk E.P E.tb U) {cs : List Value} {off : Nat} (hlen : off + (E.tb U).n ≤ cs.length) :
  (Go.part U cs.toArray off).run E.P w = .ok (mkV (E.tb U).g ((cs.drop off).take (E.tb U).n)) w := by
 have hag := (hT.ty ro0).agg w
 have hsz := (hT.ty ro0).size w
 rw [rV_n hT.one] at hsz
 have hag' : (isAgg U).run E.P w = .ok (E.tb U).g w := hag
 have hpos := hT.pos
 cases hg : (E.tb U).g with
 | true =>
  rw [hg] at hag'
  have e : cs.toArray.extract off (off + (E.tb U).n) = ((cs.drop off).take (E.tb U).n).toArray := by
   simp [List.extract_eq_take_drop]
  simp only [Go.part, hag', Sem.run_bind, Result.andThen_ok, if_true, hsz, Sem.run_pure, mkV, e]
 | false =>
  rw [hg] at hag'
  have h1 := hT.one hg
  have hlt : off < cs.length := by omega
  have hgt : cs.toArray[off]? = some cs[off] := by simp [hlt]
  simp only [Go.part, hag', Sem.run_bind, Result.andThen_ok, Bool.false_eq_true, if_false, hgt, Sem.run_pure, mkV, h1]
  congr 1
  rw [List.drop_eq_getElem_cons hlt]; rfl
def EqRuns (E : Env) (d n : Nat) (T : TypeId) : Prop := (ckOf E.tb d T).length = (E.tb T).n ∧ ∀ (ρ : Ro) (c : Cx) (w : World) (la lb : List V) (cs ds : List Value) (r : Bool), rdC ρ c la cs → rdC ρ c lb ds → eqC (ckOf E.tb d T) la lb = some r →
 (Op.equalIn n T (mkV (E.tb T).g cs) (mkV (E.tb T).g ds)).run E.P w = .ok r w
theorem one_cell {la : List V} {cs : List Value} (h : rdC ρ c la cs) (hl : la.length = 1) : ∃ a u, la = [a] ∧ cs = [u] ∧ rd ρ c a u := by
 match la, hl with
 | [a], _ =>
  simp only [rdC] at h
  obtain ⟨u, c2, rfl, _, h1, rfl⟩ := h
  exact ⟨a, u, rfl, rfl, h1⟩
theorem eqFields_run (hE : EnvOk E) {d m : Nat} {N : Nat} : ∀ (l : List (Nat × TypeId)) (fl : List Field) (off : Nat), fieldsB E.tb N off l fl = true → (∀ p ∈ l, EqRuns E d m p.2) →
  off + (l.flatMap fun p => ckOf E.tb d p.2).length = N ∧ ∀ (w : World) (la lb : List V) (cs ds : List Value) (r : Bool), rdC ρ c la cs → rdC ρ c lb ds → la.length = N → lb.length = N → eqC (l.flatMap fun p => ckOf E.tb d p.2) (la.drop off) (lb.drop off) = some r → (Op.eqFields m cs.toArray ds.toArray fl).run E.P w = .ok r w
 | [], [], off, hf, _ => by
  simp only [fieldsB, decide_eq_true_eq] at hf
  refine ⟨by simpa using hf, fun w la lb cs ds r h1 h2 h3 h4 hr => ?_⟩
  rw [List.drop_eq_nil_of_le (by omega), List.drop_eq_nil_of_le (by omega)] at hr
  simp only [List.flatMap_nil, eqC, Option.some.injEq] at hr
  subst hr
  simp [Op.eqFields]
 | (o, U) :: l, f :: fl, off, hf, hq => by
  simp only [fieldsB, Bool.and_eq_true, decide_eq_true_eq] at hf
  obtain ⟨⟨⟨⟨⟨rfl, hfo⟩, hft⟩, hok⟩, hname⟩, hrest⟩ := hf
  have hle := (fieldsB_get hrest).1
  have hT := hE.t U hok
  obtain ⟨hcl, q⟩ := hq (o, U) (by simp)
  obtain ⟨hsum, ih⟩ := eqFields_run hE l fl _ hrest (fun p hp => hq p (by simp [hp]))
  simp only at hcl q
  refine ⟨by simp only [List.flatMap_cons, List.length_append, hcl]; omega, fun w la lb cs ds r h1 h2 h3 h4 hr => ?_⟩
  have hl1 := rdC_len h1
  have hl2 := rdC_len h2
  rw [List.flatMap_cons] at hr
  obtain ⟨r1, r2, e1, e2, rfl⟩ := eqC_part hr hcl
  rw [List.drop_drop, List.drop_drop] at e2
  have p1 := part_run (w := w) hT (cs := cs) (off := o) (by omega)
  have p2 := part_run (w := w) hT (cs := ds) (off := o) (by omega)
  have q := q ρ c w _ _ _ _ r1 (rdC_take (E.tb U).n (rdC_drop o h1)) (rdC_take (E.tb U).n (rdC_drop o h2)) e1
  have ih := ih w la lb cs ds r2 h1 h2 h3 h4 e2
  simp only [Op.eqFields, hname, ne_eq, not_false_eq_true, if_true, Sem.run_bind, hft, hfo, p1, p2, Result.andThen_ok, q, Sem.run_ite]
  cases r1 <;> simp [ih]
 | [], _ :: _, _, hf, _ => by simp [fieldsB] at hf
 | _ :: _, [], _, hf, _ => by simp [fieldsB] at hf
theorem eqArr_run {U : TypeId} (hT : TOk E.P E.tb U) {d m : Nat} (hq : EqRuns E d m U) {w : World} {la lb : List V} {cs ds : List Value} (h1 : rdC ρ c la cs) (h2 : rdC ρ c lb ds) :
  ∀ (j k : Nat) (r : Bool), la.length = (k + j) * (E.tb U).n → lb.length = (k + j) * (E.tb U).n → eqC (List.replicate j (ckOf E.tb d U)).flatten (la.drop (k * (E.tb U).n)) (lb.drop (k * (E.tb U).n)) = some r →
   (forIn (List.range' k j) ((none, ()) : Option Bool × Unit) fun i (_ : Option Bool × Unit) => do
      let a ← Go.part U cs.toArray (i * (E.tb U).n)
      let b ← Go.part U ds.toArray (i * (E.tb U).n)
      let t ← Op.equalIn m U a b
      if (!t) = true then pure (ForInStep.done ((some false, ()) : Option Bool × Unit)) else pure (ForInStep.yield (none, ()))).run E.P w = .ok (if r then (none, ()) else (some false, ())) w
 | 0, k, r, h3, h4, hr => by
  rw [List.drop_eq_nil_of_le (by rw [h3]; simp), List.drop_eq_nil_of_le (by rw [h4]; simp)] at hr
  simp only [List.replicate_zero, List.flatten_nil, eqC, Option.some.injEq] at hr
  subst hr
  simp
 | j + 1, k, r, h3, h4, hr => by
  have hl1 := rdC_len h1
  have hl2 := rdC_len h2
  have hk : (k + 1) * (E.tb U).n ≤ (k + (j + 1)) * (E.tb U).n := Nat.mul_le_mul_right _ (by omega)
  have hk' : (k + 1) * (E.tb U).n = k * (E.tb U).n + (E.tb U).n := by rw [Nat.add_mul, Nat.one_mul]
  rw [List.replicate_succ, List.flatten_cons] at hr
  obtain ⟨r1, r2, e1, e2, rfl⟩ := eqC_part hr hq.1
  rw [List.drop_drop, List.drop_drop, ← hk'] at e2
  have p1 := part_run (w := w) hT (cs := cs) (off := k * (E.tb U).n) (by omega)
  have p2 := part_run (w := w) hT (cs := ds) (off := k * (E.tb U).n) (by omega)
  have q := hq.2 ρ c w _ _ _ _ r1 (rdC_take (E.tb U).n (rdC_drop (k * (E.tb U).n) h1)) (rdC_take (E.tb U).n (rdC_drop (k * (E.tb U).n) h2)) e1
  have ih := eqArr_run hT hq (w := w) h1 h2 j (k + 1) r2 (by rw [h3]; congr 1; omega) (by rw [h4]; congr 1; omega) e2
  simp only [List.range'_succ, List.forIn_cons, Sem.run_bind, p1, p2, q, Result.andThen_ok, Sem.run_ite]
  cases r1
  ·simp
  ·simp only [Bool.not_true, Bool.false_eq_true, if_false, Sem.run_pure, Result.andThen_ok, Bool.true_and]
   exact ih
theorem flat_len (l : List Nat) : ∀ m, (List.replicate m l).flatten.length = m * l.length
 | 0 => by simp
 | m + 1 => by rw [List.replicate_succ, List.flatten_cons, List.length_append, flat_len l m, Nat.add_mul]; omega
theorem eqC_one {k : Nat} {la lb : List V} {r : Bool} (h : eqC [k] la lb = some r) :
  (k = 0 ∧ ∃ q a b, la = [.int q a] ∧ lb = [.int q b] ∧ r = (a == b)) ∨ (k = 1 ∧ ∃ a b, la = [.bool a] ∧ lb = [.bool b] ∧ r = (a == b)) ∨ (k = 2 ∧ ∃ a b, la = [.str a] ∧ lb = [.str b] ∧ r = (a == b)) := by
 obtain ⟨h1, h2⟩ := eqC_len h
 match la, lb, h1, h2 with
 | [a], [b], _, _ =>
  rcases k with _ | _ | _ | k
  ·cases a <;> cases b <;> simp [eqC] at h
   obtain ⟨rfl, rfl⟩ := h
   exact .inl ⟨rfl, _, _, _, rfl, rfl, rfl⟩
  ·cases a <;> cases b <;> simp [eqC] at h
   exact .inr (.inl ⟨rfl, _, _, rfl, rfl, h.symm⟩)
  ·cases a <;> cases b <;> simp [eqC] at h
   exact .inr (.inr ⟨rfl, _, _, rfl, rfl, h.symm⟩)
  ·exfalso; cases a <;> cases b <;> simp [eqC] at h
theorem eq_runs (hE : EnvOk E) : ∀ (d n : Nat) (T : TypeId), d ≤ n → cmpB E.tb d T = true → EqRuns E d n T
 | 0, _, _, _, h => by simp [cmpB] at h
 | d + 1, 0, _, hn, _ => by omega
 | d + 1, n + 1, T, hn, h => by
  simp only [cmpB, Bool.and_eq_true, Bool.or_eq_true, decide_eq_true_eq, List.all_eq_true] at h
  obtain ⟨hok, h⟩ := h
  have hT := hE.t T hok
  have leaf : ∀ k, (E.tb T).k = k → k ≤ 2 → ckOf E.tb (d + 1) T = [k] ∧ (E.tb T).g = false ∧ (E.tb T).n = 1 := by
   intro k hk hk2
   have hg : (E.tb T).g = false := by
    obtain ⟨dd, hd, hb⟩ := hT.kind
    cases dd <;> simp only [kindB, Bool.and_eq_true, decide_eq_true_eq, Bool.not_eq_true'] at hb <;> first | exact hb.2 | omega
   refine ⟨?_, hg, hT.one hg⟩
   unfold ckOf
   split <;> first | omega | rw [hk]
  rcases h with (((hk | hk) | hk) | ⟨hk, hfs⟩) | ⟨hk, hel⟩
  ·obtain ⟨h1, h2, h3⟩ := leaf 0 hk (by omega)
   refine ⟨by rw [h1, h3]; rfl, fun ρ c w la lb cs ds r r1 r2 hr => ?_⟩
   rw [h1] at hr
   rw [h2]
   rcases eqC_one hr with ⟨_, q, a, b, rfl, rfl, rfl⟩ | ⟨e, _⟩ | ⟨e, _⟩
   ·obtain ⟨a', u, e1, rfl, ha⟩ := one_cell r1 rfl
    obtain ⟨b', v, e2, rfl, hb⟩ := one_cell r2 rfl
    cases e1; cases e2
    rw [show mkV false [u] = u from rfl, show mkV false [v] = v from rfl, ha.1, hb.1]
    exact run_equalIn_int w n T q (E.tb T).ik a b (kind_int hE hok hk)
   ·cases e
   ·cases e
  ·obtain ⟨h1, h2, h3⟩ := leaf 1 hk (by omega)
   refine ⟨by rw [h1, h3]; rfl, fun ρ c w la lb cs ds r r1 r2 hr => ?_⟩
   rw [h1] at hr
   rw [h2]
   rcases eqC_one hr with ⟨e, _⟩ | ⟨_, a, b, rfl, rfl, rfl⟩ | ⟨e, _⟩
   ·cases e
   ·obtain ⟨a', u, e1, rfl, ha⟩ := one_cell r1 rfl
    obtain ⟨b', v, e2, rfl, hb⟩ := one_cell r2 rfl
    cases e1; cases e2
    simp only [rd] at ha hb
    rw [show mkV false [u] = u from rfl, show mkV false [v] = v from rfl, ha, hb]
    exact run_equalIn_bool' w n T _ _ (kind_bool hE hok hk)
   ·cases e
  ·obtain ⟨h1, h2, h3⟩ := leaf 2 hk (by omega)
   refine ⟨by rw [h1, h3]; rfl, fun ρ c w la lb cs ds r r1 r2 hr => ?_⟩
   rw [h1] at hr
   rw [h2]
   rcases eqC_one hr with ⟨e, _⟩ | ⟨e, _⟩ | ⟨_, a, b, rfl, rfl, rfl⟩
   ·cases e
   ·cases e
   ·obtain ⟨a', u, e1, rfl, ha⟩ := one_cell r1 rfl
    obtain ⟨b', v, e2, rfl, hb⟩ := one_cell r2 rfl
    cases e1; cases e2
    rw [show mkV false [u] = u from rfl, show mkV false [v] = v from rfl, ha.1, hb.1]
    have := run_equalIn_string (P := E.P) w n T ⟨a.toArray⟩ ⟨b.toArray⟩ (kind_str hE hok hk)
    rwa [toList_mk, toList_mk] at this
  ·obtain ⟨dd, hd, hb⟩ := hT.kind
   cases dd with
   | struct fs =>
    simp only [kindB, Bool.and_eq_true, Bool.not_eq_true'] at hb
    have hck : ckOf E.tb (d + 1) T = (E.tb T).fs.flatMap fun p => ckOf E.tb d p.2 := by
     simp only [ckOf, hk]
    have hfr := fun (ρ : Ro) (c : Cx) => eqFields_run (ρ := ρ) (c := c) hE _ _ 0 hb.1.2 (fun p hp => eq_runs hE d n p.2 (by omega) (hfs p hp))
    have hlen : (ckOf E.tb (d + 1) T).length = (E.tb T).n := by
     rw [hck]; have := (hfr ro0 ⟨[], default, (by simp), []⟩).1; omega
    refine ⟨hlen, fun ρ c w la lb cs ds r r1 r2 hr => ?_⟩
    obtain ⟨l1, l2⟩ := eqC_len hr
    rw [hlen] at l1 l2
    rw [hck] at hr
    rw [hb.1.1.2]
    have hfs' : E.P.fieldsOf T = fs := by simp [Program.fieldsOf, hd]
    simp only [mkV, if_true]
    rw [run_equalIn_struct w n T _ _ (by rw [hfs']; exact hd) hb.2, hfs']
    exact (hfr ρ c).2 w la lb cs ds r r1 r2 l1 l2 (by simpa using hr)
   | _ => simp_all [kindB]
  ·obtain ⟨dd, hd, hb⟩ := hT.kind
   cases dd with
   | array m e =>
    simp only [kindB, Bool.and_eq_true, decide_eq_true_eq] at hb
    obtain ⟨⟨⟨⟨⟨_, h6⟩, h7⟩, h8⟩, h9⟩, h10⟩ := hb
    subst h6 h7
    have hET := hE.t _ h8
    have hq := eq_runs hE d n _ (by omega) hel
    have hck : ckOf E.tb (d + 1) T = (List.replicate (E.tb T).len (ckOf E.tb d (E.tb T).el)).flatten := by
     simp only [ckOf, hk]
    have hlen : (ckOf E.tb (d + 1) T).length = (E.tb T).n := by
     rw [hck, h10, flat_len, hq.1]
    refine ⟨hlen, fun ρ c w la lb cs ds r r1 r2 hr => ?_⟩
    obtain ⟨l1, l2⟩ := eqC_len hr
    rw [hlen] at l1 l2
    rw [hck] at hr
    have hru : (underlying T).run E.P w = .ok (.array (E.tb T).len (E.tb T).el) w := by simp [underlying, hd]
    have hsz := (hET.ty ro0).size w
    rw [rV_n hET.one] at hsz
    have hloop := eqArr_run hET hq (w := w) r1 r2 (E.tb T).len 0 r (by rw [l1, h10]; congr 1; omega) (by rw [l2, h10]; congr 1; omega) (by simpa using hr)
    rw [h9]
    simp only [mkV, if_true, Op.equalIn, Sem.run_bind, hru, Result.andThen_ok, hsz, Std.Legacy.Range.forIn_eq_forIn_range', Std.Legacy.Range.size, Nat.sub_zero, Nat.add_one_sub_one, Nat.div_one]
    rw [hloop]
    simp only [Result.andThen_ok]
    cases r <;> simp
   | _ => simp_all [kindB]
theorem agg_sound (hE : EnvOk E) (h : Sim E c0 c ρ S F) {o : Oper} {op : BinOp} {U W : TypeId} {x y : Operand} {a b : List V} (hop : o.op = .binOp op U x y W) (hU : (E.tb U).ok = true) (hcm : (E.tb U).cmp = true) (hg : (E.tb U).g = true) {cnd : Prop} {v : V} {e : Eff}
  (hx : rd ρ c (.agg a) (ev F x)) (hy : rd ρ c (.agg b) (ev F y)) (hr : eqOp op (eqC (E.tb U).ck a b) = some (cnd, v, e)) : Yields E.P (OutP c0 c ρ S nid v e) (run E.P F o c.w) := by
 have hT := hE.t U hU
 obtain ⟨h1, h2, h3⟩ := hT.cmp hcm
 rw [h3] at hr
 obtain ⟨hlen, hq⟩ := eq_runs hE 9 10000 U (by omega) h1
 cases hb : eqC (ckOf E.tb 9 U) a b with
 | none => rw [hb] at hr; simp [eqOp] at hr
 | some r =>
  rw [hb] at hr
  simp only [rd] at hx hy
  obtain ⟨cs, e1, l1⟩ := hx
  obtain ⟨ds, e2, l2⟩ := hy
  have hrun := hq ρ c c.w a b cs ds r l1 l2 hb
  rw [hg] at hrun
  simp only [mkV, if_true] at hrun
  unfold eqOp at hr
  simp only at hr
  split at hr
  ·cases hr
   refine yv (v := .bool r) (w' := c.w) ?_ bool_out
   simp only [run, execOp, hop, e1, e2, Sem.run_bind, run_eqGuard_agg c.w .eql U x y _ _ h2, Result.andThen_ok, run_eql_struct, hrun, Sem.run_pure]
  ·cases hr
   refine yv (v := .bool (!r)) (w' := c.w) ?_ bool_out
   simp only [run, execOp, hop, e1, e2, Sem.run_bind, run_eqGuard_agg c.w .neq U x y _ _ h2, Result.andThen_ok, run_neq_struct, hrun, Sem.run_pure]
  ·cases hr
end
end Go.Proofs.Ytcbdmoihobdjaaa
