import Derived.Test.YtcbdmoihobdjaaaV4
namespace Go.Proofs.Ytcbdmoihobdjaaa
open Go.RowKit
section
variable {E : Env} {c0 c : Cx} {ρ : Ro} {S : St} {F : Fm} {nid : Nat}
theorem rB_some {b : Bool} {r : Res} {x : Prop × V × Eff} (h : rB b r = some x) : b = true ∧ r = some x := by
 cases b
 ·cases h
 ·exact ⟨rfl, h⟩
theorem ite_some {α : Type} {p : Prop} [Decidable p] {r : Option α} {x : α} (h : (if p then r else none) = some x) : p ∧ r = some x := by
 split at h
 ·rename_i hp; exact ⟨hp, h⟩
 ·cases h
theorem constV_rd {v : Value} {d : V} (h : constV v = some d) : rd ρ c d v ∧ pureV d := by
 unfold constV at h
 split at h
 ·unfold constI at h
  split at h
  ·rename_i hb; cases h; exact ⟨⟨rfl, rngB_rng hb⟩, trivial⟩
  ·cases h
 ·cases h; exact ⟨rfl, trivial⟩
 ·obtain ⟨h1, h2⟩ := ite_some h
  cases h2
  refine ⟨⟨?_, h1⟩, trivial⟩
  simp
 ·cases h
  refine ⟨?_, trivial⟩
  simp only [rd]
  exact ⟨none, 0, rfl, ⟨Nat.zero_le _, Nat.zero_le _⟩, ⟨rfl, rfl⟩, .inl trivial⟩
 ·cases h
theorem ev_rd (h : Sim E c0 c ρ S F) {x : Operand} {d : V} (hx : S.ev E.gv x = some d) : rd ρ c d (ev F x) := by
 cases x with
 | tmp t => exact h.slot t d hx
 | const v => exact (constV_rd hx).1
 | global g => exact rd_ro (fun i v hi => by cases hi) (h.gl g d hx).2
 | func f =>
  simp only [St.ev, Option.some.injEq] at hx
  subst hx
  simp only [rd, ev]
  exact ⟨[], rfl, rfl⟩
theorem nilT_rd {T : TypeId} : rd ρ c (nilT E.tb T) (.slice none 0 0) := by
 simp only [nilT, rd]
 exact ⟨none, 0, rfl, ⟨Nat.zero_le _, Nat.zero_le _⟩, ⟨rfl, rfl⟩, .inl trivial⟩
theorem evT_rd (h : Sim E c0 c ρ S F) {T : TypeId} {x : Operand} {d : V} (hx : S.evT E T x = some d) : rd ρ c d (ev F x) := by
 cases x with
 | tmp t => exact h.slot t d hx
 | const v =>
  simp only [St.evT] at hx
  unfold constT at hx
  split at hx
  ·exact (constV_rd (v := .int _ _) hx).1
  ·exact (constV_rd (v := .bool _) hx).1
  ·exact (constV_rd (v := .string _) hx).1
  ·cases hx; exact nilT_rd
  ·unfold zAgg at hx
   split at hx
   ·rename_i hz; cases hx; exact zrB_rd hz
   ·cases hx
  ·cases hx
 | global g => exact ev_rd h (x := .global g) hx
 | func f => exact ev_rd h (x := .func f) hx
mutual
theorem pure_rd {ρ' : Ro} : ∀ {d : V} {v : Value}, pureV d → rd ρ c d v → rd ρ' c d v
 | .int _ _, _, _, h => h
 | .bool _, _, _, h => h
 | .str _, _, _, h => h
 | .agg l, v, hp, h => by
  simp only [rd, pureV] at h hp ⊢
  obtain ⟨cs, e, h⟩ := h
  exact ⟨cs, e, pure_rdC hp h⟩
 | .sl z n g l, v, _, h => h
 | .pp n g d, v, _, h => h
 | .own _, _, hp, _ => by simp only [pureV] at hp
 | .ptr _ _, _, hp, _ => by simp only [pureV] at hp
 | .optr _ _ _ _, _, hp, _ => by simp only [pureV] at hp
 | .osub _ _ _ _, _, hp, _ => by simp only [pureV] at hp
 | .tup l, v, hp, h => by
  simp only [rd, pureV] at h hp ⊢
  obtain ⟨cs, e, h⟩ := h
  exact ⟨cs, e, pure_rdT hp h⟩
 | .fn f l, v, hp, h => by
  simp only [rd, pureV] at h hp ⊢
  obtain ⟨cs, e, h⟩ := h
  exact ⟨cs, e, pure_rdT hp h⟩
 | .opq p, v, _, h => h
 | .un, _, _, _ => trivial
theorem pure_rdC {ρ' : Ro} : ∀ {l : List V} {cs : List Value}, pureL l → rdC ρ c l cs → rdC ρ' c l cs
 | [], _, _, h => h
 | d :: l, cs, hp, h => by
  simp only [rdC, pureL] at h hp ⊢
  obtain ⟨u, c2, e, h1, h2, h3⟩ := h
  exact ⟨u, c2, e, h1, pure_rd hp.1 h2, pure_rdC hp.2 h3⟩
theorem pure_rdT {ρ' : Ro} : ∀ {l : List V} {cs : List Value}, pureL l → rdT ρ c l cs → rdT ρ' c l cs
 | [], _, _, h => h
 | d :: l, cs, hp, h => by
  simp only [rdT, pureL] at h hp ⊢
  obtain ⟨u, c2, e, h2, h3⟩ := h
  exact ⟨u, c2, e, pure_rd hp.1 h2, pure_rdT hp.2 h3⟩
end
theorem fit_val {n : Nat} {g : Bool} {d : V} {v : Value} (h1 : g = false → n = 1) (hf : fitV n g d) (h : rd ρ c d v) : (rV ρ n g).val c v d := by
 cases g with
 | true =>
  cases d <;> simp only [fitV] at hf
  rename_i l
  have h0 := h
  simp only [rd] at h
  obtain ⟨cs, rfl, h⟩ := h
  refine ⟨cs, ⟨⟨(rdC_len h).trans hf, (fun e => by cases e), rdC_cell h⟩, h0⟩, rfl⟩
 | false =>
  have ho : v.oneCell' = true := by
   cases d <;> simp only [fitV] at hf <;> simp only [rd] at h
   ·rw [h.1]; rfl
   ·rw [h]; rfl
   ·rw [h.1]; rfl
   ·obtain ⟨a, cap, e, _⟩ := h; rw [e]; rfl
   ·obtain ⟨b, o, cs, e, _⟩ := h; rw [e]; rfl
   ·exact h.2
   ·obtain ⟨b, _, e⟩ := h; rw [e]; rfl
   ·obtain ⟨u, _, g, len, cap, _, e⟩ := h; rw [e]; rfl
   ·obtain ⟨u, _, ⟨a, len, cap, _, _, _, e⟩ | ⟨b, _, _, _, e⟩⟩ := h <;> (rw [e]; rfl)
   ·obtain ⟨cs, e, _⟩ := h; rw [e]; rfl
   ·exact h.2.1
  exact ⟨[v], ⟨⟨(h1 rfl).symm, h1, by simpa using ho⟩, h⟩, rfl⟩
theorem val_rd {n : Nat} {g : Bool} {d : V} {v : Value} (h : (rV ρ n g).val c v d) : rd ρ c d v := by
 obtain ⟨cs, h1, rfl⟩ := h
 exact h1.2
theorem val0_rd {n : Nat} {g : Bool} {d : V} {v : Value} (h : (rV ro0 n g).val c v d) : rd ρ c d v := rd_ro (fun i v hi => by cases hi) (val_rd h)
theorem rd0 {d : V} {v : Value} (h : rd ro0 c d v) : rd ρ c d v := rd_ro (fun i v hi => by cases hi) h
theorem kind_int (hE : EnvOk E) {T : TypeId} (h : (E.tb T).ok = true) (hk : (E.tb T).k = 0) : E.P.underlying T = some (.int (E.tb T).ik) := by
 obtain ⟨d, hd, hb⟩ := (hE.t T h).kind
 cases d <;> simp_all [kindB]
theorem kind_bool (hE : EnvOk E) {T : TypeId} (h : (E.tb T).ok = true) (hk : (E.tb T).k = 1) : E.P.underlying T = some .bool := by
 obtain ⟨d, hd, hb⟩ := (hE.t T h).kind
 cases d <;> simp_all [kindB]
theorem kind_str (hE : EnvOk E) {T : TypeId} (h : (E.tb T).ok = true) (hk : (E.tb T).k = 2) : E.P.underlying T = some .string := by
 obtain ⟨d, hd, hb⟩ := (hE.t T h).kind
 cases d <;> simp_all [kindB]
theorem kind_slice (hE : EnvOk E) {T : TypeId} (h : (E.tb T).ok = true) (hk : (E.tb T).k = 3) : E.P.underlying T = some (.slice (E.tb T).el) ∧ (E.tb (E.tb T).el).ok = true := by
 obtain ⟨d, hd, hb⟩ := (hE.t T h).kind
 cases d <;> simp_all [kindB]
theorem kind_arr (hE : EnvOk E) {T : TypeId} (h : (E.tb T).ok = true) (hk : (E.tb T).k = 4) : E.P.underlying T = some (.array (E.tb T).len (E.tb T).el) ∧ (E.tb (E.tb T).el).ok = true := by
 obtain ⟨d, hd, hb⟩ := (hE.t T h).kind
 cases d <;> simp_all [kindB]
theorem fieldsB_get {tb : TypeId → TI} {n : Nat} : ∀ {l : List (Nat × TypeId)} {fs : List Field} {off : Nat}, fieldsB tb n off l fs = true → off ≤ n ∧ ∀ {k o : Nat} {U : TypeId}, l[k]? = some (o, U) →
  ∃ f, fs[k]? = some f ∧ f.offset = o ∧ f.type = U ∧ (tb U).ok = true ∧ f.name ≠ "_" ∧ o + (tb U).n ≤ n
 | [], [], off, h => by
  simp only [fieldsB, decide_eq_true_eq] at h
  exact ⟨by omega, by simp⟩
 | (o, U) :: l, f :: fs, off, h => by
  simp only [fieldsB, Bool.and_eq_true, decide_eq_true_eq] at h
  obtain ⟨⟨⟨⟨⟨h1, h2⟩, h3⟩, h4⟩, h5⟩, h6⟩ := h
  obtain ⟨h7, h8⟩ := fieldsB_get h6
  refine ⟨by omega, ?_⟩
  intro k o' U' hk
  cases k with
  | zero =>
   simp only [List.getElem?_cons_zero, Option.some.injEq, Prod.mk.injEq] at hk
   obtain ⟨rfl, rfl⟩ := hk
   exact ⟨f, rfl, h2, h3, h4, h5, by omega⟩
  | succ k =>
   simp only [List.getElem?_cons_succ] at hk
   obtain ⟨f', e, h9⟩ := h8 hk
   exact ⟨f', by simpa using e, h9⟩
 | [], _ :: _, _, h => by simp [fieldsB] at h
 | _ :: _, [], _, h => by simp [fieldsB] at h
theorem kind_field (hE : EnvOk E) {T U : TypeId} {k o : Nat} (h : (E.tb T).ok = true) (hk : (E.tb T).fs[k]? = some (o, U)) (h5 : (E.tb T).k = 5) : FieldOk E.P T k o ∧ (E.tb U).ok = true ∧ o + (E.tb U).n ≤ (E.tb T).n ∧ (E.tb T).g = true := by
 obtain ⟨d, hd, hb⟩ := (hE.t T h).kind
 cases d with
 | struct fs =>
  simp only [kindB, Bool.and_eq_true] at hb
  obtain ⟨f, e1, e2, e3, e4, e5, e6⟩ := (fieldsB_get hb.1.2).2 hk
  have hU := hE.t U e4
  have hpos := hU.pos
  refine ⟨fieldOk (n := (E.tb U).n - 1) hd (by simpa using e1) e2 ?_, e4, e6, hb.1.1.2⟩
  intro w
  have := (hU.ty ro0).size w
  rw [rV_n hU.one] at this
  rw [e3, this]
  congr 1; omega
 | _ => simp_all [kindB]
theorem ptIs_sub {α β : Type} {r : Rep α} {s : Rep β} {off b o1 : Nat} {get : α → β} {set : α → β → α} {d : α} (hs : Sub r off s get set) (hx : ptIs r c (.pointer (some ⟨b, o1, none⟩)) d) : ptIs s c (.pointer (some ⟨b, o1 + off, none⟩)) (get d) := by
 obtain ⟨b', o', cs, e, h1, h2, h3, h4⟩ := hx
 cases e
 exact ⟨b, o1 + off, _, rfl, h1, h2, h3.part off s.n, hs.get_is h4⟩
theorem loadPart_some {ti : TI} {n off : Nat} {g : Bool} {cd cnd : Prop} {d v : V} {e : Eff} (h : loadPart ti n g off cd d = some (cnd, v, e)) :
  cnd = cd ∧ e = .none ∧ ((off = 0 ∧ ti.n = n ∧ ti.g = g ∧ v = d) ∨ (g = true ∧ off + ti.n ≤ n ∧ v = part d off ti.n ti.g)) := by
 unfold loadPart at h
 split at h
 ·rename_i hp; cases h; exact ⟨rfl, rfl, .inl ⟨hp.1, hp.2.1, hp.2.2, rfl⟩⟩
 ·obtain ⟨h1, h2⟩ := ite_some h
  cases h2; exact ⟨rfl, rfl, .inr ⟨h1.1, h1.2, rfl⟩⟩
theorem elt_eq {l : List V} {i : Nat} {z : V} (h : i < l.length) : elt l i z = l.getD i default := by
 unfold elt
 rw [List.getD_eq_getElem?_getD, List.getD_eq_getElem?_getD, List.getElem?_eq_getElem h]; rfl
theorem load_sound (hE : EnvOk E) (h : Sim E c0 c ρ S F) {o : Oper} {U : TypeId} {x : Operand} (hop : o.op = .load U x) (hU : (E.tb U).ok = true) {cnd : Prop} {v : V} {e : Eff}
  (hr : loadF E.tb S.H (E.tb U) (S.ev E.gv x) = some (cnd, v, e)) (hc : cnd) : Yields E.P (OutP c0 c ρ S nid v e) (run E.P F o c.w) := by
 have hT := hE.t U hU
 unfold loadF at hr
 split at hr
 ·rename_i n g d hx
  obtain ⟨⟨h1, h2⟩, h3⟩ := ite_some hr
  cases h3
  subst h1 h2
  exact y_load_pt hop (hT.ty ro0) (rd_pp.1 (ev_rd h hx)) fun u hu => outP_none (val0_rd hu)
 ·rename_i id off hx
  have hp := ev_rd h hx
  simp only [rd] at hp
  obtain ⟨b, hb, he⟩ := hp
  unfold loadV at hr
  split at hr
  ·rename_i n g d hH
   obtain ⟨b', e1, e2, hv⟩ := h.heap _ _ hH
   rw [hb] at e1; cases e1
   obtain ⟨rfl, rfl, hw | hw⟩ := loadPart_some hr
   ·obtain ⟨rfl, rfl, rfl, rfl⟩ := hw
    exact y_load_var hop (hT.ty ρ) hv (Sub.self _) he fun u hu => outP_none (val_rd hu)
   ·obtain ⟨rfl, hle, rfl⟩ := hw
    exact y_load_var hop (hT.ty ρ) hv (subV hle hT.one) he fun u hu => outP_none (val_rd hu)
  ·rename_i n g d hH
   obtain ⟨b', e1, hv⟩ := h.heap _ _ hH
   rw [hb] at e1; cases e1
   obtain ⟨rfl, rfl, hw | hw⟩ := loadPart_some hr
   ·obtain ⟨rfl, rfl, rfl, rfl⟩ := hw
    exact y_load_pt hop (hT.ty ro0) (he ▸ hv) fun u hu => outP_none (val0_rd hu)
   ·obtain ⟨rfl, hle, rfl⟩ := hw
    refine y_load_pt hop (hT.ty ro0) ?_ fun u hu => outP_none (val0_rd hu)
    rw [he]
    simpa using ptIs_sub (subV hle hT.one) hv
  ·rename_i k n g d hH
   obtain ⟨e1, e2, hv⟩ := h.heap _ _ hH
   rw [hb] at e1; cases e1
   obtain ⟨rfl, rfl, hw | hw⟩ := loadPart_some hr
   ·obtain ⟨rfl, rfl, rfl, rfl⟩ := hw
    exact y_load_var hop (hT.ty ρ) hv (Sub.self _) he fun u hu => outP_none (val_rd hu)
   ·obtain ⟨rfl, hle, rfl⟩ := hw
    exact y_load_var hop (hT.ty ρ) hv (subV hle hT.one) he fun u hu => outP_none (val_rd hu)
  ·cases hr
 ·rename_i id m i off hx
  have hp := ev_rd h hx
  simp only [rd] at hp
  obtain ⟨u, hu, hop'⟩ := hp
  unfold loadO at hr
  split at hr
  ·rename_i E' n g z l hH
   obtain ⟨rfl, hr⟩ := ite_some hr
   obtain ⟨v', e1, hown, hge, hone, _⟩ := h.heap _ _ hH
   rw [hu] at e1; cases e1
   have hn : (rV ro0 m g).n = m := rV_n hone
   obtain ⟨rfl, rfl, hw | hw⟩ := loadPart_some hr
   ·obtain ⟨rfl, rfl, rfl, rfl⟩ := hw
    refine y_load_own hop (hT.ty ro0) hown (Sub.self _) hc (hn.symm ▸ hop') fun u hu => outP_none (by rw [elt_eq hc]; exact val0_rd hu)
   ·obtain ⟨rfl, hle, rfl⟩ := hw
    refine y_load_own hop (hT.ty ro0) hown (subV hle hT.one) hc (hn.symm ▸ hop') fun u hu => outP_none (by rw [elt_eq hc]; exact val0_rd hu)
  ·rename_i E' n g z l hH
   obtain ⟨rfl, hr⟩ := ite_some hr
   obtain ⟨v', e1, hown, hge, hone, _⟩ := h.heap _ _ hH
   rw [hu] at e1; cases e1
   have hn : (rV ρ m g).n = m := rV_n hone
   obtain ⟨rfl, rfl, hw | hw⟩ := loadPart_some hr
   ·obtain ⟨rfl, rfl, rfl, rfl⟩ := hw
    refine y_load_own hop (hT.ty ρ) hown (Sub.self _) hc (hn.symm ▸ hop') fun u hu => outP_none (by rw [elt_eq hc]; exact val_rd hu)
   ·obtain ⟨rfl, hle, rfl⟩ := hw
    refine y_load_own hop (hT.ty ρ) hown (subV hle hT.one) hc (hn.symm ▸ hop') fun u hu => outP_none (by rw [elt_eq hc]; exact val_rd hu)
  ·cases hr
 ·cases hr
end
end Go.Proofs.Ytcbdmoihobdjaaa
