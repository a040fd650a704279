import Derived.Test.YtcbdmoihobdjaaaV5
namespace Go.Proofs.Ytcbdmoihobdjaaa
open Go.RowKit
section
variable {E : Env} {c0 c : Cx} {ρ : Ro} {S : St} {F : Fm} {nid : Nat}
theorem Var.blkOk {b n : Nat} {g : Bool} {d : V} {i : Nat} (h1 : ρ i = some (.pointer (some ⟨b, 0, none⟩))) (h2 : c0.mine b) (hv : Var c b (rV ρ n g) d) : blkOk c0 c ρ i (.var n g d) := ⟨b, h1, h2, hv⟩
theorem store_sound (hE : EnvOk E) (h : Sim E c0 c ρ S F) {o : Oper} {U : TypeId} {x y : Operand} (hop : o.op = .store U x y) (hU : (E.tb U).ok = true) {cnd : Prop} {v : V} {e : Eff}
  (hr : storeF E.tb S.H (E.tb U) (S.ev E.gv x) (S.evT E U y) = some (cnd, v, e)) (hc : cnd) : Yields E.P (OutP c0 c ρ S nid v e) (run E.P F o c.w) := by
 have hT := hE.t U hU
 unfold storeF at hr
 split at hr
 ·rename_i id off d hx hy
  have hp := ev_rd h hx
  simp only [rd] at hp
  obtain ⟨b, hb, he⟩ := hp
  have hy' := evT_rd h hy
  unfold storeV at hr
  split at hr
  ·rename_i n g d0 hH
   obtain ⟨b', e1, e2, hv⟩ := h.heap _ _ hH
   rw [hb] at e1; cases e1
   have hbo : blkOf ρ id = some b := by simp [blkOf, hb]
   have hbX := hv.1
   split at hr
   ·rename_i hw
    cases hr
    obtain ⟨rfl, rfl, rfl⟩ := hw
    refine y_store_var hop (hT.ty ρ) hv (Sub.self _) he (fit_val hT.one hc hy') fun c' hm hv' => ⟨c', ρ, rfl, ⟨_, hH, rfl, rfl⟩, ⟨?_, rfl, b, hb, e2, hv'⟩, trivial⟩
    rw [hbo]; exact hm.chg hbX
   ·obtain ⟨⟨rfl, hle⟩, hr⟩ := ite_some hr
    cases hr
    refine y_store_var hop (hT.ty ρ) hv (subV hle hT.one) he (fit_val hT.one hc hy') fun c' hm hv' => ⟨c', ρ, rfl, ⟨_, hH, rfl, rfl⟩, ⟨?_, rfl, b, hb, e2, hv'⟩, trivial⟩
    rw [hbo]; exact hm.chg hbX
  ·rename_i k n g d0 hH
   obtain ⟨e1, e2, hv⟩ := h.heap _ _ hH
   rw [hb] at e1; cases e1
   have hbo : blkOf ρ id = some b := by simp [blkOf, hb]
   have hbX := hv.1
   split at hr
   ·rename_i hw
    cases hr
    obtain ⟨rfl, rfl, rfl⟩ := hw
    refine y_store_var hop (hT.ty ρ) hv (Sub.self _) he (fit_val hT.one hc hy') fun c' hm hv' => ⟨c', ρ, rfl, ⟨_, hH, rfl, rfl⟩, ⟨?_, rfl, hb, e2, hv'⟩, trivial⟩
    rw [hbo]; exact hm.chg hbX
   ·obtain ⟨⟨rfl, hle⟩, hr⟩ := ite_some hr
    cases hr
    refine y_store_var hop (hT.ty ρ) hv (subV hle hT.one) he (fit_val hT.one hc hy') fun c' hm hv' => ⟨c', ρ, rfl, ⟨_, hH, rfl, rfl⟩, ⟨?_, rfl, hb, e2, hv'⟩, trivial⟩
    rw [hbo]; exact hm.chg hbX
  ·cases hr
 ·rename_i id m i off d hx hy
  have hp := ev_rd h hx
  simp only [rd] at hp
  obtain ⟨u, hu, hpu⟩ := hp
  have hy' := evT_rd h hy
  unfold storeO at hr
  split at hr
  ·rename_i E' n g z l hH
   obtain ⟨rfl, hr⟩ := ite_some hr
   obtain ⟨v', e1, hown, hge, hone, a, cap, es, hz⟩ := h.heap _ _ hH
   rw [hu] at e1; cases e1
   have hn : (rV ro0 m g).n = m := rV_n hone
   have hbo : blkOf ρ id = blk u := by unfold blkOf; rw [hu, es]
   by_cases hw : off = 0 ∧ (E.tb U).n = m ∧ (E.tb U).g = g
   ·rw [if_pos hw] at hr
    obtain ⟨rfl, rfl, rfl⟩ := hw
    cases hio : isOwn d <;> rw [hio] at hr
    case true =>
     simp only [Option.some.injEq, Prod.mk.injEq] at hr
     obtain ⟨rfl, rfl, rfl⟩ := hr
     obtain ⟨hi, hfit⟩ := hc
     have hown' : Own c E' u (rV ρ (E.tb U).n (E.tb U).g) l := hown.ro rd0
     exact y_store_own hop (hT.ty ρ) hown' (Sub.self _) hi (hn.symm ▸ hpu) (fit_val hT.one hfit hy') fun c' hch ho' => ⟨c', ρ, rfl, ⟨_, hH, rfl, rfl⟩, ⟨hbo ▸ hch, rfl, u, hu, ho', hge, hone, a, cap, by simpa using es, hz⟩, trivial⟩
    simp only [Option.some.injEq, Prod.mk.injEq] at hr
    obtain ⟨rfl, rfl, rfl⟩ := hr
    obtain ⟨hi, hpure, hfit⟩ := hc
    refine y_store_own hop (hT.ty ro0) hown (Sub.self _) hi (hn.symm ▸ hpu) (fit_val hT.one hfit (pure_rd hpure hy')) fun c' hch ho' => ⟨c', ρ, rfl, ⟨_, hH, rfl, rfl⟩, ⟨hbo ▸ hch, rfl, u, hu, ho', hge, hone, a, cap, by simpa using es, hz⟩, trivial⟩
   ·rw [if_neg hw] at hr
    obtain ⟨⟨rfl, hle⟩, hr⟩ := ite_some hr
    cases hr
    obtain ⟨hi, hpure, hfit⟩ := hc
    refine y_store_own hop (hT.ty ro0) hown (subV hle hT.one) hi (hn.symm ▸ hpu) (fit_val hT.one hfit (pure_rd hpure hy')) fun c' hch ho' => ⟨c', ρ, rfl, ⟨_, hH, rfl, rfl⟩, ⟨hbo ▸ hch, rfl, u, hu, by rw [elt_eq hi]; exact ho', hge, hone, a, cap, by simpa using es, hz⟩, trivial⟩
  ·cases hr
 ·cases hr
theorem field_sound (hE : EnvOk E) (h : Sim E c0 c ρ S F) {o : Oper} {U : TypeId} {x : Operand} {k : Nat} (hop : o.op = .fieldAddr U x k) (hU : (E.tb U).ok = true) {cnd : Prop} {v : V} {e : Eff}
  (hr : fieldF E.tb (E.tb U) k (S.ev E.gv x) = some (cnd, v, e)) : Yields E.P (OutP c0 c ρ S nid v e) (run E.P F o c.w) := by
 unfold fieldF at hr
 split at hr
 ·rename_i d hx
  obtain ⟨h5, hr⟩ := ite_some hr
  have hp := ev_rd h hx
  unfold fieldP at hr
  split at hr
  ·rename_i off W hk
   obtain ⟨hf, hW, hle, hg⟩ := kind_field hE hU hk h5
   split at hr
   ·cases hr
    simp only [rd] at hp
    obtain ⟨b, hb, he⟩ := hp
    exact y_fieldAddr_var hop hf he (outP_none (by simp only [rd]; exact ⟨b, hb, rfl⟩))
   ·cases hr
    simp only [rd] at hp
    obtain ⟨u, hu, he⟩ := hp
    exact y_fieldAddr_own hop hf he fun u' hu' => outP_none (by simp only [rd]; exact ⟨u, hu, hu'⟩)
   ·rename_i n g d'
    obtain ⟨⟨rfl, rfl⟩, hr2⟩ := ite_some hr
    cases hr2
    have hWT := hE.t W hW
    exact y_fieldAddr_pt hop hf (subV hle hWT.one) (rd_pp.1 hp) fun u hu => outP_none (rd_pp.2 hu)
   ·cases hr
  ·cases hr
 ·cases hr
theorem fieldX_sound (hE : EnvOk E) (h : Sim E c0 c ρ S F) {o : Oper} {U : TypeId} {x : Operand} {k : Nat} (hop : o.op = .field U x k) (hU : (E.tb U).ok = true) {cnd : Prop} {v : V} {e : Eff}
  (hr : fieldX E.tb (E.tb U) k (S.ev E.gv x) = some (cnd, v, e)) (hc : cnd) : Yields E.P (OutP c0 c ρ S nid v e) (run E.P F o c.w) := by
 unfold fieldX at hr
 split at hr
 ·rename_i l hx
  obtain ⟨h5, hr⟩ := ite_some hr
  have hp := ev_rd h hx
  unfold fieldY at hr
  split at hr
  ·rename_i off W hk
   cases hr
   obtain ⟨hf, hW, hle, hg⟩ := kind_field hE hU hk h5
   have hWT := hE.t W hW
   have hUT := hE.t U hU
   obtain ⟨d, hd, hb⟩ := hUT.kind
   cases d with
   | struct fs =>
    simp only [kindB, Bool.and_eq_true] at hb
    obtain ⟨f, e1, e2, e3, _⟩ := (fieldsB_get hb.1.2).2 hk
    have hval := fit_val (n := (E.tb U).n) (g := true) (fun e => by cases e) (by simpa [fitV] using hc) hp
    obtain ⟨cs, hcs, hv⟩ := hval
    obtain ⟨u, hu, hu'⟩ := run_part (P := E.P) (T := W) (w := c.w) (cs := cs.toArray) (hWT.ty ρ) (subV hle hWT.one) (by simpa using hcs)
    refine yv (v := u) (w' := c.w) ?_ (outP_none (val_rd hu'))
    have hru : (underlying U).run E.P c.w = .ok (.struct fs) c.w := by simp [underlying, hd]
    have e1' : fs[k]? = some f := by simpa using e1
    simp only [mkV, rV, if_true] at hv
    simp [run, execOp, hop, Instr.field, hv, asAgg, hru, e1', e2, e3, hu]
   | _ => simp_all [kindB]
  ·cases hr
 ·cases hr
theorem index_sound (hE : EnvOk E) (h : Sim E c0 c ρ S F) {o : Oper} {U : TypeId} {x y : Operand} (hop : o.op = .indexAddr U x y) (hU : (E.tb U).ok = true) {cnd : Prop} {v : V} {e : Eff}
  (hr : indexF S.H (E.tb U) (E.tb (E.tb U).el) (S.ev E.gv x) (S.ev E.gv y) = some (cnd, v, e)) (hc : cnd) : Yields E.P (OutP c0 c ρ S nid v e) (run E.P F o c.w) := by
 unfold indexF at hr
 split at hr
 ·rename_i z n g l k i hx hy
  obtain ⟨⟨h3, rfl, rfl⟩, hr2⟩ := ite_some hr
  cases hr2
  obtain ⟨hu, hel⟩ := kind_slice hE hU h3
  have hET := hE.t _ hel
  refine y_indexAddr_slice hop hu (hET.ty ro0) (rd_slice (ev_rd h hx)) (ev_rd h hy).1 ⟨hc.1, by omega⟩ fun u hu => outP_none (rd_pp.2 ?_)
  rw [elt_eq hc.2]; exact hu
 ·rename_i id k i hx hy
  obtain ⟨h3, hr⟩ := ite_some hr
  obtain ⟨hu, hel⟩ := kind_slice hE hU h3
  have hET := hE.t _ hel
  have hp := ev_rd h hx
  simp only [rd] at hp
  unfold indexO at hr
  split at hr
  ·rename_i E' n g z l hH
   obtain ⟨⟨rfl, rfl⟩, hr2⟩ := ite_some hr
   cases hr2
   obtain ⟨v', e1, hown, hge, hone, _⟩ := h.heap _ _ hH
   rw [hp.1] at e1; cases e1
   have hT : TyOk E.P (E.tb U).el (rV ro0 (E.tb (E.tb U).el).n (E.tb (E.tb U).el).g) := hET.ty ro0
   have hown' : Own c E' (ev F x) (rV ro0 (E.tb (E.tb U).el).n (E.tb (E.tb U).el).g) l := hown
   have hru : (underlying U).run E.P c.w = .ok (.slice (E.tb U).el) c.w := by simp [underlying, hu]
   rcases hown'.2 with ⟨a, e, rfl⟩ | ⟨g', cap, cur, e, h1, h2, h3', h4, h5, h6⟩
   ·simp at hc
   ·have hadd : (⟨g', 0, none⟩ : Addr).add (i.toNat * (E.tb (E.tb U).el).n) = ⟨g', i.toNat * (E.tb (E.tb U).el).n, none⟩ := by unfold Addr.add; split <;> simp_all
    have hsz := hT.size c.w
    rw [rV_n hET.one] at hsz
    have hi := hc.2
    have hil : i < (l.length : Int) := by omega
    refine yv (v := .pointer (some ⟨g', i.toNat * (E.tb (E.tb U).el).n, none⟩)) (w' := c.w) ?_ (outP_none ?_)
    ·simp [run, execOp, hop, Instr.indexAt, e, (ev_rd h hy).1, asIntOf, hru, hc.1, hil, hsz, hadd]
    ·simp only [rd]
     exact ⟨_, hp.1, g', _, _, e, by simp⟩
  ·rename_i E' n g z l hH
   obtain ⟨⟨rfl, rfl⟩, hr2⟩ := ite_some hr
   cases hr2
   obtain ⟨v', e1, hown, hge, hone, _⟩ := h.heap _ _ hH
   rw [hp.1] at e1; cases e1
   have hT : TyOk E.P (E.tb U).el (rV ρ (E.tb (E.tb U).el).n (E.tb (E.tb U).el).g) := hET.ty ρ
   have hown' : Own c E' (ev F x) (rV ρ (E.tb (E.tb U).el).n (E.tb (E.tb U).el).g) l := hown
   have hru : (underlying U).run E.P c.w = .ok (.slice (E.tb U).el) c.w := by simp [underlying, hu]
   rcases hown'.2 with ⟨a, e, rfl⟩ | ⟨g', cap, cur, e, h1, h2, h3', h4, h5, h6⟩
   ·simp at hc
   ·have hadd : (⟨g', 0, none⟩ : Addr).add (i.toNat * (E.tb (E.tb U).el).n) = ⟨g', i.toNat * (E.tb (E.tb U).el).n, none⟩ := by unfold Addr.add; split <;> simp_all
    have hsz := hT.size c.w
    rw [rV_n hET.one] at hsz
    have hi := hc.2
    have hil : i < (l.length : Int) := by omega
    refine yv (v := .pointer (some ⟨g', i.toNat * (E.tb (E.tb U).el).n, none⟩)) (w' := c.w) ?_ (outP_none ?_)
    ·simp [run, execOp, hop, Instr.indexAt, e, (ev_rd h hy).1, asIntOf, hru, hc.1, hil, hsz, hadd]
    ·simp only [rd]
     exact ⟨_, hp.1, g', _, _, e, by simp⟩
  ·rename_i n g z l hH
   obtain ⟨⟨rfl, rfl⟩, hr2⟩ := ite_some hr
   cases hr2
   obtain ⟨v', e1, hsl⟩ := h.heap _ _ hH
   rw [hp.1] at e1; cases e1
   refine y_indexAddr_slice hop hu (hET.ty ro0) (rd_slice hsl) (ev_rd h hy).1 ⟨hc.1, by omega⟩ fun u hu => outP_none (rd_pp.2 ?_)
   rw [elt_eq hc.2]; exact hu
  ·cases hr
 ·rename_i id off k i hx hy
  obtain ⟨h4, hr⟩ := ite_some hr
  cases hr
  obtain ⟨hu, hel⟩ := kind_arr hE hU h4
  have hET := hE.t _ hel
  have hp := ev_rd h hx
  simp only [rd] at hp
  obtain ⟨b, hb, he⟩ := hp
  have hsz : ∀ w, (sizeOf (E.tb U).el).run E.P w = .ok (E.tb (E.tb U).el).n w := fun w => by
   have := (hET.ty ro0).size w
   rwa [rV_n hET.one] at this
  exact y_indexAddr_var hop hu hsz he (ev_rd h hy).1 hc (outP_none (by simp only [rd]; exact ⟨b, hb, rfl⟩))
 ·cases hr
theorem indexX_sound (hE : EnvOk E) (h : Sim E c0 c ρ S F) {o : Oper} {U : TypeId} {x y : Operand} (hop : o.op = .index U x y) (hU : (E.tb U).ok = true) {cnd : Prop} {v : V} {e : Eff}
  (hr : indexX (E.tb U) (S.ev E.gv x) (S.ev E.gv y) = some (cnd, v, e)) (hc : cnd) : Yields E.P (OutP c0 c ρ S nid v e) (run E.P F o c.w) := by
 unfold indexX at hr
 split at hr
 ·rename_i s k i hx hy
  obtain ⟨h2, hr⟩ := ite_some hr
  cases hr
  have hu := kind_str hE hU h2
  have hru : (underlying U).run E.P c.w = .ok .string c.w := by simp [underlying, hu]
  obtain ⟨e1, hl⟩ := ev_rd h hx
  obtain ⟨e2, _⟩ := ev_rd h hy
  have hb : s[i.toNat]? = some (s.getD i.toNat 0) := by rw [List.getElem?_eq_getElem hc.2, List.getD_eq_getElem?_getD, List.getElem?_eq_getElem hc.2]; rfl
  have hlt := UInt8.toNat_lt (s.getD i.toNat 0)
  refine yv (v := .int .u8 ((s.getD i.toNat 0).toNat : Int)) (w' := c.w) ?_ (outP_none ⟨rfl, ?_⟩)
  ·have hg : (⟨s.toArray⟩ : ByteArray)[i.toNat]? = some (s.getD i.toNat 0) := by
    rw [← hb]
    have hsz : (⟨s.toArray⟩ : ByteArray).size = s.length := rfl
    rw [getElem?_pos _ _ (by rw [hsz]; exact hc.2), List.getElem?_eq_getElem hc.2]
    rfl
   simp only [run, execOp, hop, Instr.index, e1, e2, asIntOf, Sem.run_bind, Sem.run_pure, Result.andThen_ok, hru, hc.1, if_true, hg]
  ·generalize s.getD i.toNat 0 = b at hlt
   simp only [Rng, IntKind.min, IntKind.max, IntKind.bits, IntKind.signed]
   simp
   omega
 ·cases hr
theorem int_out {k : IntKind} {a : Int} (h : Rng k a) : OutP c0 c ρ S nid (.int k a) .none (.int k a) c.w := outP_none ⟨rfl, h⟩
theorem bool_out {b : Bool} : OutP c0 c ρ S nid (.bool b) .none (.bool b) c.w := outP_none rfl
theorem bin_sound (hE : EnvOk E) (h : Sim E c0 c ρ S F) {o : Oper} {op : BinOp} {U W : TypeId} {x y : Operand} {k k' : IntKind} {a b : Int} (hop : o.op = .binOp op U x y W) {cnd : Prop} {v : V} {e : Eff}
  (hx : ev F x = .int k a) (hy : ev F y = .int k' b) (hxr : Rng k a) (hyr : Rng k' b) (hr : (if k = k' then intOp op k a b else shOp op k a b) = some (cnd, v, e)) (hc : cnd) : Yields E.P (OutP c0 c ρ S nid v e) (run E.P F o c.w) := by
 split at hr
 ·rename_i hk
  subst hk
  cases op <;> simp only [intOp, rOk, rIf, Option.some.injEq, Prod.mk.injEq] at hr <;> obtain ⟨rfl, rfl, rfl⟩ := hr
  ·exact y_add hop hx hy (int_out (rng_addI k a b))
  ·exact y_sub hop hx hy (int_out (rng_subI k a b))
  ·exact y_mul hop hx hy (int_out (rng_mulI k a b))
  ·exact y_quo hop hx hy hc (int_out (rng_quoI k a b))
  ·exact y_rem hop hx hy hc (int_out (rng_remI b hxr))
  ·exact y_band hop hx hy (int_out (rng_andI k a b))
  ·exact y_bor hop hx hy (int_out (rng_orI k a b))
  ·exact y_bxor hop hx hy (int_out (rng_xorI k a b))
  ·exact y_shl hop hx hy hc (int_out (rng_shlI k a b))
  ·exact y_shr hop hx hy hc (int_out (rng_shrI b hxr))
  ·exact y_bandNot hop hx hy (int_out (rng_andNotI k a b))
  ·exact y_eql hop hx hy bool_out
  ·exact y_neq hop hx hy bool_out
  ·exact y_lss hop hx hy bool_out
  ·exact y_leq hop hx hy bool_out
  ·exact y_gtr hop hx hy bool_out
  ·exact y_geq hop hx hy bool_out
 ·cases op
  case shl => cases hr; exact y_shl hop hx hy hc (int_out (rng_shlI k a b))
  case shr => cases hr; exact y_shr hop hx hy hc (int_out (rng_shrI b hxr))
  all_goals cases hr
end
end Go.Proofs.Ytcbdmoihobdjaaa
