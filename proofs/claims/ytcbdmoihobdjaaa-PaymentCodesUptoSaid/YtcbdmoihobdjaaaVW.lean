import Derived.Test.YtcbdmoihobdjaaaVD
namespace Go.Proofs.Ytcbdmoihobdjaaa
open Go.RowKit
def Weak (E : Env) (S S1 : St) : Prop := ∀ c0 c ρ F, SimN E c0 c ρ S F → ∃ c1 ρ1, c1.w = c.w ∧ SimN E c0 c1 ρ1 S1 F
abbrev Cuts := List Nat
def firstR : Code → Option Nat
 | .region id _ _ => some id
 | .seq a b => match firstR a with
  | some i => some i
  | none => firstR b
 | .cond _ a b => match firstR a with
  | some i => some i
  | none => firstR b
 | .block _ a => firstR a
 | .loop a => firstR a
 | _ => none
def cutAt (J : Cuts) (b : Code) : Bool := match firstR b with
 | some i => memN J i
 | none => false
def weakK (E : Env) (M : St → Prop) (S : St) : Prop := ∃ S1, Weak E S S1 ∧ M S1
def regionK (E : Env) (ops : Array Oper) : Bool → (St → Prop) → St → Prop
 | false, K, S => opsK E 0 [] ops.toList K S
 | true, K, S => ∃ n m wr wl need ub, (wlB ops m wl && flowB n m ops wr need && ((List.range m).all fun i => (need.getD i []).all fun j => decide (j < i))) = true ∧ ubB m need ub S.nx = true ∧ drawK E S wr wl need ub K m 0 ops.toList []
def thenK (Q : Exit → St → Prop) (K : St → Prop) : Exit → St → Prop
 | .normal, S => K S
 | e, S => Q e S
def blockK (Q : Exit → St → Prop) (id : Nat) : Exit → St → Prop
 | .exit j, S => if j = id then Q .normal S else Q (.exit j) S
 | e, S => Q e S
def condK (v : Option V) (A B : Prop) : Prop := match v with
 | some (.bool b) => branch b true A B
 | _ => False
def wpA (E : Env) (J : Cuts) : Code → (Exit → St → Prop) → St → Prop
 | .skip, Q, S => Q .normal S
 | .region id ops d, Q, S => regionK E ops d (Q .normal) S
 | .seq a b, Q, S => match cutAt J b with
  | false => wpA E J a (thenK Q (wpA E J b Q)) S
  | true => wpA E J a (thenK Q (weakK E (wpA E J b Q))) S
 | .cond x a b, Q, S => condK (S.ev E.gv x) (wpA E J a Q S) (wpA E J b Q S)
 | .block id a, Q, S => wpA E J a (blockK Q id) S
 | .loop a, Q, S => ∃ (I : Nat → St → Prop) (k0 : Nat), (∃ S1, Weak E S S1 ∧ I k0 S1) ∧ ∀ k S', I k S' → wpA E J a (thenK Q fun S2 => ∃ k', k' < k ∧ ∃ S3, Weak E S2 S3 ∧ I k' S3) S'
 | .ret, Q, S => Q .ret S
 | .exit id, Q, S => Q (.exit id) S
 | .scope a, Q, S => False
 | _, _, _ => False
def slotsC (n : Nat) : Code → Bool
 | .region _ ops _ => slotsB n ops
 | .seq a b => slotsC n a && slotsC n b
 | .cond _ a b => slotsC n a && slotsC n b
 | .block _ a => slotsC n a
 | .loop a => slotsC n a
 | _ => true
section
variable {E : Env} {c0 c : Cx} {ρ : Ro} {S : St} {F : Fm}
def Ends (E : Env) (c0 : Cx) (n : Nat) (Q : Exit → St → Prop) (e : Exit) (a : Act) (w : World) : Prop := ∃ c ρ S F, c.w = w ∧ SimN E c0 c ρ S F ∧ Fr n F a ∧ Q e S
theorem wpA_sound (hE : EnvOk E) (hmo : E.P.follows .mixedOrders = true) {n : Nat} {J : Cuts} : ∀ (code : Code) (Q : Exit → St → Prop) (QC : Exit → Act → World → Prop), slotsC n code = true → (∀ e a w, Ends E c0 n Q e a w → QC e a w) →
  ∀ c ρ S F a, SimN E c0 c ρ S F → Fr n F a → wpA E J code Q S → code.wp E.P QC a c.w := by
 intro code
 induction code with
 | skip =>
  intro Q QC hs hQ c ρ S F a h hf hk
  exact wp_skip (hQ _ _ _ ⟨c, ρ, S, F, rfl, h, hf, hk⟩)
 | region id ops d =>
  intro Q QC hs hQ c ρ S F a h hf hk
  have main : ∀ c ρ S F a, SimN E c0 c ρ S F → Fr n F a → regionK E ops d (Q .normal) S → (Code.region id ops d).wp E.P QC a c.w := by
   intro c ρ S F a h hf hk
   have hT : Then E c0 n (Q .normal) (QC .normal) := fun c ρ S F a h hf hk => hQ _ _ _ ⟨c, ρ, S, F, rfl, h, hf, hk⟩
   cases d with
   | false =>
    refine wp_region ?_
    have := ops_sound hE hs hT ops.toList [] [] rfl (fun j t hj => by simp [getA] at hj) c ρ S F a h hf hk
    rw [List.range_eq_range']
    simpa using this
   | true =>
    obtain ⟨n', m, wr, wl, need, ub, hB, hU, hk⟩ := hk
    simp only [Bool.and_eq_true, List.all_eq_true, List.mem_range, decide_eq_true_eq] at hB
    exact draw_sound hB.1.1 hE hmo hs hB.1.2 hU hB.2 hT h hf hk
  exact main c ρ S F a h hf hk
 | seq x y ihx ihy =>
  intro Q QC hs hQ c ρ S F a h hf hk
  simp only [slotsC, Bool.and_eq_true] at hs
  simp only [wpA] at hk
  split at hk
  ·refine wp_seq (ihx _ _ hs.1 ?_ c ρ S F a h hf hk)
   clear hk
   rintro e a w ⟨c, ρ, S, F, rfl, h, hf, hk⟩
   cases e with
   | normal => exact ihy Q QC hs.2 hQ c ρ S F a h hf hk
   | _ => exact hQ _ _ _ ⟨c, ρ, S, F, rfl, h, hf, hk⟩
  ·refine wp_seq (ihx _ _ hs.1 ?_ c ρ S F a h hf hk)
   clear hk
   rintro e a w ⟨c, ρ, S, F, rfl, h, hf, hk⟩
   cases e with
   | normal =>
    obtain ⟨S1, hw, hM⟩ := hk
    obtain ⟨c1, ρ1, e1, h1⟩ := hw c0 c ρ F h
    have := ihy Q QC hs.2 hQ c1 ρ1 S1 F a h1 hf hM
    rwa [e1] at this
   | _ => exact hQ _ _ _ ⟨c, ρ, S, F, rfl, h, hf, hk⟩
 | cond x a b iha ihb =>
  intro Q QC hs hQ c ρ S F act h hf hk
  simp only [slotsC, Bool.and_eq_true] at hs
  simp only [wpA] at hk
  unfold condK at hk
  split at hk
  ·rename_i t ht
   have hv := ev_rd h.1 ht
   simp only [rd] at hv
   exact wp_if hf hv (fun e => iha Q QC hs.1 hQ c ρ S F act h hf (hk.1 e)) (fun e => ihb Q QC hs.2 hQ c ρ S F act h hf (hk.2 e))
  ·exact hk.elim
 | block id x ih =>
  intro Q QC hs hQ c ρ S F a h hf hk
  refine wp_block (ih _ _ hs ?_ c ρ S F a h hf hk)
  clear hk
  rintro e a w ⟨c, ρ, S, F, rfl, h, hf, hk⟩
  cases e with
  | exit j =>
   simp only [blockK] at hk
   simp only [Exit.inBlock]
   split at hk
   ·rename_i e; subst e
    rw [if_pos rfl]
    exact hQ _ _ _ ⟨c, ρ, S, F, rfl, h, hf, hk⟩
   ·rename_i e
    rw [if_neg (by simpa using e)]
    exact hQ _ _ _ ⟨c, ρ, S, F, rfl, h, hf, hk⟩
  | _ => exact hQ _ _ _ ⟨c, ρ, S, F, rfl, h, hf, hk⟩
 | loop x ih =>
  intro Q QC hs hQ c ρ S F a h hf hk
  simp only [wpA] at hk
  obtain ⟨I, k0, ⟨S1, hw, hI⟩, hround⟩ := hk
  obtain ⟨c1, ρ1, e1, h1⟩ := hw c0 c ρ F h
  refine wp_rounds (fun k a w => ∃ c ρ S F, c.w = w ∧ SimN E c0 c ρ S F ∧ Fr n F a ∧ I k S) k0 ⟨c1, ρ1, S1, F, e1, h1, hf, hI⟩ ?_
  rintro k a w ⟨c, ρ, S, F, rfl, h, hf, hI⟩
  refine ih _ _ hs ?_ c ρ S F a h hf (hround k S hI)
  rintro e a w ⟨c, ρ, S, F, rfl, h, hf, hk⟩
  cases e with
  | normal =>
   obtain ⟨k', hlt, S3, hw, hI⟩ := hk
   obtain ⟨c1, ρ1, e1, h1⟩ := hw c0 c ρ F h
   exact ⟨k', hlt, c1, ρ1, S3, F, e1, h1, hf, hI⟩
  | _ => exact hQ _ _ _ ⟨c, ρ, S, F, rfl, h, hf, hk⟩
 | ret =>
  intro Q QC hs hQ c ρ S F a h hf hk
  exact wp_ret (hQ _ _ _ ⟨c, ρ, S, F, rfl, h, hf, hk⟩)
 | exit id =>
  intro Q QC hs hQ c ρ S F a h hf hk
  exact wp_exit (hQ _ _ _ ⟨c, ρ, S, F, rfl, h, hf, hk⟩)
 | _ =>
  intro Q QC hs hQ c ρ S F a h hf hk
  exact hk.elim
def resV (tb : TypeId → TI) (S : St) : ResultVar → Option V
 | .tmp t => getA S.F t
 | .cell t T => match getA S.F t with
  | some (.ptr id 0) => match getA S.H id with
   | some (.var n g d) => if (tb T).ok = true ∧ (tb T).n = n ∧ (tb T).g = g then some d else none
   | some (.pvar n g d) => if (tb T).ok = true ∧ (tb T).n = n ∧ (tb T).g = g then some d else none
   | _ => none
  | _ => none
def resL (tb : TypeId → TI) (S : St) : List ResultVar → Option (List V)
 | [] => some []
 | x :: l => match resV tb S x, resL tb S l with
  | some v, some vs => some (v :: vs)
  | _, _ => none
def tupV : List V → V
 | [v] => v
 | vs => .tup vs
def outOk (E : Env) (S : St) (v : V) (r : V) (H : List Blk) : Prop :=
 ∀ c0 c ρ F u, c0.Y = [] → SimN E c0 c ρ S F → rd ρ c v u → ∃ c1 ρ1, c1.w = c.w ∧ c0.le c1 ∧ rd ρ1 c1 r u ∧ HOk c0 c1 ρ1 H
def retK (E : Env) (rs : List ResultVar) (r : V) (H : List Blk) : Exit → St → Prop
 | .ret, S => match resL E.tb S rs with
  | some vs => outOk E S (tupV vs) r H
  | none => False
 | _, _ => False
theorem resV_run (hE : EnvOk E) (h : Sim E c0 c ρ S F) {x : ResultVar} {v : V} (hx : resV E.tb S x = some v) : ∃ u, ResIs E.P F c.w x u ∧ rd ρ c v u := by
 cases x with
 | tmp t => exact ⟨F t, rfl, h.slot t v hx⟩
 | cell t T =>
  simp only [resV] at hx
  split at hx
  ·rename_i id ht
   have hp := h.slot _ _ ht
   simp only [rd] at hp
   obtain ⟨b, hb, he⟩ := hp
   split at hx
   ·rename_i n g d hH
    obtain ⟨⟨h1, rfl, rfl⟩, hx2⟩ := ite_some hx
    cases hx2
    obtain ⟨b', e1, e2, hv⟩ := h.heap _ _ hH
    rw [hb] at e1; cases e1
    obtain ⟨u, hu, hu'⟩ := res_cell ((hE.t T h1).ty ρ) hv he
    exact ⟨u, hu, val_rd hu'⟩
   ·rename_i n g d hH
    obtain ⟨⟨h1, rfl, rfl⟩, hx2⟩ := ite_some hx
    cases hx2
    obtain ⟨b', e1, hv⟩ := h.heap _ _ hH
    rw [hb] at e1; cases e1
    obtain ⟨b2, o2, cs, e3, _, _, hc, hi⟩ := hv
    cases e3
    have hrun := run_loadVar_at (P := E.P) ((hE.t T h1).ty ro0) hi hc
    exact ⟨_, ⟨_, he, hrun⟩, val0_rd ⟨cs, hi, rfl⟩⟩
   ·cases hx
  ·cases hx
theorem resL_run (hE : EnvOk E) {n : Nat} {a : Act} (h : Sim E c0 c ρ S F) (hf : Fr n F a) : ∀ {l : List ResultVar} {vs : List V}, resL E.tb S l = some vs → ∃ us : List Value, us.length = l.length ∧ (l.mapM (oneResult a.tmps)).run E.P c.w = .ok us c.w ∧ rdT ρ c vs us
 | [], vs, hx => by
  simp only [resL, Option.some.injEq] at hx
  subst hx
  exact ⟨[], rfl, by simp, rfl⟩
 | x :: l, vs, hx => by
  simp only [resL] at hx
  split at hx
  ·rename_i v vs' h1 h2
   cases hx
   obtain ⟨u, hu, hr⟩ := resV_run hE h h1
   obtain ⟨us, hl, hrun, hrs⟩ := resL_run hE h hf h2
   refine ⟨u :: us, by simp [hl], ?_, ?_⟩
   ·simp only [List.mapM_cons, Sem.run_bind, resIs_run hf hu, Result.andThen_ok, hrun, Sem.run_pure]
   ·simp only [rdT]; exact ⟨u, us, rfl, hr, hrs⟩
  ·cases hx
theorem results_run (hE : EnvOk E) {n : Nat} {a : Act} {fn : Func} (h : Sim E c0 c ρ S F) (hf : Fr n F a) {vs : List V} (hx : resL E.tb S fn.results.toList = some vs) : ∃ u, (results fn a.tmps).run E.P c.w = .ok u c.w ∧ rd ρ c (tupV vs) u := by
 obtain ⟨us, hl, hrun, hrs⟩ := resL_run hE h hf hx
 have hrun' : (fn.results.mapM (oneResult a.tmps)).run E.P c.w = .ok us.toArray c.w := by
  rw [Array.mapM_eq_mapM_toList]
  simp only [map_eq_pure_bind, Sem.run_bind, hrun, Result.andThen_ok, Sem.run_pure]
 refine ⟨if h : us.toArray.size = 1 then us.toArray[0] else .tuple us.toArray, ?_, ?_⟩
 ·rw [results_eq]
  simp only [Sem.run_bind, hrun', Result.andThen_ok, Sem.run_pure]
 ·match vs, us, hrs with
  | [], us, hrs =>
   simp only [rdT] at hrs
   subst hrs
   simp only [tupV, rd]
   exact ⟨[], rfl, rfl⟩
  | [v], us, hrs =>
   simp only [rdT] at hrs
   obtain ⟨u, c2, rfl, h1, rfl⟩ := hrs
   exact h1
  | v :: v' :: vs, us, hrs =>
   have hrs' := hrs
   simp only [rdT] at hrs'
   obtain ⟨u, c2, rfl, h1, u', c3, rfl, h2, h3⟩ := hrs'
   simp only [tupV, rd]
   refine ⟨u :: u' :: c3, ?_, hrs⟩
   simp
def slotsA : Nat → List V → List (Nat × V)
 | _, [] => []
 | i, v :: l => (i, v) :: slotsA (i + 1) l
theorem getA_slotsA : ∀ {l : List V} {i t : Nat}, getA (slotsA i l) t = if i ≤ t then l[t - i]? else none
 | [], i, t => by simp [slotsA, getA]
 | v :: l, i, t => by
  simp only [slotsA, getA, getA_slotsA]
  by_cases h : i = t
  ·subst h; simp
  ·rw [if_neg h]
   by_cases h1 : i ≤ t
   ·rw [if_pos h1, if_pos (by omega)]
    have : t - i = (t - (i + 1)) + 1 := by omega
    rw [this, List.getElem?_cons_succ]
   ·rw [if_neg h1, if_neg (by omega)]
theorem enterV (hE : EnvOk E) (hmo : E.P.follows .mixedOrders = true) {f : FuncId} {fn : Func} {code : Code} {ws : List V} {r : V} {H : List Blk} {n : Nat} (J : Cuts) (hf : E.P.funcs[f]? = some fn) (hb : fn.body = some code) (hnt : fn.ntmps = n)
  (hsl : (slotsC n code && decide (ws.length ≤ n) && !(fn.name == "runtime.NumGoroutine")) = true)
  (h : wfL ws → wpA E J code (retK E fn.results.toList r H) ⟨slotsA 0 ws, [], 0⟩) : CallOk E f ws r H := by
 simp only [Bool.and_eq_true, Bool.not_eq_true', decide_eq_true_eq] at hsl
 refine ⟨fun as w => ?_, fun c us hY hg hus => ?_⟩
 ·have hn : ¬ fn.name = "runtime.NumGoroutine" := by simpa using hsl.2
  simp [callFunc, hf, hb, hn]
 have hlen : us.length = ws.length := by
  have : ∀ {l : List V} {cs : List Value}, rdT ro0 c l cs → cs.length = l.length := by
   intro l
   induction l with
   | nil => intro cs hc; simp only [rdT] at hc; subst hc; rfl
   | cons d l ih =>
    intro cs hc
    simp only [rdT] at hc
    obtain ⟨u, c2, rfl, _, h3⟩ := hc
    simp [ih h3]
  exact this hus
 have hall := h (rdT_wf hus)
 refine calls_of_wp hf hb ?_
 have hfr : Fr n (fun t => (us.toArray ++ Array.replicate (n - us.toArray.size) undef).getD t undef) { tmps := us.toArray ++ Array.replicate (fn.ntmps - us.toArray.size) undef, defers := [] } := by
  refine ⟨?_, rfl, fun t => by rw [hnt]⟩
  simp [hnt]; omega
 have hS : SimN E c c ro0 ⟨slotsA 0 ws, [], 0⟩ (fun t => (us.toArray ++ Array.replicate (n - us.toArray.size) undef).getD t undef) := by
  refine ⟨⟨Since.refl c, hg, ?_, fun i b hb => by simp [getA] at hb, fun i j bi bj k hij hb => by simp [getA] at hb⟩, fun i _ => rfl⟩
  intro t v ht
  rw [getA_slotsA] at ht
  simp only [Nat.zero_le, if_true, Nat.sub_zero] at ht
  obtain ⟨u, hu, hr⟩ := rdT_get hus ht
  have hlt : t < us.length := (List.getElem?_eq_some_iff.1 hu).1
  have : (us.toArray ++ Array.replicate (n - us.toArray.size) undef).getD t undef = u := by
   have he : us[t] = u := by simpa [List.getElem?_eq_getElem hlt] using hu
   simp [Array.getD_eq_getD_getElem?, Array.getElem?_append, hlt, he]
  rw [this]; exact hr
 refine wpA_sound hE hmo code _ _ hsl.1.1 ?_ c ro0 _ _ _ hS hfr hall
 rintro e a w ⟨c', ρ', S', F', rfl, hS, hf', hk⟩
 cases e with
 | ret =>
  simp only [retK] at hk
  split at hk
  ·rename_i vs hvs
   obtain ⟨u, hu, hr⟩ := results_run hE hS.1 hf' hvs
   obtain ⟨c1, ρ1, e1, hle, hr1, hH⟩ := hk c c' ρ' F' u hY hS hr
   refine ⟨hf'.defers, u, hu, u, c1, ρ1, rfl, e1, hle, hr1, hH⟩
  ·exact hk.elim
 | _ => exact hk.elim
end
end Go.Proofs.Ytcbdmoihobdjaaa
