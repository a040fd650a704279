import Derived.Test.YtcbdmoihobdjaaaVI
namespace Go.Proofs.Ytcbdmoihobdjaaa
open Go.RowKit
section
variable {E : Env} {J : Cuts} {k : List Ct} {S S1 : St} {c0 c : Cx} {ρ : Ro} {F : Fm}
theorem lentY_mine (h : Sim E c0 c ρ S F) {ids : List Nat} {Hin : List Blk} (hi : insB S.H ids ids Hin) {x : Nat} (hx : x ∈ lentY ρ ids) : ∃ i a, i ∈ ids ∧ getA S.H i = some a ∧ privB a = true ∧ blkOf ρ i = some x := by
 obtain ⟨hlen, hget⟩ := insB_get hi
 obtain ⟨i, hm, hb⟩ := List.mem_filterMap.1 hx
 obtain ⟨j, hj, e⟩ := List.getElem_of_mem hm
 have hjH : j < Hin.length := by omega
 obtain ⟨a, h1, h2, _⟩ := inO_priv (hget j i Hin[j] (by rw [List.getElem?_eq_getElem hj, e]) (List.getElem?_eq_getElem hjH))
 exact ⟨i, a, hm, h1, h2, hb⟩
theorem simN_afterI (h : SimN E c0 c ρ S F) {ids : List Nat} {Hin Hout Hnew : List Blk} (hd : ids.Nodup) (hi : insB S.H ids ids Hin) (hk : kndB Hin Hout = true) (hn : ownsB Hnew = true) {c' : Cx} {ρr : Ro} {r : V} {v : Value}
  (hle : (c.lend (lentY ρ ids)).leY c') (hr : rd ρr c' r v) (hH : HOkI (c.lend (lentY ρ ids)) c' ρr (lentL (lentK ρ ids) 0 Hout ++ Hnew)) (d : Option Nat) :
  SimN E c0 c' (ro2 ids S.nx ρ ρr) (S.afterI ids Hout Hnew d r) (updO F d v) := by
 obtain ⟨hlen, hget⟩ := insB_get hi
 obtain ⟨hkl, hkk⟩ := kndB_spec hk
 have hlO : (lentL (lentK ρ ids) 0 Hout).length = ids.length := by rw [lentL_len]; omega
 have hlt : ∀ i ∈ ids, i < S.nx := by
  intro i hm
  obtain ⟨j, hj, e⟩ := List.getElem_of_mem hm
  obtain ⟨a, h1, _⟩ := inO_priv (hget j i Hin[j] (by rw [List.getElem?_eq_getElem hj, e]) (List.getElem?_eq_getElem (by omega)))
  obtain ⟨x, hx⟩ := blkOk_some (h.1.heap i a h1)
  rcases Nat.lt_or_ge i S.nx with h2 | h2
  ·exact h2
  ·rw [h.2 i h2] at hx; cases hx
 have hYX : ∀ x, x ∈ lentY ρ ids → c0.mine x := by
  intro x hx
  obtain ⟨i, a, _, h2, h3, h4⟩ := lentY_mine h.1 hi hx
  exact blkOf_ge h.1 h2 h3 x h4
 have hYlt : ∀ x, x ∈ lentY ρ ids → x < c.w.heap.size := by
  intro x hx
  obtain ⟨i, a, _, h2, h3, h4⟩ := lentY_mine h.1 hi hx
  exact blkOk_lt h3 (h.1.heap i a h2) x h4
 have hYp : ∀ x, x ∈ lentY ρ ids → x ∈ c.X := by
  intro x hx
  obtain ⟨i, a, _, h2, h3, h4⟩ := lentY_mine h.1 hi hx
  have hb := h.1.heap i a h2
  cases a with
  | var n g d => obtain ⟨b, g1, _, g3⟩ := hb; simp only [blkOf, g1, Option.some.injEq] at h4; subst h4; exact g3.1
  | lent b n g d => obtain ⟨g1, _, g3⟩ := hb; simp only [blkOf, g1, Option.some.injEq] at h4; subst h4; exact g3.1
  | own T n g z l => obtain ⟨u, g1, g2, _, _, a, cap, e, _⟩ := hb; rw [blkOf_own g1 e] at h4; exact g2.isX x h4
  | ownI T n g z l => obtain ⟨u, g1, g2, _, _, a, cap, e, _⟩ := hb; rw [blkOf_own g1 e] at h4; exact g2.isX x h4
  | pvar n g d => cases h3
  | pown n g z l => cases h3
 have hpub : c.pub c' := ⟨hle.below.size, fun x hx hnX => ⟨fun h' => hnX ((hle.old x hx (fun hy => hnX (hYp x hy))).1 h'), hle.below.block x hx (fun hy => hnX (hYp x hy))⟩⟩
 have hsince : Since c0 c' := by
  refine ⟨⟨hle.below.os.trans h.1.since.below.os, hle.below.tape.trans h.1.since.below.tape, hle.below.output.trans h.1.since.below.output, Nat.le_trans h.1.since.size hle.below.size, ?_⟩, ?_⟩
  ·intro x hx hy
   refine (hle.below.block x (Nat.lt_of_lt_of_le hx h.1.since.size) (fun hY => ?_)).trans (h.1.since.below.block x hx hy)
   rcases hYX x hY with h1 | h1
   ·omega
   ·exact hy h1
  ·intro x hx hy
   have hxX := h.1.since.X x hx hy
   refine (hle.old x (c.ok x hxX) (fun hY => ?_)).2 hxX
   rcases hYX x hY with h1 | h1
   ·have := c0.ok x hx; omega
   ·exact hy h1
 have hmine : ∀ x, (c.lend (lentY ρ ids)).mine x → c0.mine x := by
  rintro x (h1 | h1)
  ·exact .inl (Nat.le_trans h.1.since.size h1)
  ·exact hYX x h1
 -- names
 have hsg : ∀ j x, ρr j = some x → ro2 ids S.nx ρ ρr (sg ids S.nx j) = some x := fun j x hx => (ro2_sg hd hlt j).trans hx
 have hnew : ∀ i, S.nx ≤ i → ro2 ids S.nx ρ ρr i = ρr (ids.length + (i - S.nx)) := fun i hi => ro2_new hlt hi
 have hold : ∀ i b, getA S.H i = some b → i < S.nx := by
  intro i b hb
  obtain ⟨x, hx⟩ := blkOk_some (h.1.heap i b hb)
  rcases Nat.lt_or_ge i S.nx with h2 | h2
  ·exact h2
  ·rw [h.2 i h2] at hx; cases hx
 -- what the call gives back under a lent name
 have hback : ∀ j i, ids[j]? = some i → ∃ b a, Hout[j]? = some b ∧ getA S.H i = some a ∧ ((isVarB b ∧ ∀ x, ρ i = some x → ρr j = some x) ∨ (isOwnB b ∧ ∃ T n g z l, a = .own T n g z l)) ∧ blkOk c0 c' (ro2 ids S.nx ρ ρr) i (backB (getA S.H i) (renB (sg ids S.nx) b)) := by
  intro j i hj
  have hjl := (List.getElem?_eq_some_iff.1 hj).1
  have hHi : Hin[j]? = some Hin[j] := List.getElem?_eq_getElem (by omega)
  have hHo : Hout[j]? = some Hout[j] := List.getElem?_eq_getElem (by omega)
  have hin := hget j i _ hj hHi
  have hkj := hkk j _ _ hHi hHo
  generalize Hin[j] = bi at hin hkj hHi
  generalize Hout[j] = bo at hkj hHo
  have hblk : blkOk (c.lend (lentY ρ ids)) c' ρr j (lentB (lentK ρ ids j) bo) := by
   refine hH.1 j _ ?_
   rw [List.getElem?_append_left (by omega), lentL_get, Nat.zero_add, hHo]; rfl
  have hro : ro2 ids S.nx ρ ρr i = ρr j := ro2_in hd hj
  cases hS : getA S.H i with
  | none => rw [hS] at hin; unfold inO at hin; exact hin.elim
  | some a =>
   have hold := h.1.heap i a hS
   rw [hS] at hin
   have var : ∀ {n g d} {b : Nat}, bo = .var n g d → lentK ρ ids j = b → ρ i = some (.pointer (some ⟨b, 0, none⟩)) → blkOf ρ i = some b → c0.mine b ∧ ρr j = some (.pointer (some ⟨b, 0, none⟩)) ∧ Var c' b (rV (ro2 ids S.nx ρ ρr) n g) (ren (sg ids S.nx) d) := by
    intro n g d b e hb hp hbo
    subst e
    simp only [lentB, hb] at hblk
    obtain ⟨g1, g2, g3, T, cs, g4, g5, g6⟩ := hblk
    exact ⟨hmine b g2, g1, g3, T, cs, g4, g5, ren_rd hsg g6⟩
   unfold inO at hin
   split at hin
   ·rename_i T n g z l T' n' g' z' l' e
    cases e
    rcases hkj with ⟨h1, _⟩ | ⟨_, h1⟩
    ·exact h1.elim
    ·refine ⟨bo, _, hHo, rfl, .inr ⟨h1, _, _, _, _, _, rfl⟩, ?_⟩
     cases bo <;> simp only [isOwnB] at h1
     simp only [lentB] at hblk
     obtain ⟨x, g1, g2, g3, g4, g5⟩ := hblk
     simp only [renB, backB]
     exact ⟨x, hro.trans g1, g2, fun k hk => hmine k (g3 k hk), g4, g5⟩
   ·rename_i n g d n' g' d' e
    cases e
    rcases hkj with ⟨_, h1⟩ | ⟨h1, _⟩
    ·obtain ⟨b, g1, _⟩ := hold
     have hbo : blkOf ρ i = some b := by simp [blkOf, g1]
     cases bo <;> simp only [isVarB] at h1
     obtain ⟨k1, k2, k3⟩ := var rfl (by simp [lentK, hj, hbo]) g1 hbo
     refine ⟨_, _, hHo, rfl, .inl ⟨trivial, fun x hx => ?_⟩, ?_⟩
     ·rw [g1] at hx; cases hx; exact k2
     ·simp only [renB, backB]
      exact ⟨b, hro.trans k2, k1, k3⟩
    ·exact h1.elim
   ·rename_i k0 n g d n' g' d' e
    cases e
    rcases hkj with ⟨_, h1⟩ | ⟨h1, _⟩
    ·obtain ⟨g1, _⟩ := hold
     have hbo : blkOf ρ i = some k0 := by simp [blkOf, g1]
     cases bo <;> simp only [isVarB] at h1
     obtain ⟨k1, k2, k3⟩ := var rfl (by simp [lentK, hj, hbo]) g1 hbo
     refine ⟨_, _, hHo, rfl, .inl ⟨trivial, fun x hx => ?_⟩, ?_⟩
     ·rw [g1] at hx; cases hx; exact k2
     ·simp only [renB, backB]
      exact ⟨hro.trans k2, k1, k3⟩
    ·exact h1.elim
   ·exact hin.elim
 have hpr : ∀ i x, memN (ownIds S.H ids) i = false → ρ i = some x → ro2 ids S.nx ρ ρr i = some x := by
  intro i x hp hx
  have hilt : i < S.nx := by
   rcases Nat.lt_or_ge i S.nx with h2 | h2
   ·exact h2
   ·rw [h.2 i h2] at hx; cases hx
  by_cases hm : i ∈ ids
  ·obtain ⟨j, hj, e⟩ := List.getElem_of_mem hm
   have hj' : ids[j]? = some i := by rw [List.getElem?_eq_getElem hj, e]
   obtain ⟨b, a, _, h2, h3, _⟩ := hback j i hj'
   rcases h3 with ⟨_, h3⟩ | ⟨_, T, n, g, z, l, rfl⟩
   ·rw [ro2_in hd hj']; exact h3 x hx
   ·have := memN_iff.2 (ownIds_mem h2 hm)
    rw [hp] at this; cases this
  ·rw [ro2_old hm hilt]; exact hx
 -- the blocks behind the call
 have hcase : ∀ i b, getA (shiftH S.nx 0 (renBs (sg ids S.nx) Hnew) ++ setIds S.H (prH (memN (ownIds S.H ids)) S.H) ids (renBs (sg ids S.nx) Hout)) i = some b →
   (∃ (q : Nat) (b0 : Blk), i = S.nx + q ∧ Hnew[q]? = some b0 ∧ b = renB (sg ids S.nx) b0) ∨ (∃ (j : Nat) (b0 : Blk), ids[j]? = some i ∧ Hout[j]? = some b0 ∧ b = backB (getA S.H i) (renB (sg ids S.nx) b0)) ∨ (i ∉ ids ∧ ∃ b0, getA S.H i = some b0 ∧ b = prB (memN (ownIds S.H ids)) b0) := by
  intro i b hb
  have rest : getA (setIds S.H (prH (memN (ownIds S.H ids)) S.H) ids (renBs (sg ids S.nx) Hout)) i = some b → (∃ (j : Nat) (b0 : Blk), ids[j]? = some i ∧ Hout[j]? = some b0 ∧ b = backB (getA S.H i) (renB (sg ids S.nx) b0)) ∨ (i ∉ ids ∧ ∃ b0, getA S.H i = some b0 ∧ b = prB (memN (ownIds S.H ids)) b0) := by
   intro hb
   by_cases hm : i ∈ ids
   ·obtain ⟨j, hj, e⟩ := List.getElem_of_mem hm
    have hj' : ids[j]? = some i := by rw [List.getElem?_eq_getElem hj, e]
    obtain ⟨b0, _, h1, _⟩ := hback j i hj'
    have := setIds_in (H0 := S.H) (h := prH (memN (ownIds S.H ids)) S.H) (m := renBs (sg ids S.nx) Hout) hd hj' (by rw [renBs_get, h1]; rfl)
    rw [this] at hb
    cases hb
    exact .inl ⟨j, b0, hj', h1, rfl⟩
   ·rw [setIds_out hm, getA_prH] at hb
    cases hS : getA S.H i with
    | none => rw [hS] at hb; cases hb
    | some b0 => rw [hS] at hb; cases hb; exact .inr ⟨hm, b0, rfl, rfl⟩
  simp only [getA_append, getA_shiftH, Nat.add_zero] at hb
  by_cases h1 : S.nx ≤ i
  ·rw [if_pos h1, renBs_get] at hb
   cases hq : Hnew[i - S.nx]? with
   | some x => rw [hq] at hb; simp only [Option.map_some, Option.some.injEq] at hb; exact .inl ⟨i - S.nx, x, by omega, hq, hb.symm⟩
   | none => rw [hq] at hb; exact .inr (rest hb)
  ·rw [if_neg h1] at hb; exact .inr (rest hb)
 have hnewOk : ∀ q b, Hnew[q]? = some b → (∃ T n g z l, b = .own T n g z l) ∧ blkOk (c.lend (lentY ρ ids)) c' ρr (ids.length + q) b := by
  intro q b hq
  have h1 := ownsB_spec hn q b hq
  refine ⟨?_, hH.1 (ids.length + q) b ?_⟩
  ·cases b <;> simp only [isOwnB] at h1
   exact ⟨_, _, _, _, _, rfl⟩
  ·rw [List.getElem?_append_right (by omega), hlO, Nat.add_sub_cancel_left]; exact hq
 have hput : ∀ (S' : St), SimN E c0 c' (ro2 ids S.nx ρ ρr) S' F → SimN E c0 c' (ro2 ids S.nx ρ ρr) (S'.put d (ren (sg ids S.nx) r)) (updO F d v) :=
  fun S' hS => simN_put hS (ren_rd hsg hr)
 refine hput _ ⟨⟨hsince, h.1.gl.mono hpub, ?_, ?_, ?_⟩, ?_⟩
 ·intro t x ht
  simp only [getA_prF, Option.map_eq_some_iff] at ht
  obtain ⟨x0, hx0, rfl⟩ := ht
  exact pr_rd hpr (rd_mono hpub (h.1.slot t x0 hx0))
 ·intro i b hb
  rcases hcase i b hb with ⟨q, b0, rfl, hq, rfl⟩ | ⟨j, b0, hj, hb0, rfl⟩ | ⟨hm, b0, hS, rfl⟩
  ·obtain ⟨⟨T, n, g, z, l, rfl⟩, x, g1, g2, g3, g4⟩ := hnewOk q _ hq
   refine ⟨x, ?_, g2, fun k hk => hmine k (g3 k hk), g4⟩
   rw [hnew _ (Nat.le_add_right _ _), Nat.add_sub_cancel_left]; exact g1
  ·obtain ⟨b1, a, h1, _, _, h4⟩ := hback j i hj
   rw [hb0] at h1; cases h1
   exact h4
  ·refine blkOk_pr hpr (fun x hx => ?_) (blkOk_leY hle hpub (fun hp x hx hY => ?_) (h.1.heap i b0 hS))
   ·rw [ro2_old hm (hold i b0 hS)]; exact hx
   ·obtain ⟨i', a, h1, h2, h3, h4⟩ := lentY_mine h.1 hi hY
    exact h.1.sep i i' b0 a x (fun e => hm (e ▸ h1)) hS h2 hp h3 hx h4
 ·-- apart
  have hname : ∀ i b, getA (shiftH S.nx 0 (renBs (sg ids S.nx) Hnew) ++ setIds S.H (prH (memN (ownIds S.H ids)) S.H) ids (renBs (sg ids S.nx) Hout)) i = some b → privB b = true →
    (∃ (q : Nat) (bq : Blk), (lentL (lentK ρ ids) 0 Hout ++ Hnew)[q]? = some bq ∧ ro2 ids S.nx ρ ρr i = ρr q ∧ i = sg ids S.nx q ∧ ∀ x, blkOf ρr q = some x → (c.lend (lentY ρ ids)).mine x) ∨ (i ∉ ids ∧ i < S.nx ∧ ∃ b0, getA S.H i = some b0 ∧ privB b0 = true) := by
   intro i b hb hp
   have hm9 : ∀ q bq, (lentL (lentK ρ ids) 0 Hout ++ Hnew)[q]? = some bq → privB bq = true → ∀ x, blkOf ρr q = some x → (c.lend (lentY ρ ids)).mine x := by
    intro q bq hq hpq x hx
    have hb := hH.1 q bq hq
    cases bq with
    | var n g d => obtain ⟨b, g1, g2, _⟩ := hb; simp only [blkOf, g1, Option.some.injEq] at hx; subst hx; exact g2
    | lent b n g d => obtain ⟨g1, g2, _⟩ := hb; simp only [blkOf, g1, Option.some.injEq] at hx; subst hx; exact g2
    | own T n g z l => obtain ⟨u, g1, g2, g3, _, a, cap, e, _⟩ := hb; rw [blkOf_own g1 e] at hx; exact g3 x hx
    | ownI T n g z l => obtain ⟨u, g1, g2, g3, _, a, cap, e, _⟩ := hb; rw [blkOf_own g1 e] at hx; exact g3 x hx
    | pvar n g d => cases hpq
    | pown n g z l => cases hpq
   rcases hcase i b hb with ⟨q, b0, rfl, hq, rfl⟩ | ⟨j, b0, hj, hb0, rfl⟩ | ⟨hm, b0, hS, rfl⟩
   ·obtain ⟨⟨T, n, g, z, l, rfl⟩, _⟩ := hnewOk q b0 hq
    have hq' : (lentL (lentK ρ ids) 0 Hout ++ Hnew)[ids.length + q]? = some (.own T n g z l) := by
     rw [List.getElem?_append_right (by omega), hlO, Nat.add_sub_cancel_left]; exact hq
    refine .inl ⟨ids.length + q, _, hq', ?_, ?_, hm9 _ _ hq' rfl⟩
    ·rw [hnew _ (Nat.le_add_right _ _), Nat.add_sub_cancel_left]
    ·simp only [sg, List.getElem?_eq_none (Nat.le_add_right _ _), Nat.add_sub_cancel_left]
   ·have hjl := (List.getElem?_eq_some_iff.1 hj).1
    have hq' : (lentL (lentK ρ ids) 0 Hout ++ Hnew)[j]? = some (lentB (lentK ρ ids j) b0) := by
     rw [List.getElem?_append_left (by omega), lentL_get, Nat.zero_add, hb0]; rfl
    refine .inl ⟨j, _, hq', ro2_in hd hj, by simp only [sg, hj], hm9 _ _ hq' ?_⟩
    obtain ⟨b1, a, h1, _, h3, _⟩ := hback j i hj
    rw [hb0] at h1; cases h1
    rcases h3 with ⟨h3, _⟩ | ⟨h3, _⟩ <;> cases b0 <;> simp only [isVarB, isOwnB] at h3 <;> rfl
   ·exact .inr ⟨hm, hold i b0 hS, b0, hS, by rw [privB_pr] at hp; exact hp⟩
  intro i j bi bj x hij hbi hbj hpi hpj hx hx'
  rcases hname i bi hbi hpi with ⟨q, bq, hq, e, ei, hmq⟩ | ⟨hm, hl, b0, hS, hp0⟩ <;> rcases hname j bj hbj hpj with ⟨q', bq', hq', e', ej, hmq'⟩ | ⟨hm', hl', b0', hS', hp0'⟩
  ·rw [blkOf_eq2 e] at hx
   rw [blkOf_eq2 e'] at hx'
   exact hH.2.2 q q' bq bq' x (fun eq => hij (by rw [ei, ej, eq])) hq hq' hx hx'
  ·rw [blkOf_eq2 e] at hx
   rw [blkOf_eq (ro2_old hm' hl')] at hx'
   have hlt' := blkOk_lt hp0' (h.1.heap j b0' hS') x hx'
   rcases hmq x hx with h1 | h1
   ·have h1 : c.w.heap.size ≤ x := h1
    omega
   ·obtain ⟨i', a, h1, h2, h3, h4⟩ := lentY_mine h.1 hi h1
    exact h.1.sep i' j a b0' x (fun e => hm' (e ▸ h1)) h2 hS' h3 hp0' h4 hx'
  ·rw [blkOf_eq2 e'] at hx'
   rw [blkOf_eq (ro2_old hm hl)] at hx
   have hlt' := blkOk_lt hp0 (h.1.heap i b0 hS) x hx
   rcases hmq' x hx' with h1 | h1
   ·have h1 : c.w.heap.size ≤ x := h1
    omega
   ·obtain ⟨i', a, h1, h2, h3, h4⟩ := lentY_mine h.1 hi h1
    exact h.1.sep i' i a b0 x (fun e => hm (e ▸ h1)) h2 hS h3 hp0 h4 hx
  ·rw [blkOf_eq (ro2_old hm hl)] at hx
   rw [blkOf_eq (ro2_old hm' hl')] at hx'
   exact h.1.sep i j b0 b0' x hij hS hS' hp0 hp0' hx hx'
 ·intro i hi'
  simp only at hi'
  rw [hnew i (by omega)]
  exact hH.2.1 _ (by rw [List.length_append, hlO]; omega)
where blkOf_eq2 {ρ ρ' : Ro} {i j : Nat} (h : ρ' i = ρ j) : blkOf ρ' i = blkOf ρ j := by unfold blkOf; rw [h]
theorem callC_in {f : FuncId} {caps vs : List V} {d : Option Nat} {ws : List V} {r : V} {Hin Hout Hnew : List Blk} (ids : List Nat) (hc : CallIn E f ws Hin r Hout Hnew) (hd : ids.Nodup) (hi : insB S.H ids ids Hin) (hm : mtL (inVL S.H ids (vs ++ caps)) ws)
  (h : wfV r → cont E J k .normal (S.afterI ids Hout Hnew d r)) : callC E J (some (.fn f caps)) (some vs) S d k := by
 refine .inr ⟨hc.1, _, r, ?_, h⟩
 intro c0 c ρ F us hs hus
 have hk := hc.2.1
 simp only [Bool.and_eq_true] at hk
 have hrd := mt_rdT hm (inV_rdT (ids := ids) hs.1 hus)
 refine (show Calls E.P f us.toArray c.w _ from hc.2.2 (c.lend (lentY ρ ids)) us (roIds ρ ids) (lentK ρ ids) (hs.1.gl.mono (c.pub_lend _)) (lent_ok hs.1 hd hi) (rdT_mono (c.pub_lend _) hrd)).mono ?_
 rintro e w' ⟨v, c', ρr, rfl, rfl, hle, hr, hH⟩
 exact ⟨v, c', _, rfl, rfl, simN_afterI hs hd hi hk.1 hk.2 hle hr hH d, rd_wf hr⟩
theorem callC_inQ {f : FuncId} {caps vs : List V} {d : Option Nat} {ws : List V} {r : V} {Hin Hout Hnew : List Blk} (ids : List Nat) (hc : CallIn E f ws Hin r Hout Hnew) (hw : WeakQ E S S1) (hd : ids.Nodup) (hi : insB S1.H ids ids Hin) (hm : mtL (inVL S1.H ids (vs ++ caps)) ws)
  (h : wfV r → cont E J k .normal (S1.afterI ids Hout Hnew d r)) : callC E J (some (.fn f caps)) (some vs) S d k := by
 refine .inr ⟨hc.1, _, r, ?_, h⟩
 intro c0 c0' ρ0 F us hs0 hus0
 obtain ⟨c, ρ, ew, hpb, hro, hs⟩ := hw c0 c0' ρ0 F hs0
 have hus := rdT_ro hro (rdT_mono hpb hus0)
 have hk := hc.2.1
 simp only [Bool.and_eq_true] at hk
 have hrd := mt_rdT hm (inV_rdT (ids := ids) hs.1 hus)
 rw [← ew]
 refine (show Calls E.P f us.toArray c.w _ from hc.2.2 (c.lend (lentY ρ ids)) us (roIds ρ ids) (lentK ρ ids) (hs.1.gl.mono (c.pub_lend _)) (lent_ok hs.1 hd hi) (rdT_mono (c.pub_lend _) hrd)).mono ?_
 rintro e w' ⟨v, c', ρr, rfl, rfl, hle, hr, hH⟩
 exact ⟨v, c', _, rfl, rfl, simN_afterI hs hd hi hk.1 hk.2 hle hr hH d, rd_wf hr⟩
theorem callC_inP {f : FuncId} {caps vs : List V} {d : Option Nat} {ws : List V} {r : V} {Hin Hout Hnew : List Blk} (ids : List Nat) (hc : CallIn E f ws Hin r Hout Hnew) (hw : WeakP E S S1) (hd : ids.Nodup) (hi : insB S1.H ids ids Hin) (hm : mtL (inVL S1.H ids (vs ++ caps)) ws)
  (h : wfV r → cont E J k .normal (S1.afterI ids Hout Hnew d r)) : callC E J (some (.fn f caps)) (some vs) S d k := callC_inQ ids hc hw.toQ hd hi hm h
theorem arr_flat {c c' : Cx} {n : Nat} {g : Bool} : ∀ {l : List V} {cs : List Value}, flatL l → arrIs (rV ro0 n g) c cs l → arrIs (rV ro0 n g) c' cs l
 | [], _, _, h => h
 | a :: l, cs, hf, h => by
  simp only [flatL, arrIs] at hf h ⊢
  obtain ⟨c1, c2, e, ⟨h1, h2⟩, h3⟩ := h
  exact ⟨c1, c2, e, ⟨h1, flat_rd hf.1 h2⟩, arr_flat hf.2 h3⟩
theorem flatL_map {α : Type} {f : α → V} (h : ∀ x, flatV (f x)) : ∀ {l : List α}, flatL (l.map f)
 | [] => trivial
 | a :: l => ⟨h a, flatL_map h⟩
section
variable {D : Dr} {m i : Nat} {ll : List Oper} {R : List (Nat × HRes)}
theorem hcallC_kill {f : FuncId} {caps vs ws : List V} {d : Option Nat} {T n : Nat} {g : Bool} {z z' : Option Bool} {l l' : List V} (id : Nat) (hc : CallIn E f ws [.own T n g z l] (.own 0) [.own T n g z' l'] []) (hm : (memP D.ub i id && !decide (id = S.nx)) = true) (hi : insB S.H [id] [id] [.own T n g z l]) (ha : mtL (inVL S.H [id] (vs ++ caps)) ws) (hfl : flatL l')
  (h : drawC E D m (i + 1) ll ((i, ⟨d, .own S.nx, some (S.nx, .own T n g z' l')⟩) :: R)) : hcallC E D m i ll R d S (some (.fn f caps)) (some vs) := by
 obtain ⟨hlen, hget⟩ := insB_get hi
 obtain ⟨b0, hb0, hp0, _⟩ := inO_priv (hget 0 id _ rfl rfl)
 refine .inr (.inr ⟨hc.1, id, T, n, g, z', l', hm, ⟨b0, hb0, hp0⟩, fun c0 c ρ F us hs hus => ?_, h⟩)
 have hrd := mt_rdT ha (inV_rdT (ids := [id]) hs hus)
 refine (show Calls E.P f us.toArray c.w _ from hc.2.2 (c.lend (lentY ρ [id])) us (roIds ρ [id]) (lentK ρ [id]) (hs.gl.mono (c.pub_lend _)) (lent_ok hs (by simp) hi) (rdT_mono (c.pub_lend _) hrd)).mono ?_
 rintro e w' ⟨v, c', ρr, rfl, rfl, hle, hr, hH⟩
 obtain ⟨v', e1, hown, hge, hone, a, cap, es, hz⟩ := hH.1 0 _ rfl
 simp only [rd] at hr
 have ev : v' = v := by rw [hr.1] at e1; exact (Option.some.inj e1).symm
 subst ev
 have hY : ∀ k, k ∈ lentY ρ [id] ↔ blkOf ρ id = some k := by
  intro k
  simp only [lentY, List.mem_filterMap, List.mem_singleton]
  exact ⟨fun ⟨i, hi, hb⟩ => hi ▸ hb, fun hb => ⟨id, rfl, hb⟩⟩
 have hYlt : ∀ k, k ∈ lentY ρ [id] → k < c.w.heap.size := fun k hk => blkOk_lt hp0 (hs.heap id b0 hb0) k ((hY k).1 hk)
 have hYX : ∀ k, k ∈ lentY ρ [id] → k ∈ c.X := by
  intro k hk
  obtain ⟨i', a, h1, h2, h3, h4⟩ := lentY_mine hs hi hk
  have hb := hs.heap i' a h2
  cases a with
  | var n g d => obtain ⟨b, g1, _, g3⟩ := hb; simp only [blkOf, g1, Option.some.injEq] at h4; subst h4; exact g3.1
  | lent b n g d => obtain ⟨g1, _, g3⟩ := hb; simp only [blkOf, g1, Option.some.injEq] at h4; subst h4; exact g3.1
  | own T n g z l => obtain ⟨u, g1, g2, _, _, a, cap, e, _⟩ := hb; rw [blkOf_own g1 e] at h4; exact g2.isX k h4
  | ownI T n g z l => obtain ⟨u, g1, g2, _, _, a, cap, e, _⟩ := hb; rw [blkOf_own g1 e] at h4; exact g2.isX k h4
  | pvar n g d => cases h3
  | pown n g z l => cases h3
 refine ⟨v', { X := lentY ρ [id] ++ c'.X, w := c'.w, ok := fun k hk => ?_ }, rfl, rfl, ⟨hle.below.os, hle.below.tape, hle.below.output, hle.below.size, fun k hk hne => hle.below.block k hk (fun hy => hne ((hY k).1 hy)), fun k hk => ?_, fun k hk => hYX k ((hY k).2 hk)⟩, ⟨hown.1, ?_⟩, fun k hk => ?_, hone, a, cap, es, hz⟩
 ·rcases List.mem_append.1 hk with hk | hk
  ·exact Nat.lt_of_lt_of_le (hYlt k hk) hle.below.size
  ·exact c'.ok k hk
 ·simp only [List.mem_append]
  by_cases hy : k ∈ lentY ρ [id]
  ·exact ⟨fun _ => hYX k hy, fun _ => .inl hy⟩
  ·exact ⟨fun h' => (hle.old k hk hy).1 (h'.resolve_left hy), fun h' => .inr ((hle.old k hk hy).2 h')⟩
 ·rcases hown.2 with h' | ⟨g', cp, cur, e, k1, k2, k3, k4, k5, k6⟩
  ·exact .inl h'
  ·exact .inr ⟨g', cp, cur, e, List.mem_append.2 (.inr k1), k2, k3, k4, k5, arr_flat hfl k6⟩
 ·rcases hge k hk with h' | h'
  ·exact .inr h'
  ·exact .inl ((hY k).1 h')
theorem hcallC_upd {f : FuncId} {caps vs ws : List V} {d : Option Nat} {n : Nat} {g : Bool} {d0 d1 r : V} (id : Nat) {b0 b1 : Blk} (hc : CallIn E f ws [.var n g d0] r [.var n g d1] []) (hb0 : getA S.H id = some b0) (hb1 : backB (some b0) (.var n g d1) = b1) (hm : memP D.ub i id = true) (hi : insB S.H [id] [id] [.var n g d0]) (ha : mtL (inVL S.H [id] (vs ++ caps)) ws) (hpr : pureV r) (hpd : pureV d1)
  (h : drawC E D m (i + 1) ll ((i, ⟨d, r, some (id, b1)⟩) :: R)) : hcallC E D m i ll R d S (some (.fn f caps)) (some vs) := by
 obtain ⟨hlen, hget⟩ := insB_get hi
 have hin := hget 0 id _ rfl rfl
 rw [hb0] at hin
 have hk : privB b1 = true := by
  subst hb1
  cases b0 <;> rfl
 refine .inr (.inl ⟨hc.1, r, id, b1, hm, hk, ⟨b0, hb0, ?_⟩, fun c0 c ρ F us hs hus => ?_, h⟩)
 ·obtain ⟨a, e, h1, _⟩ := inO_priv hin
  cases e; exact h1
 have hrd := mt_rdT ha (inV_rdT (ids := [id]) hs hus)
 refine (show Calls E.P f us.toArray c.w _ from hc.2.2 (c.lend (lentY ρ [id])) us (roIds ρ [id]) (lentK ρ [id]) (hs.gl.mono (c.pub_lend _)) (lent_ok hs (by simp) hi) (rdT_mono (c.pub_lend _) hrd)).mono ?_
 rintro e w' ⟨v, c', ρr, rfl, rfl, hle, hr, hH⟩
 obtain ⟨e1, hmi, hv1, T, cs, g4, g5, g6⟩ := hH.1 0 _ rfl
 have hblk := hs.heap id b0 hb0
 have key : ∃ k, ρ id = some (.pointer (some ⟨k, 0, none⟩)) ∧ c0.mine k ∧ k ∈ c.X ∧ (∀ q, b0 = .lent q n g d0 → True) := by
  cases b0 with
  | var n' g' d' =>
   obtain ⟨b, h1, h2, h3⟩ := hblk
   exact ⟨b, h1, h2, h3.1, fun _ _ => trivial⟩
  | lent q n' g' d' =>
   obtain ⟨h1, h2, h3⟩ := hblk
   exact ⟨_, h1, h2, h3.1, fun _ _ => trivial⟩
  | _ => simp only [inO] at hin
 obtain ⟨k, hk1, hk2, hk3, _⟩ := key
 have hbo : blkOf ρ id = some k := by simp [blkOf, hk1]
 have hK : lentK ρ [id] 0 = k := by simp [lentK, hbo]
 rw [hK] at e1 hmi hv1 g4
 have hY : ∀ q, q ∈ lentY ρ [id] ↔ q = k := by
  intro q
  simp only [lentY, List.mem_filterMap, List.mem_singleton]
  constructor
  ·rintro ⟨i, rfl, hb⟩; rw [hbo] at hb; exact (Option.some.inj hb).symm
  ·rintro rfl; exact ⟨id, rfl, hbo⟩
 refine ⟨v, c', rfl, rfl, ⟨hle.below.os, hle.below.tape, hle.below.output, hle.below.size, fun q hq hne => hle.below.block q hq (fun hy => hne (by rw [hbo, (hY q).1 hy])), fun q hq => ?_, fun q hq => ?_⟩, ?_, pure_rd hpr hr⟩
 ·by_cases hq' : q = k
  ·subst hq'; exact ⟨fun _ => hk3, fun _ => hv1⟩
  ·exact hle.old q hq (fun hy => hq' ((hY q).1 hy))
 ·rw [hbo] at hq; cases hq; exact hk3
 ·have hvar : Var c' k (rV ρ n g) d1 := ⟨hv1, T, cs, g4, g5, pure_rd hpd g6⟩
  subst hb1
  cases b0 with
  | var n' g' d' => exact ⟨k, hk1, hk2, hvar⟩
  | lent q n' g' d' =>
   obtain ⟨h1, _⟩ := hblk
   rw [hk1] at h1
   cases h1
   exact ⟨hk1, hk2, hvar⟩
  | _ => simp only [inO] at hin
end
def outI (E : Env) (S : St) (ks : Nat → Nat) (v r : V) (Hout Hnew : List Blk) : Prop :=
 ∀ c0 c ρ F u, SimN E c0 c ρ S F → rd ρ c v u → ∃ c1 ρ1, c1.w = c.w ∧ c0.leY c1 ∧ rd ρ1 c1 r u ∧ HOkI c0 c1 ρ1 (lentL ks 0 Hout ++ Hnew)
def retKI (E : Env) (rs : List ResultVar) (ks : Nat → Nat) (r : V) (Hout Hnew : List Blk) : Exit → St → Prop
 | .ret, S => match resL E.tb S rs with
  | some vs => outI E S ks (tupV vs) r Hout Hnew
  | none => False
 | .normal, S => match resL E.tb S rs with
  | some vs => outI E S ks (tupV vs) r Hout Hnew
  | none => False
 | _, _ => False
def retCI (E : Env) (S : St) (ks : Nat → Nat) (r : V) (Hout Hnew : List Blk) : Option (List V) → Prop
 | some vs => outI E S ks (tupV vs) r Hout Hnew
 | none => False
theorem retKI_ret {rs : List ResultVar} {ks : Nat → Nat} {r : V} {Hout Hnew : List Blk} : retKI E rs ks r Hout Hnew .ret S = retCI E S ks r Hout Hnew (resL E.tb S rs) := Eq.trans rfl rfl
theorem retKI_normal {rs : List ResultVar} {ks : Nat → Nat} {r : V} {Hout Hnew : List Blk} : retKI E rs ks r Hout Hnew .normal S = retCI E S ks r Hout Hnew (resL E.tb S rs) := Eq.trans rfl rfl
def outB (H : List (Nat × Blk)) (ids : List Nat) : Option Blk → Blk → Prop
 | some (.own T n g z l), .own T' n' g' z' l' => T = T' ∧ n = n' ∧ g = g' ∧ mtZ z z' ∧ mtL l l'
 | some (.lent k n g d), .lent k' n' g' d' => k = k' ∧ n = n' ∧ g = g' ∧ mt (viewO H ids d) d'
 | _, _ => False
def outsB (H : List (Nat × Blk)) (ids : List Nat) : List Nat → List Blk → Prop
 | [], [] => True
 | i :: l, b :: m => outB H ids (getA H i) b ∧ outsB H ids l m
 | _, _ => False
theorem outsB_get {H : List (Nat × Blk)} {ids : List Nat} : ∀ {l : List Nat} {m : List Blk}, outsB H ids l m → l.length = m.length ∧ ∀ (j i : Nat) (b : Blk), l[j]? = some i → m[j]? = some b → outB H ids (getA H i) b
 | [], [], _ => ⟨rfl, by simp⟩
 | i :: l, b :: m, h => by
  simp only [outsB] at h
  obtain ⟨h1, h2⟩ := outsB_get h.2
  refine ⟨by simp [h1], fun j i' b' hi hb => ?_⟩
  cases j with
  | zero => simp at hi hb; subst hi hb; exact h.1
  | succ j => exact h2 j i' b' (by simpa using hi) (by simpa using hb)
 | [], _ :: _, h => by simp [outsB] at h
 | _ :: _, [], h => by simp [outsB] at h
theorem outB_priv {H : List (Nat × Blk)} {ids : List Nat} {o : Option Blk} {b : Blk} (h : outB H ids o b) : ∃ a, o = some a ∧ privB a = true := by
 unfold outB at h
 split at h
 ·exact ⟨_, rfl, rfl⟩
 ·exact ⟨_, rfl, rfl⟩
 ·exact h.elim
def Cx.giveI (c0 c : Cx) (L : List Nat) (h0 : c0.w.heap.size ≤ c.w.heap.size) (h : ∀ k ∈ L, k < c.w.heap.size) : Cx :=
 { X := c0.X.filter (fun k => k ∉ c0.Y) ++ L, w := c.w, ok := fun k hk => (by
  rcases List.mem_append.1 hk with hk | hk
  ·exact Nat.lt_of_lt_of_le (c0.ok k (List.mem_filter.1 hk).1) h0
  ·exact h k hk) }
theorem giveI_X {c0 c : Cx} {L : List Nat} {h0 : c0.w.heap.size ≤ c.w.heap.size} {h : ∀ k ∈ L, k < c.w.heap.size} {x : Nat} : x ∈ (Cx.giveI c0 c L h0 h).X ↔ (x ∈ c0.X ∧ x ∉ c0.Y) ∨ x ∈ L := by
 simp [Cx.giveI]
theorem out_in {ks : Nat → Nat} {v r : V} {Hout Hnew : List Blk} (ids : List Nat) (ho : outsB S.H ids ids (lentL ks 0 Hout ++ Hnew)) (hd : ids.Nodup) (hm : mt (viewO S.H ids v) r) : outI E S ks v r Hout Hnew := by
 intro c0 c ρ F u h hr
 obtain ⟨hlen, hget⟩ := outsB_get ho
 have hpriv : ∀ i ∈ ids, ∃ a, getA S.H i = some a ∧ privB a = true := by
  intro i hi
  obtain ⟨j, hj, e⟩ := List.getElem_of_mem hi
  exact outB_priv (hget j i (lentL ks 0 Hout ++ Hnew)[j] (by rw [List.getElem?_eq_getElem hj, e]) (List.getElem?_eq_getElem (by omega)))
 have hL : ∀ x ∈ ids.filterMap (blkOf ρ), x < c.w.heap.size ∧ c0.mine x ∧ x ∈ c.X ∧ ∃ i ∈ ids, blkOf ρ i = some x := by
  intro x hx
  obtain ⟨i, hi, hb⟩ := List.mem_filterMap.1 hx
  obtain ⟨a, h1, h2⟩ := hpriv i hi
  refine ⟨blkOk_lt h2 (h.1.heap i a h1) x hb, blkOf_ge h.1 h1 h2 x hb, ?_, i, hi, hb⟩
  have hbk := h.1.heap i a h1
  cases a with
  | var n g d => obtain ⟨b, g1, _, g3⟩ := hbk; simp only [blkOf, g1, Option.some.injEq] at hb; subst hb; exact g3.1
  | lent b n g d => obtain ⟨g1, _, g3⟩ := hbk; simp only [blkOf, g1, Option.some.injEq] at hb; subst hb; exact g3.1
  | own T n g z l => obtain ⟨u, g1, g2, _, _, a, cap, e, _⟩ := hbk; rw [blkOf_own g1 e] at hb; exact g2.isX x hb
  | ownI T n g z l => obtain ⟨u, g1, g2, _, _, a, cap, e, _⟩ := hbk; rw [blkOf_own g1 e] at hb; exact g2.isX x hb
  | pvar n g d => cases h2
  | pown n g z l => cases h2
 generalize hc1 : Cx.giveI c0 c (ids.filterMap (blkOf ρ)) h.1.since.size (fun k hk => (hL k hk).1) = c1
 have hw : c1.w = c.w := by subst hc1; rfl
 have hX : ∀ x, x ∈ c1.X ↔ (x ∈ c0.X ∧ x ∉ c0.Y) ∨ x ∈ ids.filterMap (blkOf ρ) := by subst hc1; intro x; exact giveI_X
 have hpub : c.pub c1 := by
  refine ⟨by rw [hw]; exact Nat.le_refl _, fun k hk hx => ⟨fun h' => ?_, by rw [hw]⟩⟩
  rcases (hX k).1 h' with h' | h'
  ·exact hx (h.1.since.X k h'.1 h'.2)
  ·exact hx (hL k h').2.2.1
 have hle : c0.leY c1 := by
  refine ⟨by rw [hw]; exact h.1.since.below, fun k hk hy => ⟨fun h' => ?_, fun h' => (hX k).2 (.inl ⟨h', hy⟩)⟩⟩
  rcases (hX k).1 h' with h' | h'
  ·exact h'.1
  ·rcases (hL k h').2.1 with h1 | h1
   ·omega
   ·exact absurd h1 hy
 have hn : ∀ i b, i ∉ ids → getA S.H i = some b → privB b = true → ∀ k, blkOf ρ i = some k → k ∉ c1.X := by
  intro i b hi hb hp k hk hmem
  rcases (hX k).1 hmem with h' | h'
  ·rcases blkOf_ge h.1 hb hp k hk with h1 | h1
   ·have := c0.ok k h'.1; omega
   ·exact h'.2 h1
  ·obtain ⟨_, _, _, j, hj, hb'⟩ := hL k h'
   obtain ⟨a, h1, h2⟩ := hpriv j hj
   exact h.1.sep i j b a k (fun e => hi (e ▸ hj)) hb h1 hp h2 hk hb'
 refine ⟨c1, roIds ρ ids, hw, hle, mt_rd hm (viewO_rd hw hpub h.1 hn hr), ?_, ?_, ?_⟩
 ·intro q b hq
  have hql : q < ids.length := by rw [hlen]; exact (List.getElem?_eq_some_iff.1 hq).1
  obtain ⟨i, hi⟩ : ∃ i, ids[q]? = some i := ⟨_, List.getElem?_eq_getElem hql⟩
  have ho' := hget q i b hi hq
  have hmem : i ∈ ids := List.mem_of_getElem? hi
  have hro : roIds ρ ids q = ρ i := by simp only [roIds, hi]
  have hmemX : ∀ x, blkOf ρ i = some x → x ∈ c1.X := fun x hx => (hX x).2 (.inr (List.mem_filterMap.2 ⟨i, hmem, hx⟩))
  cases hS : getA S.H i with
  | none => rw [hS] at ho'; unfold outB at ho'; exact ho'.elim
  | some a =>
   have hbk := h.1.heap i a hS
   rw [hS] at ho'
   unfold outB at ho'
   split at ho'
   ·rename_i T n g z l T' n' g' z' l' e
    cases e
    obtain ⟨rfl, rfl, rfl, hz, hml⟩ := ho'
    obtain ⟨x, h1, h2, h3, h4, a, cap, e, h5⟩ := hbk
    refine ⟨x, hro.trans h1, own_mt ⟨h2.1, ?_⟩ hml, h3, h4, a, cap, by rw [← mtL_len hml]; exact e, mtZ_ok hz h5⟩
    rcases h2.2 with h' | ⟨g', cp, cur, e2, k1, k2, k3, k4, k5, k6⟩
    ·exact .inl h'
    ·exact .inr ⟨g', cp, cur, e2, hmemX g' (by rw [blkOf_own h1 e, e2]; rfl), by rw [hw]; exact k2, k3, k4, k5, arrIs_mono hpub k6⟩
   ·rename_i k n g d k' n' g' d' e
    cases e
    obtain ⟨rfl, rfl, rfl, hm⟩ := ho'
    obtain ⟨h1, h2, h3, T, cs, h4, h5, h6⟩ := hbk
    exact ⟨hro.trans h1, h2, hmemX k (by simp [blkOf, h1]), T, cs, by rw [hw]; exact h4, h5, mt_rd hm (viewO_rd hw hpub h.1 hn h6)⟩
   ·exact ho'.elim
 ·intro q hq
  simp only [roIds]
  rw [List.getElem?_eq_none (by omega)]
 ·intro q q' bq bq' x hne hq hq' hk hk'
  have get : ∀ {q : Nat} {b : Blk}, (lentL ks 0 Hout ++ Hnew)[q]? = some b → ∃ i a, ids[q]? = some i ∧ getA S.H i = some a ∧ privB a = true := by
   intro q b hq
   have hql : q < ids.length := by rw [hlen]; exact (List.getElem?_eq_some_iff.1 hq).1
   have hi : ids[q]? = some ids[q] := List.getElem?_eq_getElem hql
   obtain ⟨a, h1, h2⟩ := hpriv ids[q] (List.getElem_mem hql)
   exact ⟨_, a, hi, h1, h2⟩
  obtain ⟨i, a, g1, g2, g3⟩ := get hq
  obtain ⟨i', a', g1', g2', g3'⟩ := get hq'
  have hii : i ≠ i' := by
   rintro rfl
   exact hne (nodup_idx hd g1 g1')
  rw [blkOf_eq3 (show roIds ρ ids q = ρ i by simp only [roIds, g1])] at hk
  rw [blkOf_eq3 (show roIds ρ ids q' = ρ i' by simp only [roIds, g1'])] at hk'
  exact h.1.sep i i' a a' x hii g2 g2' g3 g3' hk hk'
where blkOf_eq3 {ρ ρ' : Ro} {i j : Nat} (h : ρ' i = ρ j) : blkOf ρ' i = blkOf ρ j := by unfold blkOf; rw [h]
theorem retCI_in {ks : Nat → Nat} {vs : List V} {r : V} {Hout Hnew : List Blk} (ids : List Nat) (ho : outsB S.H ids ids (lentL ks 0 Hout ++ Hnew)) (hd : ids.Nodup) (hm : mt (viewO S.H ids (tupV vs)) r) : retCI E S ks r Hout Hnew (some vs) := out_in ids ho hd hm
def heapA : Nat → List Blk → List (Nat × Blk)
 | _, [] => []
 | i, b :: l => (i, b) :: heapA (i + 1) l
theorem getA_heapA : ∀ {l : List Blk} {i t : Nat}, getA (heapA i l) t = if i ≤ t then l[t - i]? else none
 | [], i, t => by simp [heapA, getA]
 | v :: l, i, t => by
  simp only [heapA, getA, getA_heapA]
  by_cases h : i = t
  ·subst h; simp
  ·rw [if_neg h]
   by_cases h1 : i ≤ t
   ·rw [if_pos h1, if_pos (by omega)]
    have : t - i = (t - (i + 1)) + 1 := by omega
    rw [this, List.getElem?_cons_succ]
   ·rw [if_neg h1, if_neg (by omega)]
def wfB : Blk → Prop
 | .var _ _ d => wfV d
 | .own _ _ _ _ l => l.length ≤ LEN ∧ wfL l
 | _ => True
def wfBs : List Blk → Prop
 | [] => True
 | b :: l => wfB b ∧ wfBs l
theorem wfBs_of : ∀ {l : List Blk}, (∀ (j : Nat) (b : Blk), l[j]? = some b → wfB b) → wfBs l
 | [], _ => trivial
 | b :: l, h => ⟨h 0 b rfl, wfBs_of fun j b' hb => h (j + 1) b' (by simpa using hb)⟩
theorem enterI (hE : EnvOk E) (hmo : E.P.follows .mixedOrders = true) {f : FuncId} {fn : Func} {code : Code} {ws : List V} {r : V} {Hin Hout Hnew : List Blk} {n : Nat} (J : Cuts) (hf : E.P.funcs[f]? = some fn) (hb : fn.body = some code) (hnt : fn.ntmps = n)
  (hsl : (slotsC n code && decide (ws.length ≤ n) && !(fn.name == "runtime.NumGoroutine")) = true) (hkn : (kndB Hin Hout && ownsB Hnew) = true)
  (h : ∀ ks : Nat → Nat, wfL ws → wfBs Hin → wpA E J code (retKI E fn.results.toList ks r Hout Hnew) ⟨slotsA 0 ws, heapA 0 (lentL ks 0 Hin), Hin.length⟩) : CallIn E f ws Hin r Hout Hnew := by
 simp only [Bool.and_eq_true, Bool.not_eq_true', decide_eq_true_eq] at hsl
 refine ⟨fun as w => ?_, hkn, fun c us ρ0 ks hg hin hus => ?_⟩
 ·have hn : ¬ fn.name = "runtime.NumGoroutine" := by simpa using hsl.2
  simp [callFunc, hf, hb, hn]
 have hlen : us.length = ws.length := by
  have : ∀ {l : List V} {cs : List Value}, rdT ρ0 c l cs → cs.length = l.length := by
   intro l
   induction l with
   | nil => intro cs hc; simp only [rdT] at hc; subst hc; rfl
   | cons d l ih =>
    intro cs hc
    simp only [rdT] at hc
    obtain ⟨u, c2, rfl, _, h3⟩ := hc
    simp [ih h3]
  exact this hus
 have hwfB : wfBs Hin := by
  refine wfBs_of fun j b hb => ?_
  have h1 := hin.1 j (lentB (ks j) b) (by rw [lentL_get, Nat.zero_add, hb]; rfl)
  cases b with
  | var n g d =>
   obtain ⟨_, _, _, T, cs, _, _, h6⟩ := h1
   exact rd_wf h6
  | own T n g z l =>
   obtain ⟨v, _, h2, _⟩ := h1
   refine ⟨h2.1, ?_⟩
   rcases h2.2 with ⟨_, _, rfl⟩ | ⟨g', cp, cur, e2, k1, k2, k3, k4, k5, k6⟩
   ·trivial
   ·exact rdE_wf (rdE_arr.2 k6)
  | _ => trivial
 have hall := h ks (rdT_wf hus) hwfB
 refine calls_of_wp hf hb ?_
 have hfr : Fr n (fun t => (us.toArray ++ Array.replicate (n - us.toArray.size) undef).getD t undef) { tmps := us.toArray ++ Array.replicate (fn.ntmps - us.toArray.size) undef, defers := [] } := by
  refine ⟨?_, rfl, fun t => by rw [hnt]⟩
  simp [hnt]; omega
 have hS : SimN E c c ρ0 ⟨slotsA 0 ws, heapA 0 (lentL ks 0 Hin), Hin.length⟩ (fun t => (us.toArray ++ Array.replicate (n - us.toArray.size) undef).getD t undef) := by
  refine ⟨⟨Since.refl c, hg, ?_, ?_, ?_⟩, fun i hi => hin.2.1 i (by rw [lentL_len]; exact hi)⟩
  ·intro t v ht
   rw [getA_slotsA] at ht
   simp only [Nat.zero_le, if_true, Nat.sub_zero] at ht
   obtain ⟨u, hu, hr⟩ := rdT_get hus ht
   have hlt : t < us.length := (List.getElem?_eq_some_iff.1 hu).1
   have : (us.toArray ++ Array.replicate (n - us.toArray.size) undef).getD t undef = u := by
    have he : us[t] = u := by simpa [List.getElem?_eq_getElem hlt] using hu
    simp [Array.getD_eq_getD_getElem?, Array.getElem?_append, hlt, he]
   rw [this]; exact hr
  ·intro i b hb
   rw [getA_heapA] at hb
   simp only [Nat.zero_le, if_true, Nat.sub_zero] at hb
   exact hin.1 i b hb
  ·intro i j bi bj x hij hbi hbj _ _ hx
   rw [getA_heapA] at hbi hbj
   simp only [Nat.zero_le, if_true, Nat.sub_zero] at hbi hbj
   exact hin.2.2 i j bi bj x hij hbi hbj hx
 refine wpA_sound hE hmo code _ _ hsl.1.1 ?_ c ρ0 _ _ _ hS hfr hall
 rintro e a w ⟨c', ρ', S', F', rfl, hS, hf', hk⟩
 cases e with
 | ret =>
  simp only [retKI] at hk
  split at hk
  ·rename_i vs hvs
   obtain ⟨u, hu, hr⟩ := results_run hE hS.1 hf' hvs
   obtain ⟨c1, ρ1, e1, hle, hr1, hH⟩ := hk c c' ρ' F' u hS hr
   refine ⟨hf'.defers, u, hu, u, c1, ρ1, rfl, e1, hle, hr1, hH⟩
  ·exact hk.elim
 | normal =>
  simp only [retKI] at hk
  split at hk
  ·rename_i vs hvs
   obtain ⟨u, hu, hr⟩ := results_run hE hS.1 hf' hvs
   obtain ⟨c1, ρ1, e1, hle, hr1, hH⟩ := hk c c' ρ' F' u hS hr
   refine ⟨hf'.defers, u, hu, u, c1, ρ1, rfl, e1, hle, hr1, hH⟩
  ·exact hk.elim
 | _ => exact hk.elim
end
end Go.Proofs.Ytcbdmoihobdjaaa
