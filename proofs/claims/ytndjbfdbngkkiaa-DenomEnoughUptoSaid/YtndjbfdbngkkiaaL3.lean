/- What denom.change returns: the preferred change, if there is any. -/
import Derived.Test.YtndjbfdbngkkiaaL2
namespace Go.Proofs.Ytndjbfdbngkkiaa
open Go.RowKit
def Vl (l : List S_api_Denom) : Nat → Int := fun j => (gt l (j : Int)).Value
def Cn (c : List Int) : Nat → Int := fun j => gt c (j : Int)
/-- What change answers. -/
def Changed (l : List S_api_Denom) (most : List Int) (amount : Int) (r : List Int × Bool) : Prop :=
  (r = ([], false) ∧ ∀ c, Ok (Vl l) (Cn most) c l.length → sumV c (Vl l) l.length ≠ amount) ∨ (r.2 = true ∧ r.1.length = l.length ∧ Best (Vl l) (Cn most) l.length amount (Cn r.1))
/-- The rows of the table so far. -/
def Rows (l : List S_api_Denom) (most : List Int) (amount : Int) (p : Int × List (List S_denom_way)) : Prop :=
  0 ≤ p.1 ∧ p.1 ≤ l.length ∧ p.2.length = l.length + 1 ∧ ∀ k : Nat, (k : Int) ≤ p.1 → (gt p.2 (k : Int)).length = (amount + 1).toNat ∧ ∀ a, 0 ≤ a → a ≤ amount → Right (Vl l) (Cn most) k a (gt (gt p.2 (k : Int)) a)
def Row (l : List S_api_Denom) (most : List Int) (amount : Int) (k : Nat) (p : Int × List S_denom_way) : Prop :=
  0 ≤ p.1 ∧ p.1 ≤ amount + 1 ∧ p.2.length = (amount + 1).toNat ∧ (∀ a, 0 ≤ a → a < p.1 → Right (Vl l) (Cn most) (k + 1) a (gt p.2 a)) ∧ ∀ a, p.1 ≤ a → a ≤ amount → (gt p.2 a).ok = false
def Cell (l : List S_api_Denom) (most : List Int) (amount : Int) (k : Nat) (a : Int) (p : Int × List S_denom_way) : Prop :=
  0 ≤ p.1 ∧ p.1 ≤ gt most (k : Int) + 1 ∧ p.2.length = (amount + 1).toNat ∧ (∀ b, 0 ≤ b → b < a → Right (Vl l) (Cn most) (k + 1) b (gt p.2 b)) ∧ (∀ b, a + 1 ≤ b → b ≤ amount → (gt p.2 b).ok = false) ∧ Part (Vl l) (Cn most) k a p.1 (gt p.2 a)
variable {l : List S_api_Denom} {most : List Int} {amount : Int} {k : Nat} {a : Int}
theorem Cell.put {n : Int} {row : List S_denom_way} {w : S_denom_way} (h : Cell l most amount k a (n, row)) (ha0 : 0 ≤ a) (ha1 : a ≤ amount) (hn : n ≤ gt most (k : Int)) (hw : Part (Vl l) (Cn most) k a (n + 1) w) : Cell l most amount k a (n + 1, st row a w) := by
  obtain ⟨h1, h2, h3, h4, h5, h6⟩ := h
  refine ⟨by show 0 ≤ n + 1; have : 0 ≤ n := h1; omega, by show n + 1 ≤ _; omega, by show (st row a w).length = _; rw [st_len]; exact h3, fun b g0 g1 => ?_, fun b g0 g1 => ?_, ?_⟩
  · show Right _ _ _ _ (gt (st row a w) b)
    rw [gt_st, if_neg (by omega)]; exact h4 b g0 g1
  · show (gt (st row a w) b).ok = false
    rw [gt_st, if_neg (by omega)]; exact h5 b g0 g1
  · show Part _ _ _ _ (n + 1) (gt (st row a w) a)
    rw [gt_st, if_pos ⟨rfl, by have : row.length = _ := h3; omega⟩]; exact hw
theorem Cell.pass {n : Int} {row : List S_denom_way} (h : Cell l most amount k a (n, row)) (hn : n ≤ gt most (k : Int)) (hw : Part (Vl l) (Cn most) k a (n + 1) (gt row a)) : Cell l most amount k a (n + 1, row) := by
  obtain ⟨h1, h2, h3, h4, h5, h6⟩ := h
  exact ⟨by show 0 ≤ n + 1; have : 0 ≤ n := h1; omega, by show n + 1 ≤ _; omega, h3, h4, h5, hw⟩
theorem Cell.done {n : Int} {row : List S_denom_way} (h : Cell l most amount k a (n, row)) (ha0 : 0 ≤ a) (ha1 : a ≤ amount) (hn : ∀ c, Ok (Vl l) (Cn most) c (k + 1) → sumV c (Vl l) (k + 1) = a → c k < n) : Row l most amount k (a + 1, row) := by
  obtain ⟨h1, h2, h3, h4, h5, h6⟩ := h
  refine ⟨by show 0 ≤ a + 1; omega, by show a + 1 ≤ _; omega, h3, fun b g0 g1 => ?_, h5⟩
  by_cases e : b = a
  · subst e; exact h6.right hn
  · exact h4 b g0 (by have : b < a + 1 := g1; omega)
/-- The way back. -/
def Way (l : List S_api_Denom) (most : List Int) (amount : Int) (ways : List (List S_denom_way)) (p : Int × Int × List Int) : Prop :=
  -1 ≤ p.2.1 ∧ p.2.1 ≤ (l.length : Int) - 1 ∧ p.2.2.length = l.length ∧ 0 ≤ p.1 ∧ p.1 ≤ amount ∧ (gt (gt ways (p.2.1 + 1)) p.1).ok = true ∧
    ∀ c, Best (Vl l) (Cn most) (p.2.1 + 1).toNat p.1 c → sumC c (p.2.1 + 1).toNat = (gt (gt ways (p.2.1 + 1)) p.1).coins → Best (Vl l) (Cn most) l.length amount (fun j => if (j : Int) < p.2.1 + 1 then c j else gt p.2.2 (j : Int))
theorem change_spec (h0 : 0 ≤ amount) (hv : ∀ j, j < l.length → 0 ≤ Vl l j) (hm : ∀ j, j < l.length → 0 ≤ Cn most j) : Changed l most amount (denom_change l most amount) := by
  unfold denom_change
  refine iter_rule (P := Rows l most amount) (meas := fun p => ((l.length : Int) - p.1).toNat) (fun ag p hp hag => ?_) _ _ ?_ (by show ((l.length : Int) - 0).toNat < _; omega)
  · obtain ⟨i, ways⟩ := p
    obtain ⟨hi0, hi1, hlen, hrows⟩ := id hp
    simp only at hi0 hi1 hlen hrows hag ⊢
    by_cases hi : i < (l.length : Int)
    · rw [if_pos (decide_eq_true hi)]
      obtain ⟨k, rfl⟩ : ∃ k : Nat, i = k := ⟨i.toNat, by omega⟩
      have hk : k < l.length := by omega
      obtain ⟨hr1, hr2⟩ := hrows k (Int.le_refl _)
      refine iter_rule (P := Row l most amount k) (meas := fun p => (amount + 1 - p.1).toNat) (fun ag2 p2 hp2 hag2 => ?_) _ _ ?_ (by show (amount + 1 - 0).toNat < _; omega)
      · obtain ⟨a, row⟩ := p2
        obtain ⟨ha0, ha1, hrl, hr, hz⟩ := id hp2
        simp only at ha0 ha1 hrl hr hz hag2 ⊢
        by_cases ha : a < amount + 1
        · rw [if_pos (decide_eq_true ha)]
          have hvk := hv k hk
          refine iter_rule (P := Cell l most amount k a) (meas := fun p => (gt most (k : Int) + 1 - p.1).toNat) (fun ag3 p3 hp3 hag3 => ?_) _ _ ?_ (by show (gt most (k : Int) + 1 - 0).toNat < _; omega)
          · obtain ⟨n, row'⟩ := p3
            obtain ⟨hn0, hn1, hrl', hr', hz', hpt⟩ := id hp3
            simp only at hn0 hn1 hrl' hr' hz' hpt hag3 ⊢
            have out : (∀ c, Ok (Vl l) (Cn most) c (k + 1) → sumV c (Vl l) (k + 1) = a → c k < n) → Changed l most amount (ag2 (a + 1, row')) := fun h =>
              hag2 (a + 1, row') (hp3.done ha0 (by omega) h) (by show (amount + 1 - (a + 1)).toNat < (amount + 1 - a).toNat; omega)
            by_cases h1 : n ≤ gt most (k : Int)
            · rw [if_pos (decide_eq_true h1)]
              by_cases h2 : n * (gt l (k : Int)).Value ≤ a
              · rw [if_pos (decide_eq_true h2)]
                have hb : Right (Vl l) (Cn most) k (a - n * Vl l k) (gt (gt ways (k : Int)) (a - n * (gt l (k : Int)).Value)) := hr2 _ (by have : n * Vl l k ≤ a := h2; show 0 ≤ a - n * Vl l k; omega) (by have := Int.mul_nonneg hn0 hvk; show a - n * Vl l k ≤ _; omega)
                have body : (Vl l k = 0 → n = 0) → Changed l most amount (if (!(gt (gt ways (k : Int)) (a - (n * (gt l (k : Int)).Value))).ok) then (ag3 ((n + 1), row')) else (if (!(gt row' a).ok) then (ag3 ((n + 1), (st row' a ({ ok := true, coins := ((gt (gt ways (k : Int)) (a - (n * (gt l (k : Int)).Value))).coins + n), last := n } : S_denom_way)))) else (if (decide (((gt (gt ways (k : Int)) (a - (n * (gt l (k : Int)).Value))).coins + n) ≤ (gt row' a).coins)) then (ag3 ((n + 1), (st row' a ({ ok := true, coins := ((gt (gt ways (k : Int)) (a - (n * (gt l (k : Int)).Value))).coins + n), last := n } : S_denom_way)))) else (ag3 ((n + 1), row'))))) := by
                  intro hz0
                  have hmeas : (gt most (k : Int) + 1 - (n + 1)).toNat < (gt most (k : Int) + 1 - n).toNat := by omega
                  cases hok : (gt (gt ways (k : Int)) (a - (n * (gt l (k : Int)).Value))).ok
                  · simp only [Bool.not_false, if_true]
                    exact hag3 (n + 1, row') (hp3.pass h1 (hpt.skip hb hok)) hmeas
                  · simp only [Bool.not_true, Bool.false_eq_true, if_false]
                    have take : ((gt row' a).ok = false ∨ (gt (gt ways (k : Int)) (a - (n * (gt l (k : Int)).Value))).coins + n ≤ (gt row' a).coins) → Changed l most amount (ag3 (n + 1, st row' a ⟨true, (gt (gt ways (k : Int)) (a - (n * (gt l (k : Int)).Value))).coins + n, n⟩)) := fun hc =>
                      hag3 (n + 1, _) (hp3.put ha0 (by omega) h1 (hpt.take hb hok hc hn0 h1 hz0)) hmeas
                    cases hok2 : (gt row' a).ok
                    · simp only [Bool.not_false, if_true]
                      exact take (.inl hok2)
                    · simp only [Bool.not_true, Bool.false_eq_true, if_false]
                      by_cases hc : (gt (gt ways (k : Int)) (a - (n * (gt l (k : Int)).Value))).coins + n ≤ (gt row' a).coins
                      · rw [if_pos (decide_eq_true hc)]; exact take (.inr hc)
                      · rw [if_neg (by simpa using hc)]
                        exact hag3 (n + 1, row') (hp3.pass h1 (hpt.keep hb hok2 hok hc)) hmeas
                by_cases h3 : n = 0
                · rw [if_pos (by simp [h3])]
                  exact body fun _ => h3
                · rw [if_neg (by simpa using h3)]
                  by_cases h4 : (gt l (k : Int)).Value > 0
                  · rw [if_pos (decide_eq_true h4)]
                    exact body fun h => by have : Vl l k > 0 := h4; omega
                  · rw [if_neg (by simpa using h4)]
                    refine out fun c hc hs => ?_
                    have := (hc k (by omega)).2.2 (by have : ¬ Vl l k > 0 := h4; omega)
                    omega
              · rw [if_neg (by simpa using h2)]
                refine out fun c hc hs => Int.not_le.1 fun hle => h2 ?_
                have g1 := sumV_nn (fun j hj => hv j (by omega)) hc.less
                have g2 := Int.mul_le_mul_of_nonneg_right hle hvk
                rw [sumV] at hs
                show n * Vl l k ≤ a
                omega
            · rw [if_neg (by simpa using h1)]
              refine out fun c hc hs => ?_
              have : c k ≤ gt most (k : Int) := (hc k (by omega)).2.1
              omega
          · refine ⟨Int.le_refl _, ?_, hrl, hr, fun b g0 g1 => hz b (by omega) g1, Part.zero (hz a (Int.le_refl _) (by omega))⟩
            have : 0 ≤ gt most (k : Int) := hm k hk
            show 0 ≤ gt most (k : Int) + 1
            omega
        · rw [if_neg (by simpa using ha)]
          refine hag _ ⟨by show 0 ≤ (k : Int) + 1; omega, by show (k : Int) + 1 ≤ _; omega, by show (st ways ((k : Int) + 1) row).length = _; rw [st_len]; exact hlen, fun k' hk' => ?_⟩ (by show ((l.length : Int) - (k + 1)).toNat < ((l.length : Int) - k).toNat; omega)
          show (gt (st ways ((k : Int) + 1) row) (k' : Int)).length = _ ∧ _
          by_cases e : k' = k + 1
          · subst e
            have : gt (st ways ((k : Int) + 1) row) ((k + 1 : Nat) : Int) = row := by rw [gt_st, if_pos ⟨by omega, by omega⟩]
            rw [this]
            exact ⟨hrl, fun b g0 g1 => hr b g0 (by omega)⟩
          · have hk'' : (k' : Int) ≤ k + 1 := hk'
            have : gt (st ways ((k : Int) + 1) row) (k' : Int) = gt ways (k' : Int) := by rw [gt_st, if_neg (by omega)]
            show (gt (st ways ((k : Int) + 1) row) (k' : Int)).length = _ ∧ ∀ a, 0 ≤ a → a ≤ amount → Right _ _ _ _ (gt (gt (st ways ((k : Int) + 1) row) (k' : Int)) a)
            rw [this]
            exact hrows k' (by omega)
      · refine ⟨Int.le_refl _, by show 0 ≤ amount + 1; omega, by show (rep _ _).length = _; rw [rep_len], fun b g0 g1 => by have : b < 0 := g1; omega, fun b g0 g1 => ?_⟩
        show (gt (rep _ z_denom_way) b).ok = false
        rw [gt_repl]; split <;> rfl
    · rw [if_neg (by simpa using hi)]
      obtain rfl : i = (l.length : Int) := by omega
      obtain ⟨hr1, hr2⟩ := hrows l.length (Int.le_refl _)
      have hR := hr2 amount h0 (Int.le_refl _)
      cases hok : (gt (gt ways (l.length : Int)) amount).ok
      · simp only [Bool.not_false, if_true]
        refine .inl ⟨rfl, fun c hc hs => ?_⟩
        have := (hR.best c hc hs).1
        rw [hok] at this; cases this
      · simp only [Bool.not_true, Bool.false_eq_true, if_false]
        refine iter_rule (P := Way l most amount ways) (meas := fun p => (p.2.1 + 1).toNat) (fun ag2 p2 hp2 hag2 => ?_) _ _ ?_ (by show ((l.length : Int) - 1 + 1).toNat < _; omega)
        · obtain ⟨am, i, out⟩ := p2
          obtain ⟨g1, g2, g3, g4, g5, g6, g7⟩ := hp2
          simp only at g1 g2 g3 g4 g5 g6 g7 hag2 ⊢
          by_cases hi0 : i ≥ 0
          · rw [if_pos (decide_eq_true hi0)]
            obtain ⟨j, rfl⟩ : ∃ j : Nat, i = j := ⟨i.toNat, by omega⟩
            have hj : j < l.length := by omega
            have ej : ((j : Int) + 1).toNat = j + 1 := by omega
            rw [ej] at g7
            have hRj : Right (Vl l) (Cn most) (j + 1) am (gt (gt ways ((j : Int) + 1)) am) := by
              have := (hrows (j + 1) (by omega)).2 am g4 g5
              rwa [show ((j + 1 : Nat) : Int) = (j : Int) + 1 by omega] at this
            have hlast : gt (st out (j : Int) (gt (gt ways ((j : Int) + 1)) am).last) (j : Int) = (gt (gt ways ((j : Int) + 1)) am).last := by rw [gt_st, if_pos ⟨rfl, by omega⟩]
            rw [hlast]
            generalize hw : gt (gt ways ((j : Int) + 1)) am = w at *
            obtain ⟨c, f1, f2, f3, f4⟩ := hRj.sound g6
            have f4 := f4 j rfl
            have f5 := sumV_nn (fun i hi => hv i (by omega)) f1.less
            have f6 := Int.mul_nonneg (f1 j (by omega)).1 (hv j hj)
            rw [sumV, f4] at f2
            rw [f4] at f6
            have hRj' : Right (Vl l) (Cn most) j (am - w.last * Vl l j) (gt (gt ways (j : Int)) (am - w.last * Vl l j)) := (hrows j (by omega)).2 _ (by omega) (by omega)
            obtain ⟨d1, d2, d3⟩ := hRj.down g6 hRj'
            have ej' : ((j : Int) - 1 + 1) = j := by omega
            refine hag2 _ ⟨by show -1 ≤ (j : Int) - 1; omega, by show (j : Int) - 1 ≤ _; omega, by show (st out (j : Int) w.last).length = _; rw [st_len]; exact g3, by show 0 ≤ am - w.last * Vl l j; omega, by show am - w.last * Vl l j ≤ amount; omega, ?_, ?_⟩ (by show ((j : Int) - 1 + 1).toNat < ((j : Int) + 1).toNat; omega)
            · show (gt (gt ways ((j : Int) - 1 + 1)) (am - w.last * Vl l j)).ok = true
              rw [ej']; exact d1
            · show ∀ c, Best _ _ ((j : Int) - 1 + 1).toNat (am - w.last * Vl l j) c → sumC c ((j : Int) - 1 + 1).toNat = (gt (gt ways ((j : Int) - 1 + 1)) (am - w.last * Vl l j)).coins → Best _ _ _ _ (fun i => if (i : Int) < (j : Int) - 1 + 1 then c i else gt (st out (j : Int) w.last) (i : Int))
              rw [ej', Int.toNat_natCast]
              intro c hb hc
              obtain ⟨b1, b2⟩ := Best.step hRj g6 hRj' hb hc
              refine (g7 _ b1 b2).congr fun i hi => ?_
              show (if (i : Int) < (j : Int) + 1 then put c j w.last i else gt out (i : Int)) = _
              by_cases e : i = j
              · subst e
                rw [if_pos (by omega), put_at]
                show _ = if (i : Int) < (i : Int) then c i else gt (st out (i : Int) w.last) (i : Int)
                rw [if_neg (by omega), hlast]
              · show _ = if (i : Int) < (j : Int) then c i else gt (st out (j : Int) w.last) (i : Int)
                by_cases e2 : i < j
                · rw [if_pos (by omega), if_pos (by omega), ← put_lt i e2]
                · rw [if_neg (by omega), if_neg (by omega), gt_st, if_neg (by omega)]
          · rw [if_neg (by simpa using hi0)]
            have ei : i = -1 := by omega
            subst ei
            obtain ⟨c, f1, f2, f3, _⟩ := ((hrows 0 (by omega)).2 am g4 g5).sound g6
            rw [sumV] at f2
            subst f2
            refine .inr ⟨rfl, g3, (g7 c Best.zero f3).congr fun i hi => ?_⟩
            show (if (i : Int) < -1 + 1 then c i else gt out (i : Int)) = gt out (i : Int)
            rw [if_neg (by omega)]
        · refine ⟨by show -1 ≤ (l.length : Int) - 1; omega, Int.le_refl _, by show (rep _ _).length = _; rw [rep_len], h0, Int.le_refl _, ?_, ?_⟩
          · show (gt (gt ways ((l.length : Int) - 1 + 1)) amount).ok = true
            rw [Int.sub_add_cancel]; exact hok
          · show ∀ c, Best _ _ ((l.length : Int) - 1 + 1).toNat amount c → _ → Best _ _ _ _ (fun j => if (j : Int) < (l.length : Int) - 1 + 1 then c j else gt (rep l.length (0 : Int)) (j : Int))
            rw [Int.sub_add_cancel, Int.toNat_natCast]
            intro c hc _
            exact hc.congr fun i hi => by rw [if_pos (by omega)]
  · refine ⟨Int.le_refl _, by show (0 : Int) ≤ _; omega, by show (st (rep _ _) _ _).length = _; rw [st_len, rep_len]; omega, fun k hk => ?_⟩
    have hk : (k : Int) ≤ 0 := hk
    obtain rfl : k = 0 := by omega
    show (gt (st (rep ((l.length : Int) + 1).toNat ([] : List S_denom_way)) 0 _) ((0 : Nat) : Int)).length = _ ∧ ∀ a, 0 ≤ a → a ≤ amount → Right _ _ _ _ (gt (gt (st (rep ((l.length : Int) + 1).toNat ([] : List S_denom_way)) 0 _) ((0 : Nat) : Int)) a)
    rw [gt_st, if_pos ⟨rfl, by rw [rep_len]; omega⟩]
    refine ⟨by rw [st_len, rep_len], fun a g0 g1 => ?_⟩
    rw [gt_st]
    by_cases e : a = 0
    · subst e
      rw [if_pos ⟨rfl, by rw [rep_len]; omega⟩]
      exact Right.start rfl (by show (gt (rep _ z_denom_way) 0).coins = 0; rw [gt_rep0]; rfl)
    · rw [if_neg (by omega), gt_repl]
      split <;> exact Right.start (by rw [decide_eq_false e]; rfl) rfl
end Go.Proofs.Ytndjbfdbngkkiaa
