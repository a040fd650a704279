/- A rule of hours lets in the hours between (plain law). -/
import Derived.Test.YtbjbogfjiifcpaaDoorL5
namespace Go.Proofs.YtbjbogfjiifcpaaDoor
open Go.RowKit
/-- Whether an hour lies between. -/
def inside (x y h : Int) : Bool := if decide (x < y) then (if decide (x ≤ h) then decide (h < y) else false) else (if decide (h ≥ x) then true else decide (h < y))
theorem hour_accepts {x y h : Int} (hne : x ≠ y) (x0 : 0 ≤ x) (x1 : x ≤ 23) (y0 : 0 ≤ y) (y1 : y ≤ 23) (h0 : 0 ≤ h) (h1 : h ≤ 23) : (policy_Accepts ({ Rules := [({ Kind := 5, A := x, B := y } : S_api_Rule)] } : S_api_Policy) 0 0 0 h 0).1 = inside x y h := by
  have hv : specieref46_Valid ({ Rules := [({ Kind := 5, A := x, B := y } : S_api_Rule)] } : S_api_Policy) = true := by
    refine valid_of (show ¬ ((1 : Nat) : Int) > 20 by decide) fun r hr => ?_
    obtain rfl := List.mem_singleton.1 hr
    unfold specieref46_Rule
    simp only [letk]
    rw [in_iff.2 ⟨x0, x1⟩, in_iff.2 ⟨y0, y1⟩]
    simp [hne]
  rw [accepts_in hv ⟨by decide, by decide, by decide, ⟨h0, h1⟩, by decide⟩]
  show decide _ = _
  rw [Bool.eq_iff_iff, decide_eq_true_iff, first_lt]
  constructor
  · intro H
    exact H _ (List.mem_singleton.2 rfl)
  · intro H r hr
    obtain rfl := List.mem_singleton.1 hr
    exact H
/-- The loop over the hours, with the plain test. -/
def hoursB (x y : Int) : Nat → Int → Int → Bool
  | 0, n, _ => n == (y - x + 24) % 24
  | k + 1, n, h => if inside x y h == inside y x h then false else hoursB x y k (if inside x y h then n + 1 else n) (h + 1)
theorem hoursB_succ (x y : Int) (k : Nat) (n h : Int) : hoursB x y (k + 1) n h = if inside x y h == inside y x h then false else hoursB x y k (if inside x y h then n + 1 else n) (h + 1) := rfl
theorem hours_all : ∀ x y : Fin 24, x ≠ y → hoursB (x.val : Int) (y.val : Int) 24 0 0 = true := by decide +kernel
theorem hours_iter {x y : Int} (hne : x ≠ y) (x0 : 0 ≤ x) (x1 : x ≤ 23) (y0 : 0 ≤ y) (y1 : y ≤ 23) {F : (Int × Int → Bool) → Int × Int → Bool} {d : Int × Int → Bool}
    (hF : ∀ ag p, F ag p = if decide (p.2 < 24) = true then (if ((policy_Accepts ({ Rules := [({ Kind := 5, A := x, B := y } : S_api_Rule)] } : S_api_Policy) 0 0 0 p.2 0).1 == (policy_Accepts ({ Rules := [({ Kind := 5, A := y, B := x } : S_api_Rule)] } : S_api_Policy) 0 0 0 p.2 0).1) = true then false else (if (policy_Accepts ({ Rules := [({ Kind := 5, A := x, B := y } : S_api_Rule)] } : S_api_Policy) 0 0 0 p.2 0).1 = true then ag (addI .i64 p.1 1, p.2 + 1) else ag (p.1, p.2 + 1))) else (p.1 == (remI .i64 (addI .i64 (subI .i64 y x) 24) 24))) :
    ∀ (k fuel : Nat) (n : Int), k ≤ 24 → k < fuel → 0 ≤ n → n ≤ 24 - k → iter fuel F d (n, 24 - (k : Int)) = hoursB x y k n (24 - (k : Int)) := by
  intro k
  induction k with
  | zero =>
    intro fuel n _ hf _ _
    obtain ⟨f, rfl⟩ : ∃ f, fuel = f + 1 := ⟨fuel - 1, by omega⟩
    rw [iter, hF, if_neg (show ¬ decide ((24 : Int) - ((0 : Nat) : Int) < 24) = true by decide)]
    have e1 : subI .i64 y x = y - x := sub_ok (by omega) (by omega)
    have e2 : addI .i64 (y - x) 24 = y - x + 24 := add_ok (by omega) (by omega)
    have e3 : remI .i64 (y - x + 24) 24 = (y - x + 24) % 24 := Int.tmod_eq_emod_of_nonneg (by omega)
    rw [e1, e2, e3]; rfl
  | succ k ih =>
    intro fuel n hk hf n0 n1
    obtain ⟨f, rfl⟩ : ∃ f, fuel = f + 1 := ⟨fuel - 1, by omega⟩
    rw [iter, hF, if_pos (decide_eq_true (by show (24 : Int) - ((k + 1 : Nat) : Int) < 24; omega))]
    dsimp only
    rw [hour_accepts hne x0 x1 y0 y1 (by omega) (by omega), hour_accepts (Ne.symm hne) y0 y1 x0 x1 (by omega) (by omega)]
    have nx : (24 : Int) - ((k + 1 : Nat) : Int) + 1 = 24 - (k : Int) := by omega
    rw [nx, add_ok (by omega) (by omega), ih f n (by omega) (by omega) n0 (by omega), ih f (n + 1) (by omega) (by omega) (by omega) (by omega)]
    rw [hoursB_succ, nx]
    cases inside x y (24 - ((k + 1 : Nat) : Int)) <;> cases inside y x (24 - ((k + 1 : Nat) : Int)) <;> rfl
theorem Hours_true {a b : Int} (ha : Rng .u8 a) (hb : Rng .u8 b) : specielaw46_PolicyHours a b = true := by
  unfold specielaw46_PolicyHours
  simp only [letk, awake_true]
  rw [if_neg (by decide)]
  have hx : ∀ c : Int, Rng .u8 c → 0 ≤ remI .i64 (convI .i64 c) 24 ∧ remI .i64 (convI .i64 c) 24 ≤ 23 := by
    intro c hc
    have c0 : 0 ≤ c := hc.1
    have c1 : c ≤ 255 := hc.2
    rw [conv_i64 (by omega) (by omega), show remI .i64 c 24 = c % 24 from Int.tmod_eq_emod_of_nonneg c0]
    omega
  have h1 := hx a ha
  have h2 := hx b hb
  generalize remI .i64 (convI .i64 a) 24 = x at h1 ⊢
  generalize remI .i64 (convI .i64 b) 24 = y at h2 ⊢
  by_cases hne : x = y
  · rw [if_pos (by simpa using hne)]
  rw [if_neg (by simpa using hne)]
  have := hours_iter (d := fun _ => default) hne h1.1 h1.2 h2.1 h2.2 (F := (fun (ag6 : (Int × Int) → Bool) (p6 : Int × Int) => (if (decide (p6.2 < 24)) then (if ((policy_Accepts ({ Rules := ([({ Kind := 5, A := x, B := y } : S_api_Rule)] : List S_api_Rule) } : S_api_Policy) 0 0 0 (p6.2) 0).1 == (policy_Accepts ({ Rules := ([({ Kind := 5, A := y, B := x } : S_api_Rule)] : List S_api_Rule) } : S_api_Policy) 0 0 0 (p6.2) 0).1) then false else (if (policy_Accepts ({ Rules := ([({ Kind := 5, A := x, B := y } : S_api_Rule)] : List S_api_Rule) } : S_api_Policy) 0 0 0 (p6.2) 0).1 then (ag6 ((addI .i64 p6.1 1), (p6.2 + 1))) else (ag6 (p6.1, (p6.2 + 1))))) else (p6.1 == (remI .i64 (addI .i64 (subI .i64 y x) 24) 24))))) (fun _ _ => rfl) 24 (((24 : Int) - 0).toNat + 1) 0 (by omega) (by decide) (by omega) (by omega)
  refine Eq.trans this ?_
  have hA := hours_all ⟨x.toNat, by omega⟩ ⟨y.toNat, by omega⟩ (by intro e; have := Fin.mk.inj e; omega)
  rw [show ((⟨x.toNat, by omega⟩ : Fin 24).val : Int) = x by show ((x.toNat : Nat) : Int) = x; omega, show ((⟨y.toNat, by omega⟩ : Fin 24).val : Int) = y by show ((y.toNat : Nat) : Int) = y; omega] at hA
  exact hA
theorem specielaw46_PolicyHours_true (a b : Int) (hw : wfL [V.int .u8 a, V.int .u8 b]) : specielaw46_PolicyHours a b = true := Hours_true hw.1 hw.2.1
end Go.Proofs.YtbjbogfjiifcpaaDoor
