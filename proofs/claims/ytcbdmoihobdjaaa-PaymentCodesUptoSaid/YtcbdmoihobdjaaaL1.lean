import Derived.Test.YtcbdmoihobdjaaaH3
namespace Go.Proofs.Ytcbdmoihobdjaaa
open Go.RowKit
theorem awake_true : specielaw38_awake = true := by decide +kernel
theorem same_loop {n : Int} {C : Int → Bool} {X : Bool} {F : (Int → Bool) → Int → Bool} {d : Int → Bool} (hF : ∀ ag p, F ag p = if decide (p < n) = true then (if C p = true then ag (p + 1) else false) else X)
  (hC : ∀ p, 0 ≤ p → p < n → C p = true) (hX : X = true) : iter ((n - 0).toNat + 1) F d 0 = true :=
 (iter_allX hF _ 0 (by omega)).2 ⟨hC, hX⟩
theorem same_ints (a : List Int) : specieref17_Same a a = true := by
 unfold specieref17_Same
 simp only [bne_self_eq_false, Bool.false_eq_true, if_false]
 refine same_loop (C := fun j => true) (X := true) (fun ag j => by simp) (fun j h0 h1 => rfl) rfl
theorem same_escrow (x : S_api_Escrow) : specieref36_Same x x = true := by
 simp [specieref36_Same, specieref17_SameProof, letk, same_ints]
theorem within_len {l : List S_api_Item} {d : Int} (h : withinM (listI l) d = true) : l.length ≤ 1000 := by
 simp [listI, withinM] at h
 exact h.2.1
theorem payment_Encode_eq (p : S_api_Payment) : payment_Encode p = if p.Spends.length > 1000 ∨ p.Chains.length > 1000 ∨ p.Escrow.length > 1000 ∨ withinM (payI p) 8 = false ∨ (encI (payI p)).length > 16384 then ([], 5) else (encI (payI p), 0) := by
 unfold payment_Encode
 have e := payItem_eq p
 unfold payItem at e
 simp only [letk, e, encode_Encode_eq]
 by_cases h1 : p.Spends.length > 1000
 ·have : (p.Spends.length : Int) > 1000 := by omega
  simp [h1, this]
 by_cases h2 : p.Chains.length > 1000
 ·have : (p.Chains.length : Int) > 1000 := by omega
  simp [h2, this]
 by_cases h3 : p.Escrow.length > 1000
 ·have : (p.Escrow.length : Int) > 1000 := by omega
  simp [h3, this]
 have g1 : ¬ (p.Spends.length : Int) > 1000 := by omega
 have g2 : ¬ (p.Chains.length : Int) > 1000 := by omega
 have g3 : ¬ (p.Escrow.length : Int) > 1000 := by omega
 simp only [g1, g2, g3, h1, h2, h3, decide_false, Bool.false_eq_true, if_false, false_or]
 cases h4 : withinM (payI p) 8 with
 | false => simp
 | true =>
  by_cases h5 : (encI (payI p)).length > 16384
  ·simp [h5]
  ·simp [h5]
theorem pay_lens {p : S_api_Payment} (h : withinM (payI p) 8 = true) : p.Spends.length ≤ 1000 ∧ p.Chains.length ≤ 1000 ∧ p.Escrow.length ≤ 1000 := by
 have hs := within_of_list h (by omega)
 have a := within_len (hs (listI (p.Spends.map spendI)) (by simp))
 have b := within_len (hs (listI (p.Chains.map chainI)) (by simp))
 have c := within_len (hs (listI (p.Escrow.map escrowI)) (by simp))
 simp at a b c
 exact ⟨a, b, c⟩
end Go.Proofs.Ytcbdmoihobdjaaa
