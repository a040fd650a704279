import Derived.Test.YtcbdmoihobdjaaaH7
import Derived.Test.YtcbdmoihobdjaaaL1
namespace Go.Proofs.Ytcbdmoihobdjaaa
open Go.RowKit
theorem self_spend (s : S_api_Spend) : specieref32_Same s s = true := by
 unfold specieref32_Same
 have h1 : q_api_Coin s.Coin s.Coin = true := by simp [q_api_Coin]
 have h2 : q_api_Node s.Node s.Node = true := by simp [q_api_Node]
 have h3 : q_api_Context s.Context s.Context = true := by simp [q_api_Context]
 have h4 : specieref27_Same s.Path s.Path = true := by
  unfold specieref27_Same
  simp only [bne_self_eq_false, Bool.false_eq_true, if_false]
  refine same_loop (C := fun j => q_arr45 (gt s.Path.L j) (gt s.Path.L j)) (X := true) (fun ag j => by simp only [notif]) (fun j h0 h1 => by simp [q_arr45]) rfl
 simp only [letk, h1, h2, h3, h4, bne_self_eq_false, Bool.not_true, Bool.false_eq_true, if_false]
 refine same_loop (C := fun j => q_api_Leaf (gt s.Leaves j) (gt s.Leaves j)) (X := true) (fun ag j => by simp only [notif]) (fun j h0 h1 => ?_) rfl
 simp [q_api_Leaf]
theorem self_chain (h : S_api_Chain) : specieref35_Same h h = true := by
 unfold specieref35_Same
 simp only [letk, bne_self_eq_false, Bool.false_eq_true, if_false]
 exact same_loop (C := fun j => specieref32_Same (gt (specieref35_Spends h) j) (gt (specieref35_Spends h) j)) (X := true) (fun ag j => by simp only [notif]) (fun j h0 h1 => self_spend _) rfl
theorem self_pay (p : S_api_Payment) : specieref38_Same p p = true := by
 unfold specieref38_Same
 simp only [letk, notif, bne_self_eq_false, Bool.false_eq_true, if_false]
 refine same_loop (C := fun j => specieref32_Same (gt p.Spends j) (gt p.Spends j)) (fun ag j => rfl) (fun j h0 h1 => self_spend _) ?_
 refine same_loop (C := fun j => specieref35_Same (gt p.Chains j) (gt p.Chains j)) (fun ag j => rfl) (fun j h0 h1 => self_chain _) ?_
 exact same_loop (C := fun j => specieref36_Same (gt p.Escrow j) (gt p.Escrow j)) (X := true) (fun ag j => rfl) (fun j h0 h1 => same_escrow _) rfl
theorem self_uses (l : List S_api_Use) : slices_EqualFunc_api_Use_api_Use_api_Use_api_Use_at_specielaw38_PaymentCodes_1 l l = true := by
 unfold slices_EqualFunc_api_Use_api_Use_api_Use_api_Use_at_specielaw38_PaymentCodes_1
 simp only [letk, bne_self_eq_false, Bool.false_eq_true, if_false]
 exact same_loop (C := fun j => specielaw38_PaymentCodes_1 (gt l j) (gt l j)) (X := true) (fun ag j => by simp only [notif]) (fun j h0 h1 => by simp [specielaw38_PaymentCodes_1, letk, self_spend]) rfl
theorem dec_err {x : List Int} (h : (payment_Decode x).2 ≠ 0) : (payment_Decode x).2 = 3 := by
 unfold payment_Decode at h ⊢
 simp only [letk] at h ⊢
 split
 ·rfl
 split
 ·rfl
 split
 ·rfl
 split
 ·rfl
 split
 ·rfl
 split
 ·rfl
 split
 ·rfl
 ·simp_all
theorem rEncode (p : S_api_Payment) : specieref38_Encode p = if withinM (payI p) 8 = false then ([], false) else (encI (payI p), decide (((encI (payI p)).length : Int) ≤ 16384)) := by
 unfold specieref38_Encode specieref07_Valid
 simp only [letk, rpay_eq, rvalidM]
 rw [show ((8 : Int) - 0) = 8 from rfl]
 cases withinM (payI p) 8 <;> simp
theorem specielaw38_PaymentCodes_true (p : S_api_Payment) (x : List Int) (hw : wfL [e_api_Payment p, .sl none 1 false (x.map (V.int .u8))]) : specielaw38_PaymentCodes p x = true := by
 simp only [wfL] at hw
 have hb : isB x := isB_wf (by have := hw.2.1; simp only [wfV] at this; exact this.2)
 unfold specielaw38_PaymentCodes
 simp only [letk, letj, awake_true, rDecode hb, self_pay, self_uses, leaves_same, rEncode, payment_Encode_eq, Bool.not_true, Bool.false_eq_true, if_false]
 have hd := dec_err (x := x)
 generalize payment_Decode x = D at hd
 obtain ⟨q, f⟩ := D
 simp only at hd
 have hf : (decide (f = 0) != (f == 0)) = false := by by_cases h : f = 0 <;> simp [h]
 have hg : f ≠ 0 → (f != 3) = false := fun h => by simp [hd h]
 cases specielaw38_great p with
 | true => rfl
 | false =>
  cases hv : withinM (payI p) 8 with
  | false => by_cases h : f = 0 <;> simp [h, hg]
  | true =>
   obtain ⟨l1, l2, l3⟩ := pay_lens hv
   have n1 : ¬ p.Spends.length > 1000 := by omega
   have n2 : ¬ p.Chains.length > 1000 := by omega
   have n3 : ¬ p.Escrow.length > 1000 := by omega
   by_cases hl : (encI (payI p)).length > 16384
   ·have hl' : ¬ ((encI (payI p)).length : Int) ≤ 16384 := by omega
    by_cases h : f = 0 <;> simp [h, hg, n1, n2, n3, hl, hl']
   ·have hl' : ((encI (payI p)).length : Int) ≤ 16384 := by omega
    by_cases h : f = 0 <;> simp [h, hg, n1, n2, n3, hl, hl', bytes_Equal]
end Go.Proofs.Ytcbdmoihobdjaaa
