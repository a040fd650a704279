/- Texts of this proof, one after the other: U4, S1, S2, A1, S3, S4, A2, L1. -/
import Derived.Test.YtcbdmoihobdjaaaGreatDoorZ7
import Derived.Test.YtcbdmoihobdjaaaGreatDoorZ5
import Derived.Lib.TrailingZeros
import Derived.KernelRfl
set_option linter.unusedVariables false
set_option linter.unusedSimpArgs false
namespace Go.Proofs.YtcbdmoihobdjaaaGreatDoor
open Go.RowKit
set_option linter.unusedSimpArgs false
set_option maxHeartbeats 2000000 in
set_option maxRecDepth 100000 in
instance specieref25_Verify_ok   (b : S_api_Bases) (k_ : S_api_BankKey) (pseudonym : Int) (root : (List Int)) (s : S_api_CoinSign)  : CM En (specieref25_Verify b k_ pseudonym root s) 30 [(e_api_Bases b), .agg [.int .i64 k_.H, .int .i64 k_.H1, .int .i64 k_.H2], .int .i64 pseudonym, (e_arr31 root), .agg [.int .i64 s.Z, .int .i64 s.A, .int .i64 s.B, .int .i64 s.R]] (fun y => .bool y) (fun _ => []) := by
 refine cmQ fun r hM => ?_
 rw [specieref25_Verify.eq_1] at hM
 refine enterV En_ok En_mo noJ Tryz.func30 rfl Tryz.ntmps30 (by kernel_rfl) fun hw => ct_start ?_
 refine spQ ?_
 replace hw := nzQ hw
 have hM0 := hM; clear hM; obtain ⟨x1, hx2, hM⟩ := letk_opn hM0; clear hM0
 have hcx1 := cmU hx2
 refine callC_give hcx1 clQ clQ (fun hw3 => ?_)
 replace hw3 := nzQ hw3
 refine spQ ?_
 have hq4 := nzQ (cfU hx2)
 refine guardC_f (fun h5 => ?_) (fun h5 => ?_)
 ·rw [if_neg (ne_true h5)] at hM
  refine spQA h5 ?_
  have nh5 := nzQ h5
  try have hr6 := mpQ nh5
  have hM0 := hM; clear hM; obtain ⟨x7, hx8, hM⟩ := letk_opn hM0; clear hM0
  have hcx7 := cmH hx8 (specieref25_Message_ok  (b.Group) pseudonym (by (exact pfQ)) (by (exact pfQ)))
  refine callC_give hcx7 clQ clQ (fun hw9 => ?_)
  replace hw9 := nzQ hw9
  refine spQ ?_
  have hq10 := nzQ (cfU hx8)
  refine guardC_f (fun h11 => ?_) (fun h11 => ?_)
  ·rw [if_neg (ne_true h11)] at hM
   refine spQA h11 ?_
   have nh11 := nzQ h11
   try have hr12 := mpQ nh11
   have hM0 := hM; clear hM; obtain ⟨x13, hx14, hM⟩ := letk_opn hM0; clear hM0
   have hcx13 := cmH hx14 (specieref25_elements_ok  (b.Group) s (by (exact pfQ)) (by (exact pfQ)))
   refine callC_give hcx13 clQ clQ (fun hw15 => ?_)
   replace hw15 := nzQ hw15
   refine spQ ?_
   have hq16 := nzQ (cfU hx14)
   refine guardC_f (fun h17 => ?_) (fun h17 => ?_)
   ·rw [if_neg (ne_true h17)] at hM
    refine spQA h17 ?_
    have nh17 := nzQ h17
    try have hr18 := mpQ nh17
    have hM0 := hM; clear hM; obtain ⟨x19, hx20, hM⟩ := letk_opn hM0; clear hM0
    have hcx19 := cmU hx20
    refine callC_give hcx19 clQ clQ (fun hw21 => ?_)
    replace hw21 := nzQ hw21
    refine spQ ?_
    have hq22 := nzQ (cfU hx20)
    refine condC_intro (fun h23 => ?_) (fun h23 => ?_)
    ·rw [if_pos h23] at hM
     refine spQA h23 ?_
     have nh23 := nzQ h23
     try have hr24 := mpQ nh23
     subst hM
     exact retC_view (lfQA (And.intro h5 (And.intro h11 (And.intro h17 h23))))
    ·rw [if_neg (ne_true h23)] at hM
     refine spQA h23 ?_
     have nh23 := nzQ h23
     try have hr25 := mpQ nh23
     have hM0 := hM; clear hM; obtain ⟨x26, hx27, hM⟩ := letk_opn hM0; clear hM0
     have hcx26 := cmH hx27 (specieref25_Challenge_ok  b pseudonym root s (by (exact pfQ)) (by (exact pfQ)))
     refine callC_give hcx26 clQ clQ (fun hw28 => ?_)
     replace hw28 := nzQ hw28
     refine spQ ?_
     have hq29 := rchal_rng hx27 (by omega) (by omega)
     replace hq29 := nzQ hq29
     refine ct_draw 80 34 [43, 44, 45, 46, 47, 48, 49, 50, 51, 52, 53, 54, 55, 56, 57, 58, 59, 60, 61, 62, 63, 64, 65, 66, 67, 68, 69, 70, 71, 72, 73, 74, 75, 76] [] ([[], [0], [0, 1], [0, 1, 2], [0, 1, 2], [0, 1, 2, 4], [0, 1, 2], [0, 1, 2, 6], [0, 1, 2, 3, 4, 5, 6, 7], [0, 1, 2], [0, 1, 2], [0, 1, 2], [0, 1, 2, 11], [0, 1, 2], [0, 1, 2, 10, 11, 12, 13], [0, 1, 2], [0, 1, 2, 15], [0, 1, 2, 9, 10, 11, 12, 13, 14, 15, 16], [0, 1, 2, 3, 4, 5, 6, 7, 8, 9, 10, 11, 12, 13, 14, 15, 16, 17], [0, 1, 2, 3, 4, 5, 6, 7, 8, 9, 10, 11, 12, 13, 14, 15, 16, 17, 18], [0, 1, 2, 3, 4, 5, 6, 7, 8, 9, 10, 11, 12, 13, 14, 15, 16, 17, 18, 19], [0, 1, 2, 3, 4, 5, 6, 7, 8, 9, 10, 11, 12, 13, 14, 15, 16, 17, 18, 19, 20], [0, 1, 2, 3, 4, 5, 6, 7, 8, 9, 10, 11, 12, 13, 14, 15, 16, 17, 18, 19, 20], [0, 1, 2, 3, 4, 5, 6, 7, 8, 9, 10, 11, 12, 13, 14, 15, 16, 17, 18, 19, 20], [0, 1, 2, 3, 4, 5, 6, 7, 8, 9, 10, 11, 12, 13, 14, 15, 16, 17, 18, 19, 20, 23], [0, 1, 2, 3, 4, 5, 6, 7, 8, 9, 10, 11, 12, 13, 14, 15, 16, 17, 18, 19, 20, 21, 22, 23, 24], [0, 1, 2, 3, 4, 5, 6, 7, 8, 9, 10, 11, 12, 13, 14, 15, 16, 17, 18, 19, 20], [0, 1, 2, 3, 4, 5, 6, 7, 8, 9, 10, 11, 12, 13, 14, 15, 16, 17, 18, 19, 20], [0, 1, 2, 3, 4, 5, 6, 7, 8, 9, 10, 11, 12, 13, 14, 15, 16, 17, 18, 19, 20], [0, 1, 2, 3, 4, 5, 6, 7, 8, 9, 10, 11, 12, 13, 14, 15, 16, 17, 18, 19, 20, 28], [0, 1, 2, 3, 4, 5, 6, 7, 8, 9, 10, 11, 12, 13, 14, 15, 16, 17, 18, 19, 20], [0, 1, 2, 3, 4, 5, 6, 7, 8, 9, 10, 11, 12, 13, 14, 15, 16, 17, 18, 19, 20, 21, 22, 23, 24, 25, 27, 28, 29, 30], [0, 1, 2, 3, 4, 5, 6, 7, 8, 9, 10, 11, 12, 13, 14, 15, 16, 17, 18, 19, 20], [0, 1, 2, 3, 4, 5, 6, 7, 8, 9, 10, 11, 12, 13, 14, 15, 16, 17, 18, 19, 20, 32]] ++ [List.range 34, List.range 35, List.range 36, List.range 37]) [] (by kernel_rfl) (by exact alQ) ?_
     refine spQ ?_
     refine hguardC_t (fun h30 => ?_) (fun h30 => ?_)
     ·rw [if_pos h30] at hM
      refine spQA h30 ?_
      have nh30 := nzQ h30
      try have hr31 := mpQ nh30
      have hM0 := hM; clear hM; obtain ⟨x32, hx33, hM⟩ := letk_opn hM0; clear hM0
      have hcx32 := cmH hx33 (specieref25_power_ok  (b.Group) (b.Group.G) (s.R) (by (first | exact hr6.1.2.2.1 | exact hr6.2.2 | exact hq29.1 | (clear hM; (try clear hw); (try clear hq4); (try clear hq10); (try clear hq16); (try clear hq22); omega))) (by (first | exact hr6.1.2.2.1 | exact hr6.2.2 | exact hq29.1 | (clear hM; (try clear hw); (try clear hq4); (try clear hq10); (try clear hq16); (try clear hq22); omega))) (by (first | exact hr6.1.2.2.1 | exact hr6.2.2 | exact hq29.1 | (clear hM; (try clear hw); (try clear hq4); (try clear hq10); (try clear hq16); (try clear hq22); omega))) (by (first | exact hr6.1.2.2.1 | exact hr6.2.2 | exact hq29.1 | (clear hM; (try clear hw); (try clear hq4); (try clear hq10); (try clear hq16); (try clear hq22); omega))))
      refine hcallC_give hcx32 clQ clQ ?_
      refine spQ ?_
      have hq34 := rpow_rng hx33 (by omega) (by omega)
      replace hq34 := nzQ hq34
      have hM0 := hM; clear hM; obtain ⟨x35, hx36, hM⟩ := letk_opn hM0; clear hM0
      have hcx35 := cmH hx36 (specieref25_power_ok  (b.Group) (k_.H) x26 (by (first | exact hr6.1.2.2.1 | exact hr6.2.2 | exact hq29.1 | (clear hM; (try clear hw); (try clear hq4); (try clear hq10); (try clear hq16); (try clear hq22); omega))) (by (first | exact hr6.1.2.2.1 | exact hr6.2.2 | exact hq29.1 | (clear hM; (try clear hw); (try clear hq4); (try clear hq10); (try clear hq16); (try clear hq22); omega))) (by (first | exact hr6.1.2.2.1 | exact hr6.2.2 | exact hq29.1 | (clear hM; (try clear hw); (try clear hq4); (try clear hq10); (try clear hq16); (try clear hq22); omega))) (by (first | exact hr6.1.2.2.1 | exact hr6.2.2 | exact hq29.1 | (clear hM; (try clear hw); (try clear hq4); (try clear hq10); (try clear hq16); (try clear hq22); omega))))
      refine hcallC_give hcx35 clQ clQ ?_
      refine spQ ?_
      have hq37 := rpow_rng hx36 (by omega) (by omega)
      replace hq37 := nzQ hq37
      have hM0 := hM; clear hM; obtain ⟨x38, hx39, hM⟩ := letk_opn hM0; clear hM0
      have hcx38 := cmH hx39 (specieref25_times_ok  (b.Group) x35 (s.A) (by (first | exact hr6.1.2.2.1 | exact hr6.2.2 | exact hq29.1 | (clear hM; (try clear hw); (try clear hq4); (try clear hq10); (try clear hq16); (try clear hq22); omega))) (by (first | exact hr6.1.2.2.1 | exact hr6.2.2 | exact hq29.1 | (clear hM; (try clear hw); (try clear hq4); (try clear hq10); (try clear hq16); (try clear hq22); omega))) (by (first | exact hr6.1.2.2.1 | exact hr6.2.2 | exact hq29.1 | (clear hM; (try clear hw); (try clear hq4); (try clear hq10); (try clear hq16); (try clear hq22); omega))) (by (first | exact hr6.1.2.2.1 | exact hr6.2.2 | exact hq29.1 | (clear hM; (try clear hw); (try clear hq4); (try clear hq10); (try clear hq16); (try clear hq22); omega))))
      refine hcallC_give hcx38 clQ clQ ?_
      refine spQ ?_
      refine hguardC_t (fun h40 => ?_) (fun h40 => ?_)
      ·rw [if_pos h40] at hM
       refine spQA h40 ?_
       have nh40 := nzQ h40
       try have hr41 := mpQ nh40
       have hM0 := hM; clear hM; obtain ⟨x42, hx43, hM⟩ := letk_opn hM0; clear hM0
       have hcx42 := cmH hx43 (specieref25_power_ok  (b.Group) pseudonym (s.R) (by (first | exact hr6.1.2.2.1 | exact hr6.2.2 | exact hq29.1 | (clear hM; (try clear hw); (try clear hq4); (try clear hq10); (try clear hq16); (try clear hq22); omega))) (by (first | exact hr6.1.2.2.1 | exact hr6.2.2 | exact hq29.1 | (clear hM; (try clear hw); (try clear hq4); (try clear hq10); (try clear hq16); (try clear hq22); omega))) (by (first | exact hr6.1.2.2.1 | exact hr6.2.2 | exact hq29.1 | (clear hM; (try clear hw); (try clear hq4); (try clear hq10); (try clear hq16); (try clear hq22); omega))) (by (first | exact hr6.1.2.2.1 | exact hr6.2.2 | exact hq29.1 | (clear hM; (try clear hw); (try clear hq4); (try clear hq10); (try clear hq16); (try clear hq22); omega))))
       refine hcallC_give hcx42 clQ clQ ?_
       refine spQ ?_
       have hq44 := rpow_rng hx43 (by omega) (by omega)
       replace hq44 := nzQ hq44
       have hM0 := hM; clear hM; obtain ⟨x45, hx46, hM⟩ := letk_opn hM0; clear hM0
       have hcx45 := cmH hx46 (specieref25_power_ok  (b.Group) (s.Z) x26 (by (first | exact hr6.1.2.2.1 | exact hr6.2.2 | exact hq29.1 | (clear hM; (try clear hw); (try clear hq4); (try clear hq10); (try clear hq16); (try clear hq22); omega))) (by (first | exact hr6.1.2.2.1 | exact hr6.2.2 | exact hq29.1 | (clear hM; (try clear hw); (try clear hq4); (try clear hq10); (try clear hq16); (try clear hq22); omega))) (by (first | exact hr6.1.2.2.1 | exact hr6.2.2 | exact hq29.1 | (clear hM; (try clear hw); (try clear hq4); (try clear hq10); (try clear hq16); (try clear hq22); omega))) (by (first | exact hr6.1.2.2.1 | exact hr6.2.2 | exact hq29.1 | (clear hM; (try clear hw); (try clear hq4); (try clear hq10); (try clear hq16); (try clear hq22); omega))))
       refine hcallC_give hcx45 clQ clQ ?_
       refine spQ ?_
       have hq47 := rpow_rng hx46 (by omega) (by omega)
       replace hq47 := nzQ hq47
       have hM0 := hM; clear hM; obtain ⟨x48, hx49, hM⟩ := letk_opn hM0; clear hM0
       have hcx48 := cmH hx49 (specieref25_times_ok  (b.Group) x45 (s.B) (by (first | exact hr6.1.2.2.1 | exact hr6.2.2 | exact hq29.1 | (clear hM; (try clear hw); (try clear hq4); (try clear hq10); (try clear hq16); (try clear hq22); omega))) (by (first | exact hr6.1.2.2.1 | exact hr6.2.2 | exact hq29.1 | (clear hM; (try clear hw); (try clear hq4); (try clear hq10); (try clear hq16); (try clear hq22); omega))) (by (first | exact hr6.1.2.2.1 | exact hr6.2.2 | exact hq29.1 | (clear hM; (try clear hw); (try clear hq4); (try clear hq10); (try clear hq16); (try clear hq22); omega))) (by (first | exact hr6.1.2.2.1 | exact hr6.2.2 | exact hq29.1 | (clear hM; (try clear hw); (try clear hq4); (try clear hq10); (try clear hq16); (try clear hq22); omega))))
       refine callC_give hcx48 clQ clQ (fun hw50 => ?_)
       replace hw50 := nzQ hw50
       refine spQ ?_
       subst hM
       exact retC_view (lfQA (And.intro h5 (And.intro h11 (And.intro h17 (And.intro h23 (And.intro h30 h40))))))
      ·rw [if_neg (ne_true h40)] at hM
       refine spQA h40 ?_
       have nh40 := nzQ h40
       try have hr51 := mpQ nh40
       subst hM
       exact retC_view (lfQA (And.intro h5 (And.intro h11 (And.intro h17 (And.intro h23 (And.intro h30 h40))))))
     ·rw [if_neg (ne_true h30)] at hM
      refine spQA h30 ?_
      have nh30 := nzQ h30
      try have hr52 := mpQ nh30
      subst hM
      exact retC_view (lfQA (And.intro h5 (And.intro h11 (And.intro h17 (And.intro h23 h30)))))
   ·rw [if_pos h17] at hM
    refine spQA h17 ?_
    have nh17 := nzQ h17
    try have hr53 := mpQ nh17
    subst hM
    exact retC_view (lfQA (And.intro h5 (And.intro h11 h17)))
  ·rw [if_pos h11] at hM
   refine spQA h11 ?_
   have nh11 := nzQ h11
   try have hr54 := mpQ nh11
   subst hM
   exact retC_view (lfQA (And.intro h5 h11))
 ·rw [if_pos h5] at hM
  refine spQA h5 ?_
  have nh5 := nzQ h5
  try have hr55 := mpQ nh5
  subst hM
  exact retC_view (lfQA h5)
set_option maxHeartbeats 2000000 in
set_option maxRecDepth 100000 in
instance specieref31_Valid_ok   (b : S_api_Bases) (r_ : S_api_KeyRecord) (c : S_api_Coin)  : CM En (specieref31_Valid b r_ c) 8 [(e_api_Bases b), (e_api_KeyRecord r_), (e_api_Coin c)] (fun y => .bool y) (fun _ => []) := by
 refine cmQ fun r hM => ?_
 rw [specieref31_Valid.eq_1] at hM
 refine enterV En_ok En_mo noJ Tryz.func8 rfl Tryz.ntmps8 (by kernel_rfl) fun hw => ct_start ?_
 refine spQ ?_
 replace hw := nzQ hw
 have hF := trueQ
 exact auQ
instance (priority := 1010) : DRD 1 19 9 [7, 8, 9, 10, 11, 12, 13, 14, 15] [] ([[], [0], [0, 1], [0, 1], [0, 1], [0, 1, 2, 3, 4], [0, 1], [0, 1], [0, 1]] ++ [List.range 9, List.range 10, List.range 11, List.range 12]) [] := ⟨trivial⟩
set_option maxHeartbeats 2000000 in
set_option maxRecDepth 100000 in
instance specielaw31_CoinChecks_ok   (b : S_api_Bases) (r_ : S_api_KeyRecord) (c : S_api_Coin)  : CM En (specielaw31_CoinChecks b r_ c) 3 [(e_api_Bases b), (e_api_KeyRecord r_), (e_api_Coin c)] (fun y => .bool y) (fun _ => []) := by
 refine cmQ fun r hM => ?_
 rw [specielaw31_CoinChecks.eq_1] at hM
 refine enterV En_ok En_mo noJ Tryz.func3 rfl Tryz.ntmps3 (by kernel_rfl) fun hw => ct_start ?_
 refine spQ ?_
 replace hw := nzQ hw
 have hF := trueQ
 exact auQ
end Go.Proofs.YtcbdmoihobdjaaaGreatDoor
namespace Go.Proofs.YtcbdmoihobdjaaaGreatDoor
open Go.RowKit
theorem iter_eq {α β R : Type} {F : (α → R) → α → R} {G : (β → R) → β → R} {x : R} (Rel : α → β → Prop)
  (h : ∀ ag bg, (∀ a b, Rel a b → ag a = bg b) → ∀ a b, Rel a b → F ag a = G bg b) : ∀ (n : Nat) (a : α) (b : β), Rel a b → iter n F (fun _ => x) a = iter n G (fun _ => x) b
 | 0, a, b, _ => rfl
 | n + 1, a, b, hr => by
  rw [iter, iter]
  exact h _ _ (fun a b hr => iter_eq Rel h n a b hr) a b hr
theorem orI_comm (k : IntKind) (a b : Int) : orI k a b = orI k b a := by unfold orI; rw [BitVec.or_comm]
theorem right_eq (x : Int) {n : Int} (h : n ∈ [(2 : Int), 3, 6, 7, 11, 13, 17, 18, 19, 22, 25]) : digest_right x n = specieref06_right x n := by
 unfold digest_right math_bits_RotateLeft32 specieref06_right
 simp only [letk]
 rw [orI_comm]
 simp only [List.mem_cons, List.not_mem_nil, or_false] at h
 rcases h with rfl | rfl | rfl | rfl | rfl | rfl | rfl | rfl | rfl | rfl | rfl <;> rfl
theorem w32 (a : Int) : IntKind.wrap .u32 a = a % 4294967296 := by simp [IntKind.wrap, IntKind.bits, IntKind.signed]
theorem or_nat (a c : Nat) (hc : c < 256) : (BitVec.ofInt 32 (((a * 256 : Nat) : Int) % 4294967296) ||| BitVec.ofInt 32 (c : Int)).toNat = (a * 256) % 4294967296 + c := by
 have e1 : (BitVec.ofInt 32 (((a * 256 : Nat) : Int) % 4294967296)).toNat = (a % 16777216) <<< 8 := by
  rw [BitVec.toNat_ofInt, Nat.shiftLeft_eq]
  omega
 have e2 : (BitVec.ofInt 32 (c : Int)).toNat = c := by rw [BitVec.toNat_ofInt]; omega
 rw [BitVec.toNat_or, e1, e2, ← Nat.shiftLeft_add_eq_or_of_lt (show c < 2 ^ 8 by omega), Nat.shiftLeft_eq]
 omega
theorem or_shl8 {x c : Int} (hx : 0 ≤ x ∧ x ≤ 4294967295) (hc : 0 ≤ c ∧ c ≤ 255) : orI .u32 (shlI .u32 x 8) (convI .u32 c) = addI .u32 (mulI .u32 x 256) (convI .u32 c) := by
 obtain ⟨a, rfl⟩ := Int.eq_ofNat_of_zero_le hx.1
 obtain ⟨d, rfl⟩ := Int.eq_ofNat_of_zero_le hc.1
 have h1 : shlI .u32 (a : Int) 8 = ((a * 256 : Nat) : Int) % 4294967296 := by
  unfold shlI; rw [w32]; simp [IntKind.bits]
 have h2 : convI .u32 (d : Int) = (d : Int) := by unfold convI; rw [w32]; omega
 have h3 : mulI .u32 (a : Int) 256 = ((a * 256 : Nat) : Int) % 4294967296 := by
  unfold mulI; rw [w32]; simp
 have h4 := or_nat a d (by omega)
 rw [h1, h2, h3]
 have key : orI .u32 (((a * 256 : Nat) : Int) % 4294967296) (d : Int) = IntKind.wrap .u32 ((BitVec.ofInt 32 (((a * 256 : Nat) : Int) % 4294967296) ||| BitVec.ofInt 32 (d : Int)).toNat : Int) := rfl
 rw [key, h4]
 unfold addI
 rw [w32, w32]
 omega
theorem st_app {q : List Int} {z : List Int} {a x : Int} {t : Int} (h : (q.length : Int) = t) : st (q ++ a :: z) t x = q ++ x :: z := by
 unfold st
 rw [show t.toNat = q.length by omega]
 simp
theorem gt_app {q z : List Int} {t : Int} (h : 0 ≤ t) (h1 : t < (q.length : Int)) : gt (q ++ z) t = gt q t := by
 unfold gt
 have : t.toNat < q.length := by omega
 simp [List.getD_eq_getElem?_getD, List.getElem?_append_left this]
theorem gt_app0 {q z : List Int} {a t : Int} (h : (q.length : Int) = t) : gt (q ++ a :: z) t = a := by
 unfold gt
 rw [show t.toNat = q.length by omega]
 simp [List.getD_eq_getElem?_getD]
theorem arr64 {l : List Int} (h : l.length = 64) : arrN 64 l = l := arrN_full h
theorem sl_get {b : List Int} {i k : Int} (h0 : 0 ≤ i) (hk : 0 ≤ k) (hk4 : k < 4) (h : i + 4 ≤ (b.length : Int)) : gt (sl b i (i + 4)) k = gt b (i + k) := by
 unfold gt sl
 have e : (i + k).toNat = i.toNat + k.toNat := by omega
 simp only [List.getD_eq_getElem?_getD]
 rw [List.getElem?_take_of_lt (by omega), List.getElem?_drop, e]
theorem gt_isB {b : List Int} (hb : ∀ x ∈ b, 0 ≤ x ∧ x ≤ 255) (i : Int) : 0 ≤ gt b i ∧ gt b i ≤ 255 := by
 unfold gt
 rw [List.getD_eq_getElem?_getD]
 cases h : b[i.toNat]? with
 | none => exact ⟨by decide, by decide⟩
 | some x => exact hb x (List.mem_of_getElem? h)
theorem words_eq {b : List Int} (hl : b.length = 64) (hb : ∀ x ∈ b, 0 ≤ x ∧ x ≤ 255) : digest_schedule b = specieref06_words b := by
 unfold digest_schedule specieref06_words
 refine iter_eq (fun (a : Int × List Int) (c : Int × List Int) => a.1 = c.1 ∧ 0 ≤ a.1 ∧ a.1 ≤ 16 ∧ (c.2.length : Int) = a.1 ∧ a.2 = c.2 ++ List.replicate (64 - a.1).toNat 0) ?_ _ _ _ ⟨rfl, by decide, by decide, rfl, rfl⟩
 rintro ag bg hag ⟨i, w⟩ ⟨i', q⟩ ⟨e1, h0, h1, h2, h3⟩
 simp only at e1 h0 h1 h2 h3
 subst e1
 subst h3
 by_cases hi : i < 16
 ·simp only [hi, decide_true, if_true]
  have hz : List.replicate (64 - i).toNat (0 : Int) = 0 :: List.replicate (63 - i).toNat 0 := by
   rw [show (64 - i).toNat = (63 - i).toNat + 1 by omega]; rfl
  have hsl : ((sl b (4 * i) (4 * i + 4)).length : Int) = 4 := by rw [sl_len]; omega
  rw [hsl, hz]
  refine iter_eq (fun (a : Int × List Int) (c : Int × Int) => a.1 = c.2 ∧ 0 ≤ a.1 ∧ a.1 ≤ 4 ∧ (0 ≤ c.1 ∧ c.1 ≤ 4294967295) ∧ a.2 = q ++ c.1 :: List.replicate (63 - i).toNat 0) ?_ _ _ _ ⟨rfl, show (0 : Int) ≤ 0 by decide, show (0 : Int) ≤ 4 by decide, show (0 : Int) ≤ 0 ∧ (0 : Int) ≤ 4294967295 by decide, rfl⟩
  rintro ag2 bg2 hag2 ⟨k, w⟩ ⟨x, k'⟩ ⟨e1, g0, g1, g2, g3⟩
  simp only at e1 g0 g1 g2 g3
  subst e1
  subst g3
  by_cases hk : k < 4
  ·simp only [hk, decide_true, if_true]
   have hlen : (q ++ x :: List.replicate (63 - i).toNat 0).length = 64 := by simp; omega
   have hg := gt_isB hb (4 * i + k)
   rw [gt_app0 h2, sl_get (by omega) g0 hk (by omega), arr64 hlen, st_app h2, arr64 (by simp; omega), or_shl8 g2 hg]
   refine hag2 _ _ ⟨rfl, by omega, by omega, ?_, rfl⟩
   have := rng_addI .u32 (mulI .u32 x 256) (convI .u32 (gt b (4 * i + k)))
   rw [rng_u32] at this
   exact this
  ·simp only [hk, decide_false, Bool.false_eq_true, if_false]
   refine hag _ _ ⟨rfl, by omega, by omega, by simp; omega, ?_⟩
   rw [show (64 - (i + 1)).toNat = (63 - i).toNat by omega]
   simp
 ·simp only [hi, decide_false, Bool.false_eq_true, if_false]
  have e16 : i = 16 := by omega
  subst e16
  refine iter_eq (fun (a : Int × List Int) (c : Int × List Int) => a.1 = c.1 ∧ 16 ≤ a.1 ∧ a.1 ≤ 64 ∧ (c.2.length : Int) = a.1 ∧ a.2 = c.2 ++ List.replicate (64 - a.1).toNat 0) ?_ _ _ _ ⟨rfl, show (16 : Int) ≤ 16 by decide, show (16 : Int) ≤ 64 by decide, h2, rfl⟩
  rintro ag2 bg2 hag2 ⟨t, w⟩ ⟨t', p⟩ ⟨e1, g0, g1, g2, g3⟩
  simp only at e1 g0 g1 g2 g3
  subst e1
  subst g3
  by_cases ht : t < 64
  ·simp only [ht, decide_true, if_true, letk]
   have hz : List.replicate (64 - t).toNat (0 : Int) = 0 :: List.replicate (63 - t).toNat 0 := by
    rw [show (64 - t).toNat = (63 - t).toNat + 1 by omega]; rfl
   rw [hz, gt_app (t := t - 15) (by omega) (by omega), gt_app (t := t - 2) (by omega) (by omega), gt_app (t := t - 16) (by omega) (by omega), gt_app (t := t - 7) (by omega) (by omega)]
   rw [right_eq _ (by decide), right_eq _ (by decide), right_eq _ (by decide), right_eq _ (by decide)]
   have hlen : ∀ y : Int, (p ++ y :: List.replicate (63 - t).toNat 0).length = 64 := fun y => by simp; omega
   rw [arr64 (hlen 0), st_app g2, arr64 (hlen _)]
   refine hag2 _ _ ⟨rfl, by omega, by omega, by simp; omega, ?_⟩
   rw [show (64 - (t + 1)).toNat = (63 - t).toNat by omega]
   simp
  ·simp only [ht, decide_false, Bool.false_eq_true, if_false]
   rw [show (64 - t).toNat = 0 by omega]
   simp
end Go.Proofs.YtcbdmoihobdjaaaGreatDoor
namespace Go.Proofs.YtcbdmoihobdjaaaGreatDoor
open Go.RowKit
theorem iter_rel {α β R S : Type} {F : (α → R) → α → R} {G : (β → S) → β → S} {d : α → R} {e : β → S} (Rel : α → β → Prop) (Q : R → S → Prop) (mu : α → Nat)
  (h : ∀ ag bg a b, Rel a b → (∀ a' b', Rel a' b' → mu a' < mu a → Q (ag a') (bg b')) → Q (F ag a) (G bg b)) : ∀ (n m : Nat) (a : α) (b : β), Rel a b → mu a < n → mu a < m → Q (iter n F d a) (iter m G e b)
 | 0, _, _, _, _, h1, _ => absurd h1 (Nat.not_lt_zero _)
 | _, 0, _, _, _, _, h1 => absurd h1 (Nat.not_lt_zero _)
 | n + 1, m + 1, a, b, hr, h1, h2 => by
  rw [iter, iter]
  exact h _ _ a b hr fun a' b' hr' hm => iter_rel Rel Q mu h n m a' b' hr' (by omega) (by omega)
def rnd (K : List Int → List Int) (h w : List Int) : List Int := (iter (((64 : Int) - 0).toNat + 1) (fun (ag17 : (Int × List Int) → (List Int)) (p17 : Int × List Int) => (if (decide (p17.1 < 64)) then (letk (specieref06_right (gt p17.2 4) 6) (fun (x22 : Int) => (letk (specieref06_right (gt p17.2 4) 11) (fun (x24 : Int) => (letk (specieref06_right (gt p17.2 4) 25) (fun (x26 : Int) => (letk (specieref06_right (gt p17.2 0) 2) (fun (x33 : Int) => (letk (specieref06_right (gt p17.2 0) 13) (fun (x35 : Int) => (letk (specieref06_right (gt p17.2 0) 22) (fun (x37 : Int) => (ag17 ((p17.1 + 1), ([(addI .u32 (addI .u32 (addI .u32 (addI .u32 (addI .u32 (gt p17.2 7) (xorI .u32 (xorI .u32 x22 x24) x26)) (xorI .u32 (andI .u32 (gt p17.2 4) (gt p17.2 5)) (andI .u32 (notI .u32 (gt p17.2 4)) (gt p17.2 6)))) (gt specieref06_constants p17.1)) (gt w p17.1)) (addI .u32 (xorI .u32 (xorI .u32 x33 x35) x37) (xorI .u32 (xorI .u32 (andI .u32 (gt p17.2 0) (gt p17.2 1)) (andI .u32 (gt p17.2 0) (gt p17.2 2))) (andI .u32 (gt p17.2 1) (gt p17.2 2))))), (gt p17.2 0), (gt p17.2 1), (gt p17.2 2), (addI .u32 (gt p17.2 3) (addI .u32 (addI .u32 (addI .u32 (addI .u32 (gt p17.2 7) (xorI .u32 (xorI .u32 x22 x24) x26)) (xorI .u32 (andI .u32 (gt p17.2 4) (gt p17.2 5)) (andI .u32 (notI .u32 (gt p17.2 4)) (gt p17.2 6)))) (gt specieref06_constants p17.1)) (gt w p17.1))), (gt p17.2 4), (gt p17.2 5), (gt p17.2 6)] : List Int))))))))))))))) else (iter (((8 : Int) - 0).toNat + 1) (fun (ag43 : (Int × List Int) → (List Int)) (p43 : Int × List Int) => (if (decide (p43.1 < 8)) then (ag43 ((p43.1 + 1), (st p43.2 p43.1 (addI .u32 (gt p43.2 p43.1) (gt p17.2 p43.1))))) else (K p43.2))) (fun _ => default) (0, h)))) (fun _ => default) (0, (([] : List Int) ++ h)))
theorem list8 {l : List Int} (h : l.length = 8) : l = [gt l 0, gt l 1, gt l 2, gt l 3, gt l 4, gt l 5, gt l 6, gt l 7] := by
 match l, h with
 | [a, b, c, d, e, f, g, i], _ => rfl
theorem arr8 {l : List Int} (h : l.length = 8) : arrN 8 l = l := arrN_full h
theorem kg_eq : kg_5 = specieref06_constants := rfl
theorem rnd_eq (K : List Int → List Int) {h b : List Int} (hl : h.length = 8) : rnd K h (digest_schedule b) = K (digest_mix h b) := by
 unfold rnd digest_mix
 simp only [letk]
 generalize digest_schedule b = w
 refine iter_rel (fun (a : Int × Int × Int × Int × Int × Int × Int × Int × Int) (c : Int × List Int) => a.2.2.2.2.2.2.2.2 = c.1 ∧ 0 ≤ c.1 ∧ c.1 ≤ 64 ∧ c.2 = [a.1, a.2.1, a.2.2.1, a.2.2.2.1, a.2.2.2.2.1, a.2.2.2.2.2.1, a.2.2.2.2.2.2.1, a.2.2.2.2.2.2.2.1]) (fun r s => s = K r) (fun a => (64 - a.2.2.2.2.2.2.2.2).toNat) ?_ _ _ _ _ ⟨rfl, show (0 : Int) ≤ 0 by decide, show (0 : Int) ≤ 64 by decide, list8 hl⟩ (show ((64 : Int) - 0).toNat < ((64 : Int) - 0).toNat + 1 by decide) (show ((64 : Int) - 0).toNat < ((64 : Int) - 0).toNat + 1 by decide)
 rintro ag bg ⟨a0, a1, a2, a3, a4, a5, a6, a7, t⟩ ⟨t', v⟩ ⟨e1, g0, g1, g2⟩ hag
 simp only at e1 g0 g1 g2 hag
 subst e1
 subst g2
 by_cases ht : t < 64
 ·simp only [ht, decide_true, if_true]
  rw [right_eq _ (by decide), right_eq _ (by decide), right_eq _ (by decide), right_eq _ (by decide), right_eq _ (by decide), right_eq _ (by decide), kg_eq]
  refine hag _ _ ⟨rfl, by omega, by omega, ?_⟩ (by simp only; omega)
  rfl
 ·simp only [ht, decide_false, Bool.false_eq_true, if_false]
  refine iter_rel (fun (a : Int × List Int) (c : Int × List Int) => a = c ∧ 0 ≤ a.1 ∧ a.1 ≤ 8 ∧ a.2.length = 8) (fun r s => s = K r) (fun a => (8 - a.1).toNat) ?_ _ _ _ _ ⟨rfl, show (0 : Int) ≤ 0 by decide, show (0 : Int) ≤ 8 by decide, hl⟩ (show ((8 : Int) - 0).toNat < ((8 : Int) - 0).toNat + 1 by decide) (show ((8 : Int) - 0).toNat < ((8 : Int) - 0).toNat + 1 by decide)
  rintro ag2 bg2 ⟨i, s⟩ ⟨i', s'⟩ ⟨e1, k0, k1, k2⟩ hag2
  cases e1
  simp only at k0 k1 k2 hag2
  by_cases hi : i < 8
  ·simp only [hi, decide_true, if_true]
   rw [arr8 k2, arr8 (by rw [st_len]; exact k2)]
   exact hag2 _ _ ⟨rfl, by simp only; omega, by simp only; omega, by simp only [st_len]; exact k2⟩ (by simp only; omega)
  ·simp only [hi, decide_false, Bool.false_eq_true, if_false]
end Go.Proofs.YtcbdmoihobdjaaaGreatDoor
namespace Go.Proofs.YtcbdmoihobdjaaaGreatDoor
open Go.RowKit
theorem and1u {e : Int} (h0 : 0 ≤ e) (h1 : e ≤ 18446744073709551615) : andI .u64 e 1 = e % 2 := by
 obtain ⟨k, rfl⟩ := Int.eq_ofNat_of_zero_le h0
 unfold andI
 have e1 : (BitVec.ofInt IntKind.u64.bits (k : Int)).toNat = k := by
  show (BitVec.ofInt 64 (k : Int)).toNat = k
  rw [BitVec.toNat_ofInt]; omega
 have e2 : (BitVec.ofInt IntKind.u64.bits 1).toNat = 2 ^ 1 - 1 := by decide
 rw [BitVec.toNat_and, e1, e2, Nat.and_two_pow_sub_one_eq_mod, w64]
 omega
theorem and1i {e : Int} (h0 : 0 ≤ e) (h1 : e ≤ 9223372036854775807) : andI .i64 e 1 = e % 2 := by
 obtain ⟨k, rfl⟩ := Int.eq_ofNat_of_zero_le h0
 unfold andI
 have e1 : (BitVec.ofInt IntKind.i64.bits (k : Int)).toNat = k := by
  show (BitVec.ofInt 64 (k : Int)).toNat = k
  rw [BitVec.toNat_ofInt]; omega
 have e2 : (BitVec.ofInt IntKind.i64.bits 1).toNat = 2 ^ 1 - 1 := by decide
 rw [BitVec.toNat_and, e1, e2, Nat.and_two_pow_sub_one_eq_mod, IntKind.wrap_i64]
 omega
theorem rem_one {m : Int} (h : 1 < m) : remI .i64 1 m = 1 := by
 rw [rem_nn (by decide)]; exact Int.emod_eq_of_lt (by decide) h
theorem mod_rng {x m : Int} (h : 0 < m) : 0 ≤ x % m ∧ x % m < m := ⟨Int.emod_nonneg _ (by omega), Int.emod_lt_of_pos _ h⟩
theorem pow_rel {m : Int} (hm : 0 < m) {M1 M2 : Int → Int → Int} (h1 : ∀ a b, 0 ≤ a → a < m → 0 ≤ b → b < m → M1 a b = a * b % m) (h2 : ∀ a b, 0 ≤ a → a < m → 0 ≤ b → b < m → M2 a b = a * b % m)
  {A H : Int → Int} {U : Int} (hA : ∀ e, 0 ≤ e → e ≤ U → A e = e % 2) (hH : ∀ e, 0 ≤ e → e ≤ U → H e = e / 2) {R : Type} {out : Int → R}
  {F : (Int × Int × Int → R) → Int × Int × Int → R} {G : (Int × Int × Int → Int) → Int × Int × Int → Int} {d1 : Int × Int × Int → R} {d2 : Int × Int × Int → Int}
  (hF : ∀ ag p, F ag p = if decide (p.2.1 > 0) = true then (if (A p.2.1 == 1) = true then ag (M1 p.1 p.1, H p.2.1, M1 p.2.2 p.1) else ag (M1 p.1 p.1, H p.2.1, p.2.2)) else out p.2.2)
  (hG : ∀ ag p, G ag p = if decide (p.2.1 > 0) = true then (if (p.2.1 % 2 == 1) = true then ag (M2 p.1 p.1, p.2.1 / 2, M2 p.2.2 p.1) else ag (M2 p.1 p.1, p.2.1 / 2, p.2.2)) else p.2.2)
  {a e o : Int} (ha : 0 ≤ a ∧ a < m) (he : 0 ≤ e ∧ e ≤ U) (ho : 0 ≤ o ∧ o < m) {n k : Nat} (hn : e.toNat < n) (hk : e.toNat < k) :
  iter n F d1 (a, e, o) = out (iter k G d2 (a, e, o)) := by
 refine iter_rel (fun p q : Int × Int × Int => p = q ∧ (0 ≤ p.1 ∧ p.1 < m) ∧ (0 ≤ p.2.1 ∧ p.2.1 ≤ U) ∧ 0 ≤ p.2.2 ∧ p.2.2 < m) (fun r s => r = out s) (fun p => p.2.1.toNat) ?_ n k _ _ ⟨rfl, ha, he, ho⟩ hn hk
 rintro ag bg ⟨a, e, o⟩ q ⟨rfl, p1, p2, p3⟩ ih
 simp only at p1 p2 p3 ih
 rw [hF, hG]
 simp only
 by_cases hc : e > 0
 ·have hd : decide (e > 0) = true := by simpa using hc
  rw [if_pos hd, if_pos hd]
  have e1 := h1 a a p1.1 p1.2 p1.1 p1.2
  have e2 := h2 a a p1.1 p1.2 p1.1 p1.2
  have e3 := h1 o a p3.1 p3.2 p1.1 p1.2
  have e4 := h2 o a p3.1 p3.2 p1.1 p1.2
  rw [hA e p2.1 p2.2, hH e p2.1 p2.2, e1, e2, e3, e4]
  have hr : 0 ≤ e / 2 ∧ e / 2 ≤ U := by omega
  split
  ·exact ih _ _ ⟨rfl, mod_rng hm, hr, mod_rng hm⟩ (by show (e / 2).toNat < e.toNat; omega)
  ·exact ih _ _ ⟨rfl, mod_rng hm, hr, p3⟩ (by show (e / 2).toNat < e.toNat; omega)
 ·have hd : ¬ decide (e > 0) = true := by simpa using hc
  rw [if_neg hd, if_neg hd]
theorem ppow_eq {a e n : Int} (ha : 0 ≤ a) (hn : a < n) (h1 : 1 < n) (hn1 : n < 2305843009213693952) (he : 0 ≤ e ∧ e ≤ 18446744073709551615) : prime_pow a e n = specieref01_Pow a e n := by
 unfold prime_pow specieref01_Pow
 rw [rem_one h1]
 exact pow_rel (m := n) (by omega) (M1 := fun a b => prime_mul a b n) (M2 := fun a b => specieref01_Mul a b n) (A := fun e => andI .u64 e 1) (H := fun e => shrI .u64 e 1) (U := 18446744073709551615) (out := fun x => x)
  (fun a b x1 x2 x3 x4 => prime_mul_eq x1 x2 x3 (by omega) (by omega)) (fun a b x1 x2 x3 x4 => rmul_eq x1 x2 x3)
  (fun e x1 x2 => and1u x1 x2) (fun e x1 x2 => shr1 e) (fun ag p => rfl) (fun ag p => rfl) ⟨ha, hn⟩ he ⟨by decide, h1⟩ (Nat.lt_succ_self _) (Nat.lt_succ_self _)
theorem word_check_self {a m : Int} (h0 : 0 ≤ a) (h1 : a < m) (h2 : m < 2305843009213693952) : word_check a a m = 0 := by
 unfold word_check word_residue letk
 rw [if_neg (by simp; omega), if_neg (by simp; omega), if_pos (by simpa using h0)]
 simp [h1]
theorem wpow_eq {a e m : Int} (ha : 0 ≤ a) (hm : a < m) (hm1 : m < 2305843009213693952) (he : 0 ≤ e ∧ e ≤ 9223372036854775807) : word_Pow a e m = (specieref01_Pow a e m, 0) := by
 unfold word_Pow specieref01_Pow
 refine letk_go fun x1 h1 => ?_
 rw [word_check_self ha hm hm1] at h1
 subst h1
 rw [if_neg (by decide), if_neg (by simp; omega)]
 exact pow_rel (m := m) (by omega) (M1 := fun a b => word_mul a b m) (M2 := fun a b => specieref01_Mul a b m) (A := fun e => andI .i64 e 1) (H := fun e => shrI .i64 e 1) (U := 9223372036854775807) (out := fun x => (x, 0))
  (fun a b x1 x2 x3 x4 => word_mul_eq x1 x2 x3 (by omega) (by omega)) (fun a b x1 x2 x3 x4 => rmul_eq x1 x2 x3)
  (fun e x1 x2 => and1i x1 x2) (fun e x1 x2 => shr1i e) (fun ag p => rfl) (fun ag p => rfl) ⟨ha, hm⟩ he (rem1_rng (by omega)) (Nat.lt_succ_self _) (Nat.lt_succ_self _)
theorem getD_cast {l : List Nat} {i : Nat} : (l.map (fun n : Nat => (n : Int))).getD i default = ((l.getD i 0 : Nat) : Int) := by
 simp only [List.getD_eq_getElem?_getD, List.getElem?_map]
 cases l[i]? <;> rfl
theorem tz_eq {x : Nat} (h0 : x ≠ 0) (h1 : x < 18446744073709551616) : math_bits_TrailingZeros64 (x : Int) = (Lib.ctz 64 x : Int) := by
 obtain ⟨hlow, hk⟩ := Lib.lowest_bit 64 x h0 h1
 obtain ⟨hi, htab⟩ := Lib.deBruijn64_at _ hk
 rw [show (2 : Nat) ^ 64 = 18446744073709551616 by decide] at hlow
 unfold math_bits_TrailingZeros64
 generalize Lib.ctz 64 x = c at hlow hk hi htab
 rw [if_neg (by simp; omega)]
 have e0 : negI .u64 (x : Int) = ((18446744073709551616 - x : Nat) : Int) := by unfold negI; rw [w64]; omega
 have e1 : andI .u64 (x : Int) (negI .u64 (x : Int)) = ((2 ^ c : Nat) : Int) := by
  rw [e0, ← hlow]
  unfold andI
  have a1 : (BitVec.ofInt IntKind.u64.bits (x : Int)).toNat = x := by
   show (BitVec.ofInt 64 (x : Int)).toNat = x
   rw [BitVec.toNat_ofInt]; omega
  have a2 : (BitVec.ofInt IntKind.u64.bits ((18446744073709551616 - x : Nat) : Int)).toNat = 18446744073709551616 - x := by
   show (BitVec.ofInt 64 ((18446744073709551616 - x : Nat) : Int)).toNat = _
   rw [BitVec.toNat_ofInt]; omega
  rw [BitVec.toNat_and, a1, a2]
  have := Nat.and_le_left (n := x) (m := 18446744073709551616 - x)
  exact w_id (by omega) (by omega)
 have e2 : shrI .u64 (mulI .u64 (andI .u64 (x : Int) (negI .u64 (x : Int))) 285870213051353865) 58 = ((2 ^ c * 285870213051353865 % 18446744073709551616 / 288230376151711744 : Nat) : Int) := by
  rw [e1, shr58]
  unfold mulI
  rw [w64]
  generalize 2 ^ c = t
  omega
 rw [e2, gt_nat]
 have e3 : kg_4.getD (2 ^ c * 285870213051353865 % 18446744073709551616 / 288230376151711744) default = ((Lib.deBruijn64tab.getD (2 ^ c * 285870213051353865 % 18446744073709551616 / 288230376151711744) 0 : Nat) : Int) := by
  have hm : kg_4 = Lib.deBruijn64tab.map (fun n : Nat => (n : Int)) := by decide +kernel
  rw [hm, getD_cast]
 rw [e3]
 have e4 : Lib.deBruijn64tab.getD (2 ^ c * 285870213051353865 % 18446744073709551616 / 288230376151711744) 0 = c := htab
 rw [e4]
 clear hlow hi htab e0 e1 e2 e3 e4
 exact conv_i64 (by omega) (by omega)
def mrTail (n a d s : Int) : Bool :=
 if specieref01_Pow a d n == 1 then true else if specieref01_Pow a d n == n - 1 then true else
  iter ((s - 1).toNat + 1) (fun (ag : Int × Int → Bool) (p : Int × Int) => if decide (p.2 < s) = true then (if (specieref01_Mul p.1 p.1 n == n - 1) = true then true else ag (specieref01_Mul p.1 p.1 n, p.2 + 1)) else false) (fun _ => default) (specieref01_Pow a d n, 1)
theorem strong_loop {n a : Int} {F : (Int × Int → Bool) → Int × Int → Bool} {d : Int × Int → Bool} (hF : ∀ ag p, F ag p = if (p.1 % 2 == 0) = true then ag (p.1 / 2, p.2 + 1) else mrTail n a p.1 p.2) (m : Int) (hm : 0 ≤ m) :
  ∀ (k fuel : Nat) (s : Int), k < fuel → iter fuel F d (2 ^ k * (2 * m + 1), s) = mrTail n a (2 * m + 1) (s + k)
 | 0, fuel, s, hf => by
  obtain ⟨f, rfl⟩ : ∃ f, fuel = f + 1 := ⟨fuel - 1, by omega⟩
  rw [iter, hF]
  simp only [Int.pow_zero, Int.one_mul]
  have hd : ¬ ((2 * m + 1) % 2 == 0) = true := by
   rw [beq_iff_eq]; omega
  rw [if_neg hd]
  simp
 | k + 1, fuel, s, hf => by
  obtain ⟨f, rfl⟩ : ∃ f, fuel = f + 1 := ⟨fuel - 1, by omega⟩
  have e : (2 : Int) ^ (k + 1) * (2 * m + 1) = 2 * (2 ^ k * (2 * m + 1)) := by rw [Int.pow_succ, Int.mul_comm (2 ^ k) 2, Int.mul_assoc]
  rw [iter, hF, e]
  generalize hT : (2 : Int) ^ k * (2 * m + 1) = T
  simp only
  rw [if_pos (by rw [beq_iff_eq]; omega), show 2 * T / 2 = T by omega, ← hT, strong_loop hF m hm k f (s + 1) (by omega)]
  congr 1
  push_cast
  omega
theorem two_pow_ge (k : Nat) : k < 2 ^ k := Nat.lt_two_pow_self
theorem strong_eq {n a : Int} {k : Nat} {m : Int} (hm : 0 ≤ m) (hn : n - 1 = 2 ^ k * (2 * m + 1)) : specieref05_strong n a = mrTail n a (2 * m + 1) k := by
 unfold specieref05_strong
 rw [hn]
 have h := strong_loop (n := n) (a := a) (F := fun (ag2 : (Int × Int) → Bool) (p2 : Int × Int) => (if ((p2.1 % 2) == 0) then (ag2 ((p2.1 / 2), (p2.2 + 1))) else mrTail n a p2.1 p2.2)) (d := fun _ => default) (fun ag p => rfl) m hm k ((2 ^ k * (2 * m + 1)).toNat + 1) 0 (by
  have h1 : (2 : Int) ^ k * 1 ≤ 2 ^ k * (2 * m + 1) := Int.mul_le_mul_of_nonneg_left (by omega) (Int.le_of_lt (Int.pow_pos (by decide)))
  have h2 := two_pow_ge k
  have h3 : ((2 ^ k : Nat) : Int) = 2 ^ k := by push_cast; rfl
  omega)
 rw [Int.zero_add] at h
 rw [← h, ← hn]
 rfl
theorem comp_eq {n a d s : Int} (ha : 0 ≤ a) (han : a < n) (h1 : 1 < n) (hn : n < 2305843009213693952) (hd : 0 ≤ d ∧ d ≤ 18446744073709551615) (hs : 0 ≤ s ∧ s ≤ 64) : prime_composite a n d s = !(mrTail n a d s) := by
 unfold prime_composite mrTail
 have e1 : subI .u64 n 1 = n - 1 := by unfold subI; rw [w_id (by omega) (by omega)]
 rw [ppow_eq ha han h1 hn hd, e1, si64 hs.1 hs.2]
 simp only [letk]
 have hx := rpow_rng (x := specieref01_Pow a d n) rfl ha han (e := d)
 generalize specieref01_Pow a d n = x at hx
 by_cases c1 : (x == 1) = true
 ·rw [if_pos c1, if_pos c1]; rfl
 rw [if_neg c1, if_neg c1]
 by_cases c2 : (x == n - 1) = true
 ·rw [if_pos c2, if_pos c2]; rfl
 rw [if_neg c2, if_neg c2]
 refine iter_rel (fun p q : Int × Int => q = (p.1, p.2 + 1) ∧ (0 ≤ p.1 ∧ p.1 < n) ∧ 0 ≤ p.2) (fun r s : Bool => r = !s) (fun p => (s - 1 - p.2).toNat) ?_ _ _ _ _ ⟨rfl, hx, Int.le_refl 0⟩ (by show (s - 1 - 0).toNat < _; omega) (by show (s - 1 - 0).toNat < _; omega)
 rintro ag bg ⟨x, i⟩ q ⟨rfl, p1, p2⟩ ih
 simp only at p1 p2 ih ⊢
 by_cases hi : i < s - 1
 ·rw [if_pos (show decide (i < s - 1) = true by simpa using hi), if_pos (show decide (i + 1 < s) = true by simp only [decide_eq_true_eq]; omega)]
  have e2 := prime_mul_eq p1.1 p1.2 p1.1 (by omega) (show n ≤ 18446744073709551615 by omega)
  have e3 := rmul_eq p1.1 p1.2 p1.1
  rw [e2, e3]
  split
  ·rfl
  ·exact ih _ _ ⟨rfl, mod_rng (by omega), by show 0 ≤ i + 1; omega⟩ (by show (s - 1 - (i + 1)).toNat < (s - 1 - i).toNat; omega)
 ·rw [if_neg (show ¬ decide (i < s - 1) = true by simpa using hi), if_neg (show ¬ decide (i + 1 < s) = true by simp only [decide_eq_true_eq]; omega)]
  rfl
theorem base_at {p : Int} : gt kg_0 p = gt ([2, 3, 5, 7, 11, 13, 17, 19, 23, 29, 31, 37] : List Int) p := rfl
theorem is_eq {n : Int} (hn : n < 2305843009213693952) : prime_Is n = specieref05_Is n := by
 unfold prime_Is specieref05_Is
 by_cases h2 : n < 2
 ·rw [if_pos (by simpa using h2), if_pos (by simpa using h2)]
 rw [if_neg (by simpa using h2), if_neg (by simpa using h2)]
 have ec : convI .u64 n = n := conv_u64 (by omega) (by omega)
 rw [ec]
 refine iter_rel (fun p q : Int => p = q ∧ 0 ≤ p ∧ p ≤ 12 ∧ NoDiv n p) (fun r s : Bool => r = s) (fun p => (12 - p).toNat) ?_ _ _ _ _ ⟨rfl, by decide, by decide, NoDiv_zero⟩ (by decide) (by decide)
 rintro ag bg p q ⟨rfl, p1, p2, p3⟩ ih
 by_cases hp : p < 12
 ·rw [if_pos (show decide (p < 12) = true by simpa using hp), if_pos (show decide (p < 12) = true by simpa using hp), ← base_at]
  by_cases hr : (remI .u64 n (gt kg_0 p) == 0) = true
  ·rw [if_pos hr, if_pos (show (remI .i64 n (gt kg_0 p) == 0) = true from hr)]
  ·rw [if_neg hr, if_neg (show ¬ (remI .i64 n (gt kg_0 p) == 0) = true from hr)]
   exact ih _ _ ⟨rfl, by omega, by omega, NoDiv_step p3 (by omega) p1 hp (by simpa using hr)⟩ (by omega)
 ·rw [if_neg (show ¬ decide (p < 12) = true by simpa using hp), if_neg (show ¬ decide (p < 12) = true by simpa using hp), if_neg (show ¬ decide (n ≥ 2305843009213693952) = true by simp only [decide_eq_true_eq]; omega)]
  have h37 := NoDiv_all p3 (by omega) (by omega)
  have es : subI .u64 n 1 = n - 1 := by unfold subI; rw [w_id (by omega) (by omega)]
  rw [es]
  obtain ⟨x, hx⟩ := Int.eq_ofNat_of_zero_le (show 0 ≤ n - 1 by omega)
  obtain ⟨m, hm, hk⟩ := Lib.ctzFrom_spec 64 x (by omega) (by omega)
  have ez : math_bits_TrailingZeros64 (n - 1) = (Lib.ctzFrom 64 x : Nat) := by
   rw [hx, tz_eq (by omega) (by omega)]
   unfold Lib.ctz
   rw [if_neg (by omega)]
  simp only [letk, ez]
  generalize Lib.ctzFrom 64 x = k at hm hk
  have hxi : n - 1 = 2 ^ k * (2 * (m : Int) + 1) := by rw [hx, hm]; push_cast; rfl
  have esh : shrI .u64 (n - 1) (k : Int) = 2 * (m : Int) + 1 := by
   rw [shr_eq (m := k) (by rw [Int.toNat_natCast]; show min k 64 = k; omega), hxi]
   exact Int.mul_ediv_cancel_left _ (Int.ne_of_gt (Int.pow_pos (by decide)))
  have hpk : (1 : Int) ≤ 2 ^ k := by
   have h3 : ((2 ^ k : Nat) : Int) = 2 ^ k := by push_cast; rfl
   have := two_pow_ge k
   omega
  have hd : 2 * (m : Int) + 1 ≤ n - 1 := by
   have h1 : (1 : Int) * (2 * m + 1) ≤ 2 ^ k * (2 * m + 1) := Int.mul_le_mul_of_nonneg_right hpk (by omega)
   omega
  rw [esh]
  refine iter_rel (fun p q : Int => p = q ∧ 0 ≤ p) (fun r s : Bool => r = s) (fun p => (12 - p).toNat) ?_ _ _ _ _ ⟨rfl, by decide⟩ (by decide) (by decide)
  rintro ag bg p q ⟨rfl, p1⟩ ih
  by_cases hp : p < 12
  ·rw [if_pos (show decide (p < 12) = true by simpa using hp), if_pos (show decide (p < 12) = true by simpa using hp), ← base_at]
   obtain ⟨b0, b1⟩ := kg2_rng p1 hp
   rw [comp_eq (by omega) (by omega) (by omega) hn (by omega) (by omega), strong_eq (by omega) hxi]
   split
   ·rfl
   ·exact ih _ _ ⟨rfl, by omega⟩ (by omega)
  ·rw [if_neg (show ¬ decide (p < 12) = true by simpa using hp), if_neg (show ¬ decide (p < 12) = true by simpa using hp)]
end Go.Proofs.YtcbdmoihobdjaaaGreatDoor
namespace Go.Proofs.YtcbdmoihobdjaaaGreatDoor
open Go.RowKit
theorem isB_rep (n : Nat) : isB (List.replicate n 0) := fun x hx => by
 rw [(List.mem_replicate.1 hx).2]; decide
theorem count_eq (n : Int) : digest_count n = specieref06_bytes n := by kernel_rfl
theorem bytes_isB (n : Int) : isB (specieref06_bytes n) := by
 rw [bytes_list]
 have key : ∀ a, 0 ≤ convI .u8 a ∧ convI .u8 a ≤ 255 := fun a => by have := rng_convI .u8 a; rwa [rng_u8] at this
 intro x hx
 simp only [List.mem_cons, List.not_mem_nil, or_false] at hx
 rcases hx with rfl | rfl | rfl | rfl | rfl | rfl | rfl | rfl <;> exact key _
theorem mul8 {n : Nat} (h : n ≤ 1000000000) : mulI .u64 8 (convI .u64 (n : Int)) = mulI .i64 8 (n : Int) := by
 unfold mulI convI
 rw [w64, w64, IntKind.wrap_i64]
 omega
theorem padded_isB {b : List Int} (hb : isB b) : isB (specieref06_padded b) := by
 rw [padded_eq]
 exact isB_app (isB_app (isB_app hb (fun x hx => by simp at hx; subst hx; decide)) (isB_rep _)) (bytes_isB _)
theorem mix_len {h b : List Int} (hl : h.length = 8) : (digest_mix h b).length = 8 := by
 unfold digest_mix
 simp only [letk]
 generalize digest_schedule b = w
 refine iter_inv (fun (a : Int × Int × Int × Int × Int × Int × Int × Int × Int) => a.2.2.2.2.2.2.2.2 ≤ 64) (fun r : List Int => r.length = 8) (fun a => (64 - a.2.2.2.2.2.2.2.2).toNat) ?_ _ _ (show (0 : Int) ≤ 64 by decide) (show ((64 : Int) - 0).toNat < ((64 : Int) - 0).toNat + 1 by decide)
 rintro ag ⟨a0, a1, a2, a3, a4, a5, a6, a7, t⟩ g0 hag
 simp only at g0 hag
 by_cases ht : t < 64
 ·simp only [ht, decide_true, if_true]
  exact hag _ (by simp only; omega) (by simp only; omega)
 ·simp only [ht, decide_false, Bool.false_eq_true, if_false]
  refine iter_inv (fun (a : Int × List Int) => a.2.length = 8) (fun r : List Int => r.length = 8) (fun a => (8 - a.1).toNat) ?_ _ _ hl (show ((8 : Int) - 0).toNat < ((8 : Int) - 0).toNat + 1 by decide)
  rintro ag2 ⟨i, s⟩ k0 hag2
  simp only at k0 hag2
  by_cases hi : i < 8
  ·simp only [hi, decide_true, if_true]
   exact hag2 _ arrN_len (by simp only; omega)
  ·simp only [hi, decide_false, Bool.false_eq_true, if_false]
   exact k0
theorem sl_drop {l : List Int} {n : Nat} : sl (l.drop n) 0 64 = sl l (n : Int) ((n : Int) + 64) := by
 unfold sl
 rw [show ((n : Int) + 64).toNat - (n : Int).toNat = 64 by omega]
 simp
theorem sl_rest {l : List Int} {n : Nat} : sl (l.drop n) 64 ((l.drop n).length : Int) = l.drop (n + 64) := by
 unfold sl
 rw [show (64 : Int).toNat = 64 from rfl, List.drop_drop, List.take_of_length_le (by simp; omega)]
theorem sum_eq {b : List Int} (hb : isB b) (hl : b.length ≤ 1000000000) : digest_Sum b = specieref06_Sum b := by
 unfold digest_Sum specieref06_Sum
 simp only [letk, bytes_Clone]
 refine (pad_run (fun ag p => rfl)).trans ?_
 have hX := padded_isB hb
 have hX64 := padded_len b
 have e : (b ++ [128]) ++ List.replicate ((56 - ((b ++ [(128 : Int)]).length : Int)) % 64).toNat 0 ++ digest_count (mulI .u64 8 (convI .u64 (b.length : Int))) = specieref06_padded b := by
  rw [padded_eq, count_eq, mul8 hl]; rfl
 simp only [e]
 generalize specieref06_padded b = X at hX hX64
 refine iter_rel (fun (a : List Int × List Int) (c : Int × List Int) => ∃ n : Nat, c.1 = (n : Int) ∧ a.1 = X.drop n ∧ a.2 = c.2 ∧ c.2.length = 8 ∧ n ≤ X.length ∧ n % 64 = 0) (fun r s => r = s) (fun a => a.1.length) ?_ _ _ _ _ ⟨0, rfl, rfl, rfl, rfl, Nat.zero_le _, rfl⟩ (Nat.lt_succ_self _) (show X.length < ((X.length : Int) - 0).toNat + 1 by omega)
 rintro ag bg ⟨r, s⟩ ⟨at', s'⟩ ⟨n, rfl, rfl, rfl, g1, g2, g3⟩ hag
 simp only at g1 hag
 by_cases hn : n < X.length
 ·have c1 : ((X.drop n).length : Int) > 0 := by rw [List.length_drop]; omega
  have c2 : (n : Int) < (X.length : Int) := by omega
  have hlen : (sl X (n : Int) ((n : Int) + 64)).length = 64 := by rw [sl_len]; omega
  simp only [c1, c2, decide_true, if_true]
  rw [← words_eq hlen (isB_sl hX), sl_drop, sl_rest]
  have hrel : ∃ k : Nat, ((n : Int) + 64) = (k : Int) ∧ X.drop (n + 64) = X.drop k ∧ k ≤ X.length ∧ k % 64 = 0 := by
   generalize hk : n + 64 = k
   exact ⟨k, by omega, rfl, by omega, by omega⟩
  obtain ⟨k, k1, k2, k3, k4⟩ := hrel
  have hmu : (X.drop (n + 64)).length < (X.drop n).length := by rw [List.length_drop, List.length_drop]; omega
  have hm := mix_len (b := sl X (n : Int) ((n : Int) + 64)) g1
  have h1 := hag (X.drop (n + 64), digest_mix s (sl X (n : Int) ((n : Int) + 64))) ((n : Int) + 64, digest_mix s (sl X (n : Int) ((n : Int) + 64)))
  simp only at h1
  have h2 := h1 ⟨k, k1, k2, trivial, hm, k3, k4⟩ hmu
  refine Eq.trans h2 ?_
  exact (rnd_eq (fun z => bg ((n : Int) + 64, z)) g1).symm
 ·have c1 : ¬ ((X.drop n).length : Int) > 0 := by rw [List.length_drop]; omega
  have c2 : ¬ (n : Int) < (X.length : Int) := by omega
  simp only [c1, c2, decide_false, Bool.false_eq_true, if_false]
  show (_ : List Int) = _
  kernel_rfl
end Go.Proofs.YtcbdmoihobdjaaaGreatDoor
namespace Go.Proofs.YtcbdmoihobdjaaaGreatDoor
open Go.RowKit
theorem arr_range (h : List Int) : arrN 32 h = (List.range 32).map fun k : Nat => gt h (k : Int) := by kernel_rfl
theorem isB_arr {l : List Int} (h : isB l) : isB (arrN 32 l) := by
 rw [arr_range]
 intro x hx
 obtain ⟨k, _, rfl⟩ := List.mem_map.1 hx
 exact gt_isB h _
theorem isB_nat8 (t : List UInt8) : isB (nat8 t) := fun x hx => by
 obtain ⟨b, _, rfl⟩ := List.mem_map.1 hx
 have := UInt8.toNat_lt b
 omega
theorem isB_st {l : List Int} {i x : Int} (h : isB l) (hx : 0 ≤ x ∧ x ≤ 255) : isB (st l i x) := fun y hy => by
 rcases List.mem_or_eq_of_mem_set hy with h1 | h1
 ·exact h y h1
 ·rw [h1]; exact hx
theorem rsum_ok (b : List Int) : (specieref06_Sum b).length = 32 ∧ isB (specieref06_Sum b) := by
 have key : ∀ a, 0 ≤ convI .u8 a ∧ convI .u8 a ≤ 255 := fun a => by have := rng_convI .u8 a; rwa [rng_u8] at this
 unfold specieref06_Sum
 simp only [letk]
 generalize specieref06_padded b = X
 refine iter_inv (fun (_ : Int × List Int) => True) (fun r : List Int => r.length = 32 ∧ isB r) (fun a => ((X.length : Int) - a.1).toNat) ?_ _ _ trivial (show ((X.length : Int) - 0).toNat < ((X.length : Int) - 0).toNat + 1 by omega)
 rintro ag ⟨n, s⟩ _ hag
 simp only at hag
 by_cases hn : n < (X.length : Int)
 ·simp only [hn, decide_true, if_true]
  refine iter_inv (fun (_ : Int × List Int) => True) (fun r : List Int => r.length = 32 ∧ isB r) (fun a => (64 - a.1).toNat) ?_ _ _ trivial (show ((64 : Int) - 0).toNat < ((64 : Int) - 0).toNat + 1 by decide)
  rintro ag2 ⟨t, v⟩ _ hag2
  simp only at hag2
  by_cases ht : t < 64
  ·simp only [ht, decide_true, if_true]
   exact hag2 _ trivial (by simp only; omega)
  ·simp only [ht, decide_false, Bool.false_eq_true, if_false]
   refine iter_inv (fun (_ : Int × List Int) => True) (fun r : List Int => r.length = 32 ∧ isB r) (fun a => (8 - a.1).toNat) ?_ _ _ trivial (show ((8 : Int) - 0).toNat < ((8 : Int) - 0).toNat + 1 by decide)
   rintro ag3 ⟨i, h⟩ _ hag3
   simp only at hag3
   by_cases hi : i < 8
   ·simp only [hi, decide_true, if_true]
    exact hag3 _ trivial (by simp only; omega)
   ·simp only [hi, decide_false, Bool.false_eq_true, if_false]
    exact hag _ trivial (by simp only; omega)
 ·simp only [hn, decide_false, Bool.false_eq_true, if_false]
  refine iter_inv (fun (a : Int × List Int) => a.2.length = 32 ∧ isB a.2) (fun r : List Int => r.length = 32 ∧ isB r) (fun a => (32 - a.1).toNat) ?_ _ _ ⟨rfl, isB_rep 32⟩ (show ((32 : Int) - 0).toNat < ((32 : Int) - 0).toNat + 1 by decide)
  rintro ag2 ⟨t, v⟩ hv hag2
  simp only at hv hag2
  by_cases ht : t < 32
  ·simp only [ht, decide_true, if_true]
   exact hag2 _ ⟨arrN_len, isB_arr (isB_st (isB_arr hv.2) (key _))⟩ (by simp only; omega)
  ·simp only [ht, decide_false, Bool.false_eq_true, if_false]
   exact hv
theorem join_eq (b h : List Int) : specieref06_Join b h = b ++ arrN 32 h := by
 rw [arr_range]
 unfold specieref06_Join
 refine iter_inv (fun (a : Int × List Int) => ∃ k : Nat, a.1 = (k : Int) ∧ k ≤ 32 ∧ a.2 = b ++ (List.range k).map fun j : Nat => gt h (j : Int)) (fun r : List Int => r = b ++ (List.range 32).map fun k : Nat => gt h (k : Int)) (fun a => (32 - a.1).toNat) ?_ _ _ ⟨0, rfl, by decide, by simp⟩ (show ((32 : Int) - 0).toNat < ((32 : Int) - 0).toNat + 1 by decide)
 rintro ag ⟨i, q⟩ ⟨k, e1, e2, e3⟩ hag
 simp only at e1 e3 hag
 subst e1
 subst e3
 by_cases hi : k < 32
 ·have : (k : Int) < 32 := by omega
  simp only [this, decide_true, if_true]
  exact hag _ ⟨k + 1, rfl, hi, by rw [List.range_succ]; simp⟩ (by simp only; omega)
 ·have : ¬ (k : Int) < 32 := by omega
  have e : k = 32 := by omega
  simp only [this, decide_false, Bool.false_eq_true, if_false]
  rw [e]
theorem tagged_eq {tag : List UInt8} {b : List Int} (h1 : 1 ≤ tag.length) (h2 : tag.length ≤ 100) (hb : isB b) (hl : b.length ≤ 900000000) : digest_Tagged tag b = (specieref06_Tagged tag b, 0) := by
 unfold digest_Tagged specieref06_Tagged
 have c1 : ¬ (tag.length : Int) < 1 := by omega
 have c2 : ¬ (tag.length : Int) > 100 := by omega
 simp only [c1, c2, decide_false, Bool.false_eq_true, if_false, letk, bytes_Clone, join_eq, List.nil_append]
 have e1 := sum_eq (isB_nat8 tag) (by rw [nat8_len]; omega)
 obtain ⟨l1, l2⟩ := rsum_ok (nat8 tag)
 rw [e1]
 generalize specieref06_Sum (nat8 tag) = t at l1 l2
 have e2 : arrN 32 t = t := arrN_full l1
 rw [e2, sum_eq (isB_app (isB_app l2 l2) hb) (by simp only [List.length_append]; omega)]
theorem tagged_ok (tag : List UInt8) (b : List Int) : (specieref06_Tagged tag b).length = 32 ∧ isB (specieref06_Tagged tag b) := by
 unfold specieref06_Tagged
 simp only [letk]
 exact rsum_ok _
end Go.Proofs.YtcbdmoihobdjaaaGreatDoor
namespace Go.Proofs.YtcbdmoihobdjaaaGreatDoor
open Go.RowKit
theorem iteF {c : Prop} [Decidable c] {a : Bool} : ((if c then false else a) = true) ↔ (¬ c ∧ a = true) := by
 by_cases h : c <;> simp [h]
theorem iteA {c : Prop} [Decidable c] {a : Bool} : ((if c then a else false) = true) ↔ (c ∧ a = true) := by
 by_cases h : c <;> simp [h]
theorem lk {α β : Type} {a : α} {f : α → β} : letk a f = f a := rfl
theorem is_ge {n : Int} (h : prime_Is n = true) : 2 ≤ n := by
 unfold prime_Is at h
 rw [iteF] at h
 have := h.1
 simp only [decide_eq_true_eq] at this
 omega
theorem group_eq (g : S_api_Group) : group_Valid g = specieref10_Valid g := by
 rw [Bool.eq_iff_iff]
 unfold group_Valid specieref10_Valid
 simp only [lk, iteF, iteA, decide_eq_true_eq, beq_iff_eq, bne_iff_ne, ne_eq, Bool.not_eq_true', Bool.not_eq_false, Decidable.not_not]
 constructor
 ·rintro ⟨h1, h2, h3, h4, h5, h6, h7, h8, h9, h10⟩
  have hp := is_ge h4
  have hq := q_le (p := g.P) (by omega) (by omega) (show 3 ≤ g.Q by omega) h6
  rw [wpow_eq (by omega) (by omega) (by omega) (by omega)] at h10
  rw [is_eq (by omega)] at h4
  rw [is_eq (by omega)] at h5
  exact ⟨by omega, h1, h2, h3, h6, h7, h8, h4, h5, h10⟩
 ·rintro ⟨h0, h1, h2, h3, h6, h7, h8, h4, h5, h10⟩
  have hq := q_le (p := g.P) (by omega) (by omega) (show 3 ≤ g.Q by omega) h6
  have hw := wpow_eq (a := g.G) (e := g.Q) (m := g.P) (by omega) (by omega) (by omega) (by omega)
  exact ⟨h1, h2, h3, by rw [is_eq (by omega)]; exact h4, by rw [is_eq (by omega)]; exact h5, h6, h7, h8, by rw [hw], by rw [hw]; exact h10⟩
theorem okG_of {g : S_api_Group} (h : specieref10_Valid g = true) : okG g := (rvalid_cf g).1 h
theorem elem_eq {g : S_api_Group} (h : okG g) (x : Int) : group_element g x = specieref10_Member g x := by
 obtain ⟨h1, h2, h3, h4, h5, h6⟩ := h
 rw [Bool.eq_iff_iff]
 unfold group_element specieref10_Member
 simp only [lk, iteF, iteA, decide_eq_true_eq, beq_iff_eq]
 constructor
 ·rintro ⟨a1, a2, a3⟩
  rw [wpow_eq (by omega) (by omega) (by omega) (by omega)] at a3
  exact ⟨by omega, by omega, a3⟩
 ·rintro ⟨a1, a2, a3⟩
  exact ⟨by omega, by omega, by rw [wpow_eq (by omega) (by omega) (by omega) (by omega)]; exact a3⟩
theorem relem_eq {b : S_api_Bases} (h : okG b.Group) (x : Int) : restrict_element b x = specieref10_Member b.Group x := by
 obtain ⟨h1, h2, h3, h4, h5, h6⟩ := h
 rw [Bool.eq_iff_iff]
 unfold restrict_element specieref10_Member
 simp only [lk, iteF, iteA, decide_eq_true_eq, beq_iff_eq]
 constructor
 ·rintro ⟨a1, a2, a4, a3⟩
  rw [wpow_eq (by omega) (by omega) (by omega) (by omega)] at a3
  exact ⟨by omega, by omega, a3⟩
 ·rintro ⟨a1, a2, a3⟩
  have hw := wpow_eq (a := x) (e := b.Group.Q) (m := b.Group.P) (by omega) (by omega) (by omega) (by omega)
  exact ⟨by omega, by omega, by rw [hw], by rw [hw]; exact a3⟩
theorem contains_eq {g : S_api_Group} (h : specieref10_Valid g = true) (x : Int) : group_Contains g x = specieref10_Member g x := by
 unfold group_Contains
 simp only [lk, group_eq, h, if_true]
 exact elem_eq (okG_of h) x
theorem base_eq (b : S_api_Bases) : base_Valid b = specieref11_Valid b := by
 rw [Bool.eq_iff_iff]
 unfold base_Valid specieref11_Valid
 rw [show ((3 : Int) - 0).toNat + 1 = 4 from rfl]
 simp only [lk, group_eq]
 by_cases h : specieref10_Valid b.Group = true
 ·simp only [iter, h, iteF, iteA, contains_eq h, decide_eq_true_eq, beq_iff_eq, bne_iff_ne, ne_eq, Bool.not_eq_true', Bool.not_eq_false, Int.reduceLT, Int.reduceAdd, gt, Int.reduceToNat, List.getD_cons_zero, List.getD_cons_succ, if_true, Bool.not_true, Bool.false_eq_true, not_false_eq_true, true_and, and_true, if_false, Decidable.not_not]
  constructor
  ·rintro ⟨a1, a2, a3, a4, a5, a6⟩; exact ⟨a1, a3, a5, a2, a4, a6⟩
  ·rintro ⟨a1, a3, a5, a2, a4, a6⟩; exact ⟨a1, a2, a3, a4, a5, a6⟩
 ·simp only [h, Bool.not_false, if_true, if_false, Bool.false_eq_true]
theorem base_ok {b : S_api_Bases} (h : specieref11_Valid b = true) : specieref10_Valid b.Group = true ∧ okG b.Group := by
 have h0 := h
 unfold specieref11_Valid at h
 have h1 := (letB h rfl).1
 exact ⟨h1, okG_of h1⟩
theorem msg_eq {b : S_api_Bases} (h : okG b.Group) (x : Int) : restrict_message b x = specieref25_Message b.Group x := by
 unfold restrict_message specieref25_Message
 simp only [lk, relem_eq h]
theorem key_eq (b : S_api_Bases) (k : S_api_BankKey) : restrict_Valid b k = specieref25_Valid b k := by
 unfold restrict_Valid specieref25_Valid
 simp only [lk, base_eq]
 by_cases h : specieref11_Valid b = true
 ·simp only [msg_eq (base_ok h).2]
 ·rw [if_neg h, if_neg h]
theorem elems_all {b : S_api_Bases} {l : List Int} : restrict_elements b l = l.all (restrict_element b) := by
 have key : ∀ (k fuel : Nat) (F : (Int → Bool) → Int → Bool) (d : Int → Bool), (∀ ag p, F ag p = if decide (p < (l.length : Int)) = true then (letk (restrict_element b (gt l p)) (fun (x5 : Bool) => if (!x5) = true then false else ag (p + 1))) else true) →
   k ≤ l.length → l.length - k < fuel → iter fuel F d (k : Int) = (l.drop k).all (restrict_element b) := by
  intro k fuel
  induction fuel generalizing k with
  | zero => intro F d hF hk hf; omega
  | succ n ih =>
   intro F d hF hk hf
   rw [iter, hF]
   by_cases hc : k < l.length
   ·rw [if_pos (show decide ((k : Int) < (l.length : Int)) = true by simpa using hc)]
    simp only [lk]
    rw [List.drop_eq_getElem_cons hc, List.all_cons]
    have e : gt l (k : Int) = l[k] := by rw [gt_nat, List.getD_eq_getElem?_getD, List.getElem?_eq_getElem hc]; rfl
    rw [e]
    have := ih (k + 1) F d hF (by omega) (by omega)
    rw [show ((k : Int) + 1) = ((k + 1 : Nat) : Int) by push_cast; rfl, this]
    cases restrict_element b l[k] <;> simp
   ·rw [if_neg (show ¬ decide ((k : Int) < (l.length : Int)) = true by simpa using hc), List.drop_eq_nil_of_le (by omega)]; rfl
 unfold restrict_elements
 exact key 0 _ _ _ (fun ag p => rfl) (Nat.zero_le _) (by omega)
theorem len1_eq (b : S_api_Bases) (r : S_api_KeyRecord) : epoch_Valid b r = specieref30_Valid b r := by
 have hf : epoch_numbers r.Bank r.Epoch r.From r.Until r.Final = specieref30_Frame r.Bank r.Epoch r.From r.Until r.Final := rfl
 have hi : epoch_within r.Denom 0 16 = specieref30_in r.Denom 0 16 := rfl
 have hs : ∀ d : S_api_Denom, denom_single d = specieref28_One d := fun d => by
  unfold denom_single specieref28_One
  have hq : q_api_Denom d z_api_Denom = (d.Value == 0 && d.Depth == 0) := rfl
  rw [hq, Bool.eq_iff_iff]
  by_cases h1 : d.Depth ≥ 0
  ·by_cases h2 : d.Depth ≤ 5
   ·have e : convI .u64 d.Depth = d.Depth := conv_u64 (by omega) (by omega)
    rw [e]
    by_cases h0 : d.Value = 0
    ·simp [h0]
    ·simp [h0]
   ·by_cases h0 : d.Value = 0 <;> simp [h0, h2] <;> omega
  ·by_cases h0 : d.Value = 0 <;> simp [h0, h1] <;> omega
 have hd : denom_Valid [({ Value := r.Value, Depth := r.Depth } : S_api_Denom)] = denom_single { Value := r.Value, Depth := r.Depth } := by
  unfold denom_Valid
  rw [if_neg (by simp), if_neg (by simp)]
  show iter 2 _ _ 0 = _
  simp only [iter, lk]
  cases hx : denom_single { Value := r.Value, Depth := r.Depth } with
  | true => simp [gt, hx]
  | false => simp [gt, hx]
 rw [Bool.eq_iff_iff]
 unfold epoch_Valid specieref30_Valid
 simp only [lk, hf, hi, hd, hs, key_eq, iteA]
 have h1 : (r.Value == 0) = true → ((if (r.Depth == 0) = true then specieref25_Valid b r.Key else if specieref28_One { Value := r.Value, Depth := r.Depth } = true then specieref25_Valid b r.Key else false) = true ↔ (specieref28_One { Value := r.Value, Depth := r.Depth } = true ∧ specieref25_Valid b r.Key = true)) := fun h => by
  unfold specieref28_One
  rw [if_pos h]
  by_cases h2 : (r.Depth == 0) = true
  ·rw [if_pos h2]; simp [h2]
  ·rw [if_neg h2, iteA]
 by_cases hv : (r.Value == 0) = true
 ·rw [if_pos hv, h1 hv]
  constructor
  ·rintro ⟨a, b, c, d⟩; exact ⟨d, a, b, c⟩
  ·rintro ⟨d, a, b, c⟩; exact ⟨a, b, c, d⟩
 ·rw [if_neg hv, iteA]
  constructor
  ·rintro ⟨a, b, c, d⟩; exact ⟨d, a, b, c⟩
  ·rintro ⟨d, a, b, c⟩; exact ⟨a, b, c, d⟩
theorem wadd_eq {a b m : Int} (ha : 0 ≤ a ∧ a < m) (hb : 0 ≤ b ∧ b < m) (hm : m < 2305843009213693952) : word_Add a b m = ((a + b) % m, 0) := by
 unfold word_Add word_check word_residue
 simp only [lk]
 rw [if_neg (show ¬ decide (m < 1) = true by simp only [decide_eq_true_eq]; omega), if_neg (show ¬ decide (m ≥ 2305843009213693952) = true by simp only [decide_eq_true_eq]; omega)]
 have e : addI .i64 a b = a + b := by unfold addI; rw [IntKind.wrap_i64]; omega
 simp [ha.1, ha.2, hb.1, hb.2, e, rem_nn (show 0 ≤ a + b by omega)]
theorem wmul_eq {a b m : Int} (ha : 0 ≤ a ∧ a < m) (hb : 0 ≤ b ∧ b < m) (hm : m < 2305843009213693952) : word_Mul a b m = (a * b % m, 0) := by
 unfold word_Mul word_check word_residue
 simp only [lk]
 rw [if_neg (show ¬ decide (m < 1) = true by simp only [decide_eq_true_eq]; omega), if_neg (show ¬ decide (m ≥ 2305843009213693952) = true by simp only [decide_eq_true_eq]; omega)]
 simp [ha.1, ha.2, hb.1, hb.2, word_mul_eq ha.1 ha.2 hb.1 (by omega) (by omega)]
theorem dig_step {x c m : Int} : (x * 256 % m + c % m) % m = (x * (256 % m) % m + c) % m := by
 have h2 : (x * (256 % m)) % m = (x * 256) % m := by rw [Int.mul_emod, Int.emod_emod_of_dvd _ (Int.dvd_refl m), ← Int.mul_emod]
 rw [h2, ← Int.add_emod, Int.add_emod (x * 256 % m), Int.emod_emod_of_dvd _ (Int.dvd_refl m), ← Int.add_emod]
theorem number_eqR {h : List Int} {m : Int} (hm : 1 ≤ m) (hm1 : m < 2305843009213693952) (hb : ∀ i : Int, 0 ≤ gt h i ∧ gt h i ≤ 255) : digest_Number h m = (specieref06_Number h m, 0) := by
 unfold digest_Number specieref06_Number
 rw [if_neg (show ¬ decide (m < 1) = true by simp only [decide_eq_true_eq]; omega), if_neg (show ¬ decide (m ≥ 2305843009213693952) = true by simp only [decide_eq_true_eq]; omega)]
 have hg : ∀ i : Int, 0 ≤ i → i < 16 → gt [gt h 0, gt h 1, gt h 2, gt h 3, gt h 4, gt h 5, gt h 6, gt h 7, gt h 8, gt h 9, gt h 10, gt h 11, gt h 12, gt h 13, gt h 14, gt h 15] i = gt h i := by
  intro i h0 h1
  obtain ⟨k, rfl⟩ := Int.eq_ofNat_of_zero_le h0
  have hk : k < 16 := by omega
  match k, hk with
  | 0, _ => rfl
  | 1, _ => rfl
  | 2, _ => rfl
  | 3, _ => rfl
  | 4, _ => rfl
  | 5, _ => rfl
  | 6, _ => rfl
  | 7, _ => rfl
  | 8, _ => rfl
  | 9, _ => rfl
  | 10, _ => rfl
  | 11, _ => rfl
  | 12, _ => rfl
  | 13, _ => rfl
  | 14, _ => rfl
  | 15, _ => rfl
  | k + 16, hk => omega
 refine iter_rel (fun p q : Int × Int => p = q ∧ (0 ≤ p.1 ∧ p.1 < m) ∧ 0 ≤ p.2) (fun r s => r = (s, 0)) (fun p => (16 - p.2).toNat) ?_ _ _ _ _ ⟨rfl, ⟨by decide, by show (0 : Int) < m; omega⟩, by decide⟩ (by decide) (by decide)
 rintro ag bg ⟨x, i⟩ q ⟨rfl, p1, p2⟩ ih
 simp only at p1 p2 ih
 by_cases hi : i < 16
 ·rw [if_pos (show decide (i < 16) = true by simpa using hi), if_pos (show decide (i < 16) = true by simpa using hi)]
  simp only [hg i p2 hi]
  refine iter_rule (P := fun q : Int × Int => ∃ k : Nat, q.2 = k ∧ k ≤ 8 ∧ q.1 = x * 2 ^ k % m) (Q := fun r => r = _) (meas := fun q => (8 - q.2).toNat) ?_ _ _ ⟨0, rfl, by decide, by show x = x * 2 ^ 0 % m; rw [Int.pow_zero, Int.mul_one, Int.emod_eq_of_lt p1.1 p1.2]⟩ (by show ((8 : Int) - 0).toNat < ((8 : Int) - 0).toNat + 1; omega)
  rintro ag2 ⟨y, j⟩ ⟨k, e1, e2, e3⟩ ih2
  simp only at e1 e3 ih2
  subst e1
  have hy : 0 ≤ y ∧ y < m := by rw [e3]; exact mod_rng (by omega)
  by_cases hj : (k : Int) < 8
  ·rw [if_pos (show decide ((k : Int) < 8) = true by simpa using hj)]
   simp only [lk, wadd_eq hy hy hm1]
   refine ih2 _ ⟨k + 1, by push_cast; rfl, by omega, ?_⟩ (by show (8 - ((k : Int) + 1)).toNat < (8 - (k : Int)).toNat; omega)
   show (y + y) % m = x * 2 ^ (k + 1) % m
   rw [e3, ← Int.add_emod, Int.pow_succ]
   congr 1
   rw [← Int.mul_assoc]; omega
  ·rw [if_neg (show ¬ decide ((k : Int) < 8) = true by simpa using hj)]
   have ek : k = 8 := by omega
   have hc := hb i
   have ec : convI .i64 (gt h i) = gt h i := conv_i64 (by omega) (by omega)
   simp only [lk, ec, rem_nn hc.1]
   have er : 0 ≤ gt h i % m ∧ gt h i % m < m := mod_rng (by omega)
   rw [wadd_eq hy er hm1]
   have h256 := rem256_rng hm
   rw [rmul_eq p1.1 p1.2 h256.1, rem_nn (by decide), rred_eq hm hm1]
   have es : (y + gt h i % m) % m = (x * (256 % m) % m + gt h i) % m := by
    rw [e3, ek, show (2 : Int) ^ 8 = 256 by decide]; exact dig_step
   rw [es]
   have e64 : addI .i64 (x * (256 % m) % m) (gt h i) = x * (256 % m) % m + gt h i := by
    have := mod_rng (x := x * (256 % m)) (m := m) (by omega)
    unfold addI; rw [IntKind.wrap_i64]; omega
   first
    | rw [e64]
    | skip
   exact ih _ _ ⟨rfl, mod_rng (by omega), by show 0 ≤ i + 1; omega⟩ (by show (16 - (i + 1)).toNat < (16 - i).toNat; omega)
 ·rw [if_neg (show ¬ decide (i < 16) = true by simpa using hi), if_neg (show ¬ decide (i < 16) = true by simpa using hi)]
end Go.Proofs.YtcbdmoihobdjaaaGreatDoor
namespace Go.Proofs.YtcbdmoihobdjaaaGreatDoor
open Go.RowKit
theorem coin_awake : specielaw31_awake = true := by decide +kernel
theorem pow1 {y m : Int} (h0 : 0 ≤ y) (h1 : y < m) (h2 : 1 < m) : specieref01_Pow y 1 m = y := by
 unfold specieref01_Pow
 show iter 2 _ _ _ = _
 rw [iter]
 rw [if_pos (show decide ((1 : Int) > 0) = true by decide), if_pos (show ((1 : Int) % 2 == 1) = true by decide)]
 simp only [lk]
 rw [iter, if_neg (show ¬ decide ((1 : Int) / 2 > 0) = true by decide)]
 show specieref01_Mul (remI .i64 1 m) y m = y
 rw [rem_one h2, rmul_eq (by decide) h2 h0, Int.one_mul, Int.emod_eq_of_lt h0 h1]
theorem rpower_eq {b : S_api_Bases} (h : okG b.Group) {x e : Int} (hx : 0 ≤ x ∧ x < b.Group.P) (he : 0 ≤ e ∧ e ≤ 9223372036854775807) : restrict_power b x e = specieref25_power b.Group x e := by
 unfold restrict_power specieref25_power
 simp only [lk]
 rw [wpow_eq hx.1 hx.2 h.2.2.1 he]
theorem rtimes_eq {b : S_api_Bases} (h : okG b.Group) {x y : Int} (hx : 0 ≤ x ∧ x < b.Group.P) (hy : 0 ≤ y ∧ y < b.Group.P) : restrict_times b x y = specieref25_times b.Group x y := by
 unfold restrict_times specieref25_times
 simp only [lk]
 rw [wmul_eq hx hy h.2.2.1, rmul_eq hx.1 hx.2 hy.1]
theorem power_rng {b : S_api_Bases} {x e : Int} (hx : 0 ≤ x ∧ x < b.Group.P) : 0 ≤ specieref25_power b.Group x e ∧ specieref25_power b.Group x e < b.Group.P := rpow_rng (x := specieref01_Pow x e b.Group.P) rfl hx.1 hx.2
theorem rprod_eq {b : S_api_Bases} (h : okG b.Group) {x e y : Int} (hx : 0 ≤ x ∧ x < b.Group.P) (he : 0 ≤ e ∧ e ≤ 9223372036854775807) (hy : 0 ≤ y ∧ y < b.Group.P) : restrict_product b x e y 1 = specieref25_times b.Group (specieref25_power b.Group x e) y := by
 unfold restrict_product
 simp only [lk]
 rw [rpower_eq h hx he, rpower_eq h hy (by decide), rtimes_eq h (power_rng hx) (power_rng hy)]
 show specieref25_times b.Group _ (specieref01_Pow y 1 b.Group.P) = _
 rw [pow1 hy.1 hy.2 (by have := h.2.1; omega)]
theorem enc_chal (b : S_api_Bases) (p : Int) (r : List Int) (s : S_api_CoinSign) : encode_Encode (chalI b p r s) = (encI (chalI b p r s), 0) := by
 have hw : withinM (chalI b p r s) 8 = true := by simp [chalI, withinM, withinL, arrN_len]
 have hh : hgt (chalI b p r s) ≤ 100 := by simp [chalI, hgt, hgtL, arrN_len]
 have hl := encI_len (chalI b p r s)
 rw [encode_Encode_eq, if_neg (by rw [hw]; decide), if_neg (by omega)]
def okB (b : S_api_Bases) : Prop := okG b.Group ∧ (1 ≤ b.G1 ∧ b.G1 < b.Group.P) ∧ (1 ≤ b.G2 ∧ b.G2 < b.Group.P) ∧ 1 ≤ b.H ∧ b.H < b.Group.P
theorem okB_of {b : S_api_Bases} (h : specieref11_Valid b = true) : okB b := (rbase_cf b).1 h
theorem ok_chal {b : S_api_Bases} (h : okB b) {p : Int} {r : List Int} {s : S_api_CoinSign} (hp : 0 ≤ p ∧ p < b.Group.P) (hz : 0 ≤ s.Z ∧ s.Z < b.Group.P) (ha : 0 ≤ s.A ∧ s.A < b.Group.P) (hb : 0 ≤ s.B ∧ s.B < b.Group.P) (hr : isB (arrN 32 r)) : okI (chalI b p r s) := by
 obtain ⟨⟨h1, h2, h3, h4, h5, h6⟩, h7, h8, h9, h10⟩ := h
 refine ok_list (fun x hx => ?_)
 simp only [List.mem_cons, List.not_mem_nil, or_false] at hx
 rcases hx with rfl | rfl | rfl | rfl | rfl | rfl | rfl | rfl | rfl | rfl | rfl
 case inr.inr.inr.inr.inr.inr.inr.inl => exact ok_byt hr arrN_len
 all_goals (refine ok_int ⟨?_, ?_⟩ <;> omega)
theorem chal_prog {b : S_api_Bases} {p : Int} {r : List Int} {s : S_api_CoinSign} (hv : specieref11_Valid b = true) (he : restrict_elements b [p, s.Z, s.A, s.B] = true) (hi : okI (chalI b p r s)) : restrict_Challenge b p r s = (specieref25_Challenge b p r s, 0) := by
 have ho := (okB_of hv).1
 rw [rchal_eq]
 generalize hT : (specieref06_Number (specieref06_Tagged coinTagC (encI (chalI b p r s))) b.Group.Q, (0 : Int)) = T
 unfold restrict_Challenge
 refine letk_go fun x1 h1 => ?_
 rw [base_eq, hv] at h1
 rw [if_neg (by rw [h1]; decide)]
 refine letk_go fun x7 h7 => ?_
 rw [he] at h7
 rw [if_neg (by rw [h7]; decide)]
 refine iter_rule (P := fun q : Int × List S_api_Item => ∃ k : Nat, q.1 = k ∧ k ≤ 7 ∧ q.2 = (([b.Group.P, b.Group.Q, b.Group.G, b.G1, b.G2, b.H, p] : List Int).take k).map restrict_number) (Q := fun x => x = T) (meas := fun q => (7 - q.1).toNat) ?_ _ _ ⟨0, rfl, Nat.zero_le _, rfl⟩ (by show ((7 : Int) - 0).toNat < _; decide)
 rintro ag ⟨i, l⟩ ⟨k, e1, e2, e3⟩ ih
 simp only at e1 e3 ih
 subst e1
 by_cases hk : (k : Int) < 7
 ·rw [if_pos (show decide ((k : Int) < 7) = true by simpa using hk)]
  refine letk_go fun x17 h17 => ?_
  refine ih _ ⟨k + 1, by push_cast; rfl, by omega, ?_⟩ (by show ((7 : Int) - (k + 1)).toNat < ((7 : Int) - k).toNat; omega)
  show l ++ [x17] = _
  rw [take_gt (by simp; omega), List.map_append, e3, h17]; rfl
 ·rw [if_neg (show ¬ decide ((k : Int) < 7) = true by simpa using hk)]
  have ek : k = 7 := by omega
  rw [ek] at e3
  refine letk_go fun x20 h20 => ?_
  refine letk_go fun x22 h22 => ?_
  refine letk_go fun x24 h24 => ?_
  refine letk_go fun x26 h26 => ?_
  have ei : (⟨3, 0, [], l ++ [⟨2, 0, arrN 32 r, []⟩, x20, x22, x24]⟩ : S_api_Item) = chalI b p r s := by
   rw [e3, h20, h22, h24]; rfl
  have h26' : x26 = encode_Encode (chalI b p r s) := by rw [h26, ← ei]
  rw [enc_chal] at h26'
  rw [if_neg (by rw [h26']; show ¬ ((0 : Int) != 0) = true; decide)]
  refine letk_go fun x32 h32 => ?_
  have hl := encI_len (chalI b p r s)
  have hh : hgt (chalI b p r s) ≤ 100 := by simp [chalI, hgt, hgtL, arrN_len]
  have h32' : x32 = (specieref06_Tagged coinTagC (encI (chalI b p r s)), 0) := by
   rw [h32, h26']
   exact tagged_eq (by decide) (by decide) (encI_isB _ hi) (by show (encI (chalI b p r s)).length ≤ _; omega)
  rw [if_neg (by rw [h32']; show ¬ ((0 : Int) != 0) = true; decide)]
  refine letk_go fun x38 h38 => ?_
  have ht := tagged_ok coinTagC (encI (chalI b p r s))
  have hn := number_eqR (h := specieref06_Tagged coinTagC (encI (chalI b p r s))) (m := b.Group.Q) (by have := ho.1; omega) (by have := ho.2.2.2.1; have := ho.2.2.1; omega) (fun i => gt_isB ht.2 i)
  have e8 : x32.1 = specieref06_Tagged coinTagC (encI (chalI b p r s)) := by rw [h32']
  rw [e8, hn, hT] at h38
  rw [h38]
theorem chal_bad {b : S_api_Bases} {p : Int} {r : List Int} {s : S_api_CoinSign} (he : restrict_elements b [p, s.Z, s.A, s.B] = false) : (restrict_Challenge b p r s).2 ≠ 0 := by
 unfold restrict_Challenge
 simp only [lk]
 rw [he]
 by_cases h : base_Valid b = true
 ·rw [if_neg (by rw [h]; decide), if_pos (by decide)]; decide
 ·rw [if_pos (by simpa using h)]; decide
theorem verify_eq {b : S_api_Bases} {k : S_api_BankKey} {p : Int} {r : List Int} {s : S_api_CoinSign} (hr : isB (arrN 32 r)) : restrict_Verify b k p r s = specieref25_Verify b k p r s := by
 unfold restrict_Verify specieref25_Verify
 refine letk_go fun x1 h1 => Eq.symm (letk_go fun y1 g1 => ?_)
 rw [key_eq, ← g1] at h1
 subst h1
 cases hk : x1 with
 | false => rfl
 | true =>
 have hkv : specieref25_Valid b k = true := by rw [← g1, hk]
 have hv : specieref11_Valid b = true := by
  have h := hkv
  unfold specieref25_Valid at h
  exact (letB h rfl).1
 have hB := okB_of hv
 have ho := hB.1
 have hkr := ((rkey_cf b k).1 hkv).2
 rw [if_neg (by decide), if_neg (by decide)]
 refine letk_go fun y6 g6 => Eq.symm (letk_go fun x6 h6 => ?_)
 rw [msg_eq ho, ← g6] at h6
 subst h6
 cases hm : x6 with
 | false => rfl
 | true =>
 have hmr := (rmsg_cf b.Group p).1 (by rw [← g6, hm])
 have hpm : specieref10_Member b.Group p = true := by
  have h : specieref25_Message b.Group p = true := by rw [← g6, hm]
  unfold specieref25_Message at h
  obtain ⟨_, h⟩ := ifB h
  exact h
 rw [if_neg (by decide), if_neg (by decide)]
 refine letk_go fun x11 h11 => Eq.symm (letk_go fun y11 g11 => ?_)
 have hs : restrict_scalar b s.R = specieref25_Scalar b.Group s.R := rfl
 rw [hs] at h11
 have hel : restrict_elements b [p, s.Z, s.A, s.B] = y11 := by
  rw [elems_all, g11, Bool.eq_iff_iff]
  unfold specieref25_elements
  simp only [lk, List.all_cons, List.all_nil, Bool.and_eq_true, relem_eq ho, hpm, true_and, iteA, and_true]
 cases hx11 : x11 with
 | false =>
  refine Eq.symm ?_
  show false = _
  cases hy : y11 with
  | false => rfl
  | true =>
   rw [if_neg (by decide)]
   refine Eq.symm (letk_go fun y16 g16 => ?_)
   rw [← h11, hx11] at g16
   rw [if_pos (by rw [g16]; decide)]
 | true =>
 rw [if_neg (show ¬ (!true) = true by decide)]
 have hsr := (rscal_cf b.Group s.R).1 (by rw [← h11, hx11])
 cases hy : y11 with
 | false =>
  refine Eq.symm (letk_go fun x17 h17 => ?_)
  have hb := chal_bad (r := r) (by rw [hel, hy])
  rw [← h17] at hb
  rw [if_pos (by simpa using hb)]
  rfl
 | true =>
 rw [hy] at hel
 have her := (relem_cf b.Group s).1 (by rw [← g11, hy])
 rw [if_neg (show ¬ (!true) = true by decide)]
 refine letk_go fun y16 g16 => ?_
 rw [← h11, hx11] at g16
 rw [if_neg (by rw [g16]; decide)]
 refine letk_go fun y22 g22 => Eq.symm (letk_go fun x17 h17 => ?_)
 have hz : 0 ≤ s.Z ∧ s.Z < b.Group.P := by omega
 have ha : 0 ≤ s.A ∧ s.A < b.Group.P := by omega
 have hbb : 0 ≤ s.B ∧ s.B < b.Group.P := by omega
 have hp : 0 ≤ p ∧ p < b.Group.P := by omega
 have hkh : 0 ≤ k.H ∧ k.H < b.Group.P := by omega
 have hg : 0 ≤ b.Group.G ∧ b.Group.G < b.Group.P := by have := ho.2.2.2.2; omega
 have hq : b.Group.Q < 2305843009213693952 := by have := ho.2.2.2.1; have := ho.2.2.1; omega
 rw [chal_prog hv hel (ok_chal hB hp hz ha hbb hr), ← g22] at h17
 have hc := rchal_rng g22 (by have := ho.1; omega) hq
 rw [if_neg (by rw [h17]; show ¬ ((0 : Int) != 0) = true; decide), h17]
 show (if (y22 == 0) = true then false else _) = _
 by_cases hc0 : y22 = 0
 ·rw [if_pos (by simpa using hc0), if_neg (by simpa using hc0)]
 rw [if_neg (by simpa using hc0), if_pos (by simpa using hc0)]
 have hR : 0 ≤ s.R ∧ s.R ≤ 9223372036854775807 := by omega
 have hC : 0 ≤ y22 ∧ y22 ≤ 9223372036854775807 := by omega
 simp only [lk]
 rw [rpower_eq ho hg hR, rprod_eq ho hkh hC ha, rpower_eq ho hp hR, rprod_eq ho hz hC hbb]
theorem coins_eq {b : S_api_Bases} {r : S_api_KeyRecord} {c : S_api_Coin} (hr : isB (arrN 32 c.Root)) : coin_Valid b r c = specieref31_Valid b r c := by
 unfold coin_Valid specieref31_Valid
 simp only [lk, len1_eq, verify_eq hr]
theorem specielaw31_CoinChecks_true (b : S_api_Bases) (r_ : S_api_KeyRecord) (c : S_api_Coin) (hw : wfL [e_api_Bases b, e_api_KeyRecord r_, e_api_Coin c]) : specielaw31_CoinChecks b r_ c = true := by
 simp only [wfL] at hw
 have ha : wfV (e_arr31 c.Root) := by
  have h := hw.2.2.1
  simp only [e_api_Coin, e_arr31, wfV, wfL] at h ⊢
  simp only [h, and_self]
 unfold specielaw31_CoinChecks
 refine letk_go fun x1 h1 => ?_
 rw [coin_awake] at h1
 rw [if_pos h1]
 refine letk_go fun x4 h4 => ?_
 refine letk_go fun x6 h6 => ?_
 rw [h4, h6, coins_eq (ok_arr ha)]
 exact beq_self_eq_true _
end Go.Proofs.YtcbdmoihobdjaaaGreatDoor
