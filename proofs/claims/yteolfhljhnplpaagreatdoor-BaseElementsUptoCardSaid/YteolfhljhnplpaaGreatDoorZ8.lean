/- Texts of this proof, one after the other: L1, L2. -/
import Derived.Test.YteolfhljhnplpaaGreatDoorZ7
set_option linter.unusedVariables false
set_option linter.unusedSimpArgs false
namespace Go.Proofs.YteolfhljhnplpaaGreatDoor
open Go.RowKit Go.Lib
theorem q_le2 {p q : Int} (hp : 2 ≤ p) (hp1 : p < 2305843009213693952) (hq : 3 ≤ q) (h : remI .i64 (subI .i64 p 1) q = 0) : q < p := by
 have e : subI .i64 p 1 = p - 1 := by unfold subI; rw [IntKind.wrap_i64]; omega
 rw [e, rem_nn (by omega)] at h
 have h1 : q ≤ p - 1 := Int.le_of_dvd (by omega) (Int.dvd_of_emod_eq_zero h)
 omega
theorem group_ok {g : S_api_Group} (h : group_Valid g = true) : 2 ≤ g.P ∧ g.P < 2305843009213693952 ∧ 3 ≤ g.Q ∧ g.Q < g.P ∧ 2 ≤ g.G ∧ g.G < g.P := by
 unfold group_Valid at h
 simp only [lk, iteF, iteA, decide_eq_true_eq, beq_iff_eq, bne_iff_ne, ne_eq, Bool.not_eq_true', Bool.not_eq_false, Decidable.not_not] at h
 obtain ⟨h1, h2, h3, h4, h5, h6, h7, h8, h9, h10⟩ := h
 have hp := is_ge h4
 have hq := q_le2 hp (by omega) (show 3 ≤ g.Q by omega) h6
 omega
theorem contains_ok {g : S_api_Group} {x : Int} (h : group_Contains g x = true) : 1 ≤ x ∧ x < g.P := by
 unfold group_Contains group_element at h
 simp only [lk, iteF, iteA, decide_eq_true_eq] at h
 obtain ⟨_, h1, h2, _⟩ := h
 omega
def okB (b : S_api_Bases) : Prop := ∀ x ∈ base_numbers b, 0 ≤ x ∧ x < 2305843009213693952
theorem base_ok2 {b : S_api_Bases} (h : base_Valid b = true) : okB b := by
 unfold base_Valid at h
 rw [show ((3 : Int) - 0).toNat + 1 = 4 from rfl] at h
 simp only [lk, iter, iteF, iteA, decide_eq_true_eq, beq_iff_eq, bne_iff_ne, ne_eq, Bool.not_eq_true', Bool.not_eq_false, Int.reduceLT, Int.reduceAdd, gt, Int.reduceToNat, List.getD_cons_zero, List.getD_cons_succ, if_true, Bool.not_true, Bool.false_eq_true, not_false_eq_true, true_and, and_true, if_false, Decidable.not_not] at h
 obtain ⟨h0, _, h1, _, h2, _, h3⟩ := h
 have g0 := group_ok h0
 have g1 := contains_ok h1
 have g2 := contains_ok h2
 have g3 := contains_ok h3
 intro x hx
 simp only [base_numbers, List.mem_cons, List.not_mem_nil, or_false] at hx
 rcases hx with rfl | rfl | rfl | rfl | rfl | rfl <;> omega
def txt (b : S_api_Bases) : List UInt8 := Lib.join ((base_numbers b).map strconv_Itoa) [32]
theorem text_eq {b : S_api_Bases} (h : base_Valid b = true) : base_Text b = (txt b, 0) := by
 unfold base_Text
 refine letk_go fun x1 h1 => ?_
 rw [if_neg (by rw [h1, h]; decide)]
 refine letk_go fun x7 h7 => ?_
 refine iter_rule (P := fun p : Int × List (List UInt8) => ∃ k : Nat, p.1 = k ∧ k ≤ x7.length ∧ p.2 = (x7.take k).map strconv_Itoa) (Q := fun r => r = (txt b, 0)) (meas := fun p => ((x7.length : Int) - p.1).toNat) ?_ _ _ ⟨0, rfl, Nat.zero_le _, rfl⟩ (by show ((x7.length : Int) - 0).toNat < _; omega)
 rintro ag ⟨i, l⟩ ⟨k, e1, e2, e3⟩ ih
 simp only at e1 e3 ih
 subst e1
 by_cases hi : (k : Int) < (x7.length : Int)
 ·rw [if_pos (show decide ((k : Int) < (x7.length : Int)) = true by simpa using hi)]
  refine letk_go fun x15 h15 => ?_
  refine ih _ ⟨k + 1, by push_cast; rfl, by omega, ?_⟩ (by show ((x7.length : Int) - (k + 1)).toNat < ((x7.length : Int) - k).toNat; omega)
  show l ++ [x15] = _
  rw [take_gt (by omega), List.map_append, e3, h15]; rfl
 ·rw [if_neg (show ¬ decide ((k : Int) < (x7.length : Int)) = true by simpa using hi)]
  have e4 : k = x7.length := by omega
  rw [e4, List.take_length] at e3
  refine letk_go fun x19 h19 => ?_
  rw [h19, e3, h7]; rfl
def okp (p : List UInt8) : Bool := (strconv_Atoi p).2 && decide (0 ≤ (strconv_Atoi p).1) && decide ((strconv_Atoi p).1 < 2305843009213693952) && (strconv_Itoa (strconv_Atoi p).1 == p)
def mkB (l : List Int) : S_api_Bases := ⟨⟨gt l 0, gt l 1, gt l 2⟩, gt l 3, gt l 4, gt l 5⟩
def fin (l : List Int) : S_api_Bases × Int := if ((l.length : Int) != 6) = true then (z_api_Bases, 3) else if (!(base_Valid (mkB l))) = true then (z_api_Bases, 1) else (mkB l, 0)
def readAll (ps : List (List UInt8)) : S_api_Bases × Int := if ps.all okp = true then fin (ps.map fun p => (strconv_Atoi p).1) else (z_api_Bases, 3)
theorem parse_eq (s : List UInt8) : base_Parse s = if s.length > 200 then (z_api_Bases, 5) else readAll (cutAll 32 s) := by
 unfold base_Parse
 by_cases hs : s.length > 200
 ·rw [if_pos (show decide ((s.length : Int) > 200) = true by simp only [decide_eq_true_eq]; omega), if_pos hs]
 rw [if_neg (show ¬ decide ((s.length : Int) > 200) = true by simp only [decide_eq_true_eq]; omega), if_neg hs]
 refine letk_go fun x4 h4 => ?_
 rw [split_one] at h4
 rw [← h4]
 generalize hT : readAll x4 = T
 refine iter_rule (P := fun p : Int × S_api_Bases × List Int => ∃ k : Nat, p.1 = k ∧ k ≤ x4.length ∧ (x4.take k).all okp = true ∧ p.2.2 = (x4.take k).map fun p => (strconv_Atoi p).1) (Q := fun r => r = T) (meas := fun p => ((x4.length : Int) - p.1).toNat) ?_ _ _ ⟨0, rfl, Nat.zero_le _, rfl, rfl⟩ (by show ((x4.length : Int) - 0).toNat < _; omega)
 rintro ag ⟨i, c, l⟩ ⟨k, e1, e2, e3, e5⟩ ih
 simp only at e1 e5 ih
 subst e1
 by_cases hi : (k : Int) < (x4.length : Int)
 ·rw [if_pos (show decide ((k : Int) < (x4.length : Int)) = true by simpa using hi)]
  have hm := gt_mem (l := x4) (i := (k : Int)) (by omega)
  have bad : okp (gt x4 (k : Int)) = false → (z_api_Bases, (3 : Int)) = T := fun hb => by
   rw [← hT]
   unfold readAll
   rw [if_neg]
   intro ha
   rw [List.all_eq_true] at ha
   rw [ha _ hm] at hb; cases hb
  refine letk_go fun x11 h11 => ?_
  by_cases c1 : x11.2 = true
  ·rw [if_neg (show ¬ (!x11.2) = true by rw [c1]; decide)]
   by_cases c2 : x11.1 < 0
   ·rw [if_pos (show decide (x11.1 < 0) = true by simpa using c2)]
    exact bad (by unfold okp; rw [← h11]; simp [show ¬ 0 ≤ x11.1 by omega])
   rw [if_neg (show ¬ decide (x11.1 < 0) = true by simpa using c2)]
   by_cases c3 : x11.1 ≥ 2305843009213693952
   ·rw [if_pos (show decide (x11.1 ≥ 2305843009213693952) = true by simpa using c3)]
    exact bad (by unfold okp; rw [← h11]; simp [show ¬ x11.1 < 2305843009213693952 by omega])
   rw [if_neg (show ¬ decide (x11.1 ≥ 2305843009213693952) = true by simpa using c3)]
   refine letk_go fun x20 h20 => ?_
   by_cases c4 : (x20 == gt x4 (k : Int)) = true
   ·rw [if_neg (show ¬ (!(x20 == gt x4 (k : Int))) = true by rw [c4]; decide)]
    have hok : okp (gt x4 (k : Int)) = true := by
     unfold okp
     rw [← h11, ← h20, c1, c4]
     simp [show 0 ≤ x11.1 by omega, show x11.1 < 2305843009213693952 by omega]
    refine ih _ ⟨k + 1, by push_cast; rfl, by omega, ?_, ?_⟩ (by show ((x4.length : Int) - (k + 1)).toNat < ((x4.length : Int) - k).toNat; omega)
    ·rw [take_gt (by omega), List.all_append, e3]
     simp [hok]
    ·show l ++ [x11.1] = _
     rw [take_gt (by omega), List.map_append, e5, h11]; rfl
   ·rw [if_pos (show (!(x20 == gt x4 (k : Int))) = true by simpa using c4)]
    exact bad (by unfold okp; rw [← h11, ← h20]; simp [show (x20 == gt x4 (k : Int)) = false by simpa using c4])
  ·rw [if_pos (show (!x11.2) = true by simpa using c1)]
   exact bad (by unfold okp; rw [← h11]; simp [show x11.2 = false by simpa using c1])
 ·rw [if_neg (show ¬ decide ((k : Int) < (x4.length : Int)) = true by simpa using hi)]
  have e4 : k = x4.length := by omega
  rw [e4, List.take_length] at e3 e5
  have hT2 : T = fin l := by rw [← hT, e5]; unfold readAll; rw [if_pos e3]
  rw [hT2]
  unfold fin
  split
  ·rfl
  ·refine letk_go fun x39 h39 => ?_
   rw [h39]
   rfl
theorem q_refl (b : S_api_Bases) : q_api_Bases b b = true := by
 unfold q_api_Bases
 simp
theorem back {b : S_api_Bases} (h : base_Valid b = true) : base_Parse (txt b) = (b, 0) := by
 have ho := base_ok2 h
 have hl : (txt b).length ≤ 200 := by
  unfold txt
  refine Nat.le_trans (join_le _ _) ?_
  have h1 : textLen ((base_numbers b).map strconv_Itoa) ≤ 6 * 21 := by
   have hx : ∀ x ∈ base_numbers b, (strconv_Itoa x).length ≤ 21 := fun x hx => Lib.itoa_length_le x (by have := ho x hx; omega) (by have := ho x hx; omega)
   simp only [textLen, base_numbers, List.map_cons, List.map_nil, List.sum_cons, List.sum_nil, List.mem_cons, List.not_mem_nil, or_false, forall_eq_or_imp, forall_eq] at hx ⊢
   omega
  have h2 : ((base_numbers b).map strconv_Itoa).length = 6 := by rw [List.length_map]; rfl
  rw [h2]
  simp only [List.length_cons, List.length_nil]
  omega
 rw [parse_eq, if_neg (by omega)]
 have hc : cutAll 32 (txt b) = (base_numbers b).map strconv_Itoa := by
  unfold txt
  refine cutAll_join 32 (strconv_Itoa b.Group.P) _ (fun x hx => ?_)
  have hx' : x ∈ (base_numbers b).map strconv_Itoa := hx
  obtain ⟨n, hn, rfl⟩ := List.mem_map.1 hx'
  exact itoa_no32 (ho n hn).1
 rw [hc]
 unfold readAll
 have hat : ∀ n ∈ base_numbers b, strconv_Atoi (strconv_Itoa n) = (n, true) := fun n hn => atoi_itoa (ho n hn).1 (ho n hn).2
 rw [if_pos]
 ·have hm : ((base_numbers b).map strconv_Itoa).map (fun p => (strconv_Atoi p).1) = base_numbers b := by
   rw [List.map_map]
   conv => rhs; rw [← List.map_id (base_numbers b)]
   exact List.map_congr_left fun n hn => by show (strconv_Atoi (strconv_Itoa n)).1 = n; rw [hat n hn]
  rw [hm]
  unfold fin
  have hk : mkB (base_numbers b) = b := rfl
  rw [if_neg (by show ¬ (((6 : Nat) : Int) != 6) = true; decide), hk, if_neg (by rw [h]; decide)]
 ·rw [List.all_eq_true]
  intro x hx
  obtain ⟨n, hn, rfl⟩ := List.mem_map.1 hx
  unfold okp
  rw [hat n hn]
  simp [(ho n hn).1, (ho n hn).2]
def exB : S_api_Bases := { Group := ({ P := 23, Q := 11, G := 4 } : S_api_Group), G1 := 2, G2 := 3, H := 9 }
def exS : List UInt8 := [50, 51, 32, 49, 49, 32, 52, 32, 50, 32, 51, 32, 57]
theorem ex_valid : base_Valid exB = true := by decide +kernel
theorem ex_txt : txt exB = exS := by
 have d2 : ∀ i : Nat, ¬ i < 10 → i < 100 → strconv_Itoa (i : Int) = [UInt8.ofNat (48 + i / 10), UInt8.ofNat (48 + i % 10)] := fun i h1 h2 => by
  unfold strconv_Itoa; rw [itoa_nonneg, decDigits_two h1 h2]
 have d1 : ∀ i : Nat, i < 10 → strconv_Itoa (i : Int) = [UInt8.ofNat (48 + i)] := fun i h => by
  unfold strconv_Itoa; rw [itoa_nonneg, decDigits_one h]
 unfold txt
 have e : (base_numbers exB).map strconv_Itoa = [[50, 51], [49, 49], [52], [50], [51], [57]] := by
  show [strconv_Itoa ((23 : Nat) : Int), strconv_Itoa ((11 : Nat) : Int), strconv_Itoa ((4 : Nat) : Int), strconv_Itoa ((2 : Nat) : Int), strconv_Itoa ((3 : Nat) : Int), strconv_Itoa ((9 : Nat) : Int)] = _
  rw [d2 23 (by decide) (by decide), d2 11 (by decide) (by decide), d1 4 (by decide), d1 2 (by decide), d1 3 (by decide), d1 9 (by decide)]
  rfl
 rw [e]
 rfl
theorem base_awake : specielaw11_awake = true := by
 unfold specielaw11_awake
 refine letk_go fun x1 h1 => ?_
 refine letk_go fun x4 h4 => ?_
 have e1 : x1 = (exS, 0) := by rw [h1, ← ex_txt]; exact text_eq ex_valid
 have e4 : x4 = (exB, 0) := by rw [h4, ← back ex_valid, ex_txt]; rfl
 rw [e1, e4]
 rw [if_pos (by show (exS == exS) = true; decide), if_pos (by show ((0 : Int) == 0) = true; decide), if_pos (by show q_api_Bases exB exB = true; exact q_refl _), if_pos (by show ((0 : Int) == 0) = true; decide)]
 refine letk_go fun x15 h15 => ?_
 rw [h15]
 decide +kernel
end Go.Proofs.YteolfhljhnplpaaGreatDoor
namespace Go.Proofs.YteolfhljhnplpaaGreatDoor
open Go.RowKit Go.Lib
set_option linter.unusedVariables false
set_option linter.unusedSimpArgs false
theorem nat8_back {b : List Int} (h : isB b) : nat8 (b.map u8N) = b := by
 unfold nat8
 rw [List.map_map]
 conv => rhs; rw [← List.map_id b]
 refine List.map_congr_left fun x hx => ?_
 have := h x hx
 show ((UInt8.ofNat x.toNat).toNat : Int) = x
 rw [UInt8.toNat_ofNat']
 omega
def candI (g : S_api_Group) (label : List UInt8) (b : List Int) (i : Int) : S_api_Item := { Kind := 3, N := 0, B := [], L := [⟨1, g.P, [], []⟩, ⟨1, g.Q, [], []⟩, ⟨1, g.G, [], []⟩, ⟨2, 0, nat8 label, []⟩, ⟨2, 0, b, []⟩, ⟨1, i, [], []⟩] }
theorem hgt_candI {g : S_api_Group} {label : List UInt8} {b : List Int} {i : Int} : hgt (candI g label b i) = 7 + label.length + b.length := by
 simp only [candI, hgt, hgtL, List.length_nil, nat8_len]; omega
theorem enc_cand {g : S_api_Group} {label : List UInt8} {b : List Int} {i : Int} (hl : label.length ≤ 100) (hb : b.length ≤ 1000) : encode_Encode (candI g label b i) = (encI (candI g label b i), 0) := by
 have h1 := encI_len (candI g label b i)
 rw [hgt_candI] at h1
 rw [encode_Encode_eq, if_neg (by simp [candI, withinM, withinL]), if_neg (by omega)]
def elTag : List UInt8 := [115, 112, 101, 99, 105, 101, 47, 101, 108, 101, 109, 101, 110, 116]
theorem cand_eq {g : S_api_Group} {label : List UInt8} {b : List Int} {i : Int} (hg : okG g) (hr : r64 g.P ∧ r64 g.Q ∧ r64 g.G) (hi : r64 i) (hl : label.length ≤ 100) (hb : b.length ≤ 1000) (hB : isB b) :
  base_tried_1_seg g label b i = specieref11_Candidate g label b i := by
 obtain ⟨g1, g2, g3, g4, g5, g6⟩ := hg
 have hok : okI (candI g label b i) := by
  refine ⟨by decide, isB_nil, by decide, ⟨hr.1, isB_nil, by decide, trivial⟩, ⟨hr.2.1, isB_nil, by decide, trivial⟩, ⟨hr.2.2, isB_nil, by decide, trivial⟩, ⟨by decide, isB_nat8 _, by rw [nat8_len]; omega, trivial⟩, ⟨by decide, hB, by omega, trivial⟩, ⟨hi, isB_nil, by decide, trivial⟩, trivial⟩
 have hlen := encI_len (candI g label b i)
 rw [hgt_candI] at hlen
 have ht := tagged_eq (tag := elTag) (by decide) (by decide) (encI_isB _ hok) (b := encI (candI g label b i)) (by omega)
 have hT := tagged_ok elTag (encI (candI g label b i))
 have hn := number_eqR (h := specieref06_Tagged elTag (encI (candI g label b i))) (m := g.P) (by omega) g3 (fun j => gt_isB hT.2 j)
 have hnr := rnum_rng (h := specieref06_Tagged elTag (encI (candI g label b i))) (m := g.P) rfl (by omega) g3
 have e1 : subI .i64 g.P 1 = g.P - 1 := by unfold subI; rw [IntKind.wrap_i64]; omega
 have e2 : quoI .i64 (subI .i64 g.P 1) g.Q = (g.P - 1) / g.Q := by rw [e1]; exact quo_ok ⟨by omega, by omega⟩ (by omega)
 have e3 : 0 ≤ (g.P - 1) / g.Q ∧ (g.P - 1) / g.Q ≤ 9223372036854775807 := ⟨Int.ediv_nonneg (by omega) (by omega), by have := Int.ediv_le_self g.Q (show 0 ≤ g.P - 1 by omega); omega⟩
 unfold base_tried_1_seg specieref11_Candidate
 simp only [letk]
 have i1 : ({ Kind := 3, N := 0, B := ([] : List Int), L := ([base_number g.P, base_number g.Q, base_number g.G, base_text (nat8 label), base_text b, base_number i] : List S_api_Item) } : S_api_Item) = candI g label b i := rfl
 have i2 : ({ Kind := 3, N := 0, B := ([] : List Int), L := ([specieref11_integer g.P, specieref11_integer g.Q, specieref11_integer g.G, specieref11_text label, specieref11_text (b.map u8N), specieref11_integer i] : List S_api_Item) } : S_api_Item) = candI g label b i := by
  have e : specieref11_text (b.map u8N) = ⟨2, 0, b, []⟩ := by unfold specieref11_text; rw [nat8_back hB]
  rw [e]; rfl
 rw [i1, i2, enc_cand hl hb]
 show (word_Pow (digest_Number (digest_Tagged elTag (encI (candI g label b i))).1 g.P).1 (quoI .i64 (subI .i64 g.P 1) g.Q) g.P).1 = specieref01_Pow (specieref06_Number (specieref06_Tagged elTag (encI (candI g label b i))) g.P) (quoI .i64 (subI .i64 g.P 1) g.Q) g.P
 rw [ht, hn, e2, wpow_eq hnr.1 hnr.2 g3 e3]
theorem firstGr_congr {f h : Int → Int} : ∀ {n : Nat} {i : Int}, (∀ j : Nat, j < n → f (i + j) = h (i + j)) → firstGr f n i = firstGr h n i
 | 0, _, _ => rfl
 | n + 1, i, e => by
  have h0 := e 0 (by omega)
  rw [show i + ((0 : Nat) : Int) = i by omega] at h0
  have ih : firstGr f n (i + 1) = firstGr h n (i + 1) := firstGr_congr fun j hj => by
   have h1 := e (j + 1) (by omega)
   rw [show i + 1 + (j : Int) = i + ((j + 1 : Nat) : Int) by omega]
   exact h1
  rw [firstGr, firstGr, h0, ih]
theorem firstGr_or {f : Int → Int} : ∀ {n : Nat} {i : Int}, firstGr f n i = 0 ∨ 1 < firstGr f n i
 | 0, _ => .inl rfl
 | n + 1, i => by
  rw [firstGr]
  by_cases h : f i > 1
  ·rw [if_pos h]; exact .inr h
  ·rw [if_neg h]; exact firstGr_or
theorem relem_loop {f : Int → Int} {F : (Int → Int × Bool) → Int → Int × Bool} {d : Int → Int × Bool} (hF : ∀ ag p, F ag p = if decide (p < 1000) then (if decide (f p > 1) then (f p, true) else ag (p + 1)) else (0, false)) :
  ∀ (n : Nat) (i : Int), i + n = 1000 → iter (n + 1) F d i = if 1 < firstGr f n i then (firstGr f n i, true) else (0, false)
 | 0, i, h => by
  rw [iter, hF, if_neg (by simp only [decide_eq_true_eq]; omega)]; rfl
 | n + 1, i, h => by
  rw [iter, hF, if_pos (by simp only [decide_eq_true_eq]; omega), relem_loop hF n (i + 1) (by omega), firstGr]
  by_cases hc : f i > 1
  ·rw [if_pos hc, if_pos (by simpa using hc), if_pos hc]
  ·rw [if_neg hc, if_neg (by simpa using hc)]
theorem relem_eq (g : S_api_Group) (label : List UInt8) (b : List Int) : specieref11_Element g label b = if 1 < firstGr (fun i => specieref11_Candidate g label b i) 1000 0 then (firstGr (fun i => specieref11_Candidate g label b i) 1000 0, true) else (0, false) := by
 unfold specieref11_Element
 exact relem_loop (f := fun i => specieref11_Candidate g label b i) (fun ag p => rfl) 1000 0 (by decide)
theorem specielaw11_BaseElements_true (g : S_api_Group) (label : List UInt8) (b : List Int) (hw : wfL [e_api_Group g, .str label, .sl none 1 false (b.map (V.int .u8))]) : specielaw11_BaseElements g label b = true := by
 unfold specielaw11_BaseElements
 refine letk_go fun x1 h1 => ?_
 rw [base_awake] at h1
 subst h1
 rw [if_neg (by decide)]
 simp only [letk, base_awake]
 split
 ·rfl
 split
 ·rfl
 rename_i c1 c2
 rw [← group_eq]
 unfold base_Element
 simp only [letk]
 cases hv : group_Valid g with
 | false => rfl
 | true =>
  have hok := okG_of (g := g) (by rw [← group_eq]; exact hv)
  obtain ⟨w1, w2, w3, _⟩ := (show wfV (e_api_Group g) ∧ wfV (.str label) ∧ wfV (.sl none 1 false (b.map (V.int .u8))) ∧ True from hw)
  simp only [e_api_Group, wfV, wfL, rng_i64] at w1
  have hB : isB b := isB_wf w3.2
  have h9 : ¬ (label.length : Int) > 200 := by simpa using c1
  have c1' : label.length ≤ 200 := by omega
  by_cases c3 : (label.length : Int) < 1
  ·simp [c3]
  by_cases c4 : (label.length : Int) > 100
  ·simp [c3, c4]
  by_cases c5 : (b.length : Int) > 1000
  ·simp [c3, c4, c5]
  have e : base_element g label b = firstGr (fun i => specieref11_Candidate g label b i) 1000 0 :=
   firstGr_congr fun j hj => cand_eq hok ⟨w1.1, w1.2.1, w1.2.2.1⟩ (by unfold r64; omega) (by omega) (by omega) hB
  rw [e, relem_eq]
  rcases firstGr_or (f := fun i => specieref11_Candidate g label b i) (n := 1000) (i := 0) with h | h
  ·rw [h]; simp [c3, c4, c5]
  ·generalize firstGr (fun i => specieref11_Candidate g label b i) 1000 0 = v at h
   have h0 : ¬ v = 0 := by omega
   simp [c3, c4, c5, h, h0]
end Go.Proofs.YteolfhljhnplpaaGreatDoor
