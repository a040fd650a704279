/- Functions of Go's library, and the reading of a number: by the contracts of the kit's shelf. -/
import Derived.Test.YtbjbogfjiifcpaaDoorT
import Derived.Test.YtbjbogfjiifcpaaDoorSH
import Derived.WalkKit
import Derived.WalkSpells
import Derived.WalkMore
import Derived.Lib.AtoiErrMem
namespace Go.Proofs.YtbjbogfjiifcpaaDoor
open Go.RowKit Go.Shelf Go.Lib
def strings_Cut (s sep : List UInt8) : List UInt8 × List UInt8 × Bool := Lib.cut s sep
theorem ok_of {f : FuncId} {ws : List V} {r : V} (he : ∀ xs w, (callFunc f xs).run En.P w = .ok (.enter f xs) w)
    (h : ∀ (c : Cx) us, Gl En c → rdT ro0 c ws us → wfL ws → Calls En.P f us.toArray c.w fun e w' => ∃ v, e = .returned v ∧ Below c.w.heap.size c.w w' ∧ ∀ c', rd ro0 c' r v) : CallOk En f ws r [] :=
  ⟨he, fun c us _ hg hus => (h c us hg hus (rdT_wf hus)).mono fun e w' ⟨v, e1, hb, hr⟩ => ⟨v, c.at w' hb.size, ro0, e1, rfl, Cx.le_at hb, hr _, ⟨fun i b hb => by simp at hb, fun i _ => rfl, fun i j bi bj k _ hb => by simp at hb⟩⟩⟩
theorem cut_len (s sep : List UInt8) : (Lib.cut s sep).1.length ≤ s.length ∧ (Lib.cut s sep).2.1.length ≤ s.length := by
  unfold Lib.cut
  split
  · simp only [List.length_take, List.length_drop]; omega
  · simp
theorem maxLen {c : Cx} (hg : Gl En c) : ∃ m, c.w.cell? ⟨0, 0, none⟩ = some (.int .i64 m) := by
  obtain ⟨_, h⟩ := hg 0 _ rfl
  simp only [rd] at h
  obtain ⟨b, o, cs, e, _, _, h3, h4, h5⟩ := h
  cases e
  unfold shapeOk at h4
  match cs, h4, h3, h5 with
  | [u], _, h3, h5 =>
    obtain ⟨⟨m, e⟩, _⟩ := h5
    refine ⟨m, ?_⟩
    have := h3 0 u rfl
    rw [this]
    simpa [mkV] using e
theorem strings_Cut_ok (s sep : List UInt8) : CallOk En 42 [.str s, .str sep] (.tup [.str (strings_Cut s sep).1, .str (strings_Cut s sep).2.1, .bool (strings_Cut s sep).2.2]) [] := by
  refine ok_of (show ∀ xs w, (callFunc 42 xs).run Tryd.prog w = .ok (.enter 42 xs) w from enters_of Tryd.func42 (by kernel_rfl) rfl) fun c us hg hus hw => ?_
  simp only [rdT, rd] at hus
  obtain ⟨u0, c2, rfl, ⟨rfl, l0⟩, u1, c3, rfl, ⟨rfl, l1⟩, rfl⟩ := hus
  obtain ⟨m, hm⟩ := maxLen hg
  have hL : (⟨s.toArray⟩ : ByteArray).size < 4294967281 := by
    show s.toArray.size < _
    simp; unfold LEN at l0; omega
  refine (show Calls En.P 42 #[.string ⟨s.toArray⟩, .string ⟨sep.toArray⟩] c.w _ from Any.strings_Cut Tryd.lays145 ⟨s.toArray⟩ ⟨sep.toArray⟩ m c.w hL hm).mono ?_
  rintro e w' ⟨rfl, n, rfl⟩
  refine ⟨_, rfl, ⟨rfl, rfl, rfl, Nat.le_refl _, fun _ _ => rfl⟩, fun c' => ?_⟩
  simp only [rd, rdT]
  have hl := cut_len s sep
  exact ⟨_, rfl, _, _, rfl, ⟨rfl, by unfold strings_Cut; omega⟩, _, _, rfl, ⟨rfl, by unfold strings_Cut; omega⟩, _, _, rfl, rfl, rfl⟩
/-! The reading of a number. -/
def digs : List UInt8 := [48, 49, 50, 51, 52, 53, 54, 55, 56, 57]
def policy_number (s : List UInt8) : Int × Bool :=
  if s = [] ∨ 15 < s.length ∨ (1 < s.length ∧ s.head? = some 48) ∨ Lib.trimS s digs ≠ [] then (0, false) else ((Lib.atoi s).getD 0, true)
theorem dropWhile_nil {p : UInt8 → Bool} : ∀ {l : List UInt8}, l.dropWhile p = [] → ∀ b ∈ l, p b = true
  | [], _, b, hb => by cases hb
  | a :: l, h, b, hb => by
    by_cases ha : p a = true
    · rw [List.dropWhile_cons_of_pos ha] at h
      rcases List.mem_cons.1 hb with rfl | hb
      · exact ha
      · exact dropWhile_nil h b hb
    · rw [List.dropWhile_cons_of_neg ha] at h; cases h
theorem trim_digits {s : List UInt8} (h : Lib.trimS s digs = []) : ∀ b ∈ s, digs.contains b = true := by
  unfold Lib.trimS Lib.trimLeftS Lib.trimRightS at h
  have h1 := dropWhile_nil h
  have h2 : s.reverse.dropWhile (digs.contains ·) = [] := by
    cases hd : s.reverse.dropWhile (digs.contains ·) with
    | nil => rfl
    | cons a l =>
      exfalso
      have h3 := h1 a (by rw [hd]; simp)
      have : ∀ l : List UInt8, ∀ a r, l.dropWhile (digs.contains ·) = a :: r → digs.contains a = false := by
        intro l
        induction l with
        | nil => intro a r h; cases h
        | cons x l ih =>
          intro a r h
          by_cases hx : digs.contains x = true
          · rw [List.dropWhile_cons_of_pos hx] at h; exact ih a r h
          · rw [List.dropWhile_cons_of_neg hx] at h; cases h; simpa using hx
      rw [this _ a l hd] at h3; cases h3
  intro b hb
  exact dropWhile_nil h2 b (by simpa using hb)
theorem dig_val {b : UInt8} (h : digs.contains b = true) : ∃ d, Lib.digitVal b = some d ∧ b ≠ 45 ∧ b ≠ 43 := by
  have h' : b ∈ digs := by simpa using h
  simp only [digs, List.mem_cons, List.not_mem_nil, or_false] at h'
  rcases h' with rfl | rfl | rfl | rfl | rfl | rfl | rfl | rfl | rfl | rfl <;> exact ⟨_, rfl, by decide, by decide⟩
theorem decFrom_some : ∀ {l : List UInt8} (a : Nat), (∀ b ∈ l, digs.contains b = true) → ∃ n, Lib.decFrom a l = some n
  | [], a, _ => ⟨a, rfl⟩
  | b :: l, a, h => by
    obtain ⟨d, hd, _⟩ := dig_val (h b (by simp))
    obtain ⟨n, hn⟩ := decFrom_some (l := l) (a * 10 + d) fun x hx => h x (List.mem_cons_of_mem _ hx)
    exact ⟨n, by simp only [Lib.decFrom, hd]; exact hn⟩
theorem atoi_some {s : List UInt8} (h0 : s ≠ []) (h : Lib.trimS s digs = []) : ∃ n, Lib.atoi s = some n := by
  have hd := trim_digits h
  match s, h0 with
  | b :: r, _ =>
    obtain ⟨d, _, h1, h2⟩ := dig_val (hd b (by simp))
    obtain ⟨n, hn⟩ := decFrom_some 0 hd
    refine ⟨(n : Int), ?_⟩
    simp only [Lib.atoi, beq_eq_false_iff_ne.2 h1, beq_eq_false_iff_ne.2 h2, Bool.false_eq_true, if_false, Lib.decNat, List.isEmpty_cons, hn]
    rfl
theorem len_data (s : ByteArray) : s.data.toList.length = s.size := by show s.data.toList.length = s.data.size; rw [Array.length_toList]
theorem head_data (s : ByteArray) (h : 0 < s.size) : s.data.toList.head? = some s[0] := by
  have h' : 0 < s.data.toList.length := by rw [len_data]; exact h
  rw [List.head?_eq_getElem?, List.getElem?_eq_getElem h']
  rfl
theorem pn_nil {l : List UInt8} (h : l = []) : policy_number l = (0, false) := by unfold policy_number; rw [if_pos (.inl h)]
theorem pn_long {l : List UInt8} (h : 15 < l.length) : policy_number l = (0, false) := by unfold policy_number; rw [if_pos (.inr (.inl h))]
theorem pn_zero {l : List UInt8} (h : 1 < l.length) (h' : l.head? = some 48) : policy_number l = (0, false) := by unfold policy_number; rw [if_pos (.inr (.inr (.inl ⟨h, h'⟩)))]
theorem pn_trim {l : List UInt8} (h : trimS l digs ≠ []) : policy_number l = (0, false) := by unfold policy_number; rw [if_pos (.inr (.inr (.inr h)))]
theorem pn_ok {l : List UInt8} {n : Int} (h0 : l ≠ []) (h1 : ¬ 15 < l.length) (h2 : ¬ (1 < l.length ∧ l.head? = some 48)) (h3 : trimS l digs = []) (h4 : atoi l = some n) : policy_number l = (n, true) := by
  unfold policy_number
  rw [if_neg (fun h => h.elim h0 fun h => h.elim h1 fun h => h.elim h2 fun h => h h3), h4]; rfl
theorem u8_48 {b : UInt8} : ((b.toNat : Int) = 48) ↔ b = 48 := by
  constructor
  · intro h; have : b.toNat = 48 := by omega
    exact UInt8.toNat.inj (by rw [this]; rfl)
  · rintro rfl; rfl
set_option maxHeartbeats 1000000 in
theorem number_calls (s : ByteArray) (hs : s.size ≤ 1073741824) (w : World) : Calls Tryd.prog 79 #[.string s] w fun e w' => e = .returned (.tuple #[.int .i64 (policy_number s.data.toList).1, .bool (policy_number s.data.toList).2]) ∧ Below w.heap.size w w' := by
  have hcon := fun w => Any.strings_Trim_laid Tryd.lays160 (by kernel_rfl) s ⟨#[48, 49, 50, 51, 52, 53, 54, 55, 56, 57]⟩ w (by omega) (by decide) (ascii_of_all (by decide))
  change ∀ w, Calls Tryd.prog 93 _ _ (fun e w' => e = .returned (.string ⟨(Lib.trimS s.data.toList digs).toArray⟩) ∧ Below w.heap.size w w') at hcon
  have hld := len_data s
  have hhd := head_data s
  generalize hP : policy_number s.data.toList = P
  by_cases h0 : s.toList.isEmpty = true
  · have hn : s.data.toList = [] := by rw [← Lib.toList_data]; simpa using h0
    rw [pn_nil hn] at hP; subst hP
    go_enter Tryd.func79, Tryd.ntmps79
    go_wp2_with (go_at_call 93; refine (hcon _).mono ?_; rintro e w' ⟨rfl, hB⟩)
    go_ret2
    exact ⟨rfl, Below.refl _ _⟩
  · have h0' : s.toList.isEmpty = false := by simpa using h0
    have hn : s.data.toList ≠ [] := by rw [← Lib.toList_data]; simpa using h0
    by_cases h1 : 15 < s.size
    · have h1' : (15 : Int) < (s.size : Int) := by omega
      rw [pn_long (by omega)] at hP; subst hP
      go_enter Tryd.func79, Tryd.ntmps79
      go_wp2_with (go_at_call 93; refine (hcon _).mono ?_; rintro e w' ⟨rfl, hB⟩)
      go_ret2
      exact ⟨rfl, Below.refl _ _⟩
    · have h1' : ¬ (15 : Int) < (s.size : Int) := by omega
      by_cases ht : trimS s.data.toList digs = []
      · obtain ⟨n, hat⟩ := atoi_some hn ht
        have hA := fun w => Any.strconv_Atoi Tryd.lays172 s n (by omega) hat w
        change ∀ w, Calls Tryd.prog 94 _ _ (fun e w' => e = .returned (.tuple #[.int .i64 n, .nilIface]) ∧ ∃ t, w' = Lib.bytesWorld w 5 t) at hA
        go_enter Tryd.func79, Tryd.ntmps79
        go_wp2_with (first
          | (go_at_call 93; refine (hcon _).mono ?_; rintro e w' ⟨rfl, hB⟩; rw [ht])
          | (go_at_call 94; refine (hA _).mono ?_; rintro e w' ⟨rfl, t, rfl⟩))
        · have hlt : (1 : Int) < (s.size : Int) := by assumption
          have hpos : 0 < s.size := by omega
          have hz : ((s[0]'hpos).toNat : Int) = 48 := by assumption
          rw [pn_zero (by omega) (by rw [hhd hpos, u8_48.1 hz])] at hP; subst hP
          go_ret2
          exact ⟨rfl, Below.refl _ _⟩
        · have hpos : 0 < s.size := by assumption
          have hz : ¬ ((s[0]'hpos).toNat : Int) = 48 := by assumption
          rw [pn_ok hn (by omega) (by rintro ⟨_, h⟩; rw [hhd hpos] at h; exact hz (by rw [Option.some.inj h]; rfl)) ht hat] at hP; subst hP
          go_region
          go_wp2
          go_ret2
          exact ⟨rfl, hB.trans ((Lib.bytesWorld_below _ _ _).drew.mono hB.size)⟩
        · have hle : (s.size : Int) ≤ 1 := by assumption
          rw [pn_ok hn (by omega) (by rintro ⟨h, _⟩; omega) ht hat] at hP; subst hP
          go_region
          go_wp2
          go_ret2
          exact ⟨rfl, hB.trans ((Lib.bytesWorld_below _ _ _).drew.mono hB.size)⟩
      · rw [pn_trim ht] at hP; subst hP
        go_enter Tryd.func79, Tryd.ntmps79
        go_wp2_with (go_at_call 93; refine (hcon _).mono ?_; rintro e w' ⟨rfl, hB⟩)
        · go_ret2; exact ⟨rfl, Below.refl _ _⟩
        · go_ret2; exact ⟨rfl, hB⟩
        · exfalso; have h := ‹_ ∧ (!(trimS s.data.toList digs).isEmpty) = false›; exact ht (by simpa using h.2)
        · go_ret2; exact ⟨rfl, hB⟩
        · exfalso; have h : (!(trimS s.data.toList digs).isEmpty) = false := by assumption
          exact ht (by simpa using h)
theorem decFrom_lt : ∀ {l : List UInt8} {a n : Nat}, decFrom a l = some n → n < (a + 1) * 10 ^ l.length
  | [], a, n, h => by simp only [decFrom, Option.some.injEq] at h; subst h; simp
  | b :: l, a, n, h => by
    simp only [decFrom] at h
    split at h
    · rename_i d hd
      have hd' : d ≤ 9 := by
        unfold digitVal at hd
        split at hd
        · cases hd; omega
        · cases hd
      have := decFrom_lt h
      have h2 : (a * 10 + d + 1) * 10 ^ l.length ≤ ((a + 1) * 10) * 10 ^ l.length := Nat.mul_le_mul_right _ (by omega)
      rw [List.length_cons, Nat.pow_succ, Nat.mul_comm (10 ^ l.length) 10, ← Nat.mul_assoc]
      omega
    · cases h
theorem policy_number_rng (s : List UInt8) : Rng .i64 (policy_number s).1 := by
  unfold policy_number
  split
  · rw [rng_i64]; decide
  · rename_i h
    have h0 : s ≠ [] := fun e => h (.inl e)
    have h1 : s.length ≤ 15 := Nat.le_of_not_lt fun e => h (.inr (.inl e))
    have ht : trimS s digs = [] := Classical.byContradiction fun e => h (.inr (.inr (.inr e)))
    obtain ⟨n, hn⟩ := atoi_some h0 ht
    rw [hn, rng_i64]
    have hd := trim_digits ht
    match s, h0 with
    | b :: r, _ =>
      obtain ⟨d, _, g1, g2⟩ := dig_val (hd b (by simp))
      obtain ⟨m, hm⟩ := decFrom_some 0 hd
      have hlt := decFrom_lt hm
      simp only [atoi, beq_eq_false_iff_ne.2 g1, beq_eq_false_iff_ne.2 g2, Bool.false_eq_true, if_false, decNat, List.isEmpty_cons, hm] at hn
      have e : n = (m : Int) := by have := Option.some.inj hn; exact this.symm
      have hp : 10 ^ (b :: r).length ≤ 10 ^ 15 := Nat.pow_le_pow_right (by decide) h1
      have : (10 : Nat) ^ 15 = 1000000000000000 := by decide
      show _ ≤ n ∧ n ≤ _
      omega
theorem policy_number_ok (s : List UInt8) : CallOk En 79 [.str s] (.tup [.int .i64 (policy_number s).1, .bool (policy_number s).2]) [] := by
  refine ok_of (show ∀ xs w, (callFunc 79 xs).run Tryd.prog w = .ok (.enter 79 xs) w from enters_of Tryd.func79 (by kernel_rfl) rfl) fun c us hg hus hw => ?_
  simp only [rdT, rd] at hus
  obtain ⟨u0, c2, rfl, ⟨rfl, l0⟩, rfl⟩ := hus
  have hs : (⟨s.toArray⟩ : ByteArray).size ≤ 1073741824 := by
    show s.toArray.size ≤ _
    simp; unfold LEN at l0; omega
  refine (show Calls En.P 79 #[.string ⟨s.toArray⟩] c.w _ from number_calls ⟨s.toArray⟩ hs c.w).mono ?_
  rintro e w' ⟨rfl, hB⟩
  refine ⟨_, rfl, hB, fun c' => ?_⟩
  simp only [rd, rdT]
  exact ⟨_, rfl, _, _, rfl, ⟨rfl, policy_number_rng s⟩, _, _, rfl, rfl, rfl⟩
end Go.Proofs.YtbjbogfjiifcpaaDoor
