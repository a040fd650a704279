import Derived.Test.YtcbdmoihobdjaaaVY
namespace Go.Proofs.Ytcbdmoihobdjaaa
open Go.RowKit
section
variable {E : Env} {J : Cuts} {k : List Ct} {S S1 S2 : St}
theorem Weak.trans (h : Weak E S S1) (h' : Weak E S1 S2) : Weak E S S2 := by
 intro c0 c ρ F hs
 obtain ⟨c1, ρ1, e, h1⟩ := h c0 c ρ F hs
 obtain ⟨c2, ρ2, e2, h2⟩ := h' c0 c1 ρ1 F h1
 exact ⟨c2, ρ2, e2.trans e, h2⟩
theorem weak_nil (t T : Nat) {n : Nat} {g : Bool} (h : getA S.F t = some (.sl (some true) n g [])) (hg : g = false → n = 1) : Weak E S ⟨(t, .own S.nx) :: S.F, (S.nx, .own T n g (some true) []) :: S.H, S.nx + 1⟩ := by
 intro c0 c ρ F hs
 have hf : ρ S.nx = none := hs.2 _ (Nat.le_refl _)
 have hrd := hs.1.slot _ _ h
 have e : F t = .slice none 0 0 := by
  simp only [rd, zOk] at hrd
  obtain ⟨a, cap, e, _, ⟨rfl, rfl⟩, _⟩ := hrd
  exact e
 have hro : roLe ρ (fun i => if i = S.nx then some (.slice none 0 0) else ρ i) := roLe_new hf fun i hi => by simp [hi]
 have hat : (fun i => if i = S.nx then some (Value.slice none 0 0) else ρ i) S.nx = some (.slice none 0 0) := by simp
 have hoth : ∀ i, i ≠ S.nx → (fun i => if i = S.nx then some (Value.slice none 0 0) else ρ i) i = ρ i := fun i hi => by simp [hi]
 generalize (fun i => if i = S.nx then some (Value.slice none 0 0) else ρ i) = ρ' at hro hat hoth
 refine ⟨c, ρ', rfl, ⟨hs.1.since, hs.1.gl, ?_, ?_, ?_⟩, ?_⟩
 ·intro t' v ht
  simp only [getA] at ht
  split at ht
  ·rename_i e'; subst e'; cases ht
   simp only [rd]
   exact ⟨e ▸ hat, by rw [e]; rfl⟩
  ·exact rd_ro hro (hs.1.slot t' v ht)
 ·intro i b hb
  simp only [getA] at hb
  split at hb
  ·rename_i e'; subst e'; cases hb
   refine ⟨_, hat, Own.nil, fun k hk => by simp [blk] at hk, hg, none, 0, rfl, rfl, rfl⟩
  ·exact blkOk_ro hro (hs.1.heap i b hb)
 ·intro i j bi bj k hij hbi hbj hpi hpj hk hk'
  have hn : blkOf ρ' S.nx = none := by simp [blkOf, hat, blk]
  have hi : i ≠ S.nx := fun e' => by rw [e', hn] at hk; cases hk
  have hj : j ≠ S.nx := fun e' => by rw [e', hn] at hk'; cases hk'
  simp only [getA, Ne.symm hi, Ne.symm hj, if_false] at hbi hbj
  rw [blkOf_eq (hoth i hi)] at hk
  rw [blkOf_eq (hoth j hj)] at hk'
  exact hs.1.sep i j bi bj k hij hbi hbj hpi hpj hk hk'
 ·intro i hi
  have hi' : S.nx + 1 ≤ i := hi
  rw [hoth i (by omega)]
  exact hs.2 i (by omega)
theorem ct_loopW {a : Code} (I : Nat → St → Prop) (k0 : Nat) (S1 S2 : St) (hW : Weak E S S1) (hF : subF S1.F S2.nx S2.F) (hH : subH S1.H S2.nx S2.H) (h0 : I k0 S2)
  (h : ∀ n S', I n S' → cont E J (.code a :: .lp (fun S2 => ∃ n', n' < n ∧ ∃ S3, Weak E S2 S3 ∧ I n' S3) :: k) .normal S') : cont E J (.code (.loop a) :: k) .normal S :=
 ⟨I, k0, ⟨S2, hW.trans (weak_of hF hH), h0⟩, h⟩
end
def iter {α R : Type} : Nat → ((α → R) → α → R) → (α → R) → α → R
 | 0, _, d, a => d a
 | n + 1, f, d, a => f (iter n f d) a
theorem iter_opn {α R : Type} {n : Nat} {f : (α → R) → α → R} {d : α → R} {a : α} {r : R} (h : iter n f d a = r) : ∃ g e, g = f ∧ e = d ∧ iter n g e a = r := ⟨f, d, rfl, rfl, h⟩
theorem iter_step {α R : Type} {n : Nat} {f g : (α → R) → α → R} {d : α → R} {a : α} {r : R} (h : iter n f d a = r) (hn : 0 < n) (hf : f = g) : ∃ ag, ag = iter (n - 1) f d ∧ g ag a = r := by
 subst hf
 cases n with
 | zero => omega
 | succ m => exact ⟨_, rfl, h⟩
theorem iter_again {α R : Type} {n : Nat} {f : (α → R) → α → R} {d ag : α → R} {a : α} {r : R} (h : ag a = r) (e : ag = iter n f d) : iter n f d a = r := e ▸ h
def letj {α R : Type} (j : α → R) (f : (α → R) → R) : R := f j
theorem letj_opn {α R : Type} {j : α → R} {f : (α → R) → R} {r : R} (h : letj j f = r) : ∃ g, g = j ∧ f g = r := ⟨j, rfl, h⟩
theorem letj_use {α R : Type} {g j : α → R} {a : α} {r : R} (h : g a = r) (e : g = j) : j a = r := e ▸ h
theorem add_one {i : Int} (h0 : -9223372036854775808 ≤ i) (h : i + 1 ≤ 9223372036854775807) : addI .i64 i 1 = i + 1 := by
 unfold addI; rw [IntKind.wrap_i64]; omega
theorem LEN_eq : LEN = 1073741824 := rfl
theorem rng_i64 {d : Int} : Rng .i64 d = (-9223372036854775808 ≤ d ∧ d ≤ 9223372036854775807) := by simp [Rng, IntKind.min, IntKind.max, IntKind.bits, IntKind.signed]
theorem rng_u64 {d : Int} : Rng .u64 d = (0 ≤ d ∧ d ≤ 18446744073709551615) := by simp [Rng, IntKind.min, IntKind.max, IntKind.bits, IntKind.signed]
theorem rng_u8 {d : Int} : Rng .u8 d = (0 ≤ d ∧ d ≤ 255) := by simp [Rng, IntKind.min, IntKind.max, IntKind.bits, IntKind.signed]
theorem rng_u32 {d : Int} : Rng .u32 d = (0 ≤ d ∧ d ≤ 4294967295) := by simp [Rng, IntKind.min, IntKind.max, IntKind.bits, IntKind.signed]
theorem rng_i32 {d : Int} : Rng .i32 d = (-2147483648 ≤ d ∧ d ≤ 2147483647) := by simp [Rng, IntKind.min, IntKind.max, IntKind.bits, IntKind.signed]
theorem sl_len {α : Type} {l : List α} {i j : Int} : (sl l i j).length = min (j.toNat - i.toNat) (l.length - i.toNat) := by simp [sl]
theorem st_len {α : Type} {l : List α} {i : Int} {x : α} : (st l i x).length = l.length := by simp [st]
theorem elt_mp {α : Type} [Inhabited α] {l : List α} {f : α → V} {i : Int} (h : i.toNat < l.length) (d : V) : elt (l.map f) i.toNat d = f (gt l i) := by
 simp [elt, gt, List.getD, h]
theorem add_ok {a b : Int} (h0 : -9223372036854775808 ≤ a + b) (h : a + b ≤ 9223372036854775807) : addI .i64 a b = a + b := by
 unfold addI; rw [IntKind.wrap_i64]; omega
theorem sub_ok {a b : Int} (h0 : -9223372036854775808 ≤ a - b) (h : a - b ≤ 9223372036854775807) : subI .i64 a b = a - b := by
 unfold subI; rw [IntKind.wrap_i64]; omega
theorem gt_cons0 {α : Type} [Inhabited α] {a : α} {l : List α} : gt (a :: l) 0 = a := rfl
theorem gt_conss {α : Type} [Inhabited α] {a : α} {l : List α} {i : Int} (h : 0 < i) : gt (a :: l) i = gt l (i - 1) := by
 obtain ⟨n, rfl⟩ : ∃ n : Nat, i = ((n + 1 : Nat) : Int) := ⟨(i - 1).toNat, by omega⟩
 simp [gt]
theorem remI_nn {k : IntKind} {n : Nat} {b : Int} : remI k ((n : Nat) : Int) b = ((n : Nat) : Int) % b := Int.tmod_eq_emod_of_nonneg (by omega)
theorem allU8_map : ∀ {B : List Int}, allU8 (B.map (V.int .u8))
 | [] => trivial
 | _ :: B => ⟨trivial, allU8_map (B := B)⟩
@[go_sem] theorem u8s_map : ∀ {B : List Int}, (B.map (V.int .u8)).map (fun d => u8N (numV d)) = B.map u8N
 | [] => rfl
 | x :: B => by rw [List.map_cons, List.map_cons, u8s_map (B := B)]; rfl
def nat8 (a : List UInt8) : List Int := a.map fun b => (b.toNat : Int)
theorem nat8_len {a : List UInt8} : (nat8 a).length = a.length := by simp [nat8]
@[go_sem] theorem u8V_map : ∀ {a : List UInt8}, a.map u8V = (nat8 a).map (V.int .u8)
 | [] => rfl
 | x :: B => by rw [List.map_cons, u8V_map (a := B)]; rfl
def gtsN {α : Type} [Inhabited α] (f : α → V) (l : List α) : Nat → Int → List V
 | 0, _ => []
 | k + 1, i => f (gt l i) :: gtsN f l k (i + 1)
theorem eltsN_mpA {α : Type} [Inhabited α] {f : α → V} {l : List α} : ∀ {k i : Nat}, i + k ≤ l.length → eltsN (l.map f) k i = gtsN f l k i
 | 0, _, _ => rfl
 | k + 1, i, h => by
  simp only [eltsN, gtsN]
  rw [eltsN_mpA (k := k) (i := i + 1) (by omega)]
  have h2 := elt_mp (l := l) (f := f) (i := (i : Int)) (by simp; omega) .un
  simp only [Int.toNat_natCast] at h2
  rw [h2]; simp
theorem eltsN_mp {α : Type} [Inhabited α] {f : α → V} {l : List α} {k : Nat} (h : k ≤ l.length) : eltsN (l.map f) k 0 = gtsN f l k 0 := eltsN_mpA (i := 0) (by omega)
def arrF {α : Type} [Inhabited α] (l : List α) : Nat → Int → List α
 | 0, _ => []
 | k + 1, i => gt l i :: arrF l k (i + 1)
def arrN {α : Type} [Inhabited α] (n : Nat) (l : List α) : List α := arrF l n 0
theorem arrF_len {α : Type} [Inhabited α] {l : List α} : ∀ {k : Nat} {i : Int}, (arrF l k i).length = k
 | 0, _ => rfl
 | k + 1, i => by simp [arrF, arrF_len (k := k)]
theorem arrN_len {α : Type} [Inhabited α] {l : List α} {n : Nat} : (arrN n l).length = n := arrF_len
@[go_sem] theorem set_snoc {α β : Type} {l : List α} {f : α → β} {a b : β} : (l.map f ++ [a]).set l.length b = l.map f ++ [b] := by
 rw [List.set_append_right _ _ (by simp)]; simp
attribute [go_sem] gtsN arrN arrF
end Go.Proofs.Ytcbdmoihobdjaaa
