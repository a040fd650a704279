/- Texts of this proof, one after the other: E2, E3, E4, H4, U3, U4, S1, S2, A1, S3, S4, A2, AT. -/
import Derived.Test.YteolfhljhnplpaaGreatDoorZ4
import Derived.RangeFuncNested
import Derived.RangeFuncBound
import Derived.RangeFuncCalls
import Derived.RangeFuncLeaves
import Derived.RangeFuncFrom
import Derived.Shelf.Abstract
import Derived.Shelf.RegionOpen
import Derived.WalkKit
import Derived.OwnWalkIn
import Derived.TacticsInMore
import Derived.LoopNIn
import Derived.LoopIn
import Derived.Test.YteolfhljhnplpaaGreatDoorZ6
import Derived.Test.YteolfhljhnplpaaGreatDoorZ5
import Derived.Lib.TrailingZeros
import Derived.KernelRfl
import Derived.Lib.SplitLaws
import Derived.Lib.ItoaMem
set_option linter.unusedVariables false
set_option linter.unusedSimpArgs false
namespace Go.Proofs.YteolfhljhnplpaaGreatDoor
open Go.RowKit Go.Shelf
set_option linter.unusedVariables false
set_option linter.unusedSimpArgs false
structure CK (W W' : World) : Prop where
 size : W.heap.size ≤ W'.heap.size
 block : ∀ (k : Nat) (o : Obj), W.heap[k]? = some o → o.isCells = true → W'.heap[k]? = some o
theorem CK.refl (W : World) : CK W W := ⟨Nat.le_refl _, fun _ _ h _ => h⟩
theorem CK.trans {A B C : World} (h : CK A B) (k : CK B C) : CK A C := ⟨Nat.le_trans h.size k.size, fun i o hi ho => k.block i o (h.block i o hi ho) ho⟩
theorem CK.putObj {W : World} {l : Nat} {o o' : Obj} (h : W.heap[l]? = some o) (ho : o.isCells = false) : CK W (W.putObj l o') :=
 ⟨by simp, fun k o2 hk h2 => (World.putObj_heap_other (by rintro rfl; rw [hk] at h; cases h; rw [h2] at ho; cases ho)).trans hk⟩
theorem CK.cell {W W' : World} (h : CK W W') {a : Addr} {u : Value} (hc : W.cell? a = some u) : W'.cell? a = some u := by
 unfold World.cell? at hc ⊢
 cases hb : W.heap[a.block]? with
 | none => rw [hb] at hc; cases hc
 | some o =>
  rw [hb] at hc
  cases o with
  | cells cs T g => rw [h.block _ _ hb rfl]; exact hc
  | _ => cases hc
theorem CK.at {W W' : World} (h : CK W W') {b o : Nat} {cs : List Value} (hc : cellsAt W b o cs) : cellsAt W' b o cs := fun i u hi => h.cell (hc i u hi)
section
variable {ρ : Ro} {c c' : Cx}
theorem rd_ck_pp (hk : CK c.w c'.w) (hX : ∀ k, k ∈ c'.X → k ∈ c.X) {n : Nat} {g : Bool} {d : V} (hd : ∀ u, rd ro0 c d u → rd ro0 c' d u) {v : Value} (h : rd ρ c (.pp n g d) v) : rd ro0 c' (.pp n g d) v := by
 simp only [rd] at h ⊢
 obtain ⟨b, o, cs, e, h1, h2, h3, h4, h5⟩ := h
 exact ⟨b, o, cs, e, Nat.lt_of_lt_of_le h1 hk.size, fun h9 => h2 (hX b h9), hk.at h3, h4, hd _ h5⟩
theorem rdE_ints {k : IntKind} : ∀ {l : List Int} {cs : List Value}, rdE c 1 false (l.map (V.int k)) cs → rdE c' 1 false (l.map (V.int k)) cs
 | [], _, h => h
 | x :: l, cs, h => by
  simp only [List.map_cons, rdE] at h ⊢
  obtain ⟨c1, c2, e, ⟨h1, h2⟩, h3⟩ := h
  exact ⟨c1, c2, e, ⟨h1, by simpa only [rd] using h2⟩, rdE_ints h3⟩
theorem rd_ck_sl (hk : CK c.w c'.w) (hX : ∀ k, k ∈ c'.X → k ∈ c.X) {k : IntKind} {z : Option Bool} {l : List Int} {v : Value} (h : rd ρ c (.sl z 1 false (l.map (V.int k))) v) : rd ρ c' (.sl z 1 false (l.map (V.int k))) v := by
 simp only [rd] at h ⊢
 obtain ⟨a, cap, e, hl, hz, h⟩ := h
 refine ⟨a, cap, e, hl, hz, ?_⟩
 rcases h with h | ⟨b, o, cs, e, h1, h2, h3, h4⟩
 ·exact .inl h
 ·exact .inr ⟨b, o, cs, e, Nat.lt_of_lt_of_le h1 hk.size, fun h9 => h2 (hX b h9), hk.at h3, rdE_ints h4⟩
end
theorem below_grown {A B : World} (h : Below A.heap.size A B) : A.grownBy B none := ⟨h.os, h.tape, h.output, h.size, fun k hk _ => h.block k hk⟩
theorem seg_begin {n : Nat} {code : Code} {ws : List V} {Q : St → Prop} (hs : SegOk En n code ws Q) {c : Cx} (hg : Gl En c) {F : Fm} {us : List Value} (hus : rdT ro0 c ws us) (hF : ∀ t u, us[t]? = some u → F t = u) :
  SimN En c c ro0 ⟨slotsA 0 ws, [], 0⟩ F ∧ wpA En noJ code (segK Q) ⟨slotsA 0 ws, [], 0⟩ := by
 refine ⟨⟨⟨Since.refl c, hg, ?_, fun i b hb => by simp [getA] at hb, fun i j bi bj k hij hb => by simp [getA] at hb⟩, fun i _ => rfl⟩, hs.2 (rdT_wf hus)⟩
 intro t v ht
 rw [getA_slotsA] at ht
 simp only [Nat.zero_le, if_true, Nat.sub_zero] at ht
 obtain ⟨u, hu, hr⟩ := rdT_get hus ht
 rw [hF t u hu]; exact hr
theorem seg_region {c0 c : Cx} {ρ : Ro} {S : St} {F : Fm} {a : Act} {n id : Nat} {ops : Array Oper} {d : Bool} {b : Code} {Q : St → Prop} {QC : Exit → Act → World → Prop}
  (hk : wpA En noJ (.seq (.region id ops d) b) (segK Q) S) (hs : slotsB n ops = true) (h : SimN En c0 c ρ S F) (hf : Fr n F a)
  (H : ∀ c' ρ' S' F' a', SimN En c0 c' ρ' S' F' → Fr n F' a' → wpA En noJ b (segK Q) S' → QC .normal a' c'.w) : (Code.region id ops d).wp En.P QC a c.w := by
 refine wpA_sound En_ok En_mo (J := noJ) (.region id ops d) (thenK (fun _ _ => False) (wpA En noJ b (segK Q))) QC hs ?_ c ρ S F a h hf ?_
 ·rintro e a w ⟨c', ρ', S', F', rfl, hS, hf', hk'⟩
  cases e with
  | normal => exact H _ _ _ _ _ hS hf' hk'
  | _ => exact hk'.elim
 ·simp only [wpA, cutAt_noJ] at hk
  exact hk
theorem act71 {F : Fm} {a : Act} (h : Fr 71 F a) : a = { tmps := #[F 0, F 1, F 2, F 3, F 4, F 5, F 6, F 7, F 8, F 9, F 10, F 11, F 12, F 13, F 14, F 15, F 16, F 17, F 18, F 19, F 20, F 21, F 22, F 23, F 24, F 25, F 26, F 27, F 28, F 29, F 30, F 31, F 32, F 33, F 34, F 35, F 36, F 37, F 38, F 39, F 40, F 41, F 42, F 43, F 44, F 45, F 46, F 47, F 48, F 49, F 50, F 51, F 52, F 53, F 54, F 55, F 56, F 57, F 58, F 59, F 60, F 61, F 62, F 63, F 64, F 65, F 66, F 67, F 68, F 69, F 70], defers := [] } := by
 obtain ⟨tm, df⟩ := a
 have h1 : tm.size = 71 := h.size
 have h2 : df = [] := h.defers
 subst h2
 congr 1
 refine Array.ext (by rw [h1]; rfl) fun i hi hj => ?_
 have h3 := h.slot i
 have h4 : tm.getD i undef = tm[i] := by simp [Array.getD, hi]
 change tm.getD i undef = F i at h3
 rw [← h4, h3]
 have hi' : i < 71 := by omega
 have key : ∀ j : Fin 71, F j.val = (#[F 0, F 1, F 2, F 3, F 4, F 5, F 6, F 7, F 8, F 9, F 10, F 11, F 12, F 13, F 14, F 15, F 16, F 17, F 18, F 19, F 20, F 21, F 22, F 23, F 24, F 25, F 26, F 27, F 28, F 29, F 30, F 31, F 32, F 33, F 34, F 35, F 36, F 37, F 38, F 39, F 40, F 41, F 42, F 43, F 44, F 45, F 46, F 47, F 48, F 49, F 50, F 51, F 52, F 53, F 54, F 55, F 56, F 57, F 58, F 59, F 60, F 61, F 62, F 63, F 64, F 65, F 66, F 67, F 68, F 69, F 70] : Array Value)[j.val]'j.isLt := by
  intro j
  match j with
  | ⟨0, _⟩ => rfl
  | ⟨1, _⟩ => rfl
  | ⟨2, _⟩ => rfl
  | ⟨3, _⟩ => rfl
  | ⟨4, _⟩ => rfl
  | ⟨5, _⟩ => rfl
  | ⟨6, _⟩ => rfl
  | ⟨7, _⟩ => rfl
  | ⟨8, _⟩ => rfl
  | ⟨9, _⟩ => rfl
  | ⟨10, _⟩ => rfl
  | ⟨11, _⟩ => rfl
  | ⟨12, _⟩ => rfl
  | ⟨13, _⟩ => rfl
  | ⟨14, _⟩ => rfl
  | ⟨15, _⟩ => rfl
  | ⟨16, _⟩ => rfl
  | ⟨17, _⟩ => rfl
  | ⟨18, _⟩ => rfl
  | ⟨19, _⟩ => rfl
  | ⟨20, _⟩ => rfl
  | ⟨21, _⟩ => rfl
  | ⟨22, _⟩ => rfl
  | ⟨23, _⟩ => rfl
  | ⟨24, _⟩ => rfl
  | ⟨25, _⟩ => rfl
  | ⟨26, _⟩ => rfl
  | ⟨27, _⟩ => rfl
  | ⟨28, _⟩ => rfl
  | ⟨29, _⟩ => rfl
  | ⟨30, _⟩ => rfl
  | ⟨31, _⟩ => rfl
  | ⟨32, _⟩ => rfl
  | ⟨33, _⟩ => rfl
  | ⟨34, _⟩ => rfl
  | ⟨35, _⟩ => rfl
  | ⟨36, _⟩ => rfl
  | ⟨37, _⟩ => rfl
  | ⟨38, _⟩ => rfl
  | ⟨39, _⟩ => rfl
  | ⟨40, _⟩ => rfl
  | ⟨41, _⟩ => rfl
  | ⟨42, _⟩ => rfl
  | ⟨43, _⟩ => rfl
  | ⟨44, _⟩ => rfl
  | ⟨45, _⟩ => rfl
  | ⟨46, _⟩ => rfl
  | ⟨47, _⟩ => rfl
  | ⟨48, _⟩ => rfl
  | ⟨49, _⟩ => rfl
  | ⟨50, _⟩ => rfl
  | ⟨51, _⟩ => rfl
  | ⟨52, _⟩ => rfl
  | ⟨53, _⟩ => rfl
  | ⟨54, _⟩ => rfl
  | ⟨55, _⟩ => rfl
  | ⟨56, _⟩ => rfl
  | ⟨57, _⟩ => rfl
  | ⟨58, _⟩ => rfl
  | ⟨59, _⟩ => rfl
  | ⟨60, _⟩ => rfl
  | ⟨61, _⟩ => rfl
  | ⟨62, _⟩ => rfl
  | ⟨63, _⟩ => rfl
  | ⟨64, _⟩ => rfl
  | ⟨65, _⟩ => rfl
  | ⟨66, _⟩ => rfl
  | ⟨67, _⟩ => rfl
  | ⟨68, _⟩ => rfl
  | ⟨69, _⟩ => rfl
  | ⟨70, _⟩ => rfl
  | ⟨i + 71, h⟩ => exact absurd (show i + 71 < 71 from h) (by omega)
 exact key ⟨i, hi'⟩
end Go.Proofs.YteolfhljhnplpaaGreatDoor
namespace Go.Proofs.YteolfhljhnplpaaGreatDoor
open Go.RowKit Go.Shelf
set_option linter.unusedVariables false
set_option linter.unusedSimpArgs false
def candL (g : S_api_Group) (label : List UInt8) (b : List Int) (k : Nat) : List Int := (List.range k).map fun i : Nat => base_tried_1_seg g label b (i : Int)
theorem candL_succ {g : S_api_Group} {label : List UInt8} {b : List Int} {k : Nat} : candL g label b (k + 1) = candL g label b k ++ [base_tried_1_seg g label b (k : Int)] := by simp [candL, List.range_succ]
theorem candL_len {g : S_api_Group} {label : List UInt8} {b : List Int} {k : Nat} : (candL g label b k).length = k := by simp [candL]
abbrev boxG (g : S_api_Group) : V := .pp 3 true (.agg [.int .i64 g.P, .int .i64 g.Q, .int .i64 g.G])
abbrev boxS (s : List UInt8) : V := .pp 1 false (.str s)
abbrev boxB (b : List Int) : V := .pp 1 false (.sl none 1 false (b.map (V.int .u8)))
def rdF (c : Cx) (F : Fm) : Nat → List V → Prop
 | _, [] => True
 | t, v :: l => rd ro0 c v (F t) ∧ rdF c F (t + 1) l
theorem rdF_rdT {c : Cx} {F : Fm} : ∀ {l : List V} {t : Nat}, rdF c F t l → rdT ro0 c l ((List.range' t l.length).map F)
 | [], _, _ => rfl
 | v :: l, t, h => by
  simp only [List.length_cons, List.range'_succ, List.map_cons, rdT]
  exact ⟨_, _, rfl, h.1, rdF_rdT h.2⟩
theorem seg_start {n : Nat} {code : Code} {ws : List V} {Q : St → Prop} (hs : SegOk En n code ws Q) {c : Cx} (hg : Gl En c) {F : Fm} (h : rdF c F 0 ws) :
  SimN En c c ro0 ⟨slotsA 0 ws, [], 0⟩ F ∧ wpA En noJ code (segK Q) ⟨slotsA 0 ws, [], 0⟩ :=
 seg_begin hs hg (rdF_rdT h) fun t u hu => by
  rw [List.getElem?_map] at hu
  obtain ⟨i, hi, rfl⟩ := Option.map_eq_some_iff.1 hu
  rw [List.getElem?_range'] at hi
  ·simp only [Nat.zero_add, Nat.one_mul, Option.some.injEq] at hi; rw [hi]
  ·by_cases ht : t < ws.length
   ·exact ht
   ·rw [List.getElem?_eq_none (by simp; omega)] at hi; cases hi
set_option maxHeartbeats 4000000 in
set_option maxRecDepth 100000 in
theorem tried_stops (cS : Cx) (hg : Gl En cS) (g : S_api_Group) (label : List UInt8) (b : List Int) (hq : 1 ≤ g.Q) (hl : label.length ≤ 100) (hb : b.length ≤ 1000) (u1 u2 u3 : Value)
  (r1 : rd ro0 cS (boxG g) u1) (r2 : rd ro0 cS (boxS label) u2) (r3 : rd ro0 cS (boxB b) u3) (m : Nat) (hm : 1 ≤ m) :
  SeqStopsK Fence.wide m Tryz.prog 143 #[u1, u2, u3] (fun x : Int => #[.int .i64 x]) (fun W W' => CK W W' ∧ Below cS.w.heap.size W W') (fun xs => xs = candL g label b 1000) (fun pre => ∃ k, k < 1000 ∧ pre = candL g label b (k + 1) ∧ Rng .i64 (base_tried_1_seg g label b (k : Int))) 1000 cS.w := by
 intro l J Jx W hW hJ hJx hY h0
 refine callsIn_wide.2 ?_
 go_enter Tryz.func143, Tryz.ntmps143
 go_wp2
 refine wp_rounds (fun k a W1 => ∃ (i : Nat) (F : Fm) (hB : Below cS.w.heap.size cS.w W1), k = 1000 - i ∧ i ≤ 1000 ∧ Fr 71 F a ∧ F 0 = .func (.yield l) #[] #[] ∧ F 15 = .int .i64 (i : Int) ∧ rd ro0 (cS.at W1 hB.size) (boxG g) (F 1) ∧ rd ro0 (cS.at W1 hB.size) (boxS label) (F 2) ∧ rd ro0 (cS.at W1 hB.size) (boxB b) (F 3) ∧ J (candL g label b i) W1) 1000 ?start ?round
 case start =>
  have hp := (Cx.le_at hW).pub
  exact ⟨0, _, hW, rfl, by omega, ⟨rfl, rfl, fun t => rfl⟩, rfl, rfl, rd_mono hp r1, rd_mono hp r2, rd_mono hp r3, h0⟩
 case round =>
  rintro k a W1 ⟨i, F, hB, rfl, hi, hf, e0, e15, s1, s2, s3, hJ1⟩
  rw [act71 hf, e0, e15]
  by_cases hlt : i < 1000
  ·have hq9 : (i : Int) < 1000 := by omega
   go_wp2
   rename_i K9 k9 K4 k4
   have hgW : Gl En (cS.at W1 hB.size) := hg.mono (Cx.le_at hB).pub
   have hri : Rng .i64 (i : Int) := by rw [rng_i64]; omega
   obtain ⟨hS, hA⟩ := seg_start (base_tried_1_seg_ok (fun _ v => v = .func (.yield l) #[] #[]) g label b (i : Int) hq hl hb) hgW (F := fun t => (#[.func (.yield l) #[] #[], F 1, F 2, F 3, F 4, .int .i64 (i : Int), F 6, F 7, F 8, F 9, F 10, F 11, F 12, F 13, F 14, .int .i64 (i : Int), .bool true, .int .i64 (i : Int), F 18, F 19, F 20, F 21, F 22, F 23, F 24, F 25, F 26, F 27, F 28, F 29, F 30, F 31, F 32, F 33, F 34, F 35, F 36, F 37, F 38, F 39, F 40, F 41, F 42, F 43, F 44, F 45, F 46, F 47, F 48, F 49, F 50, F 51, F 52, F 53, F 54, F 55, F 56, F 57, F 58, F 59, F 60, F 61, F 62, F 63, F 64, F 65, F 66, F 67, F 68, F 69, F 70] : Array Value).getD t undef)
    ⟨⟨rfl, rfl, fun _ _ _ h _ => h⟩, s1, s2, s3, trivial, ⟨rfl, hri⟩, trivial, trivial, trivial, trivial, trivial, trivial, trivial, trivial, trivial, ⟨rfl, hri⟩, trivial⟩
   simp only [base_tried_1_seg_code, Tryz.f143] at hA
   refine seg_region hA (by kernel_rfl) hS ⟨rfl, rfl, fun t => rfl⟩ fun c3 ρ3 S3 F3 a3 h3 f3 A3 => ?_
   refine k4 _ _ (wp_seq ?_)
   refine seg_region A3 (by kernel_rfl) h3 f3 fun c4 ρ4 S4 F4 a4 h4 f4 A4 => ?_
   refine wp_seq ?_
   refine seg_region A4 (by kernel_rfl) h4 f4 fun c5 ρ5 S5 F5 a5 h5 f5 A5 => ?_
   refine wp_seq ?_
   refine seg_region A5 (by kernel_rfl) h5 f5 fun c6 ρ6 S6 F6 a6 h6 f6 A6 => ?_
   refine wp_seq ?_
   refine seg_region A6 (by kernel_rfl) h6 f6 fun c7 ρ7 S7 F7 a7 h7 f7 A7 => ?_
   obtain ⟨t13, t0, t1, t2, t3, t5, t15⟩ := (show _ from A7)
   have q13 : F7 13 = .int .i64 (base_tried_1_seg g label b (i : Int)) := (show _ ∧ _ from h7.1.slot 13 _ t13).1
   have w13 : Rng .i64 (base_tried_1_seg g label b (i : Int)) := (show _ ∧ _ from h7.1.slot 13 _ t13).2
   have q0 : F7 0 = .func (.yield l) #[] #[] := (show _ ∧ _ from h7.1.slot 0 _ t0).1
   have q15 : F7 15 = .int .i64 (i : Int) := (show _ ∧ _ from h7.1.slot 15 _ t15).1
   have p1 := h7.1.slot 1 _ t1
   have p2 := h7.1.slot 2 _ t2
   have p3 := h7.1.slot 3 _ t3
   have hb7 : Below W1.heap.size W1 c7.w := h7.1.since.below.below
   have hX7 : ∀ k, k ∈ cS.X → k ∈ c7.X := fun k hk => h7.1.since.X k hk (by simp [Cx.at])
   have hB7 : Below cS.w.heap.size cS.w c7.w := hB.trans (hb7.mono hB.size)
   have hJ7 : J (candL g label b i) c7.w := hJ _ _ _ none hJ1 (below_grown hb7) (fun r e => by cases e)
   obtain ⟨fn, tmps, assign, body, hy, hR⟩ := hY _ (base_tried_1_seg g label b (i : Int)) c7.w hJ7 (by rw [candL_len]; omega)
   rw [← candL_succ] at hR
   clear hS hA h3 h4 h5 h6 A3 A4 A5 A6 A7 k4 f3 f4 f5 f6
   rw [act71 f7, q0, q13, q15]
   refine (wpIn_wide (n := m)).1 ?_
   gi_wp2
   refine hR.mono ?_
   rintro e W' (⟨rfl, hJ', hk, hb'⟩ | ⟨rfl, hJx'⟩)
   ·gi_wp2
    go_wp2
    have hB' : Below cS.w.heap.size cS.w W' := hB7.trans hb'
    exact ⟨1000 - (i + 1), by omega, i + 1, _, hB', rfl, by omega, ⟨rfl, rfl, fun t => rfl⟩, rfl, rfl, rd_ck_pp (c' := cS.at W' hB'.size) hk hX7 (fun u h => by simpa only [rd, rdC] using h) p1, rd_ck_pp (c' := cS.at W' hB'.size) hk hX7 (fun u h => by simpa only [rd] using h) p2, rd_ck_pp (c' := cS.at W' hB'.size) hk hX7 (fun u h => rd_ck_sl (c := c7) (c' := cS.at W' hB'.size) hk hX7 h) p3, hJ'⟩
   ·gi_wp2
    exact ⟨rfl, _, results_none rfl _ _ _, ⟨_, rfl⟩, .inr ⟨_, ⟨i, hlt, rfl, w13⟩, hJx'⟩⟩
  ·have hq9 : ¬ (i : Int) < 1000 := by omega
   have hi' : i = 1000 := by omega
   rw [hi'] at hJ1
   go_wp2
   exact ⟨rfl, _, results_none rfl _ _ _, ⟨_, rfl⟩, .inl hJ1⟩
end Go.Proofs.YteolfhljhnplpaaGreatDoor
namespace Go.Proofs.YteolfhljhnplpaaGreatDoor
open Go.RowKit Go.Shelf
set_option linter.unusedVariables false
set_option linter.unusedSimpArgs false
attribute [local go_sem] Oper.semAt_some
theorem res_cellR {P : Program} {fn : Func} {t : Nat} {T : TypeId} {w : World} {ad : Addr} {v : Value} {tmps : Array Value} (h : fn.results = #[.cell t T]) (hT : ∀ w, (isAgg T).run P w = .ok false w) (ht : tmps.getD t undef = .pointer (some ad)) (hc : w.cell? ad = some v) : (results fn tmps).run P w = .ok v w := by
 simp only [Array.getD_eq_getD_getElem?] at ht
 simp [results, h, oneResult, loadVar, ht, hT, hc, asAddr]
set_option maxHeartbeats 4000000 in
set_option maxRecDepth 100000 in
theorem tried_call (p q r : Int) (sv : ByteArray) (a : Option Addr) (k cap : Nat) (w : World) : Calls Tryz.prog 107 #[.agg #[.int .i64 p, .int .i64 q, .int .i64 r], .string sv, .slice a k cap] w fun e w' =>
  e = .returned (.func (.func 143) #[] #[.pointer (some ⟨w.heap.size, 0, none⟩), .pointer (some ⟨w.heap.size + 1, 0, none⟩), .pointer (some ⟨w.heap.size + 2, 0, none⟩)]) ∧
  w' = ((w.alloc (.cells #[.int .i64 p, .int .i64 q, .int .i64 r] 23)).alloc (.cells #[.string sv] 9)).alloc (.cells #[.slice a k cap] 67) := by
 go_enter Tryz.func107, Tryz.ntmps107
 go_wp2
 exact ⟨rfl, _, results_tmp rfl _ _ _, rfl, rfl⟩
theorem firstGr_none {f : Int → Int} : ∀ {n : Nat} {i : Int}, (∀ j : Nat, j < n → f (i + j) ≤ 1) → firstGr f n i = 0
 | 0, _, _ => rfl
 | n + 1, i, h => by
  have h0 := h 0 (by omega)
  rw [firstGr, if_neg (by simpa using h0)]
  exact firstGr_none fun j hj => by have := h (j + 1) (by omega); rw [show i + 1 + (j : Int) = i + ((j + 1 : Nat) : Int) by omega]; exact this
theorem firstGr_some {f : Int → Int} : ∀ {k n : Nat} {i : Int}, k < n → (∀ j : Nat, j < k → f (i + j) ≤ 1) → 1 < f (i + k) → firstGr f n i = f (i + k)
 | _, 0, _, h, _, _ => absurd h (by omega)
 | 0, n + 1, i, _, _, h1 => by
  have h1' : 1 < f i := by simpa using h1
  rw [firstGr, if_pos h1']; simp
 | k + 1, n + 1, i, hk, h, h1 => by
  have h0 := h 0 (by omega)
  rw [firstGr, if_neg (by simpa using h0)]
  have e : i + ((k + 1 : Nat) : Int) = i + 1 + (k : Int) := by omega
  rw [e] at h1 ⊢
  exact firstGr_some (by omega) (fun j hj => by have := h (j + 1) (by omega); rw [show i + 1 + (j : Int) = i + ((j + 1 : Nat) : Int) by omega]; exact this) h1
theorem five (w : World) (o0 o1 o2 o3 o4 : Obj) : let W := ((((w.alloc o0).alloc o1).alloc o2).alloc o3).alloc o4
  W.heap.size = w.heap.size + 5 ∧ Below w.heap.size w W ∧ W.heap[w.heap.size + 1]? = some o1 ∧ W.heap[w.heap.size + 2]? = some o2 ∧ W.heap[w.heap.size + 3]? = some o3 ∧ W.heap[w.heap.size + 4]? = some o4 := by
 refine ⟨by simp, ((((((Below.refl _ w).alloc (Nat.le_refl _) _).alloc (by simp) _).alloc (by simp; omega) _).alloc (by simp; omega) _).alloc (by simp; omega) _), ?_, ?_, ?_, ?_⟩
 ·have a1 := World.alloc_heap_new (w.alloc o0) o1
  rw [World.size_alloc] at a1
  exact (Below.heap_alloc _ _ _ (by simp)).trans ((Below.heap_alloc _ _ _ (by simp)).trans ((Below.heap_alloc _ _ _ (by simp)).trans a1))
 ·have a1 := World.alloc_heap_new ((w.alloc o0).alloc o1) o2
  rw [World.size_alloc, World.size_alloc] at a1
  exact (Below.heap_alloc _ _ _ (by simp)).trans ((Below.heap_alloc _ _ _ (by simp)).trans a1)
 ·have a1 := World.alloc_heap_new (((w.alloc o0).alloc o1).alloc o2) o3
  rw [World.size_alloc, World.size_alloc, World.size_alloc] at a1
  exact (Below.heap_alloc _ _ _ (by simp)).trans a1
 ·have a1 := World.alloc_heap_new ((((w.alloc o0).alloc o1).alloc o2).alloc o3) o4
  rw [World.size_alloc, World.size_alloc, World.size_alloc, World.size_alloc] at a1
  exact a1
set_option maxHeartbeats 4000000 in
set_option maxRecDepth 100000 in
theorem element_calls (c : Cx) (hg : Gl En c) (g : S_api_Group) (label : List UInt8) (b : List Int) (hq : 1 ≤ g.Q) (hl : label.length ≤ 100) (hb : b.length ≤ 1000) (hG : Rng .i64 g.P ∧ Rng .i64 g.Q ∧ Rng .i64 g.G) (hL : label.length ≤ LEN) (sv : Value) (hs : rd ro0 c (.sl none 1 false (b.map (V.int .u8))) sv) :
  Calls Tryz.prog 68 #[.agg #[.int .i64 g.P, .int .i64 g.Q, .int .i64 g.G], .string ⟨label.toArray⟩, sv] c.w fun e w' => e = .returned (.int .i64 (base_element g label b)) ∧ Rng .i64 (base_element g label b) ∧ Below c.w.heap.size c.w w' := by
 have hs' := hs
 simp only [rd] at hs'
 obtain ⟨a, cap, rfl, hlen, _, _⟩ := hs'
 rw [List.length_map] at hs ⊢
 refine (callsIn_wide (n := 3)).1 ?_
 refine callsIn_of_wp_marks Tryz.func68 rfl trivial ?_ rfl
 simp only [Tryz.ntmps68, List.size_toArray, List.length_cons, List.length_nil, Nat.reduceAdd, Nat.reduceSub, Array.replicate_succ, Array.replicate_zero, List.push_toArray, List.append_toArray, List.nil_append, List.cons_append]
 gi_wp2_with (refine ⟨trivial, ?_⟩; gi_at_call 107; refine (callsIn_wide.2 (tried_call _ _ _ _ _ _ _ _)).mono ?_; rintro e w' ⟨rfl, rfl⟩)
 obtain ⟨hsz, hB1, w1, w2, w3, w4⟩ := five c.w (.cells #[.int .i64 g.P, .int .i64 g.Q, .int .i64 g.G] 23) (.cells #[.int .i64 0] 3) (.cells #[.int .i64 g.P, .int .i64 g.Q, .int .i64 g.G] 23) (.cells #[.string ⟨label.toArray⟩] 9) (.cells #[.slice a b.length cap] 67)
 generalize ((((c.w.alloc (.cells #[.int .i64 g.P, .int .i64 g.Q, .int .i64 g.G] 23)).alloc (.cells #[.int .i64 0] 3)).alloc (.cells #[.int .i64 g.P, .int .i64 g.Q, .int .i64 g.G] 23)).alloc (.cells #[.string ⟨label.toArray⟩] 9)).alloc (.cells #[.slice a b.length cap] 67) = W1 at hsz hB1 w1 w2 w3 w4 ⊢
 have hpub := (Cx.le_at hB1).pub
 have hX : ∀ k, c.w.heap.size ≤ k → k ∉ c.X := fun k hk h => absurd (c.ok k h) (by omega)
 have bx : ∀ (k : Nat) (cs : List Value) (T : TypeId) (d : V) (gg : Bool), W1.heap[c.w.heap.size + k]? = some (.cells cs.toArray T) → shapeOk cs.length gg cs → rd ro0 (c.at W1 hB1.size) d (mkV gg cs) → rd ro0 (c.at W1 hB1.size) (.pp cs.length gg d) (.pointer (some ⟨c.w.heap.size + k, 0, none⟩)) := fun k cs T d gg hk hsh hd => by
  simp only [rd]
  refine ⟨_, 0, cs, rfl, (Array.getElem?_eq_some_iff.1 hk).1, hX _ (by omega), fun i u hi => ?_, hsh, hd⟩
  show W1.cell? ⟨c.w.heap.size + k, 0 + i, none⟩ = some u
  unfold World.cell?
  rw [hk]
  simpa using hi
 have r1 := bx 2 [.int .i64 g.P, .int .i64 g.Q, .int .i64 g.G] _ (.agg [.int .i64 g.P, .int .i64 g.Q, .int .i64 g.G]) true w2 ⟨rfl, (by simp), (by simp [Value.oneCell'])⟩ ⟨_, rfl, _, _, rfl, rfl, ⟨rfl, hG.1⟩, _, _, rfl, rfl, ⟨rfl, hG.2.1⟩, _, _, rfl, rfl, ⟨rfl, hG.2.2⟩, rfl⟩
 have r2 := bx 3 [.string ⟨label.toArray⟩] _ (.str label) false w3 ⟨rfl, (by simp), (by simp [Value.oneCell'])⟩ ⟨rfl, hL⟩
 have r3 := bx 4 [.slice a b.length cap] _ (.sl none 1 false (b.map (V.int .u8))) false w4 ⟨rfl, (by simp), (by simp [Value.oneCell'])⟩ (rd_mono hpub hs)
 have hc1 : W1.cell? ⟨c.w.heap.size + 1, 0, none⟩ = some (.int .i64 0) := by unfold World.cell?; rw [w1]; rfl
 have hf1 : W1.frozen? ⟨c.w.heap.size + 1, 0, none⟩ = false := by unfold World.frozen?; rw [w1]; rfl
 have hst := tried_stops (c.at W1 hB1.size) (hg.mono hpub) g label b hq hl hb _ _ _ r1 r2 r3 2 (by omega)
 refine wpIn_rangeFunc_ownF rfl (by omega) (gf := 143) rfl trivial (enters_of Tryz.func143 (by kernel_rfl) rfl) hst (fun h k => ⟨h.1.trans k.1, h.2.trans k.2⟩) (fun W l o o' h1 h2 h3 h4 => ⟨CK.putObj h2 h3, belowK_b (Nat.le_refl _) W l o o' h1 h2 h3 h4⟩) (Below.refl _ _) (fun _ => rfl)
  (fun pre W => ((∀ x ∈ pre, x ≤ 1) ∧ W.cell? ⟨c.w.heap.size + 1, 0, none⟩ = some (.int .i64 0) ∧ W.frozen? ⟨c.w.heap.size + 1, 0, none⟩ = false) ∧ Below c.w.heap.size c.w W)
  (fun e pre W => (e = .ret ∧ ∃ q x, pre = q ++ [x] ∧ (∀ y ∈ q, y ≤ 1) ∧ 1 < x ∧ W.cell? ⟨c.w.heap.size + 1, 0, none⟩ = some (.int .i64 x)) ∧ Below c.w.heap.size c.w W)
  (OwnFrom.and (Own.from (fun s A B row hs hg hr => ⟨hs.1, cell_kept hs.2.1 hg hr, (frozen_kept hs.2.1 hg hr).trans hs.2.2⟩) _) (ownFrom_below (Nat.le_refl _) (by omega)))
  (fun e => OwnFrom.and (Own.from (fun s A B row ⟨h1, q, x, h2, h3, h4, h5⟩ hg hr => ⟨h1, q, x, h2, h3, h4, cell_kept h5 hg hr⟩) _) (ownFrom_below (Nat.le_refl _) (by omega)))
  ⟨⟨fun x hx => (by cases hx), hc1, hf1⟩, hB1⟩
  (fun x => { tmps := #[.agg #[.int .i64 g.P, .int .i64 g.Q, .int .i64 g.G], .string ⟨label.toArray⟩, .slice a b.length cap, .pointer (some ⟨c.w.heap.size, 0, none⟩), undef, undef, .pointer (some ⟨c.w.heap.size + 1, 0, none⟩), .int .i64 x, .agg #[.int .i64 g.P, .int .i64 g.Q, .int .i64 g.G], .string ⟨label.toArray⟩, .slice a b.length cap,
   .func (.func 143) #[] #[.pointer (some ⟨c.w.heap.size + 2, 0, none⟩), .pointer (some ⟨c.w.heap.size + 3, 0, none⟩), .pointer (some ⟨c.w.heap.size + 4, 0, none⟩)], .int .i64 x, undef, undef, undef], defers := [] }) ?assign ?body ?done ?stop
 case assign =>
  intro l x W K hK
  gi_wp2
  exact hK
 case body =>
  rintro l pre x W ⟨⟨h1, hc, hf⟩, hB⟩ _
  by_cases hx : 1 < x
  ·gi_wp2
   exact ⟨KeepsOthers.setCell _ _ _, ⟨rfl, pre, x, rfl, h1, hx, World.cell?_setCell_same' _ _ _ (by rw [hc]; rfl)⟩, hB.setCell (p := ⟨c.w.heap.size + 1, 0, none⟩) (by simp) _⟩
  ·gi_wp2
   refine ⟨KeepsOthers.refl _, ⟨CK.refl _, Below.refl _ _⟩, ⟨fun y hy => ?_, hc, hf⟩, hB⟩
   rcases List.mem_append.1 hy with h | h
   ·exact h1 y h
   ·simp at h; omega
 case done =>
  rintro D xs W hD rfl ⟨⟨h1, hc, hf⟩, hB⟩ hK
  gi_wp2
  have hK2 := (KeepsOthers.setCell W ⟨c.w.heap.size + 1, 0, none⟩ (.int .i64 0)).same D _ hK rfl
  refine ⟨by simp, .inl ⟨_, _, rfl, run_takeDeferred hK2, ?_⟩⟩
  have hcell := cell_kept (World.cell?_setCell_same' W ⟨c.w.heap.size + 1, 0, none⟩ (.int .i64 0) (by rw [hc]; rfl)) (grownBy_putObj' _ D (.deferred none)) (fun r e => by cases e; exact ⟨_, hK2, rfl⟩)
  have e0 : base_element g label b = 0 := firstGr_none fun j hj => h1 _ (List.mem_map.2 ⟨j, List.mem_range.2 hj, by simp⟩)
  exact ⟨_, res_cellR rfl Tryz.isAgg3 rfl hcell, by rw [e0], by rw [e0]; exact rng_zero .i64, (hB.setCell (p := ⟨c.w.heap.size + 1, 0, none⟩) (by simp) _).trans (belowK_b (w := c.w) (Nat.le_refl _) _ D _ _ (by omega) hK2 rfl rfl)⟩
 case stop =>
  rintro D e pre W hD ⟨k, hk, rfl, hr9⟩ ⟨⟨rfl, q, x, h2, h3, h4, h5⟩, hB⟩ hK
  gi_wp2
  refine ⟨by simp, .inl ⟨_, _, rfl, run_takeDeferred hK, ?_⟩⟩
  have hcell := cell_kept h5 (grownBy_putObj' _ D (.deferred none)) (fun r e => by cases e; exact ⟨_, hK, rfl⟩)
  rw [candL_succ] at h2
  obtain ⟨e1, e2⟩ := List.append_inj' h2 rfl
  have e3 : base_tried_1_seg g label b (k : Int) = x := by simpa using e2
  have e0 : base_element g label b = x := by
   have h := firstGr_some (f := fun i => base_tried_1_seg g label b i) (k := k) (n := 1000) (i := 0) hk (fun j hj => h3 _ (by rw [← e1]; exact List.mem_map.2 ⟨j, List.mem_range.2 hj, by simp⟩)) (by simp only [Int.zero_add]; rw [e3]; exact h4)
   simp only [Int.zero_add] at h
   rw [← e3]; exact h
  exact ⟨_, res_cellR rfl Tryz.isAgg3 rfl hcell, by rw [e0], by rw [e0, ← e3]; exact hr9, hB.trans (belowK_b (w := c.w) (Nat.le_refl _) _ D _ _ (by omega) hK rfl rfl)⟩
theorem base_element_ok (a0 : S_api_Group) (a1 : List UInt8) (a2 : List Int) (hp0 : 1 ≤ a0.Q) (hp1 : a1.length ≤ 100) (hp2 : a2.length ≤ 1000) :
  CM En (base_element a0 a1 a2) 68 [.agg [.int .i64 a0.P, .int .i64 a0.Q, .int .i64 a0.G], .str a1, .sl none 1 false (a2.map (V.int .u8))] (fun y => .int .i64 y) (fun _ => []) := by
 refine ⟨ok_of2 (show ∀ xs w, (callFunc 68 xs).run En.P w = .ok (.enter 68 xs) w from enters_of Tryz.func68 (by kernel_rfl) rfl) fun c us hg hus hw => ?_⟩
 simp only [rdT] at hus
 obtain ⟨u0, c0, rfl, h0, u1, c1, rfl, h1, u2, c2, rfl, h2, rfl⟩ := hus
 simp only [rd.eq_5, rdC] at h0
 obtain ⟨cs, rfl, v0, d0, rfl, _, g0, v1, d1, rfl, _, g1, v2, d2, rfl, _, g2, rfl⟩ := h0
 obtain ⟨rfl, k0⟩ := (show _ ∧ _ from g0)
 obtain ⟨rfl, k1⟩ := (show _ ∧ _ from g1)
 obtain ⟨rfl, k2⟩ := (show _ ∧ _ from g2)
 obtain ⟨rfl, l1⟩ := (show _ ∧ _ from h1)
 refine (element_calls c hg a0 a1 a2 hp0 hp1 hp2 ⟨k0, k1, k2⟩ l1 u2 h2).mono ?_
 rintro e w' ⟨rfl, hr, hB⟩
 exact ⟨_, rfl, hB, rfl, hr⟩
end Go.Proofs.YteolfhljhnplpaaGreatDoor
namespace Go.Proofs.YteolfhljhnplpaaGreatDoor
open Go.RowKit
set_option linter.unusedVariables false
set_option linter.unusedSimpArgs false
theorem len_map8 (b : List Int) : (b.map u8N).length = b.length := List.length_map _
theorem hgt6 {k n : Int} {x1 x2 x3 x4 x5 x6 : S_api_Item} : hgt ⟨k, n, [], [x1, x2, x3, x4, x5, x6]⟩ = 1 + (hgt x1 + hgt x2 + hgt x3 + hgt x4 + hgt x5 + hgt x6) := by simp [hgt, hgtL]; omega
theorem renc6h {x1 x2 x3 x4 x5 x6 : S_api_Item} (h : hgt x1 + hgt x2 + hgt x3 + hgt x4 + hgt x5 + hgt x6 ≤ 2000) : hgt ({ Kind := 3, N := 0, B := ([] : List Int), L := ([x1, x2, x3, x4, x5, x6] : List S_api_Item) } : S_api_Item) ≤ 50000000 := by rw [hgt6]; omega
theorem renc6 {x1 x2 x3 x4 x5 x6 : S_api_Item} {x : List Int} (hx : x = encI ({ Kind := 3, N := 0, B := ([] : List Int), L := ([x1, x2, x3, x4, x5, x6] : List S_api_Item) } : S_api_Item)) (h : hgt x1 + hgt x2 + hgt x3 + hgt x4 + hgt x5 + hgt x6 ≤ 2000) : x.length ≤ 20000 := by have h9 := enc_after hx; rw [hgt6] at h9; omega
theorem quo_nn {p q : Int} (h1 : 1 ≤ p) (h2 : p < 2305843009213693952) (hq : 1 ≤ q) : 0 ≤ quoI .i64 (subI .i64 p 1) q := by
 have e : subI .i64 p 1 = p - 1 := by unfold subI; rw [IntKind.wrap_i64]; omega
 rw [e, quo_ok ⟨by omega, by omega⟩ (by omega)]
 exact Int.ediv_nonneg (by omega) (by omega)
end Go.Proofs.YteolfhljhnplpaaGreatDoor
namespace Go.Proofs.YteolfhljhnplpaaGreatDoor
open Go.RowKit
set_option linter.unusedSimpArgs false
set_option maxHeartbeats 2000000 in
set_option maxRecDepth 100000 in
instance base_Element_ok   (g : S_api_Group) (label : (List UInt8)) (b : (List Int))  : CM En (base_Element g label b) 33 [.agg [.int .i64 g.P, .int .i64 g.Q, .int .i64 g.G], .str label, .sl none 1 false (b.map (V.int .u8))] (fun y => .tup [.int .i64 y.1, .int .i64 y.2]) (fun _ => []) := by
 refine cmQ fun r hM => ?_
 rw [base_Element.eq_1] at hM
 refine enterV En_ok En_mo noJ Tryz.func33 rfl Tryz.ntmps33 (by kernel_rfl) fun hw => ct_start ?_
 refine spQ ?_
 replace hw := nzQ hw
 have hM0 := hM; clear hM; obtain ⟨x1, hx2, hM⟩ := letk_opn hM0; clear hM0
 have hcx1 := cmU hx2
 refine callC_give hcx1 clQ clQ (fun hw3 => ?_)
 replace hw3 := nzQ hw3
 refine spQ ?_
 refine condC_intro (fun h4 => ?_) (fun h4 => ?_)
 ·rw [if_pos h4] at hM
  refine spQA h4 ?_
  have nh4 := nzQ h4
  try have hr5 := mpQ nh4
  subst hM
  exact retC_view (lfQA h4)
 ·rw [if_neg (ne_true h4)] at hM
  refine spQA h4 ?_
  have nh4 := nzQ h4
  try have hr6 := mpQ nh4
  refine guardC_f (fun h7 => ?_) (fun h7 => ?_)
  ·rw [if_neg (ne_true h7)] at hM
   refine spQA h7 ?_
   have nh7 := nzQ h7
   try have hr8 := mpQ nh7
   refine guardC_f (fun h9 => ?_) (fun h9 => ?_)
   ·rw [if_neg (ne_true h9)] at hM
    refine spQA h9 ?_
    have nh9 := nzQ h9
    try have hr10 := mpQ nh9
    refine condC_intro (fun h11 => ?_) (fun h11 => ?_)
    ·rw [if_pos h11] at hM
     refine spQA h11 ?_
     have nh11 := nzQ h11
     try have hr12 := mpQ nh11
     subst hM
     exact retC_view (lfQA (And.intro h4 (And.intro h7 (And.intro h9 h11))))
    ·rw [if_neg (ne_true h11)] at hM
     refine spQA h11 ?_
     have nh11 := nzQ h11
     try have hr13 := mpQ nh11
     have hM0 := hM; clear hM; obtain ⟨x14, hx15, hM⟩ := letk_opn hM0; clear hM0
     have hcx14 := cmH hx15 (base_element_ok  g label b (by (first | omega | (have h9 := gvalid_pos ‹_ = group_Valid _› (by assumption); omega))) (by (first | omega | (have h9 := gvalid_pos ‹_ = group_Valid _› (by assumption); omega))) (by (first | omega | (have h9 := gvalid_pos ‹_ = group_Valid _› (by assumption); omega))))
     refine callC_give hcx14 clQ clQ (fun hw16 => ?_)
     replace hw16 := nzQ hw16
     refine spQ ?_
     have hF := (And.intro h4 (And.intro h7 (And.intro h9 h11)))
     exact auQ
   ·rw [if_pos h9] at hM
    refine spQA h9 ?_
    have nh9 := nzQ h9
    try have hr20 := mpQ nh9
    subst hM
    exact retC_view (lfQA (And.intro h4 (And.intro h7 h9)))
  ·rw [if_pos h7] at hM
   refine spQA h7 ?_
   have nh7 := nzQ h7
   try have hr21 := mpQ nh7
   subst hM
   exact retC_view (lfQA (And.intro h4 h7))
set_option maxHeartbeats 2000000 in
set_option maxRecDepth 100000 in
theorem specieref01_Mul_ok   (a_ : Int) (b : Int) (m : Int) (hp0 : 0 ≤ a_) (hp1 : a_ < m) (hp2 : 0 ≤ b) (hp3 : m < 2305843009213693952) : CM En (specieref01_Mul a_ b m) 82 [.int .i64 a_, .int .i64 b, .int .i64 m] (fun y => .int .i64 y) (fun _ => []) := by
 refine cmQ fun r hM => ?_
 rw [specieref01_Mul.eq_1] at hM
 refine enterV En_ok En_mo noJ Tryz.func82 rfl Tryz.ntmps82 (by kernel_rfl) fun hw => ct_start ?_
 refine spQ ?_
 replace hw := nzQ hw
 refine guardC_t (fun h1 => ?_) (fun h1 => ?_)
 ·rw [if_pos h1] at hM
  refine spQA h1 ?_
  have nh1 := nzQ h1
  try have hr2 := mpQ nh1
  refine condC_intro (fun h3 => ?_) (fun h3 => ?_)
  ·rw [if_pos h3] at hM
   refine spQA h3 ?_
   have nh3 := nzQ h3
   try have hr4 := mpQ nh3
   have hF := (And.intro h1 h3)
   exact auQ
  ·rw [if_neg (ne_true h3)] at hM
   refine spQA h3 ?_
   have nh3 := nzQ h3
   try have hr5 := mpQ nh3
   have hM0 := hM; clear hM; obtain ⟨f6, d6, hf6, hd6, hM⟩ := iter_opn hM0; clear hM0
   refine ct_loop (fun n S => ∃ p : Int × Int × Int, S = (⟨[(0, .int .i64 p.1), (1, .int .i64 p.2.1), (2, .int .i64 m), (7, .int .i64 p.2.2)], [], 0⟩ : St) ∧ ((0 ≤ p.1 ∧ p.1 < m ∧ 0 ≤ p.2.1 ∧ p.2.1 ≤ b ∧ 0 ≤ p.2.2 ∧ p.2.2 < m)) ∧ p.2.1.toNat < n ∧ iter n f6 d6 p = r) (b.toNat + 1) _ sbQ sbQ ⟨(a_, b, 0), rfl, by ((try dsimp only); omega), (Nat.lt_succ_self _), hM⟩ ?_
   clear hM
   rintro n6 S ⟨p6, rfl, hF4_0, hm6, hM⟩
   have hM0 := hM; clear hM; obtain ⟨ag6, hag6, hM⟩ := iter_step hM0 (by omega) hf6; clear hM0
   replace hm6 := nzQ hm6
   refine spQ ?_
   refine condC_intro (fun h7 => ?_) (fun h7 => ?_)
   ·rw [if_pos h7] at hM
    refine spQA h7 ?_
    have nh7 := nzQ h7
    try have hr8 := mpQ nh7
    have ha9 : remI .i64 p6.2.1 2 = (p6.2.1 % 2) := rem_ok omQ omQ
    try simp only [ha9]
    refine bindC_intro omQ ?_
    refine spQA ha9 ?_
    refine condC_intro (fun h10 => ?_) (fun h10 => ?_)
    ·rw [if_pos h10] at hM
     refine spQA (And.intro ha9 h10) ?_
     have nh10 := nzQ h10
     try have hr11 := mpQ nh10
     have ha12 : addI .i64 p6.2.2 p6.1 = (p6.2.2 + p6.1) := add_ok omQ omQ
     try simp only [ha12]
     refine bindC_intro omQ ?_
     refine spQA (And.intro ha9 ha12) ?_
     have ha13 : addI .i64 p6.1 p6.1 = (p6.1 + p6.1) := add_ok omQ omQ
     try simp only [ha13]
     refine bindC_intro omQ ?_
     refine spQA (And.intro ha9 (And.intro ha12 ha13)) ?_
     have ha14 : quoI .i64 p6.2.1 2 = (p6.2.1 / 2) := quo_ok omQ omQ
     try simp only [ha14]
     refine bindC_intro omQ ?_
     refine spQA (And.intro ha9 (And.intro ha12 (And.intro ha13 ha14))) ?_
     refine lp_intro (n6 - 1) _ (by omega) sbQ sbQ ⟨((remI .i64 (p6.1 + p6.1) m), (p6.2.1 / 2), (remI .i64 (p6.2.2 + p6.1) m)), rfl, by (clear hM; have h9 := rem_rngN (a := p6.1 + p6.1) (m := m) (by omega) (by omega); have h8 := rem_rngN (a := p6.2.2 + p6.1) (m := m) (by omega) (by omega); (try dsimp only); omega), omQ, iter_again hM hag6⟩
    ·rw [if_neg (ne_true h10)] at hM
     refine spQA (And.intro ha9 h10) ?_
     have nh10 := nzQ h10
     try have hr15 := mpQ nh10
     have ha16 : addI .i64 p6.1 p6.1 = (p6.1 + p6.1) := add_ok omQ omQ
     try simp only [ha16]
     refine bindC_intro omQ ?_
     refine spQA (And.intro ha9 ha16) ?_
     have ha17 : quoI .i64 p6.2.1 2 = (p6.2.1 / 2) := quo_ok omQ omQ
     try simp only [ha17]
     refine bindC_intro omQ ?_
     refine spQA (And.intro ha9 (And.intro ha16 ha17)) ?_
     refine lp_intro (n6 - 1) _ (by omega) sbQ sbQ ⟨((remI .i64 (p6.1 + p6.1) m), (p6.2.1 / 2), p6.2.2), rfl, by (clear hM; have h9 := rem_rngN (a := p6.1 + p6.1) (m := m) (by omega) (by omega); have h8 := rem_rngN (a := p6.2.2 + p6.1) (m := m) (by omega) (by omega); (try dsimp only); omega), omQ, iter_again hM hag6⟩
   ·rw [if_neg (ne_true h7)] at hM
    refine spQA h7 ?_
    have nh7 := nzQ h7
    try have hr18 := mpQ nh7
    subst hM
    exact retC_view (lfQA (And.intro h1 (And.intro h3 h7)))
 ·rw [if_neg (ne_true h1)] at hM
  refine spQA h1 ?_
  have nh1 := nzQ h1
  try have hr19 := mpQ nh1
  have hM0 := hM; clear hM; obtain ⟨f20, d20, hf20, hd20, hM⟩ := iter_opn hM0; clear hM0
  refine ct_loop (fun n S => ∃ p : Int × Int × Int, S = (⟨[(0, .int .i64 p.1), (1, .int .i64 p.2.1), (2, .int .i64 m), (7, .int .i64 p.2.2)], [], 0⟩ : St) ∧ ((0 ≤ p.1 ∧ p.1 < m ∧ 0 ≤ p.2.1 ∧ p.2.1 ≤ b ∧ 0 ≤ p.2.2 ∧ p.2.2 < m)) ∧ p.2.1.toNat < n ∧ iter n f20 d20 p = r) (b.toNat + 1) _ sbQ sbQ ⟨(a_, b, 0), rfl, by ((try dsimp only); omega), (Nat.lt_succ_self _), hM⟩ ?_
  clear hM
  rintro n20 S ⟨p20, rfl, hF4_0, hm20, hM⟩
  have hM0 := hM; clear hM; obtain ⟨ag20, hag20, hM⟩ := iter_step hM0 (by omega) hf20; clear hM0
  replace hm20 := nzQ hm20
  refine spQ ?_
  refine condC_intro (fun h21 => ?_) (fun h21 => ?_)
  ·rw [if_pos h21] at hM
   refine spQA h21 ?_
   have nh21 := nzQ h21
   try have hr22 := mpQ nh21
   have ha23 : remI .i64 p20.2.1 2 = (p20.2.1 % 2) := rem_ok omQ omQ
   try simp only [ha23]
   refine bindC_intro omQ ?_
   refine spQA ha23 ?_
   refine condC_intro (fun h24 => ?_) (fun h24 => ?_)
   ·rw [if_pos h24] at hM
    refine spQA (And.intro ha23 h24) ?_
    have nh24 := nzQ h24
    try have hr25 := mpQ nh24
    have ha26 : addI .i64 p20.2.2 p20.1 = (p20.2.2 + p20.1) := add_ok omQ omQ
    try simp only [ha26]
    refine bindC_intro omQ ?_
    refine spQA (And.intro ha23 ha26) ?_
    have ha27 : addI .i64 p20.1 p20.1 = (p20.1 + p20.1) := add_ok omQ omQ
    try simp only [ha27]
    refine bindC_intro omQ ?_
    refine spQA (And.intro ha23 (And.intro ha26 ha27)) ?_
    have ha28 : quoI .i64 p20.2.1 2 = (p20.2.1 / 2) := quo_ok omQ omQ
    try simp only [ha28]
    refine bindC_intro omQ ?_
    refine spQA (And.intro ha23 (And.intro ha26 (And.intro ha27 ha28))) ?_
    refine lp_intro (n20 - 1) _ (by omega) sbQ sbQ ⟨((remI .i64 (p20.1 + p20.1) m), (p20.2.1 / 2), (remI .i64 (p20.2.2 + p20.1) m)), rfl, by (clear hM; have h9 := rem_rngN (a := p20.1 + p20.1) (m := m) (by omega) (by omega); have h8 := rem_rngN (a := p20.2.2 + p20.1) (m := m) (by omega) (by omega); (try dsimp only); omega), omQ, iter_again hM hag20⟩
   ·rw [if_neg (ne_true h24)] at hM
    refine spQA (And.intro ha23 h24) ?_
    have nh24 := nzQ h24
    try have hr29 := mpQ nh24
    have ha30 : addI .i64 p20.1 p20.1 = (p20.1 + p20.1) := add_ok omQ omQ
    try simp only [ha30]
    refine bindC_intro omQ ?_
    refine spQA (And.intro ha23 ha30) ?_
    have ha31 : quoI .i64 p20.2.1 2 = (p20.2.1 / 2) := quo_ok omQ omQ
    try simp only [ha31]
    refine bindC_intro omQ ?_
    refine spQA (And.intro ha23 (And.intro ha30 ha31)) ?_
    refine lp_intro (n20 - 1) _ (by omega) sbQ sbQ ⟨((remI .i64 (p20.1 + p20.1) m), (p20.2.1 / 2), p20.2.2), rfl, by (clear hM; have h9 := rem_rngN (a := p20.1 + p20.1) (m := m) (by omega) (by omega); have h8 := rem_rngN (a := p20.2.2 + p20.1) (m := m) (by omega) (by omega); (try dsimp only); omega), omQ, iter_again hM hag20⟩
  ·rw [if_neg (ne_true h21)] at hM
   refine spQA h21 ?_
   have nh21 := nzQ h21
   try have hr32 := mpQ nh21
   subst hM
   exact retC_view (lfQA (And.intro h1 h21))
set_option maxHeartbeats 2000000 in
set_option maxRecDepth 100000 in
theorem specieref01_Pow_ok   (a_ : Int) (e_ : Int) (m : Int) (hp0 : 0 ≤ a_) (hp1 : a_ < m) (hp2 : 0 ≤ e_) (hp3 : m < 2305843009213693952) : CM En (specieref01_Pow a_ e_ m) 52 [.int .i64 a_, .int .i64 e_, .int .i64 m] (fun y => .int .i64 y) (fun _ => []) := by
 refine cmQ fun r hM => ?_
 rw [specieref01_Pow.eq_1] at hM
 refine enterV En_ok En_mo noJ Tryz.func52 rfl Tryz.ntmps52 (by kernel_rfl) fun hw => ct_start ?_
 refine spQ ?_
 replace hw := nzQ hw
 have h0_0 := rem1_rng (m := m) (by omega)
 refine bindC_intro omQ ?_
 refine spQ ?_
 have hM0 := hM; clear hM; obtain ⟨f1, d1, hf1, hd1, hM⟩ := iter_opn hM0; clear hM0
 refine ct_loop (fun n S => ∃ p : Int × Int × Int, S = (⟨[(0, .int .i64 p.1), (1, .int .i64 p.2.1), (2, .int .i64 m), (7, .int .i64 p.2.2)], [], 0⟩ : St) ∧ ((0 ≤ p.1) ∧ (p.1 < m) ∧ (0 ≤ p.2.1) ∧ (p.2.1 ≤ e_) ∧ (0 ≤ p.2.2) ∧ (p.2.2 < m)) ∧ p.2.1.toNat < n ∧ iter n f1 d1 p = r) (e_.toNat + 1) _ sbQ sbQ ⟨(a_, e_, (remI .i64 1 m)), rfl, ⟨omQ, omQ, omQ, omQ, omQ, omQ⟩, (Nat.lt_succ_self _), hM⟩ ?_
 clear hM
 rintro n1 S ⟨p1, rfl, hfa1, hm1, hM⟩
 have hM0 := hM; clear hM; obtain ⟨ag1, hag1, hM⟩ := iter_step hM0 (by omega) hf1; clear hM0
 replace hfa1 := nzQ hfa1
 replace hm1 := nzQ hm1
 refine spQ ?_
 refine condC_intro (fun h2 => ?_) (fun h2 => ?_)
 ·rw [if_pos h2] at hM
  refine spQA h2 ?_
  have nh2 := nzQ h2
  try have hr3 := mpQ nh2
  have ha4 : remI .i64 p1.2.1 2 = (p1.2.1 % 2) := rem_ok omQ omQ
  try simp only [ha4]
  refine bindC_intro omQ ?_
  refine spQA ha4 ?_
  refine condC_intro (fun h5 => ?_) (fun h5 => ?_)
  ·rw [if_pos h5] at hM
   refine spQA (And.intro ha4 h5) ?_
   have nh5 := nzQ h5
   try have hr6 := mpQ nh5
   have hM0 := hM; clear hM; obtain ⟨x7, hx8, hM⟩ := letk_opn hM0; clear hM0
   have hcx7 := cmH hx8 (specieref01_Mul_ok  (p1.2.2) (p1.1) m (by (exact pfQ)) (by (exact pfQ)) (by (exact pfQ)) (by (exact pfQ)))
   refine callC_give hcx7 (clQA ha4) (clQA ha4) (fun hw9 => ?_)
   replace hw9 := nzQ hw9
   refine spQA ha4 ?_
   have hq10 := rmul_rng hx8 (by omega) (by omega) (by omega)
   replace hq10 := nzQ hq10
   have hM0 := hM; clear hM; obtain ⟨x11, hx12, hM⟩ := letk_opn hM0; clear hM0
   have hcx11 := cmH hx12 (specieref01_Mul_ok  (p1.1) (p1.1) m (by (exact pfQ)) (by (exact pfQ)) (by (exact pfQ)) (by (exact pfQ)))
   refine callC_give hcx11 (clQA ha4) (clQA ha4) (fun hw13 => ?_)
   replace hw13 := nzQ hw13
   refine spQA ha4 ?_
   have hq14 := rmul_rng hx12 (by omega) (by omega) (by omega)
   replace hq14 := nzQ hq14
   have ha15 : quoI .i64 p1.2.1 2 = (p1.2.1 / 2) := quo_ok omQ omQ
   try simp only [ha15]
   have hF := (And.intro h2 (And.intro ha4 (And.intro h5 ha15)))
   exact auQ
  ·rw [if_neg (ne_true h5)] at hM
   refine spQA (And.intro ha4 h5) ?_
   have nh5 := nzQ h5
   try have hr16 := mpQ nh5
   have hM0 := hM; clear hM; obtain ⟨x17, hx18, hM⟩ := letk_opn hM0; clear hM0
   have hcx17 := cmH hx18 (specieref01_Mul_ok  (p1.1) (p1.1) m (by (exact pfQ)) (by (exact pfQ)) (by (exact pfQ)) (by (exact pfQ)))
   refine callC_give hcx17 (clQA ha4) (clQA ha4) (fun hw19 => ?_)
   replace hw19 := nzQ hw19
   refine spQA ha4 ?_
   have hq20 := rmul_rng hx18 (by omega) (by omega) (by omega)
   replace hq20 := nzQ hq20
   have ha21 : quoI .i64 p1.2.1 2 = (p1.2.1 / 2) := quo_ok omQ omQ
   try simp only [ha21]
   have hF := (And.intro h2 (And.intro ha4 (And.intro h5 ha21)))
   exact auQ
 ·rw [if_neg (ne_true h2)] at hM
  refine spQA h2 ?_
  have nh2 := nzQ h2
  try have hr22 := mpQ nh2
  subst hM
  exact retC_view (lfQA h2)
set_option maxHeartbeats 2000000 in
set_option maxRecDepth 100000 in
theorem specieref05_strong_ok   (n_ : Int) (a_ : Int) (hp0 : 0 ≤ a_) (hp1 : a_ < n_) (hp2 : 1 < n_) (hp3 : n_ < 2305843009213693952) : CM En (specieref05_strong n_ a_) 109 [.int .i64 n_, .int .i64 a_] (fun y => .bool y) (fun _ => []) := by
 refine cmQ fun r hM => ?_
 rw [specieref05_strong.eq_1] at hM
 refine enterV En_ok En_mo noJ Tryz.func109 rfl Tryz.ntmps109 (by kernel_rfl) fun hw => ct_start ?_
 refine spQ ?_
 replace hw := nzQ hw
 have ha1 : subI .i64 n_ 1 = (n_ - 1) := sub_ok omQ omQ
 try simp only [ha1]
 have hM0 := hM; clear hM; obtain ⟨f2, d2, hf2, hd2, hM⟩ := iter_opn hM0; clear hM0
 refine ct_loop (fun n S => ∃ p : Int × Int, S = (⟨[(0, .int .i64 n_), (1, .int .i64 a_), (5, .int .i64 p.1), (6, .int .i64 p.2)], [], 0⟩ : St) ∧ ((1 ≤ p.1) ∧ (p.1 < n_) ∧ (0 ≤ p.2) ∧ (p.2 + p.1 ≤ n_)) ∧ p.1.toNat < n ∧ iter n f2 d2 p = r) ((n_ - 1).toNat + 1) _ sbQ sbQ ⟨((n_ - 1), 0), rfl, ⟨omQ, omQ, omQ, omQ⟩, (Nat.lt_succ_self _), hM⟩ ?_
 clear hM
 rintro n2 S ⟨p2, rfl, hfa2, hm2, hM⟩
 have hM0 := hM; clear hM; obtain ⟨ag2, hag2, hM⟩ := iter_step hM0 (by omega) hf2; clear hM0
 replace hfa2 := nzQ hfa2
 replace hm2 := nzQ hm2
 refine spQA ha1 ?_
 have ha3 : remI .i64 p2.1 2 = (p2.1 % 2) := rem_ok omQ omQ
 try simp only [ha3]
 refine bindC_intro omQ ?_
 refine spQA (And.intro ha1 ha3) ?_
 refine condC_intro (fun h4 => ?_) (fun h4 => ?_)
 ·rw [if_pos h4] at hM
  refine spQA (And.intro ha1 (And.intro ha3 h4)) ?_
  have nh4 := nzQ h4
  try have hr5 := mpQ nh4
  have ha6 : quoI .i64 p2.1 2 = (p2.1 / 2) := quo_ok omQ omQ
  try simp only [ha6]
  refine bindC_intro omQ ?_
  refine spQA (And.intro ha1 (And.intro ha3 ha6)) ?_
  have ha7 : addI .i64 p2.2 1 = (p2.2 + 1) := add_ok omQ omQ
  try simp only [ha7]
  refine lp_intro (n2 - 1) _ (by omega) sbQ sbQ ⟨((p2.1 / 2), (p2.2 + 1)), rfl, ⟨omQ, omQ, omQ, omQ⟩, omQ, iter_again hM hag2⟩
 ·rw [if_neg (ne_true h4)] at hM
  refine spQA (And.intro ha1 (And.intro ha3 h4)) ?_
  have nh4 := nzQ h4
  try have hr8 := mpQ nh4
  have hM0 := hM; clear hM; obtain ⟨x9, hx10, hM⟩ := letk_opn hM0; clear hM0
  have hcx9 := cmH hx10 (specieref01_Pow_ok  a_ (p2.1) n_ (by (exact pfQ)) (by (exact pfQ)) (by (exact pfQ)) (by (exact pfQ)))
  refine callC_give hcx9 (clQA (And.intro ha1 ha3)) (clQA (And.intro ha1 ha3)) (fun hw11 => ?_)
  replace hw11 := nzQ hw11
  refine spQA (And.intro ha1 ha3) ?_
  have hq12 := rpow_rng hx10 (by omega) (by omega)
  replace hq12 := nzQ hq12
  refine guardC_f (fun h13 => ?_) (fun h13 => ?_)
  ·rw [if_neg (ne_true h13)] at hM
   refine spQA (And.intro ha1 (And.intro ha3 h13)) ?_
   have nh13 := nzQ h13
   try have hr14 := mpQ nh13
   refine condC_intro (fun h16 => ?_) (fun h16 => ?_)
   ·rw [if_pos h16] at hM
    refine spQA (And.intro ha1 (And.intro ha3 h16)) ?_
    have nh16 := nzQ h16
    try have hr17 := mpQ nh16
    subst hM
    exact retC_view (lfQA (And.intro ha1 (And.intro ha3 (And.intro h4 (And.intro h13 h16)))))
   ·rw [if_neg (ne_true h16)] at hM
    refine spQA (And.intro ha1 (And.intro ha3 h16)) ?_
    have nh16 := nzQ h16
    try have hr18 := mpQ nh16
    have hM0 := hM; clear hM; obtain ⟨f19, d19, hf19, hd19, hM⟩ := iter_opn hM0; clear hM0
    refine ct_loop (fun n S => ∃ p : Int × Int, S = (⟨[(0, .int .i64 n_), (6, .int .i64 p2.2), (7, .int .i64 p.1), (8, .int .i64 p.2)], [], 0⟩ : St) ∧ ((1 ≤ p.2) ∧ (p.2 ≤ p2.2 ∨ p.2 ≤ 1) ∧ (0 ≤ p.1) ∧ (p.1 < n_)) ∧ (p2.2 - p.2).toNat < n ∧ iter n f19 d19 p = r) ((p2.2 - 1).toNat + 1) _ sbQ sbQ ⟨(x9, 1), rfl, ⟨omQ, omQ, omQ, omQ⟩, (Nat.lt_succ_self _), hM⟩ ?_
    clear hM
    rintro n19 S ⟨p19, rfl, hfa19, hm19, hM⟩
    have hM0 := hM; clear hM; obtain ⟨ag19, hag19, hM⟩ := iter_step hM0 (by omega) hf19; clear hM0
    replace hfa19 := nzQ hfa19
    replace hm19 := nzQ hm19
    have ha19 : addI .i64 p19.2 1 = p19.2 + 1 := add_one omQ omQ
    refine spQA (And.intro ha1 (And.intro ha3 ha19)) ?_
    refine condC_intro (fun h20 => ?_) (fun h20 => ?_)
    ·rw [if_pos h20] at hM
     refine spQA (And.intro ha1 (And.intro ha3 (And.intro ha19 h20))) ?_
     have nh20 := nzQ h20
     try have hr21 := mpQ nh20
     have hM0 := hM; clear hM; obtain ⟨x22, hx23, hM⟩ := letk_opn hM0; clear hM0
     have hcx22 := cmH hx23 (specieref01_Mul_ok  (p19.1) (p19.1) n_ (by (exact pfQ)) (by (exact pfQ)) (by (exact pfQ)) (by (exact pfQ)))
     refine callC_give hcx22 (clQA (And.intro ha1 (And.intro ha3 ha19))) (clQA (And.intro ha1 (And.intro ha3 ha19))) (fun hw24 => ?_)
     replace hw24 := nzQ hw24
     refine spQA (And.intro ha1 (And.intro ha3 ha19)) ?_
     have hq25 := rmul_rng hx23 (by omega) (by omega) (by omega)
     replace hq25 := nzQ hq25
     have hF := (And.intro ha1 (And.intro ha3 (And.intro h4 (And.intro h13 (And.intro h16 (And.intro ha19 h20))))))
     exact auQ
    ·rw [if_neg (ne_true h20)] at hM
     refine spQA (And.intro ha1 (And.intro ha3 (And.intro ha19 h20))) ?_
     have nh20 := nzQ h20
     try have hr30 := mpQ nh20
     subst hM
     exact retC_view (lfQA (And.intro ha1 (And.intro ha3 (And.intro ha19 (And.intro h4 (And.intro h13 (And.intro h16 h20)))))))
  ·rw [if_pos h13] at hM
   refine spQA (And.intro ha1 (And.intro ha3 h13)) ?_
   have nh13 := nzQ h13
   try have hr31 := mpQ nh13
   subst hM
   exact retC_view (lfQA (And.intro ha1 (And.intro ha3 (And.intro h4 h13))))
set_option maxHeartbeats 2000000 in
set_option maxRecDepth 100000 in
theorem specieref05_Is_ok   (n_ : Int) (hp0 : n_ < 2305843009213693952) : CM En (specieref05_Is n_) 69 [.int .i64 n_] (fun y => .bool y) (fun _ => []) := by
 refine cmQ fun r hM => ?_
 rw [specieref05_Is.eq_1] at hM
 refine enterV En_ok En_mo noJ Tryz.func69 rfl Tryz.ntmps69 (by kernel_rfl) fun hw => ct_start ?_
 refine spQ ?_
 replace hw := nzQ hw
 refine condC_intro (fun h1 => ?_) (fun h1 => ?_)
 ·rw [if_pos h1] at hM
  refine spQA h1 ?_
  have nh1 := nzQ h1
  try have hr2 := mpQ nh1
  subst hM
  exact retC_view (lfQA h1)
 ·rw [if_neg (ne_true h1)] at hM
  refine spQA h1 ?_
  have nh1 := nzQ h1
  try have hr3 := mpQ nh1
  have hM0 := hM; clear hM; obtain ⟨f4, d4, hf4, hd4, hM⟩ := iter_opn hM0; clear hM0
  refine ct_loop (fun n S => ∃ p : Int, S = (⟨[(0, .int .i64 n_), (3, .own 0), (4, .int .i64 p)], [(0, .own 3 1 false (some false) (([2, 3, 5, 7, 11, 13, 17, 19, 23, 29, 31, 37] : List Int).map (V.int .i64)))], 1⟩ : St) ∧ (((0 ≤ p) ∧ (p ≤ (12 : Int))) ∧ (NoDiv n_ p)) ∧ ((12 : Int) - p).toNat < n ∧ iter n f4 d4 p = r) (((12 : Int) - 0).toNat + 1) _ sbQ sbQ ⟨0, rfl, ⟨⟨by (first | exact omQ | (clear hM; first | (have hk := base_rng (j := p4) (by omega) (by omega); exact omQ'))), by (first | exact omQ | (clear hM; first | (have hk := base_rng (j := p4) (by omega) (by omega); exact omQ')))⟩, by (exact NoDiv_zero)⟩, (Nat.lt_succ_self _), hM⟩ ?_
  clear hM
  rintro n4 S ⟨p4, rfl, ⟨hfa4, hF5_0⟩, hm4, hM⟩
  have hM0 := hM; clear hM; obtain ⟨ag4, hag4, hM⟩ := iter_step hM0 (by omega) hf4; clear hM0
  replace hfa4 := nzQ hfa4
  replace hm4 := nzQ hm4
  have ha4 : addI .i64 p4 1 = p4 + 1 := add_one (by (first | exact omQ | (clear hM; first | (have hk := base_rng (j := p4) (by omega) (by omega); exact omQ')))) (by (first | exact omQ | (clear hM; first | (have hk := base_rng (j := p4) (by omega) (by omega); exact omQ'))))
  refine spQA ha4 ?_
  refine condC_intro (fun h5 => ?_) (fun h5 => ?_)
  ·rw [if_pos h5] at hM
   refine spQA (And.intro ha4 h5) ?_
   have nh5 := nzQ h5
   try have hr6 := mpQ nh5
   refine bindC_intro (by (first | exact omQ | (clear hM; first | (have hk := base_rng (j := p4) (by omega) (by omega); exact omQ')))) ?_
   have he7 := fun d => elt_mp (l := ([2, 3, 5, 7, 11, 13, 17, 19, 23, 29, 31, 37] : List Int)) (f := (V.int .i64)) (i := p4) (by (first | exact omQ | (clear hM; first | (have hk := base_rng (j := p4) (by omega) (by omega); exact omQ')))) d
   refine spQA (And.intro ha4 he7) ?_
   refine bindC_intro (by (first | exact omQ | (clear hM; first | (have hk := base_rng (j := p4) (by omega) (by omega); exact omQ')))) ?_
   refine spQA (And.intro ha4 he7) ?_
   refine bindC_intro (by (first | exact omQ | (clear hM; first | (have hk := base_rng (j := p4) (by omega) (by omega); exact omQ')))) ?_
   refine spQA (And.intro ha4 he7) ?_
   refine condC_intro (fun h8 => ?_) (fun h8 => ?_)
   ·rw [if_pos h8] at hM
    refine spQA (And.intro ha4 (And.intro he7 h8)) ?_
    have nh8 := nzQ h8
    try have hr9 := mpQ nh8
    refine bindC_intro (by (first | exact omQ | (clear hM; first | (have hk := base_rng (j := p4) (by omega) (by omega); exact omQ')))) ?_
    refine spQA (And.intro ha4 he7) ?_
    refine bindC_intro (by (first | exact omQ | (clear hM; first | (have hk := base_rng (j := p4) (by omega) (by omega); exact omQ')))) ?_
    refine spQA (And.intro ha4 he7) ?_
    subst hM
    exact retC_view (lfQA (And.intro ha4 (And.intro he7 (And.intro h1 (And.intro h5 h8)))))
   ·rw [if_neg (ne_true h8)] at hM
    refine spQA (And.intro ha4 (And.intro he7 h8)) ?_
    have nh8 := nzQ h8
    try have hr10 := mpQ nh8
    refine lp_intro (n4 - 1) _ (by omega) sbQ sbQ ⟨(p4 + 1), rfl, ⟨⟨by (first | exact omQ | (clear hM; first | (have hk := base_rng (j := (p4 + 1)) (by omega) (by omega); exact omQ'))), by (first | exact omQ | (clear hM; first | (have hk := base_rng (j := (p4 + 1)) (by omega) (by omega); exact omQ')))⟩, by (clear hM; exact NoDiv_stepR hF5_0 (by omega) (by omega) (by omega) (by assumption))⟩, by (first | exact omQ | (clear hM; first | (have hk := base_rng (j := (p4 + 1)) (by omega) (by omega); exact omQ'))), iter_again hM hag4⟩
  ·rw [if_neg (ne_true h5)] at hM
   refine spQA (And.intro ha4 h5) ?_
   have nh5 := nzQ h5
   try have hr11 := mpQ nh5
   refine condC_intro (fun h12 => ?_) (fun h12 => ?_)
   ·rw [if_pos h12] at hM
    refine spQA (And.intro ha4 h12) ?_
    have nh12 := nzQ h12
    try have hr13 := mpQ nh12
    exact False.elim (by (clear hM; omega))
   ·rw [if_neg (ne_true h12)] at hM
    refine spQA (And.intro ha4 h12) ?_
    have nh12 := nzQ h12
    try have hr14 := mpQ nh12
    have hM0 := hM; clear hM; obtain ⟨f15, d15, hf15, hd15, hM⟩ := iter_opn hM0; clear hM0
    refine ct_loop (fun n S => ∃ p : Int, S = (⟨[(0, .int .i64 n_), (3, .own 0), (5, .int .i64 p)], [(0, .own 3 1 false (some false) (([2, 3, 5, 7, 11, 13, 17, 19, 23, 29, 31, 37] : List Int).map (V.int .i64)))], 1⟩ : St) ∧ (((0 ≤ p) ∧ (p ≤ (12 : Int))) ∧ (37 < n_)) ∧ ((12 : Int) - p).toNat < n ∧ iter n f15 d15 p = r) (((12 : Int) - 0).toNat + 1) _ sbQ sbQ ⟨0, rfl, ⟨⟨by (first | exact omQ | (clear hM; first | (have hk := base_rng (j := p15) (by omega) (by omega); exact omQ'))), by (first | exact omQ | (clear hM; first | (have hk := base_rng (j := p15) (by omega) (by omega); exact omQ')))⟩, by (clear hM; exact NoDiv_all hF5_0 (by omega) (by omega))⟩, (Nat.lt_succ_self _), hM⟩ ?_
    clear hM
    rintro n15 S ⟨p15, rfl, ⟨hfa15, hF12_0⟩, hm15, hM⟩
    have hM0 := hM; clear hM; obtain ⟨ag15, hag15, hM⟩ := iter_step hM0 (by omega) hf15; clear hM0
    replace hfa15 := nzQ hfa15
    replace hm15 := nzQ hm15
    have ha15 : addI .i64 p15 1 = p15 + 1 := add_one (by (first | exact omQ | (clear hM; first | (have hk := base_rng (j := p15) (by omega) (by omega); exact omQ')))) (by (first | exact omQ | (clear hM; first | (have hk := base_rng (j := p15) (by omega) (by omega); exact omQ'))))
    refine spQA (And.intro ha4 ha15) ?_
    refine condC_intro (fun h16 => ?_) (fun h16 => ?_)
    ·rw [if_pos h16] at hM
     refine spQA (And.intro ha4 (And.intro ha15 h16)) ?_
     have nh16 := nzQ h16
     try have hr17 := mpQ nh16
     refine bindC_intro (by (first | exact omQ | (clear hM; first | (have hk := base_rng (j := p15) (by omega) (by omega); exact omQ')))) ?_
     have he18 := fun d => elt_mp (l := ([2, 3, 5, 7, 11, 13, 17, 19, 23, 29, 31, 37] : List Int)) (f := (V.int .i64)) (i := p15) (by (first | exact omQ | (clear hM; first | (have hk := base_rng (j := p15) (by omega) (by omega); exact omQ')))) d
     refine spQA (And.intro ha4 (And.intro ha15 he18)) ?_
     refine bindC_intro (by (first | exact omQ | (clear hM; first | (have hk := base_rng (j := p15) (by omega) (by omega); exact omQ')))) ?_
     refine spQA (And.intro ha4 (And.intro ha15 he18)) ?_
     have hM0 := hM; clear hM; obtain ⟨x19, hx20, hM⟩ := letk_opn hM0; clear hM0
     have hcx19 := cmH hx20 (specieref05_strong_ok  n_ (gt ([2, 3, 5, 7, 11, 13, 17, 19, 23, 29, 31, 37] : List Int) p15) (by (first | omega | (have hk := base_rng (j := p15) (by omega) (by omega); omega))) (by (first | omega | (have hk := base_rng (j := p15) (by omega) (by omega); omega))) (by (first | omega | (have hk := base_rng (j := p15) (by omega) (by omega); omega))) (by (first | omega | (have hk := base_rng (j := p15) (by omega) (by omega); omega))))
     refine callC_give hcx19 (clQA (And.intro ha4 (And.intro ha15 he18))) (clQA (And.intro ha4 (And.intro ha15 he18))) (fun hw21 => ?_)
     replace hw21 := nzQ hw21
     refine spQA (And.intro ha4 (And.intro ha15 he18)) ?_
     refine condC_intro (fun h22 => ?_) (fun h22 => ?_)
     ·rw [if_pos h22] at hM
      refine spQA (And.intro ha4 (And.intro ha15 (And.intro he18 h22))) ?_
      have nh22 := nzQ h22
      try have hr23 := mpQ nh22
      subst hM
      exact retC_view (lfQA (And.intro ha4 (And.intro ha15 (And.intro he18 (And.intro h1 (And.intro h5 (And.intro h12 (And.intro h16 h22))))))))
     ·rw [if_neg (ne_true h22)] at hM
      refine spQA (And.intro ha4 (And.intro ha15 (And.intro he18 h22))) ?_
      have nh22 := nzQ h22
      try have hr24 := mpQ nh22
      refine lp_intro (n15 - 1) _ (by omega) sbQ sbQ ⟨(p15 + 1), rfl, ⟨⟨by (first | exact omQ | (clear hM; first | (have hk := base_rng (j := (p15 + 1)) (by omega) (by omega); exact omQ'))), by (first | exact omQ | (clear hM; first | (have hk := base_rng (j := (p15 + 1)) (by omega) (by omega); exact omQ')))⟩, by (clear hM; exact hF12_0)⟩, by (first | exact omQ | (clear hM; first | (have hk := base_rng (j := (p15 + 1)) (by omega) (by omega); exact omQ'))), iter_again hM hag15⟩
    ·rw [if_neg (ne_true h16)] at hM
     refine spQA (And.intro ha4 (And.intro ha15 h16)) ?_
     have nh16 := nzQ h16
     try have hr25 := mpQ nh16
     subst hM
     exact retC_view (lfQA (And.intro ha4 (And.intro ha15 (And.intro h1 (And.intro h5 (And.intro h12 h16))))))
set_option maxHeartbeats 2000000 in
set_option maxRecDepth 100000 in
instance specieref10_Valid_ok   (g : S_api_Group)  : CM En (specieref10_Valid g) 34 [.agg [.int .i64 g.P, .int .i64 g.Q, .int .i64 g.G]] (fun y => .bool y) (fun _ => []) := by
 refine cmQ fun r hM => ?_
 rw [specieref10_Valid.eq_1] at hM
 refine enterV En_ok En_mo noJ Tryz.func34 rfl Tryz.ntmps34 (by kernel_rfl) fun hw => ct_start ?_
 refine spQ ?_
 replace hw := nzQ hw
 refine guardC_f (fun h1 => ?_) (fun h1 => ?_)
 ·rw [if_neg (ne_true h1)] at hM
  refine spQA h1 ?_
  have nh1 := nzQ h1
  try have hr2 := mpQ nh1
  refine guardC_f (fun h3 => ?_) (fun h3 => ?_)
  ·rw [if_neg (ne_true h3)] at hM
   refine spQA h3 ?_
   have nh3 := nzQ h3
   try have hr4 := mpQ nh3
   refine guardC_f (fun h5 => ?_) (fun h5 => ?_)
   ·rw [if_neg (ne_true h5)] at hM
    refine spQA h5 ?_
    have nh5 := nzQ h5
    try have hr6 := mpQ nh5
    refine bindC_intro omQ ?_
    refine spQ ?_
    refine guardC_f (fun h7 => ?_) (fun h7 => ?_)
    ·rw [if_neg (ne_true h7)] at hM
     refine spQA h7 ?_
     have nh7 := nzQ h7
     try have hr8 := mpQ nh7
     refine bindC_intro omQ ?_
     refine spQ ?_
     refine guardC_f (fun h9 => ?_) (fun h9 => ?_)
     ·rw [if_neg (ne_true h9)] at hM
      refine spQA h9 ?_
      have nh9 := nzQ h9
      try have hr10 := mpQ nh9
      refine guardC_f (fun h11 => ?_) (fun h11 => ?_)
      ·rw [if_neg (ne_true h11)] at hM
       refine spQA h11 ?_
       have nh11 := nzQ h11
       try have hr12 := mpQ nh11
       refine condC_intro (fun h13 => ?_) (fun h13 => ?_)
       ·rw [if_pos h13] at hM
        refine spQA h13 ?_
        have nh13 := nzQ h13
        try have hr14 := mpQ nh13
        subst hM
        exact retC_view (lfQA (And.intro h1 (And.intro h3 (And.intro h5 (And.intro h7 (And.intro h9 (And.intro h11 h13)))))))
       ·rw [if_neg (ne_true h13)] at hM
        refine spQA h13 ?_
        have nh13 := nzQ h13
        try have hr15 := mpQ nh13
        have hM0 := hM; clear hM; obtain ⟨x16, hx17, hM⟩ := letk_opn hM0; clear hM0
        have hcx16 := cmH hx17 (specieref05_Is_ok  (g.P) (by (first | omega | (refine q_le (p := g.P) ?_ ?_ ?_ ?_ <;> first | omega | assumption))))
        refine callC_give hcx16 clQ clQ (fun hw18 => ?_)
        replace hw18 := nzQ hw18
        refine spQ ?_
        refine guardC_t (fun h19 => ?_) (fun h19 => ?_)
        ·subst h19
         rw [if_pos rfl] at hM
         refine spQ ?_
         have hM0 := hM; clear hM; obtain ⟨x20, hx21, hM⟩ := letk_opn hM0; clear hM0
         have hcx20 := cmH hx21 (specieref05_Is_ok  (g.Q) (by (first | omega | (refine q_le (p := g.P) ?_ ?_ ?_ ?_ <;> first | omega | assumption))))
         refine callC_give hcx20 clQ clQ (fun hw22 => ?_)
         replace hw22 := nzQ hw22
         refine spQ ?_
         refine guardC_t (fun h23 => ?_) (fun h23 => ?_)
         ·subst h23
          rw [if_pos rfl] at hM
          refine spQ ?_
          have hM0 := hM; clear hM; obtain ⟨x24, hx25, hM⟩ := letk_opn hM0; clear hM0
          have hcx24 := cmH hx25 (specieref01_Pow_ok  (g.G) (g.Q) (g.P) (by (first | omega | assumption)) (by (first | omega | assumption)) (by (first | omega | assumption)) (by (first | omega | assumption)))
          refine callC_give hcx24 clQ clQ (fun hw26 => ?_)
          replace hw26 := nzQ hw26
          refine spQ ?_
          subst hM
          exact retC_view (lfQA (And.intro h1 (And.intro h3 (And.intro h5 (And.intro h7 (And.intro h9 (And.intro h11 h13)))))))
         ·subst h23
          rw [if_neg (by decide)] at hM
          refine spQ ?_
          subst hM
          exact retC_view (lfQA (And.intro h1 (And.intro h3 (And.intro h5 (And.intro h7 (And.intro h9 (And.intro h11 h13)))))))
        ·subst h19
         rw [if_neg (by decide)] at hM
         refine spQ ?_
         subst hM
         exact retC_view (lfQA (And.intro h1 (And.intro h3 (And.intro h5 (And.intro h7 (And.intro h9 (And.intro h11 h13)))))))
      ·rw [if_pos h11] at hM
       refine spQA h11 ?_
       have nh11 := nzQ h11
       try have hr27 := mpQ nh11
       subst hM
       exact retC_view (lfQA (And.intro h1 (And.intro h3 (And.intro h5 (And.intro h7 (And.intro h9 h11))))))
     ·rw [if_pos h9] at hM
      refine spQA h9 ?_
      have nh9 := nzQ h9
      try have hr28 := mpQ nh9
      subst hM
      exact retC_view (lfQA (And.intro h1 (And.intro h3 (And.intro h5 (And.intro h7 h9)))))
    ·rw [if_pos h7] at hM
     refine spQA h7 ?_
     have nh7 := nzQ h7
     try have hr29 := mpQ nh7
     subst hM
     exact retC_view (lfQA (And.intro h1 (And.intro h3 (And.intro h5 h7))))
   ·rw [if_pos h5] at hM
    refine spQA h5 ?_
    have nh5 := nzQ h5
    try have hr30 := mpQ nh5
    subst hM
    exact retC_view (lfQA (And.intro h1 (And.intro h3 h5)))
  ·rw [if_pos h3] at hM
   refine spQA h3 ?_
   have nh3 := nzQ h3
   try have hr31 := mpQ nh3
   subst hM
   exact retC_view (lfQA (And.intro h1 h3))
 ·rw [if_pos h1] at hM
  refine spQA h1 ?_
  have nh1 := nzQ h1
  try have hr32 := mpQ nh1
  subst hM
  exact retC_view (lfQA h1)
set_option maxHeartbeats 2000000 in
set_option maxRecDepth 100000 in
instance specieref11_integer_ok   (n_ : Int)  : CM En (specieref11_integer n_) 110 [.int .i64 n_] (fun y => .agg [.int .i64 y.Kind, .int .i64 y.N, .sl none 1 false (y.B.map (V.int .u8)), .sl none 4 true (y.L.map e_api_Item)]) (fun _ => []) := by
 refine cmQ fun r hM => ?_
 rw [specieref11_integer.eq_1] at hM
 refine enterV En_ok En_mo noJ Tryz.func110 rfl Tryz.ntmps110 (by kernel_rfl) fun hw => ct_start ?_
 refine spQ ?_
 replace hw := nzQ hw
 subst hM
 exact retC_view lfQ
set_option maxHeartbeats 2000000 in
set_option maxRecDepth 100000 in
instance specieref11_text_ok   (s : (List UInt8))  : CM En (specieref11_text s) 111 [.str s] (fun y => .agg [.int .i64 y.Kind, .int .i64 y.N, .sl none 1 false (y.B.map (V.int .u8)), .sl none 4 true (y.L.map e_api_Item)]) (fun _ => []) := by
 refine cmQ fun r hM => ?_
 rw [specieref11_text.eq_1] at hM
 refine enterV En_ok En_mo noJ Tryz.func111 rfl Tryz.ntmps111 (by kernel_rfl) fun hw => ct_start ?_
 refine spQ ?_
 replace hw := nzQ hw
 subst hM
 exact retC_view lfQ
set_option maxHeartbeats 2000000 in
set_option maxRecDepth 100000 in
theorem specieref07_number_ok   (n_ : Int) (size : Int) (hp0 : 0 ≤ size) (hp1 : size ≤ 8) : CM En (specieref07_number n_ size) 84 [.int .u64 n_, .int .i64 size] (fun y => .sl none 1 false (y.map (V.int .u8))) (fun _ => []) := by
 refine cmQ fun r hM => ?_
 rw [specieref07_number.eq_1] at hM
 refine enterV En_ok En_mo noJ Tryz.func84 rfl Tryz.ntmps84 (by kernel_rfl) fun hw => ct_start ?_
 refine spQ ?_
 replace hw := nzQ hw
 refine bindC_intro omQ ?_
 refine spQ ?_
 have ha1 : subI .i64 size 1 = (size - 1) := sub_ok omQ omQ
 try simp only [ha1]
 have hM0 := hM; clear hM; obtain ⟨f2, d2, hf2, hd2, hM⟩ := iter_opn hM0; clear hM0
 refine ct_loop (fun n S => ∃ p : Int × Int × List Int, S = (⟨[(0, .int .u64 p.1), (5, .own 0), (6, .int .i64 p.2.1)], [(0, .own 5 1 false none (p.2.2.map (V.int .u8)))], 1⟩ : St) ∧ ((-1 ≤ p.2.1) ∧ (p.2.1 < size) ∧ (((p.2.2).length : Int) = size)) ∧ (p.2.1 + 1).toNat < n ∧ iter n f2 d2 p = r) (((size - 1) + 1).toNat + 1) _ sbQ sbQ ⟨(n_, (size - 1), (rep size.toNat (0 : Int))), rfl, ⟨omQ, omQ, omQ⟩, (Nat.lt_succ_self _), hM⟩ ?_
 clear hM
 rintro n2 S ⟨p2, rfl, hfa2, hm2, hM⟩
 have hM0 := hM; clear hM; obtain ⟨ag2, hag2, hM⟩ := iter_step hM0 (by omega) hf2; clear hM0
 replace hfa2 := nzQ hfa2
 replace hm2 := nzQ hm2
 refine spQA ha1 ?_
 refine condC_intro (fun h3 => ?_) (fun h3 => ?_)
 ·rw [if_pos h3] at hM
  refine spQA (And.intro ha1 h3) ?_
  have nh3 := nzQ h3
  try have hr4 := mpQ nh3
  refine bindC_intro omQ ?_
  refine spQA ha1 ?_
  refine bindC_intro omQ ?_
  have he5 := fun d => elt_mp (l := p2.2.2) (f := (V.int .u8)) (i := p2.2.1) omQ d
  refine spQA (And.intro ha1 he5) ?_
  refine bindC_intro omQ ?_
  refine spQA (And.intro ha1 he5) ?_
  refine bindC_intro omQ ?_
  refine spQA (And.intro ha1 he5) ?_
  have ha6 : subI .i64 p2.2.1 1 = (p2.2.1 - 1) := sub_ok omQ omQ
  try simp only [ha6]
  refine lp_intro (n2 - 1) _ (by omega) sbQ sbQ ⟨((quoI .u64 p2.1 256), (p2.2.1 - 1), (st p2.2.2 p2.2.1 (convI .u8 (remI .u64 p2.1 256)))), rfl, ⟨omQ, omQ, omQ⟩, omQ, iter_again hM hag2⟩
 ·rw [if_neg (ne_true h3)] at hM
  refine spQA (And.intro ha1 h3) ?_
  have nh3 := nzQ h3
  try have hr7 := mpQ nh3
  subst hM
  exact retC_view (lfQA (And.intro ha1 h3))
set_option maxHeartbeats 2000000 in
set_option maxRecDepth 100000 in
theorem specieref07_Encode_ok (N : Nat) (ih : ∀  (i_ : S_api_Item), (hgt i_ ≤ 50000000) → hgt i_ < N → CallOk En 54 [.agg [.int .i64 i_.Kind, .int .i64 i_.N, .sl none 1 false (i_.B.map (V.int .u8)), .sl none 4 true (i_.L.map e_api_Item)]] (.sl none 1 false ((encI i_).map (V.int .u8))) [])  (i_ : S_api_Item) (hp0 : hgt i_ ≤ 50000000) (hp_ : hgt i_ < N + 1) : CallOk En 54 [.agg [.int .i64 i_.Kind, .int .i64 i_.N, .sl none 1 false (i_.B.map (V.int .u8)), .sl none 4 true (i_.L.map e_api_Item)]] (.sl none 1 false ((specieref07_Encode i_).map (V.int .u8))) [] := by
 generalize hM : specieref07_Encode i_ = r
 rw [specieref07_Encode.eq_1] at hM
 refine enterV En_ok En_mo noJ Tryz.func54 rfl Tryz.ntmps54 (by kernel_rfl) fun hw => ct_start ?_
 refine spQ ?_
 replace hw := nzQ hw
 refine condC_intro (fun h1 => ?_) (fun h1 => ?_)
 ·rw [if_pos h1] at hM
  refine spQA h1 ?_
  have nh1 := nzQ h1
  try have hr2 := mpQ nh1
  have hM0 := hM; clear hM; obtain ⟨x3, hx4, hM⟩ := letk_opn hM0; clear hM0
  have hcx3 := cmH hx4 (specieref07_number_ok  (convI .u64 i_.N) 8 (by (exact pfQ)) (by (exact pfQ)))
  refine callC_give hcx3 clQ clQ (fun hw5 => ?_)
  replace hw5 := nzQ hw5
  refine spQ ?_
  have hq6 := rnl hx4 (by decide)
  replace hq6 := nzQ hq6
  refine bindC_intro (by (first | exact omQ | (clear hM; first | (have h9 := hgt_eq i_; exact omQ')))) ?_
  refine spQ ?_
  subst hM
  exact retC_view (lfQA h1)
 ·rw [if_neg (ne_true h1)] at hM
  refine spQA h1 ?_
  have nh1 := nzQ h1
  try have hr7 := mpQ nh1
  refine condC_intro (fun h8 => ?_) (fun h8 => ?_)
  ·rw [if_pos h8] at hM
   refine spQA h8 ?_
   have nh8 := nzQ h8
   try have hr9 := mpQ nh8
   refine ct_draw 50 9 [17, 18, 19, 20, 21, 22, 23, 24, 25] [] ([[], [], [1], [1, 2], [1, 2, 3], [1, 2, 3, 4], [0, 1, 2, 3, 4, 5], [], [7]] ++ [List.range 9, List.range 10]) [(6, 1)] (by kernel_rfl) (by exact alQ) ?_
   refine spQ ?_
   have hM0 := hM; clear hM; obtain ⟨x10, hx11, hM⟩ := letk_opn hM0; clear hM0
   have hcx10 := cmH hx11 (specieref07_number_ok  (convI .u64 (i_.B.length : Int)) 4 (by (exact pfQ)) (by (exact pfQ)))
   refine hcallC_give hcx10 clQ clQ ?_
   refine spQ ?_
   have hq12 := rnl hx11 (by decide)
   replace hq12 := nzQ hq12
   refine hbindC_introA (by (first | exact omQ | (clear hM; first | (have h9 := hgt_eq i_; exact omQ')))) clQ ?_
   refine spQ ?_
   refine bindC_intro (by (first | exact omQ | (clear hM; first | (have h9 := hgt_eq i_; exact omQ')))) ?_
   refine spQ ?_
   subst hM
   exact retC_view (lfQA (And.intro h1 h8))
  ·rw [if_neg (ne_true h8)] at hM
   refine spQA h8 ?_
   have nh8 := nzQ h8
   try have hr13 := mpQ nh8
   have hM0 := hM; clear hM; obtain ⟨x14, hx15, hM⟩ := letk_opn hM0; clear hM0
   have hcx14 := cmH hx15 (specieref07_number_ok  (convI .u64 (i_.L.length : Int)) 4 (by (exact pfQ)) (by (exact pfQ)))
   refine callC_give hcx14 clQ clQ (fun hw16 => ?_)
   replace hw16 := nzQ hw16
   refine spQ ?_
   have hq17 := rnl hx15 (by decide)
   replace hq17 := nzQ hq17
   refine bindC_intro (by (first | exact omQ | (clear hM; first | (have h9 := hgt_eq i_; exact omQ')))) ?_
   refine spQ ?_
   have hM0 := hM; clear hM; obtain ⟨f18, d18, hf18, hd18, hM⟩ := iter_opn hM0; clear hM0
   refine ct_loop (fun n S => ∃ p : Int × List Int, S = (⟨[(1, .ptr 0 0), (3, .own 1), (4, .int .i64 p.1)], [(0, .var 4 true (.agg [.int .i64 i_.Kind, .int .i64 i_.N, .sl none 1 false (i_.B.map (V.int .u8)), .sl none 4 true (i_.L.map e_api_Item)])), (1, .own 5 1 false none (p.2.map (V.int .u8)))], 2⟩ : St) ∧ (((0 ≤ p.1) ∧ (p.1 ≤ (i_.L.length : Int))) ∧ (((p.2).length : Int) + 9 * (hgtL (i_.L.drop (p.1).toNat) : Int) ≤ 9 * (hgt i_ : Int))) ∧ ((i_.L.length : Int) - p.1).toNat < n ∧ iter n f18 d18 p = r) (((i_.L.length : Int) - 0).toNat + 1) _ sbQ sbQ ⟨(0, (([3] : List Int) ++ x14)), rfl, ⟨⟨by (first | exact omQ | (clear hM; first | (have h9 := hgt_eq i_; exact omQ') | (have h9 := hgt_L (i := i_) (gt_mem (l := i_.L) (i := p18.1) (by omega)); exact omQ'))), by (first | exact omQ | (clear hM; first | (have h9 := hgt_eq i_; exact omQ') | (have h9 := hgt_L (i := i_) (gt_mem (l := i_.L) (i := p18.1) (by omega)); exact omQ')))⟩, by (have h9 := hgt_eq i_; simp only [Int.toNat_zero, List.drop_zero, List.length_append, List.length_cons, List.length_nil]; omega)⟩, (Nat.lt_succ_self _), hM⟩ ?_
   clear hM
   rintro n18 S ⟨p18, rfl, ⟨hfa18, hF8_0⟩, hm18, hM⟩
   have hM0 := hM; clear hM; obtain ⟨ag18, hag18, hM⟩ := iter_step hM0 (by omega) hf18; clear hM0
   replace hfa18 := nzQ hfa18
   replace hm18 := nzQ hm18
   have ha18 : addI .i64 p18.1 1 = p18.1 + 1 := add_one (by (first | exact omQ | (clear hM; first | (have h9 := hgt_eq i_; exact omQ') | (have h9 := hgt_L (i := i_) (gt_mem (l := i_.L) (i := p18.1) (by omega)); exact omQ')))) (by (first | exact omQ | (clear hM; first | (have h9 := hgt_eq i_; exact omQ') | (have h9 := hgt_L (i := i_) (gt_mem (l := i_.L) (i := p18.1) (by omega)); exact omQ'))))
   refine spQA ha18 ?_
   refine condC_intro (fun h19 => ?_) (fun h19 => ?_)
   ·rw [if_pos h19] at hM
    refine spQA (And.intro ha18 h19) ?_
    have nh19 := nzQ h19
    try have hr20 := mpQ nh19
    refine bindC_intro (by (first | exact omQ | (clear hM; first | (have h9 := hgt_eq i_; exact omQ') | (have h9 := hgt_L (i := i_) (gt_mem (l := i_.L) (i := p18.1) (by omega)); exact omQ')))) ?_
    have he21 := fun d => elt_mp (l := i_.L) (f := e_api_Item) (i := p18.1) (by (first | exact omQ | (clear hM; first | (have h9 := hgt_eq i_; exact omQ') | (have h9 := hgt_L (i := i_) (gt_mem (l := i_.L) (i := p18.1) (by omega)); exact omQ')))) d
    refine spQA (And.intro ha18 he21) ?_
    have hM0 := hM; clear hM; obtain ⟨x22, hx23, hM⟩ := letk_opn hM0; clear hM0
    have hcx22 := ih  (gt i_.L p18.1) (by (have h9 := hgt_L (i := i_) (gt_mem (l := i_.L) (i := p18.1) (by omega)); omega)) (by (have h9 := hgt_L (i := i_) (gt_mem (l := i_.L) (i := p18.1) (by omega)); omega))
    rw [← hx23] at hcx22
    refine callC_give hcx22 (clQA (And.intro ha18 he21)) (clQA (And.intro ha18 he21)) (fun hw24 => ?_)
    replace hw24 := nzQ hw24
    refine spQA (And.intro ha18 he21) ?_
    have hq25 := enc_after hx23
    replace hq25 := nzQ hq25
    refine bindC_intro (by (first | exact omQ | (clear hM; first | (have h9 := hgt_eq i_; exact omQ') | (have h9 := hgt_L (i := i_) (gt_mem (l := i_.L) (i := p18.1) (by omega)); exact omQ')))) ?_
    refine spQA (And.intro ha18 he21) ?_
    refine lp_intro (n18 - 1) _ (by omega) sbQ sbQ ⟨((p18.1 + 1), (p18.2 ++ x22)), rfl, ⟨⟨by (first | exact omQ | (clear hM; first | (have h9 := hgt_eq i_; exact omQ') | (have h9 := hgt_L (i := i_) (gt_mem (l := i_.L) (i := (p18.1 + 1)) (by omega)); exact omQ'))), by (first | exact omQ | (clear hM; first | (have h9 := hgt_eq i_; exact omQ') | (have h9 := hgt_L (i := i_) (gt_mem (l := i_.L) (i := (p18.1 + 1)) (by omega)); exact omQ')))⟩, by (have h9 := hgtL_drop (l := i_.L) (i := p18.1) (by omega); rw [show (((p18.1 + 1)) : Int).toNat = (p18.1).toNat + 1 by omega]; simp only [List.length_append]; omega)⟩, by (first | exact omQ | (clear hM; first | (have h9 := hgt_eq i_; exact omQ') | (have h9 := hgt_L (i := i_) (gt_mem (l := i_.L) (i := (p18.1 + 1)) (by omega)); exact omQ'))), iter_again hM hag18⟩
   ·rw [if_neg (ne_true h19)] at hM
    refine spQA (And.intro ha18 h19) ?_
    have nh19 := nzQ h19
    try have hr26 := mpQ nh19
    subst hM
    exact retC_view (lfQA (And.intro ha18 (And.intro h1 (And.intro h8 h19))))
theorem encI_okN : ∀ (N : Nat)  (i_ : S_api_Item), (hgt i_ ≤ 50000000) → hgt i_ < N → CallOk En 54 [.agg [.int .i64 i_.Kind, .int .i64 i_.N, .sl none 1 false (i_.B.map (V.int .u8)), .sl none 4 true (i_.L.map e_api_Item)]] (.sl none 1 false ((encI i_).map (V.int .u8))) [] := by
 intro N
 induction N with
 | zero => intro i_ h0 h; exact absurd h (Nat.not_lt_zero _)
 | succ N ih =>
  intro i_ h0 h
  have h9 := specieref07_Encode_ok N ih i_ h0 h
  rw [specieref07_Encode_eqM] at h9
  exact h9
theorem encI_ok  (i_ : S_api_Item) (hp0 : hgt i_ ≤ 50000000) : CallOk En 54 [.agg [.int .i64 i_.Kind, .int .i64 i_.N, .sl none 1 false (i_.B.map (V.int .u8)), .sl none 4 true (i_.L.map e_api_Item)]] (.sl none 1 false ((encI i_).map (V.int .u8))) [] :=
 encI_okN (hgt i_ + 1) i_ hp0 (Nat.lt_succ_self _)
set_option maxHeartbeats 2000000 in
set_option maxRecDepth 100000 in
instance specieref06_constants_ok     : CM En (specieref06_constants) 157 [] (fun y => .sl none 1 false (y.map (V.int .u32))) (fun _ => []) := by
 refine cmQ fun r hM => ?_
 rw [specieref06_constants.eq_1] at hM
 refine enterV En_ok En_mo noJ Tryz.func157 rfl Tryz.ntmps157 (by kernel_rfl) fun hw => ct_start ?_
 refine spQ ?_
 replace hw := nzQ hw
 subst hM
 exact retC_view lfQ
set_option maxHeartbeats 2000000 in
set_option maxRecDepth 100000 in
instance specieref06_bytes_ok   (n_ : Int)  : CM En (specieref06_bytes n_) 188 [.int .i64 n_] (fun y => .sl none 1 false (y.map (V.int .u8))) (fun _ => []) := by
 refine cmQ fun r hM => ?_
 rw [specieref06_bytes.eq_1] at hM
 refine enterV En_ok En_mo noJ Tryz.func188 rfl Tryz.ntmps188 (by kernel_rfl) fun hw => ct_start ?_
 refine spQ ?_
 replace hw := nzQ hw
 have hM0 := hM; clear hM; obtain ⟨f1, d1, hf1, hd1, hM⟩ := iter_opn hM0; clear hM0
 refine ct_loopW (fun n S => ∃ p : Int × List Int, S = (⟨[(0, .int .i64 n_), (3, .own 0), (4, .int .i64 p.1)], [(0, .own 5 1 false none (p.2.map (V.int .u8)))], 1⟩ : St) ∧ ((-1 ≤ p.1) ∧ (p.1 ≤ 7) ∧ (((p.2).length : Int) = 7 - p.1)) ∧ ((p.1 + 1) : Int).toNat < n ∧ iter n f1 d1 p = r) (((7 + 1) : Int).toNat + 1) _ _ (weak_nil 3 5 rfl (by decide)) sbQ sbQ ⟨(7, ([] : List Int)), rfl, ⟨omQ, omQ, omQ⟩, (Nat.lt_succ_self _), hM⟩ ?_
 clear hM
 rintro n1 S ⟨p1, rfl, hfa1, hm1, hM⟩
 have hM0 := hM; clear hM; obtain ⟨ag1, hag1, hM⟩ := iter_step hM0 (by omega) hf1; clear hM0
 replace hfa1 := nzQ hfa1
 replace hm1 := nzQ hm1
 refine spQ ?_
 refine condC_intro (fun h2 => ?_) (fun h2 => ?_)
 ·rw [if_pos h2] at hM
  refine spQA h2 ?_
  have nh2 := nzQ h2
  try have hr3 := mpQ nh2
  obtain ⟨ha4, hbha4⟩ := mul_pos_ok (a := 8) (b := p1.1) 8 8 64 omQ omQ omQ omQ (by decide) (by decide)
  try simp only [ha4]
  refine bindC_intro omQ ?_
  refine spQA ha4 ?_
  refine bindC_intro omQ ?_
  refine spQA ha4 ?_
  have ha5 : subI .i64 p1.1 1 = (p1.1 - 1) := sub_ok omQ omQ
  try simp only [ha5]
  refine lp_intro (n1 - 1) _ (by omega) sbQ sbQ ⟨((p1.1 - 1), (p1.2 ++ ([(convI .u8 (shrI .i64 n_ (8 * p1.1)))] : List Int))), rfl, ⟨omQ, omQ, omQ⟩, omQ, iter_again hM hag1⟩
 ·rw [if_neg (ne_true h2)] at hM
  refine spQA h2 ?_
  have nh2 := nzQ h2
  try have hr6 := mpQ nh2
  subst hM
  exact retC_view (lfQA h2)
set_option maxHeartbeats 2000000 in
set_option maxRecDepth 100000 in
theorem specieref06_padded_ok   (b : (List Int)) (hp0 : b.length ≤ 1000000000) : CM En (specieref06_padded b) 158 [.sl none 1 false (b.map (V.int .u8))] (fun y => .sl none 1 false (y.map (V.int .u8))) (fun _ => []) := by
 refine cmQ fun r hM => ?_
 rw [specieref06_padded.eq_1] at hM
 refine enterV En_ok En_mo noJ Tryz.func158 rfl Tryz.ntmps158 (by kernel_rfl) fun hw => ct_start ?_
 refine spQ ?_
 replace hw := nzQ hw
 refine bindC_intro omQ ?_
 refine spQ ?_
 refine bindC_intro omQ ?_
 refine spQ ?_
 have hM0 := hM; clear hM; obtain ⟨f1, d1, hf1, hd1, hM⟩ := iter_opn hM0; clear hM0
 refine ct_loop (fun n S => ∃ p : List Int, S = (⟨[(0, .sl none 1 false (b.map (V.int .u8))), (3, .own 0)], [(0, .own 5 1 false none (p.map (V.int .u8)))], 2⟩ : St) ∧ ((((p).length : Int) + (56 - ((p).length : Int)) % 64 ≤ (b.length : Int) + 65)) ∧ ((56 - ((p).length : Int)) % 64).toNat < n ∧ iter n f1 d1 p = r) (((56 - ((((([] : List Int) ++ b) ++ ([128] : List Int))).length : Int)) % 64).toNat + 1) _ sbQ sbQ ⟨((([] : List Int) ++ b) ++ ([128] : List Int)), rfl, omQ, (Nat.lt_succ_self _), hM⟩ ?_
 clear hM
 rintro n1 S ⟨p1, rfl, hfa1, hm1, hM⟩
 have hM0 := hM; clear hM; obtain ⟨ag1, hag1, hM⟩ := iter_step hM0 (by omega) hf1; clear hM0
 replace hfa1 := nzQ hfa1
 replace hm1 := nzQ hm1
 refine spQ ?_
 have hF := trueQ
 exact auQ
set_option maxHeartbeats 2000000 in
set_option maxRecDepth 100000 in
theorem specieref06_right_ok   (x_ : Int) (n_ : Int) (hp0 : 0 ≤ n_) (hp1 : n_ ≤ 32) : CM En (specieref06_right x_ n_) 160 [.int .u32 x_, .int .i64 n_] (fun y => .int .u32 y) (fun _ => []) := by
 refine cmQ fun r hM => ?_
 rw [specieref06_right.eq_1] at hM
 refine enterV En_ok En_mo noJ Tryz.func160 rfl Tryz.ntmps160 (by kernel_rfl) fun hw => ct_start ?_
 refine spQ ?_
 replace hw := nzQ hw
 refine ct_draw 13 7 [5, 6, 7, 8, 9, 10, 11] [] ([[], [], [0, 1], [], [], [4], [3, 4, 5]] ++ [List.range 7, List.range 8]) [] (by kernel_rfl) (by exact alQ) ?_
 refine spQ ?_
 refine hbindC_intro omQ ?_
 refine spQ ?_
 have ha1 : subI .i64 32 n_ = (32 - n_) := sub_ok omQ omQ
 try simp only [ha1]
 have hF := ha1
 exact auQ
set_option maxHeartbeats 2000000 in
set_option maxRecDepth 100000 in
theorem specieref06_words_ok   (b : (List Int)) (hp0 : b.length = 64) : CM En (specieref06_words b) 159 [.sl none 1 false (b.map (V.int .u8))] (fun y => .sl none 1 false (y.map (V.int .u32))) (fun _ => []) := by
 refine cmQ fun r hM => ?_
 rw [specieref06_words.eq_1] at hM
 refine enterV En_ok En_mo noJ Tryz.func159 rfl Tryz.ntmps159 (by kernel_rfl) fun hw => ct_start ?_
 refine spQ ?_
 replace hw := nzQ hw
 have hM0 := hM; clear hM; obtain ⟨f1, d1, hf1, hd1, hM⟩ := iter_opn hM0; clear hM0
 refine ct_loopW (fun n S => ∃ p : Int × List Int, S = (⟨[(0, .sl none 1 false (b.map (V.int .u8))), (3, .own 0), (4, .int .i64 p.1)], [(0, .own 130 1 false none (p.2.map (V.int .u32)))], 1⟩ : St) ∧ ((0 ≤ p.1) ∧ (p.1 ≤ 16) ∧ (((p.2).length : Int) = p.1) ∧ (((p.2).length : Int) ≤ p.1)) ∧ ((16 : Int) - p.1).toNat < n ∧ iter n f1 d1 p = r) (((16 : Int) - 0).toNat + 1) _ _ (weak_nil 3 130 rfl (by decide)) sbQ sbQ ⟨(0, ([] : List Int)), rfl, ⟨omQ, omQ, omQ, omQ⟩, (Nat.lt_succ_self _), hM⟩ ?_
 clear hM
 rintro n1 S ⟨p1, rfl, hfa1, hm1, hM⟩
 have hM0 := hM; clear hM; obtain ⟨ag1, hag1, hM⟩ := iter_step hM0 (by omega) hf1; clear hM0
 replace hfa1 := nzQ hfa1
 replace hm1 := nzQ hm1
 have ha1 : addI .i64 p1.1 1 = p1.1 + 1 := add_one omQ omQ
 refine spQA ha1 ?_
 refine condC_intro (fun h2 => ?_) (fun h2 => ?_)
 ·rw [if_pos h2] at hM
  refine spQA (And.intro ha1 h2) ?_
  have nh2 := nzQ h2
  try have hr3 := mpQ nh2
  have hM0 := hM; clear hM; obtain ⟨f4, d4, hf4, hd4, hM⟩ := iter_opn hM0; clear hM0
  refine ct_loop (fun n S => ∃ p : Int × Int, S = (⟨[(0, .sl none 1 false (b.map (V.int .u8))), (3, .own 0), (4, .int .i64 p1.1), (5, .int .u32 p.1), (6, .int .i64 p.2)], [(0, .own 130 1 false none (p1.2.map (V.int .u32)))], 1⟩ : St) ∧ ((0 ≤ p.2) ∧ (p.2 ≤ 4)) ∧ ((4 : Int) - p.2).toNat < n ∧ iter n f4 d4 p = r) (((4 : Int) - 0).toNat + 1) _ sbQ sbQ ⟨(0, 0), rfl, ⟨omQ, omQ⟩, (Nat.lt_succ_self _), hM⟩ ?_
  clear hM
  rintro n4 S ⟨p4, rfl, hfa4, hm4, hM⟩
  have hM0 := hM; clear hM; obtain ⟨ag4, hag4, hM⟩ := iter_step hM0 (by omega) hf4; clear hM0
  replace hfa4 := nzQ hfa4
  replace hm4 := nzQ hm4
  have ha4 : addI .i64 p4.2 1 = p4.2 + 1 := add_one omQ omQ
  refine spQA (And.intro ha1 ha4) ?_
  refine condC_intro (fun h5 => ?_) (fun h5 => ?_)
  ·rw [if_pos h5] at hM
   refine spQA (And.intro ha1 (And.intro ha4 h5)) ?_
   have nh5 := nzQ h5
   try have hr6 := mpQ nh5
   obtain ⟨ha7, hbha7⟩ := mul_pos_ok (a := 4) (b := p1.1) 4 64 256 omQ omQ omQ omQ (by decide) (by decide)
   try simp only [ha7]
   have ha8 : addI .i64 (4 * p1.1) p4.2 = ((4 * p1.1) + p4.2) := add_ok omQ omQ
   try simp only [ha8]
   have hF := (And.intro ha1 (And.intro h2 (And.intro ha4 (And.intro h5 ha8))))
   exact auQ
  ·rw [if_neg (ne_true h5)] at hM
   refine spQA (And.intro ha1 (And.intro ha4 h5)) ?_
   have nh5 := nzQ h5
   try have hr10 := mpQ nh5
   have hF := (And.intro ha1 (And.intro h2 (And.intro ha4 h5)))
   exact auQ
 ·rw [if_neg (ne_true h2)] at hM
  refine spQA (And.intro ha1 h2) ?_
  have nh2 := nzQ h2
  try have hr11 := mpQ nh2
  have hM0 := hM; clear hM; obtain ⟨f12, d12, hf12, hd12, hM⟩ := iter_opn hM0; clear hM0
  refine ct_loop (fun n S => ∃ p : Int × List Int, S = (⟨[(3, .own 0), (7, .int .i64 p.1)], [(0, .own 130 1 false none (p.2.map (V.int .u32)))], 1⟩ : St) ∧ ((16 ≤ p.1) ∧ (p.1 ≤ 64 ∨ p.1 ≤ 16) ∧ (((p.2).length : Int) = p.1)) ∧ ((64 : Int) - p.1).toNat < n ∧ iter n f12 d12 p = r) (((64 : Int) - 16).toNat + 1) _ sbQ sbQ ⟨(16, p1.2), rfl, ⟨omQ, omQ, omQ⟩, (Nat.lt_succ_self _), hM⟩ ?_
  clear hM
  rintro n12 S ⟨p12, rfl, hfa12, hm12, hM⟩
  have hM0 := hM; clear hM; obtain ⟨ag12, hag12, hM⟩ := iter_step hM0 (by omega) hf12; clear hM0
  replace hfa12 := nzQ hfa12
  replace hm12 := nzQ hm12
  have ha12 : addI .i64 p12.1 1 = p12.1 + 1 := add_one omQ omQ
  refine spQA (And.intro ha1 ha12) ?_
  refine condC_intro (fun h13 => ?_) (fun h13 => ?_)
  ·rw [if_pos h13] at hM
   refine spQA (And.intro ha1 (And.intro ha12 h13)) ?_
   have nh13 := nzQ h13
   try have hr14 := mpQ nh13
   refine ct_draw 84 11 [8, 39, 40, 41, 42, 43, 44, 45, 46, 47, 48] [] ([[], [], [1], [0, 1, 2], [0, 1, 2, 3], [], [], [6], [5, 6, 7], [5, 6, 7, 8], [0, 1, 2, 3, 4]] ++ [List.range 11]) [] (by kernel_rfl) (by exact alQ) ?_
   refine spQA (And.intro ha1 ha12) ?_
   have ha15 : subI .i64 p12.1 15 = (p12.1 - 15) := sub_ok omQ omQ
   try simp only [ha15]
   refine hbindC_intro omQ ?_
   have he16 := fun d => elt_mp (l := p12.2) (f := (V.int .u32)) (i := (p12.1 - 15)) omQ d
   refine spQA (And.intro ha1 (And.intro ha12 (And.intro ha15 he16))) ?_
   refine hbindC_intro omQ ?_
   refine spQA (And.intro ha1 (And.intro ha12 (And.intro ha15 he16))) ?_
   have ha17 : subI .i64 p12.1 2 = (p12.1 - 2) := sub_ok omQ omQ
   try simp only [ha17]
   refine hbindC_intro omQ ?_
   have he18 := fun d => elt_mp (l := p12.2) (f := (V.int .u32)) (i := (p12.1 - 2)) omQ d
   refine spQA (And.intro ha1 (And.intro ha12 (And.intro ha15 (And.intro he16 (And.intro ha17 he18))))) ?_
   refine hbindC_intro omQ ?_
   refine spQA (And.intro ha1 (And.intro ha12 (And.intro ha15 (And.intro he16 (And.intro ha17 he18))))) ?_
   have hM0 := hM; clear hM; obtain ⟨x19, hx20, hM⟩ := letk_opn hM0; clear hM0
   have hcx19 := cmH hx20 (specieref06_right_ok  (gt p12.2 (p12.1 - 15)) 7 (by (exact pfQ)) (by (exact pfQ)))
   refine callC_give hcx19 (clQA (And.intro ha1 (And.intro ha12 (And.intro ha15 (And.intro he16 (And.intro ha17 he18)))))) (clQA (And.intro ha1 (And.intro ha12 (And.intro ha15 (And.intro he16 (And.intro ha17 he18)))))) (fun hw21 => ?_)
   replace hw21 := nzQ hw21
   refine spQA (And.intro ha1 (And.intro ha12 (And.intro ha15 (And.intro he16 (And.intro ha17 he18))))) ?_
   have hM0 := hM; clear hM; obtain ⟨x22, hx23, hM⟩ := letk_opn hM0; clear hM0
   have hcx22 := cmH hx23 (specieref06_right_ok  (gt p12.2 (p12.1 - 15)) 18 (by (exact pfQ)) (by (exact pfQ)))
   refine callC_give hcx22 (clQA (And.intro ha1 (And.intro ha12 (And.intro ha15 (And.intro he16 (And.intro ha17 he18)))))) (clQA (And.intro ha1 (And.intro ha12 (And.intro ha15 (And.intro he16 (And.intro ha17 he18)))))) (fun hw24 => ?_)
   replace hw24 := nzQ hw24
   refine spQA (And.intro ha1 (And.intro ha12 (And.intro ha15 (And.intro he16 (And.intro ha17 he18))))) ?_
   have hM0 := hM; clear hM; obtain ⟨x25, hx26, hM⟩ := letk_opn hM0; clear hM0
   have hcx25 := cmH hx26 (specieref06_right_ok  (gt p12.2 (p12.1 - 2)) 17 (by (exact pfQ)) (by (exact pfQ)))
   refine callC_give hcx25 (clQA (And.intro ha1 (And.intro ha12 (And.intro ha15 (And.intro he16 (And.intro ha17 he18)))))) (clQA (And.intro ha1 (And.intro ha12 (And.intro ha15 (And.intro he16 (And.intro ha17 he18)))))) (fun hw27 => ?_)
   replace hw27 := nzQ hw27
   refine spQA (And.intro ha1 (And.intro ha12 (And.intro ha15 (And.intro he16 (And.intro ha17 he18))))) ?_
   have hM0 := hM; clear hM; obtain ⟨x28, hx29, hM⟩ := letk_opn hM0; clear hM0
   have hcx28 := cmH hx29 (specieref06_right_ok  (gt p12.2 (p12.1 - 2)) 19 (by (exact pfQ)) (by (exact pfQ)))
   refine callC_give hcx28 (clQA (And.intro ha1 (And.intro ha12 (And.intro ha15 (And.intro he16 (And.intro ha17 he18)))))) (clQA (And.intro ha1 (And.intro ha12 (And.intro ha15 (And.intro he16 (And.intro ha17 he18)))))) (fun hw30 => ?_)
   replace hw30 := nzQ hw30
   refine spQA (And.intro ha1 (And.intro ha12 (And.intro ha15 (And.intro he16 (And.intro ha17 he18))))) ?_
   refine ct_draw 84 17 [65, 66, 67, 68, 69, 70, 71, 72, 73, 74, 75, 76, 77, 78, 79, 80, 81] [] ([[], [], [], [2], [1, 2, 3], [1, 2, 3, 4], [], [1, 2, 3, 4, 5, 6], [], [], [9], [8, 9, 10], [8, 9, 10, 11], [1, 2, 3, 4, 5, 6, 7, 8, 9, 10, 11, 12], [], [1, 2, 3, 4, 5, 6, 7, 8, 9, 10, 11, 12, 13, 14], [1, 2, 3, 4, 5, 6, 7, 8, 9, 10, 11, 12, 13, 14, 15]] ++ [List.range 17, List.range 18]) [] (by kernel_rfl) (by exact alQ) ?_
   refine spQA (And.intro ha1 (And.intro ha12 (And.intro ha15 (And.intro he16 (And.intro ha17 he18))))) ?_
   have ha31 : subI .i64 p12.1 16 = (p12.1 - 16) := sub_ok omQ omQ
   try simp only [ha31]
   refine hbindC_intro omQ ?_
   have he32 := fun d => elt_mp (l := p12.2) (f := (V.int .u32)) (i := (p12.1 - 16)) omQ d
   refine spQA (And.intro ha1 (And.intro ha12 (And.intro ha15 (And.intro he16 (And.intro ha17 (And.intro he18 (And.intro ha31 he32))))))) ?_
   refine hbindC_intro omQ ?_
   refine spQA (And.intro ha1 (And.intro ha12 (And.intro ha15 (And.intro he16 (And.intro ha17 (And.intro he18 (And.intro ha31 he32))))))) ?_
   have ha33 : subI .i64 p12.1 7 = (p12.1 - 7) := sub_ok omQ omQ
   try simp only [ha33]
   have hF := (And.intro ha1 (And.intro h2 (And.intro ha12 (And.intro h13 (And.intro ha15 (And.intro he16 (And.intro ha17 (And.intro he18 (And.intro ha31 (And.intro he32 ha33))))))))))
   exact auQ
  ·rw [if_neg (ne_true h13)] at hM
   refine spQA (And.intro ha1 (And.intro ha12 h13)) ?_
   have nh13 := nzQ h13
   try have hr35 := mpQ nh13
   subst hM
   exact retC_view (lfQA (And.intro ha1 (And.intro ha12 (And.intro h2 h13))))
instance (priority := 1003) : DRD 18 182 11 [152, 153, 154, 155, 156, 157, 158, 159, 160, 161, 162] [] ([[], [], [], [], [2, 3], [2, 3, 4], [], [], [6, 7], [6, 7, 8], [2, 3, 4, 5, 6, 7, 8, 9]] ++ [List.range 11, List.range 12]) [] := ⟨trivial⟩
set_option maxHeartbeats 2000000 in
set_option maxRecDepth 100000 in
theorem specieref06_Sum_ok   (b : (List Int)) (hp0 : b.length ≤ 1000000000) : CM En (specieref06_Sum b) 120 [.sl none 1 false (b.map (V.int .u8))] (fun y => (e_arr40 y)) (fun _ => []) := by
 refine cmQ fun r hM => ?_
 rw [specieref06_Sum.eq_1] at hM
 refine enterV En_ok En_mo noJ Tryz.func120 rfl Tryz.ntmps120 (by kernel_rfl) fun hw => ct_start ?_
 refine spQ ?_
 replace hw := nzQ hw
 have hM0 := hM; clear hM; obtain ⟨x1, hx2, hM⟩ := letk_opn hM0; clear hM0
 have hcx1 := cmU hx2
 refine callC_give hcx1 clQ clQ (fun hw3 => ?_)
 replace hw3 := nzQ hw3
 refine spQ ?_
 have hq4 := nzQ (cfU hx2)
 have hM0 := hM; clear hM; obtain ⟨x5, hx6, hM⟩ := letk_opn hM0; clear hM0
 have hcx5 := cmH hx6 (specieref06_padded_ok  b (by (exact pfQ)))
 refine callC_give hcx5 clQ clQ (fun hw7 => ?_)
 replace hw7 := nzQ hw7
 refine spQ ?_
 have hq8 := nzQ (cfU hx6)
 have hM0 := hM; clear hM; obtain ⟨f9, d9, hf9, hd9, hM⟩ := iter_opn hM0; clear hM0
 refine ct_loop (fun n S => ∃ p : Int × List Int, S = (⟨[(2, .ptr 0 0), (3, .own 1), (4, .sl none 1 false (x1.map (V.int .u32))), (5, .sl none 1 false (x5.map (V.int .u8))), (6, .int .i64 p.1)], [(0, .var 32 true (zv_40)), (1, .own 130 1 false none (p.2.map (V.int .u32)))], 2⟩ : St) ∧ ((0 ≤ p.1) ∧ (p.1 ≤ (x5.length : Int)) ∧ (p.1 % 64 = 0) ∧ ((p.2).length = (([1779033703, 3144134277, 1013904242, 2773480762, 1359893119, 2600822924, 528734635, 1541459225] : List Int)).length)) ∧ ((x5.length : Int) - p.1).toNat < n ∧ iter n f9 d9 p = r) (((x5.length : Int) - 0).toNat + 1) _ sbQ sbQ ⟨(0, ([1779033703, 3144134277, 1013904242, 2773480762, 1359893119, 2600822924, 528734635, 1541459225] : List Int)), rfl, ⟨omQ, omQ, omQ, omQ⟩, (Nat.lt_succ_self _), hM⟩ ?_
 clear hM
 rintro n9 S ⟨p9, rfl, hfa9, hm9, hM⟩
 have hM0 := hM; clear hM; obtain ⟨ag9, hag9, hM⟩ := iter_step hM0 (by omega) hf9; clear hM0
 replace hfa9 := nzQ hfa9
 replace hm9 := nzQ hm9
 have ha9 : addI .i64 p9.1 1 = p9.1 + 1 := add_one omQ omQ
 refine spQA ha9 ?_
 refine condC_intro (fun h10 => ?_) (fun h10 => ?_)
 ·rw [if_pos h10] at hM
  refine spQA (And.intro ha9 h10) ?_
  have nh10 := nzQ h10
  try have hr11 := mpQ nh10
  have ha12 : addI .i64 p9.1 64 = (p9.1 + 64) := add_ok omQ omQ
  try simp only [ha12]
  refine bindC_intro omQ ?_
  refine spQA (And.intro ha9 ha12) ?_
  have hM0 := hM; clear hM; obtain ⟨x13, hx14, hM⟩ := letk_opn hM0; clear hM0
  have hcx13 := cmH hx14 (specieref06_words_ok  (sl x5 p9.1 (p9.1 + 64)) (by (exact pfQ)))
  refine callC_give hcx13 (clQA (And.intro ha9 ha12)) (clQA (And.intro ha9 ha12)) (fun hw15 => ?_)
  replace hw15 := nzQ hw15
  refine spQA (And.intro ha9 ha12) ?_
  have hq16 := nzQ (cfU hx14)
  refine bindC_intro omQ ?_
  refine spQA (And.intro ha9 ha12) ?_
  have hM0 := hM; clear hM; obtain ⟨f17, d17, hf17, hd17, hM⟩ := iter_opn hM0; clear hM0
  refine ct_loop (fun n S => ∃ p : Int × List Int, S = (⟨[(2, .ptr 0 0), (3, .own 1), (4, .sl none 1 false (x1.map (V.int .u32))), (5, .sl none 1 false (x5.map (V.int .u8))), (6, .int .i64 p9.1), (7, .sl none 1 false (x13.map (V.int .u32))), (8, .own 2), (9, .int .i64 p.1)], [(0, .var 32 true (zv_40)), (1, .own 130 1 false none (p9.2.map (V.int .u32))), (2, .own 130 1 false none (p.2.map (V.int .u32)))], 3⟩ : St) ∧ ((0 ≤ p.1) ∧ (p.1 ≤ 64) ∧ (((p.2).length : Int) = 8) ∧ ((p.2).length = ((([] : List Int) ++ p9.2)).length)) ∧ ((64 : Int) - p.1).toNat < n ∧ iter n f17 d17 p = r) (((64 : Int) - 0).toNat + 1) _ sbQ sbQ ⟨(0, (([] : List Int) ++ p9.2)), rfl, ⟨omQ, omQ, omQ, omQ⟩, (Nat.lt_succ_self _), hM⟩ ?_
  clear hM
  rintro n17 S ⟨p17, rfl, hfa17, hm17, hM⟩
  have hM0 := hM; clear hM; obtain ⟨ag17, hag17, hM⟩ := iter_step hM0 (by omega) hf17; clear hM0
  replace hfa17 := nzQ hfa17
  replace hm17 := nzQ hm17
  have ha17 : addI .i64 p17.1 1 = p17.1 + 1 := add_one omQ omQ
  refine spQA (And.intro ha9 (And.intro ha12 ha17)) ?_
  refine condC_intro (fun h18 => ?_) (fun h18 => ?_)
  ·rw [if_pos h18] at hM
   refine spQA (And.intro ha9 (And.intro ha12 (And.intro ha17 h18))) ?_
   have nh18 := nzQ h18
   try have hr19 := mpQ nh18
   refine ct_draw 182 44 [38, 39, 40, 41, 42, 43, 44, 45, 46, 47, 48, 49, 50, 51, 52, 53, 54, 55, 56, 57, 58, 59, 60, 61, 62, 63, 64, 65, 66, 67, 68, 69, 70, 71, 72, 73, 74, 75, 76, 77, 78, 79, 80, 81] [] ([[], [0], [0, 1], [], [3], [3, 4], [3, 4, 5], [], [7], [7, 8], [7, 8, 9], [3, 4, 5, 6, 7, 8, 9, 10], [], [12], [12, 13], [12, 13, 14], [3, 4, 5, 6, 7, 8, 9, 10, 11, 12, 13, 14, 15], [0, 1, 2, 3, 4, 5, 6, 7, 8, 9, 10, 11, 12, 13, 14, 15, 16], [], [18], [18, 19], [], [21], [21, 22], [18, 19, 20, 21, 22, 23], [], [25], [25, 26], [25, 26, 27], [], [29], [29, 30], [25, 26, 27, 28, 29, 30, 31], [18, 19, 20, 21, 22, 23, 24, 25, 26, 27, 28, 29, 30, 31, 32], [0, 1, 2, 3, 4, 5, 6, 7, 8, 9, 10, 11, 12, 13, 14, 15, 16, 17, 18, 19, 20, 21, 22, 23, 24, 25, 26, 27, 28, 29, 30, 31, 32, 33], [], [], [35, 36], [35, 36, 37], [0, 1, 2, 3, 4, 5, 6, 7, 8, 9, 10, 11, 12, 13, 14, 15, 16, 17, 18, 19, 20, 21, 22, 23, 24, 25, 26, 27, 28, 29, 30, 31, 32, 33, 34, 35, 36, 37, 38], [], [], [40, 41], [40, 41, 42]] ++ [List.range 44, List.range 45]) [] (by kernel_rfl) (by exact alQ) ?_
   refine spQA (And.intro ha9 (And.intro ha12 ha17)) ?_
   refine hbindC_intro omQ ?_
   have he20 : ∀ d, elt (p17.2.map (V.int .u32)) 7 d = (V.int .u32) (gt p17.2 7) := fun d => elt_mp (l := p17.2) (f := (V.int .u32)) (i := 7) omQ d
   refine spQA (And.intro ha9 (And.intro ha12 (And.intro ha17 he20))) ?_
   refine hbindC_intro omQ ?_
   refine spQA (And.intro ha9 (And.intro ha12 (And.intro ha17 he20))) ?_
   refine hbindC_intro omQ ?_
   have he21 : ∀ d, elt (p17.2.map (V.int .u32)) 4 d = (V.int .u32) (gt p17.2 4) := fun d => elt_mp (l := p17.2) (f := (V.int .u32)) (i := 4) omQ d
   refine spQA (And.intro ha9 (And.intro ha12 (And.intro ha17 (And.intro he20 he21)))) ?_
   refine hbindC_intro omQ ?_
   refine spQA (And.intro ha9 (And.intro ha12 (And.intro ha17 (And.intro he20 he21)))) ?_
   have hM0 := hM; clear hM; obtain ⟨x22, hx23, hM⟩ := letk_opn hM0; clear hM0
   have hcx22 := cmH hx23 (specieref06_right_ok  (gt p17.2 4) 6 (by (exact pfQ)) (by (exact pfQ)))
   refine hcallC_give hcx22 (clQA (And.intro ha9 (And.intro ha12 (And.intro ha17 (And.intro he20 he21))))) (clQA (And.intro ha9 (And.intro ha12 (And.intro ha17 (And.intro he20 he21))))) ?_
   refine spQA (And.intro ha9 (And.intro ha12 (And.intro ha17 (And.intro he20 he21)))) ?_
   refine hbindC_intro omQ ?_
   refine spQA (And.intro ha9 (And.intro ha12 (And.intro ha17 (And.intro he20 he21)))) ?_
   refine hbindC_intro omQ ?_
   refine spQA (And.intro ha9 (And.intro ha12 (And.intro ha17 (And.intro he20 he21)))) ?_
   have hM0 := hM; clear hM; obtain ⟨x24, hx25, hM⟩ := letk_opn hM0; clear hM0
   have hcx24 := cmH hx25 (specieref06_right_ok  (gt p17.2 4) 11 (by (exact pfQ)) (by (exact pfQ)))
   refine hcallC_give hcx24 (clQA (And.intro ha9 (And.intro ha12 (And.intro ha17 (And.intro he20 he21))))) (clQA (And.intro ha9 (And.intro ha12 (And.intro ha17 (And.intro he20 he21))))) ?_
   refine spQA (And.intro ha9 (And.intro ha12 (And.intro ha17 (And.intro he20 he21)))) ?_
   refine hbindC_intro omQ ?_
   refine spQA (And.intro ha9 (And.intro ha12 (And.intro ha17 (And.intro he20 he21)))) ?_
   refine hbindC_intro omQ ?_
   refine spQA (And.intro ha9 (And.intro ha12 (And.intro ha17 (And.intro he20 he21)))) ?_
   have hM0 := hM; clear hM; obtain ⟨x26, hx27, hM⟩ := letk_opn hM0; clear hM0
   have hcx26 := cmH hx27 (specieref06_right_ok  (gt p17.2 4) 25 (by (exact pfQ)) (by (exact pfQ)))
   refine hcallC_give hcx26 (clQA (And.intro ha9 (And.intro ha12 (And.intro ha17 (And.intro he20 he21))))) (clQA (And.intro ha9 (And.intro ha12 (And.intro ha17 (And.intro he20 he21))))) ?_
   refine spQA (And.intro ha9 (And.intro ha12 (And.intro ha17 (And.intro he20 he21)))) ?_
   refine hbindC_intro omQ ?_
   refine spQA (And.intro ha9 (And.intro ha12 (And.intro ha17 (And.intro he20 he21)))) ?_
   refine hbindC_intro omQ ?_
   refine spQA (And.intro ha9 (And.intro ha12 (And.intro ha17 (And.intro he20 he21)))) ?_
   refine hbindC_intro omQ ?_
   have he28 : ∀ d, elt (p17.2.map (V.int .u32)) 5 d = (V.int .u32) (gt p17.2 5) := fun d => elt_mp (l := p17.2) (f := (V.int .u32)) (i := 5) omQ d
   refine spQA (And.intro ha9 (And.intro ha12 (And.intro ha17 (And.intro he20 (And.intro he21 he28))))) ?_
   refine hbindC_intro omQ ?_
   refine spQA (And.intro ha9 (And.intro ha12 (And.intro ha17 (And.intro he20 (And.intro he21 he28))))) ?_
   refine hbindC_intro omQ ?_
   refine spQA (And.intro ha9 (And.intro ha12 (And.intro ha17 (And.intro he20 (And.intro he21 he28))))) ?_
   refine hbindC_intro omQ ?_
   refine spQA (And.intro ha9 (And.intro ha12 (And.intro ha17 (And.intro he20 (And.intro he21 he28))))) ?_
   refine hbindC_intro omQ ?_
   have he29 : ∀ d, elt (p17.2.map (V.int .u32)) 6 d = (V.int .u32) (gt p17.2 6) := fun d => elt_mp (l := p17.2) (f := (V.int .u32)) (i := 6) omQ d
   refine spQA (And.intro ha9 (And.intro ha12 (And.intro ha17 (And.intro he20 (And.intro he21 (And.intro he28 he29)))))) ?_
   refine hbindC_intro omQ ?_
   refine spQA (And.intro ha9 (And.intro ha12 (And.intro ha17 (And.intro he20 (And.intro he21 (And.intro he28 he29)))))) ?_
   refine hbindC_intro omQ ?_
   have he30 := fun d => elt_mp (l := x1) (f := (V.int .u32)) (i := p17.1) omQ d
   refine spQA (And.intro ha9 (And.intro ha12 (And.intro ha17 (And.intro he20 (And.intro he21 (And.intro he28 (And.intro he29 he30))))))) ?_
   refine hbindC_intro omQ ?_
   have he31 := fun d => elt_mp (l := x13) (f := (V.int .u32)) (i := p17.1) omQ d
   refine spQA (And.intro ha9 (And.intro ha12 (And.intro ha17 (And.intro he20 (And.intro he21 (And.intro he28 (And.intro he29 (And.intro he30 he31)))))))) ?_
   refine ct_draw 182 37 [83, 84, 85, 86, 87, 88, 89, 90, 91, 92, 93, 94, 95, 96, 97, 98, 99, 100, 101, 102, 103, 104, 105, 106, 107, 108, 109, 110, 111, 112, 113, 114, 115, 116, 117, 118, 119] [] ([[], [0], [0, 1], [0, 1, 2], [], [4], [4, 5], [4, 5, 6], [0, 1, 2, 3, 4, 5, 6, 7], [], [9], [9, 10], [9, 10, 11], [0, 1, 2, 3, 4, 5, 6, 7, 8, 9, 10, 11, 12], [], [14], [14, 15], [], [17], [17, 18], [14, 15, 16, 17, 18, 19], [], [21], [21, 22], [], [24], [24, 25], [21, 22, 23, 24, 25, 26], [14, 15, 16, 17, 18, 19, 20, 21, 22, 23, 24, 25, 26, 27], [], [29], [29, 30], [], [32], [32, 33], [29, 30, 31, 32, 33, 34], [14, 15, 16, 17, 18, 19, 20, 21, 22, 23, 24, 25, 26, 27, 28, 29, 30, 31, 32, 33, 34, 35]] ++ [List.range 37, List.range 38]) [] (by kernel_rfl) (by exact alQ) ?_
   refine spQA (And.intro ha9 (And.intro ha12 (And.intro ha17 (And.intro he20 (And.intro he21 (And.intro he28 (And.intro he29 (And.intro he30 he31)))))))) ?_
   refine hbindC_intro omQ ?_
   have he32 : ∀ d, elt (p17.2.map (V.int .u32)) 0 d = (V.int .u32) (gt p17.2 0) := fun d => elt_mp (l := p17.2) (f := (V.int .u32)) (i := 0) omQ d
   refine spQA (And.intro ha9 (And.intro ha12 (And.intro ha17 (And.intro he20 (And.intro he21 (And.intro he28 (And.intro he29 (And.intro he30 (And.intro he31 he32))))))))) ?_
   refine hbindC_intro omQ ?_
   refine spQA (And.intro ha9 (And.intro ha12 (And.intro ha17 (And.intro he20 (And.intro he21 (And.intro he28 (And.intro he29 (And.intro he30 (And.intro he31 he32))))))))) ?_
   have hM0 := hM; clear hM; obtain ⟨x33, hx34, hM⟩ := letk_opn hM0; clear hM0
   have hcx33 := cmH hx34 (specieref06_right_ok  (gt p17.2 0) 2 (by (exact pfQ)) (by (exact pfQ)))
   refine hcallC_give hcx33 (clQA (And.intro ha9 (And.intro ha12 (And.intro ha17 (And.intro he20 (And.intro he21 (And.intro he28 (And.intro he29 (And.intro he30 (And.intro he31 he32)))))))))) (clQA (And.intro ha9 (And.intro ha12 (And.intro ha17 (And.intro he20 (And.intro he21 (And.intro he28 (And.intro he29 (And.intro he30 (And.intro he31 he32)))))))))) ?_
   refine spQA (And.intro ha9 (And.intro ha12 (And.intro ha17 (And.intro he20 (And.intro he21 (And.intro he28 (And.intro he29 (And.intro he30 (And.intro he31 he32))))))))) ?_
   refine hbindC_intro omQ ?_
   refine spQA (And.intro ha9 (And.intro ha12 (And.intro ha17 (And.intro he20 (And.intro he21 (And.intro he28 (And.intro he29 (And.intro he30 (And.intro he31 he32))))))))) ?_
   refine hbindC_intro omQ ?_
   refine spQA (And.intro ha9 (And.intro ha12 (And.intro ha17 (And.intro he20 (And.intro he21 (And.intro he28 (And.intro he29 (And.intro he30 (And.intro he31 he32))))))))) ?_
   have hM0 := hM; clear hM; obtain ⟨x35, hx36, hM⟩ := letk_opn hM0; clear hM0
   have hcx35 := cmH hx36 (specieref06_right_ok  (gt p17.2 0) 13 (by (exact pfQ)) (by (exact pfQ)))
   refine hcallC_give hcx35 (clQA (And.intro ha9 (And.intro ha12 (And.intro ha17 (And.intro he20 (And.intro he21 (And.intro he28 (And.intro he29 (And.intro he30 (And.intro he31 he32)))))))))) (clQA (And.intro ha9 (And.intro ha12 (And.intro ha17 (And.intro he20 (And.intro he21 (And.intro he28 (And.intro he29 (And.intro he30 (And.intro he31 he32)))))))))) ?_
   refine spQA (And.intro ha9 (And.intro ha12 (And.intro ha17 (And.intro he20 (And.intro he21 (And.intro he28 (And.intro he29 (And.intro he30 (And.intro he31 he32))))))))) ?_
   refine hbindC_intro omQ ?_
   refine spQA (And.intro ha9 (And.intro ha12 (And.intro ha17 (And.intro he20 (And.intro he21 (And.intro he28 (And.intro he29 (And.intro he30 (And.intro he31 he32))))))))) ?_
   refine hbindC_intro omQ ?_
   refine spQA (And.intro ha9 (And.intro ha12 (And.intro ha17 (And.intro he20 (And.intro he21 (And.intro he28 (And.intro he29 (And.intro he30 (And.intro he31 he32))))))))) ?_
   have hM0 := hM; clear hM; obtain ⟨x37, hx38, hM⟩ := letk_opn hM0; clear hM0
   have hcx37 := cmH hx38 (specieref06_right_ok  (gt p17.2 0) 22 (by (exact pfQ)) (by (exact pfQ)))
   refine hcallC_give hcx37 (clQA (And.intro ha9 (And.intro ha12 (And.intro ha17 (And.intro he20 (And.intro he21 (And.intro he28 (And.intro he29 (And.intro he30 (And.intro he31 he32)))))))))) (clQA (And.intro ha9 (And.intro ha12 (And.intro ha17 (And.intro he20 (And.intro he21 (And.intro he28 (And.intro he29 (And.intro he30 (And.intro he31 he32)))))))))) ?_
   refine spQA (And.intro ha9 (And.intro ha12 (And.intro ha17 (And.intro he20 (And.intro he21 (And.intro he28 (And.intro he29 (And.intro he30 (And.intro he31 he32))))))))) ?_
   refine hbindC_intro omQ ?_
   refine spQA (And.intro ha9 (And.intro ha12 (And.intro ha17 (And.intro he20 (And.intro he21 (And.intro he28 (And.intro he29 (And.intro he30 (And.intro he31 he32))))))))) ?_
   refine hbindC_intro omQ ?_
   refine spQA (And.intro ha9 (And.intro ha12 (And.intro ha17 (And.intro he20 (And.intro he21 (And.intro he28 (And.intro he29 (And.intro he30 (And.intro he31 he32))))))))) ?_
   refine hbindC_intro omQ ?_
   have he39 : ∀ d, elt (p17.2.map (V.int .u32)) 1 d = (V.int .u32) (gt p17.2 1) := fun d => elt_mp (l := p17.2) (f := (V.int .u32)) (i := 1) omQ d
   refine spQA (And.intro ha9 (And.intro ha12 (And.intro ha17 (And.intro he20 (And.intro he21 (And.intro he28 (And.intro he29 (And.intro he30 (And.intro he31 (And.intro he32 he39)))))))))) ?_
   refine hbindC_intro omQ ?_
   refine spQA (And.intro ha9 (And.intro ha12 (And.intro ha17 (And.intro he20 (And.intro he21 (And.intro he28 (And.intro he29 (And.intro he30 (And.intro he31 (And.intro he32 he39)))))))))) ?_
   refine hbindC_intro omQ ?_
   refine spQA (And.intro ha9 (And.intro ha12 (And.intro ha17 (And.intro he20 (And.intro he21 (And.intro he28 (And.intro he29 (And.intro he30 (And.intro he31 (And.intro he32 he39)))))))))) ?_
   refine hbindC_intro omQ ?_
   refine spQA (And.intro ha9 (And.intro ha12 (And.intro ha17 (And.intro he20 (And.intro he21 (And.intro he28 (And.intro he29 (And.intro he30 (And.intro he31 (And.intro he32 he39)))))))))) ?_
   refine hbindC_intro omQ ?_
   have he40 : ∀ d, elt (p17.2.map (V.int .u32)) 2 d = (V.int .u32) (gt p17.2 2) := fun d => elt_mp (l := p17.2) (f := (V.int .u32)) (i := 2) omQ d
   refine spQA (And.intro ha9 (And.intro ha12 (And.intro ha17 (And.intro he20 (And.intro he21 (And.intro he28 (And.intro he29 (And.intro he30 (And.intro he31 (And.intro he32 (And.intro he39 he40))))))))))) ?_
   refine hbindC_intro omQ ?_
   refine spQA (And.intro ha9 (And.intro ha12 (And.intro ha17 (And.intro he20 (And.intro he21 (And.intro he28 (And.intro he29 (And.intro he30 (And.intro he31 (And.intro he32 (And.intro he39 he40))))))))))) ?_
   refine hbindC_intro omQ ?_
   refine spQA (And.intro ha9 (And.intro ha12 (And.intro ha17 (And.intro he20 (And.intro he21 (And.intro he28 (And.intro he29 (And.intro he30 (And.intro he31 (And.intro he32 (And.intro he39 he40))))))))))) ?_
   refine hbindC_intro omQ ?_
   refine spQA (And.intro ha9 (And.intro ha12 (And.intro ha17 (And.intro he20 (And.intro he21 (And.intro he28 (And.intro he29 (And.intro he30 (And.intro he31 (And.intro he32 (And.intro he39 he40))))))))))) ?_
   refine hbindC_intro omQ ?_
   refine spQA (And.intro ha9 (And.intro ha12 (And.intro ha17 (And.intro he20 (And.intro he21 (And.intro he28 (And.intro he29 (And.intro he30 (And.intro he31 (And.intro he32 (And.intro he39 he40))))))))))) ?_
   refine hbindC_intro omQ ?_
   refine spQA (And.intro ha9 (And.intro ha12 (And.intro ha17 (And.intro he20 (And.intro he21 (And.intro he28 (And.intro he29 (And.intro he30 (And.intro he31 (And.intro he32 (And.intro he39 he40))))))))))) ?_
   refine ct_draw 182 26 [121, 122, 123, 124, 125, 126, 127, 128, 129, 130, 131, 132, 133, 134, 135, 136, 137, 138, 139, 140, 141, 142, 143, 144, 145, 146] [] ([[], [], [0, 1], [], [3], [3, 4], [], [6], [6, 7], [], [9], [9, 10], [], [12], [12, 13], [], [12, 13, 14, 15], [], [17], [17, 18], [], [20], [20, 21], [], [23], [23, 24]] ++ [List.range 26, List.range 27]) [] (by kernel_rfl) (by exact alQ) ?_
   refine spQA (And.intro ha9 (And.intro ha12 (And.intro ha17 (And.intro he20 (And.intro he21 (And.intro he28 (And.intro he29 (And.intro he30 (And.intro he31 (And.intro he32 (And.intro he39 he40))))))))))) ?_
   refine hbindC_intro omQ ?_
   refine spQA (And.intro ha9 (And.intro ha12 (And.intro ha17 (And.intro he20 (And.intro he21 (And.intro he28 (And.intro he29 (And.intro he30 (And.intro he31 (And.intro he32 (And.intro he39 he40))))))))))) ?_
   refine hbindC_intro omQ ?_
   refine spQA (And.intro ha9 (And.intro ha12 (And.intro ha17 (And.intro he20 (And.intro he21 (And.intro he28 (And.intro he29 (And.intro he30 (And.intro he31 (And.intro he32 (And.intro he39 he40))))))))))) ?_
   refine hbindC_intro omQ ?_
   refine spQA (And.intro ha9 (And.intro ha12 (And.intro ha17 (And.intro he20 (And.intro he21 (And.intro he28 (And.intro he29 (And.intro he30 (And.intro he31 (And.intro he32 (And.intro he39 he40))))))))))) ?_
   refine hbindC_intro omQ ?_
   refine spQA (And.intro ha9 (And.intro ha12 (And.intro ha17 (And.intro he20 (And.intro he21 (And.intro he28 (And.intro he29 (And.intro he30 (And.intro he31 (And.intro he32 (And.intro he39 he40))))))))))) ?_
   refine hbindC_intro omQ ?_
   refine spQA (And.intro ha9 (And.intro ha12 (And.intro ha17 (And.intro he20 (And.intro he21 (And.intro he28 (And.intro he29 (And.intro he30 (And.intro he31 (And.intro he32 (And.intro he39 he40))))))))))) ?_
   refine hbindC_intro omQ ?_
   refine spQA (And.intro ha9 (And.intro ha12 (And.intro ha17 (And.intro he20 (And.intro he21 (And.intro he28 (And.intro he29 (And.intro he30 (And.intro he31 (And.intro he32 (And.intro he39 he40))))))))))) ?_
   refine hbindC_intro omQ ?_
   have he41 : ∀ d, elt (p17.2.map (V.int .u32)) 3 d = (V.int .u32) (gt p17.2 3) := fun d => elt_mp (l := p17.2) (f := (V.int .u32)) (i := 3) omQ d
   refine spQA (And.intro ha9 (And.intro ha12 (And.intro ha17 (And.intro he20 (And.intro he21 (And.intro he28 (And.intro he29 (And.intro he30 (And.intro he31 (And.intro he32 (And.intro he39 (And.intro he40 he41)))))))))))) ?_
   refine hbindC_intro omQ ?_
   refine spQA (And.intro ha9 (And.intro ha12 (And.intro ha17 (And.intro he20 (And.intro he21 (And.intro he28 (And.intro he29 (And.intro he30 (And.intro he31 (And.intro he32 (And.intro he39 (And.intro he40 he41)))))))))))) ?_
   refine hbindC_intro omQ ?_
   refine spQA (And.intro ha9 (And.intro ha12 (And.intro ha17 (And.intro he20 (And.intro he21 (And.intro he28 (And.intro he29 (And.intro he30 (And.intro he31 (And.intro he32 (And.intro he39 (And.intro he40 he41)))))))))))) ?_
   refine hbindC_intro omQ ?_
   refine spQA (And.intro ha9 (And.intro ha12 (And.intro ha17 (And.intro he20 (And.intro he21 (And.intro he28 (And.intro he29 (And.intro he30 (And.intro he31 (And.intro he32 (And.intro he39 (And.intro he40 he41)))))))))))) ?_
   refine hbindC_intro omQ ?_
   refine spQA (And.intro ha9 (And.intro ha12 (And.intro ha17 (And.intro he20 (And.intro he21 (And.intro he28 (And.intro he29 (And.intro he30 (And.intro he31 (And.intro he32 (And.intro he39 (And.intro he40 he41)))))))))))) ?_
   refine hbindC_intro omQ ?_
   refine spQA (And.intro ha9 (And.intro ha12 (And.intro ha17 (And.intro he20 (And.intro he21 (And.intro he28 (And.intro he29 (And.intro he30 (And.intro he31 (And.intro he32 (And.intro he39 (And.intro he40 he41)))))))))))) ?_
   refine hbindC_intro omQ ?_
   refine spQA (And.intro ha9 (And.intro ha12 (And.intro ha17 (And.intro he20 (And.intro he21 (And.intro he28 (And.intro he29 (And.intro he30 (And.intro he31 (And.intro he32 (And.intro he39 (And.intro he40 he41)))))))))))) ?_
   refine hbindC_intro omQ ?_
   refine spQA (And.intro ha9 (And.intro ha12 (And.intro ha17 (And.intro he20 (And.intro he21 (And.intro he28 (And.intro he29 (And.intro he30 (And.intro he31 (And.intro he32 (And.intro he39 (And.intro he40 he41)))))))))))) ?_
   refine lp_introW (n17 - 1) _ _ (by omega) (weak_ren (S := ⟨_, _, _⟩) 8 2 110 (T := 130) (n := 1) (g := false) (z := (some false)) (l := ([(addI .u32 (addI .u32 (addI .u32 (addI .u32 (addI .u32 (gt p17.2 7) (xorI .u32 (xorI .u32 x22 x24) x26)) (xorI .u32 (andI .u32 (gt p17.2 4) (gt p17.2 5)) (andI .u32 (notI .u32 (gt p17.2 4)) (gt p17.2 6)))) (gt x1 p17.1)) (gt x13 p17.1)) (addI .u32 (xorI .u32 (xorI .u32 x33 x35) x37) (xorI .u32 (xorI .u32 (andI .u32 (gt p17.2 0) (gt p17.2 1)) (andI .u32 (gt p17.2 0) (gt p17.2 2))) (andI .u32 (gt p17.2 1) (gt p17.2 2))))), (gt p17.2 0), (gt p17.2 1), (gt p17.2 2), (addI .u32 (gt p17.2 3) (addI .u32 (addI .u32 (addI .u32 (addI .u32 (gt p17.2 7) (xorI .u32 (xorI .u32 x22 x24) x26)) (xorI .u32 (andI .u32 (gt p17.2 4) (gt p17.2 5)) (andI .u32 (notI .u32 (gt p17.2 4)) (gt p17.2 6)))) (gt x1 p17.1)) (gt x13 p17.1))), (gt p17.2 4), (gt p17.2 5), (gt p17.2 6)] : List Int).map (V.int .u32)) (clQA (And.intro ha9 (And.intro ha12 (And.intro ha17 (And.intro he20 (And.intro he21 (And.intro he28 (And.intro he29 (And.intro he30 (And.intro he31 (And.intro he32 (And.intro he39 (And.intro he40 he41))))))))))))) (clQA (And.intro ha9 (And.intro ha12 (And.intro ha17 (And.intro he20 (And.intro he21 (And.intro he28 (And.intro he29 (And.intro he30 (And.intro he31 (And.intro he32 (And.intro he39 (And.intro he40 he41))))))))))))) (by first | decide | (dsimp only; decide)) (by decide)) sbQ sbQ ⟨((p17.1 + 1), ([(addI .u32 (addI .u32 (addI .u32 (addI .u32 (addI .u32 (gt p17.2 7) (xorI .u32 (xorI .u32 x22 x24) x26)) (xorI .u32 (andI .u32 (gt p17.2 4) (gt p17.2 5)) (andI .u32 (notI .u32 (gt p17.2 4)) (gt p17.2 6)))) (gt x1 p17.1)) (gt x13 p17.1)) (addI .u32 (xorI .u32 (xorI .u32 x33 x35) x37) (xorI .u32 (xorI .u32 (andI .u32 (gt p17.2 0) (gt p17.2 1)) (andI .u32 (gt p17.2 0) (gt p17.2 2))) (andI .u32 (gt p17.2 1) (gt p17.2 2))))), (gt p17.2 0), (gt p17.2 1), (gt p17.2 2), (addI .u32 (gt p17.2 3) (addI .u32 (addI .u32 (addI .u32 (addI .u32 (gt p17.2 7) (xorI .u32 (xorI .u32 x22 x24) x26)) (xorI .u32 (andI .u32 (gt p17.2 4) (gt p17.2 5)) (andI .u32 (notI .u32 (gt p17.2 4)) (gt p17.2 6)))) (gt x1 p17.1)) (gt x13 p17.1))), (gt p17.2 4), (gt p17.2 5), (gt p17.2 6)] : List Int)), rfl, ⟨omQ, omQ, omQ, omQ⟩, omQ, iter_again hM hag17⟩
  ·rw [if_neg (ne_true h18)] at hM
   refine spQA (And.intro ha9 (And.intro ha12 (And.intro ha17 h18))) ?_
   have nh18 := nzQ h18
   try have hr42 := mpQ nh18
   have hM0 := hM; clear hM; obtain ⟨f43, d43, hf43, hd43, hM⟩ := iter_opn hM0; clear hM0
   refine ct_loop (fun n S => ∃ p : Int × List Int, S = (⟨[(2, .ptr 0 0), (3, .own 1), (4, .sl none 1 false (x1.map (V.int .u32))), (5, .sl none 1 false (x5.map (V.int .u8))), (6, .int .i64 p9.1), (8, .own 2), (12, .int .i64 p.1)], [(0, .var 32 true (zv_40)), (1, .own 130 1 false none (p.2.map (V.int .u32))), (2, .own 130 1 false none (p17.2.map (V.int .u32)))], 3⟩ : St) ∧ ((0 ≤ p.1) ∧ (p.1 ≤ 8) ∧ ((p.2).length = (p9.2).length)) ∧ ((8 : Int) - p.1).toNat < n ∧ iter n f43 d43 p = r) (((8 : Int) - 0).toNat + 1) _ sbQ sbQ ⟨(0, p9.2), rfl, ⟨omQ, omQ, omQ⟩, (Nat.lt_succ_self _), hM⟩ ?_
   clear hM
   rintro n43 S ⟨p43, rfl, hfa43, hm43, hM⟩
   have hM0 := hM; clear hM; obtain ⟨ag43, hag43, hM⟩ := iter_step hM0 (by omega) hf43; clear hM0
   replace hfa43 := nzQ hfa43
   replace hm43 := nzQ hm43
   have ha43 : addI .i64 p43.1 1 = p43.1 + 1 := add_one omQ omQ
   refine spQA (And.intro ha9 (And.intro ha12 (And.intro ha17 ha43))) ?_
   have hF := (And.intro ha9 (And.intro h10 (And.intro ha12 (And.intro ha17 (And.intro h18 ha43)))))
   exact auQ
 ·rw [if_neg (ne_true h10)] at hM
  refine spQA (And.intro ha9 h10) ?_
  have nh10 := nzQ h10
  try have hr50 := mpQ nh10
  have hM0 := hM; clear hM; obtain ⟨f51, d51, hf51, hd51, hM⟩ := iter_opn hM0; clear hM0
  refine ct_loop (fun n S => ∃ p : Int × (List Int), S = (⟨[(2, .ptr 0 0), (3, .own 1), (13, .ptr 2 0), (14, .int .i64 p.1)], [(0, .var 32 true (zv_40)), (1, .own 130 1 false none (p9.2.map (V.int .u32))), (2, .var 32 true ((e_arr40 p.2)))], 3⟩ : St) ∧ ((0 ≤ p.1) ∧ (p.1 ≤ 32)) ∧ ((32 : Int) - p.1).toNat < n ∧ iter n f51 d51 p = r) (((32 : Int) - 0).toNat + 1) _ sbQ (by simp only [go_sem, rowV_eq, rowV_eq0, List.length_replicate, rep_len, Int.toNat_natCast, ↓reduceIte, Nat.reduceEqDiff, Nat.reduceAdd, Int.reduceAdd, Nat.reduceMul, Nat.reduceLeDiff, Nat.reduceLT, Int.reduceLE, Int.reduceLT, Int.reduceNeg, Int.reduceToNat, List.isEmpty_nil, map_st, mtL_repE, mtL_repM, subF, subH, mtO, mtB, mt, mtL, mtL_self, mt_self, ltV, ltL, ltB, eq_self, or_true, true_or, or_self, and_self, gt_cons0, gt_conss, Int.reduceSub]) ⟨(0, [0, 0, 0, 0, 0, 0, 0, 0, 0, 0, 0, 0, 0, 0, 0, 0, 0, 0, 0, 0, 0, 0, 0, 0, 0, 0, 0, 0, 0, 0, 0, 0]), rfl, ⟨omQ, omQ⟩, (Nat.lt_succ_self _), hM⟩ ?_
  clear hM
  rintro n51 S ⟨p51, rfl, hfa51, hm51, hM⟩
  have hM0 := hM; clear hM; obtain ⟨ag51, hag51, hM⟩ := iter_step hM0 (by omega) hf51; clear hM0
  replace hfa51 := nzQ hfa51
  replace hm51 := nzQ hm51
  have ha51 : addI .i64 p51.1 1 = p51.1 + 1 := add_one omQ omQ
  refine spQA (And.intro ha9 ha51) ?_
  refine condC_intro (fun h52 => ?_) (fun h52 => ?_)
  ·rw [if_pos h52] at hM
   refine spQA (And.intro ha9 (And.intro ha51 h52)) ?_
   have nh52 := nzQ h52
   try have hr53 := mpQ nh52
   have ha54 : quoI .i64 p51.1 4 = (p51.1 / 4) := quo_ok omQ omQ
   try simp only [ha54]
   refine bindC_intro omQ ?_
   refine spQA (And.intro ha9 (And.intro ha51 ha54)) ?_
   refine bindC_intro omQ ?_
   have he55 := fun d => elt_mp (l := p9.2) (f := (V.int .u32)) (i := (p51.1 / 4)) omQ d
   refine spQA (And.intro ha9 (And.intro ha51 (And.intro ha54 he55))) ?_
   refine bindC_intro omQ ?_
   refine spQA (And.intro ha9 (And.intro ha51 (And.intro ha54 he55))) ?_
   have ha56 : remI .i64 p51.1 4 = (p51.1 % 4) := rem_ok omQ omQ
   try simp only [ha56]
   refine bindC_intro omQ ?_
   refine spQA (And.intro ha9 (And.intro ha51 (And.intro ha54 (And.intro he55 ha56)))) ?_
   obtain ⟨ha57, hbha57⟩ := mul_pos_ok (a := 8) (b := (p51.1 % 4)) 8 64 512 omQ omQ omQ omQ (by decide) (by decide)
   try simp only [ha57]
   have ha58 : subI .i64 24 (8 * (p51.1 % 4)) = (24 - (8 * (p51.1 % 4))) := sub_ok omQ omQ
   try simp only [ha58]
   refine bindC_intro omQ ?_
   refine spQA (And.intro ha9 (And.intro ha51 (And.intro ha54 (And.intro he55 (And.intro ha56 (And.intro ha57 ha58)))))) ?_
   refine bindC_intro omQ ?_
   have he59 : ((p51.1).toNat * 1 + 1 ≤ 32) = True := eq_true omQ
   refine spQA (And.intro ha9 (And.intro ha51 (And.intro ha54 (And.intro he55 (And.intro ha56 (And.intro ha57 (And.intro ha58 he59))))))) ?_
   have he60 := arr_put (f := (V.int .u8)) (l := (arrN 32 p51.2)) (n := 32) (i := p51.1) (v := (convI .u8 (shrI .u32 (gt p9.2 (p51.1 / 4)) (24 - (8 * (p51.1 % 4)))))) arrN_len omQ
   replace he60 := spR he60
   refine spQA (And.intro ha9 (And.intro ha51 (And.intro ha54 (And.intro he55 (And.intro ha56 (And.intro ha57 (And.intro ha58 (And.intro he59 he60)))))))) ?_
   refine lp_intro (n51 - 1) _ (by omega) sbQ (by simp only [go_sem, rowV_eq, rowV_eq0, List.length_replicate, rep_len, Int.toNat_natCast, ↓reduceIte, Nat.reduceEqDiff, Nat.reduceAdd, Int.reduceAdd, Nat.reduceMul, Nat.reduceLeDiff, Nat.reduceLT, Int.reduceLE, Int.reduceLT, Int.reduceNeg, Int.reduceToNat, List.isEmpty_nil, map_st, mtL_repE, mtL_repM, subF, subH, mtO, mtB, mt, mtL, mtL_self, mt_self, ltV, ltL, ltB, eq_self, or_true, true_or, or_self, and_self, gt_cons0, gt_conss, Int.reduceSub]) ⟨((p51.1 + 1), (arrN 32 (st (arrN 32 p51.2) p51.1 (convI .u8 (shrI .u32 (gt p9.2 (p51.1 / 4)) (24 - (8 * (p51.1 % 4)))))))), rfl, ⟨omQ, omQ⟩, omQ, iter_again hM hag51⟩
  ·rw [if_neg (ne_true h52)] at hM
   refine spQA (And.intro ha9 (And.intro ha51 h52)) ?_
   have nh52 := nzQ h52
   try have hr61 := mpQ nh52
   subst hM
   exact retC_view (lfQA (And.intro ha9 (And.intro ha51 (And.intro h10 h52))))
set_option maxHeartbeats 2000000 in
set_option maxRecDepth 100000 in
theorem specieref06_Join_ok   (b : (List Int)) (h_ : (List Int)) (hp0 : b.length ≤ 1000000000) : CM En (specieref06_Join b h_) 121 [.sl none 1 false (b.map (V.int .u8)), (e_arr40 h_)] (fun _ => .own 0) (fun y => [.own 5 1 false none (y.map (V.int .u8))]) := by
 refine cmQ fun r hM => ?_
 rw [specieref06_Join.eq_1] at hM
 refine enterV En_ok En_mo noJ Tryz.func121 rfl Tryz.ntmps121 (by kernel_rfl) fun hw => ct_start ?_
 refine spQ ?_
 replace hw := nzQ hw
 refine bindC_intro omQ ?_
 refine spQ ?_
 have hM0 := hM; clear hM; obtain ⟨f1, d1, hf1, hd1, hM⟩ := iter_opn hM0; clear hM0
 refine ct_loop (fun n S => ∃ p : Int × List Int, S = (⟨[(3, .ptr 0 0), (5, .own 1), (6, .int .i64 p.1)], [(0, .var 32 true ((e_arr40 h_))), (1, .own 5 1 false none (p.2.map (V.int .u8)))], 2⟩ : St) ∧ ((0 ≤ p.1) ∧ (p.1 ≤ 32) ∧ (((p.2).length : Int) ≤ p.1 + ((([] : List Int) ++ b)).length)) ∧ ((32 : Int) - p.1).toNat < n ∧ iter n f1 d1 p = r) (((32 : Int) - 0).toNat + 1) _ sbQ sbQ ⟨(0, (([] : List Int) ++ b)), rfl, ⟨omQ, omQ, omQ⟩, (Nat.lt_succ_self _), hM⟩ ?_
 clear hM
 rintro n1 S ⟨p1, rfl, hfa1, hm1, hM⟩
 have hM0 := hM; clear hM; obtain ⟨ag1, hag1, hM⟩ := iter_step hM0 (by omega) hf1; clear hM0
 replace hfa1 := nzQ hfa1
 replace hm1 := nzQ hm1
 have ha1 : addI .i64 p1.1 1 = p1.1 + 1 := add_one omQ omQ
 refine spQA ha1 ?_
 refine condC_intro (fun h2 => ?_) (fun h2 => ?_)
 ·rw [if_pos h2] at hM
  refine spQA (And.intro ha1 h2) ?_
  have nh2 := nzQ h2
  try have hr3 := mpQ nh2
  refine bindC_intro omQ ?_
  have he4 : ((p1.1).toNat * 1 + 1 ≤ 32) = True := eq_true omQ
  refine spQA (And.intro ha1 he4) ?_
  have he5 := arr_get (f := (V.int .u8)) (l := h_) (n := 32) (i := p1.1) omQ
  replace he5 := spR he5
  try refine spQA (And.intro ha1 (And.intro he4 he5)) ?_
  have hF := (And.intro ha1 (And.intro h2 (And.intro he4 he5)))
  exact auQ
 ·rw [if_neg (ne_true h2)] at hM
  refine spQA (And.intro ha1 h2) ?_
  have nh2 := nzQ h2
  try have hr6 := mpQ nh2
  subst hM
  exact retC_owns [1] (bs := [.own 5 1 false none (p1.2.map (V.int .u8))]) (clQA ha1) (by decide) (lfQA (And.intro ha1 h2))
set_option maxHeartbeats 2000000 in
set_option maxRecDepth 100000 in
theorem specieref06_Tagged_ok   (tag : (List UInt8)) (b : (List Int)) (hp0 : b.length ≤ 900000000) (hp1 : tag.length ≤ 1000) : CM En (specieref06_Tagged tag b) 83 [.str tag, .sl none 1 false (b.map (V.int .u8))] (fun y => (e_arr40 y)) (fun _ => []) := by
 refine cmQ fun r hM => ?_
 rw [specieref06_Tagged.eq_1] at hM
 refine enterV En_ok En_mo noJ Tryz.func83 rfl Tryz.ntmps83 (by kernel_rfl) fun hw => ct_start ?_
 refine spQ ?_
 replace hw := nzQ hw
 have hM0 := hM; clear hM; obtain ⟨x1, hx2, hM⟩ := letk_opn hM0; clear hM0
 have hcx1 := cmH hx2 (specieref06_Sum_ok  (nat8 tag) (by (exact pfQ)))
 refine callC_look hcx1 clQ clQ (fun hw3 => ?_)
 replace hw3 := nzQ hw3
 refine spQ ?_
 refine ct_draw 16 5 [9, 10, 11, 12, 13] [] ([[], [0], [], [0, 1, 2], []] ++ [List.range 5, List.range 6, List.range 7]) [] (by kernel_rfl) (by exact alQ) ?_
 refine spQ ?_
 have hM0 := hM; clear hM; obtain ⟨x4, hx5, hM⟩ := letk_opn hM0; clear hM0
 have hcx4 := CallOk.pub (cmH hx5 (specieref06_Join_ok  ([] : List Int) x1 (by (exact pfQ))))
 refine hcallC_give hcx4 clQ clQ ?_
 refine spQ ?_
 have hq6 := nzQ (cfU hx5)
 have hM0 := hM; clear hM; obtain ⟨x7, hx8, hM⟩ := letk_opn hM0; clear hM0
 have hcx7 := cmH hx8 (specieref06_Join_ok  x4 x1 (by (exact pfQ)))
 refine hcallC_own hcx7 clQ clQ ?_
 refine spQ ?_
 have hq9 := nzQ (cfU hx8)
 refine bindC_intro omQ ?_
 refine spQ ?_
 have hM0 := hM; clear hM; obtain ⟨x10, hx11, hM⟩ := letk_opn hM0; clear hM0
 have hcx10 := cmH hx11 (specieref06_Sum_ok  (x7 ++ b) (by (exact pfQ)))
 refine callC_look hcx10 clQ clQ (fun hw12 => ?_)
 replace hw12 := nzQ hw12
 refine spQ ?_
 subst hM
 exact retC_view lfQ
set_option maxHeartbeats 2000000 in
set_option maxRecDepth 100000 in
theorem specieref01_Reduce_ok   (a_ : Int) (m : Int) (hp0 : 1 ≤ m) (hp1 : m < 2305843009213693952) : CM En (specieref01_Reduce a_ m) 80 [.int .i64 a_, .int .i64 m] (fun y => .int .i64 y) (fun _ => []) := by
 refine cmQ fun r hM => ?_
 rw [specieref01_Reduce.eq_1] at hM
 refine enterV En_ok En_mo noJ Tryz.func80 rfl Tryz.ntmps80 (by kernel_rfl) fun hw => ct_start ?_
 refine spQ ?_
 replace hw := nzQ hw
 have hF := trueQ
 exact auQ
set_option maxHeartbeats 2000000 in
set_option maxRecDepth 100000 in
theorem specieref06_Number_ok   (h_ : (List Int)) (m : Int) (hp0 : 1 ≤ m) (hp1 : m < 2305843009213693952) : CM En (specieref06_Number h_ m) 112 [(e_arr40 h_), .int .i64 m] (fun y => .int .i64 y) (fun _ => []) := by
 refine cmQ fun r hM => ?_
 rw [specieref06_Number.eq_1] at hM
 refine enterV En_ok En_mo noJ Tryz.func112 rfl Tryz.ntmps112 (by kernel_rfl) fun hw => ct_start ?_
 refine spQ ?_
 replace hw := nzQ hw
 have h0_0 := rem256_rng (m := m) (by omega)
 have hM0 := hM; clear hM; obtain ⟨f1, d1, hf1, hd1, hM⟩ := iter_opn hM0; clear hM0
 refine ct_loop (fun n S => ∃ p : Int × Int, S = (⟨[(1, .int .i64 m), (2, .ptr 0 0), (5, .int .i64 p.1), (6, .int .i64 p.2)], [(0, .var 32 true ((e_arr40 h_)))], 1⟩ : St) ∧ ((0 ≤ p.2) ∧ (p.2 ≤ 16) ∧ (0 ≤ p.1) ∧ (p.1 < m)) ∧ ((16 : Int) - p.2).toNat < n ∧ iter n f1 d1 p = r) (((16 : Int) - 0).toNat + 1) _ sbQ sbQ ⟨(0, 0), rfl, ⟨by (first | exact omQ | (clear hM; first | (have h9 := byte_conv (i := p1.2) hw.1 (by omega) (by omega); exact omQ'))), by (first | exact omQ | (clear hM; first | (have h9 := byte_conv (i := p1.2) hw.1 (by omega) (by omega); exact omQ'))), by (first | exact omQ | (clear hM; first | (have h9 := byte_conv (i := p1.2) hw.1 (by omega) (by omega); exact omQ'))), by (first | exact omQ | (clear hM; first | (have h9 := byte_conv (i := p1.2) hw.1 (by omega) (by omega); exact omQ')))⟩, (Nat.lt_succ_self _), hM⟩ ?_
 clear hM
 rintro n1 S ⟨p1, rfl, hfa1, hm1, hM⟩
 have hM0 := hM; clear hM; obtain ⟨ag1, hag1, hM⟩ := iter_step hM0 (by omega) hf1; clear hM0
 replace hfa1 := nzQ hfa1
 replace hm1 := nzQ hm1
 have ha1 : addI .i64 p1.2 1 = p1.2 + 1 := add_one (by (first | exact omQ | (clear hM; first | (have h9 := byte_conv (i := p1.2) hw.1 (by omega) (by omega); exact omQ')))) (by (first | exact omQ | (clear hM; first | (have h9 := byte_conv (i := p1.2) hw.1 (by omega) (by omega); exact omQ'))))
 refine spQA ha1 ?_
 refine condC_intro (fun h2 => ?_) (fun h2 => ?_)
 ·rw [if_pos h2] at hM
  refine spQA (And.intro ha1 h2) ?_
  have nh2 := nzQ h2
  try have hr3 := mpQ nh2
  refine ct_draw 24 11 [11, 12, 13, 14, 15, 16, 17, 18, 19, 20, 21] [] ([[], [], [1], [], [0, 1, 2, 3], [], [5], [5, 6], [5, 6, 7], [0, 1, 2, 3, 4, 5, 6, 7, 8], []] ++ [List.range 11, List.range 12]) [] (by kernel_rfl) (by exact alQ) ?_
  refine spQA ha1 ?_
  refine hbindC_intro (by (first | exact omQ | (clear hM; first | (have h9 := byte_conv (i := p1.2) hw.1 (by omega) (by omega); exact omQ')))) ?_
  refine spQA ha1 ?_
  have hM0 := hM; clear hM; obtain ⟨x4, hx5, hM⟩ := letk_opn hM0; clear hM0
  have hcx4 := cmH hx5 (specieref01_Mul_ok  (p1.1) (remI .i64 256 m) m (by (exact pfQ)) (by (exact pfQ)) (by (exact pfQ)) (by (exact pfQ)))
  refine hcallC_give hcx4 (clQA ha1) (clQA ha1) ?_
  refine spQA ha1 ?_
  have hq6 := rmul_rng hx5 (by omega) (by omega) (by omega)
  replace hq6 := nzQ hq6
  refine hbindC_intro (by (first | exact omQ | (clear hM; first | (have h9 := byte_conv (i := p1.2) hw.1 (by omega) (by omega); exact omQ')))) ?_
  have he7 : ((p1.2).toNat * 1 + 1 ≤ 32) = True := eq_true (by (first | exact omQ | (clear hM; first | (have h9 := byte_conv (i := p1.2) hw.1 (by omega) (by omega); exact omQ'))))
  refine spQA (And.intro ha1 he7) ?_
  have he8 := arr_get (f := (V.int .u8)) (l := h_) (n := 32) (i := p1.2) (by (first | exact omQ | (clear hM; first | (have h9 := byte_conv (i := p1.2) hw.1 (by omega) (by omega); exact omQ'))))
  replace he8 := spR he8
  try refine spQA (And.intro ha1 (And.intro he7 he8)) ?_
  have ha9 : addI .i64 x4 (convI .i64 (gt h_ p1.2)) = (x4 + (convI .i64 (gt h_ p1.2))) := add_ok (by (first | exact omQ | (clear hM; first | (have h9 := byte_conv (i := p1.2) hw.1 (by omega) (by omega); exact omQ')))) (by (first | exact omQ | (clear hM; first | (have h9 := byte_conv (i := p1.2) hw.1 (by omega) (by omega); exact omQ'))))
  try simp only [ha9]
  have hM0 := hM; clear hM; obtain ⟨x10, hx11, hM⟩ := letk_opn hM0; clear hM0
  have hcx10 := cmH hx11 (specieref01_Reduce_ok  (x4 + (convI .i64 (gt h_ p1.2))) m (by (exact pfQ)) (by (exact pfQ)))
  refine callC_give hcx10 (clQA (And.intro ha1 (And.intro he7 (And.intro he8 ha9)))) (clQA (And.intro ha1 (And.intro he7 (And.intro he8 ha9)))) (fun hw12 => ?_)
  replace hw12 := nzQ hw12
  refine spQA (And.intro ha1 (And.intro he7 (And.intro he8 ha9))) ?_
  have hq13 := rred_rng hx11 (by omega) (by omega)
  replace hq13 := nzQ hq13
  refine lp_intro (n1 - 1) _ (by omega) sbQ sbQ ⟨(x10, (p1.2 + 1)), rfl, ⟨by (first | exact omQ | (clear hM; first | (have h9 := byte_conv (i := (p1.2 + 1)) hw.1 (by omega) (by omega); exact omQ'))), by (first | exact omQ | (clear hM; first | (have h9 := byte_conv (i := (p1.2 + 1)) hw.1 (by omega) (by omega); exact omQ'))), by (first | exact omQ | (clear hM; first | (have h9 := byte_conv (i := (p1.2 + 1)) hw.1 (by omega) (by omega); exact omQ'))), by (first | exact omQ | (clear hM; first | (have h9 := byte_conv (i := (p1.2 + 1)) hw.1 (by omega) (by omega); exact omQ')))⟩, by (first | exact omQ | (clear hM; first | (have h9 := byte_conv (i := (p1.2 + 1)) hw.1 (by omega) (by omega); exact omQ'))), iter_again hM hag1⟩
 ·rw [if_neg (ne_true h2)] at hM
  refine spQA (And.intro ha1 h2) ?_
  have nh2 := nzQ h2
  try have hr14 := mpQ nh2
  subst hM
  exact retC_view (lfQA (And.intro ha1 h2))
set_option maxHeartbeats 2000000 in
set_option maxRecDepth 100000 in
theorem specieref11_Candidate_ok   (g : S_api_Group) (label : (List UInt8)) (b : (List Int)) (i_ : Int) (hp0 : 1 ≤ g.Q) (hp1 : 1 ≤ g.P) (hp2 : g.P < 2305843009213693952) (hp3 : label.length ≤ 100) (hp4 : b.length ≤ 1000) : CM En (specieref11_Candidate g label b i_) 70 [.agg [.int .i64 g.P, .int .i64 g.Q, .int .i64 g.G], .str label, .sl none 1 false (b.map (V.int .u8)), .int .i64 i_] (fun y => .int .i64 y) (fun _ => []) := by
 refine cmQ fun r hM => ?_
 rw [specieref11_Candidate.eq_1] at hM
 refine enterV En_ok En_mo noJ Tryz.func70 rfl Tryz.ntmps70 (by kernel_rfl) fun hw => ct_start ?_
 refine spQ ?_
 replace hw := nzQ hw
 have h0_0 := len_map8 b
 refine ct_draw 45 19 [9, 11, 12, 13, 14, 15, 16, 17, 18, 19, 20, 21, 22, 23, 24, 25, 26, 27, 28] [] ([[], [0], [0, 1], [], [3], [3, 4], [], [6], [6, 7], [], [9], [], [11], [11, 12], [], [14], [0, 1, 2, 3, 4, 5, 6, 7, 8, 9, 10, 11, 12, 13, 14, 15], [0, 1, 2, 3, 4, 5, 6, 7, 8, 9, 10, 11, 12, 13, 14, 15, 16], []] ++ [List.range 19]) [(16, 17)] (by kernel_rfl) (by exact alQ) ?_
 refine spQ ?_
 have hM0 := hM; clear hM; obtain ⟨x1, hx2, hM⟩ := letk_opn hM0; clear hM0
 have hcx1 := cmU hx2
 refine hcallC_give hcx1 clQ clQ ?_
 refine spQ ?_
 have hq3 := hgt_rint hx2
 replace hq3 := nzQ hq3
 have hM0 := hM; clear hM; obtain ⟨x4, hx5, hM⟩ := letk_opn hM0; clear hM0
 have hcx4 := cmU hx5
 refine hcallC_give hcx4 clQ clQ ?_
 refine spQ ?_
 have hq6 := hgt_rint hx5
 replace hq6 := nzQ hq6
 have hM0 := hM; clear hM; obtain ⟨x7, hx8, hM⟩ := letk_opn hM0; clear hM0
 have hcx7 := cmU hx8
 refine hcallC_give hcx7 clQ clQ ?_
 refine spQ ?_
 have hq9 := hgt_rint hx8
 replace hq9 := nzQ hq9
 have hM0 := hM; clear hM; obtain ⟨x10, hx11, hM⟩ := letk_opn hM0; clear hM0
 have hcx10 := cmU hx11
 refine hcallC_give hcx10 clQ clQ ?_
 refine spQ ?_
 have hq12 := hgt_rtext hx11
 replace hq12 := nzQ hq12
 refine hbindC_intro (by (first | exact ⟨allU8_map, omQ⟩ | exact trivial | (refine ⟨?_, ?_⟩ <;> first | exact trivial | (simp only [List.length_cons, List.length_nil]; omega)))) ?_
 refine spQ ?_
 have hM0 := hM; clear hM; obtain ⟨x13, hx14, hM⟩ := letk_opn hM0; clear hM0
 have hcx13 := cmU hx14
 refine hcallC_give hcx13 clQ clQ ?_
 refine spQ ?_
 have hq15 := hgt_rtext hx14
 replace hq15 := nzQ hq15
 have hM0 := hM; clear hM; obtain ⟨x16, hx17, hM⟩ := letk_opn hM0; clear hM0
 have hcx16 := cmU hx17
 refine hcallC_give hcx16 clQ clQ ?_
 refine spQ ?_
 have hq18 := hgt_rint hx17
 replace hq18 := nzQ hq18
 have hM0 := hM; clear hM; obtain ⟨x19, hx20, hM⟩ := letk_opn hM0; clear hM0
 have hcx19 := encI_ok  ({ Kind := 3, N := 0, B := ([] : List Int), L := ([x1, x4, x7, x10, x13, x16] : List S_api_Item) } : S_api_Item) (by (exact renc6h (by omega)))
 rw [← hx20] at hcx19
 refine callC_give hcx19 clQ clQ (fun hw21 => ?_)
 replace hw21 := nzQ hw21
 refine spQ ?_
 have hq22 := renc6 hx20 (by omega)
 replace hq22 := nzQ hq22
 have hM0 := hM; clear hM; obtain ⟨x23, hx24, hM⟩ := letk_opn hM0; clear hM0
 have hcx23 := cmH hx24 (specieref06_Tagged_ok  ([115, 112, 101, 99, 105, 101, 47, 101, 108, 101, 109, 101, 110, 116]) x19 (by (first | decide | omega)) (by (first | decide | omega)))
 refine callC_give hcx23 clQ clQ (fun hw25 => ?_)
 replace hw25 := nzQ hw25
 refine spQ ?_
 refine ct_draw 45 12 [32, 33, 34, 35, 36, 37, 38, 39, 40, 41, 42, 43] [] ([[], [], [1], [0, 1, 2], [], [4], [4, 5], [], [7], [4, 5, 6, 7, 8], [], [10]] ++ [List.range 12, List.range 13]) [] (by kernel_rfl) (by exact alQ) ?_
 refine spQ ?_
 have hM0 := hM; clear hM; obtain ⟨x26, hx27, hM⟩ := letk_opn hM0; clear hM0
 have hcx26 := cmH hx27 (specieref06_Number_ok  x23 (g.P) (by (first | exact hp1 | exact hp2)) (by (first | exact hp1 | exact hp2)))
 refine hcallC_give hcx26 clQ clQ ?_
 refine spQ ?_
 have hq28 := rnum_rng hx27 hp1 hp2
 replace hq28 := nzQ hq28
 refine hbindC_intro omQ ?_
 refine spQ ?_
 have hM0 := hM; clear hM; obtain ⟨x29, hx30, hM⟩ := letk_opn hM0; clear hM0
 have hcx29 := cmH hx30 (specieref01_Pow_ok  x26 (quoI .i64 (subI .i64 g.P 1) g.Q) (g.P) (by (first | with_reducible exact quo_nn hp1 hp2 hp0 | with_reducible exact hp2 | with_reducible exact (rnum_rng ‹_ = specieref06_Number _ _› hp1 hp2).1 | with_reducible exact (rnum_rng ‹_ = specieref06_Number _ _› hp1 hp2).2)) (by (first | with_reducible exact quo_nn hp1 hp2 hp0 | with_reducible exact hp2 | with_reducible exact (rnum_rng ‹_ = specieref06_Number _ _› hp1 hp2).1 | with_reducible exact (rnum_rng ‹_ = specieref06_Number _ _› hp1 hp2).2)) (by (first | with_reducible exact quo_nn hp1 hp2 hp0 | with_reducible exact hp2 | with_reducible exact (rnum_rng ‹_ = specieref06_Number _ _› hp1 hp2).1 | with_reducible exact (rnum_rng ‹_ = specieref06_Number _ _› hp1 hp2).2)) (by (first | with_reducible exact quo_nn hp1 hp2 hp0 | with_reducible exact hp2 | with_reducible exact (rnum_rng ‹_ = specieref06_Number _ _› hp1 hp2).1 | with_reducible exact (rnum_rng ‹_ = specieref06_Number _ _› hp1 hp2).2)))
 refine callC_give hcx29 clQ clQ (fun hw31 => ?_)
 replace hw31 := nzQ hw31
 refine spQ ?_
 subst hM
 exact retC_view lfQ
set_option maxHeartbeats 2000000 in
set_option maxRecDepth 100000 in
theorem specieref11_Element_ok   (g : S_api_Group) (label : (List UInt8)) (b : (List Int)) (hp0 : 1 ≤ g.Q) (hp1 : 1 ≤ g.P) (hp2 : g.P < 2305843009213693952) (hp3 : label.length ≤ 100) (hp4 : b.length ≤ 1000) : CM En (specieref11_Element g label b) 35 [.agg [.int .i64 g.P, .int .i64 g.Q, .int .i64 g.G], .str label, .sl none 1 false (b.map (V.int .u8))] (fun y => .tup [.int .i64 y.1, .bool y.2]) (fun _ => []) := by
 refine cmQ fun r hM => ?_
 rw [specieref11_Element.eq_1] at hM
 refine enterV En_ok En_mo noJ Tryz.func35 rfl Tryz.ntmps35 (by kernel_rfl) fun hw => ct_start ?_
 refine spQ ?_
 replace hw := nzQ hw
 have hM0 := hM; clear hM; obtain ⟨f1, d1, hf1, hd1, hM⟩ := iter_opn hM0; clear hM0
 refine ct_loop (fun n S => ∃ p : Int, S = (⟨[(1, .str label), (2, .sl none 1 false (b.map (V.int .u8))), (3, .ptr 0 0), (8, .int .i64 p)], [(0, .var 3 true (.agg [.int .i64 g.P, .int .i64 g.Q, .int .i64 g.G]))], 1⟩ : St) ∧ ((0 ≤ p) ∧ (p ≤ 1000)) ∧ ((1000 : Int) - p).toNat < n ∧ iter n f1 d1 p = r) (((1000 : Int) - 0).toNat + 1) _ sbQ sbQ ⟨0, rfl, ⟨omQ, omQ⟩, (Nat.lt_succ_self _), hM⟩ ?_
 clear hM
 rintro n1 S ⟨p1, rfl, hfa1, hm1, hM⟩
 have hM0 := hM; clear hM; obtain ⟨ag1, hag1, hM⟩ := iter_step hM0 (by omega) hf1; clear hM0
 replace hfa1 := nzQ hfa1
 replace hm1 := nzQ hm1
 have ha1 : addI .i64 p1 1 = p1 + 1 := add_one omQ omQ
 refine spQA ha1 ?_
 refine condC_intro (fun h2 => ?_) (fun h2 => ?_)
 ·rw [if_pos h2] at hM
  refine spQA (And.intro ha1 h2) ?_
  have nh2 := nzQ h2
  try have hr3 := mpQ nh2
  have hM0 := hM; clear hM; obtain ⟨x4, hx5, hM⟩ := letk_opn hM0; clear hM0
  have hcx4 := cmH hx5 (specieref11_Candidate_ok  g label b p1 (by (exact pfQ)) (by (exact pfQ)) (by (exact pfQ)) (by (exact pfQ)) (by (exact pfQ)))
  refine callC_give hcx4 (clQA ha1) (clQA ha1) (fun hw6 => ?_)
  replace hw6 := nzQ hw6
  refine spQA ha1 ?_
  have hF := (And.intro ha1 h2)
  exact auQ
 ·rw [if_neg (ne_true h2)] at hM
  refine spQA (And.intro ha1 h2) ?_
  have nh2 := nzQ h2
  try have hr10 := mpQ nh2
  subst hM
  exact retC_view (lfQA (And.intro ha1 h2))
end Go.Proofs.YteolfhljhnplpaaGreatDoor
namespace Go.Proofs.YteolfhljhnplpaaGreatDoor
open Go.RowKit
set_option linter.unusedSimpArgs false
set_option maxHeartbeats 2000000 in
set_option maxRecDepth 100000 in
instance specielaw11_BaseElements_ok   (g : S_api_Group) (label : (List UInt8)) (b : (List Int))  : CM En (specielaw11_BaseElements g label b) 5 [.agg [.int .i64 g.P, .int .i64 g.Q, .int .i64 g.G], .str label, .sl none 1 false (b.map (V.int .u8))] (fun y => .bool y) (fun _ => []) := by
 refine cmQ fun r hM => ?_
 rw [specielaw11_BaseElements.eq_1] at hM
 refine enterV En_ok En_mo noJ Tryz.func5 rfl Tryz.ntmps5 (by kernel_rfl) fun hw => ct_start ?_
 refine spQ ?_
 replace hw := nzQ hw
 have hM0 := hM; clear hM; obtain ⟨x1, hx2, hM⟩ := letk_opn hM0; clear hM0
 have hcx1 := cmU hx2
 refine callC_give hcx1 clQ clQ (fun hw3 => ?_)
 replace hw3 := nzQ hw3
 refine spQ ?_
 refine guardC_f (fun h4 => ?_) (fun h4 => ?_)
 ·rw [if_neg (ne_true h4)] at hM
  refine spQA h4 ?_
  have nh4 := nzQ h4
  try have hr5 := mpQ nh4
  refine guardC_f (fun h6 => ?_) (fun h6 => ?_)
  ·rw [if_neg (ne_true h6)] at hM
   refine spQA h6 ?_
   have nh6 := nzQ h6
   try have hr7 := mpQ nh6
   refine condC_intro (fun h8 => ?_) (fun h8 => ?_)
   ·rw [if_pos h8] at hM
    refine spQA h8 ?_
    have nh8 := nzQ h8
    try have hr9 := mpQ nh8
    have hF := (And.intro h4 (And.intro h6 h8))
    exact auQ
   ·rw [if_neg (ne_true h8)] at hM
    refine spQA h8 ?_
    have nh8 := nzQ h8
    try have hr13 := mpQ nh8
    have hM0 := hM; clear hM; obtain ⟨x14, hx15, hM⟩ := letk_opn hM0; clear hM0
    have hcx14 := cmU hx15
    refine callC_give hcx14 clQ clQ (fun hw16 => ?_)
    replace hw16 := nzQ hw16
    refine spQ ?_
    have hM0 := hM; clear hM; obtain ⟨x17, hx18, hM⟩ := letk_opn hM0; clear hM0
    have hcx17 := cmU hx18
    refine callC_give hcx17 clQ clQ (fun hw19 => ?_)
    replace hw19 := nzQ hw19
    refine spQ ?_
    have hq20 := nzQ (cfU hx18)
    refine condC_intro (fun h21 => ?_) (fun h21 => ?_)
    ·rw [if_pos h21] at hM
     refine spQA h21 ?_
     have nh21 := nzQ h21
     try have hr22 := mpQ nh21
     have hF := (And.intro h4 (And.intro h6 (And.intro h8 h21)))
     exact auQ
    ·rw [if_neg (ne_true h21)] at hM
     refine spQA h21 ?_
     have nh21 := nzQ h21
     try have hr26 := mpQ nh21
     refine guardC_f (fun h27 => ?_) (fun h27 => ?_)
     ·rw [if_neg (ne_true h27)] at hM
      refine spQA h27 ?_
      have nh27 := nzQ h27
      try have hr28 := mpQ nh27
      refine guardC_f (fun h29 => ?_) (fun h29 => ?_)
      ·rw [if_neg (ne_true h29)] at hM
       refine spQA h29 ?_
       have nh29 := nzQ h29
       try have hr30 := mpQ nh29
       refine condC_intro (fun h31 => ?_) (fun h31 => ?_)
       ·rw [if_pos h31] at hM
        refine spQA h31 ?_
        have nh31 := nzQ h31
        try have hr32 := mpQ nh31
        have hF := (And.intro h4 (And.intro h6 (And.intro h8 (And.intro h21 (And.intro h27 (And.intro h29 h31))))))
        exact auQ
       ·rw [if_neg (ne_true h31)] at hM
        refine spQA h31 ?_
        have nh31 := nzQ h31
        try have hr36 := mpQ nh31
        have hM0 := hM; clear hM; obtain ⟨x37, hx38, hM⟩ := letk_opn hM0; clear hM0
        have hcx37 := cmH hx38 (specieref11_Element_ok  g label b (by (exact pfQ)) (by (exact pfQ)) (by (exact pfQ)) (by (exact pfQ)) (by (exact pfQ)))
        refine callC_give hcx37 clQ clQ (fun hw39 => ?_)
        replace hw39 := nzQ hw39
        refine spQ ?_
        have hF := (And.intro h4 (And.intro h6 (And.intro h8 (And.intro h21 (And.intro h27 (And.intro h29 h31))))))
        exact auQ
      ·rw [if_pos h29] at hM
       refine spQA h29 ?_
       have nh29 := nzQ h29
       try have hr49 := mpQ nh29
       have hF := (And.intro h4 (And.intro h6 (And.intro h8 (And.intro h21 (And.intro h27 h29)))))
       exact auQ
     ·rw [if_pos h27] at hM
      refine spQA h27 ?_
      have nh27 := nzQ h27
      try have hr53 := mpQ nh27
      have hF := (And.intro h4 (And.intro h6 (And.intro h8 (And.intro h21 h27))))
      exact auQ
  ·rw [if_pos h6] at hM
   refine spQA h6 ?_
   have nh6 := nzQ h6
   try have hr57 := mpQ nh6
   have hF := (And.intro h4 h6)
   exact auQ
 ·rw [if_pos h4] at hM
  refine spQA h4 ?_
  have nh4 := nzQ h4
  try have hr61 := mpQ nh4
  have hF := h4
  exact auQ
end Go.Proofs.YteolfhljhnplpaaGreatDoor
namespace Go.Proofs.YteolfhljhnplpaaGreatDoor
open Go.RowKit
theorem iter_eq {α β R : Type} {F : (α → R) → α → R} {G : (β → R) → β → R} {x : R} (Rel : α → β → Prop)
  (h : ∀ ag bg, (∀ a b, Rel a b → ag a = bg b) → ∀ a b, Rel a b → F ag a = G bg b) : ∀ (n : Nat) (a : α) (b : β), Rel a b → iter n F (fun _ => x) a = iter n G (fun _ => x) b
 | 0, a, b, _ => rfl
 | n + 1, a, b, hr => by
  rw [iter, iter]
  exact h _ _ (fun a b hr => iter_eq Rel h n a b hr) a b hr
theorem orI_comm (k : IntKind) (a b : Int) : orI k a b = orI k b a := by unfold orI; rw [BitVec.or_comm]
theorem right_eq (x : Int) {n : Int} (h : n ∈ [(2 : Int), 3, 6, 7, 11, 13, 17, 18, 19, 22, 25]) : digest_right x n = specieref06_right x n := by
 unfold digest_right math_bits_RotateLeft32 specieref06_right
 simp only [letk]
 rw [orI_comm]
 simp only [List.mem_cons, List.not_mem_nil, or_false] at h
 rcases h with rfl | rfl | rfl | rfl | rfl | rfl | rfl | rfl | rfl | rfl | rfl <;> rfl
theorem w32 (a : Int) : IntKind.wrap .u32 a = a % 4294967296 := by simp [IntKind.wrap, IntKind.bits, IntKind.signed]
theorem or_nat (a c : Nat) (hc : c < 256) : (BitVec.ofInt 32 (((a * 256 : Nat) : Int) % 4294967296) ||| BitVec.ofInt 32 (c : Int)).toNat = (a * 256) % 4294967296 + c := by
 have e1 : (BitVec.ofInt 32 (((a * 256 : Nat) : Int) % 4294967296)).toNat = (a % 16777216) <<< 8 := by
  rw [BitVec.toNat_ofInt, Nat.shiftLeft_eq]
  omega
 have e2 : (BitVec.ofInt 32 (c : Int)).toNat = c := by rw [BitVec.toNat_ofInt]; omega
 rw [BitVec.toNat_or, e1, e2, ← Nat.shiftLeft_add_eq_or_of_lt (show c < 2 ^ 8 by omega), Nat.shiftLeft_eq]
 omega
theorem or_shl8 {x c : Int} (hx : 0 ≤ x ∧ x ≤ 4294967295) (hc : 0 ≤ c ∧ c ≤ 255) : orI .u32 (shlI .u32 x 8) (convI .u32 c) = addI .u32 (mulI .u32 x 256) (convI .u32 c) := by
 obtain ⟨a, rfl⟩ := Int.eq_ofNat_of_zero_le hx.1
 obtain ⟨d, rfl⟩ := Int.eq_ofNat_of_zero_le hc.1
 have h1 : shlI .u32 (a : Int) 8 = ((a * 256 : Nat) : Int) % 4294967296 := by
  unfold shlI; rw [w32]; simp [IntKind.bits]
 have h2 : convI .u32 (d : Int) = (d : Int) := by unfold convI; rw [w32]; omega
 have h3 : mulI .u32 (a : Int) 256 = ((a * 256 : Nat) : Int) % 4294967296 := by
  unfold mulI; rw [w32]; simp
 have h4 := or_nat a d (by omega)
 rw [h1, h2, h3]
 have key : orI .u32 (((a * 256 : Nat) : Int) % 4294967296) (d : Int) = IntKind.wrap .u32 ((BitVec.ofInt 32 (((a * 256 : Nat) : Int) % 4294967296) ||| BitVec.ofInt 32 (d : Int)).toNat : Int) := rfl
 rw [key, h4]
 unfold addI
 rw [w32, w32]
 omega
theorem st_app {q : List Int} {z : List Int} {a x : Int} {t : Int} (h : (q.length : Int) = t) : st (q ++ a :: z) t x = q ++ x :: z := by
 unfold st
 rw [show t.toNat = q.length by omega]
 simp
theorem gt_app {q z : List Int} {t : Int} (h : 0 ≤ t) (h1 : t < (q.length : Int)) : gt (q ++ z) t = gt q t := by
 unfold gt
 have : t.toNat < q.length := by omega
 simp [List.getD_eq_getElem?_getD, List.getElem?_append_left this]
theorem gt_app0 {q z : List Int} {a t : Int} (h : (q.length : Int) = t) : gt (q ++ a :: z) t = a := by
 unfold gt
 rw [show t.toNat = q.length by omega]
 simp [List.getD_eq_getElem?_getD]
theorem arr64 {l : List Int} (h : l.length = 64) : arrN 64 l = l := arrN_full h
theorem sl_get {b : List Int} {i k : Int} (h0 : 0 ≤ i) (hk : 0 ≤ k) (hk4 : k < 4) (h : i + 4 ≤ (b.length : Int)) : gt (sl b i (i + 4)) k = gt b (i + k) := by
 unfold gt sl
 have e : (i + k).toNat = i.toNat + k.toNat := by omega
 simp only [List.getD_eq_getElem?_getD]
 rw [List.getElem?_take_of_lt (by omega), List.getElem?_drop, e]
theorem gt_isB {b : List Int} (hb : ∀ x ∈ b, 0 ≤ x ∧ x ≤ 255) (i : Int) : 0 ≤ gt b i ∧ gt b i ≤ 255 := by
 unfold gt
 rw [List.getD_eq_getElem?_getD]
 cases h : b[i.toNat]? with
 | none => exact ⟨by decide, by decide⟩
 | some x => exact hb x (List.mem_of_getElem? h)
theorem words_eq {b : List Int} (hl : b.length = 64) (hb : ∀ x ∈ b, 0 ≤ x ∧ x ≤ 255) : digest_schedule b = specieref06_words b := by
 unfold digest_schedule specieref06_words
 refine iter_eq (fun (a : Int × List Int) (c : Int × List Int) => a.1 = c.1 ∧ 0 ≤ a.1 ∧ a.1 ≤ 16 ∧ (c.2.length : Int) = a.1 ∧ a.2 = c.2 ++ List.replicate (64 - a.1).toNat 0) ?_ _ _ _ ⟨rfl, by decide, by decide, rfl, rfl⟩
 rintro ag bg hag ⟨i, w⟩ ⟨i', q⟩ ⟨e1, h0, h1, h2, h3⟩
 simp only at e1 h0 h1 h2 h3
 subst e1
 subst h3
 by_cases hi : i < 16
 ·simp only [hi, decide_true, if_true]
  have hz : List.replicate (64 - i).toNat (0 : Int) = 0 :: List.replicate (63 - i).toNat 0 := by
   rw [show (64 - i).toNat = (63 - i).toNat + 1 by omega]; rfl
  have hsl : ((sl b (4 * i) (4 * i + 4)).length : Int) = 4 := by rw [sl_len]; omega
  rw [hsl, hz]
  refine iter_eq (fun (a : Int × List Int) (c : Int × Int) => a.1 = c.2 ∧ 0 ≤ a.1 ∧ a.1 ≤ 4 ∧ (0 ≤ c.1 ∧ c.1 ≤ 4294967295) ∧ a.2 = q ++ c.1 :: List.replicate (63 - i).toNat 0) ?_ _ _ _ ⟨rfl, show (0 : Int) ≤ 0 by decide, show (0 : Int) ≤ 4 by decide, show (0 : Int) ≤ 0 ∧ (0 : Int) ≤ 4294967295 by decide, rfl⟩
  rintro ag2 bg2 hag2 ⟨k, w⟩ ⟨x, k'⟩ ⟨e1, g0, g1, g2, g3⟩
  simp only at e1 g0 g1 g2 g3
  subst e1
  subst g3
  by_cases hk : k < 4
  ·simp only [hk, decide_true, if_true]
   have hlen : (q ++ x :: List.replicate (63 - i).toNat 0).length = 64 := by simp; omega
   have hg := gt_isB hb (4 * i + k)
   rw [gt_app0 h2, sl_get (by omega) g0 hk (by omega), arr64 hlen, st_app h2, arr64 (by simp; omega), or_shl8 g2 hg]
   refine hag2 _ _ ⟨rfl, by omega, by omega, ?_, rfl⟩
   have := rng_addI .u32 (mulI .u32 x 256) (convI .u32 (gt b (4 * i + k)))
   rw [rng_u32] at this
   exact this
  ·simp only [hk, decide_false, Bool.false_eq_true, if_false]
   refine hag _ _ ⟨rfl, by omega, by omega, by simp; omega, ?_⟩
   rw [show (64 - (i + 1)).toNat = (63 - i).toNat by omega]
   simp
 ·simp only [hi, decide_false, Bool.false_eq_true, if_false]
  have e16 : i = 16 := by omega
  subst e16
  refine iter_eq (fun (a : Int × List Int) (c : Int × List Int) => a.1 = c.1 ∧ 16 ≤ a.1 ∧ a.1 ≤ 64 ∧ (c.2.length : Int) = a.1 ∧ a.2 = c.2 ++ List.replicate (64 - a.1).toNat 0) ?_ _ _ _ ⟨rfl, show (16 : Int) ≤ 16 by decide, show (16 : Int) ≤ 64 by decide, h2, rfl⟩
  rintro ag2 bg2 hag2 ⟨t, w⟩ ⟨t', p⟩ ⟨e1, g0, g1, g2, g3⟩
  simp only at e1 g0 g1 g2 g3
  subst e1
  subst g3
  by_cases ht : t < 64
  ·simp only [ht, decide_true, if_true, letk]
   have hz : List.replicate (64 - t).toNat (0 : Int) = 0 :: List.replicate (63 - t).toNat 0 := by
    rw [show (64 - t).toNat = (63 - t).toNat + 1 by omega]; rfl
   rw [hz, gt_app (t := t - 15) (by omega) (by omega), gt_app (t := t - 2) (by omega) (by omega), gt_app (t := t - 16) (by omega) (by omega), gt_app (t := t - 7) (by omega) (by omega)]
   rw [right_eq _ (by decide), right_eq _ (by decide), right_eq _ (by decide), right_eq _ (by decide)]
   have hlen : ∀ y : Int, (p ++ y :: List.replicate (63 - t).toNat 0).length = 64 := fun y => by simp; omega
   rw [arr64 (hlen 0), st_app g2, arr64 (hlen _)]
   refine hag2 _ _ ⟨rfl, by omega, by omega, by simp; omega, ?_⟩
   rw [show (64 - (t + 1)).toNat = (63 - t).toNat by omega]
   simp
  ·simp only [ht, decide_false, Bool.false_eq_true, if_false]
   rw [show (64 - t).toNat = 0 by omega]
   simp
end Go.Proofs.YteolfhljhnplpaaGreatDoor
namespace Go.Proofs.YteolfhljhnplpaaGreatDoor
open Go.RowKit
theorem iter_rel {α β R S : Type} {F : (α → R) → α → R} {G : (β → S) → β → S} {d : α → R} {e : β → S} (Rel : α → β → Prop) (Q : R → S → Prop) (mu : α → Nat)
  (h : ∀ ag bg a b, Rel a b → (∀ a' b', Rel a' b' → mu a' < mu a → Q (ag a') (bg b')) → Q (F ag a) (G bg b)) : ∀ (n m : Nat) (a : α) (b : β), Rel a b → mu a < n → mu a < m → Q (iter n F d a) (iter m G e b)
 | 0, _, _, _, _, h1, _ => absurd h1 (Nat.not_lt_zero _)
 | _, 0, _, _, _, _, h1 => absurd h1 (Nat.not_lt_zero _)
 | n + 1, m + 1, a, b, hr, h1, h2 => by
  rw [iter, iter]
  exact h _ _ a b hr fun a' b' hr' hm => iter_rel Rel Q mu h n m a' b' hr' (by omega) (by omega)
def rnd (K : List Int → List Int) (h w : List Int) : List Int := (iter (((64 : Int) - 0).toNat + 1) (fun (ag17 : (Int × List Int) → (List Int)) (p17 : Int × List Int) => (if (decide (p17.1 < 64)) then (letk (specieref06_right (gt p17.2 4) 6) (fun (x22 : Int) => (letk (specieref06_right (gt p17.2 4) 11) (fun (x24 : Int) => (letk (specieref06_right (gt p17.2 4) 25) (fun (x26 : Int) => (letk (specieref06_right (gt p17.2 0) 2) (fun (x33 : Int) => (letk (specieref06_right (gt p17.2 0) 13) (fun (x35 : Int) => (letk (specieref06_right (gt p17.2 0) 22) (fun (x37 : Int) => (ag17 ((p17.1 + 1), ([(addI .u32 (addI .u32 (addI .u32 (addI .u32 (addI .u32 (gt p17.2 7) (xorI .u32 (xorI .u32 x22 x24) x26)) (xorI .u32 (andI .u32 (gt p17.2 4) (gt p17.2 5)) (andI .u32 (notI .u32 (gt p17.2 4)) (gt p17.2 6)))) (gt specieref06_constants p17.1)) (gt w p17.1)) (addI .u32 (xorI .u32 (xorI .u32 x33 x35) x37) (xorI .u32 (xorI .u32 (andI .u32 (gt p17.2 0) (gt p17.2 1)) (andI .u32 (gt p17.2 0) (gt p17.2 2))) (andI .u32 (gt p17.2 1) (gt p17.2 2))))), (gt p17.2 0), (gt p17.2 1), (gt p17.2 2), (addI .u32 (gt p17.2 3) (addI .u32 (addI .u32 (addI .u32 (addI .u32 (gt p17.2 7) (xorI .u32 (xorI .u32 x22 x24) x26)) (xorI .u32 (andI .u32 (gt p17.2 4) (gt p17.2 5)) (andI .u32 (notI .u32 (gt p17.2 4)) (gt p17.2 6)))) (gt specieref06_constants p17.1)) (gt w p17.1))), (gt p17.2 4), (gt p17.2 5), (gt p17.2 6)] : List Int))))))))))))))) else (iter (((8 : Int) - 0).toNat + 1) (fun (ag43 : (Int × List Int) → (List Int)) (p43 : Int × List Int) => (if (decide (p43.1 < 8)) then (ag43 ((p43.1 + 1), (st p43.2 p43.1 (addI .u32 (gt p43.2 p43.1) (gt p17.2 p43.1))))) else (K p43.2))) (fun _ => default) (0, h)))) (fun _ => default) (0, (([] : List Int) ++ h)))
theorem list8 {l : List Int} (h : l.length = 8) : l = [gt l 0, gt l 1, gt l 2, gt l 3, gt l 4, gt l 5, gt l 6, gt l 7] := by
 match l, h with
 | [a, b, c, d, e, f, g, i], _ => rfl
theorem arr8 {l : List Int} (h : l.length = 8) : arrN 8 l = l := arrN_full h
theorem kg_eq : kg_5 = specieref06_constants := rfl
theorem rnd_eq (K : List Int → List Int) {h b : List Int} (hl : h.length = 8) : rnd K h (digest_schedule b) = K (digest_mix h b) := by
 unfold rnd digest_mix
 simp only [letk]
 generalize digest_schedule b = w
 refine iter_rel (fun (a : Int × Int × Int × Int × Int × Int × Int × Int × Int) (c : Int × List Int) => a.2.2.2.2.2.2.2.2 = c.1 ∧ 0 ≤ c.1 ∧ c.1 ≤ 64 ∧ c.2 = [a.1, a.2.1, a.2.2.1, a.2.2.2.1, a.2.2.2.2.1, a.2.2.2.2.2.1, a.2.2.2.2.2.2.1, a.2.2.2.2.2.2.2.1]) (fun r s => s = K r) (fun a => (64 - a.2.2.2.2.2.2.2.2).toNat) ?_ _ _ _ _ ⟨rfl, show (0 : Int) ≤ 0 by decide, show (0 : Int) ≤ 64 by decide, list8 hl⟩ (show ((64 : Int) - 0).toNat < ((64 : Int) - 0).toNat + 1 by decide) (show ((64 : Int) - 0).toNat < ((64 : Int) - 0).toNat + 1 by decide)
 rintro ag bg ⟨a0, a1, a2, a3, a4, a5, a6, a7, t⟩ ⟨t', v⟩ ⟨e1, g0, g1, g2⟩ hag
 simp only at e1 g0 g1 g2 hag
 subst e1
 subst g2
 by_cases ht : t < 64
 ·simp only [ht, decide_true, if_true]
  rw [right_eq _ (by decide), right_eq _ (by decide), right_eq _ (by decide), right_eq _ (by decide), right_eq _ (by decide), right_eq _ (by decide), kg_eq]
  refine hag _ _ ⟨rfl, by omega, by omega, ?_⟩ (by simp only; omega)
  rfl
 ·simp only [ht, decide_false, Bool.false_eq_true, if_false]
  refine iter_rel (fun (a : Int × List Int) (c : Int × List Int) => a = c ∧ 0 ≤ a.1 ∧ a.1 ≤ 8 ∧ a.2.length = 8) (fun r s => s = K r) (fun a => (8 - a.1).toNat) ?_ _ _ _ _ ⟨rfl, show (0 : Int) ≤ 0 by decide, show (0 : Int) ≤ 8 by decide, hl⟩ (show ((8 : Int) - 0).toNat < ((8 : Int) - 0).toNat + 1 by decide) (show ((8 : Int) - 0).toNat < ((8 : Int) - 0).toNat + 1 by decide)
  rintro ag2 bg2 ⟨i, s⟩ ⟨i', s'⟩ ⟨e1, k0, k1, k2⟩ hag2
  cases e1
  simp only at k0 k1 k2 hag2
  by_cases hi : i < 8
  ·simp only [hi, decide_true, if_true]
   rw [arr8 k2, arr8 (by rw [st_len]; exact k2)]
   exact hag2 _ _ ⟨rfl, by simp only; omega, by simp only; omega, by simp only [st_len]; exact k2⟩ (by simp only; omega)
  ·simp only [hi, decide_false, Bool.false_eq_true, if_false]
end Go.Proofs.YteolfhljhnplpaaGreatDoor
namespace Go.Proofs.YteolfhljhnplpaaGreatDoor
open Go.RowKit
theorem and1u {e : Int} (h0 : 0 ≤ e) (h1 : e ≤ 18446744073709551615) : andI .u64 e 1 = e % 2 := by
 obtain ⟨k, rfl⟩ := Int.eq_ofNat_of_zero_le h0
 unfold andI
 have e1 : (BitVec.ofInt IntKind.u64.bits (k : Int)).toNat = k := by
  show (BitVec.ofInt 64 (k : Int)).toNat = k
  rw [BitVec.toNat_ofInt]; omega
 have e2 : (BitVec.ofInt IntKind.u64.bits 1).toNat = 2 ^ 1 - 1 := by decide
 rw [BitVec.toNat_and, e1, e2, Nat.and_two_pow_sub_one_eq_mod, w64]
 omega
theorem and1i {e : Int} (h0 : 0 ≤ e) (h1 : e ≤ 9223372036854775807) : andI .i64 e 1 = e % 2 := by
 obtain ⟨k, rfl⟩ := Int.eq_ofNat_of_zero_le h0
 unfold andI
 have e1 : (BitVec.ofInt IntKind.i64.bits (k : Int)).toNat = k := by
  show (BitVec.ofInt 64 (k : Int)).toNat = k
  rw [BitVec.toNat_ofInt]; omega
 have e2 : (BitVec.ofInt IntKind.i64.bits 1).toNat = 2 ^ 1 - 1 := by decide
 rw [BitVec.toNat_and, e1, e2, Nat.and_two_pow_sub_one_eq_mod, IntKind.wrap_i64]
 omega
theorem rem_one {m : Int} (h : 1 < m) : remI .i64 1 m = 1 := by
 rw [rem_nn (by decide)]; exact Int.emod_eq_of_lt (by decide) h
theorem mod_rng {x m : Int} (h : 0 < m) : 0 ≤ x % m ∧ x % m < m := ⟨Int.emod_nonneg _ (by omega), Int.emod_lt_of_pos _ h⟩
theorem pow_rel {m : Int} (hm : 0 < m) {M1 M2 : Int → Int → Int} (h1 : ∀ a b, 0 ≤ a → a < m → 0 ≤ b → b < m → M1 a b = a * b % m) (h2 : ∀ a b, 0 ≤ a → a < m → 0 ≤ b → b < m → M2 a b = a * b % m)
  {A H : Int → Int} {U : Int} (hA : ∀ e, 0 ≤ e → e ≤ U → A e = e % 2) (hH : ∀ e, 0 ≤ e → e ≤ U → H e = e / 2) {R : Type} {out : Int → R}
  {F : (Int × Int × Int → R) → Int × Int × Int → R} {G : (Int × Int × Int → Int) → Int × Int × Int → Int} {d1 : Int × Int × Int → R} {d2 : Int × Int × Int → Int}
  (hF : ∀ ag p, F ag p = if decide (p.2.1 > 0) = true then (if (A p.2.1 == 1) = true then ag (M1 p.1 p.1, H p.2.1, M1 p.2.2 p.1) else ag (M1 p.1 p.1, H p.2.1, p.2.2)) else out p.2.2)
  (hG : ∀ ag p, G ag p = if decide (p.2.1 > 0) = true then (if (p.2.1 % 2 == 1) = true then ag (M2 p.1 p.1, p.2.1 / 2, M2 p.2.2 p.1) else ag (M2 p.1 p.1, p.2.1 / 2, p.2.2)) else p.2.2)
  {a e o : Int} (ha : 0 ≤ a ∧ a < m) (he : 0 ≤ e ∧ e ≤ U) (ho : 0 ≤ o ∧ o < m) {n k : Nat} (hn : e.toNat < n) (hk : e.toNat < k) :
  iter n F d1 (a, e, o) = out (iter k G d2 (a, e, o)) := by
 refine iter_rel (fun p q : Int × Int × Int => p = q ∧ (0 ≤ p.1 ∧ p.1 < m) ∧ (0 ≤ p.2.1 ∧ p.2.1 ≤ U) ∧ 0 ≤ p.2.2 ∧ p.2.2 < m) (fun r s => r = out s) (fun p => p.2.1.toNat) ?_ n k _ _ ⟨rfl, ha, he, ho⟩ hn hk
 rintro ag bg ⟨a, e, o⟩ q ⟨rfl, p1, p2, p3⟩ ih
 simp only at p1 p2 p3 ih
 rw [hF, hG]
 simp only
 by_cases hc : e > 0
 ·have hd : decide (e > 0) = true := by simpa using hc
  rw [if_pos hd, if_pos hd]
  have e1 := h1 a a p1.1 p1.2 p1.1 p1.2
  have e2 := h2 a a p1.1 p1.2 p1.1 p1.2
  have e3 := h1 o a p3.1 p3.2 p1.1 p1.2
  have e4 := h2 o a p3.1 p3.2 p1.1 p1.2
  rw [hA e p2.1 p2.2, hH e p2.1 p2.2, e1, e2, e3, e4]
  have hr : 0 ≤ e / 2 ∧ e / 2 ≤ U := by omega
  split
  ·exact ih _ _ ⟨rfl, mod_rng hm, hr, mod_rng hm⟩ (by show (e / 2).toNat < e.toNat; omega)
  ·exact ih _ _ ⟨rfl, mod_rng hm, hr, p3⟩ (by show (e / 2).toNat < e.toNat; omega)
 ·have hd : ¬ decide (e > 0) = true := by simpa using hc
  rw [if_neg hd, if_neg hd]
theorem ppow_eq {a e n : Int} (ha : 0 ≤ a) (hn : a < n) (h1 : 1 < n) (hn1 : n < 2305843009213693952) (he : 0 ≤ e ∧ e ≤ 18446744073709551615) : prime_pow a e n = specieref01_Pow a e n := by
 unfold prime_pow specieref01_Pow
 rw [rem_one h1]
 exact pow_rel (m := n) (by omega) (M1 := fun a b => prime_mul a b n) (M2 := fun a b => specieref01_Mul a b n) (A := fun e => andI .u64 e 1) (H := fun e => shrI .u64 e 1) (U := 18446744073709551615) (out := fun x => x)
  (fun a b x1 x2 x3 x4 => prime_mul_eq x1 x2 x3 (by omega) (by omega)) (fun a b x1 x2 x3 x4 => rmul_eq x1 x2 x3)
  (fun e x1 x2 => and1u x1 x2) (fun e x1 x2 => shr1 e) (fun ag p => rfl) (fun ag p => rfl) ⟨ha, hn⟩ he ⟨by decide, h1⟩ (Nat.lt_succ_self _) (Nat.lt_succ_self _)
theorem word_check_self {a m : Int} (h0 : 0 ≤ a) (h1 : a < m) (h2 : m < 2305843009213693952) : word_check a a m = 0 := by
 unfold word_check word_residue letk
 rw [if_neg (by simp; omega), if_neg (by simp; omega), if_pos (by simpa using h0)]
 simp [h1]
theorem wpow_eq {a e m : Int} (ha : 0 ≤ a) (hm : a < m) (hm1 : m < 2305843009213693952) (he : 0 ≤ e ∧ e ≤ 9223372036854775807) : word_Pow a e m = (specieref01_Pow a e m, 0) := by
 unfold word_Pow specieref01_Pow
 refine letk_go fun x1 h1 => ?_
 rw [word_check_self ha hm hm1] at h1
 subst h1
 rw [if_neg (by decide), if_neg (by simp; omega)]
 exact pow_rel (m := m) (by omega) (M1 := fun a b => word_mul a b m) (M2 := fun a b => specieref01_Mul a b m) (A := fun e => andI .i64 e 1) (H := fun e => shrI .i64 e 1) (U := 9223372036854775807) (out := fun x => (x, 0))
  (fun a b x1 x2 x3 x4 => word_mul_eq x1 x2 x3 (by omega) (by omega)) (fun a b x1 x2 x3 x4 => rmul_eq x1 x2 x3)
  (fun e x1 x2 => and1i x1 x2) (fun e x1 x2 => shr1i e) (fun ag p => rfl) (fun ag p => rfl) ⟨ha, hm⟩ he (rem1_rng (by omega)) (Nat.lt_succ_self _) (Nat.lt_succ_self _)
theorem getD_cast {l : List Nat} {i : Nat} : (l.map (fun n : Nat => (n : Int))).getD i default = ((l.getD i 0 : Nat) : Int) := by
 simp only [List.getD_eq_getElem?_getD, List.getElem?_map]
 cases l[i]? <;> rfl
theorem tz_eq {x : Nat} (h0 : x ≠ 0) (h1 : x < 18446744073709551616) : math_bits_TrailingZeros64 (x : Int) = (Lib.ctz 64 x : Int) := by
 obtain ⟨hlow, hk⟩ := Lib.lowest_bit 64 x h0 h1
 obtain ⟨hi, htab⟩ := Lib.deBruijn64_at _ hk
 rw [show (2 : Nat) ^ 64 = 18446744073709551616 by decide] at hlow
 unfold math_bits_TrailingZeros64
 generalize Lib.ctz 64 x = c at hlow hk hi htab
 rw [if_neg (by simp; omega)]
 have e0 : negI .u64 (x : Int) = ((18446744073709551616 - x : Nat) : Int) := by unfold negI; rw [w64]; omega
 have e1 : andI .u64 (x : Int) (negI .u64 (x : Int)) = ((2 ^ c : Nat) : Int) := by
  rw [e0, ← hlow]
  unfold andI
  have a1 : (BitVec.ofInt IntKind.u64.bits (x : Int)).toNat = x := by
   show (BitVec.ofInt 64 (x : Int)).toNat = x
   rw [BitVec.toNat_ofInt]; omega
  have a2 : (BitVec.ofInt IntKind.u64.bits ((18446744073709551616 - x : Nat) : Int)).toNat = 18446744073709551616 - x := by
   show (BitVec.ofInt 64 ((18446744073709551616 - x : Nat) : Int)).toNat = _
   rw [BitVec.toNat_ofInt]; omega
  rw [BitVec.toNat_and, a1, a2]
  have := Nat.and_le_left (n := x) (m := 18446744073709551616 - x)
  exact w_id (by omega) (by omega)
 have e2 : shrI .u64 (mulI .u64 (andI .u64 (x : Int) (negI .u64 (x : Int))) 285870213051353865) 58 = ((2 ^ c * 285870213051353865 % 18446744073709551616 / 288230376151711744 : Nat) : Int) := by
  rw [e1, shr58]
  unfold mulI
  rw [w64]
  generalize 2 ^ c = t
  omega
 rw [e2, gt_nat]
 have e3 : kg_4.getD (2 ^ c * 285870213051353865 % 18446744073709551616 / 288230376151711744) default = ((Lib.deBruijn64tab.getD (2 ^ c * 285870213051353865 % 18446744073709551616 / 288230376151711744) 0 : Nat) : Int) := by
  have hm : kg_4 = Lib.deBruijn64tab.map (fun n : Nat => (n : Int)) := by decide +kernel
  rw [hm, getD_cast]
 rw [e3]
 have e4 : Lib.deBruijn64tab.getD (2 ^ c * 285870213051353865 % 18446744073709551616 / 288230376151711744) 0 = c := htab
 rw [e4]
 clear hlow hi htab e0 e1 e2 e3 e4
 exact conv_i64 (by omega) (by omega)
def mrTail (n a d s : Int) : Bool :=
 if specieref01_Pow a d n == 1 then true else if specieref01_Pow a d n == n - 1 then true else
  iter ((s - 1).toNat + 1) (fun (ag : Int × Int → Bool) (p : Int × Int) => if decide (p.2 < s) = true then (if (specieref01_Mul p.1 p.1 n == n - 1) = true then true else ag (specieref01_Mul p.1 p.1 n, p.2 + 1)) else false) (fun _ => default) (specieref01_Pow a d n, 1)
theorem strong_loop {n a : Int} {F : (Int × Int → Bool) → Int × Int → Bool} {d : Int × Int → Bool} (hF : ∀ ag p, F ag p = if (p.1 % 2 == 0) = true then ag (p.1 / 2, p.2 + 1) else mrTail n a p.1 p.2) (m : Int) (hm : 0 ≤ m) :
  ∀ (k fuel : Nat) (s : Int), k < fuel → iter fuel F d (2 ^ k * (2 * m + 1), s) = mrTail n a (2 * m + 1) (s + k)
 | 0, fuel, s, hf => by
  obtain ⟨f, rfl⟩ : ∃ f, fuel = f + 1 := ⟨fuel - 1, by omega⟩
  rw [iter, hF]
  simp only [Int.pow_zero, Int.one_mul]
  have hd : ¬ ((2 * m + 1) % 2 == 0) = true := by
   rw [beq_iff_eq]; omega
  rw [if_neg hd]
  simp
 | k + 1, fuel, s, hf => by
  obtain ⟨f, rfl⟩ : ∃ f, fuel = f + 1 := ⟨fuel - 1, by omega⟩
  have e : (2 : Int) ^ (k + 1) * (2 * m + 1) = 2 * (2 ^ k * (2 * m + 1)) := by rw [Int.pow_succ, Int.mul_comm (2 ^ k) 2, Int.mul_assoc]
  rw [iter, hF, e]
  generalize hT : (2 : Int) ^ k * (2 * m + 1) = T
  simp only
  rw [if_pos (by rw [beq_iff_eq]; omega), show 2 * T / 2 = T by omega, ← hT, strong_loop hF m hm k f (s + 1) (by omega)]
  congr 1
  push_cast
  omega
theorem two_pow_ge (k : Nat) : k < 2 ^ k := Nat.lt_two_pow_self
theorem strong_eq {n a : Int} {k : Nat} {m : Int} (hm : 0 ≤ m) (hn : n - 1 = 2 ^ k * (2 * m + 1)) : specieref05_strong n a = mrTail n a (2 * m + 1) k := by
 unfold specieref05_strong
 rw [hn]
 have h := strong_loop (n := n) (a := a) (F := fun (ag2 : (Int × Int) → Bool) (p2 : Int × Int) => (if ((p2.1 % 2) == 0) then (ag2 ((p2.1 / 2), (p2.2 + 1))) else mrTail n a p2.1 p2.2)) (d := fun _ => default) (fun ag p => rfl) m hm k ((2 ^ k * (2 * m + 1)).toNat + 1) 0 (by
  have h1 : (2 : Int) ^ k * 1 ≤ 2 ^ k * (2 * m + 1) := Int.mul_le_mul_of_nonneg_left (by omega) (Int.le_of_lt (Int.pow_pos (by decide)))
  have h2 := two_pow_ge k
  have h3 : ((2 ^ k : Nat) : Int) = 2 ^ k := by push_cast; rfl
  omega)
 rw [Int.zero_add] at h
 rw [← h, ← hn]
 rfl
theorem comp_eq {n a d s : Int} (ha : 0 ≤ a) (han : a < n) (h1 : 1 < n) (hn : n < 2305843009213693952) (hd : 0 ≤ d ∧ d ≤ 18446744073709551615) (hs : 0 ≤ s ∧ s ≤ 64) : prime_composite a n d s = !(mrTail n a d s) := by
 unfold prime_composite mrTail
 have e1 : subI .u64 n 1 = n - 1 := by unfold subI; rw [w_id (by omega) (by omega)]
 rw [ppow_eq ha han h1 hn hd, e1, si64 hs.1 hs.2]
 simp only [letk]
 have hx := rpow_rng (x := specieref01_Pow a d n) rfl ha han (e := d)
 generalize specieref01_Pow a d n = x at hx
 by_cases c1 : (x == 1) = true
 ·rw [if_pos c1, if_pos c1]; rfl
 rw [if_neg c1, if_neg c1]
 by_cases c2 : (x == n - 1) = true
 ·rw [if_pos c2, if_pos c2]; rfl
 rw [if_neg c2, if_neg c2]
 refine iter_rel (fun p q : Int × Int => q = (p.1, p.2 + 1) ∧ (0 ≤ p.1 ∧ p.1 < n) ∧ 0 ≤ p.2) (fun r s : Bool => r = !s) (fun p => (s - 1 - p.2).toNat) ?_ _ _ _ _ ⟨rfl, hx, Int.le_refl 0⟩ (by show (s - 1 - 0).toNat < _; omega) (by show (s - 1 - 0).toNat < _; omega)
 rintro ag bg ⟨x, i⟩ q ⟨rfl, p1, p2⟩ ih
 simp only at p1 p2 ih ⊢
 by_cases hi : i < s - 1
 ·rw [if_pos (show decide (i < s - 1) = true by simpa using hi), if_pos (show decide (i + 1 < s) = true by simp only [decide_eq_true_eq]; omega)]
  have e2 := prime_mul_eq p1.1 p1.2 p1.1 (by omega) (show n ≤ 18446744073709551615 by omega)
  have e3 := rmul_eq p1.1 p1.2 p1.1
  rw [e2, e3]
  split
  ·rfl
  ·exact ih _ _ ⟨rfl, mod_rng (by omega), by show 0 ≤ i + 1; omega⟩ (by show (s - 1 - (i + 1)).toNat < (s - 1 - i).toNat; omega)
 ·rw [if_neg (show ¬ decide (i < s - 1) = true by simpa using hi), if_neg (show ¬ decide (i + 1 < s) = true by simp only [decide_eq_true_eq]; omega)]
  rfl
theorem base_at {p : Int} : gt kg_0 p = gt ([2, 3, 5, 7, 11, 13, 17, 19, 23, 29, 31, 37] : List Int) p := rfl
theorem is_eq {n : Int} (hn : n < 2305843009213693952) : prime_Is n = specieref05_Is n := by
 unfold prime_Is specieref05_Is
 by_cases h2 : n < 2
 ·rw [if_pos (by simpa using h2), if_pos (by simpa using h2)]
 rw [if_neg (by simpa using h2), if_neg (by simpa using h2)]
 have ec : convI .u64 n = n := conv_u64 (by omega) (by omega)
 rw [ec]
 refine iter_rel (fun p q : Int => p = q ∧ 0 ≤ p ∧ p ≤ 12 ∧ NoDiv n p) (fun r s : Bool => r = s) (fun p => (12 - p).toNat) ?_ _ _ _ _ ⟨rfl, by decide, by decide, NoDiv_zero⟩ (by decide) (by decide)
 rintro ag bg p q ⟨rfl, p1, p2, p3⟩ ih
 by_cases hp : p < 12
 ·rw [if_pos (show decide (p < 12) = true by simpa using hp), if_pos (show decide (p < 12) = true by simpa using hp), ← base_at]
  by_cases hr : (remI .u64 n (gt kg_0 p) == 0) = true
  ·rw [if_pos hr, if_pos (show (remI .i64 n (gt kg_0 p) == 0) = true from hr)]
  ·rw [if_neg hr, if_neg (show ¬ (remI .i64 n (gt kg_0 p) == 0) = true from hr)]
   exact ih _ _ ⟨rfl, by omega, by omega, NoDiv_step p3 (by omega) p1 hp (by simpa using hr)⟩ (by omega)
 ·rw [if_neg (show ¬ decide (p < 12) = true by simpa using hp), if_neg (show ¬ decide (p < 12) = true by simpa using hp), if_neg (show ¬ decide (n ≥ 2305843009213693952) = true by simp only [decide_eq_true_eq]; omega)]
  have h37 := NoDiv_all p3 (by omega) (by omega)
  have es : subI .u64 n 1 = n - 1 := by unfold subI; rw [w_id (by omega) (by omega)]
  rw [es]
  obtain ⟨x, hx⟩ := Int.eq_ofNat_of_zero_le (show 0 ≤ n - 1 by omega)
  obtain ⟨m, hm, hk⟩ := Lib.ctzFrom_spec 64 x (by omega) (by omega)
  have ez : math_bits_TrailingZeros64 (n - 1) = (Lib.ctzFrom 64 x : Nat) := by
   rw [hx, tz_eq (by omega) (by omega)]
   unfold Lib.ctz
   rw [if_neg (by omega)]
  simp only [letk, ez]
  generalize Lib.ctzFrom 64 x = k at hm hk
  have hxi : n - 1 = 2 ^ k * (2 * (m : Int) + 1) := by rw [hx, hm]; push_cast; rfl
  have esh : shrI .u64 (n - 1) (k : Int) = 2 * (m : Int) + 1 := by
   rw [shr_eq (m := k) (by rw [Int.toNat_natCast]; show min k 64 = k; omega), hxi]
   exact Int.mul_ediv_cancel_left _ (Int.ne_of_gt (Int.pow_pos (by decide)))
  have hpk : (1 : Int) ≤ 2 ^ k := by
   have h3 : ((2 ^ k : Nat) : Int) = 2 ^ k := by push_cast; rfl
   have := two_pow_ge k
   omega
  have hd : 2 * (m : Int) + 1 ≤ n - 1 := by
   have h1 : (1 : Int) * (2 * m + 1) ≤ 2 ^ k * (2 * m + 1) := Int.mul_le_mul_of_nonneg_right hpk (by omega)
   omega
  rw [esh]
  refine iter_rel (fun p q : Int => p = q ∧ 0 ≤ p) (fun r s : Bool => r = s) (fun p => (12 - p).toNat) ?_ _ _ _ _ ⟨rfl, by decide⟩ (by decide) (by decide)
  rintro ag bg p q ⟨rfl, p1⟩ ih
  by_cases hp : p < 12
  ·rw [if_pos (show decide (p < 12) = true by simpa using hp), if_pos (show decide (p < 12) = true by simpa using hp), ← base_at]
   obtain ⟨b0, b1⟩ := kg2_rng p1 hp
   rw [comp_eq (by omega) (by omega) (by omega) hn (by omega) (by omega), strong_eq (by omega) hxi]
   split
   ·rfl
   ·exact ih _ _ ⟨rfl, by omega⟩ (by omega)
  ·rw [if_neg (show ¬ decide (p < 12) = true by simpa using hp), if_neg (show ¬ decide (p < 12) = true by simpa using hp)]
end Go.Proofs.YteolfhljhnplpaaGreatDoor
namespace Go.Proofs.YteolfhljhnplpaaGreatDoor
open Go.RowKit
theorem isB_rep (n : Nat) : isB (List.replicate n 0) := fun x hx => by
 rw [(List.mem_replicate.1 hx).2]; decide
theorem count_eq (n : Int) : digest_count n = specieref06_bytes n := by kernel_rfl
theorem bytes_isB (n : Int) : isB (specieref06_bytes n) := by
 rw [bytes_list]
 have key : ∀ a, 0 ≤ convI .u8 a ∧ convI .u8 a ≤ 255 := fun a => by have := rng_convI .u8 a; rwa [rng_u8] at this
 intro x hx
 simp only [List.mem_cons, List.not_mem_nil, or_false] at hx
 rcases hx with rfl | rfl | rfl | rfl | rfl | rfl | rfl | rfl <;> exact key _
theorem mul8 {n : Nat} (h : n ≤ 1000000000) : mulI .u64 8 (convI .u64 (n : Int)) = mulI .i64 8 (n : Int) := by
 unfold mulI convI
 rw [w64, w64, IntKind.wrap_i64]
 omega
theorem padded_isB {b : List Int} (hb : isB b) : isB (specieref06_padded b) := by
 rw [padded_eq]
 exact isB_app (isB_app (isB_app hb (fun x hx => by simp at hx; subst hx; decide)) (isB_rep _)) (bytes_isB _)
theorem mix_len {h b : List Int} (hl : h.length = 8) : (digest_mix h b).length = 8 := by
 unfold digest_mix
 simp only [letk]
 generalize digest_schedule b = w
 refine iter_inv (fun (a : Int × Int × Int × Int × Int × Int × Int × Int × Int) => a.2.2.2.2.2.2.2.2 ≤ 64) (fun r : List Int => r.length = 8) (fun a => (64 - a.2.2.2.2.2.2.2.2).toNat) ?_ _ _ (show (0 : Int) ≤ 64 by decide) (show ((64 : Int) - 0).toNat < ((64 : Int) - 0).toNat + 1 by decide)
 rintro ag ⟨a0, a1, a2, a3, a4, a5, a6, a7, t⟩ g0 hag
 simp only at g0 hag
 by_cases ht : t < 64
 ·simp only [ht, decide_true, if_true]
  exact hag _ (by simp only; omega) (by simp only; omega)
 ·simp only [ht, decide_false, Bool.false_eq_true, if_false]
  refine iter_inv (fun (a : Int × List Int) => a.2.length = 8) (fun r : List Int => r.length = 8) (fun a => (8 - a.1).toNat) ?_ _ _ hl (show ((8 : Int) - 0).toNat < ((8 : Int) - 0).toNat + 1 by decide)
  rintro ag2 ⟨i, s⟩ k0 hag2
  simp only at k0 hag2
  by_cases hi : i < 8
  ·simp only [hi, decide_true, if_true]
   exact hag2 _ arrN_len (by simp only; omega)
  ·simp only [hi, decide_false, Bool.false_eq_true, if_false]
   exact k0
theorem sl_drop {l : List Int} {n : Nat} : sl (l.drop n) 0 64 = sl l (n : Int) ((n : Int) + 64) := by
 unfold sl
 rw [show ((n : Int) + 64).toNat - (n : Int).toNat = 64 by omega]
 simp
theorem sl_rest {l : List Int} {n : Nat} : sl (l.drop n) 64 ((l.drop n).length : Int) = l.drop (n + 64) := by
 unfold sl
 rw [show (64 : Int).toNat = 64 from rfl, List.drop_drop, List.take_of_length_le (by simp; omega)]
theorem sum_eq {b : List Int} (hb : isB b) (hl : b.length ≤ 1000000000) : digest_Sum b = specieref06_Sum b := by
 unfold digest_Sum specieref06_Sum
 simp only [letk, bytes_Clone]
 refine (pad_run (fun ag p => rfl)).trans ?_
 have hX := padded_isB hb
 have hX64 := padded_len b
 have e : (b ++ [128]) ++ List.replicate ((56 - ((b ++ [(128 : Int)]).length : Int)) % 64).toNat 0 ++ digest_count (mulI .u64 8 (convI .u64 (b.length : Int))) = specieref06_padded b := by
  rw [padded_eq, count_eq, mul8 hl]; rfl
 simp only [e]
 generalize specieref06_padded b = X at hX hX64
 refine iter_rel (fun (a : List Int × List Int) (c : Int × List Int) => ∃ n : Nat, c.1 = (n : Int) ∧ a.1 = X.drop n ∧ a.2 = c.2 ∧ c.2.length = 8 ∧ n ≤ X.length ∧ n % 64 = 0) (fun r s => r = s) (fun a => a.1.length) ?_ _ _ _ _ ⟨0, rfl, rfl, rfl, rfl, Nat.zero_le _, rfl⟩ (Nat.lt_succ_self _) (show X.length < ((X.length : Int) - 0).toNat + 1 by omega)
 rintro ag bg ⟨r, s⟩ ⟨at', s'⟩ ⟨n, rfl, rfl, rfl, g1, g2, g3⟩ hag
 simp only at g1 hag
 by_cases hn : n < X.length
 ·have c1 : ((X.drop n).length : Int) > 0 := by rw [List.length_drop]; omega
  have c2 : (n : Int) < (X.length : Int) := by omega
  have hlen : (sl X (n : Int) ((n : Int) + 64)).length = 64 := by rw [sl_len]; omega
  simp only [c1, c2, decide_true, if_true]
  rw [← words_eq hlen (isB_sl hX), sl_drop, sl_rest]
  have hrel : ∃ k : Nat, ((n : Int) + 64) = (k : Int) ∧ X.drop (n + 64) = X.drop k ∧ k ≤ X.length ∧ k % 64 = 0 := by
   generalize hk : n + 64 = k
   exact ⟨k, by omega, rfl, by omega, by omega⟩
  obtain ⟨k, k1, k2, k3, k4⟩ := hrel
  have hmu : (X.drop (n + 64)).length < (X.drop n).length := by rw [List.length_drop, List.length_drop]; omega
  have hm := mix_len (b := sl X (n : Int) ((n : Int) + 64)) g1
  have h1 := hag (X.drop (n + 64), digest_mix s (sl X (n : Int) ((n : Int) + 64))) ((n : Int) + 64, digest_mix s (sl X (n : Int) ((n : Int) + 64)))
  simp only at h1
  have h2 := h1 ⟨k, k1, k2, trivial, hm, k3, k4⟩ hmu
  refine Eq.trans h2 ?_
  exact (rnd_eq (fun z => bg ((n : Int) + 64, z)) g1).symm
 ·have c1 : ¬ ((X.drop n).length : Int) > 0 := by rw [List.length_drop]; omega
  have c2 : ¬ (n : Int) < (X.length : Int) := by omega
  simp only [c1, c2, decide_false, Bool.false_eq_true, if_false]
  show (_ : List Int) = _
  kernel_rfl
end Go.Proofs.YteolfhljhnplpaaGreatDoor
namespace Go.Proofs.YteolfhljhnplpaaGreatDoor
open Go.RowKit
theorem arr_range (h : List Int) : arrN 32 h = (List.range 32).map fun k : Nat => gt h (k : Int) := by kernel_rfl
theorem isB_arr {l : List Int} (h : isB l) : isB (arrN 32 l) := by
 rw [arr_range]
 intro x hx
 obtain ⟨k, _, rfl⟩ := List.mem_map.1 hx
 exact gt_isB h _
theorem isB_nat8 (t : List UInt8) : isB (nat8 t) := fun x hx => by
 obtain ⟨b, _, rfl⟩ := List.mem_map.1 hx
 have := UInt8.toNat_lt b
 omega
theorem isB_st {l : List Int} {i x : Int} (h : isB l) (hx : 0 ≤ x ∧ x ≤ 255) : isB (st l i x) := fun y hy => by
 rcases List.mem_or_eq_of_mem_set hy with h1 | h1
 ·exact h y h1
 ·rw [h1]; exact hx
theorem rsum_ok (b : List Int) : (specieref06_Sum b).length = 32 ∧ isB (specieref06_Sum b) := by
 have key : ∀ a, 0 ≤ convI .u8 a ∧ convI .u8 a ≤ 255 := fun a => by have := rng_convI .u8 a; rwa [rng_u8] at this
 unfold specieref06_Sum
 simp only [letk]
 generalize specieref06_padded b = X
 refine iter_inv (fun (_ : Int × List Int) => True) (fun r : List Int => r.length = 32 ∧ isB r) (fun a => ((X.length : Int) - a.1).toNat) ?_ _ _ trivial (show ((X.length : Int) - 0).toNat < ((X.length : Int) - 0).toNat + 1 by omega)
 rintro ag ⟨n, s⟩ _ hag
 simp only at hag
 by_cases hn : n < (X.length : Int)
 ·simp only [hn, decide_true, if_true]
  refine iter_inv (fun (_ : Int × List Int) => True) (fun r : List Int => r.length = 32 ∧ isB r) (fun a => (64 - a.1).toNat) ?_ _ _ trivial (show ((64 : Int) - 0).toNat < ((64 : Int) - 0).toNat + 1 by decide)
  rintro ag2 ⟨t, v⟩ _ hag2
  simp only at hag2
  by_cases ht : t < 64
  ·simp only [ht, decide_true, if_true]
   exact hag2 _ trivial (by simp only; omega)
  ·simp only [ht, decide_false, Bool.false_eq_true, if_false]
   refine iter_inv (fun (_ : Int × List Int) => True) (fun r : List Int => r.length = 32 ∧ isB r) (fun a => (8 - a.1).toNat) ?_ _ _ trivial (show ((8 : Int) - 0).toNat < ((8 : Int) - 0).toNat + 1 by decide)
   rintro ag3 ⟨i, h⟩ _ hag3
   simp only at hag3
   by_cases hi : i < 8
   ·simp only [hi, decide_true, if_true]
    exact hag3 _ trivial (by simp only; omega)
   ·simp only [hi, decide_false, Bool.false_eq_true, if_false]
    exact hag _ trivial (by simp only; omega)
 ·simp only [hn, decide_false, Bool.false_eq_true, if_false]
  refine iter_inv (fun (a : Int × List Int) => a.2.length = 32 ∧ isB a.2) (fun r : List Int => r.length = 32 ∧ isB r) (fun a => (32 - a.1).toNat) ?_ _ _ ⟨rfl, isB_rep 32⟩ (show ((32 : Int) - 0).toNat < ((32 : Int) - 0).toNat + 1 by decide)
  rintro ag2 ⟨t, v⟩ hv hag2
  simp only at hv hag2
  by_cases ht : t < 32
  ·simp only [ht, decide_true, if_true]
   exact hag2 _ ⟨arrN_len, isB_arr (isB_st (isB_arr hv.2) (key _))⟩ (by simp only; omega)
  ·simp only [ht, decide_false, Bool.false_eq_true, if_false]
   exact hv
theorem join_eq (b h : List Int) : specieref06_Join b h = b ++ arrN 32 h := by
 rw [arr_range]
 unfold specieref06_Join
 refine iter_inv (fun (a : Int × List Int) => ∃ k : Nat, a.1 = (k : Int) ∧ k ≤ 32 ∧ a.2 = b ++ (List.range k).map fun j : Nat => gt h (j : Int)) (fun r : List Int => r = b ++ (List.range 32).map fun k : Nat => gt h (k : Int)) (fun a => (32 - a.1).toNat) ?_ _ _ ⟨0, rfl, by decide, by simp⟩ (show ((32 : Int) - 0).toNat < ((32 : Int) - 0).toNat + 1 by decide)
 rintro ag ⟨i, q⟩ ⟨k, e1, e2, e3⟩ hag
 simp only at e1 e3 hag
 subst e1
 subst e3
 by_cases hi : k < 32
 ·have : (k : Int) < 32 := by omega
  simp only [this, decide_true, if_true]
  exact hag _ ⟨k + 1, rfl, hi, by rw [List.range_succ]; simp⟩ (by simp only; omega)
 ·have : ¬ (k : Int) < 32 := by omega
  have e : k = 32 := by omega
  simp only [this, decide_false, Bool.false_eq_true, if_false]
  rw [e]
theorem tagged_eq {tag : List UInt8} {b : List Int} (h1 : 1 ≤ tag.length) (h2 : tag.length ≤ 100) (hb : isB b) (hl : b.length ≤ 900000000) : digest_Tagged tag b = (specieref06_Tagged tag b, 0) := by
 unfold digest_Tagged specieref06_Tagged
 have c1 : ¬ (tag.length : Int) < 1 := by omega
 have c2 : ¬ (tag.length : Int) > 100 := by omega
 simp only [c1, c2, decide_false, Bool.false_eq_true, if_false, letk, bytes_Clone, join_eq, List.nil_append]
 have e1 := sum_eq (isB_nat8 tag) (by rw [nat8_len]; omega)
 obtain ⟨l1, l2⟩ := rsum_ok (nat8 tag)
 rw [e1]
 generalize specieref06_Sum (nat8 tag) = t at l1 l2
 have e2 : arrN 32 t = t := arrN_full l1
 rw [e2, sum_eq (isB_app (isB_app l2 l2) hb) (by simp only [List.length_append]; omega)]
theorem tagged_ok (tag : List UInt8) (b : List Int) : (specieref06_Tagged tag b).length = 32 ∧ isB (specieref06_Tagged tag b) := by
 unfold specieref06_Tagged
 simp only [letk]
 exact rsum_ok _
end Go.Proofs.YteolfhljhnplpaaGreatDoor
namespace Go.Proofs.YteolfhljhnplpaaGreatDoor
open Go.RowKit
set_option linter.unusedVariables false
set_option linter.unusedSimpArgs false
theorem iteF {c : Prop} [Decidable c] {a : Bool} : ((if c then false else a) = true) ↔ (¬ c ∧ a = true) := by
 by_cases h : c <;> simp [h]
theorem iteA {c : Prop} [Decidable c] {a : Bool} : ((if c then a else false) = true) ↔ (c ∧ a = true) := by
 by_cases h : c <;> simp [h]
theorem lk {α β : Type} {a : α} {f : α → β} : letk a f = f a := rfl
theorem is_ge {n : Int} (h : prime_Is n = true) : 2 ≤ n := by
 unfold prime_Is at h
 rw [iteF] at h
 have := h.1
 simp only [decide_eq_true_eq] at this
 omega
theorem group_eq (g : S_api_Group) : group_Valid g = specieref10_Valid g := by
 rw [Bool.eq_iff_iff]
 unfold group_Valid specieref10_Valid
 simp only [lk, iteF, iteA, decide_eq_true_eq, beq_iff_eq, bne_iff_ne, ne_eq, Bool.not_eq_true', Bool.not_eq_false, Decidable.not_not]
 constructor
 ·rintro ⟨h1, h2, h3, h4, h5, h6, h7, h8, h9, h10⟩
  have hp := is_ge h4
  have hq := q_le (p := g.P) (by omega) (by omega) (show 3 ≤ g.Q by omega) h6
  rw [wpow_eq (by omega) (by omega) (by omega) (by omega)] at h10
  rw [is_eq (by omega)] at h4
  rw [is_eq (by omega)] at h5
  exact ⟨by omega, h1, h2, h3, h6, h7, h8, h4, h5, h10⟩
 ·rintro ⟨h0, h1, h2, h3, h6, h7, h8, h4, h5, h10⟩
  have hq := q_le (p := g.P) (by omega) (by omega) (show 3 ≤ g.Q by omega) h6
  have hw := wpow_eq (a := g.G) (e := g.Q) (m := g.P) (by omega) (by omega) (by omega) (by omega)
  exact ⟨h1, h2, h3, by rw [is_eq (by omega)]; exact h4, by rw [is_eq (by omega)]; exact h5, h6, h7, h8, by rw [hw], by rw [hw]; exact h10⟩
theorem okG_of {g : S_api_Group} (h : specieref10_Valid g = true) : okG g := (rvalid_cf g).1 h
theorem wadd_eq {a b m : Int} (ha : 0 ≤ a ∧ a < m) (hb : 0 ≤ b ∧ b < m) (hm : m < 2305843009213693952) : word_Add a b m = ((a + b) % m, 0) := by
 unfold word_Add word_check word_residue
 simp only [lk]
 rw [if_neg (show ¬ decide (m < 1) = true by simp only [decide_eq_true_eq]; omega), if_neg (show ¬ decide (m ≥ 2305843009213693952) = true by simp only [decide_eq_true_eq]; omega)]
 have e : addI .i64 a b = a + b := by unfold addI; rw [IntKind.wrap_i64]; omega
 simp [ha.1, ha.2, hb.1, hb.2, e, rem_nn (show 0 ≤ a + b by omega)]
theorem dig_step {x c m : Int} : (x * 256 % m + c % m) % m = (x * (256 % m) % m + c) % m := by
 have h2 : (x * (256 % m)) % m = (x * 256) % m := by rw [Int.mul_emod, Int.emod_emod_of_dvd _ (Int.dvd_refl m), ← Int.mul_emod]
 rw [h2, ← Int.add_emod, Int.add_emod (x * 256 % m), Int.emod_emod_of_dvd _ (Int.dvd_refl m), ← Int.add_emod]
theorem number_eqR {h : List Int} {m : Int} (hm : 1 ≤ m) (hm1 : m < 2305843009213693952) (hb : ∀ i : Int, 0 ≤ gt h i ∧ gt h i ≤ 255) : digest_Number h m = (specieref06_Number h m, 0) := by
 unfold digest_Number specieref06_Number
 rw [if_neg (show ¬ decide (m < 1) = true by simp only [decide_eq_true_eq]; omega), if_neg (show ¬ decide (m ≥ 2305843009213693952) = true by simp only [decide_eq_true_eq]; omega)]
 have hg : ∀ i : Int, 0 ≤ i → i < 16 → gt [gt h 0, gt h 1, gt h 2, gt h 3, gt h 4, gt h 5, gt h 6, gt h 7, gt h 8, gt h 9, gt h 10, gt h 11, gt h 12, gt h 13, gt h 14, gt h 15] i = gt h i := by
  intro i h0 h1
  obtain ⟨k, rfl⟩ := Int.eq_ofNat_of_zero_le h0
  have hk : k < 16 := by omega
  match k, hk with
  | 0, _ => rfl
  | 1, _ => rfl
  | 2, _ => rfl
  | 3, _ => rfl
  | 4, _ => rfl
  | 5, _ => rfl
  | 6, _ => rfl
  | 7, _ => rfl
  | 8, _ => rfl
  | 9, _ => rfl
  | 10, _ => rfl
  | 11, _ => rfl
  | 12, _ => rfl
  | 13, _ => rfl
  | 14, _ => rfl
  | 15, _ => rfl
  | k + 16, hk => omega
 refine iter_rel (fun p q : Int × Int => p = q ∧ (0 ≤ p.1 ∧ p.1 < m) ∧ 0 ≤ p.2) (fun r s => r = (s, 0)) (fun p => (16 - p.2).toNat) ?_ _ _ _ _ ⟨rfl, ⟨by decide, by show (0 : Int) < m; omega⟩, by decide⟩ (by decide) (by decide)
 rintro ag bg ⟨x, i⟩ q ⟨rfl, p1, p2⟩ ih
 simp only at p1 p2 ih
 by_cases hi : i < 16
 ·rw [if_pos (show decide (i < 16) = true by simpa using hi), if_pos (show decide (i < 16) = true by simpa using hi)]
  simp only [hg i p2 hi]
  refine iter_rule (P := fun q : Int × Int => ∃ k : Nat, q.2 = k ∧ k ≤ 8 ∧ q.1 = x * 2 ^ k % m) (Q := fun r => r = _) (meas := fun q => (8 - q.2).toNat) ?_ _ _ ⟨0, rfl, by decide, by show x = x * 2 ^ 0 % m; rw [Int.pow_zero, Int.mul_one, Int.emod_eq_of_lt p1.1 p1.2]⟩ (by show ((8 : Int) - 0).toNat < ((8 : Int) - 0).toNat + 1; omega)
  rintro ag2 ⟨y, j⟩ ⟨k, e1, e2, e3⟩ ih2
  simp only at e1 e3 ih2
  subst e1
  have hy : 0 ≤ y ∧ y < m := by rw [e3]; exact mod_rng (by omega)
  by_cases hj : (k : Int) < 8
  ·rw [if_pos (show decide ((k : Int) < 8) = true by simpa using hj)]
   simp only [lk, wadd_eq hy hy hm1]
   refine ih2 _ ⟨k + 1, by push_cast; rfl, by omega, ?_⟩ (by show (8 - ((k : Int) + 1)).toNat < (8 - (k : Int)).toNat; omega)
   show (y + y) % m = x * 2 ^ (k + 1) % m
   rw [e3, ← Int.add_emod, Int.pow_succ]
   congr 1
   rw [← Int.mul_assoc]; omega
  ·rw [if_neg (show ¬ decide ((k : Int) < 8) = true by simpa using hj)]
   have ek : k = 8 := by omega
   have hc := hb i
   have ec : convI .i64 (gt h i) = gt h i := conv_i64 (by omega) (by omega)
   simp only [lk, ec, rem_nn hc.1]
   have er : 0 ≤ gt h i % m ∧ gt h i % m < m := mod_rng (by omega)
   rw [wadd_eq hy er hm1]
   have h256 := rem256_rng hm
   rw [rmul_eq p1.1 p1.2 h256.1, rem_nn (by decide), rred_eq hm hm1]
   have es : (y + gt h i % m) % m = (x * (256 % m) % m + gt h i) % m := by
    rw [e3, ek, show (2 : Int) ^ 8 = 256 by decide]; exact dig_step
   rw [es]
   have e64 : addI .i64 (x * (256 % m) % m) (gt h i) = x * (256 % m) % m + gt h i := by
    have := mod_rng (x := x * (256 % m)) (m := m) (by omega)
    unfold addI; rw [IntKind.wrap_i64]; omega
   first
    | rw [e64]
    | skip
   exact ih _ _ ⟨rfl, mod_rng (by omega), by show 0 ≤ i + 1; omega⟩ (by show (16 - (i + 1)).toNat < (16 - i).toNat; omega)
 ·rw [if_neg (show ¬ decide (i < 16) = true by simpa using hi), if_neg (show ¬ decide (i < 16) = true by simpa using hi)]
end Go.Proofs.YteolfhljhnplpaaGreatDoor
namespace Go.Proofs.YteolfhljhnplpaaGreatDoor
open Go.RowKit Go.Lib
theorem dig_ok {d : Nat} (h : d < 10) : (UInt8.ofNat (48 + d)).toNat = 48 + d := by
 rw [UInt8.toNat_ofNat']; omega
theorem pu_app : ∀ (l : List UInt8) (c : UInt8) (a u : Nat), parseUint10 a l = .ok u → u < 230584300921369396 → 48 ≤ c.toNat → c.toNat ≤ 57 → parseUint10 a (l ++ [c]) = .ok (u * 10 + (c.toNat - 48))
 | [], c, a, u, h, hu, h0, h1 => by
  simp only [parseUint10] at h
  injection h with h
  subst h
  rw [List.nil_append]
  simp only [parseUint10]
  rw [if_pos (by omega), if_neg (by omega), if_neg (by omega)]
 | x :: l, c, a, u, h, hu, h0, h1 => by
  rw [List.cons_append]
  simp only [parseUint10] at h ⊢
  split at h
  ·rename_i hx
   rw [if_pos hx]
   split at h
   ·cases h
   ·rename_i hy
    rw [if_neg hy]
    split at h
    ·cases h
    ·rename_i hz
     rw [if_neg hz]
     exact pu_app l c _ u h hu h0 h1
  ·cases h
theorem pu_dec : ∀ (u : Nat), u < 2305843009213693952 → parseUint10 0 (decDigits u) = .ok u := by
 intro u
 induction u using Nat.strongRecOn with
 | _ u ih =>
  intro hu
  by_cases h : u < 10
  ·rw [decDigits_one h]
   simp only [parseUint10, dig_ok h]
   rw [if_pos (by omega), if_neg (by omega), if_neg (by omega)]
   congr 1
   omega
  ·have hd : u % 10 < 10 := by omega
   rw [decDigits, dif_neg h]
   have := pu_app (decDigits (u / 10)) (UInt8.ofNat (48 + u % 10)) 0 (u / 10) (ih (u / 10) (by omega) (by omega)) (by omega) (by rw [dig_ok hd]; omega) (by rw [dig_ok hd]; omega)
   rw [this, dig_ok hd]
   congr 1
   omega
theorem dec_digits : ∀ (u : Nat), ∀ c ∈ decDigits u, 48 ≤ c.toNat ∧ c.toNat ≤ 57 := by
 intro u
 induction u using Nat.strongRecOn with
 | _ u ih =>
  intro c hc
  by_cases h : u < 10
  ·rw [decDigits_one h] at hc
   simp only [List.mem_cons, List.not_mem_nil, or_false] at hc
   rw [hc, dig_ok h]; omega
  ·rw [decDigits, dif_neg h] at hc
   rcases List.mem_append.1 hc with h1 | h1
   ·exact ih (u / 10) (by omega) c h1
   ·simp only [List.mem_cons, List.not_mem_nil, or_false] at h1
    rw [h1, dig_ok (by omega)]; omega
theorem dec_ne (u : Nat) : decDigits u ≠ [] := by
 intro h
 have h1 := decDigits_length u
 rw [h, List.length_nil] at h1
 by_cases hu : u < 10
 ·rw [nDigits_small hu] at h1; omega
 ·rw [nDigits_big hu] at h1; omega
theorem atoi_itoa {n : Int} (h0 : 0 ≤ n) (h1 : n < 2305843009213693952) : strconv_Atoi (strconv_Itoa n) = (n, true) := by
 obtain ⟨u, rfl⟩ := Int.eq_ofNat_of_zero_le h0
 unfold strconv_Atoi strconv_Itoa
 rw [itoa_nonneg]
 have hp := pu_dec u (by omega)
 have hd := dec_digits u
 have hn := dec_ne u
 have e : atoiAll (decDigits u) = .ok (u : Int) := by
  cases hl : decDigits u with
  | nil => exact absurd hl hn
  | cons c r =>
   rw [hl] at hp hd
   have hc := hd c (by simp)
   unfold atoiAll
   simp only
   rw [if_neg (show ¬ (c.toNat = 43 ∨ c.toNat = 45) by omega)]
   unfold parseMag
   rw [if_neg (by simp), hp]
   simp only
   rw [if_neg (by omega), if_neg (by omega), if_neg (by omega)]
 rw [e]
theorem itoa_no32 {n : Int} (h0 : 0 ≤ n) : (32 : UInt8) ∉ strconv_Itoa n := by
 obtain ⟨u, rfl⟩ := Int.eq_ofNat_of_zero_le h0
 unfold strconv_Itoa
 rw [itoa_nonneg]
 intro h
 have := dec_digits u _ h
 have e : (32 : UInt8).toNat = 32 := rfl
 omega
def cutAll (c : UInt8) : List UInt8 → List (List UInt8)
 | [] => [[]]
 | b :: s => if b = c then [] :: cutAll c s else match cutAll c s with
  | [] => [[b]]
  | p :: ps => (b :: p) :: ps
theorem cutAll_app (c : UInt8) : ∀ (p s : List UInt8), c ∉ p → cutAll c (p ++ c :: s) = p :: cutAll c s
 | [], s, _ => by rw [List.nil_append, cutAll, if_pos rfl]
 | b :: p, s, h => by
  have hb : b ≠ c := fun e => h (by rw [e]; simp)
  rw [List.cons_append, cutAll, if_neg hb, cutAll_app c p s (fun e => h (List.mem_cons_of_mem _ e))]
theorem cutAll_one (c : UInt8) : ∀ (p : List UInt8), c ∉ p → cutAll c p = [p]
 | [], _ => rfl
 | b :: p, h => by
  have hb : b ≠ c := fun e => h (by rw [e]; simp)
  rw [cutAll, if_neg hb, cutAll_one c p (fun e => h (List.mem_cons_of_mem _ e))]
theorem cutAll_join (c : UInt8) : ∀ (p : List UInt8) (ps : List (List UInt8)), (∀ x ∈ p :: ps, c ∉ x) → cutAll c (Lib.join (p :: ps) [c]) = p :: ps
 | p, [], h => by rw [join_one, cutAll_one c p (h p (by simp))]
 | p, q :: ps, h => by
  have ih := cutAll_join c q ps (fun x hx => h x (List.mem_cons_of_mem _ hx))
  have e : Lib.join (p :: q :: ps) [c] = p ++ c :: Lib.join (q :: ps) [c] := by
   rw [join_cons, join_cons]
   simp [joinTail]
  rw [e, cutAll_app c p _ (h p (by simp)), ih]
theorem index_one (c : UInt8) : ∀ s : List UInt8, index s [c] = -1 ∧ c ∉ s ∨ ∃ p r, s = p ++ c :: r ∧ c ∉ p ∧ index s [c] = (p.length : Nat)
 | [] => .inl ⟨by simp [index], by simp⟩
 | b :: s => by
  by_cases h : b = c
  ·subst h
   exact .inr ⟨[], s, rfl, by simp, by rw [index]; simp [List.isPrefixOf]⟩
  ·have hp : ([c] : List UInt8).isPrefixOf (b :: s) = false := by simp [List.isPrefixOf, Ne.symm h]
   have hix : index (b :: s) [c] = if index s [c] == -1 then -1 else index s [c] + 1 := by rw [index, hp]; simp
   rcases index_one c s with ⟨h1, h2⟩ | ⟨p, r, h1, h2, h3⟩
   ·exact .inl ⟨by rw [hix, h1]; rfl, by simp [Ne.symm h, h2]⟩
   ·exact .inr ⟨b :: p, r, by rw [h1]; rfl, by simp [Ne.symm h, h2], by rw [hix, h3, if_neg (by simp), List.length_cons]; push_cast; rfl⟩
theorem splitK_one (c : UInt8) : ∀ (k : Nat) (s : List UInt8), s.count c ≤ k → splitK [c] 0 k s = cutAll c s
 | 0, s, h => by
  have : c ∉ s := by
   intro hm
   have := List.count_pos_iff.2 hm
   omega
  rw [cutAll_one c s this]; rfl
 | k + 1, s, h => by
  unfold splitK
  rcases index_one c s with ⟨h1, h2⟩ | ⟨p, r, h1, h2, h3⟩
  ·rw [if_pos (by rw [h1]; rfl), cutAll_one c s h2]
  ·rw [if_neg (by rw [h3]; simp), h3]
   have e1 : ((p.length : Nat) : Int).toNat = p.length := Int.toNat_natCast _
   rw [e1, h1, cutAll_app c p r h2, List.length_singleton, Nat.add_zero, List.take_left]
   have e2 : (p ++ c :: r).drop (p.length + 1) = r := by
    rw [List.drop_append]
    simp
   rw [e2, splitK_one c k r]
   rw [h1, List.count_append, List.count_cons_self] at h
   omega
theorem split_one (c : UInt8) (s : List UInt8) : strings_Split s [c] = cutAll c s := by
 unfold strings_Split
 refine splitK_one c _ s ?_
 have h := count_one c s
 have e : countB ⟨s.toArray⟩ ⟨[c].toArray⟩ = count s [c] := rfl
 rw [e, h]
 exact Nat.le_refl _
end Go.Proofs.YteolfhljhnplpaaGreatDoor
