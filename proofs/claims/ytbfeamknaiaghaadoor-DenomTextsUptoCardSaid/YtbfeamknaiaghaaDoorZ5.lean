/- Texts of this proof, one after the other: SH, E1, M, L0, H1, H2, U1. -/
import Derived.Ground.NamesProg
import Derived.Shelf.Strings.OnBuilder
import Derived.Shelf.Strconv.Itoa0
import Derived.Shelf.LaysM
import Derived.Shelf.LaysC
import Derived.Shelf.Strconv.Itoa3
import Derived.Shelf.Strings.Cut
import Derived.Shelf.Strings.Split
import Derived.Test.YtbfeamknaiaghaaDoorProg
import Derived.Test.YtbfeamknaiaghaaDoorZ4
import Derived.Lib.AtoiErrMem
import Derived.Lib.AppendIntMem
import Derived.Lib.ItoaLen
import Derived.Shelf.Strconv.AtoiAll
import Derived.Shelf.Strconv.ErrVarAll
import Derived.KernelRfl
import Derived.Lib.Join
set_option linter.unusedVariables false
set_option linter.unusedSimpArgs false
namespace Go.Proofs
open Go.Shelf
def Tryd.lays156_ren : Go.Shelf.Ren := ⟨fun | 156 => 28 | 165 => 49 | 166 => 50 | 169 => 51 | 240 => 69 | 241 => 70 | 276 => 96 | 277 => 97 | n => n, fun | 31 => 66 | 9 => 9 | 3 => 3 | 4 => 4 | 0 => 0 | 20 => 20 | 72 => 93 | 76 => 80 | 70 => 91 | 37 => 44 | 75 => 79 | 127 => 117 | 164 => 149 | 5 => 5 | 80 => 95 | n => n, fun | n => n⟩
theorem Tryd.lays156 : Go.Proofs.Lays.n156 Tryd.prog Tryd.lays156_ren := {
 mixed := by kernel_rfl
 f156 := Tryd.func28.trans (congrArg some (by kernel_rfl))
 f165 := Tryd.func49.trans (congrArg some (by kernel_rfl))
 f166 := Tryd.func50.trans (congrArg some (by kernel_rfl))
 f169 := Tryd.func51.trans (congrArg some (by kernel_rfl))
 f240 := Tryd.func69.trans (congrArg some (by kernel_rfl))
 f241 := Tryd.func70.trans (congrArg some (by kernel_rfl))
 f276 := Tryd.func96.trans (congrArg some (by kernel_rfl))
 f277 := Tryd.func97.trans (congrArg some (by kernel_rfl))
 t0 := Tryd.underlying0
 a0 := Tryd.isAgg0
 z0 := Tryd.sizeOf0
 v0 := Tryd.zeroValue0
 t3 := Tryd.underlying3
 a3 := Tryd.isAgg3
 z3 := Tryd.sizeOf3
 v3 := Tryd.zeroValue3
 t4 := Tryd.underlying4
 a4 := Tryd.isAgg4
 z4 := Tryd.sizeOf4
 v4 := Tryd.zeroValue4
 t9 := Tryd.underlying9
 a9 := Tryd.isAgg9
 z9 := Tryd.sizeOf9
 v9 := Tryd.zeroValue9
 t20 := Tryd.underlying20
 a20 := Tryd.isAgg20
 z20 := Tryd.sizeOf20
 v20 := Tryd.zeroValue20
 t31 := Tryd.underlying66
 a31 := Tryd.isAgg66
 z31 := Tryd.sizeOf66
 v31 := Tryd.zeroValue66
 t37 := Tryd.underlying44
 a37 := Tryd.isAgg44
 z37 := Tryd.sizeOf44
 v37 := Tryd.zeroValue44
 t70 := Tryd.underlying91
 a70 := Tryd.isAgg91
 z70 := Tryd.sizeOf91
 v70 := Tryd.zeroValue91
 t72 := Tryd.underlying93
 a72 := Tryd.isAgg93
 z72 := Tryd.sizeOf93
 v72 := Tryd.zeroValue93
 t75 := Tryd.underlying79
 a75 := Tryd.isAgg79
 z75 := Tryd.sizeOf79
 v75 := Tryd.zeroValue79
 t76 := Tryd.underlying80
 a76 := Tryd.isAgg80
 z76 := Tryd.sizeOf80
 v76 := Tryd.zeroValue80
 t127 := Tryd.underlying117
 a127 := Tryd.isAgg117
 z127 := Tryd.sizeOf117
 v127 := Tryd.zeroValue117
 t164 := Tryd.underlying149
 a164 := Tryd.isAgg149
 z164 := Tryd.sizeOf149
 v164 := Tryd.zeroValue149 }
theorem Tryd.Builder_Extra_156 : Builder.Extra Tryd.prog Tryd.lays156_ren := {
 sizeBuilder := by kernel_rfl
 liesBuilder := by kernel_rfl
 t5 := Tryd.underlying5
 a5 := Tryd.isAgg5
 z5 := Tryd.sizeOf5
 v5 := Tryd.zeroValue5
 infoByte := by kernel_rfl
 cellsByte := by kernel_rfl
 sizeByte := by kernel_rfl
 neB5 := by decide }
def Tryd.laysM171_ren : Go.Shelf.Ren := ⟨fun | 171 => 27 | 243 => 48 | 246 => 68 | 283 => 92 | 284 => 93 | 285 => 94 | 286 => 95 | 129 => 116 | 317 => 115 | 318 => 117 | 319 => 118 | 320 => 119 | 337 => 126 | 338 => 80 | n => n, fun | 3 => 3 | 9 => 9 | 2 => 2 | 4 => 4 | 171 => 145 | 0 => 0 | 53 => 104 | 37 => 44 | 5 => 5 | 173 => 147 | 212 => 170 | 51 => 106 | 20 => 20 | 213 => 171 | 46 => 96 | 232 => 50 | 233 => 163 | n => n, fun | 17 => 7 | 18 => 12 | 19 => 6 | n => n⟩
theorem Tryd.laysM171 : Go.Proofs.LaysM.n171 Tryd.prog Tryd.laysM171_ren := {
 mixed := by kernel_rfl
 f129 := Tryd.func116.trans (congrArg some (by kernel_rfl))
 f171 := Tryd.func27.trans (congrArg some (by kernel_rfl))
 f243 := Tryd.func48.trans (congrArg some (by kernel_rfl))
 f246 := Tryd.func68.trans (congrArg some (by kernel_rfl))
 f283 := Tryd.func92.trans (congrArg some (by kernel_rfl))
 f284 := Tryd.func93.trans (congrArg some (by kernel_rfl))
 f285 := Tryd.func94.trans (congrArg some (by kernel_rfl))
 f286 := Tryd.func95.trans (congrArg some (by kernel_rfl))
 f317 := Tryd.func115.trans (congrArg some (by kernel_rfl))
 f318 := Tryd.func117.trans (congrArg some (by kernel_rfl))
 f319 := Tryd.func118.trans (congrArg some (by kernel_rfl))
 f320 := Tryd.func119.trans (congrArg some (by kernel_rfl))
 f337 := Tryd.func126.trans (congrArg some (by kernel_rfl))
 f338 := Tryd.func80.trans (congrArg some (by kernel_rfl))
 t0 := Tryd.underlying0
 a0 := Tryd.isAgg0
 z0 := Tryd.sizeOf0
 v0 := Tryd.zeroValue0
 t2 := Tryd.underlying2
 a2 := Tryd.isAgg2
 z2 := Tryd.sizeOf2
 v2 := Tryd.zeroValue2
 t3 := Tryd.underlying3
 a3 := Tryd.isAgg3
 z3 := Tryd.sizeOf3
 v3 := Tryd.zeroValue3
 t4 := Tryd.underlying4
 a4 := Tryd.isAgg4
 z4 := Tryd.sizeOf4
 v4 := Tryd.zeroValue4
 t5 := Tryd.underlying5
 a5 := Tryd.isAgg5
 z5 := Tryd.sizeOf5
 v5 := Tryd.zeroValue5
 t9 := Tryd.underlying9
 a9 := Tryd.isAgg9
 z9 := Tryd.sizeOf9
 v9 := Tryd.zeroValue9
 t20 := Tryd.underlying20
 a20 := Tryd.isAgg20
 z20 := Tryd.sizeOf20
 v20 := Tryd.zeroValue20
 t37 := Tryd.underlying44
 a37 := Tryd.isAgg44
 z37 := Tryd.sizeOf44
 v37 := Tryd.zeroValue44
 t46 := Tryd.underlying96
 a46 := Tryd.isAgg96
 z46 := Tryd.sizeOf96
 v46 := Tryd.zeroValue96
 t51 := Tryd.underlying106
 a51 := Tryd.isAgg106
 z51 := Tryd.sizeOf106
 v51 := Tryd.zeroValue106
 t53 := Tryd.underlying104
 a53 := Tryd.isAgg104
 z53 := Tryd.sizeOf104
 v53 := Tryd.zeroValue104
 t171 := Tryd.underlying145
 a171 := Tryd.isAgg145
 z171 := Tryd.sizeOf145
 v171 := Tryd.zeroValue145
 t173 := Tryd.underlying147
 a173 := Tryd.isAgg147
 z173 := Tryd.sizeOf147
 v173 := Tryd.zeroValue147
 t212 := Tryd.underlying170
 a212 := Tryd.isAgg170
 z212 := Tryd.sizeOf170
 v212 := Tryd.zeroValue170
 t213 := Tryd.underlying171
 a213 := Tryd.isAgg171
 z213 := Tryd.sizeOf171
 t232 := Tryd.underlying50
 a232 := Tryd.isAgg50
 z232 := Tryd.sizeOf50
 v232 := Tryd.zeroValue50
 t233 := Tryd.underlying163
 a233 := Tryd.isAgg163
 z233 := Tryd.sizeOf163
 v233 := Tryd.zeroValue163
 g17 := by kernel_rfl
 g18 := by kernel_rfl
 g19 := by kernel_rfl
 i0 := by kernel_rfl
 i2 := by kernel_rfl
 i3 := by kernel_rfl
 i4 := by kernel_rfl
 i5 := by kernel_rfl
 i9 := by kernel_rfl
 i20 := by kernel_rfl
 i37 := by kernel_rfl
 i46 := by kernel_rfl
 i51 := by kernel_rfl
 i53 := by kernel_rfl
 i171 := by kernel_rfl
 i173 := by kernel_rfl
 i212 := by kernel_rfl
 i232 := by kernel_rfl
 i233 := by kernel_rfl
 m17 := by kernel_rfl
 m18 := by kernel_rfl
 m19 := by kernel_rfl }
def Tryd.lays145_ren : Go.Shelf.Ren := ⟨fun | 145 => 31 | 220 => 53 | 219 => 74 | 217 => 101 | 225 => 102 | 224 => 103 | 267 => 104 | 266 => 121 | 314 => 122 | n => n, fun | 9 => 9 | 4 => 4 | 59 => 71 | 3 => 3 | 5 => 5 | 46 => 96 | 146 => 141 | 51 => 106 | n => n, fun | 1 => 3 | n => n⟩
theorem Tryd.lays145 : Go.Proofs.Lays.n145 Tryd.prog Tryd.lays145_ren := {
 mixed := by kernel_rfl
 f145 := Tryd.func31.trans (congrArg some (by kernel_rfl))
 f217 := Tryd.func101.trans (congrArg some (by kernel_rfl))
 f219 := Tryd.func74.trans (congrArg some (by kernel_rfl))
 f220 := Tryd.func53.trans (congrArg some (by kernel_rfl))
 f224 := Tryd.func103.trans (congrArg some (by kernel_rfl))
 f225 := Tryd.func102.trans (congrArg some (by kernel_rfl))
 f266 := Tryd.func121.trans (congrArg some (by kernel_rfl))
 f267 := Tryd.func104.trans (congrArg some (by kernel_rfl))
 f314 := Tryd.func122.trans (congrArg some (by kernel_rfl))
 t3 := Tryd.underlying3
 a3 := Tryd.isAgg3
 z3 := Tryd.sizeOf3
 v3 := Tryd.zeroValue3
 t4 := Tryd.underlying4
 a4 := Tryd.isAgg4
 z4 := Tryd.sizeOf4
 v4 := Tryd.zeroValue4
 t5 := Tryd.underlying5
 a5 := Tryd.isAgg5
 z5 := Tryd.sizeOf5
 v5 := Tryd.zeroValue5
 t9 := Tryd.underlying9
 a9 := Tryd.isAgg9
 z9 := Tryd.sizeOf9
 v9 := Tryd.zeroValue9
 t46 := Tryd.underlying96
 a46 := Tryd.isAgg96
 z46 := Tryd.sizeOf96
 v46 := Tryd.zeroValue96
 t51 := Tryd.underlying106
 a51 := Tryd.isAgg106
 z51 := Tryd.sizeOf106
 v51 := Tryd.zeroValue106
 t59 := Tryd.underlying71
 a59 := Tryd.isAgg71
 z59 := Tryd.sizeOf71
 v59 := Tryd.zeroValue71
 t146 := Tryd.underlying141
 a146 := Tryd.isAgg141
 z146 := Tryd.sizeOf141
 v146 := Tryd.zeroValue141
 g1 := by kernel_rfl }
def Tryd.lays146_ren : Go.Shelf.Ren := ⟨fun | 146 => 30 | 221 => 52 | 268 => 71 | 138 => 72 | 143 => 73 | 195 => 98 | 197 => 99 | 218 => 100 | 219 => 74 | 260 => 120 | 217 => 101 | 225 => 102 | 224 => 103 | 267 => 104 | 266 => 121 | 314 => 122 | n => n, fun | 9 => 9 | 31 => 66 | 3 => 3 | 4 => 4 | 0 => 0 | 105 => 153 | 21 => 21 | 5 => 5 | 46 => 96 | 119 => 180 | 139 => 183 | 138 => 182 | 146 => 141 | 51 => 106 | n => n, fun | 1 => 3 | 3 => 10 | 4 => 11 | n => n⟩
theorem Tryd.lays146 : Go.Proofs.Lays.n146 Tryd.prog Tryd.lays146_ren := {
 mixed := by kernel_rfl
 f138 := Tryd.func72.trans (congrArg some (by kernel_rfl))
 f143 := Tryd.func73.trans (congrArg some (by kernel_rfl))
 f146 := Tryd.func30.trans (congrArg some (by kernel_rfl))
 f195 := Tryd.func98.trans (congrArg some (by kernel_rfl))
 f197 := Tryd.func99.trans (congrArg some (by kernel_rfl))
 f217 := Tryd.func101.trans (congrArg some (by kernel_rfl))
 f218 := Tryd.func100.trans (congrArg some (by kernel_rfl))
 f219 := Tryd.func74.trans (congrArg some (by kernel_rfl))
 f221 := Tryd.func52.trans (congrArg some (by kernel_rfl))
 f224 := Tryd.func103.trans (congrArg some (by kernel_rfl))
 f225 := Tryd.func102.trans (congrArg some (by kernel_rfl))
 f260 := Tryd.func120.trans (congrArg some (by kernel_rfl))
 f266 := Tryd.func121.trans (congrArg some (by kernel_rfl))
 f267 := Tryd.func104.trans (congrArg some (by kernel_rfl))
 f268 := Tryd.func71.trans (congrArg some (by kernel_rfl))
 f314 := Tryd.func122.trans (congrArg some (by kernel_rfl))
 t0 := Tryd.underlying0
 a0 := Tryd.isAgg0
 z0 := Tryd.sizeOf0
 v0 := Tryd.zeroValue0
 t3 := Tryd.underlying3
 a3 := Tryd.isAgg3
 z3 := Tryd.sizeOf3
 v3 := Tryd.zeroValue3
 t4 := Tryd.underlying4
 a4 := Tryd.isAgg4
 z4 := Tryd.sizeOf4
 v4 := Tryd.zeroValue4
 t5 := Tryd.underlying5
 a5 := Tryd.isAgg5
 z5 := Tryd.sizeOf5
 v5 := Tryd.zeroValue5
 t9 := Tryd.underlying9
 a9 := Tryd.isAgg9
 z9 := Tryd.sizeOf9
 v9 := Tryd.zeroValue9
 t21 := Tryd.underlying21
 a21 := Tryd.isAgg21
 z21 := Tryd.sizeOf21
 v21 := Tryd.zeroValue21
 t31 := Tryd.underlying66
 a31 := Tryd.isAgg66
 z31 := Tryd.sizeOf66
 v31 := Tryd.zeroValue66
 t46 := Tryd.underlying96
 a46 := Tryd.isAgg96
 z46 := Tryd.sizeOf96
 v46 := Tryd.zeroValue96
 t51 := Tryd.underlying106
 a51 := Tryd.isAgg106
 z51 := Tryd.sizeOf106
 v51 := Tryd.zeroValue106
 t105 := Tryd.underlying153
 a105 := Tryd.isAgg153
 z105 := Tryd.sizeOf153
 v105 := Tryd.zeroValue153
 t119 := Tryd.underlying180
 a119 := Tryd.isAgg180
 z119 := Tryd.sizeOf180
 t138 := Tryd.underlying182
 a138 := Tryd.isAgg182
 z138 := Tryd.sizeOf182
 v138 := Tryd.zeroValue182
 t139 := Tryd.underlying183
 a139 := Tryd.isAgg183
 z139 := Tryd.sizeOf183
 v139 := Tryd.zeroValue183
 t146 := Tryd.underlying141
 a146 := Tryd.isAgg141
 z146 := Tryd.sizeOf141
 v146 := Tryd.zeroValue141
 g1 := by kernel_rfl
 g3 := by kernel_rfl
 g4 := by kernel_rfl }
end Go.Proofs
namespace Go.Proofs.YtbfeamknaiaghaaDoor
open Go.RowKit Go.Shelf Go.Lib
theorem ok_of2 {f : FuncId} {ws : List V} {r : V} (he : ∀ xs w, (callFunc f xs).run En.P w = .ok (.enter f xs) w)
  (h : ∀ (c : Cx) us, Gl En c → rdT ro0 c ws us → wfL ws → Calls En.P f us.toArray c.w fun e w' => ∃ v, e = .returned v ∧ ∃ hb : Below c.w.heap.size c.w w', rd ro0 (c.at w' hb.size) r v) : CallOk En f ws r [] :=
 ⟨he, fun c us _ hg hus => (h c us hg hus (rdT_wf hus)).mono fun e w' ⟨v, e1, hb, hr⟩ => ⟨v, c.at w' hb.size, ro0, e1, rfl, Cx.le_at hb, hr, ⟨fun i b hb => by simp at hb, fun i _ => rfl, fun i j bi bj k _ hb => by simp at hb⟩⟩⟩
def strconv_Itoa (n : Int) : List UInt8 := Lib.itoa n
theorem pow_tab {c : Cx} (hg : Gl En c) : Lib.TabIs En.P c.w "internal/strconv.uint64pow10" .u64 Lib.pow10Tab := by
 obtain ⟨_, h⟩ := hg 7 _ rfl
 simp only [rd] at h
 exact h.1.2.2.2.2
theorem Itoa_call (x_ : Int) : CallOk En 27 [.int .i64 x_] (.str (strconv_Itoa x_)) [] := by
 refine ok_of2 (show ∀ xs w, (callFunc 27 xs).run En.P w = .ok (.enter 27 xs) w from enters_of Tryd.func27 (by kernel_rfl) rfl) fun c us hg hus hw => ?_
 simp only [rdT, rd] at hus
 obtain ⟨u0, c2, rfl, ⟨rfl, l0⟩, rfl⟩ := hus
 have h0 : -9223372036854775808 ≤ x_ ∧ x_ ≤ 9223372036854775807 := l0
 refine (show Calls En.P 27 #[.int .i64 x_] c.w _ from Any.strconv_Itoa Tryd.laysM171 x_ h0.1 h0.2 c.w (pow_tab hg)).mono ?_
 rintro e w' ⟨rfl, k, os, rfl⟩
 have hl := Lib.itoa_length_le x_ h0.1 h0.2
 refine ⟨_, rfl, Lib.below_grow _ _ (Nat.le_refl _) k os, ?_⟩
 simp only [rd]
 exact ⟨rfl, by unfold strconv_Itoa LEN; omega⟩
instance strconv_Itoa_ok (x_ : Int) : CM En (strconv_Itoa x_) 27 [.int .i64 x_] (fun y => .str y) (fun _ => []) := ⟨Itoa_call x_⟩
def strings_Join (l : List (List UInt8)) (sep : List UInt8) : List UInt8 := Lib.join l sep
theorem rdE_str {c : Cx} : ∀ {l : List (List UInt8)} {cs : List Value}, rdE c 1 false (l.map V.str) cs → cs = (l.map fun x => (⟨x.toArray⟩ : ByteArray)).map Value.string
 | [], _, h => h
 | x :: l, cs, h => by
  simp only [List.map_cons, rdE] at h
  obtain ⟨c1, c2, rfl, ⟨⟨h1, h2, h3⟩, h4⟩, h5⟩ := h
  match c1, h1 with
  | [u], _ =>
   have h4' : u = .string ⟨x.toArray⟩ := h4.1
   rw [rdE_str h5, h4']; rfl
theorem strs_data (l : List (List UInt8)) : (l.map fun x => (⟨x.toArray⟩ : ByteArray)).map (·.data.toList) = l := by
 rw [List.map_map]
 conv => rhs; rw [← List.map_id l]
 rfl
theorem Join_call (l : List (List UInt8)) (sep : List UInt8) (hj : (Lib.join l sep).length ≤ 1000000) : CallOk En 28 [.sl none 1 false (l.map V.str), .str sep] (.str (strings_Join l sep)) [] := by
 refine ok_of2 (show ∀ xs w, (callFunc 28 xs).run En.P w = .ok (.enter 28 xs) w from enters_of Tryd.func28 (by kernel_rfl) rfl) fun c us hg hus hw => ?_
 simp only [rdT, rd] at hus
 obtain ⟨u0, c2, rfl, ⟨a, cap, rfl, hlen, hz, hs⟩, u1, c3, rfl, ⟨rfl, l1⟩, rfl⟩ := hus
 rw [List.length_map] at hlen
 rcases hs with h0 | ⟨b, o, cs, rfl, hb, hX, hcell, hE⟩
 ·have h0' : l = [] := by cases l with
   | nil => rfl
   | cons x l => cases h0
  subst h0'
  refine (show Calls En.P 28 #[.slice a 0 cap, .string ⟨sep.toArray⟩] c.w _ from Any.strings_Join_none Tryd.lays156 Tryd.Builder_Extra_156 a cap ⟨sep.toArray⟩ c.w).mono ?_
  rintro e w' ⟨rfl, rfl⟩
  refine ⟨_, rfl, Below.refl _ _, ?_⟩
  simp only [rd]
  exact ⟨rfl, Nat.zero_le _⟩
 ·have hcs := rdE_str hE
  subst hcs
  have hn : ((l.map V.str).length) = (l.map fun x => (⟨x.toArray⟩ : ByteArray)).length := by simp
  rw [hn]
  generalize hbs : (l.map fun x => (⟨x.toArray⟩ : ByteArray)) = bs at hcell
  have hdat : bs.map (·.data.toList) = l := by rw [← hbs]; exact strs_data l
  have hbl : bs.length = l.length := by rw [← hbs, List.length_map]
  have hc1 : ∀ (j : Nat) x, bs[j]? = some x → c.w.cell? ⟨b, o + j, none⟩ = some (.string x) := fun j x hx => hcell j _ (by rw [List.getElem?_map, hx]; rfl)
  have hl1 : (Lib.join (bs.map (·.data.toList)) (⟨sep.toArray⟩ : ByteArray).data.toList).length ≤ 140737488355328 := by
   rw [hdat]
   show (Lib.join l sep).length ≤ _
   omega
  have h47 : bs.length ≤ 140737488355328 := by
   have := hlen.1
   rw [hbl]
   unfold LEN at this
   omega
  have hcall := Any.strings_Join Tryd.lays156 Tryd.Builder_Extra_156 b o cap bs ⟨sep.toArray⟩ c.w hc1 hb h47 (by rw [hbl]; exact hlen.2) hl1
  refine (show Calls En.P 28 #[.slice (some ⟨b, o, none⟩) bs.length cap, .string ⟨sep.toArray⟩] c.w _ from hcall).mono ?_
  rintro e w' ⟨rfl, hB⟩
  refine ⟨_, rfl, hB, ?_⟩
  rw [hdat]
  simp only [rd]
  exact ⟨rfl, Nat.le_trans hj (by unfold LEN; omega)⟩
theorem strings_Join_ok (l : List (List UInt8)) (sep : List UInt8) (hp0 : (Lib.join l sep).length ≤ 1000000) : CM En (strings_Join l sep) 28 [.sl none 1 false (l.map V.str), .str sep] (fun y => .str y) (fun _ => []) := ⟨Join_call l sep hp0⟩
def strings_Split (s sep : List UInt8) : List (List UInt8) := splitK sep 0 (countB ⟨s.toArray⟩ ⟨sep.toArray⟩) s
theorem maxLen {c : Cx} (hg : Gl En c) : ∃ m, c.w.cell? ⟨3, 0, none⟩ = some (.int .i64 m) := by
 obtain ⟨_, h⟩ := hg 3 _ rfl
 simp only [rd] at h
 obtain ⟨b, o, cs, e, _, _, h3, h4, h5⟩ := h
 cases e
 unfold shapeOk at h4
 match cs, h4, h3, h5 with
 | [u], _, h3, h5 =>
  obtain ⟨⟨m, e⟩, _⟩ := h5
  refine ⟨m, ?_⟩
  have := h3 0 u rfl
  rw [this]
  simpa [mkV] using e
theorem rdE_of_str {c : Cx} : ∀ {l : List ByteArray}, (∀ x ∈ l, x.size ≤ LEN) → rdE c 1 false ((l.map (·.data.toList)).map V.str) (l.map Value.string)
 | [], _ => rfl
 | x :: l, h => by
  simp only [List.map_cons, rdE]
  refine ⟨[.string x], _, rfl, ⟨⟨rfl, fun _ => rfl, fun u hu => by simp at hu; subst hu; rfl⟩, ?_⟩, rdE_of_str fun y hy => h y (by simp [hy])⟩
  show Value.string x = .string ⟨x.data.toList.toArray⟩ ∧ x.data.toList.length ≤ LEN
  exact ⟨by simp, h x (by simp)⟩
theorem splitB_small (sep : ByteArray) (n : Nat) : ∀ (k : Nat) (s : ByteArray), s.size ≤ n → ∀ x ∈ splitB sep 0 k s, x.size ≤ n
 | 0, s, h, x, hx => by rw [splitB_zero] at hx; simp at hx; subst hx; exact h
 | k + 1, s, h, x, hx => by
  unfold splitB at hx
  split at hx
  ·simp at hx; subst hx; exact h
  ·rcases List.mem_cons.1 hx with rfl | hx
   ·rw [ByteArray.size_extract]; omega
   ·exact splitB_small sep n k _ (by rw [ByteArray.size_extract]; omega) x hx
theorem Split_call (s sep : List UInt8) (hsep : 1 ≤ sep.length) (hs : s.length ≤ 1000000) : CallOk En 30 [.str s, .str sep] (.sl none 1 false ((strings_Split s sep).map V.str)) [] := by
 refine ok_of2 (show ∀ xs w, (callFunc 30 xs).run En.P w = .ok (.enter 30 xs) w from enters_of Tryd.func30 (by kernel_rfl) rfl) fun c us hg hus hw => ?_
 simp only [rdT, rd] at hus
 obtain ⟨u0, c2, rfl, ⟨rfl, l0⟩, u1, c3, rfl, ⟨rfl, l1⟩, rfl⟩ := hus
 obtain ⟨m, hm⟩ := maxLen hg
 have hsz : (⟨s.toArray⟩ : ByteArray).size = s.length := by show s.toArray.size = _; simp
 have hse : (⟨sep.toArray⟩ : ByteArray).size = sep.length := by show sep.toArray.size = _; simp
 have hcl := Lib.countB_le ⟨sep.toArray⟩ (by omega) (⟨s.toArray⟩ : ByteArray).size ⟨s.toArray⟩ (Nat.le_refl _)
 have hlen := Lib.splitB_all ⟨sep.toArray⟩ (by omega) 0 _ ⟨s.toArray⟩ rfl
 refine (show Calls En.P 30 #[.string ⟨s.toArray⟩, .string ⟨sep.toArray⟩] c.w _ from Any.strings_Split Tryd.lays146 (by kernel_rfl) ⟨s.toArray⟩ ⟨sep.toArray⟩ m c.w (by omega) hm (by omega)).mono ?_
 rintro e w' ⟨rfl, rfl⟩
 generalize hL : splitB ⟨sep.toArray⟩ 0 (countB ⟨s.toArray⟩ ⟨sep.toArray⟩) ⟨s.toArray⟩ = L at hlen
 have hB : Below c.w.heap.size c.w (c.w.alloc (.cells (L.map Value.string).toArray (Tryd.lays146_ren.t 9))) := (Below.refl _ _).alloc (Nat.le_refl _) _
 refine ⟨_, rfl, hB, ?_⟩
 have hd : strings_Split s sep = L.map (·.data.toList) := by rw [← hL, splitB_data]; rfl
 have hsm : ∀ x ∈ L, x.size ≤ LEN := by rw [← hL]; exact splitB_small _ _ _ _ (by unfold LEN; omega)
 rw [hd]
 simp only [rd]
 have hLl : (L.map (·.data.toList)).length = L.length := List.length_map _
 refine ⟨_, _, by rw [List.length_map, List.length_map, hlen], ⟨by rw [List.length_map, List.length_map]; unfold LEN; omega, by rw [List.length_map, List.length_map]; omega⟩, (fun e => by cases e), .inr ⟨c.w.heap.size, 0, L.map Value.string, rfl, ?_, ?_, ?_, rdE_of_str hsm⟩⟩
 ·show c.w.heap.size < (c.w.heap.push _).size
  rw [Array.size_push]; omega
 ·intro hx
  exact absurd (c.ok _ hx) (Nat.lt_irrefl _)
 ·intro j u hj
  show (c.w.alloc (.cells (L.map Value.string).toArray (Tryd.lays146_ren.t 9))).cell? ⟨c.w.heap.size, 0 + j, none⟩ = some u
  rw [Nat.zero_add, World.cell?_alloc_new]
  simpa using hj
theorem strings_Split_ok (s sep : List UInt8) (hp0 : 1 ≤ sep.length) (hp1 : s.length ≤ 1000000) : CM En (strings_Split s sep) 30 [.str s, .str sep] (fun y => .sl none 1 false (y.map V.str)) (fun _ => []) := ⟨Split_call s sep hp0 hp1⟩
def strings_Cut (s sep : List UInt8) : List UInt8 × List UInt8 × Bool := Lib.cut s sep
theorem cut_len (s sep : List UInt8) : (Lib.cut s sep).1.length ≤ s.length ∧ (Lib.cut s sep).2.1.length ≤ s.length := by
 unfold Lib.cut
 split
 ·simp only [List.length_take, List.length_drop]; omega
 ·simp
theorem Cut_call (s sep : List UInt8) : CallOk En 31 [.str s, .str sep] (.tup [.str (strings_Cut s sep).1, .str (strings_Cut s sep).2.1, .bool (strings_Cut s sep).2.2]) [] := by
 refine ok_of2 (show ∀ xs w, (callFunc 31 xs).run En.P w = .ok (.enter 31 xs) w from enters_of Tryd.func31 (by kernel_rfl) rfl) fun c us hg hus hw => ?_
 simp only [rdT, rd] at hus
 obtain ⟨u0, c2, rfl, ⟨rfl, l0⟩, u1, c3, rfl, ⟨rfl, l1⟩, rfl⟩ := hus
 obtain ⟨m, hm⟩ := maxLen hg
 have hL : (⟨s.toArray⟩ : ByteArray).size < 4294967281 := by
  show s.toArray.size < _
  simp; unfold LEN at l0; omega
 refine (show Calls En.P 31 #[.string ⟨s.toArray⟩, .string ⟨sep.toArray⟩] c.w _ from Any.strings_Cut Tryd.lays145 ⟨s.toArray⟩ ⟨sep.toArray⟩ m c.w hL hm).mono ?_
 rintro e w' ⟨rfl, n, rfl⟩
 have hB : Below c.w.heap.size c.w (c.w.drewN n) := ⟨rfl, rfl, rfl, Nat.le_refl _, fun _ _ => rfl⟩
 refine ⟨_, rfl, hB, ?_⟩
 simp only [rd, rdT]
 have hl := cut_len s sep
 exact ⟨_, rfl, _, _, rfl, ⟨rfl, by unfold strings_Cut; omega⟩, _, _, rfl, ⟨rfl, by unfold strings_Cut; omega⟩, _, _, rfl, rfl, rfl⟩
instance strings_Cut_ok (s sep : List UInt8) : CM En (strings_Cut s sep) 31 [.str s, .str sep] (fun y => .tup [.str y.1, .str y.2.1, .bool y.2.2]) (fun _ => []) := ⟨Cut_call s sep⟩
end Go.Proofs.YtbfeamknaiaghaaDoor
namespace Go.Proofs.YtbfeamknaiaghaaDoor
open Go.RowKit
def denom_single (d_ : S_api_Denom) : Bool :=
 (if (q_api_Denom d_ z_api_Denom) then true else (if (decide (d_.Value ≥ 1)) then (if (decide (d_.Value ≤ 1099511627776)) then (if (decide (d_.Depth ≥ 0)) then (if (decide (d_.Depth ≤ 5)) then ((remI .i64 d_.Value (shlI .i64 1 d_.Depth)) == 0) else false) else false) else false) else false))
def denom_Valid (l : (List S_api_Denom)) : Bool :=
 (if (decide ((l.length : Int) < 1)) then false else (if (decide ((l.length : Int) > 16)) then false else (iter (((l.length : Int) - 0).toNat + 1) (fun (ag3 : Int → Bool) (p3 : Int) => (if (decide (p3 < (l.length : Int))) then (letk (denom_single (gt l p3)) (fun (x6 : Bool) => (if (!x6) then false else (if (decide (p3 > 0)) then (if (decide ((gt l p3).Value < (gt l (p3 - 1)).Value)) then false else (if ((gt l p3).Value == (gt l (p3 - 1)).Value) then (if (decide ((gt l p3).Depth ≤ (gt l (p3 - 1)).Depth)) then false else (ag3 (p3 + 1))) else (ag3 (p3 + 1)))) else (ag3 (p3 + 1)))))) else true)) (fun _ => default) 0)))
def math_bits_Mul64 (x_ : Int) (y : Int) : (Int × Int) :=
 ((addI .u64 (addI .u64 (mulI .u64 (shrI .u64 x_ 32) (shrI .u64 y 32)) (shrI .u64 (addI .u64 (mulI .u64 (shrI .u64 x_ 32) (andI .u64 y 4294967295)) (shrI .u64 (mulI .u64 (andI .u64 x_ 4294967295) (andI .u64 y 4294967295)) 32)) 32)) (shrI .u64 (addI .u64 (andI .u64 (addI .u64 (mulI .u64 (shrI .u64 x_ 32) (andI .u64 y 4294967295)) (shrI .u64 (mulI .u64 (andI .u64 x_ 4294967295) (andI .u64 y 4294967295)) 32)) 4294967295) (mulI .u64 (andI .u64 x_ 4294967295) (shrI .u64 y 32))) 32)), (mulI .u64 x_ y))
def math_bits_Mul (x_ : Int) (y : Int) : (Int × Int) :=
 (letk (math_bits_Mul64 x_ y) (fun (x1 : (Int × Int)) => (x1.1, x1.2)))
def slices_Repeat_int_int (x_ : (List Int)) (count : Int) : (List Int) :=
 (if (decide (count < 0)) then (default : (List Int)) else (letk (math_bits_Mul (convI .u64 (x_.length : Int)) (convI .u64 count)) (fun (x2 : (Int × Int)) => (if (decide (x2.1 > 0)) then (default : (List Int)) else (if (decide (x2.2 > 9223372036854775807)) then (default : (List Int)) else (iter ((((spl (rep (convI .i64 x2.2).toNat (0 : Int)) 0 (min (convI .i64 x2.2).toNat x_.length) x_).length : Int) - ((min (convI .i64 x2.2).toNat x_.length : Nat) : Int)).toNat + 1) (fun (ag8 : (Int × List Int) → (List Int)) (p8 : Int × List Int) => (if (decide (p8.1 < (p8.2.length : Int))) then (ag8 ((p8.1 + ((min (p8.2.length - (p8.1).toNat) (cutN p8.2 0 (p8.1).toNat).length : Nat) : Int)), (spl p8.2 (p8.1).toNat (min (p8.2.length - (p8.1).toNat) (cutN p8.2 0 (p8.1).toNat).length) (cutN p8.2 0 (p8.1).toNat)))) else p8.2)) (fun _ => default) (((min (convI .i64 x2.2).toNat x_.length : Nat) : Int), (spl (rep (convI .i64 x2.2).toNat (0 : Int)) 0 (min (convI .i64 x2.2).toNat x_.length) x_))))))))
def denom_counted_1 (n_ : Int) : Bool :=
 (if (decide (n_ < 0)) then true else (decide (n_ > 1000)))
def slices_IndexFunc_int_int_at_denom_counted_1 (s : (List Int)) : Int :=
 (iter (((s.length : Int) - 0).toNat + 1) (fun (ag1 : Int → Int) (p1 : Int) => (if (decide (p1 < (s.length : Int))) then (letk (denom_counted_1 (gt s p1)) (fun (x4 : Bool) => (if x4 then p1 else (ag1 (p1 + 1))))) else (-1))) (fun _ => default) 0)
def slices_ContainsFunc_int_int_at_denom_counted_1 (s : (List Int)) : Bool :=
 (letk (slices_IndexFunc_int_int_at_denom_counted_1 s) (fun (x1 : Int) => (decide (x1 ≥ 0))))
def denom_counted (l : (List S_api_Denom)) (counts : (List Int)) : Bool :=
 (if ((counts.length : Int) == (l.length : Int)) then (letk (slices_ContainsFunc_int_int_at_denom_counted_1 counts) (fun (x2 : Bool) => (!x2))) else false)
def denom_change (l : (List S_api_Denom)) (most : (List Int)) (amount : Int) : ((List Int) × Bool) :=
 (iter (((l.length : Int) - 0).toNat + 1) (fun (ag6 : (Int × List (List S_denom_way)) → ((List Int) × Bool)) (p6 : Int × List (List S_denom_way)) => (if (decide (p6.1 < (l.length : Int))) then (iter (((amount + 1) - 0).toNat + 1) (fun (ag12 : (Int × List S_denom_way) → ((List Int) × Bool)) (p12 : Int × List S_denom_way) => (if (decide (p12.1 < (amount + 1))) then (iter ((gt most p6.1 + 1 - 0).toNat + 1) (fun (ag16 : (Int × List S_denom_way) → ((List Int) × Bool)) (p16 : Int × List S_denom_way) => (if (decide (p16.1 ≤ (gt most p6.1))) then (if (decide ((p16.1 * (gt l p6.1).Value) ≤ p12.1)) then (if (p16.1 == 0) then (if (!(gt (gt p6.2 p6.1) (p12.1 - (p16.1 * (gt l p6.1).Value))).ok) then (ag16 ((p16.1 + 1), p16.2)) else (if (!(gt p16.2 p12.1).ok) then (ag16 ((p16.1 + 1), (st p16.2 p12.1 ({ ok := true, coins := ((gt (gt p6.2 p6.1) (p12.1 - (p16.1 * (gt l p6.1).Value))).coins + p16.1), last := p16.1 } : S_denom_way)))) else (if (decide (((gt (gt p6.2 p6.1) (p12.1 - (p16.1 * (gt l p6.1).Value))).coins + p16.1) ≤ (gt p16.2 p12.1).coins)) then (ag16 ((p16.1 + 1), (st p16.2 p12.1 ({ ok := true, coins := ((gt (gt p6.2 p6.1) (p12.1 - (p16.1 * (gt l p6.1).Value))).coins + p16.1), last := p16.1 } : S_denom_way)))) else (ag16 ((p16.1 + 1), p16.2))))) else (if (decide ((gt l p6.1).Value > 0)) then (if (!(gt (gt p6.2 p6.1) (p12.1 - (p16.1 * (gt l p6.1).Value))).ok) then (ag16 ((p16.1 + 1), p16.2)) else (if (!(gt p16.2 p12.1).ok) then (ag16 ((p16.1 + 1), (st p16.2 p12.1 ({ ok := true, coins := ((gt (gt p6.2 p6.1) (p12.1 - (p16.1 * (gt l p6.1).Value))).coins + p16.1), last := p16.1 } : S_denom_way)))) else (if (decide (((gt (gt p6.2 p6.1) (p12.1 - (p16.1 * (gt l p6.1).Value))).coins + p16.1) ≤ (gt p16.2 p12.1).coins)) then (ag16 ((p16.1 + 1), (st p16.2 p12.1 ({ ok := true, coins := ((gt (gt p6.2 p6.1) (p12.1 - (p16.1 * (gt l p6.1).Value))).coins + p16.1), last := p16.1 } : S_denom_way)))) else (ag16 ((p16.1 + 1), p16.2))))) else (ag12 ((p12.1 + 1), p16.2)))) else (ag12 ((p12.1 + 1), p16.2))) else (ag12 ((p12.1 + 1), p16.2)))) (fun _ => default) (0, p12.2)) else (ag6 ((p6.1 + 1), (st p6.2 (p6.1 + 1) p12.2))))) (fun _ => default) (0, (rep (amount + 1).toNat z_denom_way))) else (if (!(gt (gt p6.2 (l.length : Int)) amount).ok) then (([] : List Int), false) else (iter ((((l.length : Int) - 1) + 1).toNat + 1) (fun (ag53 : (Int × Int × List Int) → ((List Int) × Bool)) (p53 : Int × Int × List Int) => (if (decide (p53.2.1 ≥ 0)) then (ag53 ((p53.1 - ((gt (st p53.2.2 p53.2.1 (gt (gt p6.2 (p53.2.1 + 1)) p53.1).last) p53.2.1) * (gt l p53.2.1).Value)), (p53.2.1 - 1), (st p53.2.2 p53.2.1 (gt (gt p6.2 (p53.2.1 + 1)) p53.1).last))) else (p53.2.2, true))) (fun _ => default) (amount, ((l.length : Int) - 1), (rep (l.length) (0 : Int))))))) (fun _ => default) (0, (st (rep ((l.length : Int) + 1).toNat []) 0 (st (rep (amount + 1).toNat z_denom_way) 0 ({ ok := true, coins := (gt (rep (amount + 1).toNat z_denom_way) 0).coins, last := (gt (rep (amount + 1).toNat z_denom_way) 0).last } : S_denom_way)))))
def denom_Pay (l : (List S_api_Denom)) (have_ : (List Int)) (amount : Int) : ((List Int) × Int) :=
 (letk (denom_Valid l) (fun (x1 : Bool) => (if (!x1) then (([] : List Int), 1) else (letk (denom_counted l have_) (fun (x5 : Bool) => (if (!x5) then (([] : List Int), 1) else (if (decide (amount < 0)) then (([] : List Int), 2) else (if (decide (amount > 1000)) then (([] : List Int), 2) else (letk (denom_change l have_ amount) (fun (x11 : ((List Int) × Bool)) => (if (!x11.2) then (([] : List Int), 7) else (x11.1, 0))))))))))))
def denom_Fewest (l : (List S_api_Denom)) (amount : Int) : ((List Int) × Int) :=
 (letk (denom_Valid l) (fun (x1 : Bool) => (if (!x1) then (([] : List Int), 1) else (letk (slices_Repeat_int_int ([1000] : List Int) (l.length : Int)) (fun (x5 : (List Int)) => (letk (denom_Pay l x5 amount) (fun (x8 : ((List Int) × Int)) => (x8.1, x8.2))))))))
def slices_Equal_int_int (s1 : (List Int)) (s2 : (List Int)) : Bool :=
 (if ((s1.length : Int) != (s2.length : Int)) then false else (iter (((s1.length : Int) - 0).toNat + 1) (fun (ag2 : Int → Bool) (p2 : Int) => (if (decide (p2 < (s1.length : Int))) then (if ((gt s1 p2) != (gt s2 p2)) then false else (ag2 (p2 + 1))) else true)) (fun _ => default) 0))
def specielaw28_awake  : Bool :=
 (letk (denom_Fewest ([({ Value := 1, Depth := 0 } : S_api_Denom), ({ Value := 2, Depth := 1 } : S_api_Denom), ({ Value := 5, Depth := 0 } : S_api_Denom)] : List S_api_Denom) 8) (fun (x1 : ((List Int) × Int)) => (letk (denom_Fewest ([({ Value := 4, Depth := 0 } : S_api_Denom), ({ Value := 5, Depth := 0 } : S_api_Denom), ({ Value := 6, Depth := 0 } : S_api_Denom)] : List S_api_Denom) 10) (fun (x4 : ((List Int) × Int)) => (letk (denom_Fewest ([({ Value := 4, Depth := 0 } : S_api_Denom), ({ Value := 5, Depth := 0 } : S_api_Denom), ({ Value := 6, Depth := 0 } : S_api_Denom)] : List S_api_Denom) 3) (fun (x7 : ((List Int) × Int)) => (if (x1.2 == 0) then (letk (slices_Equal_int_int (x1.1) ([1, 1, 1] : List Int)) (fun (x11 : Bool) => (if x11 then (if (x4.2 == 0) then (letk (slices_Equal_int_int (x4.1) ([1, 0, 1] : List Int)) (fun (x16 : Bool) => (if x16 then (x7.2 == 7) else false))) else false) else false))) else false)))))))
def specielaw28_great (l : (List S_api_Denom)) : Bool :=
 (decide ((l.length : Int) > 40))
def specieref28_One (d_ : S_api_Denom) : Bool :=
 (if (d_.Value == 0) then (d_.Depth == 0) else (if (decide (d_.Value ≥ 1)) then (if (decide (d_.Value ≤ 1099511627776)) then (if (decide (d_.Depth ≥ 0)) then (if (decide (d_.Depth ≤ 5)) then ((remI .i64 d_.Value (shlI .i64 1 (convI .u64 d_.Depth))) == 0) else false) else false) else false) else false))
def specieref28_Valid (l : (List S_api_Denom)) : Bool :=
 (if (decide ((l.length : Int) < 1)) then false else (if (decide ((l.length : Int) > 16)) then false else (iter (((l.length : Int) - 0).toNat + 1) (fun (ag3 : Int → Bool) (p3 : Int) => (if (decide (p3 < (l.length : Int))) then (letk (specieref28_One (gt l p3)) (fun (x6 : Bool) => (if (!x6) then false else (if (decide (p3 > 0)) then (if (decide ((gt l p3).Value < (gt l (p3 - 1)).Value)) then false else (if ((gt l p3).Value == (gt l (p3 - 1)).Value) then (if (decide ((gt l p3).Depth ≤ (gt l (p3 - 1)).Depth)) then false else (ag3 (p3 + 1))) else (ag3 (p3 + 1)))) else (ag3 (p3 + 1)))))) else true)) (fun _ => default) 0)))
def denom_Text (l : (List S_api_Denom)) : ((List UInt8) × Int) :=
 (letk (denom_Valid l) (fun (x1 : Bool) => (if (!x1) then ([], 1) else (iter (((l.length : Int) - 0).toNat + 1) (fun (ag6 : (Int × List (List UInt8)) → ((List UInt8) × Int)) (p6 : Int × List (List UInt8)) => (if (decide (p6.1 < (l.length : Int))) then (letk (strconv_Itoa ((gt l p6.1).Value)) (fun (x9 : (List UInt8)) => (letk (strconv_Itoa ((gt l p6.1).Depth)) (fun (x12 : (List UInt8)) => (ag6 ((p6.1 + 1), (p6.2 ++ ([((x9 ++ [47]) ++ x12)] : List (List UInt8))))))))) else (letk (strings_Join (p6.2) ([32])) (fun (x15 : (List UInt8)) => (x15, 0))))) (fun _ => default) (0, ([] : List (List UInt8)))))))
def denom_number (s : (List UInt8)) : (Int × Bool) :=
 (if (s == []) then (0, false) else (if (((s.getD 0 0).toNat : Int) == 48) then (if (decide ((s.length : Int) > 1)) then (0, false) else (iter (((s.length : Int) - 0).toNat + 1) (fun (ag4 : (Int × Int) → (Int × Bool)) (p4 : Int × Int) => (if (decide (p4.2 < (s.length : Int))) then (if (decide (((s.getD (p4.2).toNat 0).toNat : Int) < 48)) then (0, false) else (if (decide (((s.getD (p4.2).toNat 0).toNat : Int) > 57)) then (0, false) else (if (decide (p4.1 ≥ 0)) then (if (decide ((addI .i64 (mulI .i64 10 p4.1) (convI .i64 (subI .u8 ((s.getD (p4.2).toNat 0).toNat : Int) 48))) > 1099511627776)) then (ag4 ((-1), (p4.2 + 1))) else (ag4 ((addI .i64 (mulI .i64 10 p4.1) (convI .i64 (subI .u8 ((s.getD (p4.2).toNat 0).toNat : Int) 48))), (p4.2 + 1)))) else (if (decide (p4.1 > 1099511627776)) then (ag4 ((-1), (p4.2 + 1))) else (ag4 (p4.1, (p4.2 + 1))))))) else (p4.1, true))) (fun _ => default) (0, 0))) else (iter (((s.length : Int) - 0).toNat + 1) (fun (ag11 : (Int × Int) → (Int × Bool)) (p11 : Int × Int) => (if (decide (p11.2 < (s.length : Int))) then (if (decide (((s.getD (p11.2).toNat 0).toNat : Int) < 48)) then (0, false) else (if (decide (((s.getD (p11.2).toNat 0).toNat : Int) > 57)) then (0, false) else (if (decide (p11.1 ≥ 0)) then (if (decide ((addI .i64 (mulI .i64 10 p11.1) (convI .i64 (subI .u8 ((s.getD (p11.2).toNat 0).toNat : Int) 48))) > 1099511627776)) then (ag11 ((-1), (p11.2 + 1))) else (ag11 ((addI .i64 (mulI .i64 10 p11.1) (convI .i64 (subI .u8 ((s.getD (p11.2).toNat 0).toNat : Int) 48))), (p11.2 + 1)))) else (if (decide (p11.1 > 1099511627776)) then (ag11 ((-1), (p11.2 + 1))) else (ag11 (p11.1, (p11.2 + 1))))))) else (p11.1, true))) (fun _ => default) (0, 0))))
def denom_Parse (s : (List UInt8)) : ((List S_api_Denom) × Int) :=
 (if (decide ((s.length : Int) > 16384)) then (([] : List S_api_Denom), 5) else (letk (strings_Split s ([32])) (fun (x2 : (List (List UInt8))) => (iter (((x2.length : Int) - 0).toNat + 1) (fun (ag5 : (Int × List S_api_Denom) → ((List S_api_Denom) × Int)) (p5 : Int × List S_api_Denom) => (if (decide (p5.1 < (x2.length : Int))) then (letk (strings_Cut (gt x2 p5.1) ([47])) (fun (x8 : ((List UInt8) × (List UInt8) × Bool)) => (letk (denom_number (x8.1)) (fun (x11 : (Int × Bool)) => (letk (denom_number (x8.2.1)) (fun (x14 : (Int × Bool)) => (if (!x8.2.2) then (([] : List S_api_Denom), 3) else (if (!x11.2) then (([] : List S_api_Denom), 3) else (if (!x14.2) then (([] : List S_api_Denom), 3) else (ag5 ((p5.1 + 1), (p5.2 ++ ([({ Value := x11.1, Depth := x14.1 } : S_api_Denom)] : List S_api_Denom))))))))))))) else (letk (denom_Valid (p5.2)) (fun (x20 : Bool) => (if (!x20) then (([] : List S_api_Denom), 1) else (p5.2, 0)))))) (fun _ => default) (0, ([] : List S_api_Denom))))))
def specieref28_decimal (n_ : Int) : (List UInt8) :=
 (iter (n_.toNat + 1) (fun (ag1 : (Int × List UInt8) → (List UInt8)) (p1 : Int × List UInt8) => (if (decide (p1.1 ≥ 10)) then (ag1 ((p1.1 / 10), ((([(convI .u8 (48 + (p1.1 % 10)))] : List Int).map u8N) ++ p1.2))) else ((([(convI .u8 (48 + p1.1))] : List Int).map u8N) ++ p1.2))) (fun _ => default) (n_, []))
def specieref28_Text (l : (List S_api_Denom)) : (List UInt8) :=
 (iter (((l.length : Int) - 0).toNat + 1) (fun (ag1 : (List UInt8 × Int) → (List UInt8)) (p1 : List UInt8 × Int) => (if (decide (p1.2 < (l.length : Int))) then (letj (fun (p3 : List UInt8) => (letk (specieref28_decimal ((gt l p1.2).Value)) (fun (x5 : (List UInt8)) => (letk (specieref28_decimal ((gt l p1.2).Depth)) (fun (x8 : (List UInt8)) => (ag1 ((((p3 ++ x5) ++ [47]) ++ x8), (p1.2 + 1)))))))) (fun j3 => (if (decide (p1.2 > 0)) then (j3 (p1.1 ++ [32])) else (j3 p1.1)))) else p1.1)) (fun _ => default) ([], 0))
def specieref28_number (s : (List UInt8)) : (Int × Int) :=
 (iter (((s.length : Int) - 0).toNat + 1) (fun (ag1 : (Int × Int) → (Int × Int)) (p1 : Int × Int) => (if (decide (p1.1 < (s.length : Int))) then (if (decide (((s.getD (p1.1).toNat 0).toNat : Int) ≥ 48)) then (if (decide (((s.getD (p1.1).toNat 0).toNat : Int) ≤ 57)) then (ag1 ((p1.1 + 1), (minI (addI .i64 (mulI .i64 10 p1.2) (convI .i64 (subI .u8 ((s.getD (p1.1).toNat 0).toNat : Int) 48))) 1125899906842624))) else (if (decide (p1.1 > 1)) then (if (((s.getD 0 0).toNat : Int) == 48) then (0, 0) else (p1.1, p1.2)) else (p1.1, p1.2))) else (if (decide (p1.1 > 1)) then (if (((s.getD 0 0).toNat : Int) == 48) then (0, 0) else (p1.1, p1.2)) else (p1.1, p1.2))) else (if (decide (p1.1 > 1)) then (if (((s.getD 0 0).toNat : Int) == 48) then (0, 0) else (p1.1, p1.2)) else (p1.1, p1.2)))) (fun _ => default) (0, 0))
def specieref28_Parse (s : (List UInt8)) : ((List S_api_Denom) × Int) :=
 (if (decide ((s.length : Int) > 16384)) then (([] : List S_api_Denom), 5) else (iter (((s.length : Int) - 0).toNat + 1) (fun (ag2 : (Int × List S_api_Denom) → ((List S_api_Denom) × Int)) (p2 : Int × List S_api_Denom) => (letk (specieref28_number ((s.drop (p2.1).toNat).take ((s.length : Int).toNat - (p2.1).toNat))) (fun (x3 : (Int × Int)) => (if (x3.1 == 0) then (([] : List S_api_Denom), 3) else (if (decide ((p2.1 + x3.1) ≥ (s.length : Int))) then (([] : List S_api_Denom), 3) else (if (((s.getD (p2.1 + x3.1).toNat 0).toNat : Int) != 47) then (([] : List S_api_Denom), 3) else (letk (specieref28_number ((s.drop ((p2.1 + x3.1) + 1).toNat).take ((s.length : Int).toNat - ((p2.1 + x3.1) + 1).toNat))) (fun (x14 : (Int × Int)) => (if (x14.1 == 0) then (([] : List S_api_Denom), 3) else (if ((((p2.1 + x3.1) + 1) + x14.1) == (s.length : Int)) then (letk (specieref28_Valid (p2.2 ++ ([({ Value := x3.2, Depth := x14.2 } : S_api_Denom)] : List S_api_Denom))) (fun (x21 : Bool) => (if (!x21) then (([] : List S_api_Denom), 1) else ((p2.2 ++ ([({ Value := x3.2, Depth := x14.2 } : S_api_Denom)] : List S_api_Denom)), 0)))) else (if (((s.getD (((p2.1 + x3.1) + 1) + x14.1).toNat 0).toNat : Int) != 32) then (([] : List S_api_Denom), 3) else (ag2 (((((p2.1 + x3.1) + 1) + x14.1) + 1), (p2.2 ++ ([({ Value := x3.2, Depth := x14.2 } : S_api_Denom)] : List S_api_Denom))))))))))))))) (fun _ => default) (0, ([] : List S_api_Denom))))
def specieref28_Same (a_ : (List S_api_Denom)) (b : (List S_api_Denom)) : Bool :=
 (if ((a_.length : Int) != (b.length : Int)) then false else (iter (((a_.length : Int) - 0).toNat + 1) (fun (ag2 : Int → Bool) (p2 : Int) => (if (decide (p2 < (a_.length : Int))) then (if (!(q_api_Denom (gt a_ p2) (gt b p2))) then false else (ag2 (p2 + 1))) else true)) (fun _ => default) 0))
def specielaw28_DenomTexts (l : (List S_api_Denom)) (s : (List UInt8)) : Bool :=
 (letk (specielaw28_awake) (fun (x1 : Bool) => (if (!x1) then false else (letk (specielaw28_great l) (fun (x5 : Bool) => (if x5 then true else (if (decide ((s.length : Int) > 2000)) then (if (decide ((s.length : Int) ≤ 16384)) then true else (letk (denom_Text l) (fun (x11 : ((List UInt8) × Int)) => (letj (fun (p14 : Unit) => (letk (denom_Parse s) (fun (x15 : ((List S_api_Denom) × Int)) => (letk (specieref28_Parse s) (fun (x18 : ((List S_api_Denom) × Int)) => (letk (specieref28_Same (x15.1) (x18.1)) (fun (x21 : Bool) => (if (!x21) then false else (if (x15.2 != x18.2) then false else (letk (denom_Text (x15.1)) (fun (x26 : ((List UInt8) × Int)) => (if (x15.2 != 0) then true else (if (x26.2 == 0) then (x26.1 == s) else false))))))))))))) (fun j14 => (letk (specieref28_Valid l) (fun (x31 : Bool) => (if (!x31) then (if (x11.2 != 1) then false else (if (!(x11.1 == [])) then false else (j14 ()))) else (letk (denom_Parse (x11.1)) (fun (x38 : ((List S_api_Denom) × Int)) => (if (x11.2 != 0) then false else (letk (specieref28_Text l) (fun (x42 : (List UInt8)) => (if (!(x11.1 == x42)) then false else (if (x38.2 != 0) then false else (letk (specieref28_Same (x38.1) l) (fun (x47 : Bool) => (if (!x47) then false else (j14 ()))))))))))))))))))) else (letk (denom_Text l) (fun (x51 : ((List UInt8) × Int)) => (letj (fun (p54 : Unit) => (letk (denom_Parse s) (fun (x55 : ((List S_api_Denom) × Int)) => (letk (specieref28_Parse s) (fun (x58 : ((List S_api_Denom) × Int)) => (letk (specieref28_Same (x55.1) (x58.1)) (fun (x61 : Bool) => (if (!x61) then false else (if (x55.2 != x58.2) then false else (letk (denom_Text (x55.1)) (fun (x66 : ((List UInt8) × Int)) => (if (x55.2 != 0) then true else (if (x66.2 == 0) then (x66.1 == s) else false))))))))))))) (fun j54 => (letk (specieref28_Valid l) (fun (x71 : Bool) => (if (!x71) then (if (x51.2 != 1) then false else (if (!(x51.1 == [])) then false else (j54 ()))) else (letk (denom_Parse (x51.1)) (fun (x78 : ((List S_api_Denom) × Int)) => (if (x51.2 != 0) then false else (letk (specieref28_Text l) (fun (x82 : (List UInt8)) => (if (!(x51.1 == x82)) then false else (if (x78.2 != 0) then false else (letk (specieref28_Same (x78.1) l) (fun (x87 : Bool) => (if (!x87) then false else (j54 ())))))))))))))))))))))))))
end Go.Proofs.YtbfeamknaiaghaaDoor
namespace Go.Proofs.YtbfeamknaiaghaaDoor
open Go.RowKit
theorem iter_all {C : Int → Bool} {n : Int} {F : (Int → Bool) → Int → Bool} (hF : ∀ ag p, F ag p = if p < n then (if C p = true then ag (p + 1) else false) else true) {d : Int → Bool} :
  ∀ (fuel : Nat) (i : Int), (n - i).toNat < fuel → (iter fuel F d i = true ↔ ∀ j, i ≤ j → j < n → C j = true) := by
 intro fuel
 induction fuel with
 | zero => intro i h; omega
 | succ k ih =>
  intro i h
  rw [iter, hF]
  by_cases hi : i < n
  ·rw [if_pos hi]
   by_cases hc : C i = true
   ·rw [if_pos hc, ih (i + 1) (by omega)]
    constructor
    ·intro H j h1 h2
     by_cases e : j = i
     ·subst e; exact hc
     ·exact H j (by omega) h2
    ·intro H j h1 h2; exact H j (by omega) h2
   ·rw [if_neg hc]
    constructor
    ·intro H; cases H
    ·intro H; exact absurd (H i (Int.le_refl _) hi) hc
  ·rw [if_neg hi]
   exact ⟨fun _ j h1 h2 => by omega, fun _ => rfl⟩
theorem iter_find {C : Int → Bool} {n : Int} {F : (Int → Int) → Int → Int} (hF : ∀ ag p, F ag p = if p < n then (if C p = true then p else ag (p + 1)) else -1) {d : Int → Int} :
  ∀ (fuel : Nat) (i : Int), 0 ≤ i → (n - i).toNat < fuel → (iter fuel F d i = -1 ∧ ∀ j, i ≤ j → j < n → C j = false) ∨ (i ≤ iter fuel F d i ∧ iter fuel F d i < n ∧ C (iter fuel F d i) = true ∧ ∀ j, i ≤ j → j < iter fuel F d i → C j = false) := by
 intro fuel
 induction fuel with
 | zero => intro i _ h; omega
 | succ k ih =>
  intro i h0 h
  rw [iter, hF]
  by_cases hi : i < n
  ·rw [if_pos hi]
   by_cases hc : C i = true
   ·rw [if_pos hc]
    exact .inr ⟨Int.le_refl _, hi, hc, fun j h1 h2 => by omega⟩
   ·rw [if_neg hc]
    have hc' : C i = false := by simpa using hc
    rcases ih (i + 1) (by omega) (by omega) with ⟨h1, h2⟩ | ⟨h1, h2, h3, h4⟩
    ·refine .inl ⟨h1, fun j g1 g2 => ?_⟩
     by_cases e : j = i
     ·subst e; exact hc'
     ·exact h2 j (by omega) g2
    ·refine .inr ⟨by omega, h2, h3, fun j g1 g2 => ?_⟩
     by_cases e : j = i
     ·subst e; exact hc'
     ·exact h4 j (by omega) g2
  ·rw [if_neg hi]
   exact .inl ⟨rfl, fun j h1 h2 => by omega⟩
theorem gt_mem {α : Type} [Inhabited α] {l : List α} {i : Int} (h : i.toNat < l.length) : gt l i ∈ l := by
 simp [gt, List.getD_eq_getElem?_getD, h]
theorem iter_rule {α R : Type} {P : α → Prop} {Q : R → Prop} {meas : α → Nat} {F : (α → R) → α → R} {d : α → R}
  (hs : ∀ ag p, P p → (∀ q, P q → meas q < meas p → Q (ag q)) → Q (F ag p)) : ∀ (fuel : Nat) (p : α), P p → meas p < fuel → Q (iter fuel F d p) := by
 intro fuel
 induction fuel with
 | zero => intro p _ h; omega
 | succ k ih =>
  intro p hp hm
  rw [iter]
  exact hs _ p hp fun q hq hlt => ih q hq (by omega)
def remA {β : Type} (i : Nat) : List (Nat × β) → List (Nat × β)
 | [] => []
 | (k, b) :: l => if k = i then remA i l else (k, b) :: remA i l
attribute [go_sem] remA
end Go.Proofs.YtbfeamknaiaghaaDoor
namespace Go.Proofs.YtbfeamknaiaghaaDoor
open Go.RowKit
theorem mul64_one_all : ((List.range 1001).all fun n => math_bits_Mul64 1 (n : Int) == (0, (n : Int))) = true := by kernel_rfl
theorem mul_one {a b : Int} (ha : a = 1) (h0 : 0 ≤ b) (h1 : b ≤ 1000) : math_bits_Mul a b = (0, b) := by
 subst ha
 have h := List.all_eq_true.1 mul64_one_all b.toNat (List.mem_range.2 (by omega))
 have e : ((b.toNat : Nat) : Int) = b := by omega
 rw [e] at h
 have h' : math_bits_Mul64 1 b = (0, b) := by simpa using h
 simp only [math_bits_Mul, letk, h']
def RowOk (v : Int) (r : List S_denom_way) (am k : Int) : Prop := ∀ a : Int, 0 ≤ a → a ≤ am → (0 ≤ (gt r a).last ∧ (gt r a).last ≤ 1000 ∧ (gt r a).last * v ≤ a) ∧ (0 ≤ (gt r a).coins ∧ (gt r a).coins ≤ 1000 * k)
theorem RowOk.zero {v am k : Int} (hk : 0 ≤ k) {n : Nat} : RowOk v (rep n z_denom_way) am k := by
 intro a h0 h1
 have e : gt (rep n z_denom_way) a = z_denom_way := by rw [gt_repl]; split <;> rfl
 rw [e]
 refine ⟨⟨Int.le_refl _, by decide, ?_⟩, Int.le_refl _, ?_⟩
 ·show 0 * v ≤ a
  rw [Int.zero_mul]; exact h0
 ·show (0 : Int) ≤ 1000 * k
  omega
theorem RowOk.set {v am a k : Int} {r : List S_denom_way} {x : S_denom_way} (h : RowOk v r am k) (ha : 0 ≤ a) (h0 : 0 ≤ x.last) (h1 : x.last ≤ 1000) (h2 : x.last * v ≤ a) (h3 : 0 ≤ x.coins) (h4 : x.coins ≤ 1000 * k) : RowOk v (st r a x) am k := by
 intro b hb0 hb1
 rw [gt_st]
 split
 ·rename_i hc
  have : a = b := by omega
  subst this
  exact ⟨⟨h0, h1, h2⟩, h3, h4⟩
 ·exact h b hb0 hb1
theorem RowOk.init {v am : Int} {n : Nat} {x : S_denom_way} (h1 : x.last = 0) (h2 : x.coins = 0) : RowOk v (st (rep n z_denom_way) 0 x) am 0 :=
 (RowOk.zero (Int.le_refl _)).set (Int.le_refl _) (by omega) (by omega) (by rw [h1, Int.zero_mul]; exact Int.le_refl _) (by omega) (by omega)
theorem gt_rep0 {n : Nat} : gt (rep n z_denom_way) 0 = z_denom_way := by rw [gt_repl]; split <;> rfl
theorem q_den (d : S_api_Denom) : q_api_Denom d z_api_Denom = (d.Value == 0 && d.Depth == 0) := rfl
theorem single_spec {d : S_api_Denom} (h : denom_single d = true) : 0 ≤ d.Value ∧ d.Value ≤ 1099511627776 ∧ 0 ≤ d.Depth ∧ d.Depth ≤ 5 := by
 unfold denom_single at h
 rw [q_den] at h
 by_cases h0 : (d.Value == 0 && d.Depth == 0) = true
 ·simp at h0; omega
 ·by_cases a1 : d.Value ≥ 1 <;> by_cases a2 : d.Value ≤ 1099511627776 <;> by_cases a3 : d.Depth ≥ 0 <;> by_cases a4 : d.Depth ≤ 5 <;> simp [h0, a1, a2, a3, a4] at h
  omega
theorem One_spec {d : S_api_Denom} (h : specieref28_One d = true) : 0 ≤ d.Value ∧ d.Value ≤ 1099511627776 ∧ 0 ≤ d.Depth ∧ d.Depth ≤ 5 := by
 unfold specieref28_One at h
 by_cases h0 : d.Value = 0
 ·simp [h0] at h; omega
 ·by_cases a1 : d.Value ≥ 1 <;> by_cases a2 : d.Value ≤ 1099511627776 <;> by_cases a3 : d.Depth ≥ 0 <;> by_cases a4 : d.Depth ≤ 5 <;> simp [h0, a1, a2, a3, a4] at h
  omega
def ordB (l : List S_api_Denom) (p : Int) : Bool := !decide (p > 0) || (!decide ((gt l p).Value < (gt l (p - 1)).Value) && (!((gt l p).Value == (gt l (p - 1)).Value) || !decide ((gt l p).Depth ≤ (gt l (p - 1)).Depth)))
theorem Valid_iff {l : List S_api_Denom} : denom_Valid l = true ↔ (1 ≤ l.length ∧ l.length ≤ 16 ∧ ∀ j : Int, 0 ≤ j → j < l.length → (denom_single (gt l j) && ordB l j) = true) := by
 unfold denom_Valid
 by_cases h1 : (l.length : Int) < 1
 ·simp [h1]; intro h; omega
 by_cases h2 : (l.length : Int) > 16
 ·simp [h2]; omega
 simp only [h1, h2, decide_false, Bool.false_eq_true, if_false]
 rw [iter_all (n := (l.length : Int)) (C := fun p => denom_single (gt l p) && ordB l p) (fun ag p => ?_) _ _ (by omega)]
 ·exact ⟨fun h => ⟨by omega, by omega, h⟩, fun h => h.2.2⟩
 ·simp only [letk, ordB]
  by_cases hp : p < (l.length : Int)
  ·simp only [hp, decide_true, if_true]
   cases denom_single (gt l p) <;> by_cases a1 : p > 0 <;> by_cases a2 : (gt l p).Value < (gt l (p - 1)).Value <;> by_cases a3 : (gt l p).Value = (gt l (p - 1)).Value <;> by_cases a4 : (gt l p).Depth ≤ (gt l (p - 1)).Depth <;> simp [a1, a2, a3, a4]
  ·simp [hp]
theorem refValid_iff {l : List S_api_Denom} : specieref28_Valid l = true ↔ (1 ≤ l.length ∧ l.length ≤ 16 ∧ ∀ j : Int, 0 ≤ j → j < l.length → (specieref28_One (gt l j) && ordB l j) = true) := by
 unfold specieref28_Valid
 by_cases h1 : (l.length : Int) < 1
 ·simp [h1]; intro h; omega
 by_cases h2 : (l.length : Int) > 16
 ·simp [h2]; omega
 simp only [h1, h2, decide_false, Bool.false_eq_true, if_false]
 rw [iter_all (n := (l.length : Int)) (C := fun p => specieref28_One (gt l p) && ordB l p) (fun ag p => ?_) _ _ (by omega)]
 ·exact ⟨fun h => ⟨by omega, by omega, h⟩, fun h => h.2.2⟩
 ·simp only [letk, ordB]
  by_cases hp : p < (l.length : Int)
  ·simp only [hp, decide_true, if_true]
   cases specieref28_One (gt l p) <;> by_cases a1 : p > 0 <;> by_cases a2 : (gt l p).Value < (gt l (p - 1)).Value <;> by_cases a3 : (gt l p).Value = (gt l (p - 1)).Value <;> by_cases a4 : (gt l p).Depth ≤ (gt l (p - 1)).Depth <;> simp [a1, a2, a3, a4]
  ·simp [hp]
theorem single_eq (d : S_api_Denom) : denom_single d = specieref28_One d := by
 unfold denom_single specieref28_One
 rw [q_den]
 by_cases h0 : d.Value = 0
 ·by_cases h1 : d.Depth = 0 <;> simp [h0, h1]
 ·by_cases h1 : 0 ≤ d.Depth <;> by_cases h2 : d.Depth ≤ 5 <;> simp [h0, h1, h2]
  rw [conv_u64 h1 (by omega)]
theorem Valid_eq (l : List S_api_Denom) : denom_Valid l = specieref28_Valid l := by
 rw [Bool.eq_iff_iff, Valid_iff, refValid_iff]
 simp only [single_eq]
theorem Valid_len {l : List S_api_Denom} (h : denom_Valid l = true) : 1 ≤ l.length ∧ l.length ≤ 16 := ⟨(Valid_iff.1 h).1, (Valid_iff.1 h).2.1⟩
theorem Valid_val {l : List S_api_Denom} (h : denom_Valid l = true) : ∀ j : Int, 0 ≤ j → j.toNat < l.length → 0 ≤ (gt l j).Value ∧ (gt l j).Value ≤ 1099511627776 := by
 intro j h0 h1
 have := (Valid_iff.1 h).2.2 j h0 (by omega)
 simp only [Bool.and_eq_true] at this
 have := single_spec this.1
 exact ⟨this.1, this.2.1⟩
theorem counted1 (n : Int) : denom_counted_1 n = !decide (0 ≤ n ∧ n ≤ 1000) := by
 unfold denom_counted_1
 by_cases h0 : n < 0 <;> by_cases h1 : n > 1000 <;> simp [h0, h1] <;> omega
theorem counted_iff {l : List S_api_Denom} {c : List Int} : denom_counted l c = true ↔ (c.length = l.length ∧ ∀ j : Int, 0 ≤ j → j < c.length → 0 ≤ gt c j ∧ gt c j ≤ 1000) := by
 unfold denom_counted slices_ContainsFunc_int_int_at_denom_counted_1 slices_IndexFunc_int_int_at_denom_counted_1
 by_cases h : c.length = l.length
 ·simp only [h, beq_self_eq_true, if_true, letk, Bool.not_eq_true', decide_eq_false_iff_not, true_and, ge_iff_le, Int.not_le]
  rcases iter_find (n := (l.length : Int)) (C := fun p => denom_counted_1 (gt c p)) (F := fun ag1 p1 => if decide (p1 < (l.length : Int)) then (if denom_counted_1 (gt c p1) then p1 else ag1 (p1 + 1)) else -1) (d := fun _ => default) (fun ag p => by by_cases hp : p < (l.length : Int) <;> simp [hp]) (((l.length : Int) - 0).toNat + 1) 0 (by omega) (by omega) with ⟨h1, h2⟩ | ⟨h1, h2, h3, h4⟩
  ·rw [h1]
   refine ⟨fun _ j g0 g1 => ?_, fun _ => by decide⟩
   have := h2 j g0 g1
   rw [counted1] at this
   simpa using this
  ·refine ⟨fun g => by omega, fun g => ?_⟩
   have := g _ h1 h2
   rw [counted1] at h3
   simp only [Bool.not_eq_true', decide_eq_false_iff_not] at h3
   exact absurd this h3
 ·have : ((c.length : Int) == (l.length : Int)) = false := by simp; omega
  simp [this, h]
theorem counted_len {l : List S_api_Denom} {c : List Int} (h : denom_counted l c = true) : c.length = l.length := (counted_iff.1 h).1
theorem counted_val {l : List S_api_Denom} {c : List Int} (h : denom_counted l c = true) : ∀ j : Int, 0 ≤ j → j.toNat < c.length → 0 ≤ gt c j ∧ gt c j ≤ 1000 := fun j h0 h1 => (counted_iff.1 h).2 j h0 (by omega)
theorem vlen {l : List S_api_Denom} {x : Bool} (h : x = denom_Valid l) : x = true → 1 ≤ l.length ∧ l.length ≤ 16 := fun hx => Valid_len (h ▸ hx)
theorem wf_den {l : List S_api_Denom} {j : Int} (h : wfL (l.map e_api_Denom)) (hj : j.toNat < l.length) : (-9223372036854775808 ≤ (gt l j).Value ∧ (gt l j).Value ≤ 9223372036854775807) ∧ -9223372036854775808 ≤ (gt l j).Depth ∧ (gt l j).Depth ≤ 9223372036854775807 := by
 have key : ∀ l : List S_api_Denom, wfL (l.map e_api_Denom) → ∀ x ∈ l, (-9223372036854775808 ≤ x.Value ∧ x.Value ≤ 9223372036854775807) ∧ -9223372036854775808 ≤ x.Depth ∧ x.Depth ≤ 9223372036854775807 := by
  intro l
  induction l with
  | nil => intro _ x hx; cases hx
  | cons a l ih =>
   intro h x hx
   simp only [List.map_cons, wfL, e_api_Denom, wfV, rng_i64] at h
   rcases List.mem_cons.1 hx with rfl | h1
   ·exact ⟨h.1.1, h.1.2.1⟩
   ·exact ih h.2 x h1
 exact key l h _ (gt_mem hj)
theorem log_step {n : Int} (h : n ≥ 10) : (n / 10).toNat.log2 + 1 ≤ n.toNat.log2 := by
 have h1 : (n / 10).toNat ≠ 0 := by omega
 have h2 : n.toNat ≠ 0 := by omega
 have h3 := (Nat.le_log2 h1).1 (Nat.le_refl _)
 refine (Nat.le_log2 h2).2 ?_
 rw [Nat.pow_succ]
 generalize 2 ^ (n / 10).toNat.log2 = t at h3
 omega
theorem log_top {n : Int} (h : n ≤ 9223372036854775807) : n.toNat.log2 ≤ 62 := by
 by_cases h0 : n.toNat = 0
 ·rw [h0]; decide
 ·have := (Nat.log2_lt h0 (k := 63)).2 (by omega)
  omega
theorem vR {l : List S_api_Denom} {x : Bool} (h : x = specieref28_Valid l) : x = true → l.length ≤ 16 ∧ ∀ j : Int, 0 ≤ j → j.toNat < l.length → (0 ≤ (gt l j).Value ∧ (gt l j).Value ≤ 1099511627776) ∧ 0 ≤ (gt l j).Depth ∧ (gt l j).Depth ≤ 5 := by
 intro hx
 have h1 := refValid_iff.1 (h ▸ hx)
 refine ⟨h1.2.1, fun j h0 hj => ?_⟩
 have := h1.2.2 j h0 (by omega)
 simp only [Bool.and_eq_true] at this
 have := One_spec this.1
 omega
@[go_sem] theorem numV_int {k : IntKind} {n : Int} : numV (V.int k n) = n := by rfl
theorem dec_len {n : Int} {x : List UInt8} (h : x = specieref28_decimal n) (h0 : 0 ≤ n) (h1 : n ≤ 9223372036854775807) : x.length ≤ 63 := by
 rw [h]
 unfold specieref28_decimal
 refine iter_rule (P := fun p : Int × List UInt8 => 0 ≤ p.1 ∧ p.1.toNat.log2 + p.2.length ≤ 62) (Q := fun r : List UInt8 => r.length ≤ 63) (meas := fun p => p.1.toNat) ?_ _ _ ⟨h0, by have := log_top h1; simpa using this⟩ (by show n.toNat < n.toNat + 1; omega)
 rintro ag ⟨n, x⟩ hp ih
 simp only at hp ih ⊢
 split
 ·rename_i hc
  simp only [decide_eq_true_eq] at hc
  have := log_step hc
  refine ih _ ⟨by show 0 ≤ n / 10; omega, ?_⟩ (by show (n / 10).toNat < n.toNat; omega)
  simp only [List.length_append, List.length_map, List.length_cons, List.length_nil]
  omega
 ·simp only [List.length_append, List.length_map, List.length_cons, List.length_nil]
  omega
theorem dec_len2 {n m : Int} {x : List UInt8} (h : x = specieref28_decimal n) (h0 : 0 ≤ n ∧ n ≤ m) (hm : m ≤ 1099511627776 := by decide) : x.length ≤ 63 := dec_len h h0.1 (by omega)
theorem rnum_le {s : List UInt8} {x : Int × Int} (h : x = specieref28_number s) : 0 ≤ x.1 ∧ x.1 ≤ (s.length : Int) := by
 rw [h]
 unfold specieref28_number
 refine iter_rule (P := fun p : Int × Int => 0 ≤ p.1 ∧ p.1 ≤ (s.length : Int)) (Q := fun r : Int × Int => 0 ≤ r.1 ∧ r.1 ≤ (s.length : Int)) (meas := fun p => ((s.length : Int) - p.1).toNat) ?_ _ _ ⟨Int.le_refl 0, by show (0 : Int) ≤ _; omega⟩ (by show ((s.length : Int) - 0).toNat < _; omega)
 rintro ag ⟨n, x⟩ hp ih
 simp only at hp ih ⊢
 repeat' split
 all_goals first
  | exact ⟨Int.le_refl 0, by show (0 : Int) ≤ _; omega⟩
  | exact hp
  | (refine ih _ ⟨?_, ?_⟩ ?_ <;> simp only [decide_eq_true_eq] at * <;> omega)
theorem rnum_at {s : List UInt8} {a : Int} {x : Int × Int} (h : x = specieref28_number ((s.drop a.toNat).take ((s.length : Int).toNat - a.toNat))) (h0 : 0 ≤ a) (h1 : a ≤ (s.length : Int)) : 0 ≤ x.1 ∧ x.1 ≤ (s.length : Int) - a := by
 have h2 := rnum_le h
 simp only [List.length_take, List.length_drop] at h2
 omega
theorem s_ne {s : List UInt8} (h : (s == []) = false) : 0 < s.length := List.length_pos_iff.2 (by simpa using h)
end Go.Proofs.YtbfeamknaiaghaaDoor
namespace Go.Proofs.YtbfeamknaiaghaaDoor
open Go.RowKit
theorem itoa_len {n : Int} {x : List UInt8} (h : x = strconv_Itoa n) (hn : -9223372036854775808 ≤ n ∧ n ≤ 9223372036854775807) : x.length ≤ 21 := by rw [h]; exact Lib.itoa_length_le n hn.1 hn.2
def textLen (l : List (List UInt8)) : Nat := (l.map List.length).sum
theorem textLen_app {l : List (List UInt8)} {x : List UInt8} : textLen (l ++ [x]) = textLen l + x.length := by simp [textLen]
theorem joinTail_len (sep : List UInt8) : ∀ l : List (List UInt8), (Lib.joinTail sep l).length = textLen l + l.length * sep.length
 | [] => by simp [Lib.joinTail, textLen]
 | x :: l => by
  have ih := joinTail_len sep l
  simp only [Lib.joinTail, textLen, List.map_cons, List.flatten_cons, List.length_append, List.sum_cons, List.length_cons, Nat.succ_mul] at ih ⊢
  omega
theorem join_le (l : List (List UInt8)) (sep : List UInt8) : (Lib.join l sep).length ≤ textLen l + l.length * sep.length := by
 cases l with
 | nil => simp [Lib.join_nil]
 | cons x l =>
  rw [Lib.join_cons, List.length_append, joinTail_len]
  simp only [textLen, List.map_cons, List.sum_cons, List.length_cons, Nat.succ_mul]
  omega
end Go.Proofs.YtbfeamknaiaghaaDoor
namespace Go.Proofs.YtbfeamknaiaghaaDoor
open Go.RowKit
set_option linter.unusedSimpArgs false
set_option maxHeartbeats 2000000 in
set_option maxRecDepth 100000 in
instance denom_single_ok   (d_ : S_api_Denom)  : CM En (denom_single d_) 47 [.agg [.int .i64 d_.Value, .int .i64 d_.Depth]] (fun y => .bool y) (fun _ => []) := by
 refine cmQ fun r hM => ?_
 rw [denom_single.eq_1] at hM
 refine enterV En_ok En_mo noJ Tryd.func47 rfl Tryd.ntmps47 (by kernel_rfl) fun hw => ct_start ?_
 refine spQ ?_
 replace hw := nzQ hw
 refine condC_intro (fun h1 => ?_) (fun h1 => ?_)
 ·have kh1 : (q_api_Denom d_ z_api_Denom) = true := h1
  rw [if_pos kh1] at hM
  refine spQA h1 ?_
  have nh1 := nzQ kh1
  subst hM
  exact retC_view (lfQA h1)
 ·have kh1 : (q_api_Denom d_ z_api_Denom) = false := h1
  rw [if_neg (ne_true kh1)] at hM
  refine spQA h1 ?_
  have nh1 := nzQ kh1
  refine ct_draw 33 24 [6, 7, 8, 9, 10, 11, 12, 13, 14, 15, 16, 17, 18, 19, 20, 21, 22, 23, 24, 25, 26, 27, 28, 29] [] ([[], [0], [0, 1], [0, 1, 2], [0, 1, 2, 3], [0, 1, 2, 3, 4], [0, 1, 2, 3, 4, 5], [0, 1, 2, 3, 4, 5, 6], [0, 1, 2, 3, 4, 5, 6, 7], [0, 1, 2, 3, 4, 5, 6, 7, 8], [0, 1, 2, 3, 4, 5, 6, 7, 8, 9], [0, 1, 2, 3, 4, 5, 6, 7, 8, 9, 10], [0, 1, 2, 3, 4, 5, 6, 7, 8, 9, 10, 11], [0, 1, 2, 3, 4, 5, 6, 7, 8, 9, 10, 11, 12], [0, 1, 2, 3, 4, 5, 6, 7, 8, 9, 10, 11, 12, 13], [0, 1, 2, 3, 4, 5, 6, 7, 8, 9, 10, 11, 12, 13, 14], [0, 1, 2, 3, 4, 5, 6, 7, 8, 9, 10, 11, 12, 13, 14, 15], [0, 1, 2, 3, 4, 5, 6, 7, 8, 9, 10, 11, 12, 13, 14, 15, 16], [0, 1, 2, 3, 4, 5, 6, 7, 8, 9, 10, 11, 12, 13, 14, 15, 16, 17], [0, 1, 2, 3, 4, 5, 6, 7, 8, 9, 10, 11, 12, 13, 14, 15, 16, 17, 18], [0, 1, 2, 3, 4, 5, 6, 7, 8, 9, 10, 11, 12, 13, 14, 15, 16, 17, 18, 19], [0, 1, 2, 3, 4, 5, 6, 7, 8, 9, 10, 11, 12, 13, 14, 15, 16, 17, 18], [0, 1, 2, 3, 4, 5, 6, 7, 8, 9, 10, 11, 12, 13, 14, 15, 16, 17, 18, 21], [0, 1, 2, 3, 4, 5, 6, 7, 8, 9, 10, 11, 12, 13, 14, 15, 16, 17, 18, 21, 22]] ++ [List.range 24, List.range 25, List.range 26, List.range 27]) [] (by kernel_rfl) (by exact alQ) ?_
  refine spQ ?_
  refine hguardC_t (fun h2 => ?_) (fun h2 => ?_)
  ·rw [if_pos h2] at hM
   refine spQA h2 ?_
   have nh2 := nzQ h2
   refine hguardC_t (fun h3 => ?_) (fun h3 => ?_)
   ·rw [if_pos h3] at hM
    refine spQA h3 ?_
    have nh3 := nzQ h3
    refine hguardC_t (fun h4 => ?_) (fun h4 => ?_)
    ·rw [if_pos h4] at hM
     refine spQA h4 ?_
     have nh4 := nzQ h4
     refine hguardC_t (fun h5 => ?_) (fun h5 => ?_)
     ·rw [if_pos h5] at hM
      refine spQA h5 ?_
      have nh5 := nzQ h5
      refine hbindC_intro omQ ?_
      refine spQ ?_
      refine bindC_intro (by (clear hM; simp only [decide_eq_true_eq] at *; rcases (show d_.Depth = 0 ∨ d_.Depth = 1 ∨ d_.Depth = 2 ∨ d_.Depth = 3 ∨ d_.Depth = 4 ∨ d_.Depth = 5 by omega) with h | h | h | h | h | h <;> rw [h] <;> decide)) ?_
      refine spQ ?_
      subst hM
      exact retC_view (lfQA (And.intro h1 (And.intro h2 (And.intro h3 (And.intro h4 h5)))))
     ·rw [if_neg (ne_true h5)] at hM
      refine spQA h5 ?_
      have nh5 := nzQ h5
      subst hM
      exact retC_view (lfQA (And.intro h1 (And.intro h2 (And.intro h3 (And.intro h4 h5)))))
    ·rw [if_neg (ne_true h4)] at hM
     refine spQA h4 ?_
     have nh4 := nzQ h4
     subst hM
     exact retC_view (lfQA (And.intro h1 (And.intro h2 (And.intro h3 h4))))
   ·rw [if_neg (ne_true h3)] at hM
    refine spQA h3 ?_
    have nh3 := nzQ h3
    subst hM
    exact retC_view (lfQA (And.intro h1 (And.intro h2 h3)))
  ·rw [if_neg (ne_true h2)] at hM
   refine spQA h2 ?_
   have nh2 := nzQ h2
   subst hM
   exact retC_view (lfQA (And.intro h1 h2))
set_option maxHeartbeats 2000000 in
set_option maxRecDepth 100000 in
instance denom_Valid_ok   (l : (List S_api_Denom))  : CM En (denom_Valid l) 26 [.sl none 2 true (l.map e_api_Denom)] (fun y => .bool y) (fun _ => []) := by
 refine cmQ fun r hM => ?_
 rw [denom_Valid.eq_1] at hM
 refine enterV En_ok En_mo noJ Tryd.func26 rfl Tryd.ntmps26 (by kernel_rfl) fun hw => ct_start ?_
 refine spQ ?_
 replace hw := nzQ hw
 refine guardC_f (fun h1 => ?_) (fun h1 => ?_)
 ·rw [if_neg (ne_true h1)] at hM
  refine spQA h1 ?_
  have nh1 := nzQ h1
  refine condC_intro (fun h2 => ?_) (fun h2 => ?_)
  ·rw [if_pos h2] at hM
   refine spQA h2 ?_
   have nh2 := nzQ h2
   subst hM
   exact retC_view (lfQA (And.intro h1 h2))
  ·rw [if_neg (ne_true h2)] at hM
   refine spQA h2 ?_
   have nh2 := nzQ h2
   have hM0 := hM; clear hM; obtain ⟨f3, d3, hf3, hd3, hM⟩ := iter_opn hM0; clear hM0
   refine ct_loop (fun n S => ∃ p : Int, S = (⟨[(0, .sl none 2 true (l.map e_api_Denom)), (13, .sl none 2 true (l.map e_api_Denom)), (14, .int .i64 (l.length : Int)), (15, .int .i64 p)], [], 0⟩ : St) ∧ ((0 ≤ p) ∧ (p ≤ (l.length : Int))) ∧ ((l.length : Int) - p).toNat < n ∧ iter n f3 d3 p = r) (((l.length : Int) - 0).toNat + 1) _ sbQ sbQ ⟨0, rfl, ⟨omQ, omQ⟩, (Nat.lt_succ_self _), hM⟩ ?_
   clear hM
   rintro n3 S ⟨p3, rfl, hfa3, hm3, hM⟩
   have hM0 := hM; clear hM; obtain ⟨ag3, hag3, hM⟩ := iter_step hM0 (by omega) hf3; clear hM0
   replace hfa3 := nzQ hfa3
   replace hm3 := nzQ hm3
   have ha3 : addI .i64 p3 1 = p3 + 1 := add_one omQ omQ
   refine spQA ha3 ?_
   refine condC_intro (fun h4 => ?_) (fun h4 => ?_)
   ·rw [if_pos h4] at hM
    refine spQA (And.intro ha3 h4) ?_
    have nh4 := nzQ h4
    refine bindC_intro omQ ?_
    have he5 := fun d => elt_mp (l := l) (f := e_api_Denom) (i := p3) omQ d
    refine spQA (And.intro ha3 he5) ?_
    have hM0 := hM; clear hM; obtain ⟨x6, hx7, hM⟩ := letk_opn hM0; clear hM0
    have hcx6 := cmU hx7
    refine callC_give hcx6 (clQA (And.intro ha3 he5)) (clQA (And.intro ha3 he5)) (fun hw8 => ?_)
    replace hw8 := nzQ hw8
    refine spQA (And.intro ha3 he5) ?_
    refine condC_intro (fun h9 => ?_) (fun h9 => ?_)
    ·rw [if_pos h9] at hM
     refine spQA (And.intro ha3 (And.intro he5 h9)) ?_
     have nh9 := nzQ h9
     subst hM
     exact retC_view (lfQA (And.intro ha3 (And.intro he5 (And.intro h1 (And.intro h2 (And.intro h4 h9))))))
    ·rw [if_neg (ne_true h9)] at hM
     refine spQA (And.intro ha3 (And.intro he5 h9)) ?_
     have nh9 := nzQ h9
     refine ct_draw 59 31 [23, 24, 25, 26, 27, 28, 29, 30, 31, 32, 33, 34, 35, 36, 37, 38, 39, 40, 41, 42, 43, 44, 45, 46, 47, 48, 49, 50, 51, 52, 53] [] ([[], [0], [0, 1], [0, 1, 2], [0, 1, 2, 3], [0, 1, 2], [0, 1, 2], [0, 1, 2, 6], [0, 1, 2, 5, 6, 7], [0, 1, 2, 5, 6, 7, 8], [0, 1, 2, 5, 6, 7, 8, 9], [0, 1, 2, 3, 4, 5, 6, 7, 8, 9, 10], [0, 1, 2, 3, 4, 5, 6, 7, 8, 9, 10, 11], [0, 1, 2, 3, 4, 5, 6, 7, 8, 9, 10, 11, 12], [0, 1, 2, 3, 4, 5, 6, 7, 8, 9, 10, 11, 12, 13], [0, 1, 2, 3, 4, 5, 6, 7, 8, 9, 10, 11, 12], [0, 1, 2, 3, 4, 5, 6, 7, 8, 9, 10, 11, 12], [0, 1, 2, 3, 4, 5, 6, 7, 8, 9, 10, 11, 12, 16], [0, 1, 2, 3, 4, 5, 6, 7, 8, 9, 10, 11, 12, 15, 16, 17], [0, 1, 2, 3, 4, 5, 6, 7, 8, 9, 10, 11, 12, 15, 16, 17, 18], [0, 1, 2, 3, 4, 5, 6, 7, 8, 9, 10, 11, 12, 15, 16, 17, 18, 19], [0, 1, 2, 3, 4, 5, 6, 7, 8, 9, 10, 11, 12, 13, 14, 15, 16, 17, 18, 19, 20], [0, 1, 2, 3, 4, 5, 6, 7, 8, 9, 10, 11, 12, 13, 14, 15, 16, 17, 18, 19, 20, 21], [0, 1, 2, 3, 4, 5, 6, 7, 8, 9, 10, 11, 12, 13, 14, 15, 16, 17, 18, 19, 20, 21, 22], [0, 1, 2, 3, 4, 5, 6, 7, 8, 9, 10, 11, 12, 13, 14, 15, 16, 17, 18, 19, 20, 21, 22, 23], [0, 1, 2, 3, 4, 5, 6, 7, 8, 9, 10, 11, 12, 13, 14, 15, 16, 17, 18, 19, 20, 21, 22], [0, 1, 2, 3, 4, 5, 6, 7, 8, 9, 10, 11, 12, 13, 14, 15, 16, 17, 18, 19, 20, 21, 22], [0, 1, 2, 3, 4, 5, 6, 7, 8, 9, 10, 11, 12, 13, 14, 15, 16, 17, 18, 19, 20, 21, 22, 26], [0, 1, 2, 3, 4, 5, 6, 7, 8, 9, 10, 11, 12, 13, 14, 15, 16, 17, 18, 19, 20, 21, 22, 25, 26, 27], [0, 1, 2, 3, 4, 5, 6, 7, 8, 9, 10, 11, 12, 13, 14, 15, 16, 17, 18, 19, 20, 21, 22, 25, 26, 27, 28], [0, 1, 2, 3, 4, 5, 6, 7, 8, 9, 10, 11, 12, 13, 14, 15, 16, 17, 18, 19, 20, 21, 22, 25, 26, 27, 28, 29]] ++ [List.range 31, List.range 32, List.range 33, List.range 34]) [] (by kernel_rfl) (by exact alQ) ?_
     refine spQA (And.intro ha3 he5) ?_
     refine hguardC_t (fun h10 => ?_) (fun h10 => ?_)
     ·rw [if_pos h10] at hM
      refine spQA (And.intro ha3 (And.intro he5 h10)) ?_
      have nh10 := nzQ h10
      have ha11 : subI .i64 p3 1 = (p3 - 1) := sub_ok omQ omQ
      try simp only [ha11]
      have hF := (And.intro h1 (And.intro h2 (And.intro ha3 (And.intro h4 (And.intro he5 (And.intro h9 (And.intro h10 ha11)))))))
      exact auQ
     ·rw [if_neg (ne_true h10)] at hM
      refine spQA (And.intro ha3 (And.intro he5 h10)) ?_
      have nh10 := nzQ h10
      refine lp_intro (n3 - 1) _ (by omega) sbQ sbQ ⟨(p3 + 1), rfl, ⟨omQ, omQ⟩, omQ, iter_again hM hag3⟩
   ·rw [if_neg (ne_true h4)] at hM
    refine spQA (And.intro ha3 h4) ?_
    have nh4 := nzQ h4
    subst hM
    exact retC_view (lfQA (And.intro ha3 (And.intro h1 (And.intro h2 h4))))
 ·rw [if_pos h1] at hM
  refine spQA h1 ?_
  have nh1 := nzQ h1
  subst hM
  exact retC_view (lfQA h1)
set_option maxHeartbeats 2000000 in
set_option maxRecDepth 100000 in
instance math_bits_Mul64_ok   (x_ : Int) (y : Int)  : CM En (math_bits_Mul64 x_ y) 91 [.int .u64 x_, .int .u64 y] (fun y => .tup [.int .u64 y.1, .int .u64 y.2]) (fun _ => []) := by
 refine cmQ fun r hM => ?_
 rw [math_bits_Mul64.eq_1] at hM
 refine enterV En_ok En_mo noJ Tryd.func91 rfl Tryd.ntmps91 (by kernel_rfl) fun hw => ct_start ?_
 refine spQ ?_
 replace hw := nzQ hw
 subst hM
 exact retC_view lfQ
set_option maxHeartbeats 2000000 in
set_option maxRecDepth 100000 in
instance math_bits_Mul_ok   (x_ : Int) (y : Int)  : CM En (math_bits_Mul x_ y) 67 [.int .u64 x_, .int .u64 y] (fun y => .tup [.int .u64 y.1, .int .u64 y.2]) (fun _ => []) := by
 refine cmQ fun r hM => ?_
 rw [math_bits_Mul.eq_1] at hM
 refine enterV En_ok En_mo noJ Tryd.func67 rfl Tryd.ntmps67 (by kernel_rfl) fun hw => ct_start ?_
 refine spQ ?_
 replace hw := nzQ hw
 have hF := trueQ
 exact auQ
set_option maxHeartbeats 2000000 in
set_option maxRecDepth 100000 in
theorem slices_Repeat_int_int_ok   (x_ : (List Int)) (count : Int) (hp0 : 0 ≤ count) (hp1 : count ≤ 1000) (hp2 : x_.length = 1) : CM En (slices_Repeat_int_int x_ count) 46 [.sl none 1 false (x_.map (V.int .i64)), .int .i64 count] (fun y => .sl none 1 false (y.map (V.int .i64))) (fun _ => []) := by
 refine cmQ fun r hM => ?_
 rw [slices_Repeat_int_int.eq_1] at hM
 refine enterV En_ok En_mo [7] Tryd.func46 rfl Tryd.ntmps46 (by kernel_rfl) fun hw => ct_start ?_
 refine spQ ?_
 replace hw := nzQ hw
 refine condC_intro (fun h1 => ?_) (fun h1 => ?_)
 ·rw [if_pos h1] at hM
  refine spQA h1 ?_
  have nh1 := nzQ h1
  exact False.elim omQ
 ·rw [if_neg (ne_true h1)] at hM
  refine spQA h1 ?_
  have nh1 := nzQ h1
  have hM0 := hM; clear hM; obtain ⟨x2, hx3, hM⟩ := letk_opn hM0; clear hM0
  have hcx2 := cmU hx3
  refine callC_give hcx2 clQ clQ (fun hw4 => ?_)
  replace hw4 := nzQ hw4
  refine spQ ?_
  have hq5 : x2.1 = 0 ∧ x2.2 = count ∧ convI .i64 x2.2 = count := by
     have e1 : convI .u64 (x_.length : Int) = 1 := by rw [hp2]; exact conv_u64 (by decide) (by decide)
     have e2 : convI .u64 count = count := conv_u64 hp0 (by omega)
     rw [e1, e2, mul_one rfl hp0 hp1] at hx3
     rw [hx3]; exact ⟨rfl, rfl, conv_i64 (by omega) (by omega)⟩
  replace hq5 := nzQ hq5
  refine guardC_f (fun h6 => ?_) (fun h6 => ?_)
  ·rw [if_neg (ne_true h6)] at hM
   refine spQA h6 ?_
   have nh6 := nzQ h6
   refine condC_intro (fun h7 => ?_) (fun h7 => ?_)
   ·rw [if_pos h7] at hM
    refine spQA h7 ?_
    have nh7 := nzQ h7
    exact False.elim omQ
   ·rw [if_neg (ne_true h7)] at hM
    refine spQA h7 ?_
    have nh7 := nzQ h7
    refine seqC_pass ?_
    try refine spQ ?_
    refine bindC_intro omQ ?_
    refine spQ ?_
    refine cut_weak (⟨[(0, .sl none 1 false (x_.map (V.int .i64))), (7, .own 0)], [(0, .own 3 1 false (some false) ((rep (convI .i64 x2.2).toNat (0 : Int)).map (V.int .i64)))], 1⟩ : St) sbQ sbQ ?_
    try refine spQ ?_
    have hM0 := hM; clear hM; obtain ⟨f8, d8, hf8, hd8, hM⟩ := iter_opn hM0; clear hM0
    refine ct_loop (fun n S => ∃ p : Int × List Int, S = (⟨[(7, .own 0), (8, .int .i64 p.1)], [(0, .own 3 1 false none (p.2.map (V.int .i64)))], 1⟩ : St) ∧ ((0 ≤ p.1) ∧ (p.1 ≤ (p.2.length : Int)) ∧ (1 ≤ p.1 ∨ p.2.length = 0) ∧ ((p.2).length = ((spl (rep (convI .i64 x2.2).toNat (0 : Int)) 0 (min (convI .i64 x2.2).toNat x_.length) x_)).length)) ∧ ((p.2.length : Int) - p.1).toNat < n ∧ iter n f8 d8 p = r) ((((spl (rep (convI .i64 x2.2).toNat (0 : Int)) 0 (min (convI .i64 x2.2).toNat x_.length) x_).length : Int) - ((min (convI .i64 x2.2).toNat x_.length : Nat) : Int)).toNat + 1) _ sbQ sbQ ⟨(((min (convI .i64 x2.2).toNat x_.length : Nat) : Int), (spl (rep (convI .i64 x2.2).toNat (0 : Int)) 0 (min (convI .i64 x2.2).toNat x_.length) x_)), rfl, ⟨omQ, omQ, omQ, omQ⟩, (Nat.lt_succ_self _), hM⟩ ?_
    clear hM
    rintro n8 S ⟨p8, rfl, hfa8, hm8, hM⟩
    have hM0 := hM; clear hM; obtain ⟨ag8, hag8, hM⟩ := iter_step hM0 (by omega) hf8; clear hM0
    replace hfa8 := nzQ hfa8
    replace hm8 := nzQ hm8
    have ha8 : addI .i64 p8.1 1 = p8.1 + 1 := add_one omQ omQ
    refine spQA ha8 ?_
    refine condC_intro (fun h9 => ?_) (fun h9 => ?_)
    ·rw [if_pos h9] at hM
     refine spQA (And.intro ha8 h9) ?_
     have nh9 := nzQ h9
     refine ct_draw 48 8 [38, 39, 40, 41, 42, 43, 44, 45] [] ([[], [], [], [1, 2], [], [], [4, 5], [1, 2, 3, 4, 5, 6]] ++ [List.range 8, List.range 9]) [(7, 0)] (by kernel_rfl) (by exact alQ) ?_
     refine spQA ha8 ?_
     refine hbindC_intro omQ ?_
     refine spQA ha8 ?_
     refine hbindC_intro omQ ?_
     refine spQA ha8 ?_
     have ha10 : addI .i64 p8.1 ((min (p8.2.length - (p8.1).toNat) (cutN p8.2 0 (p8.1).toNat).length : Nat) : Int) = (p8.1 + ((min (p8.2.length - (p8.1).toNat) (cutN p8.2 0 (p8.1).toNat).length : Nat) : Int)) := add_ok omQ omQ
     try simp only [ha10]
     refine lp_intro (n8 - 1) _ (by omega) sbQ sbQ ⟨((p8.1 + ((min (p8.2.length - (p8.1).toNat) (cutN p8.2 0 (p8.1).toNat).length : Nat) : Int)), (spl p8.2 (p8.1).toNat (min (p8.2.length - (p8.1).toNat) (cutN p8.2 0 (p8.1).toNat).length) (cutN p8.2 0 (p8.1).toNat))), rfl, ⟨omQ, omQ, omQ, omQ⟩, omQ, iter_again hM hag8⟩
    ·rw [if_neg (ne_true h9)] at hM
     refine spQA (And.intro ha8 h9) ?_
     have nh9 := nzQ h9
     subst hM
     exact retC_view (lfQA (And.intro ha8 (And.intro h1 (And.intro h6 (And.intro h7 h9)))))
  ·rw [if_pos h6] at hM
   refine spQA h6 ?_
   have nh6 := nzQ h6
   exact False.elim omQ
set_option maxHeartbeats 2000000 in
set_option maxRecDepth 100000 in
instance denom_counted_1_ok   (n_ : Int)  : CM En (denom_counted_1 n_) 89 [.int .i64 n_] (fun y => .bool y) (fun _ => []) := by
 refine cmQ fun r hM => ?_
 rw [denom_counted_1.eq_1] at hM
 refine enterV En_ok En_mo noJ Tryd.func89 rfl Tryd.ntmps89 (by kernel_rfl) fun hw => ct_start ?_
 refine spQ ?_
 replace hw := nzQ hw
 have hF := trueQ
 exact auQ
set_option maxHeartbeats 2000000 in
set_option maxRecDepth 100000 in
instance slices_IndexFunc_int_int_at_denom_counted_1_ok   (s : (List Int))  : CM En (slices_IndexFunc_int_int_at_denom_counted_1 s) 114 [.sl none 1 false (s.map (V.int .i64)), .fn 89 []] (fun y => .int .i64 y) (fun _ => []) := by
 refine cmQ fun r hM => ?_
 rw [slices_IndexFunc_int_int_at_denom_counted_1.eq_1] at hM
 refine enterV En_ok En_mo noJ Tryd.func114 rfl Tryd.ntmps114 (by kernel_rfl) fun hw => ct_start ?_
 refine spQ ?_
 replace hw := nzQ hw
 have hM0 := hM; clear hM; obtain ⟨f1, d1, hf1, hd1, hM⟩ := iter_opn hM0; clear hM0
 refine ct_loop (fun n S => ∃ p : Int, S = (⟨[(0, .sl none 1 false (s.map (V.int .i64))), (1, .fn 89 []), (7, .int .i64 (s.length : Int)), (8, .int .i64 p)], [], 0⟩ : St) ∧ ((0 ≤ p) ∧ (p ≤ (s.length : Int))) ∧ ((s.length : Int) - p).toNat < n ∧ iter n f1 d1 p = r) (((s.length : Int) - 0).toNat + 1) _ sbQ sbQ ⟨0, rfl, ⟨omQ, omQ⟩, (Nat.lt_succ_self _), hM⟩ ?_
 clear hM
 rintro n1 S ⟨p1, rfl, hfa1, hm1, hM⟩
 have hM0 := hM; clear hM; obtain ⟨ag1, hag1, hM⟩ := iter_step hM0 (by omega) hf1; clear hM0
 replace hfa1 := nzQ hfa1
 replace hm1 := nzQ hm1
 have ha1 : addI .i64 p1 1 = p1 + 1 := add_one omQ omQ
 refine spQA ha1 ?_
 have hF := ha1
 exact auQ
set_option maxHeartbeats 2000000 in
set_option maxRecDepth 100000 in
instance slices_ContainsFunc_int_int_at_denom_counted_1_ok   (s : (List Int))  : CM En (slices_ContainsFunc_int_int_at_denom_counted_1 s) 88 [.sl none 1 false (s.map (V.int .i64)), .fn 89 []] (fun y => .bool y) (fun _ => []) := by
 refine cmQ fun r hM => ?_
 rw [slices_ContainsFunc_int_int_at_denom_counted_1.eq_1] at hM
 refine enterV En_ok En_mo noJ Tryd.func88 rfl Tryd.ntmps88 (by kernel_rfl) fun hw => ct_start ?_
 refine spQ ?_
 replace hw := nzQ hw
 have hF := trueQ
 exact auQ
set_option maxHeartbeats 2000000 in
set_option maxRecDepth 100000 in
instance denom_counted_ok   (l : (List S_api_Denom)) (counts : (List Int))  : CM En (denom_counted l counts) 65 [.sl none 2 true (l.map e_api_Denom), .sl none 1 false (counts.map (V.int .i64))] (fun y => .bool y) (fun _ => []) := by
 refine cmQ fun r hM => ?_
 rw [denom_counted.eq_1] at hM
 refine enterV En_ok En_mo noJ Tryd.func65 rfl Tryd.ntmps65 (by kernel_rfl) fun hw => ct_start ?_
 refine spQ ?_
 replace hw := nzQ hw
 have hF := trueQ
 exact auQ
end Go.Proofs.YtbfeamknaiaghaaDoor
