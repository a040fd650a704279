/- Texts of this proof, one after the other: VI, VJ, VK, VA, T. -/
import Derived.Test.YtbfeamknaiaghaaDoorZ3
set_option linter.unusedVariables false
set_option linter.unusedSimpArgs false
namespace Go.Proofs.YtbfeamknaiaghaaDoor
open Go.RowKit
section
variable {E : Env} {J : Cuts} {k : List Ct} {S S1 : St} {c0 c : Cx} {ρ : Ro} {F : Fm}
mutual
def ren (s : Nat → Nat) : V → V
 | .own i => .own (s i)
 | .ptr i o => .ptr (s i) o
 | .optr i m k o => .optr (s i) m k o
 | .osub i m k o => .osub (s i) m k o
 | .agg l => .agg (renL s l)
 | .tup l => .tup (renL s l)
 | .fn f l => .fn f (renL s l)
 | v => v
def renL (s : Nat → Nat) : List V → List V
 | [] => []
 | d :: l => ren s d :: renL s l
end
def renB (s : Nat → Nat) : Blk → Blk
 | .var n g d => .var n g (ren s d)
 | b => b
def renBs (s : Nat → Nat) : List Blk → List Blk
 | [] => []
 | b :: l => renB s b :: renBs s l
mutual
def prV (p : Nat → Bool) : V → V
 | .own i => bif p i then .un else .own i
 | .ptr i o => bif p i then .un else .ptr i o
 | .optr i n k o => bif p i then .un else .optr i n k o
 | .osub i n k o => bif p i then .un else .osub i n k o
 | .agg l => .agg (prL p l)
 | .tup l => .tup (prL p l)
 | .fn f l => .fn f (prL p l)
 | v => v
def prL (p : Nat → Bool) : List V → List V
 | [] => []
 | d :: l => prV p d :: prL p l
end
def prB (p : Nat → Bool) : Blk → Blk
 | .var n g d => .var n g (prV p d)
 | .lent k n g d => .lent k n g (prV p d)
 | .ownI E n g z l => .ownI E n g z (prL p l)
 | b => b
def prF (p : Nat → Bool) : List (Nat × V) → List (Nat × V)
 | [] => []
 | (t, v) :: l => (t, prV p v) :: prF p l
def prH (p : Nat → Bool) : List (Nat × Blk) → List (Nat × Blk)
 | [] => []
 | (t, b) :: l => (t, prB p b) :: prH p l
def lentB (k : Nat) : Blk → Blk
 | .var n g d => .lent k n g d
 | b => b
def lentL (ks : Nat → Nat) : Nat → List Blk → List Blk
 | _, [] => []
 | i, b :: l => lentB (ks i) b :: lentL ks (i + 1) l
def HOkI (c0 c : Cx) (ρ : Ro) (H : List Blk) : Prop :=
 (∀ i b, H[i]? = some b → blkOk c0 c ρ i b) ∧ (∀ i, H.length ≤ i → ρ i = none) ∧
  ∀ i j bi bj k, i ≠ j → H[i]? = some bi → H[j]? = some bj → blkOf ρ i = some k → blkOf ρ j ≠ some k
mutual
def inV (H : List (Nat × Blk)) (ids : List Nat) : V → V
 | .own i => match posN ids i 0 with
  | some j => .own j
  | none => pubV (getA H i)
 | .ptr i o => match posN ids i 0 with
  | some j => .ptr j o
  | none => pubP o (getA H i)
 | .optr _ _ _ _ => .un
 | .osub _ _ _ _ => .un
 | .agg l => .agg (inVL H ids l)
 | .tup l => .tup (inVL H ids l)
 | .fn f l => .fn f (inVL H ids l)
 | v => v
def inVL (H : List (Nat × Blk)) (ids : List Nat) : List V → List V
 | [] => []
 | d :: l => inV H ids d :: inVL H ids l
end
def inO (H : List (Nat × Blk)) (ids : List Nat) : Option Blk → Blk → Prop
 | some (.own T n g z l), .own T' n' g' z' l' => T = T' ∧ n = n' ∧ g = g' ∧ mtZ z z' ∧ mtL l l'
 | some (.var n g d), .var n' g' d' => n = n' ∧ g = g' ∧ mt (inV H ids d) d'
 | some (.lent _ n g d), .var n' g' d' => n = n' ∧ g = g' ∧ mt (inV H ids d) d'
 | _, _ => False
def insB (H : List (Nat × Blk)) (ids : List Nat) : List Nat → List Blk → Prop
 | [], [] => True
 | i :: l, b :: m => inO H ids (getA H i) b ∧ insB H ids l m
 | _, _ => False
def ownIds (H : List (Nat × Blk)) : List Nat → List Nat
 | [] => []
 | i :: l => ownI1 (getA H i) i (ownIds H l)
where ownI1 : Option Blk → Nat → List Nat → List Nat
 | some (.own _ _ _ _ _), i, l => i :: l
 | _, _, l => l
def sg (ids : List Nat) (nx j : Nat) : Nat := match ids[j]? with
 | some i => i
 | none => nx + (j - ids.length)
def backB : Option Blk → Blk → Blk
 | some (.lent k _ _ _), .var n g d => .lent k n g d
 | _, b => b
def setIds (H0 : List (Nat × Blk)) : List (Nat × Blk) → List Nat → List Blk → List (Nat × Blk)
 | h, i :: l, b :: m => setIds H0 (setA h i (backB (getA H0 i) b)) l m
 | h, _, _ => h
def St.afterI (S : St) (ids : List Nat) (Hout Hnew : List Blk) (d : Option Nat) (r : V) : St :=
 St.put ⟨prF (memN (ownIds S.H ids)) S.F, shiftH S.nx 0 (renBs (sg ids S.nx) Hnew) ++ setIds S.H (prH (memN (ownIds S.H ids)) S.H) ids (renBs (sg ids S.nx) Hout), S.nx + Hnew.length⟩ d (ren (sg ids S.nx) r)
theorem Var.leY {α : Type} {c c' : Cx} {b : Nat} {r : Rep α} {d : α} (h : c.leY c') (hp : c.pub c') (hb : b ∉ c.Y) (hv : Var c b r d) : Var c' b r d := by
 obtain ⟨h1, T, cs, h2, h3⟩ := hv
 have hlt := c.ok b h1
 exact ⟨(h.old b hlt hb).2 h1, T, cs, (h.below.block b hlt hb).trans h2, r.mono h3 hp⟩
theorem Own.leY {α : Type} {c c' : Cx} {E : TypeId} {v : Value} {r : Rep α} {l : List α} (ho : Own c E v r l) (h : c.leY c') (hp : c.pub c') (hb : ∀ i, blk v = some i → i ∉ c.Y) : Own c' E v r l := by
 refine ⟨ho.1, ?_⟩
 rcases ho.2 with h' | ⟨g', cap, cur, rfl, h1, h2, h3, h4, h5, h6⟩
 ·exact .inl h'
 ·have hlt := c.ok g' h1
  exact .inr ⟨g', cap, cur, rfl, (h.old g' hlt (hb g' rfl)).2 h1, (h.below.block g' hlt (hb g' rfl)).trans h2, h3, h4, h5, arrIs_mono hp h6⟩
theorem MSet.leY {c c' : Cx} {r : Nat} {g : Bool} {k : IntKind} {n : Nat} {l : List (List Int)} (h : c.leY c') (hb : r ∉ c.Y) (hv : MSet c r g k n l) : MSet c' r g k n l := by
 obtain ⟨h1, h2, es, clock, h3, h4⟩ := hv
 have hlt := c.ok r h1
 exact ⟨(h.old r hlt hb).2 h1, h2, es, clock, (h.below.block r hlt hb).trans h3, h4⟩
end
end Go.Proofs.YtbfeamknaiaghaaDoor
namespace Go.Proofs.YtbfeamknaiaghaaDoor
open Go.RowKit
section
variable {E : Env} {J : Cuts} {k : List Ct} {S S1 : St} {c0 c : Cx} {ρ : Ro} {F : Fm}
section
variable {D : Dr} {m i : Nat} {ll : List Oper} {R : List (Nat × HRes)}
end
def outI (E : Env) (S : St) (ks : Nat → Nat) (v r : V) (Hout Hnew : List Blk) : Prop :=
 ∀ c0 c ρ F u, SimN E c0 c ρ S F → rd ρ c v u → ∃ c1 ρ1, c1.w = c.w ∧ c0.leY c1 ∧ rd ρ1 c1 r u ∧ HOkI c0 c1 ρ1 (lentL ks 0 Hout ++ Hnew)
def retKI (E : Env) (rs : List ResultVar) (ks : Nat → Nat) (r : V) (Hout Hnew : List Blk) : Exit → St → Prop
 | .ret, S => match resL E.tb S rs with
  | some vs => outI E S ks (tupV vs) r Hout Hnew
  | none => False
 | .normal, S => match resL E.tb S rs with
  | some vs => outI E S ks (tupV vs) r Hout Hnew
  | none => False
 | _, _ => False
def retCI (E : Env) (S : St) (ks : Nat → Nat) (r : V) (Hout Hnew : List Blk) : Option (List V) → Prop
 | some vs => outI E S ks (tupV vs) r Hout Hnew
 | none => False
theorem retKI_ret {rs : List ResultVar} {ks : Nat → Nat} {r : V} {Hout Hnew : List Blk} : retKI E rs ks r Hout Hnew .ret S = retCI E S ks r Hout Hnew (resL E.tb S rs) := Eq.trans rfl rfl
theorem retKI_normal {rs : List ResultVar} {ks : Nat → Nat} {r : V} {Hout Hnew : List Blk} : retKI E rs ks r Hout Hnew .normal S = retCI E S ks r Hout Hnew (resL E.tb S rs) := Eq.trans rfl rfl
def outB (H : List (Nat × Blk)) (ids : List Nat) : Option Blk → Blk → Prop
 | some (.own T n g z l), .own T' n' g' z' l' => T = T' ∧ n = n' ∧ g = g' ∧ mtZ z z' ∧ mtL l l'
 | some (.lent k n g d), .lent k' n' g' d' => k = k' ∧ n = n' ∧ g = g' ∧ mt (viewO H ids d) d'
 | _, _ => False
def outsB (H : List (Nat × Blk)) (ids : List Nat) : List Nat → List Blk → Prop
 | [], [] => True
 | i :: l, b :: m => outB H ids (getA H i) b ∧ outsB H ids l m
 | _, _ => False
def heapA : Nat → List Blk → List (Nat × Blk)
 | _, [] => []
 | i, b :: l => (i, b) :: heapA (i + 1) l
end
end Go.Proofs.YtbfeamknaiaghaaDoor
namespace Go.Proofs.YtbfeamknaiaghaaDoor
open Go.RowKit
attribute [go_sem] St.afterI prF prV prL prH prB ownIds ownIds.ownI1 sg setIds backB renBs renB ren renL lentL lentB heapA insB inO outsB outB inV inVL retKI_ret retKI_normal shiftH cond_true cond_false Nat.sub_self List.getElem?_nil Nat.reduceSub
end Go.Proofs.YtbfeamknaiaghaaDoor
namespace Go.Proofs.YtbfeamknaiaghaaDoor
open Go.RowKit
class CM (E : outParam Env) {α : Type} (m : α) (f : outParam FuncId) (ws : outParam (List V)) (R : outParam (α → V)) (Hs : outParam (α → List Blk)) : Prop where
  ok : CallOk E f ws (R m) (Hs m)
class DRD (id : Nat) (n m : outParam Nat) (wr : outParam (List Nat)) (wl : outParam (List (Nat × Nat))) (need : outParam (List (List Nat))) (ub : outParam (List (Nat × Nat))) : Prop where
  ok : True
class CF {α : Type} (m : α) (P : outParam (α → Prop)) : Prop where
  ok : P m
theorem cfU {α : Type} {x m : α} {P : α → Prop} (hx : x = m) [h : CF m P] : P x := by subst hx; exact h.ok
theorem mpQ {a b : Prop} (h : a) (f : a → b := by assumption) : b := f h
section
variable {E : Env} {J : Cuts} {k : List Ct} {S : St} {α : Type} {f : FuncId} {ws : List V} {R : α → V} {Hs : α → List Blk}
theorem cmQ {m : α} (h : ∀ r, m = r → CallOk E f ws (R r) (Hs r)) : CM E m f ws R Hs := ⟨h m rfl⟩
theorem cmU {x m : α} (hx : x = m) [h : CM E m f ws R Hs] : CallOk E f ws (R x) (Hs x) := by subst hx; exact h.ok
theorem cmH {x m : α} (hx : x = m) (h : CM E m f ws R Hs) : CallOk E f ws (R x) (Hs x) := by subst hx; exact h.ok
theorem ifQ_t {β : Type} {c : Bool} {a b r : β} (hM : (if c = true then a else b) = r) (h : c = true) : a = r := by rw [if_pos h] at hM; exact hM
theorem ifQ_f {β : Type} {c : Bool} {a b r : β} (hM : (if c = true then a else b) = r) (h : c = false) : b = r := by rw [if_neg (by rw [h]; decide)] at hM; exact hM
theorem bindP {r : Res} {d : Option Nat} (h : bindC E J r S d k) : bindC E J r S d k := h
theorem callP {v : Option V} {vs : Option (List V)} {d : Option Nat} (h : callC E J v vs S d k) : callC E J v vs S d k := h
theorem retP {r : V} {H : List Blk} {o : Option (List V)} (h : retC E S r H o) : retC E S r H o := h
theorem lpP {K : St → Prop} (h : cont E J (.lp K :: k) .normal S) : cont E J (.lp K :: k) .normal S := h
theorem drawP {id : Nat} {ops : Array Oper} (h : cont E J (.code (.region id ops true) :: k) .normal S) : cont E J (.code (.region id ops true) :: k) .normal S := h
theorem ct_drawI {id : Nat} {ops : Array Oper} {n m : Nat} {wr : List Nat} {wl : List (Nat × Nat)} {need : List (List Nat)} {ub : List (Nat × Nat)} [DRD id n m wr wl need ub] (hB : (wlB ops m wl && flowB n m ops wr need && ((List.range m).all fun i => (need.getD i []).all fun j => decide (j < i))) = true) (hU : ubB m need ub S.nx = true)
    (h : drawC E ⟨J, S, wr, wl, need, ub, k⟩ m 0 ops.toList []) : cont E J (.code (.region id ops true) :: k) .normal S := ct_draw n m wr wl need ub hB hU h
section
variable {D : Dr} {m i : Nat} {l : List Oper} {L : List (Nat × HRes)} {d : Option Nat}
theorem hbindP {nid : Nat} {r : Res} (h : hbindC E D m i l L d nid r) : hbindC E D m i l L d nid r := h
theorem hcallP {v : Option V} {vs : Option (List V)} (h : hcallC E D m i l L d S v vs) : hcallC E D m i l L d S v vs := h
end
theorem trueQ : True := trivial
theorem elt_mpN {β : Type} [Inhabited β] {l : List β} {g : β → V} {i : Nat} (h : i < l.length) (d : V) : elt (l.map g) i d = g (gt l (i : Int)) := elt_mp (i := (i : Int)) h d
end
theorem auQ {P : Prop} (h : P := by
  repeat' (first
    | ((first | (with_reducible refine condC_intro ?_ ?_) | (with_reducible refine guardC_t ?_ ?_) | (with_reducible refine guardC_f ?_ ?_) | (with_reducible refine hguardC_t ?_ ?_) | (with_reducible refine hguardC_f ?_ ?_)) <;> (intro h0; (first | replace hM := ifQ_t hM h0 | replace hM := ifQ_f hM h0); replace hF := And.intro h0 hF; replace h0 := nzQ h0; (try have h1 := mpQ h0); (first | refine spQA hF ?_ | skip)))
    | (with_reducible refine bindP ?_
       refine bindC_intro ?h9 ?_
       case h9 => exact omQ
       first
         | (rw [elt_mp ?h9]; case h9 => exact omQ)
         | (rw [elt_mpN ?h9]; case h9 => exact omQ)
         | skip
       refine spQA hF ?_)
    | (with_reducible refine hbindP ?_
       first
         | (refine hbindC_intro ?h9 ?_; case h9 => exact omQ)
         | (refine hbindC_introN ?h9 (clQA hF) ?_; case h9 => exact omQ)
         | (refine hbindC_introP ?h9 (clQA hF) ?_; case h9 => exact omQ)
         | (refine hbindC_introA ?h9 (clQA hF) ?_; case h9 => exact omQ)
         | (refine hbindC_introV ?h9 (clQA hF) ?_; case h9 => exact omQ)
         | (refine hbindC_introU ?h9 (clQA hF) ?_; case h9 => exact omQ)
       first
         | (rw [elt_mp ?h9]; case h9 => exact omQ)
         | (rw [elt_mpN ?h9]; case h9 => exact omQ)
         | skip
       refine spQA hF ?_)
    | (with_reducible refine callP ?_
       have hM0 := hM; clear hM; obtain ⟨x0, hx0, hM⟩ := letk_opn hM0; clear hM0
       first
         | refine callC_give (cmU hx0) (clQA hF) (clQA hF) (fun hw0 => ?_)
         | refine callC_look (cmU hx0) (clQA hF) (clQA hF) (fun hw0 => ?_)
       replace hw0 := nzQ hw0
       try have hq0 := nzQ (cfU hx0)
       refine spQA hF ?_)
    | (with_reducible refine hcallP ?_
       have hM0 := hM; clear hM; obtain ⟨x0, hx0, hM⟩ := letk_opn hM0; clear hM0
       first
         | refine hcallC_give (cmU hx0) (clQA hF) (clQA hF) ?_
         | refine hcallC_give (CallOk.pub (cmU hx0)) (clQA hF) (clQA hF) ?_
         | refine hcallC_look (cmU hx0) (clQA hF) (clQA hF) ?_
       try have hq0 := nzQ (cfU hx0)
       refine spQA hF ?_)
    | (with_reducible refine drawP ?_
       refine ct_drawI (by kernel_rfl) (by exact alQ) ?_
       refine spQA hF ?_)
    | (with_reducible refine retP ?_
       subst hM
       exact retC_view (lfQA hF))
    | (with_reducible refine lpP ?_
       refine lp_intro ?_ _ ?h1 ?h2 ?h3 ⟨_, rfl, ?h4, ?h5, iter_again hM ?h6⟩
       case h6 => assumption
       case h1 => omega
       case h2 => first | exact sbQ | exact sbQA (And.intro @gt_cons0 (And.intro @gt_conss hF))
       case h3 => first | exact sbQ | exact sbQA (And.intro @gt_cons0 (And.intro @gt_conss hF))
       case h4 => first | trivial | exact omQ
       case h5 => exact omQ))) : P := h
end Go.Proofs.YtbfeamknaiaghaaDoor
namespace Go.Proofs.YtbfeamknaiaghaaDoor
open Go.RowKit
structure S_api_Group where
 P : Int
 Q : Int
 G : Int
def z_api_Group : S_api_Group := { P := (0 : Int), Q := (0 : Int), G := (0 : Int) }
instance : Inhabited S_api_Group := ⟨z_api_Group⟩
@[go_sem] theorem z_api_Group_P : z_api_Group.P = (0 : Int) := Eq.trans rfl rfl
@[go_sem] theorem z_api_Group_Q : z_api_Group.Q = (0 : Int) := Eq.trans rfl rfl
@[go_sem] theorem z_api_Group_G : z_api_Group.G = (0 : Int) := Eq.trans rfl rfl
structure S_api_Bases where
 Group : S_api_Group
 G1 : Int
 G2 : Int
 H : Int
def z_api_Bases : S_api_Bases := { Group := z_api_Group, G1 := (0 : Int), G2 := (0 : Int), H := (0 : Int) }
instance : Inhabited S_api_Bases := ⟨z_api_Bases⟩
@[go_sem] theorem z_api_Bases_Group : z_api_Bases.Group = z_api_Group := Eq.trans rfl rfl
@[go_sem] theorem z_api_Bases_G1 : z_api_Bases.G1 = (0 : Int) := Eq.trans rfl rfl
@[go_sem] theorem z_api_Bases_G2 : z_api_Bases.G2 = (0 : Int) := Eq.trans rfl rfl
@[go_sem] theorem z_api_Bases_H : z_api_Bases.H = (0 : Int) := Eq.trans rfl rfl
def e_api_Bases (x : S_api_Bases) : V := .agg [.int .i64 x.Group.P, .int .i64 x.Group.Q, .int .i64 x.Group.G, .int .i64 x.G1, .int .i64 x.G2, .int .i64 x.H]
attribute [go_sem] e_api_Bases
def zv_38 : V := .agg [.int .i64 0, .int .i64 0, .int .i64 0, .int .i64 0, .int .i64 0, .int .i64 0]
attribute [go_sem] zv_38
def q_api_Bases (a b : S_api_Bases) : Bool := (a.Group.P == b.Group.P && (a.Group.Q == b.Group.Q && (a.Group.G == b.Group.G && (a.G1 == b.G1 && (a.G2 == b.G2 && a.H == b.H)))))
attribute [go_sem] q_api_Bases
def e_api_Group (x : S_api_Group) : V := .agg [.int .i64 x.P, .int .i64 x.Q, .int .i64 x.G]
attribute [go_sem] e_api_Group
end Go.Proofs.YtbfeamknaiaghaaDoor
