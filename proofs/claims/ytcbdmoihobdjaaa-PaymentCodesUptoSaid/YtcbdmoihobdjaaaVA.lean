import Derived.Test.YtcbdmoihobdjaaaVS
namespace Go.Proofs.Ytcbdmoihobdjaaa
open Go.RowKit
class CM (E : outParam Env) {α : Type} (m : α) (f : outParam FuncId) (ws : outParam (List V)) (R : outParam (α → V)) (Hs : outParam (α → List Blk)) : Prop where
  ok : CallOk E f ws (R m) (Hs m)
class DRD (id : Nat) (n m : outParam Nat) (wr : outParam (List Nat)) (wl : outParam (List (Nat × Nat))) (need : outParam (List (List Nat))) (ub : outParam (List (Nat × Nat))) : Prop where
  ok : True
class CF {α : Type} (m : α) (P : outParam (α → Prop)) : Prop where
  ok : P m
theorem cfU {α : Type} {x m : α} {P : α → Prop} (hx : x = m) [h : CF m P] : P x := by subst hx; exact h.ok
theorem mpQ {a b : Prop} (h : a) (f : a → b := by assumption) : b := f h
section
variable {E : Env} {J : Cuts} {k : List Ct} {S : St} {α : Type} {f : FuncId} {ws : List V} {R : α → V} {Hs : α → List Blk}
theorem cmQ {m : α} (h : ∀ r, m = r → CallOk E f ws (R r) (Hs r)) : CM E m f ws R Hs := ⟨h m rfl⟩
theorem cmU {x m : α} (hx : x = m) [h : CM E m f ws R Hs] : CallOk E f ws (R x) (Hs x) := by subst hx; exact h.ok
theorem cmH {x m : α} (hx : x = m) (h : CM E m f ws R Hs) : CallOk E f ws (R x) (Hs x) := by subst hx; exact h.ok
theorem ifQ_t {β : Type} {c : Bool} {a b r : β} (hM : (if c = true then a else b) = r) (h : c = true) : a = r := by rw [if_pos h] at hM; exact hM
theorem ifQ_f {β : Type} {c : Bool} {a b r : β} (hM : (if c = true then a else b) = r) (h : c = false) : b = r := by rw [if_neg (by rw [h]; decide)] at hM; exact hM
theorem bindP {r : Res} {d : Option Nat} (h : bindC E J r S d k) : bindC E J r S d k := h
theorem callP {v : Option V} {vs : Option (List V)} {d : Option Nat} (h : callC E J v vs S d k) : callC E J v vs S d k := h
theorem retP {r : V} {H : List Blk} {o : Option (List V)} (h : retC E S r H o) : retC E S r H o := h
theorem lpP {K : St → Prop} (h : cont E J (.lp K :: k) .normal S) : cont E J (.lp K :: k) .normal S := h
theorem drawP {id : Nat} {ops : Array Oper} (h : cont E J (.code (.region id ops true) :: k) .normal S) : cont E J (.code (.region id ops true) :: k) .normal S := h
theorem ct_drawI {id : Nat} {ops : Array Oper} {n m : Nat} {wr : List Nat} {wl : List (Nat × Nat)} {need : List (List Nat)} {ub : List (Nat × Nat)} [DRD id n m wr wl need ub] (hB : (wlB ops m wl && flowB n m ops wr need && ((List.range m).all fun i => (need.getD i []).all fun j => decide (j < i))) = true) (hU : ubB m need ub S.nx = true)
    (h : drawC E ⟨J, S, wr, wl, need, ub, k⟩ m 0 ops.toList []) : cont E J (.code (.region id ops true) :: k) .normal S := ct_draw n m wr wl need ub hB hU h
section
variable {D : Dr} {m i : Nat} {l : List Oper} {L : List (Nat × HRes)} {d : Option Nat}
theorem hbindP {nid : Nat} {r : Res} (h : hbindC E D m i l L d nid r) : hbindC E D m i l L d nid r := h
theorem hcallP {v : Option V} {vs : Option (List V)} (h : hcallC E D m i l L d S v vs) : hcallC E D m i l L d S v vs := h
end
theorem trueQ : True := trivial
theorem elt_mpN {β : Type} [Inhabited β] {l : List β} {g : β → V} {i : Nat} (h : i < l.length) (d : V) : elt (l.map g) i d = g (gt l (i : Int)) := elt_mp (i := (i : Int)) h d
end
theorem auQ {P : Prop} (h : P := by
  repeat' (first
    | ((first | (with_reducible refine condC_intro ?_ ?_) | (with_reducible refine guardC_t ?_ ?_) | (with_reducible refine guardC_f ?_ ?_) | (with_reducible refine hguardC_t ?_ ?_) | (with_reducible refine hguardC_f ?_ ?_)) <;> (intro h0; (first | replace hM := ifQ_t hM h0 | replace hM := ifQ_f hM h0); replace hF := And.intro h0 hF; replace h0 := nzQ h0; (try have h1 := mpQ h0); (first | refine spQA hF ?_ | skip)))
    | (with_reducible refine bindP ?_
       refine bindC_intro ?h9 ?_
       case h9 => exact omQ
       first
         | (rw [elt_mp ?h9]; case h9 => exact omQ)
         | (rw [elt_mpN ?h9]; case h9 => exact omQ)
         | skip
       refine spQA hF ?_)
    | (with_reducible refine hbindP ?_
       first
         | (refine hbindC_intro ?h9 ?_; case h9 => exact omQ)
         | (refine hbindC_introN ?h9 (clQA hF) ?_; case h9 => exact omQ)
         | (refine hbindC_introP ?h9 (clQA hF) ?_; case h9 => exact omQ)
         | (refine hbindC_introA ?h9 (clQA hF) ?_; case h9 => exact omQ)
         | (refine hbindC_introV ?h9 (clQA hF) ?_; case h9 => exact omQ)
         | (refine hbindC_introU ?h9 (clQA hF) ?_; case h9 => exact omQ)
       first
         | (rw [elt_mp ?h9]; case h9 => exact omQ)
         | (rw [elt_mpN ?h9]; case h9 => exact omQ)
         | skip
       refine spQA hF ?_)
    | (with_reducible refine callP ?_
       have hM0 := hM; clear hM; obtain ⟨x0, hx0, hM⟩ := letk_opn hM0; clear hM0
       first
         | refine callC_give (cmU hx0) (clQA hF) (clQA hF) (fun hw0 => ?_)
         | refine callC_look (cmU hx0) (clQA hF) (clQA hF) (fun hw0 => ?_)
       replace hw0 := nzQ hw0
       try have hq0 := cfU hx0
       refine spQA hF ?_)
    | (with_reducible refine hcallP ?_
       have hM0 := hM; clear hM; obtain ⟨x0, hx0, hM⟩ := letk_opn hM0; clear hM0
       first
         | refine hcallC_give (cmU hx0) (clQA hF) (clQA hF) ?_
         | refine hcallC_give (CallOk.pub (cmU hx0)) (clQA hF) (clQA hF) ?_
         | refine hcallC_look (cmU hx0) (clQA hF) (clQA hF) ?_
       try have hq0 := cfU hx0
       refine spQA hF ?_)
    | (with_reducible refine drawP ?_
       refine ct_drawI (by kernel_rfl) (by exact alQ) ?_
       refine spQA hF ?_)
    | (with_reducible refine retP ?_
       subst hM
       exact retC_view (lfQA hF))
    | (with_reducible refine lpP ?_
       refine lp_intro ?_ _ ?h1 ?h2 ?h3 ⟨_, rfl, ?h4, ?h5, iter_again hM ?h6⟩
       case h6 => assumption
       case h1 => omega
       case h2 => first | exact sbQ | exact sbQA (And.intro @gt_cons0 (And.intro @gt_conss hF))
       case h3 => first | exact sbQ | exact sbQA (And.intro @gt_cons0 (And.intro @gt_conss hF))
       case h4 => first | trivial | exact omQ
       case h5 => exact omQ))) : P := h
end Go.Proofs.Ytcbdmoihobdjaaa
