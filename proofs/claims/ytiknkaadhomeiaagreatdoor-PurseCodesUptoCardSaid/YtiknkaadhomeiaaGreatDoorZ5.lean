/- Texts of this proof, one after the other: VA, T, L0, R0, R1, R2, RT. -/
import Derived.Test.YtiknkaadhomeiaaGreatDoorZ4
set_option linter.unusedVariables false
set_option linter.unusedSimpArgs false
namespace Go.Proofs.YtiknkaadhomeiaaGreatDoor
open Go.RowKit
class CM (E:outParam Env) {α:Type} (m:α) (f:outParam FuncId) (ws:outParam (List V)) (R:outParam (α→V)) (Hs:outParam (α→List Blk)):Prop where
  ok:a8 E f ws (R m) (Hs m)
class DRD (id:Nat) (n m:outParam Nat) (wr:outParam (List Nat)) (wl:outParam (List (Nat×Nat))) (need:outParam (List (List Nat))) (ub:outParam (List (Nat×Nat))):Prop where
  ok:True
class CF {α:Type} (m:α) (P:outParam (α→Prop)):Prop where
  ok:P m
theorem cfU {α:Type} {x m:α} {P:α→Prop} (hx:x=m) [h:CF m P]:P x:=by subst hx;exact h.ok
theorem mpQ {a b:Prop} (h:a) (f:a→b:=by assumption):b:=f h
section
variable {E:Env} {J:cC} {k:List Ct} {S:St} {α:Type} {f:FuncId} {ws:List V} {R:α→V} {Hs:α→List Blk}
theorem cmQ {m:α} (h: ∀r,m=r→a8 E f ws (R r) (Hs r)):CM E m f ws R Hs:=⟨h m rfl⟩
theorem cmU {x m:α} (hx:x=m) [h:CM E m f ws R Hs]:a8 E f ws (R x) (Hs x):=by subst hx;exact h.ok
theorem cmH {x m:α} (hx:x=m) (h:CM E m f ws R Hs):a8 E f ws (R x) (Hs x):=by subst hx;exact h.ok
theorem mA {β:Type} {c:Bool} {a b r:β} (hM:(if c=true then a else b)=r) (h:c=true):a=r:=by rw [if_pos h] at hM;exact hM
theorem mB {β:Type} {c:Bool} {a b r:β} (hM:(if c=true then a else b)=r) (h:c=false):b=r:=by rw [if_neg (by rw [h];decide)] at hM;exact hM
theorem iv {r:Res} {d:Option Nat} (h:kN E J r S d k):kN E J r S d k:=h
theorem wH {v:Option V} {vs:Option (List V)} {d:Option Nat} (h:gC E J v vs S d k):gC E J v vs S d k:=h
theorem Jd {r:V} {H:List Blk} {o:Option (List V)} (h:mr E S r H o):mr E S r H o:=h
theorem lpP {K:St→Prop} (h:aE E J (.lp K::k) .normal S):aE E J (.lp K::k) .normal S:=h
theorem iw {id:Nat} {ops:Array Oper} (h:aE E J (.code (.region id ops true)::k) .normal S):aE E J (.code (.region id ops true)::k) .normal S:=h
theorem ix {id:Nat} {ops:Array Oper} {n m:Nat} {wr:List Nat} {wl:List (Nat×Nat)} {need:List (List Nat)} {ub:List (Nat×Nat)} [DRD id n m wr wl need ub] (hB:(wlB ops m wl&&jx n m ops wr need&&((List.range m).all fun i=>(need.getD i []).all fun j=>decide (j<i)))=true) (hU:ubB m need ub S.nx=true)
    (h:bV E ⟨J,S,wr,wl,need,ub,k⟩ m 0 ops.toList []):aE E J (.code (.region id ops true)::k) .normal S:=jL n m wr wl need ub hB hU h
section
variable {D:Dr} {m i:Nat} {l:List Oper} {L:List (Nat×aY)} {d:Option Nat}
theorem iy {nid:Nat} {r:Res} (h:cD E D m i l L d nid r):cD E D m i l L d nid r:=h
theorem wJ {v:Option V} {vs:Option (List V)} (h:gD E D m i l L d S v vs):gD E D m i l L d S v vs:=h
end
theorem gI:True:=trivial
theorem Je {a b:Int} (h:0≤a∧a≤9223372036854775807) (hb:0<b):cc .i64 a b=a/b:=by
  have h1:a.tdiv b=a/b:=Int.tdiv_eq_ediv_of_nonneg h.1
  have h2:0≤a/b:=Int.ediv_nonneg h.1 (by omega)
  have h3:a/b≤a:=Int.ediv_le_self _ h.1
  have:=eY (a:=a/b) (b:=0) (by omega) (by omega)
  unfold cc
  rw [h1]
  simpa [ak] using this
theorem Jf {a b:Int} (h:0≤a∧a≤9223372036854775807) (hb:0<b):bJ .i64 a b=a% b:=Int.tmod_eq_emod_of_nonneg h.1
theorem dn {β:Type} [Inhabited β] {l:List β} {g:β→V} {i:Nat} (h:i<l.length) (d:V):elt (l.map g) i d=g (gt l (i:Int)):=cg (i:=(i:Int)) h d
end
theorem omA {P:Prop} (h:P:=by
  first
    | exact omQ
    | (clear hM;first
      | (have h9:=hA0 (by first|assumption|omega);exact ap)
      | (have h9:=hA0 (by first|assumption|omega) (by first|assumption|omega);exact ap)
      | (have h9:=hA0 (by first|assumption|omega) (by first|assumption|omega) (by first|assumption|omega);exact ap)
      | (have h9:=hA0 (by first|assumption|omega) (by first|assumption|omega) (by first|assumption|omega) (by first|assumption|omega);exact ap)
      | (have h9:=hA1 (by first|assumption|omega);exact ap)
      | (have h9:=hA1 (by first|assumption|omega) (by first|assumption|omega);exact ap)
      | (have h9:=hA1 (by first|assumption|omega) (by first|assumption|omega) (by first|assumption|omega);exact ap))):P:=h
theorem omR {P:Prop} (h:P:=by
  first
    | exact ap
    | (first
      | (have h9:=hA0 (by first|assumption|omega);exact ap)
      | (have h9:=hA0 (by first|assumption|omega) (by first|assumption|omega);exact ap)
      | (have h9:=hA0 (by first|assumption|omega) (by first|assumption|omega) (by first|assumption|omega);exact ap)
      | (have h9:=hA0 (by first|assumption|omega) (by first|assumption|omega) (by first|assumption|omega) (by first|assumption|omega);exact ap)
      | (have h9:=hA1 (by first|assumption|omega);exact ap)
      | (have h9:=hA1 (by first|assumption|omega) (by first|assumption|omega);exact ap)
      | (have h9:=hA1 (by first|assumption|omega) (by first|assumption|omega) (by first|assumption|omega);exact ap))):P:=h
theorem auQ {P:Prop} (h:P:=by
  repeat' (first
    | ((first|(with_reducible refine bR ?_ ?_)|(with_reducible refine mq ?_ ?_)|(with_reducible refine fH ?_ ?_)|(with_reducible refine rZ ?_ ?_)|(with_reducible refine r6 ?_ ?_))<;>(intro h0;(first|replace hM:=mA hM h0|replace hM:=mB hM h0);replace hF:=And.intro h0 hF;replace h0:=nzQ h0;(try have h1:=mpQ h0);(first|refine aq hF ?_|skip)))
    | (with_reducible refine iv ?_
       refine bM ?h9 ?_
       case h9=>exact omA
       first
         | (rw [cg ?h9];case h9=>exact omA)
         | (rw [dn ?h9];case h9=>exact omA)
         | skip
       refine aq hF ?_)
    | (with_reducible refine iy ?_
       first
         | (refine c8 ?h9 ?_;case h9=>exact omA)
         | (refine ie ?h9 (an hF) ?_;case h9=>exact omA)
         | (refine ig ?h9 (an hF) ?_;case h9=>exact omA)
         | (refine il ?h9 (an hF) ?_;case h9=>exact omA)
         | (refine ii ?h9 (an hF) ?_;case h9=>exact omA)
         | (refine ij ?h9 (an hF) ?_;case h9=>exact omA)
       first
         | (rw [cg ?h9];case h9=>exact omA)
         | (rw [dn ?h9];case h9=>exact omA)
         | skip
       refine aq hF ?_)
    | (with_reducible refine wH ?_
       have hM0:=hM;clear hM;obtain ⟨x0,hx0,hM⟩:=aC hM0;clear hM0
       first
         | refine bl (cmU hx0) (an hF) (an hF) (fun hw0=> ?_)
         | refine nC (cmU hx0) (an hF) (an hF) (fun hw0=> ?_)
       replace hw0:=nzQ hw0
       try have hq0:=nzQ (cfU hx0)
       refine aq hF ?_)
    | (with_reducible refine wJ ?_
       have hM0:=hM;clear hM;obtain ⟨x0,hx0,hM⟩:=aC hM0;clear hM0
       first
         | refine c_ (cmU hx0) (an hF) (an hF) ?_
         | refine c_ (a8.pub (cmU hx0)) (an hF) (an hF) ?_
         | refine wo (cmU hx0) (an hF) (an hF) ?_
       try have hq0:=nzQ (cfU hx0)
       refine aq hF ?_)
    | (with_reducible refine iw ?_
       refine ix (by kernel_rfl) (by exact alQ) ?_
       refine aq hF ?_)
    | (with_reducible refine Jd ?_
       subst hM
       exact cI (cK hF))
    | (with_reducible refine lpP ?_
       refine aO ?_ _ ?h1 ?h2 ?h3 ⟨_,rfl,?h4,?h5,aM hM ?h6⟩
       case h6=>assumption
       case h1=>omega
       case h2=>first|exact sbQ|exact AV (And.intro @kS (And.intro @kT hF))
       case h3=>first|exact sbQ|exact AV (And.intro @kS (And.intro @kT hF))
       case h4=>first|trivial|exact omA|(repeat' (first|exact omA|apply And.intro))
       case h5=>exact omA))):P:=h
structure Hid (p:Prop):Prop where
  out:p
theorem slQ {P Q:Prop} (k:Q) (h:Hid Q→P:=by
  intro k hF hM
  (first|refine aq hF ?_|skip)
  repeat (first
      | (with_reducible refine iv ?_
         refine bM ?h9 ?_
         case h9=>exact omA
         first
           | (rw [cg ?h9];case h9=>exact omA)
           | (rw [dn ?h9];case h9=>exact omA)
           | skip
         refine aq hF ?_)
      | (with_reducible refine iy ?_
         first
           | (refine c8 ?h9 ?_;case h9=>exact omA)
           | (refine ie ?h9 (an hF) ?_;case h9=>exact omA)
           | (refine ig ?h9 (an hF) ?_;case h9=>exact omA)
           | (refine il ?h9 (an hF) ?_;case h9=>exact omA)
           | (refine ii ?h9 (an hF) ?_;case h9=>exact omA)
           | (refine ij ?h9 (an hF) ?_;case h9=>exact omA)
         first
           | (rw [cg ?h9];case h9=>exact omA)
           | (rw [dn ?h9];case h9=>exact omA)
           | skip
         refine aq hF ?_)
      | (with_reducible refine iw ?_
         refine ix (by kernel_rfl) (by exact alQ) ?_
         refine aq hF ?_))
  revert hM;revert hF
  exact k.out):P:=h ⟨k⟩
theorem slA {A P Q:Prop} (a:A) (k:Q) (h:A→Hid Q→P:=by
  intro hA k hF hM
  replace hF:=And.intro hA hF
  (first|refine aq hF ?_|skip)
  repeat (first
      | (with_reducible refine iv ?_
         refine bM ?h9 ?_
         case h9=>exact omA
         first
           | (rw [cg ?h9];case h9=>exact omA)
           | (rw [dn ?h9];case h9=>exact omA)
           | skip
         refine aq hF ?_)
      | (with_reducible refine iy ?_
         first
           | (refine c8 ?h9 ?_;case h9=>exact omA)
           | (refine ie ?h9 (an hF) ?_;case h9=>exact omA)
           | (refine ig ?h9 (an hF) ?_;case h9=>exact omA)
           | (refine il ?h9 (an hF) ?_;case h9=>exact omA)
           | (refine ii ?h9 (an hF) ?_;case h9=>exact omA)
           | (refine ij ?h9 (an hF) ?_;case h9=>exact omA)
         first
           | (rw [cg ?h9];case h9=>exact omA)
           | (rw [dn ?h9];case h9=>exact omA)
           | skip
         refine aq hF ?_)
      | (with_reducible refine iw ?_
         refine ix (by kernel_rfl) (by exact alQ) ?_
         refine aq hF ?_))
  revert hM;revert hF
  exact k.out):P:=h a ⟨k⟩
theorem aF {P:Prop} {α:Type} {H W V Q:α→Prop} (k: ∀x,H x→W x→V x→Q x) (h:Hid (∀x,H x→W x→V x→Q x)→P:=by
  intro k hF hM
  have hM0:=hM;clear hM;obtain ⟨x0,hx0,hM⟩:=aC hM0;clear hM0
  first
    | (with_reducible refine wH ?_
       first
         | refine bl (cmU hx0) (an hF) (an hF) (fun hw0=> ?_)
         | refine nC (cmU hx0) (an hF) (an hF) (fun hw0=> ?_)
       replace hw0:=nzQ hw0
       try have hq0:=nzQ (cfU hx0)
       (first|refine aq hF ?_|skip)
       repeat (first
           | (with_reducible refine iv ?_
              refine bM ?h9 ?_
              case h9=>exact omA
              first
                | (rw [cg ?h9];case h9=>exact omA)
                | (rw [dn ?h9];case h9=>exact omA)
                | skip
              refine aq hF ?_)
           | (with_reducible refine iy ?_
              first
                | (refine c8 ?h9 ?_;case h9=>exact omA)
                | (refine ie ?h9 (an hF) ?_;case h9=>exact omA)
                | (refine ig ?h9 (an hF) ?_;case h9=>exact omA)
                | (refine il ?h9 (an hF) ?_;case h9=>exact omA)
                | (refine ii ?h9 (an hF) ?_;case h9=>exact omA)
                | (refine ij ?h9 (an hF) ?_;case h9=>exact omA)
              first
                | (rw [cg ?h9];case h9=>exact omA)
                | (rw [dn ?h9];case h9=>exact omA)
                | skip
              refine aq hF ?_)
           | (with_reducible refine iw ?_
              refine ix (by kernel_rfl) (by exact alQ) ?_
              refine aq hF ?_))
       revert hM;revert hF
       first|exact k.out x0 hx0 hw0 hq0|exact k.out x0 hx0 hw0 trivial)
    | (with_reducible refine wJ ?_
       first
         | refine c_ (cmU hx0) (an hF) (an hF) ?_
         | refine c_ (a8.pub (cmU hx0)) (an hF) (an hF) ?_
         | refine wo (cmU hx0) (an hF) (an hF) ?_
       try have hq0:=nzQ (cfU hx0)
       (first|refine aq hF ?_|skip)
       repeat (first
           | (with_reducible refine iv ?_
              refine bM ?h9 ?_
              case h9=>exact omA
              first
                | (rw [cg ?h9];case h9=>exact omA)
                | (rw [dn ?h9];case h9=>exact omA)
                | skip
              refine aq hF ?_)
           | (with_reducible refine iy ?_
              first
                | (refine c8 ?h9 ?_;case h9=>exact omA)
                | (refine ie ?h9 (an hF) ?_;case h9=>exact omA)
                | (refine ig ?h9 (an hF) ?_;case h9=>exact omA)
                | (refine il ?h9 (an hF) ?_;case h9=>exact omA)
                | (refine ii ?h9 (an hF) ?_;case h9=>exact omA)
                | (refine ij ?h9 (an hF) ?_;case h9=>exact omA)
              first
                | (rw [cg ?h9];case h9=>exact omA)
                | (rw [dn ?h9];case h9=>exact omA)
                | skip
              refine aq hF ?_)
           | (with_reducible refine iw ?_
              refine ix (by kernel_rfl) (by exact alQ) ?_
              refine aq hF ?_))
       revert hM;revert hF
       first|exact k.out x0 hx0 trivial hq0|exact k.out x0 hx0 trivial trivial)):P:=h ⟨k⟩
theorem Jg {P:Prop} {α:Type} {H W V Q:α→Prop} (k: ∀x,H x→W x→V x→Q x) (h:Hid (∀x,H x→W x→V x→Q x)→P:=by
  intro k hF hM
  have hM0:=hM;clear hM;obtain ⟨x0,hx0,hM⟩:=aC hM0;clear hM0
  first
    | (with_reducible refine wH ?_
       first
         | refine bl (cmU hx0) (an hF) (an hF) (fun hw0=> ?_)
         | refine nC (cmU hx0) (an hF) (an hF) (fun hw0=> ?_)
       replace hw0:=cF hw0
       try have hq0:=nzQ (cfU hx0)
       (first|refine aq hF ?_|skip)
       repeat (first
           | (with_reducible refine iv ?_
              refine bM ?h9 ?_
              case h9=>exact omA
              first
                | (rw [cg ?h9];case h9=>exact omA)
                | (rw [dn ?h9];case h9=>exact omA)
                | skip
              refine aq hF ?_)
           | (with_reducible refine iy ?_
              first
                | (refine c8 ?h9 ?_;case h9=>exact omA)
                | (refine ie ?h9 (an hF) ?_;case h9=>exact omA)
                | (refine ig ?h9 (an hF) ?_;case h9=>exact omA)
                | (refine il ?h9 (an hF) ?_;case h9=>exact omA)
                | (refine ii ?h9 (an hF) ?_;case h9=>exact omA)
                | (refine ij ?h9 (an hF) ?_;case h9=>exact omA)
              first
                | (rw [cg ?h9];case h9=>exact omA)
                | (rw [dn ?h9];case h9=>exact omA)
                | skip
              refine aq hF ?_)
           | (with_reducible refine iw ?_
              refine ix (by kernel_rfl) (by exact alQ) ?_
              refine aq hF ?_))
       revert hM;revert hF
       first|exact k.out x0 hx0 hw0 hq0|exact k.out x0 hx0 hw0 trivial)
    | (with_reducible refine wJ ?_
       first
         | refine c_ (cmU hx0) (an hF) (an hF) ?_
         | refine c_ (a8.pub (cmU hx0)) (an hF) (an hF) ?_
         | refine wo (cmU hx0) (an hF) (an hF) ?_
       try have hq0:=nzQ (cfU hx0)
       (first|refine aq hF ?_|skip)
       repeat (first
           | (with_reducible refine iv ?_
              refine bM ?h9 ?_
              case h9=>exact omA
              first
                | (rw [cg ?h9];case h9=>exact omA)
                | (rw [dn ?h9];case h9=>exact omA)
                | skip
              refine aq hF ?_)
           | (with_reducible refine iy ?_
              first
                | (refine c8 ?h9 ?_;case h9=>exact omA)
                | (refine ie ?h9 (an hF) ?_;case h9=>exact omA)
                | (refine ig ?h9 (an hF) ?_;case h9=>exact omA)
                | (refine il ?h9 (an hF) ?_;case h9=>exact omA)
                | (refine ii ?h9 (an hF) ?_;case h9=>exact omA)
                | (refine ij ?h9 (an hF) ?_;case h9=>exact omA)
              first
                | (rw [cg ?h9];case h9=>exact omA)
                | (rw [dn ?h9];case h9=>exact omA)
                | skip
              refine aq hF ?_)
           | (with_reducible refine iw ?_
              refine ix (by kernel_rfl) (by exact alQ) ?_
              refine aq hF ?_))
       revert hM;revert hF
       first|exact k.out x0 hx0 trivial hq0|exact k.out x0 hx0 trivial trivial)):P:=h ⟨k⟩
theorem cdQ {P H1 N1 R1 Q1 H2 N2 R2 Q2:Prop} (k1:H1→N1→R1→Q1) (k2:H2→N2→R2→Q2) (h:Hid (H1→N1→R1→Q1)→Hid (H2→N2→R2→Q2)→P:=by
  intro k1 k2 hF hM
  (first|(with_reducible refine bR ?_ ?_)|(with_reducible refine mq ?_ ?_)|(with_reducible refine fH ?_ ?_)|(with_reducible refine rZ ?_ ?_)|(with_reducible refine r6 ?_ ?_))
  · intro h0
    (first|replace hM:=mA hM h0|replace hM:=mB hM h0)
    replace hF:=And.intro h0 hF
    have hn:=nzQ h0
    try have h1:=mpQ hn
    (first|refine aq hF ?_|skip)
    repeat (first
        | (with_reducible refine iv ?_
           refine bM ?h9 ?_
           case h9=>exact omA
           first
             | (rw [cg ?h9];case h9=>exact omA)
             | (rw [dn ?h9];case h9=>exact omA)
             | skip
           refine aq hF ?_)
        | (with_reducible refine iy ?_
           first
             | (refine c8 ?h9 ?_;case h9=>exact omA)
             | (refine ie ?h9 (an hF) ?_;case h9=>exact omA)
             | (refine ig ?h9 (an hF) ?_;case h9=>exact omA)
             | (refine il ?h9 (an hF) ?_;case h9=>exact omA)
             | (refine ii ?h9 (an hF) ?_;case h9=>exact omA)
             | (refine ij ?h9 (an hF) ?_;case h9=>exact omA)
           first
             | (rw [cg ?h9];case h9=>exact omA)
             | (rw [dn ?h9];case h9=>exact omA)
             | skip
           refine aq hF ?_)
        | (with_reducible refine iw ?_
           refine ix (by kernel_rfl) (by exact alQ) ?_
           refine aq hF ?_))
    revert hM;revert hF
    first|exact k1.out h0 hn h1|exact k1.out h0 hn trivial
  · intro h0
    (first|replace hM:=mA hM h0|replace hM:=mB hM h0)
    replace hF:=And.intro h0 hF
    have hn:=nzQ h0
    try have h1:=mpQ hn
    (first|refine aq hF ?_|skip)
    repeat (first
        | (with_reducible refine iv ?_
           refine bM ?h9 ?_
           case h9=>exact omA
           first
             | (rw [cg ?h9];case h9=>exact omA)
             | (rw [dn ?h9];case h9=>exact omA)
             | skip
           refine aq hF ?_)
        | (with_reducible refine iy ?_
           first
             | (refine c8 ?h9 ?_;case h9=>exact omA)
             | (refine ie ?h9 (an hF) ?_;case h9=>exact omA)
             | (refine ig ?h9 (an hF) ?_;case h9=>exact omA)
             | (refine il ?h9 (an hF) ?_;case h9=>exact omA)
             | (refine ii ?h9 (an hF) ?_;case h9=>exact omA)
             | (refine ij ?h9 (an hF) ?_;case h9=>exact omA)
           first
             | (rw [cg ?h9];case h9=>exact omA)
             | (rw [dn ?h9];case h9=>exact omA)
             | skip
           refine aq hF ?_)
        | (with_reducible refine iw ?_
           refine ix (by kernel_rfl) (by exact alQ) ?_
           refine aq hF ?_))
    revert hM;revert hF
    first|exact k2.out h0 hn h1|exact k2.out h0 hn trivial):P:=h ⟨k1⟩ ⟨k2⟩
theorem aJ {P H2 N2 R2 Q2:Prop} (k2:H2→N2→R2→Q2) (h:Hid (H2→N2→R2→Q2)→P:=by
  intro k2 hF hM
  (first|(with_reducible refine bR ?_ ?_)|(with_reducible refine mq ?_ ?_)|(with_reducible refine fH ?_ ?_)|(with_reducible refine rZ ?_ ?_)|(with_reducible refine r6 ?_ ?_))
  · clear k2
    intro h0
    (first|replace hM:=mA hM h0|replace hM:=mB hM h0)
    replace hF:=And.intro h0 hF
    replace h0:=nzQ h0
    (try have h1:=mpQ h0)
    (first|refine aq hF ?_|skip)
    exact auQ
  · intro h0
    (first|replace hM:=mA hM h0|replace hM:=mB hM h0)
    replace hF:=And.intro h0 hF
    have hn:=nzQ h0
    try have h1:=mpQ hn
    (first|refine aq hF ?_|skip)
    repeat (first
        | (with_reducible refine iv ?_
           refine bM ?h9 ?_
           case h9=>exact omA
           first
             | (rw [cg ?h9];case h9=>exact omA)
             | (rw [dn ?h9];case h9=>exact omA)
             | skip
           refine aq hF ?_)
        | (with_reducible refine iy ?_
           first
             | (refine c8 ?h9 ?_;case h9=>exact omA)
             | (refine ie ?h9 (an hF) ?_;case h9=>exact omA)
             | (refine ig ?h9 (an hF) ?_;case h9=>exact omA)
             | (refine il ?h9 (an hF) ?_;case h9=>exact omA)
             | (refine ii ?h9 (an hF) ?_;case h9=>exact omA)
             | (refine ij ?h9 (an hF) ?_;case h9=>exact omA)
           first
             | (rw [cg ?h9];case h9=>exact omA)
             | (rw [dn ?h9];case h9=>exact omA)
             | skip
           refine aq hF ?_)
        | (with_reducible refine iw ?_
           refine ix (by kernel_rfl) (by exact alQ) ?_
           refine aq hF ?_))
    revert hM;revert hF
    first|exact k2.out h0 hn h1|exact k2.out h0 hn trivial):P:=h ⟨k2⟩
theorem ax {P H1 N1 R1 Q1:Prop} (k1:H1→N1→R1→Q1) (h:Hid (H1→N1→R1→Q1)→P:=by
  intro k1 hF hM
  (first|(with_reducible refine bR ?_ ?_)|(with_reducible refine mq ?_ ?_)|(with_reducible refine fH ?_ ?_)|(with_reducible refine rZ ?_ ?_)|(with_reducible refine r6 ?_ ?_))
  · intro h0
    (first|replace hM:=mA hM h0|replace hM:=mB hM h0)
    replace hF:=And.intro h0 hF
    have hn:=nzQ h0
    try have h1:=mpQ hn
    (first|refine aq hF ?_|skip)
    repeat (first
        | (with_reducible refine iv ?_
           refine bM ?h9 ?_
           case h9=>exact omA
           first
             | (rw [cg ?h9];case h9=>exact omA)
             | (rw [dn ?h9];case h9=>exact omA)
             | skip
           refine aq hF ?_)
        | (with_reducible refine iy ?_
           first
             | (refine c8 ?h9 ?_;case h9=>exact omA)
             | (refine ie ?h9 (an hF) ?_;case h9=>exact omA)
             | (refine ig ?h9 (an hF) ?_;case h9=>exact omA)
             | (refine il ?h9 (an hF) ?_;case h9=>exact omA)
             | (refine ii ?h9 (an hF) ?_;case h9=>exact omA)
             | (refine ij ?h9 (an hF) ?_;case h9=>exact omA)
           first
             | (rw [cg ?h9];case h9=>exact omA)
             | (rw [dn ?h9];case h9=>exact omA)
             | skip
           refine aq hF ?_)
        | (with_reducible refine iw ?_
           refine ix (by kernel_rfl) (by exact alQ) ?_
           refine aq hF ?_))
    revert hM;revert hF
    first|exact k1.out h0 hn h1|exact k1.out h0 hn trivial
  · clear k1
    intro h0
    (first|replace hM:=mA hM h0|replace hM:=mB hM h0)
    replace hF:=And.intro h0 hF
    replace h0:=nzQ h0
    (try have h1:=mpQ h0)
    (first|refine aq hF ?_|skip)
    exact auQ):P:=h ⟨k1⟩
theorem auP {P:Prop} (h:P:=by (first|refine aq hF ?_|skip);exact auQ):P:=h
theorem auR {P:Prop} (h:P:=by intro hF hM;(first|refine aq hF ?_|skip);exact auQ):P:=h
theorem lsQ {P:Prop} (h:P:=by (simp only [go_sem,eZ,fb,List.length_replicate,dl,Int.toNat_natCast,↓reduceIte,Nat.reduceEqDiff,Nat.reduceAdd,Int.reduceAdd,Nat.reduceMul,Nat.reduceLeDiff,Nat.reduceLT,Int.reduceLE,Int.reduceLT,Int.reduceNeg,Int.reduceToNat,mt,mtL,ny,nw,mtZ,and_self,eq_self,or_true,true_or,pE,kS,kT,Int.reduceSub,or_self]<;>fail)):P:=h
theorem bB {A P:Prop} (a:A) (h:A→P:=by (intro hA;simp only [go_sem,eZ,fb,List.length_replicate,dl,Int.toNat_natCast,↓reduceIte,Nat.reduceEqDiff,Nat.reduceAdd,Int.reduceAdd,Nat.reduceMul,Nat.reduceLeDiff,Nat.reduceLT,Int.reduceLE,Int.reduceLT,Int.reduceNeg,Int.reduceToNat,mt,mtL,ny,nw,mtZ,and_self,eq_self,or_true,true_or,pE,kS,kT,Int.reduceSub,or_self,hA]<;>fail)):P:=h a
theorem sbG {P:Prop} (h:P:=by (simp only [go_sem,eZ,fb,List.length_replicate,dl,Int.toNat_natCast,↓reduceIte,Nat.reduceEqDiff,Nat.reduceAdd,Int.reduceAdd,Nat.reduceMul,Nat.reduceLeDiff,Nat.reduceLT,Int.reduceLE,Int.reduceLT,Int.reduceNeg,Int.reduceToNat,List.isEmpty_nil,pE,sw,wv,eT,eU,mtO,mtB,mt,mtL,ny,nw,ltV,ltL,ltB,eq_self,or_true,true_or,or_self,and_self,kS,kT,Int.reduceSub]<;>fail)):P:=h
theorem nzB {P Q:Prop} (h:P) (e:P=Q:=by first|(simp only [pK,wfB,decide_eq_true_eq,decide_eq_false_iff_not,Bool.and_eq_true,Bool.or_eq_true,Bool.not_eq_true',Bool.not_eq_false',beq_iff_eq,bne_iff_ne,beq_eq_false_iff_ne,bne_eq_false_iff_eq,ne_eq,Int.not_lt,Int.not_le,gt_iff_lt,ge_iff_le,List.length_map,wfL,wfV,and_true,true_and,io,ip,pA,pB,ss,kR,ja,List.length_append,List.length_cons,List.length_nil,List.length_replicate,dl,nL,nM,nN,cq,nK,jM,sr];rfl)|rfl):Q:=e▸h
end Go.Proofs.YtiknkaadhomeiaaGreatDoor
namespace Go.Proofs.YtiknkaadhomeiaaGreatDoor
open Go.RowKit
structure en where
 P:Int
 Q:Int
 G:Int
def nU:en:={P:=(0:Int),Q:=(0:Int),G:=(0:Int)}
instance:Inhabited en:=⟨nU⟩
@[go_sem] theorem Og:nU.P=(0:Int):=Eq.trans rfl rfl
@[go_sem] theorem Oh:nU.Q=(0:Int):=Eq.trans rfl rfl
@[go_sem] theorem Oi:nU.G=(0:Int):=Eq.trans rfl rfl
structure eH where
 Group:en
 G1:Int
 G2:Int
 H:Int
def pL:eH:={Group:=nU,G1:=(0:Int),G2:=(0:Int),H:=(0:Int)}
instance:Inhabited eH:=⟨pL⟩
@[go_sem] theorem Oj:pL.Group=nU:=Eq.trans rfl rfl
@[go_sem] theorem Ok:pL.G1=(0:Int):=Eq.trans rfl rfl
@[go_sem] theorem Ol:pL.G2=(0:Int):=Eq.trans rfl rfl
@[go_sem] theorem Om:pL.H=(0:Int):=Eq.trans rfl rfl
structure dD where
 Seed:(List Int)
 Counter:Int
def gJ:dD:={Seed:=[0,0,0,0,0,0,0,0,0,0,0,0,0,0,0,0,0,0,0,0,0,0,0,0,0,0,0,0,0,0,0,0],Counter:=(0:Int)}
instance:Inhabited dD:=⟨gJ⟩
@[go_sem] theorem On:gJ.Seed=[0,0,0,0,0,0,0,0,0,0,0,0,0,0,0,0,0,0,0,0,0,0,0,0,0,0,0,0,0,0,0,0]:=Eq.trans rfl rfl
@[go_sem] theorem Oo:gJ.Counter=(0:Int):=Eq.trans rfl rfl
structure k8 where
 Z:Int
 A:Int
 B:Int
 R:Int
def mC:k8:={Z:=(0:Int),A:=(0:Int),B:=(0:Int),R:=(0:Int)}
instance:Inhabited k8:=⟨mC⟩
@[go_sem] theorem Oq:mC.Z=(0:Int):=Eq.trans rfl rfl
@[go_sem] theorem Ot:mC.A=(0:Int):=Eq.trans rfl rfl
@[go_sem] theorem Ou:mC.B=(0:Int):=Eq.trans rfl rfl
@[go_sem] theorem Ov:mC.R=(0:Int):=Eq.trans rfl rfl
structure br where
 Bank:Int
 Epoch:Int
 Denom:Int
 Depth:Int
 A:Int
 Root:(List Int)
 Sign:k8
def cH:br:={Bank:=(0:Int),Epoch:=(0:Int),Denom:=(0:Int),Depth:=(0:Int),A:=(0:Int),Root:=[0,0,0,0,0,0,0,0,0,0,0,0,0,0,0,0,0,0,0,0,0,0,0,0,0,0,0,0,0,0,0,0],Sign:=mC}
instance:Inhabited br:=⟨cH⟩
@[go_sem] theorem Ow:cH.Bank=(0:Int):=Eq.trans rfl rfl
@[go_sem] theorem Ox:cH.Epoch=(0:Int):=Eq.trans rfl rfl
@[go_sem] theorem Oy:cH.Denom=(0:Int):=Eq.trans rfl rfl
@[go_sem] theorem Oz:cH.Depth=(0:Int):=Eq.trans rfl rfl
@[go_sem] theorem OA:cH.A=(0:Int):=Eq.trans rfl rfl
@[go_sem] theorem OB:cH.Root=[0,0,0,0,0,0,0,0,0,0,0,0,0,0,0,0,0,0,0,0,0,0,0,0,0,0,0,0,0,0,0,0]:=Eq.trans rfl rfl
@[go_sem] theorem OC:cH.Sign=mC:=Eq.trans rfl rfl
structure cj where
 U:Int
 S:Int
 X:(List (List Int))
def gK:cj:={U:=(0:Int),S:=(0:Int),X:=[]}
instance:Inhabited cj:=⟨gK⟩
@[go_sem] theorem OD:gK.U=(0:Int):=Eq.trans rfl rfl
@[go_sem] theorem OE:gK.S=(0:Int):=Eq.trans rfl rfl
@[go_sem] theorem OG:gK.X=[]:=Eq.trans rfl rfl
structure jT where
 Level:Int
 Index:Int
def pM:jT:={Level:=(0:Int),Index:=(0:Int)}
instance:Inhabited jT:=⟨pM⟩
@[go_sem] theorem OH:pM.Level=(0:Int):=Eq.trans rfl rfl
@[go_sem] theorem OI:pM.Index=(0:Int):=Eq.trans rfl rfl
structure iz where
 Payee:(List Int)
 Time:Int
 Number:Int
def nV:iz:={Payee:=[0,0,0,0,0,0,0,0,0,0,0,0,0,0,0,0,0,0,0,0,0,0,0,0,0,0,0,0,0,0,0,0],Time:=(0:Int),Number:=(0:Int)}
instance:Inhabited iz:=⟨nV⟩
@[go_sem] theorem OJ:nV.Payee=[0,0,0,0,0,0,0,0,0,0,0,0,0,0,0,0,0,0,0,0,0,0,0,0,0,0,0,0,0,0,0,0]:=Eq.trans rfl rfl
@[go_sem] theorem OK:nV.Time=(0:Int):=Eq.trans rfl rfl
@[go_sem] theorem OL:nV.Number=(0:Int):=Eq.trans rfl rfl
structure bS where
 B:Int
 R1:Int
 R2:Int
def sJ:bS:={B:=(0:Int),R1:=(0:Int),R2:=(0:Int)}
instance:Inhabited bS:=⟨sJ⟩
@[go_sem] theorem OM:sJ.B=(0:Int):=Eq.trans rfl rfl
@[go_sem] theorem ON:sJ.R1=(0:Int):=Eq.trans rfl rfl
@[go_sem] theorem OO:sJ.R2=(0:Int):=Eq.trans rfl rfl
structure ga where
 Index:Int
 L:(List (List Int))
def pN:ga:={Index:=(0:Int),L:=[]}
instance:Inhabited ga:=⟨pN⟩
@[go_sem] theorem OP:pN.Index=(0:Int):=Eq.trans rfl rfl
@[go_sem] theorem OQ:pN.L=[]:=Eq.trans rfl rfl
structure aA where
 Coin:br
 Node:jT
 Context:iz
 Leaves:(List bS)
 Path:ga
def bG:aA:={Coin:=cH,Node:=pM,Context:=nV,Leaves:=[],Path:=pN}
instance:Inhabited aA:=⟨bG⟩
@[go_sem] theorem OR:bG.Coin=cH:=Eq.trans rfl rfl
@[go_sem] theorem OS:bG.Node=pM:=Eq.trans rfl rfl
@[go_sem] theorem OT:bG.Context=nV:=Eq.trans rfl rfl
@[go_sem] theorem OU:bG.Leaves=[]:=Eq.trans rfl rfl
@[go_sem] theorem OV:bG.Path=pN:=Eq.trans rfl rfl
structure ay where
 Coin:br
 Secret:cj
 Spent:(List Bool)
 Chain:(List aA)
def cw:ay:={Coin:=cH,Secret:=gK,Spent:=[],Chain:=[]}
instance:Inhabited ay:=⟨cw⟩
@[go_sem] theorem OW:cw.Coin=cH:=Eq.trans rfl rfl
@[go_sem] theorem OX:cw.Secret=gK:=Eq.trans rfl rfl
@[go_sem] theorem OY:cw.Spent=[]:=Eq.trans rfl rfl
@[go_sem] theorem OZ:cw.Chain=[]:=Eq.trans rfl rfl
structure jU where
 S:Int
 U:Int
 V:Int
def nW:jU:={S:=(0:Int),U:=(0:Int),V:=(0:Int)}
instance:Inhabited jU:=⟨nW⟩
@[go_sem] theorem O0:nW.S=(0:Int):=Eq.trans rfl rfl
@[go_sem] theorem O1:nW.U=(0:Int):=Eq.trans rfl rfl
@[go_sem] theorem O2:nW.V=(0:Int):=Eq.trans rfl rfl
structure jV where
 M:Int
 Z:Int
 A:Int
 B:Int
 C:Int
 R:Int
def jW:jV:={M:=(0:Int),Z:=(0:Int),A:=(0:Int),B:=(0:Int),C:=(0:Int),R:=(0:Int)}
instance:Inhabited jV:=⟨jW⟩
@[go_sem] theorem O3:jW.M=(0:Int):=Eq.trans rfl rfl
@[go_sem] theorem O4:jW.Z=(0:Int):=Eq.trans rfl rfl
@[go_sem] theorem O5:jW.A=(0:Int):=Eq.trans rfl rfl
@[go_sem] theorem O6:jW.B=(0:Int):=Eq.trans rfl rfl
@[go_sem] theorem O7:jW.C=(0:Int):=Eq.trans rfl rfl
@[go_sem] theorem O8:jW.R=(0:Int):=Eq.trans rfl rfl
structure aL where
 Phase:Int
 Number:Int
 Bank:Int
 Epoch:Int
 Denom:Int
 Depth:Int
 Secret:cj
 Factors:jU
 View:jV
 Coin:br
def bw:aL:={Phase:=(0:Int),Number:=(0:Int),Bank:=(0:Int),Epoch:=(0:Int),Denom:=(0:Int),Depth:=(0:Int),Secret:=gK,Factors:=nW,View:=jW,Coin:=cH}
instance:Inhabited aL:=⟨bw⟩
@[go_sem] theorem O_:bw.Phase=(0:Int):=Eq.trans rfl rfl
@[go_sem] theorem Pa:bw.Number=(0:Int):=Eq.trans rfl rfl
@[go_sem] theorem Pb:bw.Bank=(0:Int):=Eq.trans rfl rfl
@[go_sem] theorem Pc:bw.Epoch=(0:Int):=Eq.trans rfl rfl
@[go_sem] theorem Pd:bw.Denom=(0:Int):=Eq.trans rfl rfl
@[go_sem] theorem Pe:bw.Depth=(0:Int):=Eq.trans rfl rfl
@[go_sem] theorem Pf:bw.Secret=gK:=Eq.trans rfl rfl
@[go_sem] theorem Pg:bw.Factors=nW:=Eq.trans rfl rfl
@[go_sem] theorem Pi:bw.View=jW:=Eq.trans rfl rfl
@[go_sem] theorem Pj:bw.Coin=cH:=Eq.trans rfl rfl
structure av where
 Bank:Int
 U:Int
 Key:Int
 Next:Int
 Holdings:(List ay)
 Open:(List aL)
 Source:dD
def aT:av:={Bank:=(0:Int),U:=(0:Int),Key:=(0:Int),Next:=(0:Int),Holdings:=[],Open:=[],Source:=gJ}
instance:Inhabited av:=⟨aT⟩
@[go_sem] theorem Pk:aT.Bank=(0:Int):=Eq.trans rfl rfl
@[go_sem] theorem Pm:aT.U=(0:Int):=Eq.trans rfl rfl
@[go_sem] theorem Pn:aT.Key=(0:Int):=Eq.trans rfl rfl
@[go_sem] theorem Po:aT.Next=(0:Int):=Eq.trans rfl rfl
@[go_sem] theorem Pp:aT.Holdings=[]:=Eq.trans rfl rfl
@[go_sem] theorem Pq:aT.Open=[]:=Eq.trans rfl rfl
@[go_sem] theorem Pr:aT.Source=gJ:=Eq.trans rfl rfl
structure wK where
 H:Int
 H1:Int
 H2:Int
def nX:wK:={H:=(0:Int),H1:=(0:Int),H2:=(0:Int)}
instance:Inhabited wK:=⟨nX⟩
@[go_sem] theorem Ps:nX.H=(0:Int):=Eq.trans rfl rfl
@[go_sem] theorem Pt:nX.H1=(0:Int):=Eq.trans rfl rfl
@[go_sem] theorem Pu:nX.H2=(0:Int):=Eq.trans rfl rfl
structure ff where
 Bank:Int
 Epoch:Int
 Denom:Int
 Value:Int
 Depth:Int
 Key:wK
 From:Int
 Until:Int
 Final:Int
def je:ff:={Bank:=(0:Int),Epoch:=(0:Int),Denom:=(0:Int),Value:=(0:Int),Depth:=(0:Int),Key:=nX,From:=(0:Int),Until:=(0:Int),Final:=(0:Int)}
instance:Inhabited ff:=⟨je⟩
@[go_sem] theorem Pv:je.Bank=(0:Int):=Eq.trans rfl rfl
@[go_sem] theorem Pw:je.Epoch=(0:Int):=Eq.trans rfl rfl
@[go_sem] theorem Py:je.Denom=(0:Int):=Eq.trans rfl rfl
@[go_sem] theorem Pz:je.Value=(0:Int):=Eq.trans rfl rfl
@[go_sem] theorem PA:je.Depth=(0:Int):=Eq.trans rfl rfl
@[go_sem] theorem PC:je.Key=nX:=Eq.trans rfl rfl
@[go_sem] theorem PD:je.From=(0:Int):=Eq.trans rfl rfl
@[go_sem] theorem PE:je.Until=(0:Int):=Eq.trans rfl rfl
@[go_sem] theorem PF:je.Final=(0:Int):=Eq.trans rfl rfl
structure aa where
 Kind:Int
 N:Int
 B:(List Int)
 L:(List aa)
def bT:aa:={Kind:=(0:Int),N:=(0:Int),B:=[],L:=[]}
instance:Inhabited aa:=⟨bT⟩
@[go_sem] theorem PG:bT.Kind=(0:Int):=Eq.trans rfl rfl
@[go_sem] theorem PH:bT.N=(0:Int):=Eq.trans rfl rfl
@[go_sem] theorem PI:bT.B=[]:=Eq.trans rfl rfl
@[go_sem] theorem PJ:bT.L=[]:=Eq.trans rfl rfl
structure eI where
 l:(List aa)
def mD:eI:={l:=[]}
instance:Inhabited eI:=⟨mD⟩
@[go_sem] theorem PK:mD.l=[]:=Eq.trans rfl rfl
structure aD where
 b:(List Int)
 e:Int
def wL:aD:={b:=[],e:=(0:Int)}
instance:Inhabited aD:=⟨wL⟩
@[go_sem] theorem PL:wL.b=[]:=Eq.trans rfl rfl
@[go_sem] theorem PM:wL.e=(0:Int):=Eq.trans rfl rfl
structure cy where
 Bytes:(List Int)
 Durable:Int
 After:Int
def sK:cy:={Bytes:=[],Durable:=(0:Int),After:=(0:Int)}
instance:Inhabited cy:=⟨sK⟩
@[go_sem] theorem PN:sK.Bytes=[]:=Eq.trans rfl rfl
@[go_sem] theorem PO:sK.Durable=(0:Int):=Eq.trans rfl rfl
@[go_sem] theorem PP:sK.After=(0:Int):=Eq.trans rfl rfl
def jX (x:eH):V:= .agg [.int .i64 x.Group.P,.int .i64 x.Group.Q,.int .i64 x.Group.G,.int .i64 x.G1,.int .i64 x.G2,.int .i64 x.H]
attribute [go_sem] jX
def sL:V:= .agg (.int .u32 0:: .int .u32 0:: .int .u32 0:: .int .u32 0:: .int .u32 0:: .int .u32 0:: .int .u32 0:: .int .u32 0:: .int .u32 0:: .int .u32 0:: .int .u32 0:: .int .u32 0:: .int .u32 0:: .int .u32 0:: .int .u32 0:: .int .u32 0:: .int .u32 0:: .int .u32 0:: .int .u32 0:: .int .u32 0:: .int .u32 0:: .int .u32 0:: .int .u32 0:: .int .u32 0:: .int .u32 0:: .int .u32 0:: .int .u32 0:: .int .u32 0:: .int .u32 0:: .int .u32 0:: .int .u32 0:: .int .u32 0:: .int .u32 0:: .int .u32 0:: .int .u32 0:: .int .u32 0:: .int .u32 0:: .int .u32 0:: .int .u32 0:: .int .u32 0:: .int .u32 0:: .int .u32 0:: .int .u32 0:: .int .u32 0:: .int .u32 0:: .int .u32 0:: .int .u32 0:: .int .u32 0:: .int .u32 0:: .int .u32 0:: .int .u32 0:: .int .u32 0:: .int .u32 0:: .int .u32 0:: .int .u32 0:: .int .u32 0:: .int .u32 0:: .int .u32 0:: .int .u32 0:: .int .u32 0:: .int .u32 0:: .int .u32 0:: .int .u32 0:: .int .u32 0::[])
attribute [go_sem] sL
def nY (l:(List Int)):V:= .agg (.int .u32 (gt l 0):: .int .u32 (gt l 1):: .int .u32 (gt l 2):: .int .u32 (gt l 3):: .int .u32 (gt l 4):: .int .u32 (gt l 5):: .int .u32 (gt l 6):: .int .u32 (gt l 7):: .int .u32 (gt l 8):: .int .u32 (gt l 9):: .int .u32 (gt l 10):: .int .u32 (gt l 11):: .int .u32 (gt l 12):: .int .u32 (gt l 13):: .int .u32 (gt l 14):: .int .u32 (gt l 15):: .int .u32 (gt l 16):: .int .u32 (gt l 17):: .int .u32 (gt l 18):: .int .u32 (gt l 19):: .int .u32 (gt l 20):: .int .u32 (gt l 21):: .int .u32 (gt l 22):: .int .u32 (gt l 23):: .int .u32 (gt l 24):: .int .u32 (gt l 25):: .int .u32 (gt l 26):: .int .u32 (gt l 27):: .int .u32 (gt l 28):: .int .u32 (gt l 29):: .int .u32 (gt l 30):: .int .u32 (gt l 31):: .int .u32 (gt l 32):: .int .u32 (gt l 33):: .int .u32 (gt l 34):: .int .u32 (gt l 35):: .int .u32 (gt l 36):: .int .u32 (gt l 37):: .int .u32 (gt l 38):: .int .u32 (gt l 39):: .int .u32 (gt l 40):: .int .u32 (gt l 41):: .int .u32 (gt l 42):: .int .u32 (gt l 43):: .int .u32 (gt l 44):: .int .u32 (gt l 45):: .int .u32 (gt l 46):: .int .u32 (gt l 47):: .int .u32 (gt l 48):: .int .u32 (gt l 49):: .int .u32 (gt l 50):: .int .u32 (gt l 51):: .int .u32 (gt l 52):: .int .u32 (gt l 53):: .int .u32 (gt l 54):: .int .u32 (gt l 55):: .int .u32 (gt l 56):: .int .u32 (gt l 57):: .int .u32 (gt l 58):: .int .u32 (gt l 59):: .int .u32 (gt l 60):: .int .u32 (gt l 61):: .int .u32 (gt l 62):: .int .u32 (gt l 63)::[])
attribute [go_sem] nY
def lc (l:(List Int)):V:= .agg [.int .u32 (gt l 0),.int .u32 (gt l 1),.int .u32 (gt l 2),.int .u32 (gt l 3),.int .u32 (gt l 4),.int .u32 (gt l 5),.int .u32 (gt l 6),.int .u32 (gt l 7)]
attribute [go_sem] lc
def wM:V:= .agg [.int .u32 0,.int .u32 0,.int .u32 0,.int .u32 0,.int .u32 0,.int .u32 0,.int .u32 0,.int .u32 0]
attribute [go_sem] wM
def gL:V:= .agg (.int .u8 0:: .int .u8 0:: .int .u8 0:: .int .u8 0:: .int .u8 0:: .int .u8 0:: .int .u8 0:: .int .u8 0:: .int .u8 0:: .int .u8 0:: .int .u8 0:: .int .u8 0:: .int .u8 0:: .int .u8 0:: .int .u8 0:: .int .u8 0:: .int .u8 0:: .int .u8 0:: .int .u8 0:: .int .u8 0:: .int .u8 0:: .int .u8 0:: .int .u8 0:: .int .u8 0:: .int .u8 0:: .int .u8 0:: .int .u8 0:: .int .u8 0:: .int .u8 0:: .int .u8 0:: .int .u8 0:: .int .u8 0::[])
attribute [go_sem] gL
def bI (l:(List Int)):V:= .agg (.int .u8 (gt l 0):: .int .u8 (gt l 1):: .int .u8 (gt l 2):: .int .u8 (gt l 3):: .int .u8 (gt l 4):: .int .u8 (gt l 5):: .int .u8 (gt l 6):: .int .u8 (gt l 7):: .int .u8 (gt l 8):: .int .u8 (gt l 9):: .int .u8 (gt l 10):: .int .u8 (gt l 11):: .int .u8 (gt l 12):: .int .u8 (gt l 13):: .int .u8 (gt l 14):: .int .u8 (gt l 15):: .int .u8 (gt l 16):: .int .u8 (gt l 17):: .int .u8 (gt l 18):: .int .u8 (gt l 19):: .int .u8 (gt l 20):: .int .u8 (gt l 21):: .int .u8 (gt l 22):: .int .u8 (gt l 23):: .int .u8 (gt l 24):: .int .u8 (gt l 25):: .int .u8 (gt l 26):: .int .u8 (gt l 27):: .int .u8 (gt l 28):: .int .u8 (gt l 29):: .int .u8 (gt l 30):: .int .u8 (gt l 31)::[])
attribute [go_sem] bI
def nZ (x:dD):V:= .agg (.int .u8 (gt x.Seed 0):: .int .u8 (gt x.Seed 1):: .int .u8 (gt x.Seed 2):: .int .u8 (gt x.Seed 3):: .int .u8 (gt x.Seed 4):: .int .u8 (gt x.Seed 5):: .int .u8 (gt x.Seed 6):: .int .u8 (gt x.Seed 7):: .int .u8 (gt x.Seed 8):: .int .u8 (gt x.Seed 9):: .int .u8 (gt x.Seed 10):: .int .u8 (gt x.Seed 11):: .int .u8 (gt x.Seed 12):: .int .u8 (gt x.Seed 13):: .int .u8 (gt x.Seed 14):: .int .u8 (gt x.Seed 15):: .int .u8 (gt x.Seed 16):: .int .u8 (gt x.Seed 17):: .int .u8 (gt x.Seed 18):: .int .u8 (gt x.Seed 19):: .int .u8 (gt x.Seed 20):: .int .u8 (gt x.Seed 21):: .int .u8 (gt x.Seed 22):: .int .u8 (gt x.Seed 23):: .int .u8 (gt x.Seed 24):: .int .u8 (gt x.Seed 25):: .int .u8 (gt x.Seed 26):: .int .u8 (gt x.Seed 27):: .int .u8 (gt x.Seed 28):: .int .u8 (gt x.Seed 29):: .int .u8 (gt x.Seed 30):: .int .u8 (gt x.Seed 31):: .int .i64 x.Counter::[])
attribute [go_sem] nZ
def eJ (x:bS):V:= .agg [.int .i64 x.B,.int .i64 x.R1,.int .i64 x.R2]
attribute [go_sem] eJ
def bX (x:aA):V:= .agg (.int .i64 x.Coin.Bank:: .int .i64 x.Coin.Epoch:: .int .i64 x.Coin.Denom:: .int .i64 x.Coin.Depth:: .int .i64 x.Coin.A:: .int .u8 (gt x.Coin.Root 0):: .int .u8 (gt x.Coin.Root 1):: .int .u8 (gt x.Coin.Root 2):: .int .u8 (gt x.Coin.Root 3):: .int .u8 (gt x.Coin.Root 4):: .int .u8 (gt x.Coin.Root 5):: .int .u8 (gt x.Coin.Root 6):: .int .u8 (gt x.Coin.Root 7):: .int .u8 (gt x.Coin.Root 8):: .int .u8 (gt x.Coin.Root 9):: .int .u8 (gt x.Coin.Root 10):: .int .u8 (gt x.Coin.Root 11):: .int .u8 (gt x.Coin.Root 12):: .int .u8 (gt x.Coin.Root 13):: .int .u8 (gt x.Coin.Root 14):: .int .u8 (gt x.Coin.Root 15):: .int .u8 (gt x.Coin.Root 16):: .int .u8 (gt x.Coin.Root 17):: .int .u8 (gt x.Coin.Root 18):: .int .u8 (gt x.Coin.Root 19):: .int .u8 (gt x.Coin.Root 20):: .int .u8 (gt x.Coin.Root 21):: .int .u8 (gt x.Coin.Root 22):: .int .u8 (gt x.Coin.Root 23):: .int .u8 (gt x.Coin.Root 24):: .int .u8 (gt x.Coin.Root 25):: .int .u8 (gt x.Coin.Root 26):: .int .u8 (gt x.Coin.Root 27):: .int .u8 (gt x.Coin.Root 28):: .int .u8 (gt x.Coin.Root 29):: .int .u8 (gt x.Coin.Root 30):: .int .u8 (gt x.Coin.Root 31):: .int .i64 x.Coin.Sign.Z:: .int .i64 x.Coin.Sign.A:: .int .i64 x.Coin.Sign.B:: .int .i64 x.Coin.Sign.R:: .int .i64 x.Node.Level:: .int .i64 x.Node.Index:: .int .u8 (gt x.Context.Payee 0):: .int .u8 (gt x.Context.Payee 1):: .int .u8 (gt x.Context.Payee 2):: .int .u8 (gt x.Context.Payee 3):: .int .u8 (gt x.Context.Payee 4):: .int .u8 (gt x.Context.Payee 5):: .int .u8 (gt x.Context.Payee 6):: .int .u8 (gt x.Context.Payee 7):: .int .u8 (gt x.Context.Payee 8):: .int .u8 (gt x.Context.Payee 9):: .int .u8 (gt x.Context.Payee 10):: .int .u8 (gt x.Context.Payee 11):: .int .u8 (gt x.Context.Payee 12):: .int .u8 (gt x.Context.Payee 13):: .int .u8 (gt x.Context.Payee 14):: .int .u8 (gt x.Context.Payee 15):: .int .u8 (gt x.Context.Payee 16):: .int .u8 (gt x.Context.Payee 17):: .int .u8 (gt x.Context.Payee 18):: .int .u8 (gt x.Context.Payee 19):: .int .u8 (gt x.Context.Payee 20):: .int .u8 (gt x.Context.Payee 21):: .int .u8 (gt x.Context.Payee 22):: .int .u8 (gt x.Context.Payee 23):: .int .u8 (gt x.Context.Payee 24):: .int .u8 (gt x.Context.Payee 25):: .int .u8 (gt x.Context.Payee 26):: .int .u8 (gt x.Context.Payee 27):: .int .u8 (gt x.Context.Payee 28):: .int .u8 (gt x.Context.Payee 29):: .int .u8 (gt x.Context.Payee 30):: .int .u8 (gt x.Context.Payee 31):: .int .i64 x.Context.Time:: .int .i64 x.Context.Number:: .sl none 3 true (x.Leaves.map eJ):: .int .i64 x.Path.Index:: .sl none 32 true (x.Path.L.map bI)::[])
attribute [go_sem] bX
def bD (x:ay):V:= .agg (.int .i64 x.Coin.Bank:: .int .i64 x.Coin.Epoch:: .int .i64 x.Coin.Denom:: .int .i64 x.Coin.Depth:: .int .i64 x.Coin.A:: .int .u8 (gt x.Coin.Root 0):: .int .u8 (gt x.Coin.Root 1):: .int .u8 (gt x.Coin.Root 2):: .int .u8 (gt x.Coin.Root 3):: .int .u8 (gt x.Coin.Root 4):: .int .u8 (gt x.Coin.Root 5):: .int .u8 (gt x.Coin.Root 6):: .int .u8 (gt x.Coin.Root 7):: .int .u8 (gt x.Coin.Root 8):: .int .u8 (gt x.Coin.Root 9):: .int .u8 (gt x.Coin.Root 10):: .int .u8 (gt x.Coin.Root 11):: .int .u8 (gt x.Coin.Root 12):: .int .u8 (gt x.Coin.Root 13):: .int .u8 (gt x.Coin.Root 14):: .int .u8 (gt x.Coin.Root 15):: .int .u8 (gt x.Coin.Root 16):: .int .u8 (gt x.Coin.Root 17):: .int .u8 (gt x.Coin.Root 18):: .int .u8 (gt x.Coin.Root 19):: .int .u8 (gt x.Coin.Root 20):: .int .u8 (gt x.Coin.Root 21):: .int .u8 (gt x.Coin.Root 22):: .int .u8 (gt x.Coin.Root 23):: .int .u8 (gt x.Coin.Root 24):: .int .u8 (gt x.Coin.Root 25):: .int .u8 (gt x.Coin.Root 26):: .int .u8 (gt x.Coin.Root 27):: .int .u8 (gt x.Coin.Root 28):: .int .u8 (gt x.Coin.Root 29):: .int .u8 (gt x.Coin.Root 30):: .int .u8 (gt x.Coin.Root 31):: .int .i64 x.Coin.Sign.Z:: .int .i64 x.Coin.Sign.A:: .int .i64 x.Coin.Sign.B:: .int .i64 x.Coin.Sign.R:: .int .i64 x.Secret.U:: .int .i64 x.Secret.S:: .sl none 2 true (x.Secret.X.map (fun l=> .agg [.int .i64 (gt l 0),.int .i64 (gt l 1)])):: .sl none 1 false (x.Spent.map V.bool):: .sl none 80 true (x.Chain.map bX)::[])
attribute [go_sem] bD
def bU (x:aL):V:= .agg (.int .i64 x.Phase:: .int .i64 x.Number:: .int .i64 x.Bank:: .int .i64 x.Epoch:: .int .i64 x.Denom:: .int .i64 x.Depth:: .int .i64 x.Secret.U:: .int .i64 x.Secret.S:: .sl none 2 true (x.Secret.X.map (fun l=> .agg [.int .i64 (gt l 0),.int .i64 (gt l 1)])):: .int .i64 x.Factors.S:: .int .i64 x.Factors.U:: .int .i64 x.Factors.V:: .int .i64 x.View.M:: .int .i64 x.View.Z:: .int .i64 x.View.A:: .int .i64 x.View.B:: .int .i64 x.View.C:: .int .i64 x.View.R:: .int .i64 x.Coin.Bank:: .int .i64 x.Coin.Epoch:: .int .i64 x.Coin.Denom:: .int .i64 x.Coin.Depth:: .int .i64 x.Coin.A:: .int .u8 (gt x.Coin.Root 0):: .int .u8 (gt x.Coin.Root 1):: .int .u8 (gt x.Coin.Root 2):: .int .u8 (gt x.Coin.Root 3):: .int .u8 (gt x.Coin.Root 4):: .int .u8 (gt x.Coin.Root 5):: .int .u8 (gt x.Coin.Root 6):: .int .u8 (gt x.Coin.Root 7):: .int .u8 (gt x.Coin.Root 8):: .int .u8 (gt x.Coin.Root 9):: .int .u8 (gt x.Coin.Root 10):: .int .u8 (gt x.Coin.Root 11):: .int .u8 (gt x.Coin.Root 12):: .int .u8 (gt x.Coin.Root 13):: .int .u8 (gt x.Coin.Root 14):: .int .u8 (gt x.Coin.Root 15):: .int .u8 (gt x.Coin.Root 16):: .int .u8 (gt x.Coin.Root 17):: .int .u8 (gt x.Coin.Root 18):: .int .u8 (gt x.Coin.Root 19):: .int .u8 (gt x.Coin.Root 20):: .int .u8 (gt x.Coin.Root 21):: .int .u8 (gt x.Coin.Root 22):: .int .u8 (gt x.Coin.Root 23):: .int .u8 (gt x.Coin.Root 24):: .int .u8 (gt x.Coin.Root 25):: .int .u8 (gt x.Coin.Root 26):: .int .u8 (gt x.Coin.Root 27):: .int .u8 (gt x.Coin.Root 28):: .int .u8 (gt x.Coin.Root 29):: .int .u8 (gt x.Coin.Root 30):: .int .u8 (gt x.Coin.Root 31):: .int .i64 x.Coin.Sign.Z:: .int .i64 x.Coin.Sign.A:: .int .i64 x.Coin.Sign.B:: .int .i64 x.Coin.Sign.R::[])
attribute [go_sem] bU
def bL (x:av):V:= .agg (.int .i64 x.Bank:: .int .i64 x.U:: .int .i64 x.Key:: .int .i64 x.Next:: .sl none 46 true (x.Holdings.map bD):: .sl none 59 true (x.Open.map bU):: .int .u8 (gt x.Source.Seed 0):: .int .u8 (gt x.Source.Seed 1):: .int .u8 (gt x.Source.Seed 2):: .int .u8 (gt x.Source.Seed 3):: .int .u8 (gt x.Source.Seed 4):: .int .u8 (gt x.Source.Seed 5):: .int .u8 (gt x.Source.Seed 6):: .int .u8 (gt x.Source.Seed 7):: .int .u8 (gt x.Source.Seed 8):: .int .u8 (gt x.Source.Seed 9):: .int .u8 (gt x.Source.Seed 10):: .int .u8 (gt x.Source.Seed 11):: .int .u8 (gt x.Source.Seed 12):: .int .u8 (gt x.Source.Seed 13):: .int .u8 (gt x.Source.Seed 14):: .int .u8 (gt x.Source.Seed 15):: .int .u8 (gt x.Source.Seed 16):: .int .u8 (gt x.Source.Seed 17):: .int .u8 (gt x.Source.Seed 18):: .int .u8 (gt x.Source.Seed 19):: .int .u8 (gt x.Source.Seed 20):: .int .u8 (gt x.Source.Seed 21):: .int .u8 (gt x.Source.Seed 22):: .int .u8 (gt x.Source.Seed 23):: .int .u8 (gt x.Source.Seed 24):: .int .u8 (gt x.Source.Seed 25):: .int .u8 (gt x.Source.Seed 26):: .int .u8 (gt x.Source.Seed 27):: .int .u8 (gt x.Source.Seed 28):: .int .u8 (gt x.Source.Seed 29):: .int .u8 (gt x.Source.Seed 30):: .int .u8 (gt x.Source.Seed 31):: .int .i64 x.Source.Counter::[])
attribute [go_sem] bL
def ld (x:ff):V:= .agg [.int .i64 x.Bank,.int .i64 x.Epoch,.int .i64 x.Denom,.int .i64 x.Value,.int .i64 x.Depth,.int .i64 x.Key.H,.int .i64 x.Key.H1,.int .i64 x.Key.H2,.int .i64 x.From,.int .i64 x.Until,.int .i64 x.Final]
attribute [go_sem] ld
def aw (x:aa):V:= .agg [.int .i64 x.Kind,.int .i64 x.N,.sl none 1 false (x.B.map (V.int .u8)),.sl none 4 true (x.L.map aw)]
termination_by SizeOf.sizeOf x
decreasing_by
 rename_i y h
 have:=List.sizeOf_lt_of_mem h
 cases x
 simp at*
 omega
attribute [go_sem] aw
def sM (x:cj):V:= .agg [.int .i64 x.U,.int .i64 x.S,.sl none 2 true (x.X.map (fun l=> .agg [.int .i64 (gt l 0),.int .i64 (gt l 1)]))]
attribute [go_sem] sM
def wN (x:jU):V:= .agg [.int .i64 x.S,.int .i64 x.U,.int .i64 x.V]
attribute [go_sem] wN
def sN (x:jV):V:= .agg [.int .i64 x.M,.int .i64 x.Z,.int .i64 x.A,.int .i64 x.B,.int .i64 x.C,.int .i64 x.R]
attribute [go_sem] sN
def wO (x:k8):V:= .agg [.int .i64 x.Z,.int .i64 x.A,.int .i64 x.B,.int .i64 x.R]
attribute [go_sem] wO
def dJ (x:br):V:= .agg (.int .i64 x.Bank:: .int .i64 x.Epoch:: .int .i64 x.Denom:: .int .i64 x.Depth:: .int .i64 x.A:: .int .u8 (gt x.Root 0):: .int .u8 (gt x.Root 1):: .int .u8 (gt x.Root 2):: .int .u8 (gt x.Root 3):: .int .u8 (gt x.Root 4):: .int .u8 (gt x.Root 5):: .int .u8 (gt x.Root 6):: .int .u8 (gt x.Root 7):: .int .u8 (gt x.Root 8):: .int .u8 (gt x.Root 9):: .int .u8 (gt x.Root 10):: .int .u8 (gt x.Root 11):: .int .u8 (gt x.Root 12):: .int .u8 (gt x.Root 13):: .int .u8 (gt x.Root 14):: .int .u8 (gt x.Root 15):: .int .u8 (gt x.Root 16):: .int .u8 (gt x.Root 17):: .int .u8 (gt x.Root 18):: .int .u8 (gt x.Root 19):: .int .u8 (gt x.Root 20):: .int .u8 (gt x.Root 21):: .int .u8 (gt x.Root 22):: .int .u8 (gt x.Root 23):: .int .u8 (gt x.Root 24):: .int .u8 (gt x.Root 25):: .int .u8 (gt x.Root 26):: .int .u8 (gt x.Root 27):: .int .u8 (gt x.Root 28):: .int .u8 (gt x.Root 29):: .int .u8 (gt x.Root 30):: .int .u8 (gt x.Root 31):: .int .i64 x.Sign.Z:: .int .i64 x.Sign.A:: .int .i64 x.Sign.B:: .int .i64 x.Sign.R::[])
attribute [go_sem] dJ
def wP (x:jT):V:= .agg [.int .i64 x.Level,.int .i64 x.Index]
attribute [go_sem] wP
def wQ (x:iz):V:= .agg (.int .u8 (gt x.Payee 0):: .int .u8 (gt x.Payee 1):: .int .u8 (gt x.Payee 2):: .int .u8 (gt x.Payee 3):: .int .u8 (gt x.Payee 4):: .int .u8 (gt x.Payee 5):: .int .u8 (gt x.Payee 6):: .int .u8 (gt x.Payee 7):: .int .u8 (gt x.Payee 8):: .int .u8 (gt x.Payee 9):: .int .u8 (gt x.Payee 10):: .int .u8 (gt x.Payee 11):: .int .u8 (gt x.Payee 12):: .int .u8 (gt x.Payee 13):: .int .u8 (gt x.Payee 14):: .int .u8 (gt x.Payee 15):: .int .u8 (gt x.Payee 16):: .int .u8 (gt x.Payee 17):: .int .u8 (gt x.Payee 18):: .int .u8 (gt x.Payee 19):: .int .u8 (gt x.Payee 20):: .int .u8 (gt x.Payee 21):: .int .u8 (gt x.Payee 22):: .int .u8 (gt x.Payee 23):: .int .u8 (gt x.Payee 24):: .int .u8 (gt x.Payee 25):: .int .u8 (gt x.Payee 26):: .int .u8 (gt x.Payee 27):: .int .u8 (gt x.Payee 28):: .int .u8 (gt x.Payee 29):: .int .u8 (gt x.Payee 30):: .int .u8 (gt x.Payee 31):: .int .i64 x.Time:: .int .i64 x.Number::[])
attribute [go_sem] wQ
def wR (x:ga):V:= .agg [.int .i64 x.Index,.sl none 32 true (x.L.map bI)]
attribute [go_sem] wR
def wS:V:= .agg (.int .i64 0:: .int .i64 0:: .int .i64 0:: .int .i64 0:: .int .i64 0:: .int .u8 0:: .int .u8 0:: .int .u8 0:: .int .u8 0:: .int .u8 0:: .int .u8 0:: .int .u8 0:: .int .u8 0:: .int .u8 0:: .int .u8 0:: .int .u8 0:: .int .u8 0:: .int .u8 0:: .int .u8 0:: .int .u8 0:: .int .u8 0:: .int .u8 0:: .int .u8 0:: .int .u8 0:: .int .u8 0:: .int .u8 0:: .int .u8 0:: .int .u8 0:: .int .u8 0:: .int .u8 0:: .int .u8 0:: .int .u8 0:: .int .u8 0:: .int .u8 0:: .int .u8 0:: .int .u8 0:: .int .u8 0:: .int .i64 0:: .int .i64 0:: .int .i64 0:: .int .i64 0:: .int .i64 0:: .int .i64 0:: .int .u8 0:: .int .u8 0:: .int .u8 0:: .int .u8 0:: .int .u8 0:: .int .u8 0:: .int .u8 0:: .int .u8 0:: .int .u8 0:: .int .u8 0:: .int .u8 0:: .int .u8 0:: .int .u8 0:: .int .u8 0:: .int .u8 0:: .int .u8 0:: .int .u8 0:: .int .u8 0:: .int .u8 0:: .int .u8 0:: .int .u8 0:: .int .u8 0:: .int .u8 0:: .int .u8 0:: .int .u8 0:: .int .u8 0:: .int .u8 0:: .int .u8 0:: .int .u8 0:: .int .u8 0:: .int .u8 0:: .int .u8 0:: .int .i64 0:: .int .i64 0:: .sl (some true) 3 true []:: .int .i64 0:: .sl (some true) 32 true []::[])
attribute [go_sem] wS
def fg (a b:(List Int)):Bool:=((gt a 0)==(gt b 0)&&(gt a 1)==(gt b 1))
attribute [go_sem] fg
def eo (a b:(List Int)):Bool:=((gt a 0)==(gt b 0)&&((gt a 1)==(gt b 1)&&((gt a 2)==(gt b 2)&&((gt a 3)==(gt b 3)&&((gt a 4)==(gt b 4)&&((gt a 5)==(gt b 5)&&((gt a 6)==(gt b 6)&&((gt a 7)==(gt b 7)&&((gt a 8)==(gt b 8)&&((gt a 9)==(gt b 9)&&((gt a 10)==(gt b 10)&&((gt a 11)==(gt b 11)&&((gt a 12)==(gt b 12)&&((gt a 13)==(gt b 13)&&((gt a 14)==(gt b 14)&&((gt a 15)==(gt b 15)&&((gt a 16)==(gt b 16)&&((gt a 17)==(gt b 17)&&((gt a 18)==(gt b 18)&&((gt a 19)==(gt b 19)&&((gt a 20)==(gt b 20)&&((gt a 21)==(gt b 21)&&((gt a 22)==(gt b 22)&&((gt a 23)==(gt b 23)&&((gt a 24)==(gt b 24)&&((gt a 25)==(gt b 25)&&((gt a 26)==(gt b 26)&&((gt a 27)==(gt b 27)&&((gt a 28)==(gt b 28)&&((gt a 29)==(gt b 29)&&((gt a 30)==(gt b 30)&&(gt a 31)==(gt b 31))))))))))))))))))))))))))))))))
attribute [go_sem] eo
def dE (a b:br):Bool:=(a.Bank==b.Bank&&(a.Epoch==b.Epoch&&(a.Denom==b.Denom&&(a.Depth==b.Depth&&(a.A==b.A&&((gt a.Root 0)==(gt b.Root 0)&&((gt a.Root 1)==(gt b.Root 1)&&((gt a.Root 2)==(gt b.Root 2)&&((gt a.Root 3)==(gt b.Root 3)&&((gt a.Root 4)==(gt b.Root 4)&&((gt a.Root 5)==(gt b.Root 5)&&((gt a.Root 6)==(gt b.Root 6)&&((gt a.Root 7)==(gt b.Root 7)&&((gt a.Root 8)==(gt b.Root 8)&&((gt a.Root 9)==(gt b.Root 9)&&((gt a.Root 10)==(gt b.Root 10)&&((gt a.Root 11)==(gt b.Root 11)&&((gt a.Root 12)==(gt b.Root 12)&&((gt a.Root 13)==(gt b.Root 13)&&((gt a.Root 14)==(gt b.Root 14)&&((gt a.Root 15)==(gt b.Root 15)&&((gt a.Root 16)==(gt b.Root 16)&&((gt a.Root 17)==(gt b.Root 17)&&((gt a.Root 18)==(gt b.Root 18)&&((gt a.Root 19)==(gt b.Root 19)&&((gt a.Root 20)==(gt b.Root 20)&&((gt a.Root 21)==(gt b.Root 21)&&((gt a.Root 22)==(gt b.Root 22)&&((gt a.Root 23)==(gt b.Root 23)&&((gt a.Root 24)==(gt b.Root 24)&&((gt a.Root 25)==(gt b.Root 25)&&((gt a.Root 26)==(gt b.Root 26)&&((gt a.Root 27)==(gt b.Root 27)&&((gt a.Root 28)==(gt b.Root 28)&&((gt a.Root 29)==(gt b.Root 29)&&((gt a.Root 30)==(gt b.Root 30)&&((gt a.Root 31)==(gt b.Root 31)&&(a.Sign.Z==b.Sign.Z&&(a.Sign.A==b.Sign.A&&(a.Sign.B==b.Sign.B&&a.Sign.R==b.Sign.R))))))))))))))))))))))))))))))))))))))))
attribute [go_sem] dE
def lf (a b:jT):Bool:=(a.Level==b.Level&&a.Index==b.Index)
attribute [go_sem] lf
def lg (a b:iz):Bool:=((gt a.Payee 0)==(gt b.Payee 0)&&((gt a.Payee 1)==(gt b.Payee 1)&&((gt a.Payee 2)==(gt b.Payee 2)&&((gt a.Payee 3)==(gt b.Payee 3)&&((gt a.Payee 4)==(gt b.Payee 4)&&((gt a.Payee 5)==(gt b.Payee 5)&&((gt a.Payee 6)==(gt b.Payee 6)&&((gt a.Payee 7)==(gt b.Payee 7)&&((gt a.Payee 8)==(gt b.Payee 8)&&((gt a.Payee 9)==(gt b.Payee 9)&&((gt a.Payee 10)==(gt b.Payee 10)&&((gt a.Payee 11)==(gt b.Payee 11)&&((gt a.Payee 12)==(gt b.Payee 12)&&((gt a.Payee 13)==(gt b.Payee 13)&&((gt a.Payee 14)==(gt b.Payee 14)&&((gt a.Payee 15)==(gt b.Payee 15)&&((gt a.Payee 16)==(gt b.Payee 16)&&((gt a.Payee 17)==(gt b.Payee 17)&&((gt a.Payee 18)==(gt b.Payee 18)&&((gt a.Payee 19)==(gt b.Payee 19)&&((gt a.Payee 20)==(gt b.Payee 20)&&((gt a.Payee 21)==(gt b.Payee 21)&&((gt a.Payee 22)==(gt b.Payee 22)&&((gt a.Payee 23)==(gt b.Payee 23)&&((gt a.Payee 24)==(gt b.Payee 24)&&((gt a.Payee 25)==(gt b.Payee 25)&&((gt a.Payee 26)==(gt b.Payee 26)&&((gt a.Payee 27)==(gt b.Payee 27)&&((gt a.Payee 28)==(gt b.Payee 28)&&((gt a.Payee 29)==(gt b.Payee 29)&&((gt a.Payee 30)==(gt b.Payee 30)&&((gt a.Payee 31)==(gt b.Payee 31)&&(a.Time==b.Time&&a.Number==b.Number)))))))))))))))))))))))))))))))))
attribute [go_sem] lg
def lh (a b:bS):Bool:=(a.B==b.B&&(a.R1==b.R1&&a.R2==b.R2))
attribute [go_sem] lh
def sO (a b:jU):Bool:=(a.S==b.S&&(a.U==b.U&&a.V==b.V))
attribute [go_sem] sO
def sP (a b:jV):Bool:=(a.M==b.M&&(a.Z==b.Z&&(a.A==b.A&&(a.B==b.B&&(a.C==b.C&&a.R==b.R)))))
attribute [go_sem] sP
def li (a b:dD):Bool:=((gt a.Seed 0)==(gt b.Seed 0)&&((gt a.Seed 1)==(gt b.Seed 1)&&((gt a.Seed 2)==(gt b.Seed 2)&&((gt a.Seed 3)==(gt b.Seed 3)&&((gt a.Seed 4)==(gt b.Seed 4)&&((gt a.Seed 5)==(gt b.Seed 5)&&((gt a.Seed 6)==(gt b.Seed 6)&&((gt a.Seed 7)==(gt b.Seed 7)&&((gt a.Seed 8)==(gt b.Seed 8)&&((gt a.Seed 9)==(gt b.Seed 9)&&((gt a.Seed 10)==(gt b.Seed 10)&&((gt a.Seed 11)==(gt b.Seed 11)&&((gt a.Seed 12)==(gt b.Seed 12)&&((gt a.Seed 13)==(gt b.Seed 13)&&((gt a.Seed 14)==(gt b.Seed 14)&&((gt a.Seed 15)==(gt b.Seed 15)&&((gt a.Seed 16)==(gt b.Seed 16)&&((gt a.Seed 17)==(gt b.Seed 17)&&((gt a.Seed 18)==(gt b.Seed 18)&&((gt a.Seed 19)==(gt b.Seed 19)&&((gt a.Seed 20)==(gt b.Seed 20)&&((gt a.Seed 21)==(gt b.Seed 21)&&((gt a.Seed 22)==(gt b.Seed 22)&&((gt a.Seed 23)==(gt b.Seed 23)&&((gt a.Seed 24)==(gt b.Seed 24)&&((gt a.Seed 25)==(gt b.Seed 25)&&((gt a.Seed 26)==(gt b.Seed 26)&&((gt a.Seed 27)==(gt b.Seed 27)&&((gt a.Seed 28)==(gt b.Seed 28)&&((gt a.Seed 29)==(gt b.Seed 29)&&((gt a.Seed 30)==(gt b.Seed 30)&&((gt a.Seed 31)==(gt b.Seed 31)&&a.Counter==b.Counter))))))))))))))))))))))))))))))))
attribute [go_sem] li
def Be:V:= .agg (.int .i64 0:: .int .i64 0:: .int .i64 0:: .int .i64 0:: .int .i64 0:: .int .u8 0:: .int .u8 0:: .int .u8 0:: .int .u8 0:: .int .u8 0:: .int .u8 0:: .int .u8 0:: .int .u8 0:: .int .u8 0:: .int .u8 0:: .int .u8 0:: .int .u8 0:: .int .u8 0:: .int .u8 0:: .int .u8 0:: .int .u8 0:: .int .u8 0:: .int .u8 0:: .int .u8 0:: .int .u8 0:: .int .u8 0:: .int .u8 0:: .int .u8 0:: .int .u8 0:: .int .u8 0:: .int .u8 0:: .int .u8 0:: .int .u8 0:: .int .u8 0:: .int .u8 0:: .int .u8 0:: .int .u8 0:: .int .i64 0:: .int .i64 0:: .int .i64 0:: .int .i64 0:: .int .i64 0:: .int .i64 0:: .sl (some true) 2 true []:: .sl (some true) 1 false []:: .sl (some true) 80 true []::[])
attribute [go_sem] Be
def Bf:V:= .agg (.int .i64 0:: .int .i64 0:: .int .i64 0:: .int .i64 0:: .int .i64 0:: .int .i64 0:: .int .i64 0:: .int .i64 0:: .sl (some true) 2 true []:: .int .i64 0:: .int .i64 0:: .int .i64 0:: .int .i64 0:: .int .i64 0:: .int .i64 0:: .int .i64 0:: .int .i64 0:: .int .i64 0:: .int .i64 0:: .int .i64 0:: .int .i64 0:: .int .i64 0:: .int .i64 0:: .int .u8 0:: .int .u8 0:: .int .u8 0:: .int .u8 0:: .int .u8 0:: .int .u8 0:: .int .u8 0:: .int .u8 0:: .int .u8 0:: .int .u8 0:: .int .u8 0:: .int .u8 0:: .int .u8 0:: .int .u8 0:: .int .u8 0:: .int .u8 0:: .int .u8 0:: .int .u8 0:: .int .u8 0:: .int .u8 0:: .int .u8 0:: .int .u8 0:: .int .u8 0:: .int .u8 0:: .int .u8 0:: .int .u8 0:: .int .u8 0:: .int .u8 0:: .int .u8 0:: .int .u8 0:: .int .u8 0:: .int .u8 0:: .int .i64 0:: .int .i64 0:: .int .i64 0:: .int .i64 0::[])
attribute [go_sem] Bf
def pO (x:cy):V:= .agg [.sl none 1 false (x.Bytes.map (V.int .u8)),.int .i64 x.Durable,.int .i64 x.After]
attribute [go_sem] pO
end Go.Proofs.YtiknkaadhomeiaaGreatDoor
namespace Go.Proofs.YtiknkaadhomeiaaGreatDoor
open Go.RowKit
theorem Jh {C:Int→Bool} {n:Int} {F:(Int→Int)→Int→Int} (hF: ∀ag p,F ag p=if p<n then (if C p=true then p else ag (p+1)) else -1) {d:Int→Int}:
  ∀(fuel:Nat) (i:Int),0≤i→(n - i).toNat<fuel→(ah fuel F d i= -1∧ ∀j,i≤j→j<n→C j=false)∨(i≤ah fuel F d i∧ah fuel F d i<n∧C (ah fuel F d i)=true∧ ∀j,i≤j→j<ah fuel F d i→C j=false):=by
 intro fuel
 induction fuel with
 | zero=>intro i _ h;omega
 | succ k ih=>
  intro i h0 h
  rw [ah,hF]
  by_cases hi:i<n
  ·rw [if_pos hi]
   by_cases hc:C i=true
   ·rw [if_pos hc]
    exact .inr ⟨Int.le_refl _,hi,hc,fun j h1 h2=>by omega⟩
   ·rw [if_neg hc]
    have hc':C i=false:=by simpa using hc
    rcases ih (i+1) (by omega) (by omega) with ⟨h1,h2⟩|⟨h1,h2,h3,h4⟩
    ·refine .inl ⟨h1,fun j g1 g2=> ?_⟩
     by_cases e:j=i
     ·subst e;exact hc'
     ·exact h2 j (by omega) g2
    ·refine .inr ⟨by omega,h2,h3,fun j g1 g2=> ?_⟩
     by_cases e:j=i
     ·subst e;exact hc'
     ·exact h4 j (by omega) g2
  ·rw [if_neg hi]
   exact .inl ⟨rfl,fun j h1 h2=>by omega⟩
theorem aG {α β:Type} {a:α} {f:α→β}:ab a f=f a:=rfl
theorem oa {α β:Type} [Inhabited α] [Inhabited β] {l:List α} {f:α→β} {i:Int} (h:i.toNat<l.length):gt (l.map f) i=f (gt l i):=by
 simp [gt,List.getD_eq_getElem?_getD,h]
theorem cm {α:Type} [Inhabited α] {l:List α} {i:Int} (h:i.toNat<l.length):gt l i∈l:=by
 simp [gt,List.getD_eq_getElem?_getD,h]
theorem Ji {α β R:Type} [Inhabited α] {f:α→β} {E:Int×List β→R} {l:List α} {F:(Int×List β→R)→Int×List β→R} {d:Int×List β→R}
  (hF: ∀ag p,F ag p=if decide (p.1<(l.length:Int))=true then ag (p.1+1,p.2++[f (gt l p.1)]) else E p):
  ∀(fuel k:Nat) (a:List β),k≤l.length→l.length - k<fuel→ah fuel F d ((k:Int),a)=E ((l.length:Int),a++(l.drop k).map f):=by
 intro fuel
 induction fuel with
 | zero=>intro k a _ h;omega
 | succ n ih=>
  intro k a hl h
  rw [ah,hF]
  by_cases hk:k<l.length
  ·rw [if_pos (decide_eq_true (show (k:Int)<_ by omega))]
   have:=ih (k+1) (a++[f (gt l k)]) (by omega) (by omega)
   rw [show ((k+1:Nat):Int)=(k:Int)+1 by omega] at this
   have hg:gt l (k:Int)=l[k]:=by simp [gt,List.getD_eq_getElem?_getD,hk]
   show ah n F d ((k:Int)+1,a++[f (gt l (k:Int))])=_
   rw [this,List.drop_eq_getElem_cons hk,hg]
   simp only [List.map_cons,List.append_assoc,List.singleton_append]
  ·obtain rfl:k=l.length:=by omega
   rw [if_neg (by simp),List.drop_eq_nil_of_le (by omega)]
   simp
theorem sQ {α β R:Type} [Inhabited α] (f:α→β) {E:Int×List β→R} {l:List α} {F:(Int×List β→R)→Int×List β→R} {d:Int×List β→R}
  (hF: ∀ag p,F ag p=if decide (p.1<(l.length:Int))=true then ag (p.1+1,p.2++[f (gt l p.1)]) else E p):
  ah (((l.length:Int) - 0).toNat+1) F d (0,[])=E ((l.length:Int),l.map f):=by
 have:=Ji (d:=d) hF (((l.length:Int) - 0).toNat+1) 0 [] (by omega) (by omega)
 simpa using this
theorem sR {α:Type} [Inhabited α] {l:List α} {C:α→Bool} {F:(Int→Int)→Int→Int} {d:Int→Int}
  (hF: ∀ag p,F ag p=if decide (p<(l.length:Int))=true then (if C (gt l p)=true then p else ag (p+1)) else -1):
  decide (ah (((l.length:Int) - 0).toNat+1) F d 0≥0)=l.any C:=by
 have hg: ∀(j:Int),0≤j→j<l.length→gt l j∈l:=fun j h0 h1=>cm (by omega)
 rcases Jh (C:=fun p=>C (gt l p)) (n:=(l.length:Int)) (F:=F) (d:=d) (fun ag p=>by rw [hF];by_cases hp:p<(l.length:Int)<;>simp [hp]) (((l.length:Int) - 0).toNat+1) 0 (by omega) (by omega) with ⟨h1,h2⟩|⟨h1,h2,h3,_⟩
 ·rw [h1]
  symm
  rw [show decide ((-1:Int)≥0)=false by decide,List.any_eq_false]
  intro x hx
  obtain ⟨i,hi,rfl⟩:=List.mem_iff_getElem.1 hx
  have:=h2 (i:Int) (by omega) (by omega)
  simpa [gt,List.getD_eq_getElem?_getD,hi] using this
 ·rw [decide_eq_true h1]
  symm
  exact List.any_eq_true.2 ⟨_,hg _ h1 h2,h3⟩
theorem Bg {α R:Type} {P:α→Prop} {Q:R→Prop} {meas:α→Nat} {F:(α→R)→α→R} {d:α→R}
  (hs: ∀ag p,P p→(∀q,P q→meas q<meas p→Q (ag q))→Q (F ag p)): ∀(fuel:Nat) (p:α),P p→meas p<fuel→Q (ah fuel F d p):=by
 intro fuel
 induction fuel with
 | zero=>intro p _ h;omega
 | succ k ih=>
  intro p hp hm
  rw [ah]
  exact hs _ p hp fun q hq hlt=>ih q hq (by omega)
theorem Bh {C:Int→Bool} {n:Int} {X:Bool} {F:(Int→Bool)→Int→Bool} (hF: ∀ag p,F ag p=if decide (p<n)=true then (if C p=true then ag (p+1) else false) else X) {d:Int→Bool}:
  ∀(fuel:Nat) (i:Int),(n - i).toNat<fuel→(ah fuel F d i=true↔(∀j,i≤j→j<n→C j=true)∧X=true):=by
 intro fuel
 induction fuel with
 | zero=>intro i h;omega
 | succ k ih=>
  intro i h
  rw [ah,hF]
  by_cases hi:i<n
  ·rw [if_pos (decide_eq_true hi)]
   by_cases hc:C i=true
   ·rw [if_pos hc,ih (i+1) (by omega)]
    refine ⟨fun H=>⟨fun j h1 h2=> ?_,H.2⟩,fun H=>⟨fun j h1 h2=>H.1 j (by omega) h2,H.2⟩⟩
    by_cases e:j=i
    ·subst e;exact hc
    ·exact H.1 j (by omega) h2
   ·rw [if_neg hc]
    exact ⟨fun H=>Bool.noConfusion H,fun H=>absurd (H.1 i (Int.le_refl _) hi) hc⟩
  ·rw [if_neg (by simpa using hi)]
   exact ⟨fun H=>⟨fun j h1 h2=>by omega,H⟩,fun H=>H.2⟩
theorem Jj {α:Type} [Inhabited α] {l:List α} {c:α→Bool} {X:Bool} {F:(Int→Bool)→Int→Bool} {d:Int→Bool}
  (hF: ∀ag p,F ag p=if decide (p<(l.length:Int))=true then (if c (gt l p)=true then ag (p+1) else false) else X):
  ah (((l.length:Int) - 0).toNat+1) F d 0=(l.all c&&X):=by
 rw [Bool.eq_iff_iff,Bh (C:=fun p=>c (gt l p)) hF _ _ (by omega),Bool.and_eq_true,List.all_eq_true]
 refine and_congr_left fun _=>⟨fun h x hx=> ?_,fun h j h0 h1=>h _ (cm (by omega))⟩
 obtain ⟨i,hi,rfl⟩:=List.mem_iff_getElem.1 hx
 have:=h (i:Int) (by omega) (by omega)
 simpa [gt,List.getD_eq_getElem?_getD,hi] using this
def cP {α σ R:Type} (st:α→σ→σ⊕R) (E:σ→R):List α→σ→R
 | [],s=>E s
 | a::l,s=>match st a s with
  | .inl s'=>cP st E l s'
  | .inr r=>r
theorem Bi {α σ R:Type} [Inhabited α] {l:List α} {st:α→σ→σ⊕R} {E:σ→R} {F:(Int×σ→R)→Int×σ→R} {d:Int×σ→R}
  (hF: ∀ag i s,F ag (i,s)=if i<(l.length:Int) then (match st (gt l i) s with| .inl s'=>ag (i+1,s')| .inr r=>r) else E s):
  ∀(fuel k:Nat) (s:σ),k≤l.length→l.length - k<fuel→ah fuel F d ((k:Int),s)=cP st E (l.drop k) s:=by
 intro fuel
 induction fuel with
 | zero=>intro k s _ h;omega
 | succ n ih=>
  intro k s hl h
  rw [ah,hF]
  by_cases hk:k<l.length
  ·rw [if_pos (by omega),List.drop_eq_getElem_cons hk]
   have hg:gt l (k:Int)=l[k]:=by simp [gt,List.getD_eq_getElem?_getD,hk]
   rw [hg]
   simp only [cP]
   cases st l[k] s with
   | inl s'=>
    have:=ih (k+1) s' (by omega) (by omega)
    rw [show ((k+1:Nat):Int)=(k:Int)+1 by omega] at this
    exact this
   | inr r=>rfl
  ·obtain rfl:k=l.length:=by omega
   rw [if_neg (by simp),List.drop_eq_nil_of_le (by omega)];rfl
theorem jf {α σ R:Type} [Inhabited α] {l:List α} (st:α→σ→σ⊕R) (E:σ→R) {F:(Int×σ→R)→Int×σ→R} {d:Int×σ→R} {s:σ}
  (hF: ∀ag i s,F ag (i,s)=if i<(l.length:Int) then (match st (gt l i) s with| .inl s'=>ag (i+1,s')| .inr r=>r) else E s):
  ah (((l.length:Int) - 0).toNat+1) F d (0,s)=cP st E l s:=by
 have:=Bi (d:=d) hF (((l.length:Int) - 0).toNat+1) 0 s (by omega) (by omega)
 simpa using this
theorem Jk {α σ R:Type} [Inhabited α] {l:List α} {st:α→σ→σ⊕R} {E:σ→R} {F:(σ×Int→R)→σ×Int→R} {d:σ×Int→R}
  (hF: ∀ag i s,F ag (s,i)=if i<(l.length:Int) then (match st (gt l i) s with| .inl s'=>ag (s',i+1)| .inr r=>r) else E s):
  ∀(fuel k:Nat) (s:σ),k≤l.length→l.length - k<fuel→ah fuel F d (s,(k:Int))=cP st E (l.drop k) s:=by
 intro fuel
 induction fuel with
 | zero=>intro k s _ h;omega
 | succ n ih=>
  intro k s hl h
  rw [ah,hF]
  by_cases hk:k<l.length
  ·rw [if_pos (by omega),List.drop_eq_getElem_cons hk]
   have hg:gt l (k:Int)=l[k]:=by simp [gt,List.getD_eq_getElem?_getD,hk]
   rw [hg]
   simp only [cP]
   cases st l[k] s with
   | inl s'=>
    have:=ih (k+1) s' (by omega) (by omega)
    rw [show ((k+1:Nat):Int)=(k:Int)+1 by omega] at this
    exact this
   | inr r=>rfl
  ·obtain rfl:k=l.length:=by omega
   rw [if_neg (by simp),List.drop_eq_nil_of_le (by omega)];rfl
theorem Bj {α σ R:Type} [Inhabited α] {l:List α} (st:α→σ→σ⊕R) (E:σ→R) {F:(σ×Int→R)→σ×Int→R} {d:σ×Int→R} {s:σ}
  (hF: ∀ag i s,F ag (s,i)=if i<(l.length:Int) then (match st (gt l i) s with| .inl s'=>ag (s',i+1)| .inr r=>r) else E s):
  ah (((l.length:Int) - 0).toNat+1) F d (s,0)=cP st E l s:=by
 have:=Jk (d:=d) hF (((l.length:Int) - 0).toNat+1) 0 s (by omega) (by omega)
 simpa using this
theorem jY {α σ R:Type} {g:α→σ→σ} {E:σ→R}: ∀{l:List α} {s:σ},cP (fun a s=> .inl (g a s)) E l s=E (l.foldl (fun s a=>g a s) s)
 | [],_=>rfl
 | a::l,s=>by simp only [cP,List.foldl_cons];exact jY
theorem Bk {α:Type} [Inhabited α]: ∀{k:Nat} {i:Nat} {l:List α},l.length=i+k→eG l k i=l.drop i
 | 0,i,l,h=>by simp [eG,h]
 | k+1,i,l,h=>by
  have hi:i<l.length:=by omega
  rw [List.drop_eq_getElem_cons hi]
  simp only [eG]
  have:=Bk (k:=k) (i:=i+1) (l:=l) (by omega)
  rw [show ((i+1:Nat):Int)=(i:Int)+1 by omega] at this
  rw [this]
  simp [gt,List.getD_eq_getElem?_getD,hi]
theorem lj {α:Type} [Inhabited α] {l:List α} {n:Nat} (h:l.length=n):au n l=l:=by
 have:=Bk (k:=n) (i:=0) (l:=l) (by omega)
 simpa [au] using this
theorem Jl {f:Int→V} {n:Nat} {A l:List Int} (h:A.length=n):spl (A.map f) 0 (min n l.length) (l.map f)=(au n (spl A 0 (min n l.length) l)).map f:=by
 rw [Az,lj (by simp only [spl,List.length_append,List.length_take,List.length_drop];omega)]
theorem sS {α:Type} [Inhabited α] {l:List α}: ∀{k:Nat} {i j:Nat},j<k→(eG l k i).getD j default=gt l ((i+j:Nat):Int)
 | k+1,i,0,_=>by simp [eG]
 | k+1,i,j+1,h=>by
  have:=sS (l:=l) (k:=k) (i:=i+1) (j:=j) (by omega)
  simp only [eG,List.getD_cons_succ]
  rw [show ((i:Int)+1)=((i+1:Nat):Int) from rfl,this]
  congr 1;omega
theorem jg {α:Type} [Inhabited α] {f:α→V} {n:Nat} {l:List α} {i:Int} (h:0≤i∧i.toNat<n):((au n l).map f).getD (0+i.toNat*1) .un=f (gt l i):=by
 have h1:(au n l).length=n:=cq
 have h2:=sS (l:=l) (k:=n) (i:=0) (j:=i.toNat) h.2
 have h3:gt (au n l) i=gt l i:=by
  rw [show gt (au n l) i=(eG l n ((0:Nat):Int)).getD i.toNat default from rfl,h2]
  congr 1;omega
 rw [←h3]
 simp [gt,List.getD_eq_getElem?_getD,h1,h.2]
theorem Jm {α:Type} [Inhabited α] {f:α→V} {n:Nat} {l:List α} {i:Int} (h:0≤i∧i.toNat<n):((au n l).map f).getD (i.toNat*1) .un=f (gt l i):=by
 have:=jg (f:=f) (n:=n) (l:=l) (i:=i) h
 rwa [Nat.zero_add] at this
theorem pP {α:Type} [Inhabited α] {f:α→V} {l:List α} {n:Nat} {i:Int} (hl:l.length=n) (h:0≤i∧i.toNat<n):(l.map f).getD (i.toNat*1) .un=f (gt l i):=by
 subst hl
 simp [gt,List.getD_eq_getElem?_getD,h.2]
theorem mE {α:Type} [Inhabited α] {f:α→V} {n:Nat} {l:List α} {i:Int} {v:α} (hl:l.length=n) (h:0≤i∧i.toNat<n):(l.map f).take (0+i.toNat*1)++[f v]++(l.map f).drop (0+i.toNat*1+1)=(au n (st l i v)).map f:=by
 rw [lj (by rw [ja];exact hl)]
 unfold st
 rw [List.set_eq_take_append_cons_drop,if_pos (by omega)]
 simp [List.map_take,List.map_drop]
def mF {β:Type} (i:Nat):List (Nat×β)→List (Nat×β)
 | []=> []
 | (k,b)::l=>if k=i then mF i l else (k,b)::mF i l
attribute [go_sem] mF
theorem wT {β:Type} {i t:Nat} {b:β}: ∀{l:List (Nat×β)},al (mF i l) t=some b→t≠i∧al l t=some b
 | [],h=>by cases h
 | (k,x)::l,h=>by
  simp only [mF] at h
  split at h
  ·rename_i e
   obtain ⟨h1,h2⟩:=wT h
   exact ⟨h1,by simp only [al];rw [if_neg (by omega)];exact h2⟩
  ·rename_i e
   simp only [al] at h⊢
   split at h
   ·rename_i e2;exact ⟨by omega,by rw [if_pos e2];exact h⟩
   ·rename_i e2
    obtain ⟨h1,h2⟩:=wT h
    exact ⟨h1,by rw [if_neg e2];exact h2⟩
theorem Jn {E:Env} {S:St} (t i j:Nat) {T n:Nat} {g:Bool} {z:Option Bool} {l:List V} (h:al S.F t=some (.own j)) (h2:al S.H j=some (.own T n g z l)) (hi:i<S.nx) (hij:i≠j):
  co E S ⟨(t,.own i)::ni i S.F,(i,.own T n g z l)::mF j (l7 i S.H),S.nx⟩:=by
 intro c0 c ρ F hs
 obtain ⟨v,hv,hown,hge,hone,a,cap,es,hz⟩:=hs.1.heap _ _ h2
 have hro: ∀k,k≠i→dj ρ i v k=ρ k:=fun k hk=>i3 hk
 have hbi:am (dj ρ i v) i=am ρ j:=by unfold am;rw [dz,hv]
 have hbk: ∀k,k≠i→am (dj ρ i v) k=am ρ k:=fun k hk=>by unfold am;rw [hro k hk]
 have hold: ∀k b,i≠k→al (mF j (l7 i S.H)) k=some b→k≠j∧ ∃b0,al S.H k=some b0∧b=l6 i b0:=by
  intro k b hk hb
  obtain ⟨h3,h4⟩:=wT hb
  rw [rt] at h4
  cases h5:al S.H k with
  | none=>rw [h5] at h4;cases h4
  | some b0=>rw [h5] at h4;cases h4;exact ⟨h3,b0,rfl,rfl⟩
 refine ⟨c,dj ρ i v,rfl,⟨hs.1.since,hs.1.gl,fun t' x ht=> ?_,?_,?_⟩,fun k hk=> ?_⟩
 ·simp only [al] at ht
  split at ht
  ·rename_i e;subst e;cases ht
   have h3:=hs.1.slot _ _ h
   simp only [rd] at h3⊢
   rw [hv] at h3
   exact ⟨by rw [dz];exact h3.1,h3.2⟩
  ·rw [vr] at ht
   cases h5:al S.F t' with
   | none=>rw [h5] at ht;cases ht
   | some y=>rw [h5] at ht;cases ht;exact mf hro (hs.1.slot _ _ h5)
 ·intro k b hb
  simp only [al] at hb
  split at hb
  ·rename_i e;subst e;cases hb
   exact ⟨v,dz,hown,hge,hone,a,cap,es,hz⟩
  ·rename_i hk
   obtain ⟨_,b0,h6,rfl⟩:=hold k b hk hb
   exact zn hro (Ne.symm hk) (hs.1.heap _ _ h6)
 ·intro x y bx bb k hxy hx hy hpx hpy hbx
  simp only [al] at hx hy
  split at hx
  ·rename_i e;subst e
   rw [if_neg hxy] at hy
   obtain ⟨hyj,b0,h6,rfl⟩:=hold y bb hxy hy
   rw [nk] at hpy
   rw [hbk y (Ne.symm hxy)]
   rw [hbi] at hbx
   exact hs.1.sep j y _ b0 k (Ne.symm hyj) h2 h6 rfl hpy hbx
  ·rename_i hix
   obtain ⟨hxj,b0,h6,rfl⟩:=hold x bx hix hx
   rw [nk] at hpx
   rw [hbk x (Ne.symm hix)] at hbx
   split at hy
   ·rename_i e;subst e
    rw [hbi]
    exact hs.1.sep x j b0 _ k hxj h6 h2 hpx rfl hbx
   ·rename_i hiy
    obtain ⟨hyj,b1,h7,rfl⟩:=hold y bb hiy hy
    rw [nk] at hpy
    rw [hbk y (Ne.symm hiy)]
    exact hs.1.sep x y b0 b1 k hxy h6 h7 hpx hpy hbx
 ·have hk':S.nx≤k:=hk
  rw [hro k (by omega)];exact hs.2 k hk
theorem gc {b x:Bool}:(if (!b)=true then false else x)=(if b=true then x else false):=by cases b<;>rfl
end Go.Proofs.YtiknkaadhomeiaaGreatDoor
namespace Go.Proofs.YtiknkaadhomeiaaGreatDoor
open Go.RowKit
set_option linter.unusedVariables false
set_option linter.unusedSimpArgs false
def bk:Int→List Int→Int
 | a,[]=>a
 | a,x::l=>bk (256*a+x) l
def be:Nat→Int→List Int
 | 0,_=> []
 | k+1,n=>be k (n/256)++[n% 256]
def isB (l:List Int):Prop:= ∀x∈l,0≤x∧x≤255
theorem wU: ∀{l m:List Int} {a:Int},bk a (l++m)=bk (bk a l) m
 | [],m,a=>rfl
 | x::l,m,a=>wU (l:=l)
theorem fu: ∀{k:Nat} {n:Int},(be k n).length=k
 | 0,_=>rfl
 | k+1,n=>by simp [be,fu (k:=k)]
theorem sT: ∀{k:Nat} {n:Int},isB (be k n)
 | 0,_=>by simp [isB,be]
 | k+1,n=>by
  intro x hx
  simp only [be,List.mem_append,List.mem_singleton] at hx
  rcases hx with hx|rfl
  ·exact sT x hx
  ·omega
theorem wV (n m:Int) (h:0<m):n% (256*m)=256*(n/256% m)+n% 256:=by
 have h1:=Int.mul_ediv_add_emod n 256
 have h2:=Int.mul_ediv_add_emod (n/256) m
 have h3:=Int.emod_nonneg (n/256) (show m≠0 by omega)
 have h4:=Int.emod_lt_of_pos (n/256) h
 generalize n/256% m=s at*
 generalize hq:n/256/m=t at*
 have e:n=(256*s+n% 256)+256*m*t:=by
  have:256*m*t=256*(m*t):=by rw [Int.mul_assoc]
  omega
 have e2:n% (256*m)=(256*s+n% 256)% (256*m):=by
  conv=>lhs;rw [e]
  rw [Int.add_mul_emod_self_left]
 rw [e2]
 exact Int.emod_eq_of_lt (by omega) (by omega)
theorem wW: ∀{k:Nat} {n:Int},bk 0 (be k n)=n% 256^k
 | 0,n=>by simp [be,bk]
 | k+1,n=>by
  simp only [be,wU,wW (k:=k),bk]
  have hp:(0:Int)<256^k:=Int.pow_pos (by omega)
  rw [show (256:Int)^(k+1)=256*256^k by rw [Int.pow_succ,Int.mul_comm],wV _ _ hp]
theorem Bl: ∀{l:List Int},isB l→ ∀{a m:Int},0≤a→a<m→0≤bk a l∧bk a l<m*256^l.length
 | [],_,a,m,h0,h1=>by simpa [bk] using ⟨h0,h1⟩
 | x::l,h,a,m,h0,h1=>by
  have hx:=h x (by simp)
  have h2:=Bl (l:=l) (fun y hy=>h y (by simp [hy])) (a:=256*a+x) (m:=m*256) (by omega) (by omega)
  simp only [bk,List.length_cons]
  rw [Int.pow_succ,Int.mul_comm (256^l.length),←Int.mul_assoc]
  exact h2
theorem pQ {l:List Int} (h:isB l):0≤bk 0 l∧bk 0 l<256^l.length:=by
 have:=Bl h (a:=0) (m:=1) (by omega) (by omega)
 simpa using this
theorem Jo: ∀{k:Nat} {n x:Int},0≤x→x≤255→be (k+1) (256*n+x)=be k n++[x]:=by
 intro k n x h0 h1
 simp only [be]
 rw [show (256*n+x)/256=n by omega,show (256*n+x)% 256=x by omega]
theorem Jp: ∀(k:Nat) (l:List Int),l.length=k→isB l→be l.length (bk 0 l)=l:=by
 intro k
 induction k with
 | zero=>intro l hl _;rw [List.length_eq_zero_iff.1 hl];rfl
 | succ k ih=>
  intro l hl h
  have hne:l≠[]:=by intro e;simp [e] at hl
  obtain ⟨m,x,rfl⟩: ∃m x,l=m++[x]:=⟨l.dropLast,l.getLast hne,(List.dropLast_concat_getLast hne).symm⟩
  simp at hl
  have hx:=h x (by simp)
  rw [wU]
  simp only [List.length_append,List.length_singleton,bk]
  rw [Jo hx.1 hx.2,ih m hl (fun y hy=>h y (by simp [hy]))]
theorem Jq {l:List Int} (h:isB l):be l.length (bk 0 l)=l:=Jp _ l rfl h
def toI (u:Int):Int:=if u≥9223372036854775808 then u - 18446744073709551616 else u
theorem sU: ∀{k:Nat} {n m:Int},n% 256^k=m% 256^k→be k n=be k m
 | 0,_,_,_=>rfl
 | k+1,n,m,h=>by
  have hp:(0:Int)<256^k:=Int.pow_pos (by omega)
  rw [show (256:Int)^(k+1)=256*256^k by rw [Int.pow_succ,Int.mul_comm],wV _ _ hp,wV _ _ hp] at h
  have h1:=Int.emod_nonneg (n/256) (show (256:Int)^k≠0 by omega)
  have h2:=Int.emod_nonneg (m/256) (show (256:Int)^k≠0 by omega)
  simp only [be]
  rw [show n% 256=m% 256 by omega,sU (k:=k) (show n/256% 256^k=m/256% 256^k by omega)]
mutual
def hgt:aa→Nat
 | ⟨_,_,b,l⟩=>1+b.length+bC l
def bC:List aa→Nat
 | []=>0
 | x::l=>hgt x+bC l
end
theorem Bm: ∀{l:List aa} {x:aa},x∈l→hgt x≤bC l
 | y::l,x,h=>by
  simp only [bC]
  rcases List.mem_cons.1 h with rfl|h
  ·omega
  ·have:=Bm h;omega
theorem oc (i:aa):hgt i=1+i.B.length+bC i.L:=by cases i;rfl
theorem gd {i x:aa} (h:x∈i.L):hgt x<hgt i:=by
 have:=Bm h
 rw [oc i];omega
mutual
def aQ:aa→Int→Bool
 | ⟨k,n,b,l⟩,d=>if k==1 then b.isEmpty&&l.isEmpty else if k==2 then n==0&&l.isEmpty else if k==3 then n==0&&(b.isEmpty&&(decide (0<d)&&(decide (l.length≤1000)&&eK l (d - 1)))) else false
def eK:List aa→Int→Bool
 | [],_=>true
 | x::l,d=>aQ x d&&eK l d
end
theorem pR: ∀{l:List aa} {d:Int},eK l d=l.all (fun x=>aQ x d)
 | [],_=>rfl
 | x::l,d=>by simp only [eK,List.all_cons,pR (l:=l)]
mutual
def bz:aa→List Int
 | ⟨k,n,b,l⟩=>if k==1 then 1::be 8 n else if k==2 then 2::(be 4 b.length++b) else 3::(be 4 l.length++ep l)
def ep:List aa→List Int
 | []=> []
 | x::l=>bz x++ep l
end
mutual
def okI:aa→Prop
 | ⟨_,n,b,l⟩=>(-9223372036854775808≤n∧n≤9223372036854775807)∧isB b∧b.length<4294967296∧okL l
def okL:List aa→Prop
 | []=>True
 | x::l=>okI x∧okL l
end
def rdL (f:List Int→Except Int (aa×List Int)):Nat→List Int→Except Int (List aa×List Int)
 | 0,b=> .ok ([],b)
 | n+1,b=>match f b with
  | .error e=> .error e
  | .ok (i,r)=>match rdL f n r with
   | .error e=> .error e
   | .ok (l,r2)=> .ok (i::l,r2)
def rdG (f:Option (List Int→Except Int (aa×List Int))):List Int→Except Int (aa×List Int)
 | []=> .error 4
 | k::b=>if k==1 then (if b.length<8 then .error 4 else .ok (⟨1,toI (bk 0 (b.take 8)),[],[]⟩,b.drop 8))
  else if k==2 then (if b.length<4 then .error 4 else
   if ((b.drop 4).length:Int)<bk 0 (b.take 4) then .error 4 else .ok (⟨2,0,(b.drop 4).take (bk 0 (b.take 4)).toNat,[]⟩,(b.drop 4).drop (bk 0 (b.take 4)).toNat))
  else if k==3 then (match f with
   | none=> .error 3
   | some f=>if b.length<4 then .error 4 else if bk 0 (b.take 4)>1000 then .error 3 else
    match rdL f (bk 0 (b.take 4)).toNat (b.drop 4) with
    | .error e=> .error e
    | .ok (l,r)=> .ok (⟨3,0,[],l⟩,r))
  else .error 3
def rdI:Nat→List Int→Except Int (aa×List Int)
 | 0=>rdG none
 | d+1=>rdG (some (rdI d))
theorem Bn {n:Int} (h: -9223372036854775808≤n∧n≤9223372036854775807):toI (bk 0 (be 8 n))=n:=by
 rw [wW];unfold toI
 have:(256:Int)^8=18446744073709551616:=by decide
 rw [this];split<;>omega
theorem wX {n:Nat} (h:n<4294967296):bk 0 (be 4 n)=n:=by
 rw [wW]
 have:(256:Int)^4=4294967296:=by decide
 rw [this];omega
theorem pS {k:Nat} {n:Int} {r:List Int}:(be k n++r).take k=be k n:=by
 rw [List.take_append_of_le_length (by rw [fu];omega),List.take_of_length_le (by rw [fu];omega)]
theorem pT {k:Nat} {n:Int} {r:List Int}:(be k n++r).drop k=r:=by
 rw [List.drop_append_of_le_length (by rw [fu];omega),List.drop_eq_nil_of_le (by rw [fu];omega)];rfl
theorem Bo {d:Nat} (ih: ∀(i:aa) (r:List Int),aQ i d=true→okI i→rdI d (bz i++r)= .ok (i,r)):
  ∀(l:List aa) (r:List Int),eK l d=true→okL l→rdL (rdI d) l.length (ep l++r)= .ok (l,r)
 | [],r,_,_=>rfl
 | x::l,r,h,h2=>by
  simp only [eK,Bool.and_eq_true] at h
  simp only [okL] at h2
  simp only [List.length_cons,rdL,ep,List.append_assoc,ih x _ h.1 h2.1,Bo ih l r h.2 h2.2]
theorem Jr: ∀(d:Nat) (i:aa) (r:List Int),aQ i d=true→okI i→rdI d (bz i++r)= .ok (i,r):=by
 intro d
 induction d with
 | zero=>
  rintro ⟨k,n,b,l⟩ r h ⟨h1,h2,h3,h4⟩
  simp only [aQ] at h
  simp only [rdI]
  by_cases e1:k=1
  ·subst e1
   simp at h
   obtain ⟨rfl,rfl⟩:=h
   simp [bz,rdG,fu,pS,pT,Bn h1]
  by_cases e2:k=2
  ·subst e2
   simp at h
   obtain ⟨rfl,rfl⟩:=h
   simp [bz,rdG,fu,pS,pT,wX h3];rw [if_neg (by omega),if_neg (by omega)]
  by_cases e3:k=3
  ·subst e3;simp at h
  ·simp [e1,e2,e3] at h
 | succ d ih=>
  rintro ⟨k,n,b,l⟩ r h ⟨h1,h2,h3,h4⟩
  simp only [aQ] at h
  simp only [rdI]
  by_cases e1:k=1
  ·subst e1
   simp at h
   obtain ⟨rfl,rfl⟩:=h
   simp [bz,rdG,fu,pS,pT,Bn h1]
  by_cases e2:k=2
  ·subst e2
   simp at h
   obtain ⟨rfl,rfl⟩:=h
   simp [bz,rdG,fu,pS,pT,wX h3];rw [if_neg (by omega),if_neg (by omega)]
  by_cases e3:k=3
  ·subst e3
   simp at h
   obtain ⟨rfl,rfl,hl,hw⟩:=h
   have hw':eK l d=true:=by
    exact hw
   have hv:bk 0 (be 4 (l.length:Int))=l.length:=wX (by omega)
   have:=Bo (d:=d) ih l r hw' h4
   simp [bz,rdG,fu,pS,pT,hv,this];rw [if_neg (by omega),if_neg (by omega)]
  ·simp [e1,e2,e3] at h
theorem Bp {d:Nat} (ih: ∀(b:List Int) (i:aa) (r:List Int),isB b→rdI d b= .ok (i,r)→b=bz i++r∧aQ i d=true∧okI i):
  ∀(n:Nat) (b:List Int) (l:List aa) (r:List Int),isB b→rdL (rdI d) n b= .ok (l,r)→b=ep l++r∧eK l d=true∧okL l∧l.length=n
 | 0,b,l,r,hb,h=>by
  simp only [rdL] at h
  cases h
  exact ⟨rfl,rfl,trivial,rfl⟩
 | n+1,b,l,r,hb,h=>by
  simp only [rdL] at h
  split at h
  ·cases h
  ·rename_i i r1 h1
   split at h
   ·cases h
   ·rename_i l2 r2 h2
    cases h
    obtain ⟨e,hw,ho⟩:=ih _ _ _ hb h1
    have hb1:isB r1:=fun x hx=>hb x (by rw [e];simp [hx])
    obtain ⟨e2,hw2,ho2,hl⟩:=Bp ih n r1 l2 r hb1 h2
    refine ⟨?_,?_,⟨ho,ho2⟩,by simp [hl]⟩
    ·rw [e,e2];simp [ep]
    ·simp [eK,hw,hw2]
theorem wY {k:Nat} {b:List Int} (h:k≤b.length) (hb:isB b):b=be k (bk 0 (b.take k))++b.drop k:=by
 have h1:isB (b.take k):=fun x hx=>hb x (List.mem_of_mem_take hx)
 have h2:=Jq h1
 rw [List.length_take,Nat.min_eq_left h] at h2
 rw [h2,List.take_append_drop]
theorem pU {k:Nat} {b:List Int} (h:k≤b.length) (hb:isB b):0≤bk 0 (b.take k)∧bk 0 (b.take k)<256^k:=by
 have h1:isB (b.take k):=fun x hx=>hb x (List.mem_of_mem_take hx)
 have:=pQ h1
 rwa [List.length_take,Nat.min_eq_left h] at this
theorem Js {u:Int} (h0:0≤u) (h1:u<256^8):be 8 (toI u)=be 8 u:=by
 apply sU
 have:(256:Int)^8=18446744073709551616:=by decide
 rw [this] at*
 unfold toI;split<;>omega
theorem Bq {f:Option (List Int→Except Int (aa×List Int))} {d:Int} {k:Int} {b:List Int} {i:aa} {r:List Int} (hk:k=1∨k=2) (hb:isB (k::b)) (h:rdG f (k::b)= .ok (i,r)):k::b=bz i++r∧aQ i d=true∧okI i:=by
 have hb':isB b:=fun x hx=>hb x (by simp [hx])
 rcases hk with rfl|rfl
 ·simp [rdG] at h
  split at h
  ·cases h
  ·rename_i hl
   cases h
   have hv:=pU (k:=8) (by omega) hb'
   refine ⟨?_,?_,?_,?_⟩
   ·simp only [bz];simp
    rw [Js hv.1 hv.2];exact wY (by omega) hb'
   ·simp [aQ]
   ·have:(256:Int)^8=18446744073709551616:=by decide
    rw [this] at hv
    unfold toI;split<;>omega
   ·exact ⟨by simp [isB],by simp,trivial⟩
 ·simp [rdG] at h
  split at h
  ·cases h
  ·rename_i hl
   split at h
   ·cases h
   ·rename_i hn
    cases h
    have hv:=pU (k:=4) (by omega) hb'
    have h4:(256:Int)^4=4294967296:=by decide
    rw [h4] at hv
    have hlen:((b.drop 4).take (bk 0 (b.take 4)).toNat).length=(bk 0 (b.take 4)).toNat:=by
     rw [List.length_take];simp;omega
    have e2:((bk 0 (b.take 4)).toNat:Int)=bk 0 (b.take 4):=by omega
    refine ⟨?_,?_,?_,?_,?_,trivial⟩
    ·simp only [bz];simp only [hlen,e2];simp
     have:=wY (k:=4) (b:=b) (by omega) hb'
     conv=>lhs;rw [this]
     have e3:List.drop (4+(bk 0 (b.take 4)).toNat) b=List.drop (bk 0 (b.take 4)).toNat (b.drop 4):=by rw [List.drop_drop]
     rw [e3,List.take_append_drop]
    ·simp [aQ]
    ·omega
    ·intro x hx;exact hb' x (List.mem_of_mem_drop (List.mem_of_mem_take hx))
    ·rw [hlen];omega
theorem sV: ∀(d:Nat) (b:List Int) (i:aa) (r:List Int),isB b→rdI d b= .ok (i,r)→b=bz i++r∧aQ i d=true∧okI i:=by
 intro d
 induction d with
 | zero=>
  intro b i r hb h
  cases b with
  | nil=>simp [rdI,rdG] at h
  | cons k b=>
   by_cases e:k=1∨k=2
   ·exact Bq e hb h
   ·simp [rdI,rdG] at h
    split at h<;>simp_all
 | succ d ih=>
  intro b i r hb h
  cases b with
  | nil=>simp [rdI,rdG] at h
  | cons k b=>
   by_cases e:k=1∨k=2
   ·exact Bq e hb h
   by_cases e3:k=3
   ·subst e3
    have hb':isB b:=fun x hx=>hb x (by simp [hx])
    simp [rdI,rdG] at h
    split at h
    ·cases h
    split at h
    ·cases h
    rename_i hl hn
    split at h
    ·cases h
    rename_i l r2 h2
    cases h
    have hbd:isB (b.drop 4):=fun x hx=>hb' x (List.mem_of_mem_drop hx)
    obtain ⟨g1,g2,g3,g4⟩:=Bp ih _ _ _ _ hbd h2
    have hv:=pU (k:=4) (by omega) hb'
    have e2:(l.length:Int)=bk 0 (b.take 4):=by omega
    refine ⟨?_,?_,?_,?_,?_,g3⟩
    ·simp only [bz,e2];simp
     rw [←g1];exact wY (by omega) hb'
    ·have:((d:Int)+1 - 1)=d:=by omega
     simp [aQ,this,g2];omega
    ·omega
    ·simp [isB]
    ·simp
   ·simp [rdI,rdG] at h
    split at h<;>simp_all
def er (r:aD) (e:Int):aD:=if r.e==0 then {b:=r.b,e:=e} else r
def et (r:aD) (n:Int):List Int×aD:=
 if r.e≠0∨n>r.b.length then ([],er r 4) else (r.b.take n.toNat,{b:=r.b.drop n.toNat,e:=r.e})
def Br (l:List Int):Int:=l.foldl (fun a x=>orI .u64 (ao .u64 a 8) (ae .u64 x)) 0
def dK (r:aD) (n:Int):Int×aD:=(Br (et r n).1,(et r n).2)
theorem wrap_u64 {a:Int} (h0:0≤a) (h1:a<18446744073709551616):IntKind.wrap .u64 a=a:=by
 simp only [IntKind.wrap,IntKind.bits,IntKind.signed];simp;omega
theorem Jt {a:Int} (h0:0≤a) (h1:a<18446744073709551616):ae .i64 a=toI a:=by
 unfold ae toI;rw [IntKind.wrap_i64];split<;>omega
theorem Ju {a x:Int} (h0:0≤a) (h1:a<72057594037927936) (h2:0≤x) (h3:x≤255):orI .u64 (ao .u64 a 8) (ae .u64 x)=256*a+x:=by
 obtain ⟨n,rfl⟩: ∃n:Nat,a=n:=⟨a.toNat,by omega⟩
 obtain ⟨m,rfl⟩: ∃m:Nat,x=m:=⟨x.toNat,by omega⟩
 have e1:ao .u64 (n:Int) 8=((n*256:Nat):Int):=by
  unfold ao
  rw [show (2:Int)^min (8:Int).toNat (IntKind.bits .u64)=256 by decide,wrap_u64 (by omega) (by omega)];omega
 have e2:ae .u64 (m:Int)=m:=wrap_u64 (by omega) (by omega)
 rw [e1,e2]
 unfold orI
 have e3: ∀k:Nat,k<18446744073709551616→(BitVec.ofInt (IntKind.bits .u64) (k:Int)).toNat=k:=by
  intro k hk
  rw [BitVec.toNat_ofInt]
  have:(((2^IntKind.bits .u64:Nat)):Int)=18446744073709551616:=rfl
  rw [this];omega
 have e4:((BitVec.ofInt (IntKind.bits .u64) ((n*256:Nat):Int))|||(BitVec.ofInt (IntKind.bits .u64) ((m:Nat):Int))).toNat=256*n+m:=by
  rw [BitVec.toNat_or,e3 _ (by omega),e3 _ (by omega)]
  have:=Nat.shiftLeft_add_eq_or_of_lt (i:=8) (b:=m) (by show m<256;omega) n
  rw [Nat.shiftLeft_eq,show (2:Nat)^8=256 from rfl] at this
  rw [←this,Nat.mul_comm]
 rw [e4,wrap_u64 (by omega) (by omega)];omega
theorem Bs: ∀{l:List Int},isB l→ ∀{a:Int} {k:Nat},0≤a→a<256^k→k+l.length≤8→l.foldl (fun a x=>orI .u64 (ao .u64 a 8) (ae .u64 x)) a=bk a l
 | [],_,a,k,_,_,_=>rfl
 | x::l,h,a,k,h0,h1,h2=>by
  have hx:=h x (by simp)
  simp only [List.length_cons] at h2
  have h3:(256:Int)^k≤256^7:=(by decide: ∀k,k<8→(256:Int)^k≤256^7) k (by omega)
  have h4:(256:Int)^7=72057594037927936:=by decide
  simp only [List.foldl_cons,bk]
  rw [Ju h0 (by omega) hx.1 hx.2]
  exact Bs (k:=k+1) (fun y hy=>h y (by simp [hy])) (by omega) (by rw [Int.pow_succ];omega) (by omega)
theorem Bt {l:List Int} (h:isB l) (hl:l.length≤8):Br l=bk 0 l:=Bs h (k:=0) (by omega) (by decide) (by omega)
def fh (f:aD→aa×aD):Nat→List aa→aD→List aa×aD
 | 0,l,r=>(l,r)
 | n+1,l,r=>if r.e≠0 then (l,r) else fh f n (l++[(f r).1]) (f r).2
def jZ (f:Option (aD→aa×aD)) (r:aD):aa×aD:=
 let a:=dK r 1
 if ae .i64 a.1<1∨ae .i64 a.1>3∨(ae .i64 a.1=3∧f.isNone=true) then (bT,er a.2 3)
 else if ae .i64 a.1=1 then (⟨ae .i64 a.1,ae .i64 (dK a.2 8).1,[],[]⟩,(dK a.2 8).2)
 else if ae .i64 a.1=2 then (⟨ae .i64 a.1,0,(et (dK a.2 4).2 (ae .i64 (dK a.2 4).1)).1,[]⟩,(et (dK a.2 4).2 (ae .i64 (dK a.2 4).1)).2)
 else match f with
  | none=>default
  | some f=>
   let b:=dK a.2 4
   let x:=fh f (ae .i64 b.1).toNat [] (if ae .i64 b.1>1000 then er b.2 3 else b.2)
   (⟨ae .i64 a.1,0,[],x.1⟩,x.2)
def fv:Nat→aD→aa×aD
 | 0=>jZ none
 | d+1=>jZ (some (fv d))
def cQ (r:aD) (depth:Int):aa×aD:=fv depth.toNat r
theorem wZ {f:aD→aa×aD} {n:Nat} {l:List aa} {r:aD} (h:r.e≠0):fh f n l r=(l,r):=by
 cases n with
 | zero=>rfl
 | succ n=>simp only [fh];rw [if_pos h]
theorem Bu {b:List Int} {n:Int} (h:n≤b.length):et ⟨b,0⟩ n=(b.take n.toNat,⟨b.drop n.toNat,0⟩):=by
 unfold et;rw [if_neg];simp;omega
theorem Bv {b:List Int} {n:Int} (h:b.length<n):et ⟨b,0⟩ n=([],⟨b,4⟩):=by
 unfold et;rw [if_pos]
 ·simp [er]
 ·simp;omega
theorem Jv {r:aD} {n:Int} (h:r.e≠0):et r n=([],r):=by
 unfold et;rw [if_pos (.inl h)];simp [er,h]
theorem od {b:List Int} (h:isB b) (n:Nat):isB (b.take n):=fun x hx=>h x (List.mem_of_mem_take hx)
theorem w5 {b:List Int} (h:isB b) (n:Nat):isB (b.drop n):=fun x hx=>h x (List.mem_of_mem_drop hx)
theorem sW {b:List Int} {n:Int} (hb:isB b) (h:n≤b.length) (h8:n≤8):dK ⟨b,0⟩ n=(bk 0 (b.take n.toNat),⟨b.drop n.toNat,0⟩):=by
 unfold dK;rw [Bu h];simp only
 rw [Bt (od hb _) (by simp;omega)]
theorem sX {b:List Int} {n:Int} (h:b.length<n):dK ⟨b,0⟩ n=(0,⟨b,4⟩):=by unfold dK;rw [Bv h];rfl
theorem Bw:ae .i64 0=0:=kV (by decide) (by decide)
theorem sY {b:List Int} (hb:isB b) (h:4≤b.length):ae .i64 (bk 0 (b.take 4))=bk 0 (b.take 4):=by
 have hv:=pU h hb
 have h4:(256:Int)^4=4294967296:=by decide
 exact kV (by omega) (by omega)
theorem Bx {b:List Int} (hb:isB b) (h:8≤b.length):ae .i64 (bk 0 (b.take 8))=toI (bk 0 (b.take 8)):=by
 have hv:=pU h hb
 have h8:(256:Int)^8=18446744073709551616:=by decide
 exact Jt hv.1 (by omega)
def dL (x:aa×aD):Except Int (aa×List Int)→Prop
 | .ok (i,r)=>x=(i,⟨r,0⟩)
 | .error e=>x.2.e=e∧e≠0
theorem Bz {f:aD→aa×aD} {g:List Int→Except Int (aa×List Int)} (ih: ∀b,isB b→dL (f ⟨b,0⟩) (g b)) (hg: ∀b i r,isB b→g b= .ok (i,r)→isB r):
  ∀(n:Nat) (b:List Int) (l:List aa),isB b→match rdL g n b with
   | .ok (l2,r)=>fh f n l ⟨b,0⟩=(l++l2,⟨r,0⟩)
   | .error e=>(fh f n l ⟨b,0⟩).2.e=e∧e≠0
 | 0,b,l,_=>by simp [rdL,fh]
 | n+1,b,l,hb=>by
  have h:=ih b hb
  simp only [rdL,fh]
  rw [if_neg (by simp)]
  cases hgb:g b with
  | error e=>
   rw [hgb] at h
   simp only [dL] at h
   simp only
   rw [wZ (by rw [h.1];exact h.2)]
   exact h
  | ok p=>
   obtain ⟨i,r⟩:=p
   rw [hgb] at h
   simp only [dL] at h
   rw [h]
   have h2:=Bz ih hg n r (l++[i]) (hg b i r hb hgb)
   simp only
   cases hl:rdL g n r with
   | error e=>rw [hl] at h2;exact h2
   | ok p=>obtain ⟨l2,r2⟩:=p;rw [hl] at h2;simpa using h2
theorem BA {f:Option (aD→aa×aD)} {g:Option (List Int→Except Int (aa×List Int))}
  (ih:match f,g with|none,none=>True|some f,some g=>(∀b,isB b→dL (f ⟨b,0⟩) (g b))∧(∀b i r,isB b→g b= .ok (i,r)→isB r)|_,_=>False) (b:List Int) (hb:isB b):dL (jZ f ⟨b,0⟩) (rdG g b):=by
 cases b with
 | nil=>
  have h1:dK ⟨[],0⟩ 1=(0,⟨[],4⟩):=sX (by simp)
  simp [rdG,jZ,h1,er,dL,Bw]
 | cons k b=>
  have hk:=hb k (by simp)
  have hb':isB b:=fun x hx=>hb x (by simp [hx])
  have h1:dK ⟨k::b,0⟩ 1=(k,⟨b,0⟩):=by rw [sW hb (by simp;omega) (by omega)];simp [bk]
  have hc:ae .i64 k=k:=kV (by omega) (by omega)
  simp only [jZ,h1,rdG,hc]
  by_cases e1:k=1
  ·subst e1
   simp only [Int.reduceLT,false_or,Int.reduceEq,false_and,or_self,if_false,if_true,gt_iff_lt,beq_self_eq_true]
   by_cases hl:b.length<8
   ·rw [if_pos hl,sX (by omega)];simp [dL]
   ·rw [if_neg hl,sW hb' (by omega) (by omega)]
    have:=Bx hb' (by omega)
    simp [dL,this]
  by_cases e2:k=2
  ·subst e2
   simp only [Int.reduceLT,false_or,Int.reduceEq,false_and,or_self,if_false,if_true,gt_iff_lt,beq_self_eq_true]
   rw [if_neg (by simp)]
   by_cases hl:b.length<4
   ·rw [if_pos hl,sX (by omega)]
    simp only []
    rw [Jv (by simp)]
    simp [dL]
   ·rw [if_neg hl,sW hb' (by omega) (by omega)]
    simp only [Int.reduceToNat]
    rw [sY hb' (by omega)]
    by_cases hn:((b.drop 4).length:Int)<bk 0 (b.take 4)
    ·rw [if_pos hn,Bv (by omega)];simp [dL]
    ·rw [if_neg hn,Bu (by omega)];simp [dL]
  by_cases e3:k=3
  ·subst e3
   cases f with
   | none=>cases g with
    | none=>simp [dL,er]
    | some g=>cases ih
   | some f=>cases g with
    | none=>cases ih
    | some g=>
     simp at ih
     simp
     by_cases hl:b.length<4
     ·rw [if_pos hl,sX (by omega)]
      simp only [Bw]
      rw [if_neg (by omega)]
      simp [fh,dL]
     ·rw [if_neg hl,sW hb' (by omega) (by omega)]
      simp only [Int.reduceToNat]
      rw [sY hb' (by omega)]
      by_cases hn:1000<bk 0 (b.take 4)
      ·rw [if_pos hn,if_pos hn,wZ (by simp [er])];simp [dL,er]
      ·rw [if_neg hn,if_neg hn]
       have h2:=Bz (fun b hb=>ih.1 b hb) (fun b i r hb he=>ih.2 b i r hb he) (bk 0 (b.take 4)).toNat (b.drop 4) [] (w5 hb' 4)
       cases hr:rdL g (bk 0 (b.take 4)).toNat (b.drop 4) with
       | error e=>rw [hr] at h2;exact h2
       | ok p=>obtain ⟨l2,r2⟩:=p;rw [hr] at h2;simp only [] at h2;simp [dL,h2]
  ·have:k<1∨k>3∨(k=3∧f.isNone=true):=by omega
   rw [if_pos this]
   simp [e1,e2,e3,dL,er]
theorem w6: ∀(d:Nat) (b:List Int),isB b→dL (fv d ⟨b,0⟩) (rdI d b)
 | 0,b,hb=>BA (f:=none) (g:=none) trivial b hb
 | d+1,b,hb=>BA (f:=some (fv d)) (g:=some (rdI d)) ⟨fun b hb=>w6 d b hb,fun b i r hb h x hx=>hb x (by rw [(sV d b i r hb h).1];simp [hx])⟩ b hb
theorem lk {r:aD} {n:Int} (h:isB r.b):isB (et r n).2.b:=by
 unfold et
 split
 ·unfold er;split<;>exact h
 ·exact w5 h _
theorem w7 {r:aD} {e:Int} (h:isB r.b):isB (er r e).b:=by unfold er;split<;>exact h
theorem BB {f:aD→aa×aD} (hf: ∀r,isB r.b→isB (f r).2.b): ∀{n:Nat} {l:List aa} {r:aD},isB r.b→isB (fh f n l r).2.b
 | 0,_,_,h=>h
 | n+1,l,r,h=>by
  simp only [fh]
  split
  ·exact h
  ·exact BB hf (hf r h)
theorem BC {f:Option (aD→aa×aD)} (hf: ∀g,f=some g→ ∀r,isB r.b→isB (g r).2.b) {r:aD} (h:isB r.b):isB (jZ f r).2.b:=by
 have h1:isB (dK r 1).2.b:=lk h
 simp only [jZ]
 split
 ·exact w7 h1
 split
 ·exact lk h1
 split
 ·exact lk (lk h1)
 cases f with
 | none=>intro x hx;cases hx
 | some g=>
  refine BB (hf g rfl) ?_
  split
  ·exact w7 (lk h1)
  ·exact lk h1
theorem BD: ∀{d:Nat} {r:aD},isB r.b→isB (fv d r).2.b
 | 0,_,h=>BC (fun g e=>by cases e) h
 | d+1,_,h=>BC (fun g e r hr=>by cases e;exact BD hr) h
theorem Jw {r:aD} {x:aa×aD} {d:Int} (e:x=cQ r d) (h:isB r.b):isB x.2.b:=by rw [e];exact BD h
theorem fw: ∀{l:List Int},wfL (l.map (V.int .u8))→isB l
 | [],_=>by simp [isB]
 | a::l,h=>by
  simp only [List.map_cons,wfL,wfV,sr] at h
  intro x hx
  rcases List.mem_cons.1 hx with rfl|hx
  ·exact h.1
  ·exact fw h.2 x hx
mutual
def fi:List Int→aa→List Int
 | out,⟨k,n,b,l⟩=>if out.length>16384 then out else if k==1 then out++(1::be 8 n) else if k==2 then out++(2::be 4 b.length)++b else jh (out++(k% 256::be 4 l.length)) l
def jh:List Int→List aa→List Int
 | out,[]=>out
 | out,x::l=>jh (fi out x) l
end
theorem BE {out:List Int} (h:16384<out.length) (i:aa):fi out i=out:=by
 cases i;simp only [fi];rw [if_pos h]
theorem BF: ∀{l:List aa} {out:List Int},16384<out.length→jh out l=out
 | [],_,_=>rfl
 | x::l,out,h=>by simp only [jh];rw [BE h];exact BF h
mutual
theorem BG: ∀(i:aa) (out:List Int) (d:Int),aQ i d=true→fi out i=out++bz i∨(16384<(fi out i).length∧16384<(out++bz i).length)
 | ⟨k,n,b,l⟩,out,d,h=>by
  by_cases hl:out.length>16384
  ·refine .inr ⟨?_,by simp;omega⟩
   rw [BE hl];exact hl
  simp only [fi,if_neg hl,bz]
  simp only [aQ] at h
  by_cases e1:k=1
  ·subst e1;simp
  by_cases e2:k=2
  ·subst e2;simp
  by_cases e3:k=3
  ·subst e3
   simp at h
   have:=BH l (out++(3::be 4 l.length)) (d - 1) h.2.2.2.2
   simpa using this
  ·simp [e1,e2,e3] at h
theorem BH: ∀(l:List aa) (out:List Int) (d:Int),eK l d=true→jh out l=out++ep l∨(16384<(jh out l).length∧16384<(out++ep l).length)
 | [],out,d,_=> .inl (by simp [jh,ep])
 | x::l,out,d,h=>by
  simp only [eK,Bool.and_eq_true] at h
  simp only [jh,ep]
  rcases BG x out d h.1 with e|⟨e1,e2⟩
  ·rw [e]
   have:=BH l (out++bz x) d h.2
   simpa using this
  ·refine .inr ⟨by rw [BF e1];exact e1,?_⟩
   simp at e2⊢;omega
end
end Go.Proofs.YtiknkaadhomeiaaGreatDoor
namespace Go.Proofs.YtiknkaadhomeiaaGreatDoor
open Go.RowKit
def j4 (i:aa) (w:Int):Bool:=aQ i (8 - w)
def ca (b:List Int) (w:Int):aa×List Int×Int:=match rdI (8 - w).toNat b with
 | .ok (i,r)=>(i,r,0)
 | .error e=>(bT,[],e)
end Go.Proofs.YtiknkaadhomeiaaGreatDoor
namespace Go.Proofs.YtiknkaadhomeiaaGreatDoor
open Go.RowKit
end Go.Proofs.YtiknkaadhomeiaaGreatDoor
namespace Go.Proofs.YtiknkaadhomeiaaGreatDoor
open Go.RowKit
def cM {α:Type}:List α→List (List α)
 | a::b::l=> [a,b]::cM l
 | _=> []
theorem BI {α:Type} {y:List α}: ∀{l:List α},y∈cM l→y.length=2
 | a::b::l,h=>by
  simp only [cM,List.mem_cons] at h
  rcases h with rfl|h
  ·rfl
  ·exact BI h
 | [],h=>by simp [cM] at h
 | [_],h=>by simp [cM] at h
theorem BJ {α:Type}: ∀{k:Nat} {l:List α},l.length=2*k→(cM l).length=k
 | 0,l,h=>by
  have:l=[]:=List.length_eq_zero_iff.1 (by omega)
  subst this;rfl
 | k+1,a::b::l,h=>by
  simp only [cM,List.length_cons] at h⊢
  rw [BJ (k:=k) (by omega)]
 | k+1,[],h=>by simp at h
 | k+1,[a],h=>by simp at h;omega
def fL (l:List (List Int)):List (Int×List Int):=(l.zipIdx.map fun p=>((p.2:Int),p.1)).reverse
end Go.Proofs.YtiknkaadhomeiaaGreatDoor
