/- Texts of this proof, one after the other: VO, VS, VI, VJ, VK, VT, VA, T. -/
import Derived.Test.YteibkofekpejgaaGreatDoorZ4
set_option linter.unusedVariables false
set_option linter.unusedSimpArgs false
namespace Go.Proofs.YteibkofekpejgaaGreatDoor
open Go.RowKit
section
variable {E:Env} {J:bV} {k:List Ct} {S S1 S2:St} {c0 c:Cx} {ρ:Ro} {F:Fm}
def xo:Option Blk→V
 | some (.pown n g z l)=> .sl z n g l
 | _=> .un
def s4 (off:Nat):Option Blk→V
 | some (.pvar n g d)=>if off=0 then .pp n g d else .un
 | _=> .un
mutual
def j6 (H:List (Nat×Blk)):V→V
 | .own i=>xo (ab H i)
 | .ptr i o=>s4 o (ab H i)
 | .optr _ _ _ _=> .un
 | .osub _ _ _ _=> .un
 | .agg l=> .agg (fW H l)
 | .tup l=> .tup (fW H l)
 | .fn f l=> .fn f (fW H l)
 | v=>v
def fW (H:List (Nat×Blk)):List V→List V
 | []=> []
 | d::l=>j6 H d::fW H l
end
mutual
theorem s5 (h:Sim E c0 c ρ S F): ∀{d:V} {v:Value},rd ρ c d v→rd ro0 c (j6 S.H d) v
 | .int _ _,_,hr=>hr
 | .bool _,_,hr=>hr
 | .ifc _,_,hr=>hr
 | .str _,_,hr=>hr
 | .agg l,v,hr=>by
  simp only [rd,j6] at hr⊢
  obtain ⟨cs,e,hr⟩:=hr
  exact ⟨cs,e,Cm h hr⟩
 | .sl z n g l,v,hr=>hr
 | .pp n g d,v,hr=>hr
 | .own i,v,hr=>by
  simp only [rd] at hr
  simp only [j6]
  cases hb:ab S.H i with
  | none=>trivial
  | some b=>
   cases b with
   | pown n g z l=>
    obtain ⟨v',h1,h2⟩:=h.heap _ _ hb
    rw [hr.1] at h1;cases h1
    exact h2
   | _=>trivial
 | .ptr i o,v,hr=>by
  simp only [rd] at hr
  simp only [j6]
  obtain ⟨b0,hb0,he⟩:=hr
  cases hb:ab S.H i with
  | none=>trivial
  | some b=>
   cases b with
   | pvar n g d=>
    obtain ⟨b',h1,h2⟩:=h.heap _ _ hb
    rw [hb0] at h1;cases h1
    simp only [s4]
    split
    ·rename_i e;subst e;subst he
     exact gx.2 h2
    ·trivial
   | _=>trivial
 | .optr _ _ _ _,_,_=>trivial
 | .osub _ _ _ _,_,_=>trivial
 | .tup l,v,hr=>by
  simp only [rd,j6] at hr⊢
  obtain ⟨cs,e,hr⟩:=hr
  exact ⟨cs,e,s6 h hr⟩
 | .fn f l,v,hr=>by
  simp only [rd,j6] at hr⊢
  obtain ⟨cs,e,hr⟩:=hr
  exact ⟨cs,e,s6 h hr⟩
 | .opq p,v,hr=>hr
 | .un,_,_=>trivial
theorem Cm (h:Sim E c0 c ρ S F): ∀{l:List V} {cs:List Value},rdC ρ c l cs→rdC ro0 c (fW S.H l) cs
 | [],_,hr=>hr
 | d::l,cs,hr=>by
  simp only [rdC,fW] at hr⊢
  obtain ⟨u,c2,e,h1,h2,h3⟩:=hr
  exact ⟨u,c2,e,h1,s5 h h2,Cm h h3⟩
theorem s6 (h:Sim E c0 c ρ S F): ∀{l:List V} {cs:List Value},rdT ρ c l cs→rdT ro0 c (fW S.H l) cs
 | [],_,hr=>hr
 | d::l,cs,hr=>by
  simp only [rdT,fW] at hr⊢
  obtain ⟨u,c2,e,h2,h3⟩:=hr
  exact ⟨u,c2,e,s5 h h2,s6 h h3⟩
end
theorem Cn {vs ws:List V} (hm:mtL (fW S.H vs) ws):oY E S vs S ws:=
 fun _ c ρ _ _ h hr=>⟨c,ρ,rfl,Cx.pub.refl _,h,ie hm (s6 h.1 hr)⟩
def fi (E:Env) (S S1:St):Prop:= ∀c0 c ρ F,aT E c0 c ρ S F→ ∃c1,c1.w=c.w∧c.pub c1∧aT E c0 c1 ρ S1 F
theorem fi.weak (h:fi E S S1):ca E S S1:=by
 intro c0 c ρ F hs
 obtain ⟨c1,e,_,h1⟩:=h c0 c ρ F hs
 exact ⟨c1,ρ,e,h1⟩
theorem fi.trans (h:fi E S S1) (h':fi E S1 S2):fi E S S2:=by
 intro c0 c ρ F hs
 obtain ⟨c1,e,p1,h1⟩:=h c0 c ρ F hs
 obtain ⟨c2,e2,p2,h2⟩:=h' c0 c1 ρ F h1
 exact ⟨c2,e2.trans e,p1.trans p2,h2⟩
def im (E:Env) (S S1:St):Prop:= ∀c0 c ρ F,aT E c0 c ρ S F→ ∃c1 ρ1,c1.w=c.w∧c.pub c1∧gy ρ ρ1∧aT E c0 c1 ρ1 S1 F
theorem im.weak (h:im E S S1):ca E S S1:=by
 intro c0 c ρ F hs
 obtain ⟨c1,ρ1,e,_,_,h1⟩:=h c0 c ρ F hs
 exact ⟨c1,ρ1,e,h1⟩
theorem fi.toQ (h:fi E S S1):im E S S1:=by
 intro c0 c ρ F hs
 obtain ⟨c1,e,p,h1⟩:=h c0 c ρ F hs
 exact ⟨c1,ρ,e,p,fun _ _ h=>h,h1⟩
theorem im.trans (h:im E S S1) (h':im E S1 S2):im E S S2:=by
 intro c0 c ρ F hs
 obtain ⟨c1,ρ1,e,p1,r1,h1⟩:=h c0 c ρ F hs
 obtain ⟨c2,ρ2,e2,p2,r2,h2⟩:=h' c0 c1 ρ1 F h1
 exact ⟨c2,ρ2,e2.trans e,p1.trans p2,fun i v hi=>r2 i v (r1 i v hi),h2⟩
theorem JV {vs ws:List V} (h:fi E S S1) (hg:oY E S1 vs S2 ws):oY E S vs S2 ws:=by
 intro c0 c ρ F us hs hr
 obtain ⟨c1,e,p1,h1⟩:=h c0 c ρ F hs
 obtain ⟨c2,ρ2,e2,p2,h2,h3⟩:=hg c0 c1 ρ F us h1 (eZ p1 hr)
 exact ⟨c2,ρ2,e2.trans e,p1.trans p2,h2,h3⟩
theorem lD {f:FuncId} {caps vs:List V} {d:Option Nat} {ws:List V} {r:V} {H:List Blk} (hc:aW E f ws r H) (hw:fi E S S1) (hm:mtL (fW S1.H (vs++caps)) ws) (h:wfV r→aI E J k .normal (S1.after d r H)):eR E J (some (.fn f caps)) (some vs) S d k:=
 .inl ⟨ws,r,H,hc,.inl ⟨S1,JV hw (Cn hm),h⟩⟩
theorem JW {f:FuncId} {caps vs:List V} {d:Option Nat} {ws:List V} {r:V} {H:List Blk} (hc:aW E f ws r H) (hm:mtL (fW S.H (vs++caps)) ws) (h:wfV r→aI E J k .normal (S.after d r H)):eR E J (some (.fn f caps)) (some vs) S d k:=
 .inl ⟨ws,r,H,hc,.inl ⟨S,Cn hm,h⟩⟩
theorem io (i:Nat) {T n:Nat} {g:Bool} {z:Option Bool} {l:List V} (h:ab S.H i=some (.own T n g z l)):fi E S ⟨S.F,cT S.H i (.pown n g z l),S.nx⟩:=by
 intro c0 c ρ F hs
 obtain ⟨v,hv,hown,hge,hone,a,cap,es,hz⟩:=hs.1.heap _ _ h
 obtain ⟨c1,ρ1,e,h1⟩:=pw i h c0 c ρ F hs
 have hpd:=c.pub_dropv v
 have hbo:ak ρ i=blk v:=by unfold ak;rw [hv,es]
 have hsep: ∀j b,i≠j→ab S.H j=some b→aU b=true→ ∀x,ak ρ j=some x→blk v≠some x:=by
  intro j b hij hb hp x hx hx'
  exact hs.1.sep i j _ b x hij h hb rfl hp (hbo▸hx') hx
 refine ⟨c.dropv v,rfl,hpd,⟨hs.1.since.dropv hge,hs.1.gl.mono hpd,fun t x ht=>bn hpd (hs.1.slot t x ht),?_,?_⟩,hs.2⟩
 ·intro j b hb
  simp only [cK] at hb
  split at hb
  ·rename_i e;subst e;cases hb
   refine ⟨v,hv,?_⟩
   obtain ⟨a',cap',e1,h1,h2⟩:=fw.1 hown.val
   rw [es] at e1;cases e1
   exact dl.2 ⟨a,cap,es,h1,hz,h2⟩
  ·rename_i hij
   have hb0:=hs.1.heap _ _ hb
   have hsp:=hsep j b hij hb
   cases b with
   | var n' g' d=>
    obtain ⟨b',h1,h2,h3⟩:=hb0
    exact ⟨b',h1,h2,Cx.dropv_var h3 (hsp rfl b' (by simp [ak,h1]))⟩
   | own E' n' g' z' l'=>
    obtain ⟨v',h1,h2,h3,h4,a',cap',e',h5⟩:=hb0
    exact ⟨v',h1,Cx.dropv_own h2 (fun x hx=>hsp rfl x (by unfold ak;rw [h1,e'];rw [e'] at hx;exact hx)),h3,h4,a',cap',e',h5⟩
   | ownI E' n' g' z' l'=>
    obtain ⟨v',h1,h2,h3,h4,a',cap',e',h5⟩:=hb0
    exact ⟨v',h1,Cx.dropv_own h2 (fun x hx=>hsp rfl x (by unfold ak;rw [h1,e'];rw [e'] at hx;exact hx)),h3,h4,a',cap',e',h5⟩
   | pvar n' g' d=>
    obtain ⟨b',h1,h2⟩:=hb0
    exact ⟨b',h1,(jA _).mono h2 hpd⟩
   | pown n' g' z' l'=>
    obtain ⟨v',h1,h2⟩:=hb0
    exact ⟨v',h1,bn hpd h2⟩
   | lent k' n' g' d=>
    obtain ⟨h1,h2,h3⟩:=hb0
    exact ⟨h1,h2,Cx.dropv_var h3 (hsp rfl k' (by simp [ak,h1]))⟩
   | kset g' k' n' l'=>
    obtain ⟨r,h1,h2,h3⟩:=hb0
    exact ⟨r,h1,h2,Cx.dropv_set h3 (hsp rfl r (by simp [ak,h1,blk]))⟩
 ·intro a b ba bb x hab ha hb hpa hpb hx
  simp only [cK] at ha hb
  split at ha
  ·cases ha;cases hpa
  ·split at hb
   ·cases hb;cases hpb
   ·exact hs.1.sep a b ba bb x hab ha hb hpa hpb hx
def dv:List Nat→Nat→Nat→Option Nat
 | [],_,_=>none
 | j::l,i,k=>if j=i then some k else dv l i (k+1)
def s7 (H:List (Nat×Blk)) (i:Nat):Option Nat→V
 | some k=> .own k
 | none=>jT (ab H i)
mutual
def fj (H:List (Nat×Blk)) (ids:List Nat):V→V
 | .own i=>s7 H i (dv ids i 0)
 | .ptr i o=>match dv ids i 0 with
  | some k=> .ptr k o
  | none=> .un
 | .optr _ _ _ _=> .un
 | .osub _ _ _ _=> .un
 | .agg l=> .agg (jg H ids l)
 | .tup l=> .tup (jg H ids l)
 | .fn f l=> .fn f (jg H ids l)
 | v=>v
def jg (H:List (Nat×Blk)) (ids:List Nat):List V→List V
 | []=> []
 | d::l=>fj H ids d::jg H ids l
end
theorem lE: ∀{l:List Nat} {i k q:Nat},dv l i k=some q→k≤q∧l[q - k]? =some i
 | [],_,_,_,h=>by simp [dv] at h
 | j::l,i,k,q,h=>by
  simp only [dv] at h
  split at h
  ·rename_i e;subst e;cases h;simp
  ·obtain ⟨h1,h2⟩:=lE h
   refine ⟨by omega,?_⟩
   rw [show q - k=(q - (k+1))+1 by omega,List.getElem?_cons_succ]
   exact h2
theorem xp: ∀{l:List Nat} {i k:Nat},dv l i k=none→i∉l
 | [],_,_,_=>by simp
 | j::l,i,k,h=>by
  simp only [dv] at h
  split at h
  ·cases h
  ·rename_i e
   simp only [List.mem_cons,not_or]
   exact ⟨fun e'=>e e'.symm,xp h⟩
def bS (ρ:Ro) (ids:List Nat):Ro:=fun k=>match ids[k]? with
 | some i=>ρ i
 | none=>none
def Cx.give (c0 c:Cx) (ρ:Ro) (ids:List Nat) (h0:c0.w.heap.size≤c.w.heap.size) (h: ∀i∈ids,∀k,ak ρ i=some k→k<c.w.heap.size):Cx:=
 {X:=c0.X++ids.filterMap (ak ρ),w:=c.w,ok:=fun k hk=>(by
  rcases List.mem_append.1 hk with hk|hk
  ·exact Nat.lt_of_lt_of_le (c0.ok k hk) h0
  ·obtain ⟨i,hi,hb⟩:=List.mem_filterMap.1 hk
   exact h i hi k hb)}
def j7 (H:List (Nat×Blk)):List Nat→List Blk→Prop
 | [],[]=>True
 | i::ids,b::bs=>ab H i=some b∧(match b with| .own _ _ _ _ _=>True|_=>False)∧j7 H ids bs
 | _,_=>False
theorem Co {H:List (Nat×Blk)}: ∀{ids:List Nat} {bs:List Blk},j7 H ids bs→ids.length=bs.length∧(∀(k:Nat) (b:Blk),bs[k]? =some b→ ∃i,ids[k]? =some i∧ab H i=some b∧ ∃T n g z l,b= .own T n g z l)∧ ∀i∈ids,∃b,ab H i=some b∧ ∃T n g z l,b= .own T n g z l
 | [],[],_=>⟨rfl,by simp,by simp⟩
 | i::ids,b::bs,h=>by
  simp only [j7] at h
  obtain ⟨h1,h2,h3⟩:=h
  obtain ⟨g1,g2,g3⟩:=Co h3
  have hb: ∃T n g z l,b= .own T n g z l:=by
   cases b<;>first|exact ⟨_,_,_,_,_,rfl⟩|exact h2.elim
  refine ⟨by simp [g1],?_,?_⟩
  ·intro k b' hk
   cases k with
   | zero=>simp at hk;subst hk;exact ⟨i,by simp,h1,hb⟩
   | succ k=>obtain ⟨j,e,g⟩:=g2 k b' (by simpa using hk);exact ⟨j,by simpa using e,g⟩
  ·intro j hj
   rcases List.mem_cons.1 hj with rfl|hj
   ·exact ⟨b,h1,hb⟩
   ·exact g3 j hj
 | [],_::_,h=>by simp [j7] at h
 | _::_,[],h=>by simp [j7] at h
theorem JX {c1:Cx} (hw:c1.w=c.w) (hpb:c.pub c1) (h:Sim E c0 c ρ S F) {i:Nat} {b:Blk} {v:Value} (hb:ab S.H i=some b) (hv:ρ i=some v) (hn:aU b=true→ ∀k,ak ρ i=some k→k∉c1.X):rd ro0 c1 (jT (some b)) v:=by
 have hblk:=h.heap i b hb
 cases b with
 | own T n g z l=>
  obtain ⟨v',h1,h2,h3,h4,a,cap,e,hz⟩:=hblk
  rw [hv] at h1;cases h1
  simp only [jT]
  refine dl.2 ⟨a,cap,e,⟨h2.1,?_⟩,hz,?_⟩
  ·rcases h2.2 with ⟨a',_,rfl⟩|⟨g',cp,cur,e2,_,_,k3,_⟩
   ·simp
   ·rw [e] at e2;cases e2;exact k3
  ·rcases h2.2 with ⟨a',_,rfl⟩|⟨g',cp,cur,e2,k1,k2,k3,k4,k5,k6⟩
   ·exact .inl rfl
   ·rw [e] at e2;cases e2
    refine .inr ⟨g',0,_,rfl,by rw [hw];exact c.ok g' k1,hn rfl g' (by unfold ak;rw [hv,e];rfl),?_,cR hpb k6⟩
    intro j u hj
    rw [List.getElem?_take] at hj
    split at hj
    ·simp only [Nat.zero_add]
     show c1.w.cell? _=_
     rw [hw]
     simp only [World.cell?,k2]
     simpa using hj
    ·cases hj
 | pown n g z l=>
  obtain ⟨v',h1,h2⟩:=hblk
  rw [hv] at h1;cases h1
  exact bn hpb h2
 | _=>trivial
mutual
theorem pC {c1:Cx} {ids:List Nat} (hw:c1.w=c.w) (hpb:c.pub c1) (h:Sim E c0 c ρ S F) (hn: ∀i b,i∉ids→ab S.H i=some b→aU b=true→ ∀k,ak ρ i=some k→k∉c1.X): ∀{d:V} {v:Value},rd ρ c d v→rd (bS ρ ids) c1 (fj S.H ids d) v
 | .int _ _,_,hr=>hr
 | .bool _,_,hr=>hr
 | .ifc _,_,hr=>hr
 | .str _,_,hr=>hr
 | .agg l,v,hr=>by
  simp only [rd,fj] at hr⊢
  obtain ⟨cs,e,hr⟩:=hr
  exact ⟨cs,e,Cp hw hpb h hn hr⟩
 | .sl z n g l,v,hr=>bn hpb (show rd ro0 c (.sl z n g l) v from hr)
 | .pp n g d,v,hr=>bn hpb (show rd ro0 c (.pp n g d) v from hr)
 | .own i,v,hr=>by
  simp only [rd] at hr
  simp only [fj]
  cases hp:dv ids i 0 with
  | some q=>
   obtain ⟨_,h2⟩:=lE hp
   simp only [s7,rd]
   exact ⟨by simp only [bS];rw [show q - 0=q from rfl] at h2;rw [h2];exact hr.1,hr.2⟩
  | none=>
   simp only [s7]
   cases hb:ab S.H i with
   | none=>trivial
   | some b=>exact rd0 (JX hw hpb h hb hr.1 (fun hp'=>hn i b (xp hp) hb hp'))
 | .ptr i o,v,hr=>by
  simp only [rd] at hr
  simp only [fj]
  cases hp:dv ids i 0 with
  | some q=>
   obtain ⟨_,h2⟩:=lE hp
   obtain ⟨b,h3,h4⟩:=hr
   simp only [rd]
   exact ⟨b,by simp only [bS];rw [show q - 0=q from rfl] at h2;rw [h2];exact h3,h4⟩
  | none=>trivial
 | .optr _ _ _ _,_,_=>trivial
 | .osub _ _ _ _,_,_=>trivial
 | .tup l,v,hr=>by
  simp only [rd,fj] at hr⊢
  obtain ⟨cs,e,hr⟩:=hr
  exact ⟨cs,e,xq hw hpb h hn hr⟩
 | .fn f l,v,hr=>by
  simp only [rd,fj] at hr⊢
  obtain ⟨cs,e,hr⟩:=hr
  exact ⟨cs,e,xq hw hpb h hn hr⟩
 | .opq p,v,hr=>bn hpb (show rd ro0 c (.opq p) v from hr)
 | .un,_,_=>trivial
theorem Cp {c1:Cx} {ids:List Nat} (hw:c1.w=c.w) (hpb:c.pub c1) (h:Sim E c0 c ρ S F) (hn: ∀i b,i∉ids→ab S.H i=some b→aU b=true→ ∀k,ak ρ i=some k→k∉c1.X): ∀{l:List V} {cs:List Value},rdC ρ c l cs→rdC (bS ρ ids) c1 (jg S.H ids l) cs
 | [],_,hr=>hr
 | d::l,cs,hr=>by
  simp only [rdC,jg] at hr⊢
  obtain ⟨u,c2,e,h1,h2,h3⟩:=hr
  exact ⟨u,c2,e,h1,pC hw hpb h hn h2,Cp hw hpb h hn h3⟩
theorem xq {c1:Cx} {ids:List Nat} (hw:c1.w=c.w) (hpb:c.pub c1) (h:Sim E c0 c ρ S F) (hn: ∀i b,i∉ids→ab S.H i=some b→aU b=true→ ∀k,ak ρ i=some k→k∉c1.X): ∀{l:List V} {cs:List Value},rdT ρ c l cs→rdT (bS ρ ids) c1 (jg S.H ids l) cs
 | [],_,hr=>hr
 | d::l,cs,hr=>by
  simp only [rdT,jg] at hr⊢
  obtain ⟨u,c2,e,h2,h3⟩:=hr
  exact ⟨u,c2,e,pC hw hpb h hn h2,xq hw hpb h hn h3⟩
end
theorem pD: ∀{l:List Nat} {i q q':Nat},l.Nodup→l[q]? =some i→l[q']? =some i→q=q'
 | [],_,_,_,_,h,_=>by simp at h
 | a::l,i,0,0,_,_,_=>rfl
 | a::l,i,0,q'+1,hd,h,h'=>by
  simp at h h';subst h
  exact absurd (List.mem_of_getElem? h') (List.nodup_cons.1 hd).1
 | a::l,i,q+1,0,hd,h,h'=>by
  simp at h h';subst h'
  exact absurd (List.mem_of_getElem? h) (List.nodup_cons.1 hd).1
 | a::l,i,q+1,q'+1,hd,h,h'=>by
  simp only [List.getElem?_cons_succ] at h h'
  rw [pD (List.nodup_cons.1 hd).2 h h']
theorem JY {v r:V} (ids:List Nat) {bs:List Blk} (ho:j7 S.H ids bs) (hd:ids.Nodup) (hm:mt (fj S.H ids v) r):ph E S v r bs:=by
 intro c0 c ρ F u hY h hr
 obtain ⟨hlen,hget,hall⟩:=Co ho
 have hlt: ∀i∈ids,∀k,ak ρ i=some k→k<c.w.heap.size:=by
  intro i hi k hk
  obtain ⟨b,hb,T,n,g,z,l,rfl⟩:=hall i hi
  exact eP rfl (h.1.heap _ _ hb) k hk
 have hge: ∀i∈ids,∀k,ak ρ i=some k→c0.w.heap.size≤k:=by
  intro i hi k hk
  obtain ⟨b,hb,T,n,g,z,l,rfl⟩:=hall i hi
  exact Cx.mine_of hY (g_ h.1 hb rfl k hk)
 have hX: ∀i∈ids,∀k,ak ρ i=some k→k∈c.X:=by
  intro i hi k hk
  obtain ⟨b,hb,T,n,g,z,l,rfl⟩:=hall i hi
  obtain ⟨v,h1,h2,_,_,a,cap,e,_⟩:=h.1.heap _ _ hb
  refine h2.isX k ?_
  unfold ak at hk
  rw [h1,e] at hk
  rw [e];exact hk
 have hpub:c.pub (Cx.give c0 c ρ ids h.1.since.size hlt):=by
  refine ⟨Nat.le_refl _,fun k hk hx=>⟨fun h'=> ?_,fun _ h _=>h⟩⟩
  rcases List.mem_append.1 h' with h'|h'
  ·exact hx (h.1.since.X k h' (by rw [hY];simp))
  ·obtain ⟨i,hi,hb⟩:=List.mem_filterMap.1 h'
   exact hx (hX i hi k hb)
 have hle:c0.le (Cx.give c0 c ρ ids h.1.since.size hlt):=by
  refine Cx.leY.le ⟨h.1.since.below,fun k hk _=>⟨fun h'=> ?_,fun h'=>List.mem_append.2 (.inl h')⟩⟩ hY
  rcases List.mem_append.1 h' with h'|h'
  ·exact h'
  ·obtain ⟨i,hi,hb⟩:=List.mem_filterMap.1 h'
   have:=hge i hi k hb
   omega
 refine ⟨Cx.give c0 c ρ ids h.1.since.size hlt,bS ρ ids,rfl,hle,dK hm (pC (c:=c) (c1:=Cx.give c0 c ρ ids h.1.since.size hlt) (ids:=ids) rfl hpub h.1 ?_ hr),?_,?_,?_⟩
 ·intro i b hi hb hp k hk hmem
  rcases List.mem_append.1 hmem with h'|h'
  ·have h1:=Cx.mine_of hY (g_ h.1 hb hp k hk)
   have h2:=c0.ok k h'
   omega
  ·obtain ⟨j,hj,hb'⟩:=List.mem_filterMap.1 h'
   obtain ⟨bj,hbj,T,n,g,z,l,rfl⟩:=hall j hj
   exact h.1.sep i j b _ k (fun e=>hi (e▸hj)) hb hbj hp rfl hk hb'
 ·intro q b hq
  obtain ⟨i,hi,hb,T,n,g,z,l,rfl⟩:=hget q b hq
  refine ⟨.inl ⟨T,n,g,z,l,rfl⟩,?_⟩
  obtain ⟨v,h1,h2,h3,h4,a,cap,e,h5⟩:=h.1.heap _ _ hb
  have hmem:i∈ids:=List.mem_of_getElem? hi
  refine ⟨v,by simp only [bS,hi];exact h1,⟨h2.1,?_⟩,h3,h4,a,cap,e,h5⟩
  rcases h2.2 with h'|⟨g',cp,cur,e2,k1,k2,k3,k4,k5,k6⟩
  ·exact .inl h'
  ·refine .inr ⟨g',cp,cur,e2,List.mem_append.2 (.inr (List.mem_filterMap.2 ⟨i,hmem,?_⟩)),k2,k3,k4,k5,cR hpub k6⟩
   unfold ak;rw [h1,e2];rfl
 ·intro q hq
  simp only [bS]
  rw [List.getElem?_eq_none (by omega)]
 ·intro q q' bq bq' k hne hq hq' hk hk'
  obtain ⟨i,hi,hb,T,n,g,z,l,rfl⟩:=hget q bq hq
  obtain ⟨i',hi',hb',T',n',g',z',l',rfl⟩:=hget q' bq' hq'
  have hii:i≠i':=by
   rintro rfl
   exact hne (pD hd hi hi')
  have e1:ak (bS ρ ids) q=ak ρ i:=by simp only [ak,bS,hi]
  have e2:ak (bS ρ ids) q'=ak ρ i':=by simp only [ak,bS,hi']
  rw [e1] at hk
  rw [e2] at hk'
  exact h.1.sep i i' _ _ k hii hb hb' rfl rfl hk hk'
def zN:Blk→Blk
 | .own T n g _ l=> .own T n g none l
 | b=>b
theorem JZ {c0 c:Cx} {ρ:Ro} {i:Nat} {b:Blk} (h:blkOk c0 c ρ i b):blkOk c0 c ρ i (zN b):=by
 cases b with
 | own T n g z l=>
  obtain ⟨v,g1,g2,g3,g4,a,cap,e,g5⟩:=h
  exact ⟨v,g1,g2,g3,g4,a,cap,e,kY g5⟩
 | _=>exact h
theorem J0 {c':Cx} {H:List Blk} (h:HOk c c' ρ H):HOk c c' ρ (H.map zN):=by
 obtain ⟨h1,h2,h3⟩:=h
 have key: ∀(i:Nat) (b:Blk),(H.map zN)[i]? =some b→ ∃b0,H[i]? =some b0∧b=zN b0:=by
  intro i b hb
  rw [List.getElem?_map] at hb
  cases hi:H[i]? with
  | none=>rw [hi] at hb;cases hb
  | some b0=>
   rw [hi] at hb
   cases hb
   exact ⟨b0,rfl,rfl⟩
 refine ⟨fun i b hb=> ?_,fun i hi=>h2 i (by simpa using hi),fun i j bi bj k hij hi hj=> ?_⟩
 ·obtain ⟨b0,hi,rfl⟩:=key i b hb
  obtain ⟨hg,hk⟩:=h1 i _ hi
  refine ⟨?_,JZ hk⟩
  rcases hg with ⟨T,n,g,z,l,rfl⟩|⟨g,k,n,l,rfl⟩
  ·exact .inl ⟨T,n,g,none,l,rfl⟩
  ·exact .inr ⟨g,k,n,l,rfl⟩
 ·obtain ⟨b0,hi',rfl⟩:=key i bi hi
  obtain ⟨b1,hj',rfl⟩:=key j bj hj
  exact h3 i j _ _ k hij hi' hj'
theorem s8 {vs:List V} {r:V} (ids:List Nat) {bs:List Blk} (ho:j7 S.H ids bs) (hd:ids.Nodup) (hm:mt (fj S.H ids (fh vs)) r):jY E S r (bs.map zN) (some vs):=by
 intro c0 c ρ F u hY hs hr
 obtain ⟨c1,ρ1,e,hle,h1,h2⟩:=JY ids ho hd hm c0 c ρ F u hY hs hr
 exact ⟨c1,ρ1,e,hle,h1,J0 h2⟩
theorem lF {vs:List V} {T n:Nat} {g:Bool} {z:Option Bool} {l:List V} (i:Nat) (h:ab S.H i=some (.own T n g z l)) (hm:mt (fj S.H [i] (fh vs)) (.own 0)):jY E S (.own 0) [.own T n g none l] (some vs):=
 s8 [i] (bs:=[.own T n g z l]) ⟨h,trivial,trivial⟩ (by simp) hm
theorem J1 {v:V} {g:Bool} {kd:IntKind} {n:Nat} {l:List (List Int)} (i:Nat) (hb:ab S.H i=some (.kset g kd n l)) (hv:v= .own i):ph E S v (.own 0) [.kset g kd n l]:=by
 intro c0 c ρ F u hY h hr
 subst hv
 have hbk:=h.1.heap _ _ hb
 obtain ⟨r,h1,h2,h3⟩:=hbk
 have hro:ak ρ i=some r:=by simp only [ak,h1,blk]
 have hlt: ∀j∈ [i],∀k,ak ρ j=some k→k<c.w.heap.size:=by
  intro j hj k hk
  simp only [List.mem_singleton] at hj
  subst hj
  exact eP rfl (h.1.heap _ _ hb) k hk
 have hge:c0.w.heap.size≤r:=Cx.mine_of hY h2
 have hrX:r∈c.X:=h3.1
 have hpub:c.pub (Cx.give c0 c ρ [i] h.1.since.size hlt):=by
  refine ⟨Nat.le_refl _,fun k hk hx=>⟨fun h'=> ?_,fun _ h _=>h⟩⟩
  rcases List.mem_append.1 h' with h'|h'
  ·exact hx (h.1.since.X k h' (by rw [hY];simp))
  ·simp only [List.filterMap_cons,hro,List.filterMap_nil,List.mem_singleton] at h'
   exact hx (h'▸hrX)
 have hle:c0.le (Cx.give c0 c ρ [i] h.1.since.size hlt):=by
  refine Cx.leY.le ⟨h.1.since.below,fun k hk _=>⟨fun h'=> ?_,fun h'=>List.mem_append.2 (.inl h')⟩⟩ hY
  rcases List.mem_append.1 h' with h'|h'
  ·exact h'
  ·simp only [List.filterMap_cons,hro,List.filterMap_nil,List.mem_singleton] at h'
   omega
 have hri:bS ρ [i] 0=some (.map (some r)):=by simpa [bS] using h1
 refine ⟨Cx.give c0 c ρ [i] h.1.since.size hlt,bS ρ [i],rfl,hle,?_,?_,?_,?_⟩
 ·simp only [rd] at hr⊢
  exact ⟨hri.trans (h1.symm.trans hr.1),hr.2⟩
 ·intro q b hq
  match q,hq with
  | 0,hq=>
   simp at hq
   subst hq
   refine ⟨.inr ⟨g,kd,n,l,rfl⟩,r,hri,.inl hge,?_,h3.2⟩
   exact List.mem_append.2 (.inr (by simp [hro]))
 ·intro q hq
  simp only [List.length_cons,List.length_nil] at hq
  simp only [bS]
  rw [List.getElem?_eq_none (by simp;omega)]
 ·intro q q' bq bq' k hne hq hq'
  match q,q',hq,hq' with
  | 0,0,_,_=>exact absurd rfl hne
theorem J2 {g:Bool} {kd:IntKind} {n:Nat} {l:List (List Int)} (i:Nat) (hb:ab S.H i=some (.kset g kd n l)):jY E S (.own 0) [.kset g kd n l] (some [.own i]):=J1 i hb rfl
theorem lG {T n:Nat} {g:Bool} (hone:g=false→n=1):jY E S (.own 0) [.own T n g none []] (some [.sl (some true) n g []]):=by
 intro c0 c ρ F u hY h hr
 have e:u= .slice none 0 0:=by
  simp only [fh,rd,zOk] at hr
  obtain ⟨a,cap,e,_,⟨rfl,rfl⟩,_⟩:=hr
  exact e
 subst e
 refine ⟨c0.base c h.1.since.size,fun i=>if i=0 then some (.slice none 0 0) else none,rfl,Cx.leY.le ⟨h.1.since.below,fun k hk hy=>by rw [oX];exact ⟨fun h=>h.1,fun h=>⟨h,hy⟩⟩⟩ hY,⟨rfl,rfl⟩,?_,?_,?_⟩
 ·intro i b hb
  cases i with
  | zero=>
   simp at hb;subst hb
   exact ⟨.inl ⟨_,_,_,_,_,rfl⟩,.slice none 0 0,rfl,Own.nil,fun k hk=>by simp [blk] at hk,hone,none,0,rfl,fun _=>rfl⟩
  | succ i=>simp at hb
 ·intro i hi
  have:i≠0:=by simp at hi;omega
  simp [this]
 ·intro i j bi bj k hij hi hj
  cases i with
  | zero=>cases j with
   | zero=>exact absurd rfl hij
   | succ j=>simp at hj
  | succ i=>simp at hi
theorem lH {f:FuncId} {pre post:List V} {n:Nat} {g:Bool} {l:List V} {r:V} {H:List Blk} (h1:l=[]→aW E f (pre++ .sl (some true) n g []::post) r H) (h2:aW E f (pre++ .sl (some false) n g l::post) r H) (z:Option Bool):aW E f (pre++ .sl z n g l::post) r H:=by
 refine ⟨h2.1,fun c us hY hg hus=> ?_⟩
 have key: ∀{pre:List V} {us:List Value},rdT ro0 c (pre++ .sl z n g l::post) us→(l=[]∧rdT ro0 c (pre++ .sl (some true) n g []::post) us)∨rdT ro0 c (pre++ .sl (some false) n g l::post) us:=by
  intro pre
  induction pre with
  | nil=>
   intro us h
   simp only [List.nil_append,rdT] at h⊢
   obtain ⟨u,c2,rfl,hu,h3⟩:=h
   obtain ⟨a,cap,e,hl,hz,hs⟩:=dl.1 hu
   cases a with
   | some a=>exact .inr ⟨u,c2,rfl,dl.2 ⟨_,cap,e,hl,by simp [zOk],hs⟩,h3⟩
   | none=>
    rcases hs with rfl|⟨b,o,cs,e',_⟩
    ·have hc:=kY hz rfl
     subst hc
     exact .inl ⟨rfl,u,c2,rfl,dl.2 ⟨none,0,e,⟨Nat.zero_le _,Nat.zero_le _⟩,⟨rfl,rfl⟩,.inl rfl⟩,h3⟩
    ·cases e'
  | cons d pre ih=>
   intro us h
   simp only [List.cons_append,rdT] at h⊢
   obtain ⟨u,c2,rfl,hu,h3⟩:=h
   rcases ih h3 with ⟨e,h4⟩|h4
   ·exact .inl ⟨e,u,c2,rfl,hu,h4⟩
   ·exact .inr ⟨u,c2,rfl,hu,h4⟩
 rcases key hus with ⟨e,h⟩|h
 ·exact (h1 e).2 c us hY hg h
 ·exact h2.2 c us hY hg h
end
attribute [go_sem] j6 fW xo s4 j7 fj jg dv s7
theorem aW.pub {E:Env} {f:FuncId} {ws:List V} {T n:Nat} {g:Bool} {z:Option Bool} {l:List V} (h:aW E f ws (.own 0) [.own T n g z l]):aW E f ws (.sl z n g l) []:=by
 refine ⟨h.1,fun c us hY hg hus=>(h.2 c us hY hg hus).mono ?_⟩
 rintro e w' ⟨v,c',ρ,rfl,rfl,hle,hrd,hH⟩
 obtain ⟨v',hv,hown,hge,hone,a,cap,es,hz⟩:=(hH.1 0 _ rfl).2
 have e:v=v':=by
  simp only [rd] at hrd
  rw [hv] at hrd
  exact (Option.some.inj hrd.1).symm
 subst e
 refine ⟨v,c'.dropv v,ro0,rfl,rfl,AA hle (fun g hg=>Cx.mine_of hY (hge g hg)),?_,fun i b hb=>by simp at hb,fun _ _=>rfl,fun i j bi bj k _ hb=>by simp at hb⟩
 obtain ⟨a',cap',e1,h1,h2⟩:=fw.1 hown.val
 rw [es] at e1;cases e1
 exact dl.2 ⟨a,cap,es,h1,hz,h2⟩
theorem Cq {ρ ρ':Ro} {c:Cx} (hro:gy ρ ρ') {k:Nat} (hat:ρ' k=some (.slice none 0 0)): ∀{l:List V} {cs:List Value} {o n:Nat} {g:Bool},rdC ρ c l cs→l[o]? =some (.sl (some true) n g [])→rdC ρ' c (l.set o (.own k)) cs
 | [],cs,o,n,g,h,ho=>by simp at ho
 | d::l,cs,0,n,g,h,ho=>by
  simp only [List.getElem?_cons_zero,Option.some.injEq] at ho
  subst ho
  simp only [rdC] at h
  obtain ⟨u,c2,rfl,h1,h2,h3⟩:=h
  simp only [List.set_cons_zero,rdC]
  have e:u= .slice none 0 0:=by
   simp only [rd,zOk] at h2
   obtain ⟨a,cap,e,_,⟨rfl,rfl⟩,_⟩:=h2
   exact e
  subst e
  exact ⟨_,c2,rfl,h1,by simp only [rd];exact ⟨hat,rfl⟩,vw hro h3⟩
 | d::l,cs,o+1,n,g,h,ho=>by
  simp only [List.getElem?_cons_succ] at ho
  simp only [rdC] at h
  obtain ⟨u,c2,rfl,h1,h2,h3⟩:=h
  simp only [List.set_cons_succ,rdC]
  exact ⟨u,c2,rfl,h1,cZ hro h2,Cq hro hat h3 ho⟩
theorem Cr {E:Env} {S:St} (j o T:Nat) {n' n:Nat} {g:Bool} {l:List V} (h:ab S.H j=some (.var n' true (.agg l))) (ho:l[o]? =some (.sl (some true) n g [])) (hg:g=false→n=1):
  im E S ⟨S.F,(S.nx,.own T n g (some true) [])::cT S.H j (.var n' true (.agg (l.set o (.own S.nx)))),S.nx+1⟩:=by
 intro c0 c ρ F hs
 have hf:ρ S.nx=none:=hs.2 _ (Nat.le_refl _)
 have hro:gy ρ (fun i=>if i=S.nx then some (.slice none 0 0) else ρ i):=mQ hf fun i hi=>by simp [hi]
 have hat:(fun i=>if i=S.nx then some (Value.slice none 0 0) else ρ i) S.nx=some (.slice none 0 0):=by simp
 have hoth: ∀i,i≠S.nx→(fun i=>if i=S.nx then some (Value.slice none 0 0) else ρ i) i=ρ i:=fun i hi=>by simp [hi]
 generalize (fun i=>if i=S.nx then some (Value.slice none 0 0) else ρ i)=ρ' at hro hat hoth
 obtain ⟨b0,g1,g2,g3⟩:=hs.1.heap _ _ h
 have hjn:j≠S.nx:=fun e=>by rw [e,hf] at g1;cases g1
 refine ⟨c,ρ',rfl,Cx.pub.refl _,hro,⟨hs.1.since,hs.1.gl,fun t v ht=>cZ hro (hs.1.slot t v ht),?_,?_⟩,?_⟩
 ·intro i b hb
  simp only [ab] at hb
  split at hb
  ·rename_i e';subst e';cases hb
   exact ⟨_,hat,Own.nil,fun k hk=>by simp [blk] at hk,hg,none,0,rfl,rfl,rfl⟩
  ·rename_i hin
   rw [cK] at hb
   split at hb
   ·rename_i e';subst e';cases hb
    obtain ⟨hX,T',cs,hh,hsh,hrd⟩:=g3
    refine ⟨b0,by rw [hoth _ hjn];exact g1,g2,hX,T',cs,hh,hsh,?_⟩
    simp only [mkV,rd] at hrd⊢
    obtain ⟨cs',e1,e2⟩:=hrd
    exact ⟨cs',e1,Cq hro hat e2 ho⟩
   ·exact ln hro (hs.1.heap i b hb)
 ·intro a b ba bb k hab hba hbb hpa hpb hk hk'
  have hn:ak ρ' S.nx=none:=by simp [ak,hat,blk]
  have hi:a≠S.nx:=fun e'=>by rw [e',hn] at hk;cases hk
  have hj:b≠S.nx:=fun e'=>by rw [e',hn] at hk';cases hk'
  simp only [ab,Ne.symm hi,Ne.symm hj,if_false,cK] at hba hbb
  rw [cJ (hoth a hi)] at hk
  rw [cJ (hoth b hj)] at hk'
  have back: ∀{x:Nat} {bx:Blk},(if j=x then some (Blk.var n' true (.agg (l.set o (.own S.nx)))) else ab S.H x)=some bx→aU bx=true→ ∃b',ab S.H x=some b'∧aU b'=true:=by
   intro x bx hx hp
   split at hx
   ·rename_i e;subst e;exact ⟨_,h,rfl⟩
   ·exact ⟨bx,hx,hp⟩
  obtain ⟨ba',h1,h2⟩:=back hba hpa
  obtain ⟨bb',h3,h4⟩:=back hbb hpb
  exact hs.1.sep a b ba' bb' k hab h1 h3 h2 h4 hk hk'
 ·intro i hi
  have:i≠S.nx:=fun e=>by subst e;simp only at hi;omega
  rw [hoth i this]
  exact hs.2 i (by simp only at hi;omega)
theorem nh {E:Env} {S:St} (j o T:Nat) {n' n:Nat} {g:Bool} {l:List V} (h:ab S.H j=some (.var n' true (.agg l))) (ho:l[o]? =some (.sl (some true) n g [])) (hg:g=false→n=1):
  ca E S ⟨S.F,(S.nx,.own T n g (some true) [])::cT S.H j (.var n' true (.agg (l.set o (.own S.nx)))),S.nx+1⟩:=(Cr j o T h ho hg).weak
theorem J3 {E:Env} {S:St} (j T:Nat) {n:Nat} {g:Bool} (h:ab S.H j=some (.var 1 false (.sl (some true) n g []))) (hg:g=false→n=1):
  im E S ⟨S.F,(S.nx,.own T n g (some true) [])::cT S.H j (.var 1 false (.own S.nx)),S.nx+1⟩:=by
 intro c0 c ρ F hs
 have hf:ρ S.nx=none:=hs.2 _ (Nat.le_refl _)
 have hro:gy ρ (fun i=>if i=S.nx then some (.slice none 0 0) else ρ i):=mQ hf fun i hi=>by simp [hi]
 have hat:(fun i=>if i=S.nx then some (Value.slice none 0 0) else ρ i) S.nx=some (.slice none 0 0):=by simp
 have hoth: ∀i,i≠S.nx→(fun i=>if i=S.nx then some (Value.slice none 0 0) else ρ i) i=ρ i:=fun i hi=>by simp [hi]
 generalize (fun i=>if i=S.nx then some (Value.slice none 0 0) else ρ i)=ρ' at hro hat hoth
 obtain ⟨b0,g1,g2,g3⟩:=hs.1.heap _ _ h
 have hjn:j≠S.nx:=fun e=>by rw [e,hf] at g1;cases g1
 refine ⟨c,ρ',rfl,Cx.pub.refl _,hro,⟨hs.1.since,hs.1.gl,fun t v ht=>cZ hro (hs.1.slot t v ht),?_,?_⟩,?_⟩
 ·intro i b hb
  simp only [ab] at hb
  split at hb
  ·rename_i e';subst e';cases hb
   exact ⟨_,hat,Own.nil,fun k hk=>by simp [blk] at hk,hg,none,0,rfl,rfl,rfl⟩
  ·rename_i hin
   rw [cK] at hb
   split at hb
   ·rename_i e';subst e';cases hb
    obtain ⟨hX,T',cs,hh,hsh,hrd⟩:=g3
    refine ⟨b0,by rw [hoth _ hjn];exact g1,g2,hX,T',cs,hh,hsh,?_⟩
    have e:mkV false cs.toList= .slice none 0 0:=by
     simp only [rd,zOk] at hrd
     obtain ⟨a,cap,e,_,⟨rfl,rfl⟩,_⟩:=hrd
     exact e
    rw [e]
    exact ⟨hat,rfl⟩
   ·exact ln hro (hs.1.heap i b hb)
 ·intro a b ba bb k hab hba hbb hpa hpb hk hk'
  have hn:ak ρ' S.nx=none:=by simp [ak,hat,blk]
  have hi:a≠S.nx:=fun e'=>by rw [e',hn] at hk;cases hk
  have hj:b≠S.nx:=fun e'=>by rw [e',hn] at hk';cases hk'
  simp only [ab,Ne.symm hi,Ne.symm hj,if_false,cK] at hba hbb
  rw [cJ (hoth a hi)] at hk
  rw [cJ (hoth b hj)] at hk'
  have back: ∀{x:Nat} {bx:Blk},(if j=x then some (Blk.var 1 false (.own S.nx)) else ab S.H x)=some bx→aU bx=true→ ∃b',ab S.H x=some b'∧aU b'=true:=by
   intro x bx hx hp
   split at hx
   ·rename_i e;subst e;exact ⟨_,h,rfl⟩
   ·exact ⟨bx,hx,hp⟩
  obtain ⟨ba',h1,h2⟩:=back hba hpa
  obtain ⟨bb',h3,h4⟩:=back hbb hpb
  exact hs.1.sep a b ba' bb' k hab h1 h3 h2 h4 hk hk'
 ·intro i hi
  have:i≠S.nx:=fun e=>by subst e;simp only at hi;omega
  rw [hoth i this]
  exact hs.2 i (by simp only at hi;omega)
theorem J4 {E:Env} {S:St} (j T:Nat) {n:Nat} {g:Bool} (h:ab S.H j=some (.var 1 false (.sl (some true) n g []))) (hg:g=false→n=1):
  ca E S ⟨S.F,(S.nx,.own T n g (some true) [])::cT S.H j (.var 1 false (.own S.nx)),S.nx+1⟩:=(J3 j T h hg).weak
end Go.Proofs.YteibkofekpejgaaGreatDoor
namespace Go.Proofs.YteibkofekpejgaaGreatDoor
open Go.RowKit
@[go_sem] theorem PE {α:Type} {a:α} {l m:List α}:List.append (a::l) m=a::List.append l m:=Eq.trans rfl rfl
@[go_sem] theorem PF {α:Type} {m:List α}:List.append [] m=m:=Eq.trans rfl rfl
attribute [go_sem] Int.cast_ofNat_Int
@[go_sem] theorem PG {l:List UInt8}:(l.toArray.size≤LEN)=(l.length≤1073741824):=by rw [List.size_toArray];rfl
theorem spQ {P Q:Prop} (h:Q) (e:P=Q:=by (simp only [go_sem,co,cq,List.length_replicate,b_,Int.toNat_natCast,↓reduceIte,Nat.reduceEqDiff,Nat.reduceAdd,Int.reduceAdd,Nat.reduceMul,Nat.reduceLeDiff,Nat.reduceLT,Int.reduceLE,Int.reduceLT,Int.reduceNeg,Int.reduceToNat];rfl)):P:=e▸h
theorem ap {A P Q:Prop} (a:A) (h:Q) (e:A→P=Q:=by (intro hA;simp only [go_sem,co,cq,List.length_replicate,b_,Int.toNat_natCast,↓reduceIte,Nat.reduceEqDiff,Nat.reduceAdd,Int.reduceAdd,Nat.reduceMul,Nat.reduceLeDiff,Nat.reduceLT,Int.reduceLE,Int.reduceLT,Int.reduceNeg,Int.reduceToNat,hA];rfl)):P:=e a▸h
theorem clQ {P:Prop} (h:P:=by (simp only [go_sem,co,cq,List.length_replicate,b_,Int.toNat_natCast,↓reduceIte,Nat.reduceEqDiff,Nat.reduceAdd,Int.reduceAdd,Nat.reduceMul,Nat.reduceLeDiff,Nat.reduceLT,Int.reduceLE,Int.reduceLT,Int.reduceNeg,Int.reduceToNat,je,jf,Int.reduceSub,or_self,or_true,true_or]<;>fail)):P:=h
theorem an {A P:Prop} (a:A) (h:A→P:=by (intro hA;simp only [go_sem,co,cq,List.length_replicate,b_,Int.toNat_natCast,↓reduceIte,Nat.reduceEqDiff,Nat.reduceAdd,Int.reduceAdd,Nat.reduceMul,Nat.reduceLeDiff,Nat.reduceLT,Int.reduceLE,Int.reduceLT,Int.reduceNeg,Int.reduceToNat,je,jf,Int.reduceSub,or_self,or_true,true_or,hA]<;>fail)):P:=h a
theorem lfQ {P:Prop} (h:P:=by (simp only [go_sem,co,cq,List.length_replicate,b_,Int.toNat_natCast,↓reduceIte,Nat.reduceEqDiff,Nat.reduceAdd,Int.reduceAdd,Nat.reduceMul,Nat.reduceLeDiff,Nat.reduceLT,Int.reduceLE,Int.reduceLT,Int.reduceNeg,Int.reduceToNat,je,jf,Int.reduceSub,or_self,or_true,true_or]<;>fail)):P:=h
theorem cr {A P:Prop} (a:A) (h:A→P:=by (intro hA;simp only [go_sem,co,cq,List.length_replicate,b_,Int.toNat_natCast,↓reduceIte,Nat.reduceEqDiff,Nat.reduceAdd,Int.reduceAdd,Nat.reduceMul,Nat.reduceLeDiff,Nat.reduceLT,Int.reduceLE,Int.reduceLT,Int.reduceNeg,Int.reduceToNat,je,jf,Int.reduceSub,or_self,or_true,true_or,hA]<;>fail)):P:=h a
theorem sbQ {P:Prop} (h:P:=by (simp only [go_sem,co,cq,List.length_replicate,b_,Int.toNat_natCast,↓reduceIte,Nat.reduceEqDiff,Nat.reduceAdd,Int.reduceAdd,Nat.reduceMul,Nat.reduceLeDiff,Nat.reduceLT,Int.reduceLE,Int.reduceLT,Int.reduceNeg,Int.reduceToNat,ng,pB,sZ,dL,dM,mtO,mtB,mt,mtL,lz,ly,ltV,ltL,ltB,eq_self,or_true,true_or,or_self,and_self]<;>fail)):P:=h
theorem Cs {A P:Prop} (a:A) (h:A→P:=by (intro hA;simp only [go_sem,co,cq,List.length_replicate,b_,Int.toNat_natCast,↓reduceIte,Nat.reduceEqDiff,Nat.reduceAdd,Int.reduceAdd,Nat.reduceMul,Nat.reduceLeDiff,Nat.reduceLT,Int.reduceLE,Int.reduceLT,Int.reduceNeg,Int.reduceToNat,ng,pB,sZ,dL,dM,mtO,mtB,mt,mtL,lz,ly,ltV,ltL,ltB,eq_self,or_true,true_or,or_self,and_self,hA]<;>fail)):P:=h a
theorem alQ {P:Prop} (h:P:=by first|(simp only [go_sem,co,cq,List.length_replicate,b_,Int.toNat_natCast,↓reduceIte,Nat.reduceEqDiff,Nat.reduceAdd,Int.reduceAdd,Nat.reduceMul,Nat.reduceLeDiff,Nat.reduceLT,Int.reduceLE,Int.reduceLT,Int.reduceNeg,Int.reduceToNat,List.all_nil,List.all_cons];done)|rfl):P:=h
theorem nzQ {P Q:Prop} (h:P) (e:P=Q:=by first|(simp only [decide_eq_true_eq,decide_eq_false_iff_not,Bool.and_eq_true,Bool.or_eq_true,Bool.not_eq_true',Bool.not_eq_false',beq_iff_eq,bne_iff_ne,beq_eq_false_iff_ne,bne_eq_false_iff_eq,ne_eq,Int.not_lt,Int.not_le,gt_iff_lt,ge_iff_le,List.length_map,wfL,wfV,and_true,true_and,fU,xh,xi,xj,xk,pu,nd,List.length_append,List.length_cons,List.length_nil,List.length_replicate,b_,px,py,pz,dc,nf,xl];rfl)|rfl):Q:=e▸h
theorem omQ {P:Prop} (h:P:=by (clear hM;(try simp only [List.length_map,List.length_set,pu,nd,List.length_append,List.length_cons,List.length_nil,List.length_replicate,b_,px,py,pz,dc,nf,decide_eq_true_eq])<;>omega)):P:=h
theorem ao {P:Prop} (h:P:=by ((try simp only [List.length_map,List.length_set,pu,nd,List.length_append,List.length_cons,List.length_nil,List.length_replicate,b_,px,py,pz,dc,nf,decide_eq_true_eq])<;>omega)):P:=h
theorem pfQ {P:Prop} (h:P:=by (clear hM;first|omega|(simp only [decide_eq_true_eq,decide_eq_false_iff_not,Bool.and_eq_true,Bool.or_eq_true,Bool.not_eq_true',Bool.not_eq_false',beq_iff_eq,bne_iff_ne,beq_eq_false_iff_ne,bne_eq_false_iff_eq,ne_eq,Int.not_lt,Int.not_le,gt_iff_lt,ge_iff_le,List.length_map,wfL,wfV,and_true,true_and,fU,xh,xi,xj,xk,pu,nd,List.length_append,List.length_cons,List.length_nil,List.length_replicate,b_,px,py,pz,dc,nf,xl] at*;omega))):P:=h
theorem spR {P Q:Prop} (h:P) (e:P=Q:=by first|(simp only [go_sem,co,cq,List.length_replicate,b_,Int.toNat_natCast,↓reduceIte,Nat.reduceEqDiff,Nat.reduceAdd,Int.reduceAdd,Nat.reduceMul,Nat.reduceLeDiff,Nat.reduceLT,Int.reduceLE,Int.reduceLT,Int.reduceNeg,Int.reduceToNat];rfl)|rfl):Q:=e▸h
end Go.Proofs.YteibkofekpejgaaGreatDoor
namespace Go.Proofs.YteibkofekpejgaaGreatDoor
open Go.RowKit
section
variable {E:Env} {J:bV} {k:List Ct} {S S1:St} {c0 c:Cx} {ρ:Ro} {F:Fm}
mutual
def ren (s:Nat→Nat):V→V
 | .own i=> .own (s i)
 | .ptr i o=> .ptr (s i) o
 | .optr i m k o=> .optr (s i) m k o
 | .osub i m k o=> .osub (s i) m k o
 | .agg l=> .agg (jh s l)
 | .tup l=> .tup (jh s l)
 | .fn f l=> .fn f (jh s l)
 | v=>v
def jh (s:Nat→Nat):List V→List V
 | []=> []
 | d::l=>ren s d::jh s l
end
mutual
theorem s9 {ρ':Ro} {s:Nat→Nat} (k: ∀i v,ρ i=some v→ρ' (s i)=some v): ∀{d:V} {v:Value},rd ρ c d v→rd ρ' c (ren s d) v
 | .int _ _,_,h=>h
 | .bool _,_,h=>h
 | .ifc _,_,h=>h
 | .str _,_,h=>h
 | .agg l,v,h=>by
  simp only [rd,ren] at h⊢
  obtain ⟨cs,e,h⟩:=h
  exact ⟨cs,e,Cu k h⟩
 | .sl z n g l,v,h=>h
 | .pp n g d,v,h=>h
 | .own _,_,h=>⟨k _ _ h.1,h.2⟩
 | .ptr _ _,_,h=>by
  simp only [rd,ren] at h⊢
  obtain ⟨b,h1,h2⟩:=h
  exact ⟨b,k _ _ h1,h2⟩
 | .optr _ _ _ _,_,h=>by
  simp only [rd,ren] at h⊢
  obtain ⟨u,h1,h2⟩:=h
  exact ⟨u,k _ _ h1,h2⟩
 | .osub _ _ _ _,_,h=>by
  simp only [rd,ren] at h⊢
  obtain ⟨u,h1,h2⟩:=h
  exact ⟨u,k _ _ h1,h2⟩
 | .tup l,v,h=>by
  simp only [rd,ren] at h⊢
  obtain ⟨cs,e,h⟩:=h
  exact ⟨cs,e,xr k h⟩
 | .fn f l,v,h=>by
  simp only [rd,ren] at h⊢
  obtain ⟨cs,e,h⟩:=h
  exact ⟨cs,e,xr k h⟩
 | .opq p,v,h=>h
 | .un,_,_=>trivial
theorem Cu {ρ':Ro} {s:Nat→Nat} (k: ∀i v,ρ i=some v→ρ' (s i)=some v): ∀{l:List V} {cs:List Value},rdC ρ c l cs→rdC ρ' c (jh s l) cs
 | [],_,h=>h
 | d::l,cs,h=>by
  simp only [rdC,jh] at h⊢
  obtain ⟨u,c2,e,h1,h2,h3⟩:=h
  exact ⟨u,c2,e,h1,s9 k h2,Cu k h3⟩
theorem xr {ρ':Ro} {s:Nat→Nat} (k: ∀i v,ρ i=some v→ρ' (s i)=some v): ∀{l:List V} {cs:List Value},rdT ρ c l cs→rdT ρ' c (jh s l) cs
 | [],_,h=>h
 | d::l,cs,h=>by
  simp only [rdT,jh] at h⊢
  obtain ⟨u,c2,e,h2,h3⟩:=h
  exact ⟨u,c2,e,s9 k h2,xr k h3⟩
end
def ip (s:Nat→Nat):Blk→Blk
 | .var n g d=> .var n g (ren s d)
 | b=>b
def fk (s:Nat→Nat):List Blk→List Blk
 | []=> []
 | b::l=>ip s b::fk s l
theorem xt {s:Nat→Nat}: ∀{l:List Blk} {j:Nat},(fk s l)[j]? =(l[j]?).map (ip s)
 | [],j=>by simp [fk]
 | b::l,0=>by simp [fk]
 | b::l,j+1=>by simp [fk,xt (l:=l)]
mutual
def prV (p:Nat→Bool):V→V
 | .own i=>bif p i then .un else .own i
 | .ptr i o=>bif p i then .un else .ptr i o
 | .optr i n k o=>bif p i then .un else .optr i n k o
 | .osub i n k o=>bif p i then .un else .osub i n k o
 | .agg l=> .agg (prL p l)
 | .tup l=> .tup (prL p l)
 | .fn f l=> .fn f (prL p l)
 | v=>v
def prL (p:Nat→Bool):List V→List V
 | []=> []
 | d::l=>prV p d::prL p l
end
mutual
theorem ni {ρ':Ro} {p:Nat→Bool} (k: ∀i v,p i=false→ρ i=some v→ρ' i=some v): ∀{d:V} {v:Value},rd ρ c d v→rd ρ' c (prV p d) v
 | .int _ _,_,h=>h
 | .bool _,_,h=>h
 | .ifc _,_,h=>h
 | .str _,_,h=>h
 | .agg l,v,h=>by
  simp only [rd,prV] at h⊢
  obtain ⟨cs,e,h⟩:=h
  exact ⟨cs,e,Cv k h⟩
 | .sl z n g l,v,h=>h
 | .pp n g d,v,h=>h
 | .own i,v,h=>by
  simp only [prV]
  cases hp:p i with
  | true=>trivial
  | false=>exact ⟨k _ _ hp h.1,h.2⟩
 | .ptr i o,v,h=>by
  simp only [prV]
  cases hp:p i with
  | true=>trivial
  | false=>
   simp only [cond_false,rd] at h⊢
   obtain ⟨b,h1,h2⟩:=h
   exact ⟨b,k _ _ hp h1,h2⟩
 | .optr i n j o,v,h=>by
  simp only [prV]
  cases hp:p i with
  | true=>trivial
  | false=>
   simp only [cond_false,rd] at h⊢
   obtain ⟨u,h1,h2⟩:=h
   exact ⟨u,k _ _ hp h1,h2⟩
 | .osub i n j o,v,h=>by
  simp only [prV]
  cases hp:p i with
  | true=>trivial
  | false=>
   simp only [cond_false,rd] at h⊢
   obtain ⟨u,h1,h2⟩:=h
   exact ⟨u,k _ _ hp h1,h2⟩
 | .tup l,v,h=>by
  simp only [rd,prV] at h⊢
  obtain ⟨cs,e,h⟩:=h
  exact ⟨cs,e,xu k h⟩
 | .fn f l,v,h=>by
  simp only [rd,prV] at h⊢
  obtain ⟨cs,e,h⟩:=h
  exact ⟨cs,e,xu k h⟩
 | .opq p,v,h=>h
 | .un,_,_=>trivial
theorem Cv {ρ':Ro} {p:Nat→Bool} (k: ∀i v,p i=false→ρ i=some v→ρ' i=some v): ∀{l:List V} {cs:List Value},rdC ρ c l cs→rdC ρ' c (prL p l) cs
 | [],_,h=>h
 | d::l,cs,h=>by
  simp only [rdC,prL] at h⊢
  obtain ⟨u,c2,e,h1,h2,h3⟩:=h
  exact ⟨u,c2,e,h1,ni k h2,Cv k h3⟩
theorem xu {ρ':Ro} {p:Nat→Bool} (k: ∀i v,p i=false→ρ i=some v→ρ' i=some v): ∀{l:List V} {cs:List Value},rdT ρ c l cs→rdT ρ' c (prL p l) cs
 | [],_,h=>h
 | d::l,cs,h=>by
  simp only [rdT,prL] at h⊢
  obtain ⟨u,c2,e,h2,h3⟩:=h
  exact ⟨u,c2,e,ni k h2,xu k h3⟩
end
theorem Cw {p:Nat→Bool}: ∀{l:List V},prL p l=l.map (prV p)
 | []=>rfl
 | d::l=>by simp only [prL,List.map_cons,Cw]
def prB (p:Nat→Bool):Blk→Blk
 | .var n g d=> .var n g (prV p d)
 | .lent k n g d=> .lent k n g (prV p d)
 | .ownI E n g z l=> .ownI E n g z (prL p l)
 | b=>b
def prF (p:Nat→Bool):List (Nat×V)→List (Nat×V)
 | []=> []
 | (t,v)::l=>(t,prV p v)::prF p l
def prH (p:Nat→Bool):List (Nat×Blk)→List (Nat×Blk)
 | []=> []
 | (t,b)::l=>(t,prB p b)::prH p l
theorem Cy {p:Nat→Bool}: ∀{l:List (Nat×V)} {t:Nat},ab (prF p l) t=(ab l t).map (prV p)
 | [],_=>rfl
 | (k,v)::l,t=>by
  simp only [prF,ab]
  split
  ·rfl
  ·exact Cy
theorem Cz {p:Nat→Bool}: ∀{l:List (Nat×Blk)} {t:Nat},ab (prH p l) t=(ab l t).map (prB p)
 | [],_=>rfl
 | (k,v)::l,t=>by
  simp only [prH,ab]
  split
  ·rfl
  ·exact Cz
theorem J5 {p:Nat→Bool} {b:Blk}:aU (prB p b)=aU b:=by cases b<;>rfl
theorem CA {i:Nat} {b:Blk} (h:blkOk c0 c ρ i b): ∃v,ρ i=some v:=by
 cases b with
 | var n g d=>obtain ⟨b,h1,_⟩:=h;exact ⟨_,h1⟩
 | own E n g z l=>obtain ⟨v,h1,_⟩:=h;exact ⟨_,h1⟩
 | ownI E n g z l=>obtain ⟨v,h1,_⟩:=h;exact ⟨_,h1⟩
 | pvar n g d=>obtain ⟨b,h1,_⟩:=h;exact ⟨_,h1⟩
 | kset g k n l=>obtain ⟨r,h1,_⟩:=h;exact ⟨_,h1⟩
 | pown n g z l=>obtain ⟨v,h1,_⟩:=h;exact ⟨_,h1⟩
 | lent k n g d=>exact ⟨_,h.1⟩
def eU (k:Nat):Blk→Blk
 | .var n g d=> .lent k n g d
 | b=>b
def bz (ks:Nat→Nat):Nat→List Blk→List Blk
 | _,[]=> []
 | i,b::l=>eU (ks i) b::bz ks (i+1) l
theorem nj {ks:Nat→Nat}: ∀{l:List Blk} {i j:Nat},(bz ks i l)[j]? =(l[j]?).map (eU (ks (i+j)))
 | [],i,j=>by simp [bz]
 | b::l,i,0=>by simp [bz]
 | b::l,i,j+1=>by simp [bz,nj (l:=l),Nat.add_comm,Nat.add_left_comm,Nat.add_assoc]
theorem tc {ks:Nat→Nat}: ∀{l:List Blk} {i:Nat},(bz ks i l).length=l.length
 | [],i=>rfl
 | b::l,i=>by simp [bz,tc (l:=l)]
def nk (c0 c:Cx) (ρ:Ro) (H:List Blk):Prop:=
 (∀i b,H[i]? =some b→blkOk c0 c ρ i b)∧(∀i,H.length≤i→ρ i=none)∧
  ∀i j bi bj k,i≠j→H[i]? =some bi→H[j]? =some bj→ak ρ i=some k→ak ρ j≠some k
def iq:List Blk→List Blk→Bool
 | [],[]=>true
 | .var _ _ _::l,.var _ _ _::m=>iq l m
 | .own _ _ _ _ _::l,.own _ _ _ _ _::m=>iq l m
 | _,_=>false
def lI:List Blk→Bool
 | []=>true
 | .own _ _ _ _ _::l=>lI l
 | _=>false
def ji:Blk→Prop
 | .var _ _ _=>True
 | _=>False
def eE:Blk→Prop
 | .own _ _ _ _ _=>True
 | _=>False
theorem xv: ∀{l m:List Blk},iq l m=true→l.length=m.length∧ ∀(j:Nat) (b b':Blk),l[j]? =some b→m[j]? =some b'→(ji b∧ji b')∨(eE b∧eE b')
 | [],[],_=>⟨rfl,by simp⟩
 | a::l,a'::m,h=>by
  have key:iq l m=true∧((ji a∧ji a')∨(eE a∧eE a')):=by
   cases a<;>cases a'<;>simp only [iq] at h<;>first
    | exact ⟨h,.inl ⟨trivial,trivial⟩⟩
    | exact ⟨h,.inr ⟨trivial,trivial⟩⟩
    | cases h
  obtain ⟨h1,h2⟩:=xv key.1
  refine ⟨by simp [h1],fun j b b' hb hb'=> ?_⟩
  cases j with
  | zero=>simp at hb hb';subst hb hb';exact key.2
  | succ j=>exact h2 j b b' (by simpa using hb) (by simpa using hb')
 | [],_::_,h=>by simp [iq] at h
 | a::_,[],h=>by cases a<;>simp [iq] at h
theorem xw: ∀{l:List Blk},lI l=true→ ∀(j:Nat) (b:Blk),l[j]? =some b→eE b
 | [],_,j,b,hb=>by simp at hb
 | a::l,h,j,b,hb=>by
  have key:lI l=true∧eE a:=by
   cases a<;>simp only [lI] at h<;>first
    | exact ⟨h,trivial⟩
    | cases h
  cases j with
  | zero=>simp at hb;subst hb;exact key.2
  | succ j=>exact xw key.1 j b (by simpa using hb)
def td (E:Env) (c:Cx) (r:V) (H:List Blk):Ending→World→Prop:=fun e w'=> ∃v c' ρ,e= .returned v∧c'.w=w'∧c.leY c'∧rd ρ c' r v∧nk c c' ρ H
def ee (E:Env) (f:FuncId) (ws:List V) (Hin:List Blk) (r:V) (Hout Hnew:List Blk):Prop:=
 (∀aas w,(callFunc f aas).run E.P w= .ok (.enter f aas) w)∧(iq Hin Hout&&lI Hnew)=true∧
  ∀(c:Cx) (us:List Value) (ρ0:Ro) (ks:Nat→Nat),Gl E c→nk c c ρ0 (bz ks 0 Hin)→rdT ρ0 c ws us→Calls E.P f us.toArray c.w (td E c r (bz ks 0 Hout++Hnew))
mutual
def inV (H:List (Nat×Blk)) (ids:List Nat):V→V
 | .own i=>match dv ids i 0 with
  | some j=> .own j
  | none=>xo (ab H i)
 | .ptr i o=>match dv ids i 0 with
  | some j=> .ptr j o
  | none=>s4 o (ab H i)
 | .optr _ _ _ _=> .un
 | .osub _ _ _ _=> .un
 | .agg l=> .agg (fE H ids l)
 | .tup l=> .tup (fE H ids l)
 | .fn f l=> .fn f (fE H ids l)
 | v=>v
def fE (H:List (Nat×Blk)) (ids:List Nat):List V→List V
 | []=> []
 | d::l=>inV H ids d::fE H ids l
end
theorem te {i:Nat} {v:Value} (h:ro0 i=some v):False:=by cases h
mutual
theorem tf {ids:List Nat} (h:Sim E c0 c ρ S F): ∀{d:V} {v:Value},rd ρ c d v→rd (bS ρ ids) c (inV S.H ids d) v
 | .int _ _,_,hr=>hr
 | .bool _,_,hr=>hr
 | .ifc _,_,hr=>hr
 | .str _,_,hr=>hr
 | .agg l,v,hr=>by
  simp only [rd,inV] at hr⊢
  obtain ⟨cs,e,hr⟩:=hr
  exact ⟨cs,e,CB h hr⟩
 | .sl z n g l,v,hr=>hr
 | .pp n g d,v,hr=>hr
 | .own i,v,hr=>by
  simp only [inV]
  cases hp:dv ids i 0 with
  | some j=>
   simp only [rd] at hr⊢
   obtain ⟨_,h2⟩:=lE hp
   exact ⟨by simp only [bS];rw [show j - 0=j from rfl] at h2;rw [h2];exact hr.1,hr.2⟩
  | none=>exact cZ (fun i v hi=>(te hi).elim) (s5 (d:= .own i) h hr)
 | .ptr i o,v,hr=>by
  simp only [inV]
  cases hp:dv ids i 0 with
  | some j=>
   simp only [rd] at hr⊢
   obtain ⟨b,h1,h3⟩:=hr
   obtain ⟨_,h2⟩:=lE hp
   exact ⟨b,by simp only [bS];rw [show j - 0=j from rfl] at h2;rw [h2];exact h1,h3⟩
  | none=>exact cZ (fun i v hi=>(te hi).elim) (s5 (d:= .ptr i o) h hr)
 | .optr _ _ _ _,_,_=>trivial
 | .osub _ _ _ _,_,_=>trivial
 | .tup l,v,hr=>by
  simp only [rd,inV] at hr⊢
  obtain ⟨cs,e,hr⟩:=hr
  exact ⟨cs,e,nl h hr⟩
 | .fn f l,v,hr=>by
  simp only [rd,inV] at hr⊢
  obtain ⟨cs,e,hr⟩:=hr
  exact ⟨cs,e,nl h hr⟩
 | .opq p,v,hr=>hr
 | .un,_,_=>trivial
theorem CB {ids:List Nat} (h:Sim E c0 c ρ S F): ∀{l:List V} {cs:List Value},rdC ρ c l cs→rdC (bS ρ ids) c (fE S.H ids l) cs
 | [],_,hr=>hr
 | d::l,cs,hr=>by
  simp only [rdC,fE] at hr⊢
  obtain ⟨u,c2,e,h1,h2,h3⟩:=hr
  exact ⟨u,c2,e,h1,tf h h2,CB h h3⟩
theorem nl {ids:List Nat} (h:Sim E c0 c ρ S F): ∀{l:List V} {cs:List Value},rdT ρ c l cs→rdT (bS ρ ids) c (fE S.H ids l) cs
 | [],_,hr=>hr
 | d::l,cs,hr=>by
  simp only [rdT,fE] at hr⊢
  obtain ⟨u,c2,e,h2,h3⟩:=hr
  exact ⟨u,c2,e,tf h h2,nl h h3⟩
end
theorem CC {T n:Nat} {g:Bool} {l l':List V} {v:Value} (h:Own c T v (rV ro0 n g) l) (hm:mtL l l'):Own c T v (rV ro0 n g) l':=by
 have e:=jS hm
 refine ⟨by rw [←e];exact h.1,?_⟩
 rcases h.2 with ⟨a,h1,h2⟩|⟨g',cp,cur,h1,h2,h3,h4,h5,h6,h7⟩
 ·subst h2
  cases l' with
  | nil=>exact .inl ⟨a,h1,rfl⟩
  | cons x l'=>simp [mtL] at hm
 ·exact .inr ⟨g',cp,cur,by rw [←e];exact h1,h2,h3,by rw [←e];exact h4,h5,h6,by rw [←e];exact er.1 (sv hm (er.2 h7))⟩
def inO (H:List (Nat×Blk)) (ids:List Nat):Option Blk→Blk→Prop
 | some (.own T n g z l),.own T' n' g' z' l'=>T=T'∧n=n'∧g=g'∧mtZ z z'∧mtL l l'
 | some (.var n g d),.var n' g' d'=>n=n'∧g=g'∧mt (inV H ids d) d'
 | some (.lent _ n g d),.var n' g' d'=>n=n'∧g=g'∧mt (inV H ids d) d'
 | _,_=>False
def fF (H:List (Nat×Blk)) (ids:List Nat):List Nat→List Blk→Prop
 | [],[]=>True
 | i::l,b::m=>inO H ids (ab H i) b∧fF H ids l m
 | _,_=>False
theorem pE {H:List (Nat×Blk)} {ids:List Nat}: ∀{l:List Nat} {m:List Blk},fF H ids l m→l.length=m.length∧ ∀(j i:Nat) (b:Blk),l[j]? =some i→m[j]? =some b→inO H ids (ab H i) b
 | [],[],_=>⟨rfl,by simp⟩
 | i::l,b::m,h=>by
  simp only [fF] at h
  obtain ⟨h1,h2⟩:=pE h.2
  refine ⟨by simp [h1],fun j i' b' hi hb=> ?_⟩
  cases j with
  | zero=>simp at hi hb;subst hi hb;exact h.1
  | succ j=>exact h2 j i' b' (by simpa using hi) (by simpa using hb)
 | [],_::_,h=>by simp [fF] at h
 | _::_,[],h=>by simp [fF] at h
def eF (H:List (Nat×Blk)):List Nat→List Nat
 | []=> []
 | i::l=>ownI1 (ab H i) i (eF H l)
where ownI1:Option Blk→Nat→List Nat→List Nat
 | some (.own _ _ _ _ _),i,l=>i::l
 | _,_,l=>l
theorem CD {H:List (Nat×Blk)} {i:Nat} {T n:Nat} {g:Bool} {z:Option Bool} {m:List V} (hb:ab H i=some (.own T n g z m)): ∀{l:List Nat},i∈l→i∈eF H l
 | j::l,h=>by
  simp only [eF]
  rcases List.mem_cons.1 h with rfl|h
  ·rw [hb];simp [eF.ownI1]
  ·have:=CD hb h
   unfold eF.ownI1
   split
   ·exact List.mem_cons_of_mem _ this
   ·exact this
def sg (ids:List Nat) (nx j:Nat):Nat:=match ids[j]? with
 | some i=>i
 | none=>nx+(j - ids.length)
def jj:Option Blk→Blk→Blk
 | some (.lent k _ _ _),.var n g d=> .lent k n g d
 | _,b=>b
def gL (H0:List (Nat×Blk)):List (Nat×Blk)→List Nat→List Blk→List (Nat×Blk)
 | h,i::l,b::m=>gL H0 (cT h i (jj (ab H0 i) b)) l m
 | h,_,_=>h
theorem xx {H0:List (Nat×Blk)} {i:Nat}: ∀{l:List Nat} {m:List Blk} {h:List (Nat×Blk)},i∉l→ab (gL H0 h l m) i=ab h i
 | [],[],_,_=>rfl
 | [],_::_,_,_=>rfl
 | _::_,[],_,_=>rfl
 | j::l,b::m,h,hi=>by
  simp only [List.mem_cons,not_or] at hi
  simp only [gL]
  rw [xx hi.2,cK,if_neg (Ne.symm hi.1)]
theorem CE {H0:List (Nat×Blk)} {i:Nat} {b:Blk}: ∀{l:List Nat} {m:List Blk} {h:List (Nat×Blk)} {j:Nat},l.Nodup→l[j]? =some i→m[j]? =some b→ab (gL H0 h l m) i=some (jj (ab H0 i) b)
 | [],_,_,j,_,hi,_=>by simp at hi
 | _::_,[],_,j,_,_,hb=>by simp at hb
 | x::l,y::m,h,0,hd,hi,hb=>by
  simp at hi hb
  subst hi hb
  simp only [gL]
  rw [xx (List.nodup_cons.1 hd).1,cK,if_pos rfl]
 | x::l,y::m,h,j+1,hd,hi,hb=>by
  simp only [gL]
  exact CE (List.nodup_cons.1 hd).2 (by simpa using hi) (by simpa using hb)
def St.afterI (S:St) (ids:List Nat) (Hout Hnew:List Blk) (d:Option Nat) (r:V):St:=
 St.put ⟨prF (bk (eF S.H ids)) S.F,gA S.nx 0 (fk (sg ids S.nx) Hnew)++gL S.H (prH (bk (eF S.H ids)) S.H) ids (fk (sg ids S.nx) Hout),S.nx+Hnew.length⟩ d (ren (sg ids S.nx) r)
def ro2 (ids:List Nat) (nx:Nat) (ρ ρr:Ro):Ro:=fun i=>match dv ids i 0 with
 | some j=>ρr j
 | none=>if i<nx then ρ i else ρr (ids.length+(i - nx))
theorem J6 {ids:List Nat} {i j:Nat} (hd:ids.Nodup) (h:ids[j]? =some i):dv ids i 0=some j:=by
 cases hp:dv ids i 0 with
 | none=>exact absurd (List.mem_of_getElem? h) (xp hp)
 | some q=>
  obtain ⟨_,h2⟩:=lE hp
  rw [pD hd h h2]
  rfl
theorem CG {ids:List Nat} {i:Nat} (h:i∉ids):dv ids i 0=none:=by
 cases hp:dv ids i 0 with
 | none=>rfl
 | some q=>
  obtain ⟨_,h2⟩:=lE hp
  exact absurd (List.mem_of_getElem? h2) h
theorem tg {ids:List Nat} {nx i j:Nat} {ρr:Ro} (hd:ids.Nodup) (h:ids[j]? =some i):ro2 ids nx ρ ρr i=ρr j:=by
 simp only [ro2,J6 hd h]
theorem nm {ids:List Nat} {nx i:Nat} {ρr:Ro} (h:i∉ids) (hi:i<nx):ro2 ids nx ρ ρr i=ρ i:=by
 simp only [ro2,CG h,if_pos hi]
theorem CH {ids:List Nat} {nx i:Nat} {ρr:Ro} (h: ∀j∈ids,j<nx) (hi:nx≤i):ro2 ids nx ρ ρr i=ρr (ids.length+(i - nx)):=by
 have:i∉ids:=fun e=>by have:=h i e;omega
 simp only [ro2,CG this,if_neg (Nat.not_lt.2 hi)]
theorem J7 {ids:List Nat} {nx:Nat} {ρr:Ro} (hd:ids.Nodup) (h: ∀j∈ids,j<nx) (j:Nat):ro2 ids nx ρ ρr (sg ids nx j)=ρr j:=by
 unfold sg
 cases hj:ids[j]? with
 | some i=>exact tg hd hj
 | none=>
  have hle:=List.getElem?_eq_none_iff.1 hj
  rw [CH h (Nat.le_add_right _ _)]
  congr 1;omega
theorem Var.leY {α:Type} {c c':Cx} {b:Nat} {r:Rep α} {d:α} (h:c.leY c') (hp:c.pub c') (hb:b∉c.Y) (hv:Var c b r d):Var c' b r d:=by
 obtain ⟨h1,T,cs,h2,h3⟩:=hv
 have hlt:=c.ok b h1
 exact ⟨(h.old b hlt hb).2 h1,T,cs,(h.below.block b hlt hb).trans h2,r.mono h3 hp⟩
theorem Own.leY {α:Type} {c c':Cx} {E:TypeId} {v:Value} {r:Rep α} {l:List α} (ho:Own c E v r l) (h:c.leY c') (hp:c.pub c') (hb: ∀i,blk v=some i→i∉c.Y):Own c' E v r l:=by
 refine ⟨ho.1,?_⟩
 rcases ho.2 with h'|⟨g',cap,cur,rfl,h1,h2,h3,h4,h5,h6⟩
 ·exact .inl h'
 ·have hlt:=c.ok g' h1
  exact .inr ⟨g',cap,cur,rfl,(h.old g' hlt (hb g' rfl)).2 h1,(h.below.block g' hlt (hb g' rfl)).trans h2,h3,h4,h5,cR hp h6⟩
theorem eO.leY {c c':Cx} {r:Nat} {g:Bool} {k:IntKind} {n:Nat} {l:List (List Int)} (h:c.leY c') (hb:r∉c.Y) (hv:eO c r g k n l):eO c' r g k n l:=by
 obtain ⟨h1,h2,es,clock,h3,h4⟩:=hv
 have hlt:=c.ok r h1
 exact ⟨(h.old r hlt hb).2 h1,h2,es,clock,(h.below.block r hlt hb).trans h3,h4⟩
theorem J8 {Y:List Nat} {c':Cx} (h:(c.lend Y).leY c') (hp:c.pub c') {i:Nat} {b:Blk} (hne:aU b=true→ ∀x,ak ρ i=some x→x∉Y) (hb:blkOk c0 c ρ i b):blkOk c0 c' ρ i b:=by
 have hp':(c.lend Y).pub c':=⟨hp.size,fun k hk hx=>hp.keep k hk hx⟩
 cases b with
 | var n g d=>
  obtain ⟨b,h1,h2,h3⟩:=hb
  exact ⟨b,h1,h2,Var.leY h hp' (hne rfl b (by simp [ak,h1])) ((c.chg_lend Y).var (by simp) h3)⟩
 | own E n g z l=>
  obtain ⟨v,h1,h2,h3,h4,a,cap,e,h5⟩:=hb
  exact ⟨v,h1,(h2.chg (c.chg_lend Y) (by simp)).leY h hp' (fun x hx=>hne rfl x (by rw [dY h1 e];exact hx)),h3,h4,a,cap,e,h5⟩
 | ownI E n g z l=>
  obtain ⟨v,h1,h2,h3,h4,a,cap,e,h5⟩:=hb
  exact ⟨v,h1,(h2.chg (c.chg_lend Y) (by simp)).leY h hp' (fun x hx=>hne rfl x (by rw [dY h1 e];exact hx)),h3,h4,a,cap,e,h5⟩
 | kset g k' n l=>
  obtain ⟨r,h1,h2,h3⟩:=hb
  exact ⟨r,h1,h2,eO.leY h (hne rfl r (by simp [ak,h1,blk])) (h3.chg (c.chg_lend Y) (by simp))⟩
 | pvar n g d=>
  obtain ⟨b,h1,h2⟩:=hb
  exact ⟨b,h1,(jA _).mono h2 hp⟩
 | pown n g z l=>
  obtain ⟨v,h1,h2⟩:=hb
  exact ⟨v,h1,bn hp h2⟩
 | lent k' n g d=>
  obtain ⟨h1,h2,h3⟩:=hb
  exact ⟨h1,h2,Var.leY h hp' (hne rfl k' (by simp [ak,h1])) ((c.chg_lend Y).var (by simp) h3)⟩
theorem J9 {ρ':Ro} {p:Nat→Bool} {i:Nat} {b:Blk} (k: ∀i v,p i=false→ρ i=some v→ρ' i=some v) (hi: ∀v,ρ i=some v→ρ' i=some v) (h:blkOk c0 c ρ i b):blkOk c0 c ρ' i (prB p b):=by
 cases b with
 | var n g d=>
  obtain ⟨b,h1,h2,h3,T,cs,h4,h5,h6⟩:=h
  exact ⟨b,hi _ h1,h2,h3,T,cs,h4,h5,ni k h6⟩
 | own E n g z l=>
  obtain ⟨v,h1,h2⟩:=h
  exact ⟨v,hi _ h1,h2⟩
 | ownI E n g z l=>
  obtain ⟨v,h1,h2,h3,h4,h5⟩:=h
  simp only [prB,blkOk,Cw]
  exact ⟨v,hi _ h1,Own.rep (f:=prV p) (r:=rV ρ n g) (s:=rV ρ' n g) (fun {cs d} (h1:gZ n g cs∧rd ρ c d (mkV g cs))=>⟨h1.1,ni k h1.2⟩) rfl h2,h3,h4,by simpa using h5⟩
 | kset g k' n l=>
  obtain ⟨r,h1,h2⟩:=h
  exact ⟨r,hi _ h1,h2⟩
 | pvar n g d=>
  obtain ⟨b,h1,h2⟩:=h
  exact ⟨b,hi _ h1,h2⟩
 | pown n g z l=>
  obtain ⟨v,h1,h2⟩:=h
  exact ⟨v,hi _ h1,h2⟩
 | lent k' n g d=>
  obtain ⟨h1,h2,h3,T,cs,h4,h5,h6⟩:=h
  exact ⟨hi _ h1,h2,h3,T,cs,h4,h5,ni k h6⟩
def cP (ρ:Ro) (ids:List Nat):List Nat:=ids.filterMap (ak ρ)
def dw (ρ:Ro) (ids:List Nat) (j:Nat):Nat:=match ids[j]? with
 | some i=>(ak ρ i).getD 0
 | none=>0
theorem th {H:List (Nat×Blk)} {ids:List Nat} {o:Option Blk} {b:Blk} (h:inO H ids o b): ∃a,o=some a∧aU a=true∧(ji b∨eE b):=by
 unfold inO at h
 split at h
 ·exact ⟨_,rfl,rfl,.inr trivial⟩
 ·exact ⟨_,rfl,rfl,.inl trivial⟩
 ·exact ⟨_,rfl,rfl,.inl trivial⟩
 ·exact h.elim
theorem xy (h:Sim E c0 c ρ S F) {ids:List Nat} {Hin:List Blk} (hd:ids.Nodup) (hi:fF S.H ids ids Hin):
  nk (c.lend (cP ρ ids)) (c.lend (cP ρ ids)) (bS ρ ids) (bz (dw ρ ids) 0 Hin):=by
 obtain ⟨hlen,hget⟩:=pE hi
 have hro: ∀{j i:Nat},ids[j]? =some i→bS ρ ids j=ρ i:=fun {j i} hj=>by simp only [bS,hj]
 refine ⟨?_,?_,?_⟩
 ·intro j b hb
  rw [nj,Nat.zero_add] at hb
  cases hj:Hin[j]? with
  | none=>rw [hj] at hb;cases hb
  | some b0=>
   rw [hj] at hb
   simp only [Option.map_some,Option.some.injEq] at hb
   subst hb
   have hjl:j<ids.length:=by rw [hlen];exact (List.getElem?_eq_some_iff.1 hj).1
   obtain ⟨i,hji⟩: ∃i,ids[j]? =some i:=⟨_,List.getElem?_eq_getElem hjl⟩
   have hin:=hget j i b0 hji hj
   have hmem:i∈ids:=List.mem_of_getElem? hji
   have hY: ∀k,ak ρ i=some k→k∈cP ρ ids:=fun k hk=>List.mem_filterMap.2 ⟨i,hmem,hk⟩
   cases hS:ab S.H i with
   | none=>rw [hS] at hin;unfold inO at hin;exact hin.elim
   | some a=>
    have hblk:=h.heap i a hS
    rw [hS] at hin
    have hmy: ∀k,ak ρ i=some k→(c.lend (cP ρ ids)).mine k:=fun k hk=> .inr (hY k hk)
    unfold inO at hin
    split at hin
    ·rename_i T n g z l T' n' g' z' l' e
     cases e
     obtain ⟨rfl,rfl,rfl,hz,hml⟩:=hin
     obtain ⟨v,h1,h2,h3,h4,a,cap,es,h5⟩:=hblk
     exact ⟨v,(hro hji).trans h1,CC (h2.chg (c.chg_lend _) (by simp)) hml,fun k hk=>hmy k (by rw [dY h1 es];exact hk),h4,a,cap,by rw [←jS hml];exact es,lx hz h5⟩
    ·rename_i n g d n' g' d' e
     cases e
     obtain ⟨rfl,rfl,hm⟩:=hin
     obtain ⟨b,h1,h2,h3⟩:=hblk
     have hb:ak ρ i=some b:=by simp [ak,h1]
     have hk:dw ρ ids j=b:=by simp [dw,hji,hb]
     simp only [eU,hk]
     obtain ⟨q1,T0,cs0,q2,q3,q4⟩:=h3
     exact ⟨(hro hji).trans h1,hmy b hb,q1,T0,cs0,q2,q3,bn (c.pub_lend _) (dK hm (tf h q4))⟩
    ·rename_i k0 n g d n' g' d' e
     cases e
     obtain ⟨rfl,rfl,hm⟩:=hin
     obtain ⟨h1,h2,h3⟩:=hblk
     have hb:ak ρ i=some k0:=by simp [ak,h1]
     have hk:dw ρ ids j=k0:=by simp [dw,hji,hb]
     simp only [eU,hk]
     obtain ⟨q1,T0,cs0,q2,q3,q4⟩:=h3
     exact ⟨(hro hji).trans h1,hmy k0 hb,q1,T0,cs0,q2,q3,bn (c.pub_lend _) (dK hm (tf h q4))⟩
    ·exact hin.elim
 ·intro j hj
  rw [tc] at hj
  simp only [bS]
  rw [List.getElem?_eq_none (by omega)]
 ·intro j j' b b' k hne hj hj' hk hk'
  rw [nj] at hj hj'
  have get: ∀{q:Nat} {x:Blk},(Hin[q]?).map (eU (dw ρ ids (0+q)))=some x→ ∃i a,ids[q]? =some i∧ab S.H i=some a∧aU a=true:=by
   intro q x hq
   cases hj:Hin[q]? with
   | none=>rw [hj] at hq;cases hq
   | some b0=>
    have hjl:q<ids.length:=by rw [hlen];exact (List.getElem?_eq_some_iff.1 hj).1
    have hji:ids[q]? =some ids[q]:=List.getElem?_eq_getElem hjl
    obtain ⟨a,h1,h2,_⟩:=th (hget q _ b0 hji hj)
    exact ⟨_,a,hji,h1,h2⟩
  obtain ⟨i,a,g1,g2,g3⟩:=get hj
  obtain ⟨i',a',g1',g2',g3'⟩:=get hj'
  have hii:i≠i':=by
   rintro rfl
   exact hne (pD hd g1 g1')
  have e1:ak (bS ρ ids) j=ak ρ i:=blkOf_eq' (hro g1)
  have e2:ak (bS ρ ids) j'=ak ρ i':=blkOf_eq' (hro g1')
  rw [e1] at hk
  rw [e2] at hk'
  exact h.sep i i' a a' k hii g2 g2' g3 g3' hk hk'
where blkOf_eq' {ρ ρ':Ro} {i j:Nat} (h:ρ' j=ρ i):ak ρ' j=ak ρ i:=by unfold ak;rw [h]
end
end Go.Proofs.YteibkofekpejgaaGreatDoor
namespace Go.Proofs.YteibkofekpejgaaGreatDoor
open Go.RowKit
section
variable {E:Env} {J:bV} {k:List Ct} {S S1:St} {c0 c:Cx} {ρ:Ro} {F:Fm}
theorem lJ (h:Sim E c0 c ρ S F) {ids:List Nat} {Hin:List Blk} (hi:fF S.H ids ids Hin) {x:Nat} (hx:x∈cP ρ ids): ∃i a,i∈ids∧ab S.H i=some a∧aU a=true∧ak ρ i=some x:=by
 obtain ⟨hlen,hget⟩:=pE hi
 obtain ⟨i,hm,hb⟩:=List.mem_filterMap.1 hx
 obtain ⟨j,hj,e⟩:=List.getElem_of_mem hm
 have hjH:j<Hin.length:=by omega
 obtain ⟨a,h1,h2,_⟩:=th (hget j i Hin[j] (by rw [List.getElem?_eq_getElem hj,e]) (List.getElem?_eq_getElem hjH))
 exact ⟨i,a,hm,h1,h2,hb⟩
theorem CI (h:aT E c0 c ρ S F) {ids:List Nat} {Hin Hout Hnew:List Blk} (hd:ids.Nodup) (hi:fF S.H ids ids Hin) (hk:iq Hin Hout=true) (hn:lI Hnew=true) {c':Cx} {ρr:Ro} {r:V} {v:Value}
  (hle:(c.lend (cP ρ ids)).leY c') (hr:rd ρr c' r v) (hH:nk (c.lend (cP ρ ids)) c' ρr (bz (dw ρ ids) 0 Hout++Hnew)) (d:Option Nat):
  aT E c0 c' (ro2 ids S.nx ρ ρr) (S.afterI ids Hout Hnew d r) (bK F d v):=by
 obtain ⟨hlen,hget⟩:=pE hi
 obtain ⟨hkl,hkk⟩:=xv hk
 have hlO:(bz (dw ρ ids) 0 Hout).length=ids.length:=by rw [tc];omega
 have hlt: ∀i∈ids,i<S.nx:=by
  intro i hm
  obtain ⟨j,hj,e⟩:=List.getElem_of_mem hm
  obtain ⟨a,h1,_⟩:=th (hget j i Hin[j] (by rw [List.getElem?_eq_getElem hj,e]) (List.getElem?_eq_getElem (by omega)))
  obtain ⟨x,hx⟩:=CA (h.1.heap i a h1)
  rcases Nat.lt_or_ge i S.nx with h2|h2
  ·exact h2
  ·rw [h.2 i h2] at hx;cases hx
 have hYX: ∀x,x∈cP ρ ids→c0.mine x:=by
  intro x hx
  obtain ⟨i,a,_,h2,h3,h4⟩:=lJ h.1 hi hx
  exact g_ h.1 h2 h3 x h4
 have hYlt: ∀x,x∈cP ρ ids→x<c.w.heap.size:=by
  intro x hx
  obtain ⟨i,a,_,h2,h3,h4⟩:=lJ h.1 hi hx
  exact eP h3 (h.1.heap i a h2) x h4
 have hYp: ∀x,x∈cP ρ ids→x∈c.X:=by
  intro x hx
  obtain ⟨i,a,_,h2,h3,h4⟩:=lJ h.1 hi hx
  have hb:=h.1.heap i a h2
  cases a with
  | var n g d=>obtain ⟨b,g1,_,g3⟩:=hb;simp only [ak,g1,Option.some.injEq] at h4;subst h4;exact g3.1
  | lent b n g d=>obtain ⟨g1,_,g3⟩:=hb;simp only [ak,g1,Option.some.injEq] at h4;subst h4;exact g3.1
  | own T n g z l=>obtain ⟨u,g1,g2,_,_,a,cap,e,_⟩:=hb;rw [dY g1 e] at h4;exact g2.isX x h4
  | ownI T n g z l=>obtain ⟨u,g1,g2,_,_,a,cap,e,_⟩:=hb;rw [dY g1 e] at h4;exact g2.isX x h4
  | kset g k' n l=>obtain ⟨r,g1,_,g3⟩:=hb;simp only [ak,g1,blk,Option.some.injEq] at h4;subst h4;exact g3.1
  | pvar n g d=>cases h3
  | pown n g z l=>cases h3
 have hpub:c.pub c':=⟨hle.below.size,fun x hx hnX=>⟨fun h'=>hnX ((hle.old x hx (fun hy=>hnX (hYp x hy))).1 h'),fun o ho _=>(hle.below.block x hx (fun hy=>hnX (hYp x hy))).trans ho⟩⟩
 have hsince:cy c0 c':=by
  refine ⟨⟨hle.below.os.trans h.1.since.below.os,hle.below.tape.trans h.1.since.below.tape,hle.below.output.trans h.1.since.below.output,Nat.le_trans h.1.since.size hle.below.size,?_⟩,?_,fun x hx hnX h'=>(h.1.since.Xn x hx hnX) (by
   by_cases hY:x∈cP ρ ids
   ·exact hYp x hY
   ·exact (hle.old x (Nat.lt_of_lt_of_le hx h.1.since.size) hY).1 h')⟩
  ·intro x hx hy
   refine (hle.below.block x (Nat.lt_of_lt_of_le hx h.1.since.size) (fun hY=> ?_)).trans (h.1.since.below.block x hx hy)
   rcases hYX x hY with h1|h1
   ·omega
   ·exact hy h1
  ·intro x hx hy
   have hxX:=h.1.since.X x hx hy
   refine (hle.old x (c.ok x hxX) (fun hY=> ?_)).2 hxX
   rcases hYX x hY with h1|h1
   ·have:=c0.ok x hx;omega
   ·exact hy h1
 have hmine: ∀x,(c.lend (cP ρ ids)).mine x→c0.mine x:=by
  rintro x (h1|h1)
  ·exact .inl (Nat.le_trans h.1.since.size h1)
  ·exact hYX x h1
 -- names
 have hsg: ∀j x,ρr j=some x→ro2 ids S.nx ρ ρr (sg ids S.nx j)=some x:=fun j x hx=>(J7 hd hlt j).trans hx
 have hnew: ∀i,S.nx≤i→ro2 ids S.nx ρ ρr i=ρr (ids.length+(i - S.nx)):=fun i hi=>CH hlt hi
 have hold: ∀i b,ab S.H i=some b→i<S.nx:=by
  intro i b hb
  obtain ⟨x,hx⟩:=CA (h.1.heap i b hb)
  rcases Nat.lt_or_ge i S.nx with h2|h2
  ·exact h2
  ·rw [h.2 i h2] at hx;cases hx
 -- what the call gives back under a lent name
 have hback: ∀j i,ids[j]? =some i→ ∃b a,Hout[j]? =some b∧ab S.H i=some a∧((ji b∧ ∀x,ρ i=some x→ρr j=some x)∨(eE b∧ ∃T n g z l,a= .own T n g z l))∧blkOk c0 c' (ro2 ids S.nx ρ ρr) i (jj (ab S.H i) (ip (sg ids S.nx) b)):=by
  intro j i hj
  have hjl:=(List.getElem?_eq_some_iff.1 hj).1
  have hHi:Hin[j]? =some Hin[j]:=List.getElem?_eq_getElem (by omega)
  have hHo:Hout[j]? =some Hout[j]:=List.getElem?_eq_getElem (by omega)
  have hin:=hget j i _ hj hHi
  have hkj:=hkk j _ _ hHi hHo
  generalize Hin[j]=bi at hin hkj hHi
  generalize Hout[j]=bo at hkj hHo
  have hblk:blkOk (c.lend (cP ρ ids)) c' ρr j (eU (dw ρ ids j) bo):=by
   refine hH.1 j _ ?_
   rw [List.getElem?_append_left (by omega),nj,Nat.zero_add,hHo];rfl
  have hro:ro2 ids S.nx ρ ρr i=ρr j:=tg hd hj
  cases hS:ab S.H i with
  | none=>rw [hS] at hin;unfold inO at hin;exact hin.elim
  | some a=>
   have hold:=h.1.heap i a hS
   rw [hS] at hin
   have var: ∀{n g d} {b:Nat},bo= .var n g d→dw ρ ids j=b→ρ i=some (.pointer (some ⟨b,0,none⟩))→ak ρ i=some b→c0.mine b∧ρr j=some (.pointer (some ⟨b,0,none⟩))∧Var c' b (rV (ro2 ids S.nx ρ ρr) n g) (ren (sg ids S.nx) d):=by
    intro n g d b e hb hp hbo
    subst e
    simp only [eU,hb] at hblk
    obtain ⟨g1,g2,g3,T,cs,g4,g5,g6⟩:=hblk
    exact ⟨hmine b g2,g1,g3,T,cs,g4,g5,s9 hsg g6⟩
   unfold inO at hin
   split at hin
   ·rename_i T n g z l T' n' g' z' l' e
    cases e
    rcases hkj with ⟨h1,_⟩|⟨_,h1⟩
    ·exact h1.elim
    ·refine ⟨bo,_,hHo,rfl,.inr ⟨h1,_,_,_,_,_,rfl⟩,?_⟩
     cases bo<;>simp only [eE] at h1
     simp only [eU] at hblk
     obtain ⟨x,g1,g2,g3,g4,g5⟩:=hblk
     simp only [ip,jj]
     exact ⟨x,hro.trans g1,g2,fun k hk=>hmine k (g3 k hk),g4,g5⟩
   ·rename_i n g d n' g' d' e
    cases e
    rcases hkj with ⟨_,h1⟩|⟨h1,_⟩
    ·obtain ⟨b,g1,_⟩:=hold
     have hbo:ak ρ i=some b:=by simp [ak,g1]
     cases bo<;>simp only [ji] at h1
     obtain ⟨k1,k2,k3⟩:=var rfl (by simp [dw,hj,hbo]) g1 hbo
     refine ⟨_,_,hHo,rfl,.inl ⟨trivial,fun x hx=> ?_⟩,?_⟩
     ·rw [g1] at hx;cases hx;exact k2
     ·simp only [ip,jj]
      exact ⟨b,hro.trans k2,k1,k3⟩
    ·exact h1.elim
   ·rename_i k0 n g d n' g' d' e
    cases e
    rcases hkj with ⟨_,h1⟩|⟨h1,_⟩
    ·obtain ⟨g1,_⟩:=hold
     have hbo:ak ρ i=some k0:=by simp [ak,g1]
     cases bo<;>simp only [ji] at h1
     obtain ⟨k1,k2,k3⟩:=var rfl (by simp [dw,hj,hbo]) g1 hbo
     refine ⟨_,_,hHo,rfl,.inl ⟨trivial,fun x hx=> ?_⟩,?_⟩
     ·rw [g1] at hx;cases hx;exact k2
     ·simp only [ip,jj]
      exact ⟨hro.trans k2,k1,k3⟩
    ·exact h1.elim
   ·exact hin.elim
 have hpr: ∀i x,bk (eF S.H ids) i=false→ρ i=some x→ro2 ids S.nx ρ ρr i=some x:=by
  intro i x hp hx
  have hilt:i<S.nx:=by
   rcases Nat.lt_or_ge i S.nx with h2|h2
   ·exact h2
   ·rw [h.2 i h2] at hx;cases hx
  by_cases hm:i∈ids
  ·obtain ⟨j,hj,e⟩:=List.getElem_of_mem hm
   have hj':ids[j]? =some i:=by rw [List.getElem?_eq_getElem hj,e]
   obtain ⟨b,a,_,h2,h3,_⟩:=hback j i hj'
   rcases h3 with ⟨_,h3⟩|⟨_,T,n,g,z,l,rfl⟩
   ·rw [tg hd hj'];exact h3 x hx
   ·have:=ff.2 (CD h2 hm)
    rw [hp] at this;cases this
  ·rw [nm hm hilt];exact hx
 -- the blocks behind the call
 have hcase: ∀i b,ab (gA S.nx 0 (fk (sg ids S.nx) Hnew)++gL S.H (prH (bk (eF S.H ids)) S.H) ids (fk (sg ids S.nx) Hout)) i=some b→
   (∃(q:Nat) (b0:Blk),i=S.nx+q∧Hnew[q]? =some b0∧b=ip (sg ids S.nx) b0)∨(∃(j:Nat) (b0:Blk),ids[j]? =some i∧Hout[j]? =some b0∧b=jj (ab S.H i) (ip (sg ids S.nx) b0))∨(i∉ids∧ ∃b0,ab S.H i=some b0∧b=prB (bk (eF S.H ids)) b0):=by
  intro i b hb
  have rest:ab (gL S.H (prH (bk (eF S.H ids)) S.H) ids (fk (sg ids S.nx) Hout)) i=some b→(∃(j:Nat) (b0:Blk),ids[j]? =some i∧Hout[j]? =some b0∧b=jj (ab S.H i) (ip (sg ids S.nx) b0))∨(i∉ids∧ ∃b0,ab S.H i=some b0∧b=prB (bk (eF S.H ids)) b0):=by
   intro hb
   by_cases hm:i∈ids
   ·obtain ⟨j,hj,e⟩:=List.getElem_of_mem hm
    have hj':ids[j]? =some i:=by rw [List.getElem?_eq_getElem hj,e]
    obtain ⟨b0,_,h1,_⟩:=hback j i hj'
    have:=CE (H0:=S.H) (h:=prH (bk (eF S.H ids)) S.H) (m:=fk (sg ids S.nx) Hout) hd hj' (by rw [xt,h1];rfl)
    rw [this] at hb
    cases hb
    exact .inl ⟨j,b0,hj',h1,rfl⟩
   ·rw [xx hm,Cz] at hb
    cases hS:ab S.H i with
    | none=>rw [hS] at hb;cases hb
    | some b0=>rw [hS] at hb;cases hb;exact .inr ⟨hm,b0,rfl,rfl⟩
  simp only [mX,sa,Nat.add_zero] at hb
  by_cases h1:S.nx≤i
  ·rw [if_pos h1,xt] at hb
   cases hq:Hnew[i - S.nx]? with
   | some x=>rw [hq] at hb;simp only [Option.map_some,Option.some.injEq] at hb;exact .inl ⟨i - S.nx,x,by omega,hq,hb.symm⟩
   | none=>rw [hq] at hb;exact .inr (rest hb)
  ·rw [if_neg h1] at hb;exact .inr (rest hb)
 have hnewOk: ∀q b,Hnew[q]? =some b→(∃T n g z l,b= .own T n g z l)∧blkOk (c.lend (cP ρ ids)) c' ρr (ids.length+q) b:=by
  intro q b hq
  have h1:=xw hn q b hq
  refine ⟨?_,hH.1 (ids.length+q) b ?_⟩
  ·cases b<;>simp only [eE] at h1
   exact ⟨_,_,_,_,_,rfl⟩
  ·rw [List.getElem?_append_right (by omega),hlO,Nat.add_sub_cancel_left];exact hq
 have hput: ∀(S':St),aT E c0 c' (ro2 ids S.nx ρ ρr) S' F→aT E c0 c' (ro2 ids S.nx ρ ρr) (S'.put d (ren (sg ids S.nx) r)) (bK F d v):=
  fun S' hS=>iW hS (s9 hsg hr)
 refine hput _ ⟨⟨hsince,h.1.gl.mono hpub,?_,?_,?_⟩,?_⟩
 ·intro t x ht
  simp only [Cy,Option.map_eq_some_iff] at ht
  obtain ⟨x0,hx0,rfl⟩:=ht
  exact ni hpr (bn hpub (h.1.slot t x0 hx0))
 ·intro i b hb
  rcases hcase i b hb with ⟨q,b0,rfl,hq,rfl⟩|⟨j,b0,hj,hb0,rfl⟩|⟨hm,b0,hS,rfl⟩
  ·obtain ⟨⟨T,n,g,z,l,rfl⟩,x,g1,g2,g3,g4⟩:=hnewOk q _ hq
   refine ⟨x,?_,g2,fun k hk=>hmine k (g3 k hk),g4⟩
   rw [hnew _ (Nat.le_add_right _ _),Nat.add_sub_cancel_left];exact g1
  ·obtain ⟨b1,a,h1,_,_,h4⟩:=hback j i hj
   rw [hb0] at h1;cases h1
   exact h4
  ·refine J9 hpr (fun x hx=> ?_) (J8 hle hpub (fun hp x hx hY=> ?_) (h.1.heap i b0 hS))
   ·rw [nm hm (hold i b0 hS)];exact hx
   ·obtain ⟨i',a,h1,h2,h3,h4⟩:=lJ h.1 hi hY
    exact h.1.sep i i' b0 a x (fun e=>hm (e▸h1)) hS h2 hp h3 hx h4
 · -- apart
  have hname: ∀i b,ab (gA S.nx 0 (fk (sg ids S.nx) Hnew)++gL S.H (prH (bk (eF S.H ids)) S.H) ids (fk (sg ids S.nx) Hout)) i=some b→aU b=true→
    (∃(q:Nat) (bq:Blk),(bz (dw ρ ids) 0 Hout++Hnew)[q]? =some bq∧ro2 ids S.nx ρ ρr i=ρr q∧i=sg ids S.nx q∧ ∀x,ak ρr q=some x→(c.lend (cP ρ ids)).mine x)∨(i∉ids∧i<S.nx∧ ∃b0,ab S.H i=some b0∧aU b0=true):=by
   intro i b hb hp
   have hm9: ∀q bq,(bz (dw ρ ids) 0 Hout++Hnew)[q]? =some bq→aU bq=true→ ∀x,ak ρr q=some x→(c.lend (cP ρ ids)).mine x:=by
    intro q bq hq hpq x hx
    have hb:=hH.1 q bq hq
    cases bq with
    | var n g d=>obtain ⟨b,g1,g2,_⟩:=hb;simp only [ak,g1,Option.some.injEq] at hx;subst hx;exact g2
    | lent b n g d=>obtain ⟨g1,g2,_⟩:=hb;simp only [ak,g1,Option.some.injEq] at hx;subst hx;exact g2
    | own T n g z l=>obtain ⟨u,g1,g2,g3,_,a,cap,e,_⟩:=hb;rw [dY g1 e] at hx;exact g3 x hx
    | ownI T n g z l=>obtain ⟨u,g1,g2,g3,_,a,cap,e,_⟩:=hb;rw [dY g1 e] at hx;exact g3 x hx
    | kset g k' n l=>obtain ⟨r,g1,g2,_⟩:=hb;simp only [ak,g1,blk,Option.some.injEq] at hx;subst hx;exact g2
    | pvar n g d=>cases hpq
    | pown n g z l=>cases hpq
   rcases hcase i b hb with ⟨q,b0,rfl,hq,rfl⟩|⟨j,b0,hj,hb0,rfl⟩|⟨hm,b0,hS,rfl⟩
   ·obtain ⟨⟨T,n,g,z,l,rfl⟩,_⟩:=hnewOk q b0 hq
    have hq':(bz (dw ρ ids) 0 Hout++Hnew)[ids.length+q]? =some (.own T n g z l):=by
     rw [List.getElem?_append_right (by omega),hlO,Nat.add_sub_cancel_left];exact hq
    refine .inl ⟨ids.length+q,_,hq',?_,?_,hm9 _ _ hq' rfl⟩
    ·rw [hnew _ (Nat.le_add_right _ _),Nat.add_sub_cancel_left]
    ·simp only [sg,List.getElem?_eq_none (Nat.le_add_right _ _),Nat.add_sub_cancel_left]
   ·have hjl:=(List.getElem?_eq_some_iff.1 hj).1
    have hq':(bz (dw ρ ids) 0 Hout++Hnew)[j]? =some (eU (dw ρ ids j) b0):=by
     rw [List.getElem?_append_left (by omega),nj,Nat.zero_add,hb0];rfl
    refine .inl ⟨j,_,hq',tg hd hj,by simp only [sg,hj],hm9 _ _ hq' ?_⟩
    obtain ⟨b1,a,h1,_,h3,_⟩:=hback j i hj
    rw [hb0] at h1;cases h1
    rcases h3 with ⟨h3,_⟩|⟨h3,_⟩<;>cases b0<;>simp only [ji,eE] at h3<;>rfl
   ·exact .inr ⟨hm,hold i b0 hS,b0,hS,by rw [J5] at hp;exact hp⟩
  intro i j bi bj x hij hbi hbj hpi hpj hx hx'
  rcases hname i bi hbi hpi with ⟨q,bq,hq,e,ei,hmq⟩|⟨hm,hl,b0,hS,hp0⟩<;>rcases hname j bj hbj hpj with ⟨q',bq',hq',e',ej,hmq'⟩|⟨hm',hl',b0',hS',hp0'⟩
  ·rw [blkOf_eq2 e] at hx
   rw [blkOf_eq2 e'] at hx'
   exact hH.2.2 q q' bq bq' x (fun eq=>hij (by rw [ei,ej,eq])) hq hq' hx hx'
  ·rw [blkOf_eq2 e] at hx
   rw [cJ (nm hm' hl')] at hx'
   have hlt':=eP hp0' (h.1.heap j b0' hS') x hx'
   rcases hmq x hx with h1|h1
   ·have h1:c.w.heap.size≤x:=h1
    omega
   ·obtain ⟨i',a,h1,h2,h3,h4⟩:=lJ h.1 hi h1
    exact h.1.sep i' j a b0' x (fun e=>hm' (e▸h1)) h2 hS' h3 hp0' h4 hx'
  ·rw [blkOf_eq2 e'] at hx'
   rw [cJ (nm hm hl)] at hx
   have hlt':=eP hp0 (h.1.heap i b0 hS) x hx
   rcases hmq' x hx' with h1|h1
   ·have h1:c.w.heap.size≤x:=h1
    omega
   ·obtain ⟨i',a,h1,h2,h3,h4⟩:=lJ h.1 hi h1
    exact h.1.sep i' i a b0 x (fun e=>hm (e▸h1)) h2 hS h3 hp0 h4 hx
  ·rw [cJ (nm hm hl)] at hx
   rw [cJ (nm hm' hl')] at hx'
   exact h.1.sep i j b0 b0' x hij hS hS' hp0 hp0' hx hx'
 ·intro i hi'
  simp only at hi'
  rw [hnew i (by omega)]
  exact hH.2.1 _ (by rw [List.length_append,hlO];omega)
where blkOf_eq2 {ρ ρ':Ro} {i j:Nat} (h:ρ' i=ρ j):ak ρ' i=ak ρ j:=by unfold ak;rw [h]
theorem jk {f:FuncId} {caps vs:List V} {d:Option Nat} {ws:List V} {r:V} {Hin Hout Hnew:List Blk} (ids:List Nat) (hc:ee E f ws Hin r Hout Hnew) (hd:ids.Nodup) (hi:fF S.H ids ids Hin) (hm:mtL (fE S.H ids (vs++caps)) ws)
  (h:wfV r→aI E J k .normal (S.afterI ids Hout Hnew d r)):eR E J (some (.fn f caps)) (some vs) S d k:=by
 refine .inr ⟨hc.1,_,r,?_,h⟩
 intro c0 c ρ F us hs hus
 have hk:=hc.2.1
 simp only [Bool.and_eq_true] at hk
 have hrd:=ie hm (nl (ids:=ids) hs.1 hus)
 refine (show Calls E.P f us.toArray c.w _ from hc.2.2 (c.lend (cP ρ ids)) us (bS ρ ids) (dw ρ ids) (hs.1.gl.mono (c.pub_lend _)) (xy hs.1 hd hi) (eZ (c.pub_lend _) hrd)).mono ?_
 rintro e w' ⟨v,c',ρr,rfl,rfl,hle,hr,hH⟩
 exact ⟨v,c',_,rfl,rfl,CI hs hd hi hk.1 hk.2 hle hr hH d,iS hr⟩
theorem CJ {f:FuncId} {caps vs:List V} {d:Option Nat} {ws:List V} {r:V} {Hin Hout Hnew:List Blk} (ids:List Nat) (hc:ee E f ws Hin r Hout Hnew) (hw:im E S S1) (hd:ids.Nodup) (hi:fF S1.H ids ids Hin) (hm:mtL (fE S1.H ids (vs++caps)) ws)
  (h:wfV r→aI E J k .normal (S1.afterI ids Hout Hnew d r)):eR E J (some (.fn f caps)) (some vs) S d k:=by
 refine .inr ⟨hc.1,_,r,?_,h⟩
 intro c0 c0' ρ0 F us hs0 hus0
 obtain ⟨c,ρ,ew,hpb,hro,hs⟩:=hw c0 c0' ρ0 F hs0
 have hus:=mI hro (eZ hpb hus0)
 have hk:=hc.2.1
 simp only [Bool.and_eq_true] at hk
 have hrd:=ie hm (nl (ids:=ids) hs.1 hus)
 rw [←ew]
 refine (show Calls E.P f us.toArray c.w _ from hc.2.2 (c.lend (cP ρ ids)) us (bS ρ ids) (dw ρ ids) (hs.1.gl.mono (c.pub_lend _)) (xy hs.1 hd hi) (eZ (c.pub_lend _) hrd)).mono ?_
 rintro e w' ⟨v,c',ρr,rfl,rfl,hle,hr,hH⟩
 exact ⟨v,c',_,rfl,rfl,CI hs hd hi hk.1 hk.2 hle hr hH d,iS hr⟩
theorem CK {f:FuncId} {caps vs:List V} {d:Option Nat} {ws:List V} {r:V} {Hin Hout Hnew:List Blk} (ids:List Nat) (hc:ee E f ws Hin r Hout Hnew) (hw:fi E S S1) (hd:ids.Nodup) (hi:fF S1.H ids ids Hin) (hm:mtL (fE S1.H ids (vs++caps)) ws)
  (h:wfV r→aI E J k .normal (S1.afterI ids Hout Hnew d r)):eR E J (some (.fn f caps)) (some vs) S d k:=CJ ids hc hw.toQ hd hi hm h
theorem CL {c c':Cx} {n:Nat} {g:Bool}: ∀{l:List V} {cs:List Value},fO l→a7 (rV ro0 n g) c cs l→a7 (rV ro0 n g) c' cs l
 | [],_,_,h=>h
 | a::l,cs,hf,h=>by
  simp only [fO,a7] at hf h⊢
  obtain ⟨c1,c2,e,⟨h1,h2⟩,h3⟩:=h
  exact ⟨c1,c2,e,⟨h1,oZ hf.1 h2⟩,CL hf.2 h3⟩
theorem CN {α:Type} {f:α→V} (h: ∀x,dj (f x)): ∀{l:List α},fO (l.map f)
 | []=>trivial
 | a::l=>⟨h a,CN h⟩
section
variable {D:Dr} {m i:Nat} {ll:List Oper} {R:List (Nat×bc)}
theorem J_ {f:FuncId} {caps vs ws:List V} {d:Option Nat} {T n:Nat} {g:Bool} {z z':Option Bool} {l l':List V} (id:Nat) (hc:ee E f ws [.own T n g z l] (.own 0) [.own T n g z' l'] []) (hm:(bB D.ub i id&& !decide (id=S.nx))=true) (hi:fF S.H [id] [id] [.own T n g z l]) (ha:mtL (fE S.H [id] (vs++caps)) ws) (hfl:fO l')
  (h:ce E D m (i+1) ll ((i,⟨d,.own S.nx,some (S.nx,.own T n g z' l')⟩)::R)):gF E D m i ll R d S (some (.fn f caps)) (some vs):=by
 obtain ⟨hlen,hget⟩:=pE hi
 obtain ⟨b0,hb0,hp0,_⟩:=th (hget 0 id _ rfl rfl)
 refine .inr (.inr ⟨hc.1,id,T,n,g,z',l',hm,⟨b0,hb0,hp0⟩,fun c0 c ρ F us hs hus=> ?_,h⟩)
 have hrd:=ie ha (nl (ids:=[id]) hs hus)
 refine (show Calls E.P f us.toArray c.w _ from hc.2.2 (c.lend (cP ρ [id])) us (bS ρ [id]) (dw ρ [id]) (hs.gl.mono (c.pub_lend _)) (xy hs (by simp) hi) (eZ (c.pub_lend _) hrd)).mono ?_
 rintro e w' ⟨v,c',ρr,rfl,rfl,hle,hr,hH⟩
 obtain ⟨v',e1,hown,hge,hone,a,cap,es,hz⟩:=hH.1 0 _ rfl
 simp only [rd] at hr
 have ev:v'=v:=by rw [hr.1] at e1;exact (Option.some.inj e1).symm
 subst ev
 have hY: ∀k,k∈cP ρ [id]↔ak ρ id=some k:=by
  intro k
  simp only [cP,List.mem_filterMap,List.mem_singleton]
  exact ⟨fun ⟨i,hi,hb⟩=>hi▸hb,fun hb=>⟨id,rfl,hb⟩⟩
 have hYlt: ∀k,k∈cP ρ [id]→k<c.w.heap.size:=fun k hk=>eP hp0 (hs.heap id b0 hb0) k ((hY k).1 hk)
 have hYX: ∀k,k∈cP ρ [id]→k∈c.X:=by
  intro k hk
  obtain ⟨i',a,h1,h2,h3,h4⟩:=lJ hs hi hk
  have hb:=hs.heap i' a h2
  cases a with
  | var n g d=>obtain ⟨b,g1,_,g3⟩:=hb;simp only [ak,g1,Option.some.injEq] at h4;subst h4;exact g3.1
  | lent b n g d=>obtain ⟨g1,_,g3⟩:=hb;simp only [ak,g1,Option.some.injEq] at h4;subst h4;exact g3.1
  | own T n g z l=>obtain ⟨u,g1,g2,_,_,a,cap,e,_⟩:=hb;rw [dY g1 e] at h4;exact g2.isX k h4
  | ownI T n g z l=>obtain ⟨u,g1,g2,_,_,a,cap,e,_⟩:=hb;rw [dY g1 e] at h4;exact g2.isX k h4
  | kset g k' n l=>obtain ⟨r,g1,_,g3⟩:=hb;simp only [ak,g1,blk,Option.some.injEq] at h4;subst h4;exact g3.1
  | pvar n g d=>cases h3
  | pown n g z l=>cases h3
 refine ⟨v',{X:=cP ρ [id]++c'.X,w:=c'.w,ok:=fun k hk=> ?_},rfl,rfl,⟨hle.below.os,hle.below.tape,hle.below.output,hle.below.size,fun k hk hne=>hle.below.block k hk (fun hy=>hne ((hY k).1 hy)),fun k hk=> ?_,fun k hk=>hYX k ((hY k).2 hk)⟩,⟨hown.1,?_⟩,fun k hk=> ?_,hone,a,cap,es,hz⟩
 ·rcases List.mem_append.1 hk with hk|hk
  ·exact Nat.lt_of_lt_of_le (hYlt k hk) hle.below.size
  ·exact c'.ok k hk
 ·simp only [List.mem_append]
  by_cases hy:k∈cP ρ [id]
  ·exact ⟨fun _=>hYX k hy,fun _=> .inl hy⟩
  ·exact ⟨fun h'=>(hle.old k hk hy).1 (h'.resolve_left hy),fun h'=> .inr ((hle.old k hk hy).2 h')⟩
 ·rcases hown.2 with h'|⟨g',cp,cur,e,k1,k2,k3,k4,k5,k6⟩
  ·exact .inl h'
  ·exact .inr ⟨g',cp,cur,e,List.mem_append.2 (.inr k1),k2,k3,k4,k5,CL hfl k6⟩
 ·rcases hge k hk with h'|h'
  ·exact .inr h'
  ·exact .inl ((hY k).1 h')
end
def tj (E:Env) (S:St) (ks:Nat→Nat) (v r:V) (Hout Hnew:List Blk):Prop:=
 ∀c0 c ρ F u,aT E c0 c ρ S F→rd ρ c v u→ ∃c1 ρ1,c1.w=c.w∧c0.leY c1∧rd ρ1 c1 r u∧nk c0 c1 ρ1 (bz ks 0 Hout++Hnew)
def pF (E:Env) (rs:List ResultVar) (ks:Nat→Nat) (r:V) (Hout Hnew:List Blk):Exit→St→Prop
 | .ret,S=>match fR E.tb S rs with
  | some vs=>tj E S ks (fh vs) r Hout Hnew
  | none=>False
 | .normal,S=>match fR E.tb S rs with
  | some vs=>tj E S ks (fh vs) r Hout Hnew
  | none=>False
 | _,_=>False
def xz (E:Env) (S:St) (ks:Nat→Nat) (r:V) (Hout Hnew:List Blk):Option (List V)→Prop
 | some vs=>tj E S ks (fh vs) r Hout Hnew
 | none=>False
theorem Ka {rs:List ResultVar} {ks:Nat→Nat} {r:V} {Hout Hnew:List Blk}:pF E rs ks r Hout Hnew .ret S=xz E S ks r Hout Hnew (fR E.tb S rs):=Eq.trans rfl rfl
theorem Kb {rs:List ResultVar} {ks:Nat→Nat} {r:V} {Hout Hnew:List Blk}:pF E rs ks r Hout Hnew .normal S=xz E S ks r Hout Hnew (fR E.tb S rs):=Eq.trans rfl rfl
def lK (H:List (Nat×Blk)) (ids:List Nat):Option Blk→Blk→Prop
 | some (.own T n g z l),.own T' n' g' z' l'=>T=T'∧n=n'∧g=g'∧mtZ z z'∧mtL l l'
 | some (.lent k n g d),.lent k' n' g' d'=>k=k'∧n=n'∧g=g'∧mt (fj H ids d) d'
 | _,_=>False
def ka (H:List (Nat×Blk)) (ids:List Nat):List Nat→List Blk→Prop
 | [],[]=>True
 | i::l,b::m=>lK H ids (ab H i) b∧ka H ids l m
 | _,_=>False
theorem CO {H:List (Nat×Blk)} {ids:List Nat}: ∀{l:List Nat} {m:List Blk},ka H ids l m→l.length=m.length∧ ∀(j i:Nat) (b:Blk),l[j]? =some i→m[j]? =some b→lK H ids (ab H i) b
 | [],[],_=>⟨rfl,by simp⟩
 | i::l,b::m,h=>by
  simp only [ka] at h
  obtain ⟨h1,h2⟩:=CO h.2
  refine ⟨by simp [h1],fun j i' b' hi hb=> ?_⟩
  cases j with
  | zero=>simp at hi hb;subst hi hb;exact h.1
  | succ j=>exact h2 j i' b' (by simpa using hi) (by simpa using hb)
 | [],_::_,h=>by simp [ka] at h
 | _::_,[],h=>by simp [ka] at h
theorem Kc {H:List (Nat×Blk)} {ids:List Nat} {o:Option Blk} {b:Blk} (h:lK H ids o b): ∃a,o=some a∧aU a=true:=by
 unfold lK at h
 split at h
 ·exact ⟨_,rfl,rfl⟩
 ·exact ⟨_,rfl,rfl⟩
 ·exact h.elim
def Cx.giveI (c0 c:Cx) (L:List Nat) (h0:c0.w.heap.size≤c.w.heap.size) (h: ∀k∈L,k<c.w.heap.size):Cx:=
 {X:=c0.X.filter (fun k=>k∉c0.Y)++L,w:=c.w,ok:=fun k hk=>(by
  rcases List.mem_append.1 hk with hk|hk
  ·exact Nat.lt_of_lt_of_le (c0.ok k (List.mem_filter.1 hk).1) h0
  ·exact h k hk)}
theorem Kd {c0 c:Cx} {L:List Nat} {h0:c0.w.heap.size≤c.w.heap.size} {h: ∀k∈L,k<c.w.heap.size} {x:Nat}:x∈(Cx.giveI c0 c L h0 h).X↔(x∈c0.X∧x∉c0.Y)∨x∈L:=by
 simp [Cx.giveI]
theorem Ke {ks:Nat→Nat} {v r:V} {Hout Hnew:List Blk} (ids:List Nat) (ho:ka S.H ids ids (bz ks 0 Hout++Hnew)) (hd:ids.Nodup) (hm:mt (fj S.H ids v) r):tj E S ks v r Hout Hnew:=by
 intro c0 c ρ F u h hr
 obtain ⟨hlen,hget⟩:=CO ho
 have hpriv: ∀i∈ids,∃a,ab S.H i=some a∧aU a=true:=by
  intro i hi
  obtain ⟨j,hj,e⟩:=List.getElem_of_mem hi
  exact Kc (hget j i (bz ks 0 Hout++Hnew)[j] (by rw [List.getElem?_eq_getElem hj,e]) (List.getElem?_eq_getElem (by omega)))
 have hL: ∀x∈ids.filterMap (ak ρ),x<c.w.heap.size∧c0.mine x∧x∈c.X∧ ∃i∈ids,ak ρ i=some x:=by
  intro x hx
  obtain ⟨i,hi,hb⟩:=List.mem_filterMap.1 hx
  obtain ⟨a,h1,h2⟩:=hpriv i hi
  refine ⟨eP h2 (h.1.heap i a h1) x hb,g_ h.1 h1 h2 x hb,?_,i,hi,hb⟩
  have hbk:=h.1.heap i a h1
  cases a with
  | var n g d=>obtain ⟨b,g1,_,g3⟩:=hbk;simp only [ak,g1,Option.some.injEq] at hb;subst hb;exact g3.1
  | lent b n g d=>obtain ⟨g1,_,g3⟩:=hbk;simp only [ak,g1,Option.some.injEq] at hb;subst hb;exact g3.1
  | own T n g z l=>obtain ⟨u,g1,g2,_,_,a,cap,e,_⟩:=hbk;rw [dY g1 e] at hb;exact g2.isX x hb
  | ownI T n g z l=>obtain ⟨u,g1,g2,_,_,a,cap,e,_⟩:=hbk;rw [dY g1 e] at hb;exact g2.isX x hb
  | kset g k' n l=>obtain ⟨r,g1,_,g3⟩:=hbk;simp only [ak,g1,blk,Option.some.injEq] at hb;subst hb;exact g3.1
  | pvar n g d=>cases h2
  | pown n g z l=>cases h2
 generalize hc1:Cx.giveI c0 c (ids.filterMap (ak ρ)) h.1.since.size (fun k hk=>(hL k hk).1)=c1
 have hw:c1.w=c.w:=by subst hc1;rfl
 have hX: ∀x,x∈c1.X↔(x∈c0.X∧x∉c0.Y)∨x∈ids.filterMap (ak ρ):=by subst hc1;intro x;exact Kd
 have hpub:c.pub c1:=by
  refine ⟨by rw [hw];exact Nat.le_refl _,fun k hk hx=>⟨fun h'=> ?_,by rw [hw];exact fun _ h _=>h⟩⟩
  rcases (hX k).1 h' with h'|h'
  ·exact hx (h.1.since.X k h'.1 h'.2)
  ·exact hx (hL k h').2.2.1
 have hle:c0.leY c1:=by
  refine ⟨by rw [hw];exact h.1.since.below,fun k hk hy=>⟨fun h'=> ?_,fun h'=>(hX k).2 (.inl ⟨h',hy⟩)⟩⟩
  rcases (hX k).1 h' with h'|h'
  ·exact h'.1
  ·rcases (hL k h').2.1 with h1|h1
   ·omega
   ·exact absurd h1 hy
 have hn: ∀i b,i∉ids→ab S.H i=some b→aU b=true→ ∀k,ak ρ i=some k→k∉c1.X:=by
  intro i b hi hb hp k hk hmem
  rcases (hX k).1 hmem with h'|h'
  ·rcases g_ h.1 hb hp k hk with h1|h1
   ·have:=c0.ok k h'.1;omega
   ·exact h'.2 h1
  ·obtain ⟨_,_,_,j,hj,hb'⟩:=hL k h'
   obtain ⟨a,h1,h2⟩:=hpriv j hj
   exact h.1.sep i j b a k (fun e=>hi (e▸hj)) hb h1 hp h2 hk hb'
 refine ⟨c1,bS ρ ids,hw,hle,dK hm (pC hw hpub h.1 hn hr),?_,?_,?_⟩
 ·intro q b hq
  have hql:q<ids.length:=by rw [hlen];exact (List.getElem?_eq_some_iff.1 hq).1
  obtain ⟨i,hi⟩: ∃i,ids[q]? =some i:=⟨_,List.getElem?_eq_getElem hql⟩
  have ho':=hget q i b hi hq
  have hmem:i∈ids:=List.mem_of_getElem? hi
  have hro:bS ρ ids q=ρ i:=by simp only [bS,hi]
  have hmemX: ∀x,ak ρ i=some x→x∈c1.X:=fun x hx=>(hX x).2 (.inr (List.mem_filterMap.2 ⟨i,hmem,hx⟩))
  cases hS:ab S.H i with
  | none=>rw [hS] at ho';unfold lK at ho';exact ho'.elim
  | some a=>
   have hbk:=h.1.heap i a hS
   rw [hS] at ho'
   unfold lK at ho'
   split at ho'
   ·rename_i T n g z l T' n' g' z' l' e
    cases e
    obtain ⟨rfl,rfl,rfl,hz,hml⟩:=ho'
    obtain ⟨x,h1,h2,h3,h4,a,cap,e,h5⟩:=hbk
    refine ⟨x,hro.trans h1,CC ⟨h2.1,?_⟩ hml,h3,h4,a,cap,by rw [←jS hml];exact e,lx hz h5⟩
    rcases h2.2 with h'|⟨g',cp,cur,e2,k1,k2,k3,k4,k5,k6⟩
    ·exact .inl h'
    ·exact .inr ⟨g',cp,cur,e2,hmemX g' (by rw [dY h1 e,e2];rfl),by rw [hw];exact k2,k3,k4,k5,cR hpub k6⟩
   ·rename_i k n g d k' n' g' d' e
    cases e
    obtain ⟨rfl,rfl,rfl,hm⟩:=ho'
    obtain ⟨h1,h2,h3,T,cs,h4,h5,h6⟩:=hbk
    exact ⟨hro.trans h1,h2,hmemX k (by simp [ak,h1]),T,cs,by rw [hw];exact h4,h5,dK hm (pC hw hpub h.1 hn h6)⟩
   ·exact ho'.elim
 ·intro q hq
  simp only [bS]
  rw [List.getElem?_eq_none (by omega)]
 ·intro q q' bq bq' x hne hq hq' hk hk'
  have get: ∀{q:Nat} {b:Blk},(bz ks 0 Hout++Hnew)[q]? =some b→ ∃i a,ids[q]? =some i∧ab S.H i=some a∧aU a=true:=by
   intro q b hq
   have hql:q<ids.length:=by rw [hlen];exact (List.getElem?_eq_some_iff.1 hq).1
   have hi:ids[q]? =some ids[q]:=List.getElem?_eq_getElem hql
   obtain ⟨a,h1,h2⟩:=hpriv ids[q] (List.getElem_mem hql)
   exact ⟨_,a,hi,h1,h2⟩
  obtain ⟨i,a,g1,g2,g3⟩:=get hq
  obtain ⟨i',a',g1',g2',g3'⟩:=get hq'
  have hii:i≠i':=by
   rintro rfl
   exact hne (pD hd g1 g1')
  rw [blkOf_eq3 (show bS ρ ids q=ρ i by simp only [bS,g1])] at hk
  rw [blkOf_eq3 (show bS ρ ids q'=ρ i' by simp only [bS,g1'])] at hk'
  exact h.1.sep i i' a a' x hii g2 g2' g3 g3' hk hk'
where blkOf_eq3 {ρ ρ':Ro} {i j:Nat} (h:ρ' i=ρ j):ak ρ' i=ak ρ j:=by unfold ak;rw [h]
theorem jl {ks:Nat→Nat} {vs:List V} {r:V} {Hout Hnew:List Blk} (ids:List Nat) (ho:ka S.H ids ids (bz ks 0 Hout++Hnew)) (hd:ids.Nodup) (hm:mt (fj S.H ids (fh vs)) r):xz E S ks r Hout Hnew (some vs):=Ke ids ho hd hm
def lL:Nat→List Blk→List (Nat×Blk)
 | _,[]=> []
 | i,b::l=>(i,b)::lL (i+1) l
theorem xA: ∀{l:List Blk} {i t:Nat},ab (lL i l) t=if i≤t then l[t - i]? else none
 | [],i,t=>by simp [lL,ab]
 | v::l,i,t=>by
  simp only [lL,ab,xA]
  by_cases h:i=t
  ·subst h;simp
  ·rw [if_neg h]
   by_cases h1:i≤t
   ·rw [if_pos h1,if_pos (by omega)]
    have:t - i=(t - (i+1))+1:=by omega
    rw [this,List.getElem?_cons_succ]
   ·rw [if_neg h1,if_neg (by omega)]
def wfB:Blk→Prop
 | .var _ _ d=>wfV d
 | .own _ _ _ _ l=>l.length≤LEN∧wfL l
 | _=>True
def pG:List Blk→Prop
 | []=>True
 | b::l=>wfB b∧pG l
theorem CP: ∀{l:List Blk},(∀(j:Nat) (b:Blk),l[j]? =some b→wfB b)→pG l
 | [],_=>trivial
 | b::l,h=>⟨h 0 b rfl,CP fun j b' hb=>h (j+1) b' (by simpa using hb)⟩
theorem pH (hE:a8 E) (hmo:E.P.follows .mixedOrders=true) {f:FuncId} {fn:Func} {code:Code} {ws:List V} {r:V} {Hin Hout Hnew:List Blk} {n:Nat} (J:bV) (hf:E.P.funcs[f]? =some fn) (hb:fn.body=some code) (hnt:fn.ntmps=n)
  (hsl:(dn n code&&decide (ws.length≤n)&& !(fn.name== "runtime.NumGoroutine"))=true) (hkn:(iq Hin Hout&&lI Hnew)=true)
  (h: ∀ks:Nat→Nat,wfL ws→pG Hin→wpA E J code (pF E fn.results.toList ks r Hout Hnew) ⟨ic 0 ws,lL 0 (bz ks 0 Hin),Hin.length⟩):ee E f ws Hin r Hout Hnew:=by
 simp only [Bool.and_eq_true,Bool.not_eq_true',decide_eq_true_eq] at hsl
 refine ⟨fun aas w=> ?_,hkn,fun c us ρ0 ks hg hin hus=> ?_⟩
 ·have hn: ¬fn.name= "runtime.NumGoroutine" :=by simpa using hsl.2
  simp [callFunc,hf,hb,hn]
 have hlen:us.length=ws.length:=by
  have: ∀{l:List V} {cs:List Value},rdT ρ0 c l cs→cs.length=l.length:=by
   intro l
   induction l with
   | nil=>intro cs hc;simp only [rdT] at hc;subst hc;rfl
   | cons d l ih=>
    intro cs hc
    simp only [rdT] at hc
    obtain ⟨u,c2,rfl,_,h3⟩:=hc
    simp [ih h3]
  exact this hus
 have hwfB:pG Hin:=by
  refine CP fun j b hb=> ?_
  have h1:=hin.1 j (eU (ks j) b) (by rw [nj,Nat.zero_add,hb];rfl)
  cases b with
  | var n g d=>
   obtain ⟨_,_,_,T,cs,_,_,h6⟩:=h1
   exact iS h6
  | own T n g z l=>
   obtain ⟨v,_,h2,_⟩:=h1
   refine ⟨h2.1,?_⟩
   rcases h2.2 with ⟨_,_,rfl⟩|⟨g',cp,cur,e2,k1,k2,k3,k4,k5,k6⟩
   ·trivial
   ·exact rf (er.2 k6)
  | _=>trivial
 have hall:=h ks (mH hus) hwfB
 refine (callsIn_wide (n:=1)).1 (callsIn_of_wp_marks hf hb trivial ?_ rfl)
 have hfr:Fr (mo:=kO) n (fun t=>(us.toArray++Array.replicate (n - us.toArray.size) undef).getD t undef) {tmps:=us.toArray++Array.replicate (fn.ntmps - us.toArray.size) undef,defers:=[]}:=by
  refine Fr.of ?_ rfl fun t=>by rw [hnt]
  simp [hnt];omega
 have hS:aT E c c ρ0 ⟨ic 0 ws,lL 0 (bz ks 0 Hin),Hin.length⟩ (fun t=>(us.toArray++Array.replicate (n - us.toArray.size) undef).getD t undef):=by
  refine ⟨⟨cy.refl c,hg,?_,?_,?_⟩,fun i hi=>hin.2.1 i (by rw [tc];exact hi)⟩
  ·intro t v ht
   rw [w6] at ht
   simp only [Nat.zero_le,if_true,Nat.sub_zero] at ht
   obtain ⟨u,hu,hr⟩:=wt hus ht
   have hlt:t<us.length:=(List.getElem?_eq_some_iff.1 hu).1
   have:(us.toArray++Array.replicate (n - us.toArray.size) undef).getD t undef=u:=by
    have he:us[t]=u:=by simpa [List.getElem?_eq_getElem hlt] using hu
    simp [Array.getD_eq_getD_getElem?,Array.getElem?_append,hlt,he]
   rw [this];exact hr
  ·intro i b hb
   rw [xA] at hb
   simp only [Nat.zero_le,if_true,Nat.sub_zero] at hb
   exact hin.1 i b hb
  ·intro i j bi bj x hij hbi hbj _ _ hx
   rw [xA] at hbi hbj
   simp only [Nat.zero_le,if_true,Nat.sub_zero] at hbi hbj
   exact hin.2.2 i j bi bj x hij hbi hbj hx
 refine w4 hE hmo code none _ c _ _ hsl.1.1 (.inl ⟨rfl,rfl⟩) ?_ c ρ0 _ _ _ [] hS hfr trivial hall
 rintro e a w ⟨c',ρ',S',F',ds,rfl,hS,hf',hd,hk⟩
 cases e with
 | ret=>
  simp only [pF] at hk
  split at hk
  ·rename_i vs hvs
   show LeavesInM _ _ _ _ _ _ a.defers .returning c'.w
   rw [hf'.df]
   refine pg hS hd fun c2 hS2=> ?_
   obtain ⟨u,hu,hr⟩:=w5 hE hS2.1 hf' rfl hvs
   obtain ⟨c1,ρ1,e1,hle,hr1,hH⟩:=hk c c2 ρ' F' u hS2 hr
   exact ⟨u,hu,u,c1,ρ1,rfl,e1,hle,hr1,hH⟩
  ·exact hk.elim
 | normal=>
  simp only [pF] at hk
  split at hk
  ·rename_i vs hvs
   show LeavesInM _ _ _ _ _ _ a.defers .returning c'.w
   rw [hf'.df]
   refine pg hS hd fun c2 hS2=> ?_
   obtain ⟨u,hu,hr⟩:=w5 hE hS2.1 hf' rfl hvs
   obtain ⟨c1,ρ1,e1,hle,hr1,hH⟩:=hk c c2 ρ' F' u hS2 hr
   exact ⟨u,hu,u,c1,ρ1,rfl,e1,hle,hr1,hH⟩
  ·exact hk.elim
 | _=>exact hk.elim
end
end Go.Proofs.YteibkofekpejgaaGreatDoor
namespace Go.Proofs.YteibkofekpejgaaGreatDoor
open Go.RowKit
attribute [go_sem] St.afterI prF prV prL prH prB eF eF.ownI1 sg gL jj fk ip ren jh bz eU lL fF inO ka lK inV fE Ka Kb gA cond_true cond_false Nat.sub_self List.getElem?_nil Nat.reduceSub
theorem CQ {c:Cx} {ρ:Ro} {n:Nat} {g:Bool} {post:List V} (h0:ρ 0=some (.slice none 0 0)): ∀{pre:List V} {us:List Value},rdT ro0 c (pre++ .sl (some true) n g []::post) us→rdT ρ c (pre++ .own 0::post) us
 | [],us,h=>by
  simp only [List.nil_append,rdT] at h⊢
  obtain ⟨u,c2,e,h1,h2⟩:=h
  have e2:u= .slice none 0 0:=by
   simp only [rd,zOk] at h1
   obtain ⟨a,cap,e,_,⟨rfl,rfl⟩,_⟩:=h1
   exact e
  subst e2
  refine ⟨_,c2,e,?_,?_⟩
  ·simp only [rd];exact ⟨h0,rfl⟩
  ·exact mI (fun i v hi=>(te hi).elim) h2
 | d::pre,us,h=>by
  simp only [List.cons_append,rdT] at h⊢
  obtain ⟨u,c2,e,h1,h2⟩:=h
  exact ⟨u,c2,e,cZ (fun i v hi=>(te hi).elim) h1,CQ h0 h2⟩
theorem Kf {E:Env} {f:FuncId} {pre post:List V} {T n:Nat} {g:Bool} {r:V} {Hout Hnew:List Blk} (h:ee E f (pre++ .own 0::post) [.own T n g (some true) []] r Hout Hnew) (hone:g=false→n=1):aW E f (pre++ .sl (some true) n g []::post) r (Hout++Hnew):=by
 refine ⟨h.1,fun c us hY hg hus=> ?_⟩
 have hk:=h.2.1
 simp only [Bool.and_eq_true] at hk
 obtain ⟨hkl,hkk⟩:=xv hk.1
 have hall: ∀(q:Nat) (b:Blk),Hout[q]? =some b→eE b:=by
  intro q b hb
  have hq:q<1:=by have:=(List.getElem?_eq_some_iff.1 hb).1;simp at hkl;omega
  have e:q=0:=by omega
  subst e
  rcases hkk 0 _ b rfl hb with ⟨h1,_⟩|⟨_,h1⟩
  ·exact h1.elim
  ·exact h1
 have hlent: ∀{l:List Blk} {i:Nat},(∀(q:Nat) (b:Blk),l[q]? =some b→eE b)→bz (fun _=>0) i l=l:=by
  intro l
  induction l with
  | nil=>intro i _;rfl
  | cons b l ih=>
   intro i hb
   have h1:=hb 0 b rfl
   simp only [bz]
   rw [ih fun q b hq=>hb (q+1) b (by simpa using hq)]
   cases b<;>simp only [eE] at h1<;>rfl
 refine (h.2.2 c us (fun i=>if i=0 then some (.slice none 0 0) else none) (fun _=>0) hg ?_ (CQ (by simp) hus)).mono ?_
 ·refine ⟨fun i b hb=> ?_,fun i hi=> ?_,fun i j bi bj k hij hi hj=> ?_⟩
  ·cases i with
   | zero=>
    simp [bz,eU] at hb;subst hb
    exact ⟨.slice none 0 0,by simp,Own.nil,fun k hk=>by simp [blk] at hk,hone,none,0,rfl,rfl,rfl⟩
   | succ i=>simp [bz] at hb
  ·have:i≠0:=by simp [bz] at hi;omega
   simp [this]
  ·cases i with
   | zero=>cases j with
    | zero=>exact absurd rfl hij
    | succ j=>simp [bz] at hj
   | succ i=>simp [bz] at hi
 ·rintro e w' ⟨v,c',ρ,rfl,rfl,hle,hr,hH⟩
  rw [hlent hall] at hH
  refine ⟨v,c',ρ,rfl,rfl,hle.le hY,hr,fun i b hb=>⟨?_,hH.1 i b hb⟩,hH.2.1,hH.2.2⟩
  have hb':eE b:=by
   rcases Nat.lt_or_ge i Hout.length with h1|h1
   ·rw [List.getElem?_append_left h1] at hb;exact hall i b hb
   ·rw [List.getElem?_append_right h1] at hb;exact xw hk.2 _ b hb
  cases b<;>simp only [eE] at hb'
  exact .inl ⟨_,_,_,_,_,rfl⟩
end Go.Proofs.YteibkofekpejgaaGreatDoor
namespace Go.Proofs.YteibkofekpejgaaGreatDoor
open Go.RowKit
section
variable {E:Env}
def xB (E:Env) (f:FuncId) (T n:Nat) (g:Bool) (z:Option Bool) (l l':List V):Prop:=
 (∀aas w,(callFunc f aas).run E.P w= .ok (.enter f aas) w)∧ ∀(c:Cx) (v:Value),Gl E c→Own c T v (rV ro0 n g) l→(g=false→n=1)→(∃a cap,v= .slice a l.length cap∧zOk z a cap)→
  Calls E.P f #[v] c.w fun e w'=> ∃u c',e= .returned u∧rd ro0 c' (.tup []) u∧c'.w=w'∧c.chg (blk v) c'∧Own c' T v (rV ro0 n g) l'∧ ∃a cap,v= .slice a l'.length cap∧zOk none a cap
def atK (T n:Nat) (g:Bool) (l':List V):Exit→St→Prop
 | .ret,S=>ab S.F bU=some (.own 0)∧ ∃z,ab S.H 0=some (.own T n g z l')
 | .normal,S=>ab S.F bU=some (.own 0)∧ ∃z,ab S.H 0=some (.own T n g z l')
 | _,_=>False
theorem CR {T n:Nat} {g:Bool} {z:Option Bool} {l' l2:List V} {e:Exit} {S:St} (he:e= .ret∨e= .normal) (h1:ab S.F bU=some (.own 0)) (h2:ab S.H 0=some (.own T n g z l2)) (h3:l2=l'):atK T n g l' e S:=by
 subst h3
 rcases he with rfl|rfl<;>exact ⟨h1,z,h2⟩
theorem Kg (hE:a8 E) (hmo:E.P.follows .mixedOrders=true) {f:FuncId} {fn:Func} {code:Code} {T n0:Nat} {g:Bool} {z:Option Bool} {l l':List V} {n:Nat} (J:bV) (hf:E.P.funcs[f]? =some fn) (hb:fn.body=some code) (hnt:fn.ntmps=n)
  (hsl:(dn n code&&fg code&&decide (1≤n∧n≤bU)&&fn.results.isEmpty&& !(fn.name== "runtime.NumGoroutine"))=true)
  (h:l.length≤LEN→wfL l→wpA E J code (atK T n0 g l') ⟨[(0,.own 0),(bU,.own 0)],[(0,.own T n0 g z l)],1⟩):xB E f T n0 g z l l':=by
 simp only [Bool.and_eq_true,Bool.not_eq_true',decide_eq_true_eq] at hsl
 obtain ⟨⟨⟨⟨hs1,hs2⟩,hs3,hs4⟩,hs5⟩,hs6⟩:=hsl
 refine ⟨fun aas w=> ?_,fun c v hg ho h1 hz=> ?_⟩
 ·have hn: ¬fn.name= "runtime.NumGoroutine" :=by simpa using hs6
  simp [callFunc,hf,hb,hn]
 have hwf:wfL l:=by
  rcases ho.2 with ⟨_,_,rfl⟩|⟨g',cp,cur,e2,k1,k2,k3,k4,k5,k6⟩
  ·trivial
  ·exact rf (er.2 k6)
 have hall:=h ho.1 hwf
 refine (callsIn_wide (n:=1)).1 (callsIn_of_wp_marks hf hb trivial ?_ rfl)
 -- the start
 let ys:List Nat:=(blk v).toList
 have hys: ∀k,blk v=some k↔k∈ys:=fun k=>by cases hv:blk v<;>simp [ys,hv,eq_comm]
 let c0:=c.lend ys
 let ρ0:Ro:=fun i=>if i=0 then some v else none
 have hv1:v.oneCell'=true:=by obtain ⟨a,cap,rfl,_⟩:=hz;rfl
 let hi:Nat→Value:=fun t=>if t=bU then v else undef
 let F0:Fm:=fun t=>if t<n then (#[v]++Array.replicate (n - 1) undef).getD t undef else hi t
 have hsz:(#[v]++Array.replicate (fn.ntmps - #[v].size) undef).size=n:=by simp [hnt];omega
 have hF0:F0 0=v:=by
  show (if 0<n then _ else _)=v
  rw [if_pos (by omega)]
  simp [Array.getD_eq_getD_getElem?,Array.getElem?_append]
 have hbk:blkOk c0 c0 ρ0 0 (.own T n0 g z l):=⟨v,rfl,ho.chg (c.chg_lend ys) (by simp),fun k hk=> .inr ((hys k).1 hk),h1,hz⟩
 have hS:aT E c0 c0 ρ0 ⟨[(0,.own 0),(bU,.own 0)],[(0,.own T n0 g z l)],1⟩ F0:=by
  refine ⟨⟨cy.refl _,hg.mono (c.pub_lend ys),fun t d ht=> ?_,fun i b hb=> ?_,fun i j bi bj k hij hi hj=> ?_⟩,fun i hi=> ?_⟩
  ·simp only [ab] at ht
   split at ht
   ·rename_i e;subst e;cases ht
    rw [hF0];exact ⟨rfl,hv1⟩
   ·split at ht
    ·rename_i e2 e;subst e;cases ht
     have:F0 bU=v:=by
      show (if bU<n then _ else if bU=bU then v else undef)=v
      rw [if_neg (by omega),if_pos rfl]
     rw [this];exact ⟨rfl,hv1⟩
    ·cases ht
  ·simp only [ab] at hb
   split at hb
   ·rename_i e;subst e;cases hb;exact hbk
   ·cases hb
  ·simp only [ab] at hi hj
   split at hi
   ·split at hj
    ·omega
    ·cases hj
   ·cases hi
  ·show (if i=0 then some v else none)=none
   have hi':1≤i:=hi
   rw [if_neg (by omega)]
 have hfr:Fr (mo:=⟨[],none,hi⟩) n F0 {tmps:= #[v]++Array.replicate (fn.ntmps - #[v].size) undef,defers:=[]}:=by
  refine @Fr.mk ⟨[],none,hi⟩ n F0 _ hsz rfl (fun t ht=> ?_) (fun t ht=> ?_)
  ·show _=(if t<n then _ else _)
   rw [if_pos ht];simp only [hnt];rfl
  ·show (if t<n then _ else hi t)=hi t
   rw [if_neg (by omega)]
 refine w4 hE hmo code none hi c0 _ _ hs1 (.inr hs2) ?_ c0 ρ0 _ F0 _ [] hS hfr trivial hall
 rintro e a w ⟨c',ρ',S',F',ds,rfl,hS',hf',hd,hk⟩
 have key:ab S'.F bU=some (.own 0)→(∃z,ab S'.H 0=some (.own T n0 g z l'))→LeavesInM Fence.wide 1 E.P fn a.tmps (fun e w'=> ∃u c',e= .returned u∧rd ro0 c' (.tup []) u∧c'.w=w'∧c.chg (blk v) c'∧Own c' T v (rV ro0 n0 g) l'∧ ∃a cap,v= .slice a l'.length cap∧zOk none a cap) a.defers .returning c'.w:=by
  rintro hF ⟨z',hH⟩
  rw [hf'.df]
  refine pg hS' hd fun c2 hS2=> ?_
  have h3:=hS2.1.slot _ _ hF
  have h4:F' bU=v:=by rw [hf'.hg bU hs4];show (if bU=bU then v else undef)=v;rw [if_pos rfl]
  rw [h4] at h3
  obtain ⟨h5,_⟩:=(show _∧_ from h3)
  obtain ⟨v2,g1,g2,g3,g4,g5⟩:=hS2.1.heap 0 _ hH
  rw [h5] at g1;cases g1
  refine ⟨.tuple #[],?_,_,c2,rfl,⟨[],rfl,rfl⟩,rfl,?_,g2,by obtain ⟨a,cap,e,hz'⟩:=g5;exact ⟨a,cap,e,kY hz'⟩⟩
  ·have he:fn.results= #[]:=by simpa using hs5
   simp [results,he]
  ·have hs:=hS2.1.since
   refine ⟨hs.below.os,hs.below.tape,hs.below.output,hs.size,fun k hk hne=>hs.below.block k hk fun hy=>hne ((hys k).2 hy),fun k hk=>⟨fun h'=> ?_,fun h'=> ?_⟩,fun k hk=>ho.isX k hk⟩
   ·by_cases hX:k∈c.X
    ·exact hX
    ·exact absurd h' (hs.Xn k hk hX)
   ·by_cases hy:k∈ys
    ·exact g2.isX k ((hys k).2 hy)
    ·exact hs.X k h' hy
 cases e with
 | ret=>exact key hk.1 hk.2
 | normal=>exact key hk.1 hk.2
 | _=>exact hk.elim
theorem Kh {J:bV} {k:List Ct} {S:St} {f:FuncId} {d:Option Nat} {id T n:Nat} {g:Bool} {z:Option Bool} {l l':List V} (hc:xB E f T n g z l l') (hH:ab S.H id=some (.own T n g z l)) (h:aI E J k .normal (St.put {S with H:=cT S.H id (.own T n g none l')} d (.tup []))):eR E J (some (.fn f [])) (some [.own id]) S d k:=by
 refine .inr ⟨hc.1,_,.tup [],?_,fun _=>h⟩
 intro c0 c ρ F us hs hus
 simp only [List.append_nil,rdT] at hus
 obtain ⟨u,us',rfl,h1,rfl⟩:=hus
 obtain ⟨v,g1,g2,g3,g4,g5⟩:=hs.1.heap _ _ hH
 obtain ⟨h2,_⟩:=(show _∧_ from h1)
 rw [g1] at h2;cases h2
 refine (hc.2 c _ hs.1.gl g2 g4 g5).mono ?_
 rintro e w' ⟨x,c',rfl,hr,rfl,hch,ho,a,cap,e1,hz⟩
 have hbk:=dY g1 e1
 have:=Bt hs (e:= .upd id (.own T n g none l')) (c':=c') (ρ':=ρ) ⟨_,hH,rfl,rfl⟩ ⟨by rw [hbk];exact hch,rfl,⟨_,g1,ho,g3,g4,a,cap,e1,hz⟩⟩
 exact ⟨x,c',ρ,rfl,rfl,iW this (cZ (fun i v h=>by cases h) hr),trivial⟩
end
end Go.Proofs.YteibkofekpejgaaGreatDoor
namespace Go.Proofs.YteibkofekpejgaaGreatDoor
open Go.RowKit
class CM (E:outParam Env) {α:Type} (m:α) (f:outParam FuncId) (ws:outParam (List V)) (R:outParam (α→V)) (Hs:outParam (α→List Blk)):Prop where
  ok:aW E f ws (R m) (Hs m)
class DRD (id:Nat) (n m:outParam Nat) (wr:outParam (List Nat)) (wl:outParam (List (Nat×Nat))) (need:outParam (List (List Nat))) (ub:outParam (List (Nat×Nat))):Prop where
  ok:True
class CF {α:Type} (m:α) (P:outParam (α→Prop)):Prop where
  ok:P m
theorem cfU {α:Type} {x m:α} {P:α→Prop} (hx:x=m) [h:CF m P]:P x:=by subst hx;exact h.ok
theorem mpQ {a b:Prop} (h:a) (f:a→b:=by assumption):b:=f h
section
variable {E:Env} {J:bV} {k:List Ct} {S:St} {α:Type} {f:FuncId} {ws:List V} {R:α→V} {Hs:α→List Blk}
theorem cmQ {m:α} (h: ∀r,m=r→aW E f ws (R r) (Hs r)):CM E m f ws R Hs:=⟨h m rfl⟩
theorem cmU {x m:α} (hx:x=m) [h:CM E m f ws R Hs]:aW E f ws (R x) (Hs x):=by subst hx;exact h.ok
theorem cmH {x m:α} (hx:x=m) (h:CM E m f ws R Hs):aW E f ws (R x) (Hs x):=by subst hx;exact h.ok
theorem lM {β:Type} {c:Bool} {a b r:β} (hM:(if c=true then a else b)=r) (h:c=true):a=r:=by rw [if_pos h] at hM;exact hM
theorem lN {β:Type} {c:Bool} {a b r:β} (hM:(if c=true then a else b)=r) (h:c=false):b=r:=by rw [if_neg (by rw [h];decide)] at hM;exact hM
theorem jm {r:Res} {d:Option Nat} (h:jX E J r S d k):jX E J r S d k:=h
theorem CS {v:Option V} {vs:Option (List V)} {d:Option Nat} (h:eR E J v vs S d k):eR E J v vs S d k:=h
theorem Ki {r:V} {H:List Blk} {o:Option (List V)} (h:jY E S r H o):jY E S r H o:=h
theorem lpP {K:St→Prop} (h:aI E J (.lp K::k) .normal S):aI E J (.lp K::k) .normal S:=h
theorem jn {id:Nat} {ops:Array Oper} (h:aI E J (.code (.region id ops true)::k) .normal S):aI E J (.code (.region id ops true)::k) .normal S:=h
theorem jo {id:Nat} {ops:Array Oper} {n m:Nat} {wr:List Nat} {wl:List (Nat×Nat)} {need:List (List Nat)} {ub:List (Nat×Nat)} [DRD id n m wr wl need ub] (hB:(wlB ops m wl&&iN n m ops wr need&&((List.range m).all fun i=>(need.getD i []).all fun j=>decide (j<i)))=true) (hU:ubB m need ub S.nx=true)
    (h:ce E ⟨J,S,wr,wl,need,ub,k⟩ m 0 ops.toList []):aI E J (.code (.region id ops true)::k) .normal S:=jZ n m wr wl need ub hB hU h
section
variable {D:Dr} {m i:Nat} {l:List Oper} {L:List (Nat×bc)} {d:Option Nat}
theorem jp {nid:Nat} {r:Res} (h:cB E D m i l L d nid r):cB E D m i l L d nid r:=h
theorem CT {v:Option V} {vs:Option (List V)} (h:gF E D m i l L d S v vs):gF E D m i l L d S v vs:=h
end
theorem Kj (k i:Nat) {n:Nat} {g:Bool} {z:Option Bool} {m:List V} (h:ab S.H k=some (.var 1 false (.own i))) (h2:ab S.H i=some (.pown n g z m)):
    ca E S ⟨S.F,cT S.H k (.var 1 false (.sl z n g m)),S.nx⟩:=by
  intro c0 c ρ F hs
  obtain ⟨v,h4,h5⟩:=hs.1.heap _ _ h2
  have hx: ∀u,rd ρ c (.own i) u→rd ρ c (.sl z n g m) u:=fun u hu=>by
    simp only [rd] at hu
    rw [hu.1] at h4;cases h4
    simpa only [rd] using h5
  obtain ⟨b0,g1,g2,g3⟩:=hs.1.heap _ _ h
  refine ⟨c,ρ,rfl,⟨hs.1.since,hs.1.gl,hs.1.slot,fun a b hb=> ?_,?_⟩,hs.2⟩
  · rw [cK] at hb
    split at hb
    · rename_i e';subst e';cases hb
      obtain ⟨hX,T',cs,hh,hsh,hrd⟩:=g3
      refine ⟨b0,g1,g2,hX,T',cs,hh,hsh,?_⟩
      exact hx _ hrd
    · exact hs.1.heap a b hb
  · intro a b ba bb q hab hba hbb hpa hpb hk hk'
    have back: ∀{x:Nat} {bx:Blk},ab (cT S.H k (.var 1 false (.sl z n g m))) x=some bx→aU bx=true→ ∃b',ab S.H x=some b'∧aU b'=true:=by
      intro x bx hx hp
      rw [cK] at hx
      split at hx
      · rename_i e;subst e;exact ⟨_,h,rfl⟩
      · exact ⟨bx,hx,hp⟩
    obtain ⟨ba',h1,h2'⟩:=back hba hpa
    obtain ⟨bb',h3,h4'⟩:=back hbb hpb
    exact hs.1.sep a b ba' bb' q hab h1 h3 h2' h4' hk hk'
theorem nn:True:=trivial
theorem dN {β:Type} [Inhabited β] {l:List β} {g:β→V} {i:Nat} (h:i<l.length) (d:V):elt (l.map g) i d=g (gt l (i:Int)):=cM (i:=(i:Int)) h d
end
theorem omA {P:Prop} (h:P:=by
  first
    | exact omQ
    | (clear hM;first
      | (have h9:=hA0 (by first|assumption|omega);exact ao)
      | (have h9:=hA0 (by first|assumption|omega) (by first|assumption|omega);exact ao)
      | (have h9:=hA0 (by first|assumption|omega) (by first|assumption|omega) (by first|assumption|omega);exact ao)
      | (have h9:=hA0 (by first|assumption|omega) (by first|assumption|omega) (by first|assumption|omega) (by first|assumption|omega);exact ao)
      | (have h9:=hA1 (by first|assumption|omega);exact ao)
      | (have h9:=hA1 (by first|assumption|omega) (by first|assumption|omega);exact ao)
      | (have h9:=hA1 (by first|assumption|omega) (by first|assumption|omega) (by first|assumption|omega);exact ao))):P:=h
theorem omR {P:Prop} (h:P:=by
  first
    | exact ao
    | (first
      | (have h9:=hA0 (by first|assumption|omega);exact ao)
      | (have h9:=hA0 (by first|assumption|omega) (by first|assumption|omega);exact ao)
      | (have h9:=hA0 (by first|assumption|omega) (by first|assumption|omega) (by first|assumption|omega);exact ao)
      | (have h9:=hA0 (by first|assumption|omega) (by first|assumption|omega) (by first|assumption|omega) (by first|assumption|omega);exact ao)
      | (have h9:=hA1 (by first|assumption|omega);exact ao)
      | (have h9:=hA1 (by first|assumption|omega) (by first|assumption|omega);exact ao)
      | (have h9:=hA1 (by first|assumption|omega) (by first|assumption|omega) (by first|assumption|omega);exact ao))):P:=h
theorem auQ {P:Prop} (h:P:=by
  repeat' (first
    | ((first|(with_reducible refine bY ?_ ?_)|(with_reducible refine sB ?_ ?_)|(with_reducible refine fT ?_ ?_)|(with_reducible refine sC ?_ ?_)|(with_reducible refine sD ?_ ?_))<;>(intro h0;(first|replace hM:=lM hM h0|replace hM:=lN hM h0);replace hF:=And.intro h0 hF;replace h0:=nzQ h0;(try have h1:=mpQ h0);(first|refine ap hF ?_|skip)))
    | (with_reducible refine jm ?_
       refine bA ?h9 ?_
       case h9=>exact omA
       first
         | (rw [cM ?h9];case h9=>exact omA)
         | (rw [dN ?h9];case h9=>exact omA)
         | skip
       refine ap hF ?_)
    | (with_reducible refine jp ?_
       first
         | (refine gH ?h9 ?_;case h9=>exact omA)
         | (refine i6 ?h9 (an hF) ?_;case h9=>exact omA)
         | (refine i7 ?h9 (an hF) ?_;case h9=>exact omA)
         | (refine jc ?h9 (an hF) ?_;case h9=>exact omA)
         | (refine ja ?h9 (an hF) ?_;case h9=>exact omA)
         | (refine jb ?h9 (an hF) ?_;case h9=>exact omA)
       first
         | (rw [cM ?h9];case h9=>exact omA)
         | (rw [dN ?h9];case h9=>exact omA)
         | skip
       refine ap hF ?_)
    | (with_reducible refine CS ?_
       replace hM:=aw hM;obtain ⟨x0,hx0,hM⟩:=hM
       first
         | refine aP (cmU hx0) (an hF) (an hF) (fun hw0=> ?_)
         | refine fD (cmU hx0) (an hF) (an hF) (fun hw0=> ?_)
       replace hw0:=nzQ hw0
       try have hq0:=nzQ (cfU hx0)
       refine ap hF ?_)
    | (with_reducible refine CT ?_
       replace hM:=aw hM;obtain ⟨x0,hx0,hM⟩:=hM
       first
         | refine bC (cmU hx0) (an hF) (an hF) ?_
         | refine bC (aW.pub (cmU hx0)) (an hF) (an hF) ?_
         | refine Ce (cmU hx0) (an hF) (an hF) ?_
       try have hq0:=nzQ (cfU hx0)
       refine ap hF ?_)
    | (with_reducible refine jn ?_
       refine jo (by kernel_rfl) (by exact alQ) ?_
       refine ap hF ?_)
    | (with_reducible refine Ki ?_
       subst hM
       exact b9 (cr hF))
    | (with_reducible refine lpP ?_
       refine aC ?_ _ ?h1 ?h2 ?h3 ⟨_,rfl,?h4,?h5,aB hM ?h6⟩
       case h6=>assumption
       case h1=>omega
       case h2=>first|exact sbQ|exact Cs (And.intro @je (And.intro @jf hF))
       case h3=>first|exact sbQ|exact Cs (And.intro @je (And.intro @jf hF))
       case h4=>first|trivial|exact omA|(repeat' (first|exact omA|apply And.intro))
       case h5=>exact omA))):P:=h
structure Hid (p:Prop):Prop where
  out:p
theorem slQ {P Q:Prop} (k:Q) (h:Hid Q→P:=by
  intro k hF hM
  (first|refine ap hF ?_|skip)
  repeat (first
      | (with_reducible refine jm ?_
         refine bA ?h9 ?_
         case h9=>exact omA
         first
           | (rw [cM ?h9];case h9=>exact omA)
           | (rw [dN ?h9];case h9=>exact omA)
           | skip
         refine ap hF ?_)
      | (with_reducible refine jp ?_
         first
           | (refine gH ?h9 ?_;case h9=>exact omA)
           | (refine i6 ?h9 (an hF) ?_;case h9=>exact omA)
           | (refine i7 ?h9 (an hF) ?_;case h9=>exact omA)
           | (refine jc ?h9 (an hF) ?_;case h9=>exact omA)
           | (refine ja ?h9 (an hF) ?_;case h9=>exact omA)
           | (refine jb ?h9 (an hF) ?_;case h9=>exact omA)
         first
           | (rw [cM ?h9];case h9=>exact omA)
           | (rw [dN ?h9];case h9=>exact omA)
           | skip
         refine ap hF ?_)
      | (with_reducible refine jn ?_
         refine jo (by kernel_rfl) (by exact alQ) ?_
         refine ap hF ?_))
  revert hM;revert hF
  exact k.out):P:=h ⟨k⟩
theorem slA {A P Q:Prop} (a:A) (k:Q) (h:A→Hid Q→P:=by
  intro hA k hF hM
  replace hF:=And.intro hA hF
  (first|refine ap hF ?_|skip)
  repeat (first
      | (with_reducible refine jm ?_
         refine bA ?h9 ?_
         case h9=>exact omA
         first
           | (rw [cM ?h9];case h9=>exact omA)
           | (rw [dN ?h9];case h9=>exact omA)
           | skip
         refine ap hF ?_)
      | (with_reducible refine jp ?_
         first
           | (refine gH ?h9 ?_;case h9=>exact omA)
           | (refine i6 ?h9 (an hF) ?_;case h9=>exact omA)
           | (refine i7 ?h9 (an hF) ?_;case h9=>exact omA)
           | (refine jc ?h9 (an hF) ?_;case h9=>exact omA)
           | (refine ja ?h9 (an hF) ?_;case h9=>exact omA)
           | (refine jb ?h9 (an hF) ?_;case h9=>exact omA)
         first
           | (rw [cM ?h9];case h9=>exact omA)
           | (rw [dN ?h9];case h9=>exact omA)
           | skip
         refine ap hF ?_)
      | (with_reducible refine jn ?_
         refine jo (by kernel_rfl) (by exact alQ) ?_
         refine ap hF ?_))
  revert hM;revert hF
  exact k.out):P:=h a ⟨k⟩
theorem ax {P:Prop} {α:Type} {H W V Q:α→Prop} (k: ∀x,H x→W x→V x→Q x) (h:Hid (∀x,H x→W x→V x→Q x)→P:=by
  intro k hF hM
  replace hM:=aw hM;obtain ⟨x0,hx0,hM⟩:=hM
  first
    | (with_reducible refine CS ?_
       first
         | refine aP (cmU hx0) (an hF) (an hF) (fun hw0=> ?_)
         | refine fD (cmU hx0) (an hF) (an hF) (fun hw0=> ?_)
       replace hw0:=nzQ hw0
       try have hq0:=nzQ (cfU hx0)
       (first|refine ap hF ?_|skip)
       repeat (first
           | (with_reducible refine jm ?_
              refine bA ?h9 ?_
              case h9=>exact omA
              first
                | (rw [cM ?h9];case h9=>exact omA)
                | (rw [dN ?h9];case h9=>exact omA)
                | skip
              refine ap hF ?_)
           | (with_reducible refine jp ?_
              first
                | (refine gH ?h9 ?_;case h9=>exact omA)
                | (refine i6 ?h9 (an hF) ?_;case h9=>exact omA)
                | (refine i7 ?h9 (an hF) ?_;case h9=>exact omA)
                | (refine jc ?h9 (an hF) ?_;case h9=>exact omA)
                | (refine ja ?h9 (an hF) ?_;case h9=>exact omA)
                | (refine jb ?h9 (an hF) ?_;case h9=>exact omA)
              first
                | (rw [cM ?h9];case h9=>exact omA)
                | (rw [dN ?h9];case h9=>exact omA)
                | skip
              refine ap hF ?_)
           | (with_reducible refine jn ?_
              refine jo (by kernel_rfl) (by exact alQ) ?_
              refine ap hF ?_))
       revert hM;revert hF
       first|exact k.out x0 hx0 hw0 hq0|exact k.out x0 hx0 hw0 trivial)
    | (with_reducible refine CT ?_
       first
         | refine bC (cmU hx0) (an hF) (an hF) ?_
         | refine bC (aW.pub (cmU hx0)) (an hF) (an hF) ?_
         | refine Ce (cmU hx0) (an hF) (an hF) ?_
       try have hq0:=nzQ (cfU hx0)
       (first|refine ap hF ?_|skip)
       repeat (first
           | (with_reducible refine jm ?_
              refine bA ?h9 ?_
              case h9=>exact omA
              first
                | (rw [cM ?h9];case h9=>exact omA)
                | (rw [dN ?h9];case h9=>exact omA)
                | skip
              refine ap hF ?_)
           | (with_reducible refine jp ?_
              first
                | (refine gH ?h9 ?_;case h9=>exact omA)
                | (refine i6 ?h9 (an hF) ?_;case h9=>exact omA)
                | (refine i7 ?h9 (an hF) ?_;case h9=>exact omA)
                | (refine jc ?h9 (an hF) ?_;case h9=>exact omA)
                | (refine ja ?h9 (an hF) ?_;case h9=>exact omA)
                | (refine jb ?h9 (an hF) ?_;case h9=>exact omA)
              first
                | (rw [cM ?h9];case h9=>exact omA)
                | (rw [dN ?h9];case h9=>exact omA)
                | skip
              refine ap hF ?_)
           | (with_reducible refine jn ?_
              refine jo (by kernel_rfl) (by exact alQ) ?_
              refine ap hF ?_))
       revert hM;revert hF
       first|exact k.out x0 hx0 trivial hq0|exact k.out x0 hx0 trivial trivial)):P:=h ⟨k⟩
theorem cdQ {P H1 N1 R1 Q1 H2 N2 R2 Q2:Prop} (k1:H1→N1→R1→Q1) (k2:H2→N2→R2→Q2) (h:Hid (H1→N1→R1→Q1)→Hid (H2→N2→R2→Q2)→P:=by
  intro k1 k2 hF hM
  (first|(with_reducible refine bY ?_ ?_)|(with_reducible refine sB ?_ ?_)|(with_reducible refine fT ?_ ?_)|(with_reducible refine sC ?_ ?_)|(with_reducible refine sD ?_ ?_))
  · intro h0
    (first|replace hM:=lM hM h0|replace hM:=lN hM h0)
    replace hF:=And.intro h0 hF
    have hn:=nzQ h0
    try have h1:=mpQ hn
    (first|refine ap hF ?_|skip)
    repeat (first
        | (with_reducible refine jm ?_
           refine bA ?h9 ?_
           case h9=>exact omA
           first
             | (rw [cM ?h9];case h9=>exact omA)
             | (rw [dN ?h9];case h9=>exact omA)
             | skip
           refine ap hF ?_)
        | (with_reducible refine jp ?_
           first
             | (refine gH ?h9 ?_;case h9=>exact omA)
             | (refine i6 ?h9 (an hF) ?_;case h9=>exact omA)
             | (refine i7 ?h9 (an hF) ?_;case h9=>exact omA)
             | (refine jc ?h9 (an hF) ?_;case h9=>exact omA)
             | (refine ja ?h9 (an hF) ?_;case h9=>exact omA)
             | (refine jb ?h9 (an hF) ?_;case h9=>exact omA)
           first
             | (rw [cM ?h9];case h9=>exact omA)
             | (rw [dN ?h9];case h9=>exact omA)
             | skip
           refine ap hF ?_)
        | (with_reducible refine jn ?_
           refine jo (by kernel_rfl) (by exact alQ) ?_
           refine ap hF ?_))
    revert hM;revert hF
    first|exact k1.out h0 hn h1|exact k1.out h0 hn trivial
  · intro h0
    (first|replace hM:=lM hM h0|replace hM:=lN hM h0)
    replace hF:=And.intro h0 hF
    have hn:=nzQ h0
    try have h1:=mpQ hn
    (first|refine ap hF ?_|skip)
    repeat (first
        | (with_reducible refine jm ?_
           refine bA ?h9 ?_
           case h9=>exact omA
           first
             | (rw [cM ?h9];case h9=>exact omA)
             | (rw [dN ?h9];case h9=>exact omA)
             | skip
           refine ap hF ?_)
        | (with_reducible refine jp ?_
           first
             | (refine gH ?h9 ?_;case h9=>exact omA)
             | (refine i6 ?h9 (an hF) ?_;case h9=>exact omA)
             | (refine i7 ?h9 (an hF) ?_;case h9=>exact omA)
             | (refine jc ?h9 (an hF) ?_;case h9=>exact omA)
             | (refine ja ?h9 (an hF) ?_;case h9=>exact omA)
             | (refine jb ?h9 (an hF) ?_;case h9=>exact omA)
           first
             | (rw [cM ?h9];case h9=>exact omA)
             | (rw [dN ?h9];case h9=>exact omA)
             | skip
           refine ap hF ?_)
        | (with_reducible refine jn ?_
           refine jo (by kernel_rfl) (by exact alQ) ?_
           refine ap hF ?_))
    revert hM;revert hF
    first|exact k2.out h0 hn h1|exact k2.out h0 hn trivial):P:=h ⟨k1⟩ ⟨k2⟩
theorem az {P H2 N2 R2 Q2:Prop} (k2:H2→N2→R2→Q2) (h:Hid (H2→N2→R2→Q2)→P:=by
  intro k2 hF hM
  (first|(with_reducible refine bY ?_ ?_)|(with_reducible refine sB ?_ ?_)|(with_reducible refine fT ?_ ?_)|(with_reducible refine sC ?_ ?_)|(with_reducible refine sD ?_ ?_))
  · clear k2
    intro h0
    (first|replace hM:=lM hM h0|replace hM:=lN hM h0)
    replace hF:=And.intro h0 hF
    replace h0:=nzQ h0
    (try have h1:=mpQ h0)
    (first|refine ap hF ?_|skip)
    exact auQ
  · intro h0
    (first|replace hM:=lM hM h0|replace hM:=lN hM h0)
    replace hF:=And.intro h0 hF
    have hn:=nzQ h0
    try have h1:=mpQ hn
    (first|refine ap hF ?_|skip)
    repeat (first
        | (with_reducible refine jm ?_
           refine bA ?h9 ?_
           case h9=>exact omA
           first
             | (rw [cM ?h9];case h9=>exact omA)
             | (rw [dN ?h9];case h9=>exact omA)
             | skip
           refine ap hF ?_)
        | (with_reducible refine jp ?_
           first
             | (refine gH ?h9 ?_;case h9=>exact omA)
             | (refine i6 ?h9 (an hF) ?_;case h9=>exact omA)
             | (refine i7 ?h9 (an hF) ?_;case h9=>exact omA)
             | (refine jc ?h9 (an hF) ?_;case h9=>exact omA)
             | (refine ja ?h9 (an hF) ?_;case h9=>exact omA)
             | (refine jb ?h9 (an hF) ?_;case h9=>exact omA)
           first
             | (rw [cM ?h9];case h9=>exact omA)
             | (rw [dN ?h9];case h9=>exact omA)
             | skip
           refine ap hF ?_)
        | (with_reducible refine jn ?_
           refine jo (by kernel_rfl) (by exact alQ) ?_
           refine ap hF ?_))
    revert hM;revert hF
    first|exact k2.out h0 hn h1|exact k2.out h0 hn trivial):P:=h ⟨k2⟩
theorem aq {P H1 N1 R1 Q1:Prop} (k1:H1→N1→R1→Q1) (h:Hid (H1→N1→R1→Q1)→P:=by
  intro k1 hF hM
  (first|(with_reducible refine bY ?_ ?_)|(with_reducible refine sB ?_ ?_)|(with_reducible refine fT ?_ ?_)|(with_reducible refine sC ?_ ?_)|(with_reducible refine sD ?_ ?_))
  · intro h0
    (first|replace hM:=lM hM h0|replace hM:=lN hM h0)
    replace hF:=And.intro h0 hF
    have hn:=nzQ h0
    try have h1:=mpQ hn
    (first|refine ap hF ?_|skip)
    repeat (first
        | (with_reducible refine jm ?_
           refine bA ?h9 ?_
           case h9=>exact omA
           first
             | (rw [cM ?h9];case h9=>exact omA)
             | (rw [dN ?h9];case h9=>exact omA)
             | skip
           refine ap hF ?_)
        | (with_reducible refine jp ?_
           first
             | (refine gH ?h9 ?_;case h9=>exact omA)
             | (refine i6 ?h9 (an hF) ?_;case h9=>exact omA)
             | (refine i7 ?h9 (an hF) ?_;case h9=>exact omA)
             | (refine jc ?h9 (an hF) ?_;case h9=>exact omA)
             | (refine ja ?h9 (an hF) ?_;case h9=>exact omA)
             | (refine jb ?h9 (an hF) ?_;case h9=>exact omA)
           first
             | (rw [cM ?h9];case h9=>exact omA)
             | (rw [dN ?h9];case h9=>exact omA)
             | skip
           refine ap hF ?_)
        | (with_reducible refine jn ?_
           refine jo (by kernel_rfl) (by exact alQ) ?_
           refine ap hF ?_))
    revert hM;revert hF
    first|exact k1.out h0 hn h1|exact k1.out h0 hn trivial
  · clear k1
    intro h0
    (first|replace hM:=lM hM h0|replace hM:=lN hM h0)
    replace hF:=And.intro h0 hF
    replace h0:=nzQ h0
    (try have h1:=mpQ h0)
    (first|refine ap hF ?_|skip)
    exact auQ):P:=h ⟨k1⟩
theorem auP {P:Prop} (h:P:=by (first|refine ap hF ?_|skip);exact auQ):P:=h
theorem auR {P:Prop} (h:P:=by intro hF hM;(first|refine ap hF ?_|skip);exact auQ):P:=h
theorem lsQ {P:Prop} (h:P:=by (simp only [go_sem,co,cq,List.length_replicate,b_,Int.toNat_natCast,↓reduceIte,Nat.reduceEqDiff,Nat.reduceAdd,Int.reduceAdd,Nat.reduceMul,Nat.reduceLeDiff,Nat.reduceLT,Int.reduceLE,Int.reduceLT,Int.reduceNeg,Int.reduceToNat,mt,mtL,lz,ly,mtZ,and_self,eq_self,or_true,true_or,ng,je,jf,Int.reduceSub,or_self]<;>fail)):P:=h
theorem cN {A P:Prop} (a:A) (h:A→P:=by (intro hA;simp only [go_sem,co,cq,List.length_replicate,b_,Int.toNat_natCast,↓reduceIte,Nat.reduceEqDiff,Nat.reduceAdd,Int.reduceAdd,Nat.reduceMul,Nat.reduceLeDiff,Nat.reduceLT,Int.reduceLE,Int.reduceLT,Int.reduceNeg,Int.reduceToNat,mt,mtL,lz,ly,mtZ,and_self,eq_self,or_true,true_or,ng,je,jf,Int.reduceSub,or_self,hA]<;>fail)):P:=h a
theorem sbG {P:Prop} (h:P:=by (simp only [go_sem,co,cq,List.length_replicate,b_,Int.toNat_natCast,↓reduceIte,Nat.reduceEqDiff,Nat.reduceAdd,Int.reduceAdd,Nat.reduceMul,Nat.reduceLeDiff,Nat.reduceLT,Int.reduceLE,Int.reduceLT,Int.reduceNeg,Int.reduceToNat,List.isEmpty_nil,ng,pB,sZ,dL,dM,mtO,mtB,mt,mtL,lz,ly,ltV,ltL,ltB,eq_self,or_true,true_or,or_self,and_self,je,jf,Int.reduceSub]<;>fail)):P:=h
theorem nzB {P Q:Prop} (h:P) (e:P=Q:=by first|(simp only [pG,wfB,decide_eq_true_eq,decide_eq_false_iff_not,Bool.and_eq_true,Bool.or_eq_true,Bool.not_eq_true',Bool.not_eq_false',beq_iff_eq,bne_iff_ne,beq_eq_false_iff_ne,bne_eq_false_iff_eq,ne_eq,Int.not_lt,Int.not_le,gt_iff_lt,ge_iff_le,List.length_map,wfL,wfV,and_true,true_and,fU,xh,xi,xj,xk,pu,nd,List.length_append,List.length_cons,List.length_nil,List.length_replicate,b_,px,py,pz,dc,nf,xl,Ci];rfl)|rfl):Q:=e▸h
end Go.Proofs.YteibkofekpejgaaGreatDoor
namespace Go.Proofs.YteibkofekpejgaaGreatDoor
open Go.RowKit
structure bW where
 Kind:Int
 A:Int
 B:Int
def tk:bW:={Kind:=(0:Int),A:=(0:Int),B:=(0:Int)}
instance:Inhabited bW:=⟨tk⟩
@[go_sem] theorem PH:tk.Kind=(0:Int):=Eq.trans rfl rfl
@[go_sem] theorem PI:tk.A=(0:Int):=Eq.trans rfl rfl
@[go_sem] theorem PJ:tk.B=(0:Int):=Eq.trans rfl rfl
structure dp where
 Rules:(List bW)
def tl:dp:={Rules:=[]}
instance:Inhabited dp:=⟨tl⟩
@[go_sem] theorem PK:tl.Rules=[]:=Eq.trans rfl rfl
structure aN where
 Payee:(List Int)
 Amount:Int
 Time:Int
 Number:Int
def fm:aN:={Payee:=[0,0,0,0,0,0,0,0,0,0,0,0,0,0,0,0,0,0,0,0,0,0,0,0,0,0,0,0,0,0,0,0],Amount:=(0:Int),Time:=(0:Int),Number:=(0:Int)}
instance:Inhabited aN:=⟨fm⟩
@[go_sem] theorem PL:fm.Payee=[0,0,0,0,0,0,0,0,0,0,0,0,0,0,0,0,0,0,0,0,0,0,0,0,0,0,0,0,0,0,0,0]:=Eq.trans rfl rfl
@[go_sem] theorem PM:fm.Amount=(0:Int):=Eq.trans rfl rfl
@[go_sem] theorem PN:fm.Time=(0:Int):=Eq.trans rfl rfl
@[go_sem] theorem PO:fm.Number=(0:Int):=Eq.trans rfl rfl
structure gM where
 Z:Int
 A:Int
 B:Int
 R:Int
def lO:gM:={Z:=(0:Int),A:=(0:Int),B:=(0:Int),R:=(0:Int)}
instance:Inhabited gM:=⟨lO⟩
@[go_sem] theorem PP:lO.Z=(0:Int):=Eq.trans rfl rfl
@[go_sem] theorem PQ:lO.A=(0:Int):=Eq.trans rfl rfl
@[go_sem] theorem PR:lO.B=(0:Int):=Eq.trans rfl rfl
@[go_sem] theorem PS:lO.R=(0:Int):=Eq.trans rfl rfl
structure bu where
 Bank:Int
 Epoch:Int
 Denom:Int
 Depth:Int
 A:Int
 Root:(List Int)
 Sign:gM
def ir:bu:={Bank:=(0:Int),Epoch:=(0:Int),Denom:=(0:Int),Depth:=(0:Int),A:=(0:Int),Root:=[0,0,0,0,0,0,0,0,0,0,0,0,0,0,0,0,0,0,0,0,0,0,0,0,0,0,0,0,0,0,0,0],Sign:=lO}
instance:Inhabited bu:=⟨ir⟩
@[go_sem] theorem PT:ir.Bank=(0:Int):=Eq.trans rfl rfl
@[go_sem] theorem PU:ir.Epoch=(0:Int):=Eq.trans rfl rfl
@[go_sem] theorem PV:ir.Denom=(0:Int):=Eq.trans rfl rfl
@[go_sem] theorem PW:ir.Depth=(0:Int):=Eq.trans rfl rfl
@[go_sem] theorem PX:ir.A=(0:Int):=Eq.trans rfl rfl
@[go_sem] theorem PY:ir.Root=[0,0,0,0,0,0,0,0,0,0,0,0,0,0,0,0,0,0,0,0,0,0,0,0,0,0,0,0,0,0,0,0]:=Eq.trans rfl rfl
@[go_sem] theorem PZ:ir.Sign=lO:=Eq.trans rfl rfl
structure fG where
 Level:Int
 Index:Int
def pI:fG:={Level:=(0:Int),Index:=(0:Int)}
instance:Inhabited fG:=⟨pI⟩
@[go_sem] theorem P0:pI.Level=(0:Int):=Eq.trans rfl rfl
@[go_sem] theorem P1:pI.Index=(0:Int):=Eq.trans rfl rfl
structure eH where
 Payee:(List Int)
 Time:Int
 Number:Int
def lP:eH:={Payee:=[0,0,0,0,0,0,0,0,0,0,0,0,0,0,0,0,0,0,0,0,0,0,0,0,0,0,0,0,0,0,0,0],Time:=(0:Int),Number:=(0:Int)}
instance:Inhabited eH:=⟨lP⟩
@[go_sem] theorem P2:lP.Payee=[0,0,0,0,0,0,0,0,0,0,0,0,0,0,0,0,0,0,0,0,0,0,0,0,0,0,0,0,0,0,0,0]:=Eq.trans rfl rfl
@[go_sem] theorem P3:lP.Time=(0:Int):=Eq.trans rfl rfl
@[go_sem] theorem P4:lP.Number=(0:Int):=Eq.trans rfl rfl
structure dO where
 B:Int
 R1:Int
 R2:Int
def tn:dO:={B:=(0:Int),R1:=(0:Int),R2:=(0:Int)}
instance:Inhabited dO:=⟨tn⟩
@[go_sem] theorem P5:tn.B=(0:Int):=Eq.trans rfl rfl
@[go_sem] theorem P6:tn.R1=(0:Int):=Eq.trans rfl rfl
@[go_sem] theorem P7:tn.R2=(0:Int):=Eq.trans rfl rfl
structure eI where
 Index:Int
 L:(List (List Int))
def pJ:eI:={Index:=(0:Int),L:=[]}
instance:Inhabited eI:=⟨pJ⟩
@[go_sem] theorem P8:pJ.Index=(0:Int):=Eq.trans rfl rfl
@[go_sem] theorem P9:pJ.L=[]:=Eq.trans rfl rfl
structure au where
 Coin:bu
 Node:fG
 Context:eH
 Leaves:(List dO)
 Path:eI
def iu:au:={Coin:=ir,Node:=pI,Context:=lP,Leaves:=[],Path:=pJ}
instance:Inhabited au:=⟨iu⟩
@[go_sem] theorem P_:iu.Coin=ir:=Eq.trans rfl rfl
@[go_sem] theorem Qa:iu.Node=pI:=Eq.trans rfl rfl
@[go_sem] theorem Qb:iu.Context=lP:=Eq.trans rfl rfl
@[go_sem] theorem Qc:iu.Leaves=[]:=Eq.trans rfl rfl
@[go_sem] theorem Qd:iu.Path=pJ:=Eq.trans rfl rfl
structure bh where
 First:au
 L:(List au)
def xC:bh:={First:=iu,L:=[]}
instance:Inhabited bh:=⟨xC⟩
@[go_sem] theorem Qe:xC.First=iu:=Eq.trans rfl rfl
@[go_sem] theorem Qf:xC.L=[]:=Eq.trans rfl rfl
structure dP where
 A:(List Int)
 C:Int
 Z:(List Int)
def np:dP:={A:=[],C:=(0:Int),Z:=[]}
instance:Inhabited dP:=⟨np⟩
@[go_sem] theorem Qg:np.A=[]:=Eq.trans rfl rfl
@[go_sem] theorem Qh:np.C=(0:Int):=Eq.trans rfl rfl
@[go_sem] theorem Qi:np.Z=[]:=Eq.trans rfl rfl
structure bZ where
 E1:Int
 E2:Int
 Proof:dP
def tp:bZ:={E1:=(0:Int),E2:=(0:Int),Proof:=np}
instance:Inhabited bZ:=⟨tp⟩
@[go_sem] theorem Qj:tp.E1=(0:Int):=Eq.trans rfl rfl
@[go_sem] theorem Qk:tp.E2=(0:Int):=Eq.trans rfl rfl
@[go_sem] theorem Ql:tp.Proof=np:=Eq.trans rfl rfl
structure aK where
 Number:Int
 Spends:(List au)
 Chains:(List bh)
 Escrow:(List bZ)
def lQ:aK:={Number:=(0:Int),Spends:=[],Chains:=[],Escrow:=[]}
instance:Inhabited aK:=⟨lQ⟩
@[go_sem] theorem Qm:lQ.Number=(0:Int):=Eq.trans rfl rfl
@[go_sem] theorem Qn:lQ.Spends=[]:=Eq.trans rfl rfl
@[go_sem] theorem Qo:lQ.Chains=[]:=Eq.trans rfl rfl
@[go_sem] theorem Qp:lQ.Escrow=[]:=Eq.trans rfl rfl
structure aD where
 Name:(List Int)
 Policy:dp
 Open:(List aN)
 Next:Int
 Queue:(List aK)
 Paid:(List aN)
 Total:Int
 Blocked:(List Int)
 Now:Int
def bG:aD:={Name:=[0,0,0,0,0,0,0,0,0,0,0,0,0,0,0,0,0,0,0,0,0,0,0,0,0,0,0,0,0,0,0,0],Policy:=tl,Open:=[],Next:=(0:Int),Queue:=[],Paid:=[],Total:=(0:Int),Blocked:=[],Now:=(0:Int)}
instance:Inhabited aD:=⟨bG⟩
@[go_sem] theorem Qq:bG.Name=[0,0,0,0,0,0,0,0,0,0,0,0,0,0,0,0,0,0,0,0,0,0,0,0,0,0,0,0,0,0,0,0]:=Eq.trans rfl rfl
@[go_sem] theorem Qr:bG.Policy=tl:=Eq.trans rfl rfl
@[go_sem] theorem Qt:bG.Open=[]:=Eq.trans rfl rfl
@[go_sem] theorem Qu:bG.Next=(0:Int):=Eq.trans rfl rfl
@[go_sem] theorem Qv:bG.Queue=[]:=Eq.trans rfl rfl
@[go_sem] theorem Qw:bG.Paid=[]:=Eq.trans rfl rfl
@[go_sem] theorem Qx:bG.Total=(0:Int):=Eq.trans rfl rfl
@[go_sem] theorem Qy:bG.Blocked=[]:=Eq.trans rfl rfl
@[go_sem] theorem Qz:bG.Now=(0:Int):=Eq.trans rfl rfl
structure fo where
 Value:Int
 Depth:Int
def lR:fo:={Value:=(0:Int),Depth:=(0:Int)}
instance:Inhabited fo:=⟨lR⟩
@[go_sem] theorem QA:lR.Value=(0:Int):=Eq.trans rfl rfl
@[go_sem] theorem QB:lR.Depth=(0:Int):=Eq.trans rfl rfl
structure aO where
 P:Int
 Q:Int
 G:Int
def nq:aO:={P:=(0:Int),Q:=(0:Int),G:=(0:Int)}
instance:Inhabited aO:=⟨nq⟩
@[go_sem] theorem QD:nq.P=(0:Int):=Eq.trans rfl rfl
@[go_sem] theorem QE:nq.Q=(0:Int):=Eq.trans rfl rfl
@[go_sem] theorem QF:nq.G=(0:Int):=Eq.trans rfl rfl
structure aY where
 Group:aO
 G1:Int
 G2:Int
 H:Int
def lS:aY:={Group:=nq,G1:=(0:Int),G2:=(0:Int),H:=(0:Int)}
instance:Inhabited aY:=⟨lS⟩
@[go_sem] theorem QG:lS.Group=nq:=Eq.trans rfl rfl
@[go_sem] theorem QH:lS.G1=(0:Int):=Eq.trans rfl rfl
@[go_sem] theorem QI:lS.G2=(0:Int):=Eq.trans rfl rfl
@[go_sem] theorem QJ:lS.H=(0:Int):=Eq.trans rfl rfl
structure gN where
 H:Int
 H1:Int
 H2:Int
def nr:gN:={H:=(0:Int),H1:=(0:Int),H2:=(0:Int)}
instance:Inhabited gN:=⟨nr⟩
@[go_sem] theorem QK:nr.H=(0:Int):=Eq.trans rfl rfl
@[go_sem] theorem QL:nr.H1=(0:Int):=Eq.trans rfl rfl
@[go_sem] theorem QM:nr.H2=(0:Int):=Eq.trans rfl rfl
structure bg where
 Bank:Int
 Epoch:Int
 Denom:Int
 Value:Int
 Depth:Int
 Key:gN
 From:Int
 Until:Int
 Final:Int
def fX:bg:={Bank:=(0:Int),Epoch:=(0:Int),Denom:=(0:Int),Value:=(0:Int),Depth:=(0:Int),Key:=nr,From:=(0:Int),Until:=(0:Int),Final:=(0:Int)}
instance:Inhabited bg:=⟨fX⟩
@[go_sem] theorem QN:fX.Bank=(0:Int):=Eq.trans rfl rfl
@[go_sem] theorem QO:fX.Epoch=(0:Int):=Eq.trans rfl rfl
@[go_sem] theorem QP:fX.Denom=(0:Int):=Eq.trans rfl rfl
@[go_sem] theorem QQ:fX.Value=(0:Int):=Eq.trans rfl rfl
@[go_sem] theorem QR:fX.Depth=(0:Int):=Eq.trans rfl rfl
@[go_sem] theorem QS:fX.Key=nr:=Eq.trans rfl rfl
@[go_sem] theorem QT:fX.From=(0:Int):=Eq.trans rfl rfl
@[go_sem] theorem QU:fX.Until=(0:Int):=Eq.trans rfl rfl
@[go_sem] theorem QV:fX.Final=(0:Int):=Eq.trans rfl rfl
structure cj where
 b:aY
 l:(List bg)
 y:Int
 v:aN
 p:aK
def nt:cj:={b:=lS,l:=[],y:=(0:Int),v:=fm,p:=lQ}
instance:Inhabited cj:=⟨nt⟩
@[go_sem] theorem QW:nt.b=lS:=Eq.trans rfl rfl
@[go_sem] theorem QX:nt.l=[]:=Eq.trans rfl rfl
@[go_sem] theorem QY:nt.y=(0:Int):=Eq.trans rfl rfl
@[go_sem] theorem QZ:nt.v=fm:=Eq.trans rfl rfl
@[go_sem] theorem Q3:nt.p=lQ:=Eq.trans rfl rfl
structure am where
 Kind:Int
 N:Int
 B:(List Int)
 L:(List am)
def pK:am:={Kind:=(0:Int),N:=(0:Int),B:=[],L:=[]}
instance:Inhabited am:=⟨pK⟩
@[go_sem] theorem Q4:pK.Kind=(0:Int):=Eq.trans rfl rfl
@[go_sem] theorem Q5:pK.N=(0:Int):=Eq.trans rfl rfl
@[go_sem] theorem Q6:pK.B=[]:=Eq.trans rfl rfl
@[go_sem] theorem Q7:pK.L=[]:=Eq.trans rfl rfl
structure ef where
 l:(List am)
def lT:ef:={l:=[]}
instance:Inhabited ef:=⟨lT⟩
@[go_sem] theorem Q8:lT.l=[]:=Eq.trans rfl rfl
structure de where
 A:Int
 B:Int
 Spend:au
 Leaf:Int
def pL:de:={A:=(0:Int),B:=(0:Int),Spend:=iu,Leaf:=(0:Int)}
instance:Inhabited de:=⟨pL⟩
@[go_sem] theorem Q9:pL.A=(0:Int):=Eq.trans rfl rfl
@[go_sem] theorem Q_:pL.B=(0:Int):=Eq.trans rfl rfl
@[go_sem] theorem Ra:pL.Spend=iu:=Eq.trans rfl rfl
@[go_sem] theorem Rb:pL.Leaf=(0:Int):=Eq.trans rfl rfl
structure cC where
 Y:(List Int)
 Bases:(List (List Int))
def kb:cC:={Y:=[],Bases:=[]}
instance:Inhabited cC:=⟨kb⟩
@[go_sem] theorem Rc:kb.Y=[]:=Eq.trans rfl rfl
@[go_sem] theorem Rd:kb.Bases=[]:=Eq.trans rfl rfl
structure cf where
 State:(List Int)
 Count:Int
def eg:cf:={State:=[0,0,0,0,0,0,0,0,0,0,0,0,0,0,0,0,0,0,0,0,0,0,0,0,0,0,0,0,0,0,0,0],Count:=(0:Int)}
instance:Inhabited cf:=⟨eg⟩
@[go_sem] theorem Re:eg.State=[0,0,0,0,0,0,0,0,0,0,0,0,0,0,0,0,0,0,0,0,0,0,0,0,0,0,0,0,0,0,0,0]:=Eq.trans rfl rfl
@[go_sem] theorem Rf:eg.Count=(0:Int):=Eq.trans rfl rfl
def ct (x:bW):V:= .agg [.int .i64 x.Kind,.int .i64 x.A,.int .i64 x.B]
attribute [go_sem] ct
def aH (l:(List Int)):V:= .agg (.int .u8 (gt l 0):: .int .u8 (gt l 1):: .int .u8 (gt l 2):: .int .u8 (gt l 3):: .int .u8 (gt l 4):: .int .u8 (gt l 5):: .int .u8 (gt l 6):: .int .u8 (gt l 7):: .int .u8 (gt l 8):: .int .u8 (gt l 9):: .int .u8 (gt l 10):: .int .u8 (gt l 11):: .int .u8 (gt l 12):: .int .u8 (gt l 13):: .int .u8 (gt l 14):: .int .u8 (gt l 15):: .int .u8 (gt l 16):: .int .u8 (gt l 17):: .int .u8 (gt l 18):: .int .u8 (gt l 19):: .int .u8 (gt l 20):: .int .u8 (gt l 21):: .int .u8 (gt l 22):: .int .u8 (gt l 23):: .int .u8 (gt l 24):: .int .u8 (gt l 25):: .int .u8 (gt l 26):: .int .u8 (gt l 27):: .int .u8 (gt l 28):: .int .u8 (gt l 29):: .int .u8 (gt l 30):: .int .u8 (gt l 31)::[])
attribute [go_sem] aH
def aZ (x:aN):V:= .agg (.int .u8 (gt x.Payee 0):: .int .u8 (gt x.Payee 1):: .int .u8 (gt x.Payee 2):: .int .u8 (gt x.Payee 3):: .int .u8 (gt x.Payee 4):: .int .u8 (gt x.Payee 5):: .int .u8 (gt x.Payee 6):: .int .u8 (gt x.Payee 7):: .int .u8 (gt x.Payee 8):: .int .u8 (gt x.Payee 9):: .int .u8 (gt x.Payee 10):: .int .u8 (gt x.Payee 11):: .int .u8 (gt x.Payee 12):: .int .u8 (gt x.Payee 13):: .int .u8 (gt x.Payee 14):: .int .u8 (gt x.Payee 15):: .int .u8 (gt x.Payee 16):: .int .u8 (gt x.Payee 17):: .int .u8 (gt x.Payee 18):: .int .u8 (gt x.Payee 19):: .int .u8 (gt x.Payee 20):: .int .u8 (gt x.Payee 21):: .int .u8 (gt x.Payee 22):: .int .u8 (gt x.Payee 23):: .int .u8 (gt x.Payee 24):: .int .u8 (gt x.Payee 25):: .int .u8 (gt x.Payee 26):: .int .u8 (gt x.Payee 27):: .int .u8 (gt x.Payee 28):: .int .u8 (gt x.Payee 29):: .int .u8 (gt x.Payee 30):: .int .u8 (gt x.Payee 31):: .int .i64 x.Amount:: .int .i64 x.Time:: .int .i64 x.Number::[])
attribute [go_sem] aZ
def dQ (x:dO):V:= .agg [.int .i64 x.B,.int .i64 x.R1,.int .i64 x.R2]
attribute [go_sem] dQ
def aQ (x:au):V:= .agg (.int .i64 x.Coin.Bank:: .int .i64 x.Coin.Epoch:: .int .i64 x.Coin.Denom:: .int .i64 x.Coin.Depth:: .int .i64 x.Coin.A:: .int .u8 (gt x.Coin.Root 0):: .int .u8 (gt x.Coin.Root 1):: .int .u8 (gt x.Coin.Root 2):: .int .u8 (gt x.Coin.Root 3):: .int .u8 (gt x.Coin.Root 4):: .int .u8 (gt x.Coin.Root 5):: .int .u8 (gt x.Coin.Root 6):: .int .u8 (gt x.Coin.Root 7):: .int .u8 (gt x.Coin.Root 8):: .int .u8 (gt x.Coin.Root 9):: .int .u8 (gt x.Coin.Root 10):: .int .u8 (gt x.Coin.Root 11):: .int .u8 (gt x.Coin.Root 12):: .int .u8 (gt x.Coin.Root 13):: .int .u8 (gt x.Coin.Root 14):: .int .u8 (gt x.Coin.Root 15):: .int .u8 (gt x.Coin.Root 16):: .int .u8 (gt x.Coin.Root 17):: .int .u8 (gt x.Coin.Root 18):: .int .u8 (gt x.Coin.Root 19):: .int .u8 (gt x.Coin.Root 20):: .int .u8 (gt x.Coin.Root 21):: .int .u8 (gt x.Coin.Root 22):: .int .u8 (gt x.Coin.Root 23):: .int .u8 (gt x.Coin.Root 24):: .int .u8 (gt x.Coin.Root 25):: .int .u8 (gt x.Coin.Root 26):: .int .u8 (gt x.Coin.Root 27):: .int .u8 (gt x.Coin.Root 28):: .int .u8 (gt x.Coin.Root 29):: .int .u8 (gt x.Coin.Root 30):: .int .u8 (gt x.Coin.Root 31):: .int .i64 x.Coin.Sign.Z:: .int .i64 x.Coin.Sign.A:: .int .i64 x.Coin.Sign.B:: .int .i64 x.Coin.Sign.R:: .int .i64 x.Node.Level:: .int .i64 x.Node.Index:: .int .u8 (gt x.Context.Payee 0):: .int .u8 (gt x.Context.Payee 1):: .int .u8 (gt x.Context.Payee 2):: .int .u8 (gt x.Context.Payee 3):: .int .u8 (gt x.Context.Payee 4):: .int .u8 (gt x.Context.Payee 5):: .int .u8 (gt x.Context.Payee 6):: .int .u8 (gt x.Context.Payee 7):: .int .u8 (gt x.Context.Payee 8):: .int .u8 (gt x.Context.Payee 9):: .int .u8 (gt x.Context.Payee 10):: .int .u8 (gt x.Context.Payee 11):: .int .u8 (gt x.Context.Payee 12):: .int .u8 (gt x.Context.Payee 13):: .int .u8 (gt x.Context.Payee 14):: .int .u8 (gt x.Context.Payee 15):: .int .u8 (gt x.Context.Payee 16):: .int .u8 (gt x.Context.Payee 17):: .int .u8 (gt x.Context.Payee 18):: .int .u8 (gt x.Context.Payee 19):: .int .u8 (gt x.Context.Payee 20):: .int .u8 (gt x.Context.Payee 21):: .int .u8 (gt x.Context.Payee 22):: .int .u8 (gt x.Context.Payee 23):: .int .u8 (gt x.Context.Payee 24):: .int .u8 (gt x.Context.Payee 25):: .int .u8 (gt x.Context.Payee 26):: .int .u8 (gt x.Context.Payee 27):: .int .u8 (gt x.Context.Payee 28):: .int .u8 (gt x.Context.Payee 29):: .int .u8 (gt x.Context.Payee 30):: .int .u8 (gt x.Context.Payee 31):: .int .i64 x.Context.Time:: .int .i64 x.Context.Number:: .sl none 3 true (x.Leaves.map dQ):: .int .i64 x.Path.Index:: .sl none 32 true (x.Path.L.map aH)::[])
attribute [go_sem] aQ
def bl (x:bh):V:= .agg (.int .i64 x.First.Coin.Bank:: .int .i64 x.First.Coin.Epoch:: .int .i64 x.First.Coin.Denom:: .int .i64 x.First.Coin.Depth:: .int .i64 x.First.Coin.A:: .int .u8 (gt x.First.Coin.Root 0):: .int .u8 (gt x.First.Coin.Root 1):: .int .u8 (gt x.First.Coin.Root 2):: .int .u8 (gt x.First.Coin.Root 3):: .int .u8 (gt x.First.Coin.Root 4):: .int .u8 (gt x.First.Coin.Root 5):: .int .u8 (gt x.First.Coin.Root 6):: .int .u8 (gt x.First.Coin.Root 7):: .int .u8 (gt x.First.Coin.Root 8):: .int .u8 (gt x.First.Coin.Root 9):: .int .u8 (gt x.First.Coin.Root 10):: .int .u8 (gt x.First.Coin.Root 11):: .int .u8 (gt x.First.Coin.Root 12):: .int .u8 (gt x.First.Coin.Root 13):: .int .u8 (gt x.First.Coin.Root 14):: .int .u8 (gt x.First.Coin.Root 15):: .int .u8 (gt x.First.Coin.Root 16):: .int .u8 (gt x.First.Coin.Root 17):: .int .u8 (gt x.First.Coin.Root 18):: .int .u8 (gt x.First.Coin.Root 19):: .int .u8 (gt x.First.Coin.Root 20):: .int .u8 (gt x.First.Coin.Root 21):: .int .u8 (gt x.First.Coin.Root 22):: .int .u8 (gt x.First.Coin.Root 23):: .int .u8 (gt x.First.Coin.Root 24):: .int .u8 (gt x.First.Coin.Root 25):: .int .u8 (gt x.First.Coin.Root 26):: .int .u8 (gt x.First.Coin.Root 27):: .int .u8 (gt x.First.Coin.Root 28):: .int .u8 (gt x.First.Coin.Root 29):: .int .u8 (gt x.First.Coin.Root 30):: .int .u8 (gt x.First.Coin.Root 31):: .int .i64 x.First.Coin.Sign.Z:: .int .i64 x.First.Coin.Sign.A:: .int .i64 x.First.Coin.Sign.B:: .int .i64 x.First.Coin.Sign.R:: .int .i64 x.First.Node.Level:: .int .i64 x.First.Node.Index:: .int .u8 (gt x.First.Context.Payee 0):: .int .u8 (gt x.First.Context.Payee 1):: .int .u8 (gt x.First.Context.Payee 2):: .int .u8 (gt x.First.Context.Payee 3):: .int .u8 (gt x.First.Context.Payee 4):: .int .u8 (gt x.First.Context.Payee 5):: .int .u8 (gt x.First.Context.Payee 6):: .int .u8 (gt x.First.Context.Payee 7):: .int .u8 (gt x.First.Context.Payee 8):: .int .u8 (gt x.First.Context.Payee 9):: .int .u8 (gt x.First.Context.Payee 10):: .int .u8 (gt x.First.Context.Payee 11):: .int .u8 (gt x.First.Context.Payee 12):: .int .u8 (gt x.First.Context.Payee 13):: .int .u8 (gt x.First.Context.Payee 14):: .int .u8 (gt x.First.Context.Payee 15):: .int .u8 (gt x.First.Context.Payee 16):: .int .u8 (gt x.First.Context.Payee 17):: .int .u8 (gt x.First.Context.Payee 18):: .int .u8 (gt x.First.Context.Payee 19):: .int .u8 (gt x.First.Context.Payee 20):: .int .u8 (gt x.First.Context.Payee 21):: .int .u8 (gt x.First.Context.Payee 22):: .int .u8 (gt x.First.Context.Payee 23):: .int .u8 (gt x.First.Context.Payee 24):: .int .u8 (gt x.First.Context.Payee 25):: .int .u8 (gt x.First.Context.Payee 26):: .int .u8 (gt x.First.Context.Payee 27):: .int .u8 (gt x.First.Context.Payee 28):: .int .u8 (gt x.First.Context.Payee 29):: .int .u8 (gt x.First.Context.Payee 30):: .int .u8 (gt x.First.Context.Payee 31):: .int .i64 x.First.Context.Time:: .int .i64 x.First.Context.Number:: .sl none 3 true (x.First.Leaves.map dQ):: .int .i64 x.First.Path.Index:: .sl none 32 true (x.First.Path.L.map aH):: .sl none 80 true (x.L.map aQ)::[])
attribute [go_sem] bl
def bQ (x:bZ):V:= .agg [.int .i64 x.E1,.int .i64 x.E2,.sl none 1 false (x.Proof.A.map (V.int .i64)),.int .i64 x.Proof.C,.sl none 1 false (x.Proof.Z.map (V.int .i64))]
attribute [go_sem] bQ
def bw (x:aK):V:= .agg [.int .i64 x.Number,.sl none 80 true (x.Spends.map aQ),.sl none 81 true (x.Chains.map bl),.sl none 5 true (x.Escrow.map bQ)]
attribute [go_sem] bw
def bJ (x:aD):V:= .agg (.int .u8 (gt x.Name 0):: .int .u8 (gt x.Name 1):: .int .u8 (gt x.Name 2):: .int .u8 (gt x.Name 3):: .int .u8 (gt x.Name 4):: .int .u8 (gt x.Name 5):: .int .u8 (gt x.Name 6):: .int .u8 (gt x.Name 7):: .int .u8 (gt x.Name 8):: .int .u8 (gt x.Name 9):: .int .u8 (gt x.Name 10):: .int .u8 (gt x.Name 11):: .int .u8 (gt x.Name 12):: .int .u8 (gt x.Name 13):: .int .u8 (gt x.Name 14):: .int .u8 (gt x.Name 15):: .int .u8 (gt x.Name 16):: .int .u8 (gt x.Name 17):: .int .u8 (gt x.Name 18):: .int .u8 (gt x.Name 19):: .int .u8 (gt x.Name 20):: .int .u8 (gt x.Name 21):: .int .u8 (gt x.Name 22):: .int .u8 (gt x.Name 23):: .int .u8 (gt x.Name 24):: .int .u8 (gt x.Name 25):: .int .u8 (gt x.Name 26):: .int .u8 (gt x.Name 27):: .int .u8 (gt x.Name 28):: .int .u8 (gt x.Name 29):: .int .u8 (gt x.Name 30):: .int .u8 (gt x.Name 31):: .sl none 3 true (x.Policy.Rules.map ct):: .sl none 35 true (x.Open.map aZ):: .int .i64 x.Next:: .sl none 4 true (x.Queue.map bw):: .sl none 35 true (x.Paid.map aZ):: .int .i64 x.Total:: .sl none 1 false (x.Blocked.map (V.int .i64)):: .int .i64 x.Now::[])
attribute [go_sem] bJ
def lU (x:eH):V:= .agg (.int .u8 (gt x.Payee 0):: .int .u8 (gt x.Payee 1):: .int .u8 (gt x.Payee 2):: .int .u8 (gt x.Payee 3):: .int .u8 (gt x.Payee 4):: .int .u8 (gt x.Payee 5):: .int .u8 (gt x.Payee 6):: .int .u8 (gt x.Payee 7):: .int .u8 (gt x.Payee 8):: .int .u8 (gt x.Payee 9):: .int .u8 (gt x.Payee 10):: .int .u8 (gt x.Payee 11):: .int .u8 (gt x.Payee 12):: .int .u8 (gt x.Payee 13):: .int .u8 (gt x.Payee 14):: .int .u8 (gt x.Payee 15):: .int .u8 (gt x.Payee 16):: .int .u8 (gt x.Payee 17):: .int .u8 (gt x.Payee 18):: .int .u8 (gt x.Payee 19):: .int .u8 (gt x.Payee 20):: .int .u8 (gt x.Payee 21):: .int .u8 (gt x.Payee 22):: .int .u8 (gt x.Payee 23):: .int .u8 (gt x.Payee 24):: .int .u8 (gt x.Payee 25):: .int .u8 (gt x.Payee 26):: .int .u8 (gt x.Payee 27):: .int .u8 (gt x.Payee 28):: .int .u8 (gt x.Payee 29):: .int .u8 (gt x.Payee 30):: .int .u8 (gt x.Payee 31):: .int .i64 x.Time:: .int .i64 x.Number::[])
attribute [go_sem] lU
def eJ (a b:(List Int)):Bool:=((gt a 0)==(gt b 0)&&((gt a 1)==(gt b 1)&&((gt a 2)==(gt b 2)&&((gt a 3)==(gt b 3)&&((gt a 4)==(gt b 4)&&((gt a 5)==(gt b 5)&&((gt a 6)==(gt b 6)&&((gt a 7)==(gt b 7)&&((gt a 8)==(gt b 8)&&((gt a 9)==(gt b 9)&&((gt a 10)==(gt b 10)&&((gt a 11)==(gt b 11)&&((gt a 12)==(gt b 12)&&((gt a 13)==(gt b 13)&&((gt a 14)==(gt b 14)&&((gt a 15)==(gt b 15)&&((gt a 16)==(gt b 16)&&((gt a 17)==(gt b 17)&&((gt a 18)==(gt b 18)&&((gt a 19)==(gt b 19)&&((gt a 20)==(gt b 20)&&((gt a 21)==(gt b 21)&&((gt a 22)==(gt b 22)&&((gt a 23)==(gt b 23)&&((gt a 24)==(gt b 24)&&((gt a 25)==(gt b 25)&&((gt a 26)==(gt b 26)&&((gt a 27)==(gt b 27)&&((gt a 28)==(gt b 28)&&((gt a 29)==(gt b 29)&&((gt a 30)==(gt b 30)&&(gt a 31)==(gt b 31))))))))))))))))))))))))))))))))
attribute [go_sem] eJ
def CU:V:= .agg (.int .u8 0:: .int .u8 0:: .int .u8 0:: .int .u8 0:: .int .u8 0:: .int .u8 0:: .int .u8 0:: .int .u8 0:: .int .u8 0:: .int .u8 0:: .int .u8 0:: .int .u8 0:: .int .u8 0:: .int .u8 0:: .int .u8 0:: .int .u8 0:: .int .u8 0:: .int .u8 0:: .int .u8 0:: .int .u8 0:: .int .u8 0:: .int .u8 0:: .int .u8 0:: .int .u8 0:: .int .u8 0:: .int .u8 0:: .int .u8 0:: .int .u8 0:: .int .u8 0:: .int .u8 0:: .int .u8 0:: .int .u8 0:: .sl (some true) 3 true []:: .sl (some true) 35 true []:: .int .i64 0:: .sl (some true) 4 true []:: .sl (some true) 35 true []:: .int .i64 0:: .sl (some true) 1 false []:: .int .i64 0::[])
attribute [go_sem] CU
def kc (a b:aN):Bool:=((gt a.Payee 0)==(gt b.Payee 0)&&((gt a.Payee 1)==(gt b.Payee 1)&&((gt a.Payee 2)==(gt b.Payee 2)&&((gt a.Payee 3)==(gt b.Payee 3)&&((gt a.Payee 4)==(gt b.Payee 4)&&((gt a.Payee 5)==(gt b.Payee 5)&&((gt a.Payee 6)==(gt b.Payee 6)&&((gt a.Payee 7)==(gt b.Payee 7)&&((gt a.Payee 8)==(gt b.Payee 8)&&((gt a.Payee 9)==(gt b.Payee 9)&&((gt a.Payee 10)==(gt b.Payee 10)&&((gt a.Payee 11)==(gt b.Payee 11)&&((gt a.Payee 12)==(gt b.Payee 12)&&((gt a.Payee 13)==(gt b.Payee 13)&&((gt a.Payee 14)==(gt b.Payee 14)&&((gt a.Payee 15)==(gt b.Payee 15)&&((gt a.Payee 16)==(gt b.Payee 16)&&((gt a.Payee 17)==(gt b.Payee 17)&&((gt a.Payee 18)==(gt b.Payee 18)&&((gt a.Payee 19)==(gt b.Payee 19)&&((gt a.Payee 20)==(gt b.Payee 20)&&((gt a.Payee 21)==(gt b.Payee 21)&&((gt a.Payee 22)==(gt b.Payee 22)&&((gt a.Payee 23)==(gt b.Payee 23)&&((gt a.Payee 24)==(gt b.Payee 24)&&((gt a.Payee 25)==(gt b.Payee 25)&&((gt a.Payee 26)==(gt b.Payee 26)&&((gt a.Payee 27)==(gt b.Payee 27)&&((gt a.Payee 28)==(gt b.Payee 28)&&((gt a.Payee 29)==(gt b.Payee 29)&&((gt a.Payee 30)==(gt b.Payee 30)&&((gt a.Payee 31)==(gt b.Payee 31)&&(a.Amount==b.Amount&&(a.Time==b.Time&&a.Number==b.Number))))))))))))))))))))))))))))))))))
attribute [go_sem] kc
def xD (x:gM):V:= .agg [.int .i64 x.Z,.int .i64 x.A,.int .i64 x.B,.int .i64 x.R]
attribute [go_sem] xD
def dR (x:bu):V:= .agg (.int .i64 x.Bank:: .int .i64 x.Epoch:: .int .i64 x.Denom:: .int .i64 x.Depth:: .int .i64 x.A:: .int .u8 (gt x.Root 0):: .int .u8 (gt x.Root 1):: .int .u8 (gt x.Root 2):: .int .u8 (gt x.Root 3):: .int .u8 (gt x.Root 4):: .int .u8 (gt x.Root 5):: .int .u8 (gt x.Root 6):: .int .u8 (gt x.Root 7):: .int .u8 (gt x.Root 8):: .int .u8 (gt x.Root 9):: .int .u8 (gt x.Root 10):: .int .u8 (gt x.Root 11):: .int .u8 (gt x.Root 12):: .int .u8 (gt x.Root 13):: .int .u8 (gt x.Root 14):: .int .u8 (gt x.Root 15):: .int .u8 (gt x.Root 16):: .int .u8 (gt x.Root 17):: .int .u8 (gt x.Root 18):: .int .u8 (gt x.Root 19):: .int .u8 (gt x.Root 20):: .int .u8 (gt x.Root 21):: .int .u8 (gt x.Root 22):: .int .u8 (gt x.Root 23):: .int .u8 (gt x.Root 24):: .int .u8 (gt x.Root 25):: .int .u8 (gt x.Root 26):: .int .u8 (gt x.Root 27):: .int .u8 (gt x.Root 28):: .int .u8 (gt x.Root 29):: .int .u8 (gt x.Root 30):: .int .u8 (gt x.Root 31):: .int .i64 x.Sign.Z:: .int .i64 x.Sign.A:: .int .i64 x.Sign.B:: .int .i64 x.Sign.R::[])
attribute [go_sem] dR
def xE (x:fG):V:= .agg [.int .i64 x.Level,.int .i64 x.Index]
attribute [go_sem] xE
def xF (x:eI):V:= .agg [.int .i64 x.Index,.sl none 32 true (x.L.map aH)]
attribute [go_sem] xF
def xG (x:dP):V:= .agg [.sl none 1 false (x.A.map (V.int .i64)),.int .i64 x.C,.sl none 1 false (x.Z.map (V.int .i64))]
attribute [go_sem] xG
def xH (x:dp):V:= .agg [.sl none 3 true (x.Rules.map ct)]
attribute [go_sem] xH
def pM (a b:fo):Bool:=(a.Value==b.Value&&a.Depth==b.Depth)
attribute [go_sem] pM
def tr (x:fo):V:= .agg [.int .i64 x.Value,.int .i64 x.Depth]
attribute [go_sem] tr
def bL (x:aY):V:= .agg [.int .i64 x.Group.P,.int .i64 x.Group.Q,.int .i64 x.Group.G,.int .i64 x.G1,.int .i64 x.G2,.int .i64 x.H]
attribute [go_sem] bL
def cD (x:bg):V:= .agg [.int .i64 x.Bank,.int .i64 x.Epoch,.int .i64 x.Denom,.int .i64 x.Value,.int .i64 x.Depth,.int .i64 x.Key.H,.int .i64 x.Key.H1,.int .i64 x.Key.H2,.int .i64 x.From,.int .i64 x.Until,.int .i64 x.Final]
attribute [go_sem] cD
def bE (x:cj):V:= .agg (.int .i64 x.b.Group.P:: .int .i64 x.b.Group.Q:: .int .i64 x.b.Group.G:: .int .i64 x.b.G1:: .int .i64 x.b.G2:: .int .i64 x.b.H:: .sl none 11 true (x.l.map cD):: .int .i64 x.y:: .int .u8 (gt x.v.Payee 0):: .int .u8 (gt x.v.Payee 1):: .int .u8 (gt x.v.Payee 2):: .int .u8 (gt x.v.Payee 3):: .int .u8 (gt x.v.Payee 4):: .int .u8 (gt x.v.Payee 5):: .int .u8 (gt x.v.Payee 6):: .int .u8 (gt x.v.Payee 7):: .int .u8 (gt x.v.Payee 8):: .int .u8 (gt x.v.Payee 9):: .int .u8 (gt x.v.Payee 10):: .int .u8 (gt x.v.Payee 11):: .int .u8 (gt x.v.Payee 12):: .int .u8 (gt x.v.Payee 13):: .int .u8 (gt x.v.Payee 14):: .int .u8 (gt x.v.Payee 15):: .int .u8 (gt x.v.Payee 16):: .int .u8 (gt x.v.Payee 17):: .int .u8 (gt x.v.Payee 18):: .int .u8 (gt x.v.Payee 19):: .int .u8 (gt x.v.Payee 20):: .int .u8 (gt x.v.Payee 21):: .int .u8 (gt x.v.Payee 22):: .int .u8 (gt x.v.Payee 23):: .int .u8 (gt x.v.Payee 24):: .int .u8 (gt x.v.Payee 25):: .int .u8 (gt x.v.Payee 26):: .int .u8 (gt x.v.Payee 27):: .int .u8 (gt x.v.Payee 28):: .int .u8 (gt x.v.Payee 29):: .int .u8 (gt x.v.Payee 30):: .int .u8 (gt x.v.Payee 31):: .int .i64 x.v.Amount:: .int .i64 x.v.Time:: .int .i64 x.v.Number:: .int .i64 x.p.Number:: .sl none 80 true (x.p.Spends.map aQ):: .sl none 81 true (x.p.Chains.map bl):: .sl none 5 true (x.p.Escrow.map bQ)::[])
attribute [go_sem] bE
def bv (x:am):V:= .agg [.int .i64 x.Kind,.int .i64 x.N,.sl none 1 false (x.B.map (V.int .u8)),.sl none 4 true (x.L.map bv)]
termination_by SizeOf.sizeOf x
decreasing_by
 rename_i y h
 have:=List.sizeOf_lt_of_mem h
 cases x
 simp at*
 omega
attribute [go_sem] bv
def tt:V:= .agg (.int .u32 0:: .int .u32 0:: .int .u32 0:: .int .u32 0:: .int .u32 0:: .int .u32 0:: .int .u32 0:: .int .u32 0:: .int .u32 0:: .int .u32 0:: .int .u32 0:: .int .u32 0:: .int .u32 0:: .int .u32 0:: .int .u32 0:: .int .u32 0:: .int .u32 0:: .int .u32 0:: .int .u32 0:: .int .u32 0:: .int .u32 0:: .int .u32 0:: .int .u32 0:: .int .u32 0:: .int .u32 0:: .int .u32 0:: .int .u32 0:: .int .u32 0:: .int .u32 0:: .int .u32 0:: .int .u32 0:: .int .u32 0:: .int .u32 0:: .int .u32 0:: .int .u32 0:: .int .u32 0:: .int .u32 0:: .int .u32 0:: .int .u32 0:: .int .u32 0:: .int .u32 0:: .int .u32 0:: .int .u32 0:: .int .u32 0:: .int .u32 0:: .int .u32 0:: .int .u32 0:: .int .u32 0:: .int .u32 0:: .int .u32 0:: .int .u32 0:: .int .u32 0:: .int .u32 0:: .int .u32 0:: .int .u32 0:: .int .u32 0:: .int .u32 0:: .int .u32 0:: .int .u32 0:: .int .u32 0:: .int .u32 0:: .int .u32 0:: .int .u32 0:: .int .u32 0::[])
attribute [go_sem] tt
def nu (l:(List Int)):V:= .agg (.int .u32 (gt l 0):: .int .u32 (gt l 1):: .int .u32 (gt l 2):: .int .u32 (gt l 3):: .int .u32 (gt l 4):: .int .u32 (gt l 5):: .int .u32 (gt l 6):: .int .u32 (gt l 7):: .int .u32 (gt l 8):: .int .u32 (gt l 9):: .int .u32 (gt l 10):: .int .u32 (gt l 11):: .int .u32 (gt l 12):: .int .u32 (gt l 13):: .int .u32 (gt l 14):: .int .u32 (gt l 15):: .int .u32 (gt l 16):: .int .u32 (gt l 17):: .int .u32 (gt l 18):: .int .u32 (gt l 19):: .int .u32 (gt l 20):: .int .u32 (gt l 21):: .int .u32 (gt l 22):: .int .u32 (gt l 23):: .int .u32 (gt l 24):: .int .u32 (gt l 25):: .int .u32 (gt l 26):: .int .u32 (gt l 27):: .int .u32 (gt l 28):: .int .u32 (gt l 29):: .int .u32 (gt l 30):: .int .u32 (gt l 31):: .int .u32 (gt l 32):: .int .u32 (gt l 33):: .int .u32 (gt l 34):: .int .u32 (gt l 35):: .int .u32 (gt l 36):: .int .u32 (gt l 37):: .int .u32 (gt l 38):: .int .u32 (gt l 39):: .int .u32 (gt l 40):: .int .u32 (gt l 41):: .int .u32 (gt l 42):: .int .u32 (gt l 43):: .int .u32 (gt l 44):: .int .u32 (gt l 45):: .int .u32 (gt l 46):: .int .u32 (gt l 47):: .int .u32 (gt l 48):: .int .u32 (gt l 49):: .int .u32 (gt l 50):: .int .u32 (gt l 51):: .int .u32 (gt l 52):: .int .u32 (gt l 53):: .int .u32 (gt l 54):: .int .u32 (gt l 55):: .int .u32 (gt l 56):: .int .u32 (gt l 57):: .int .u32 (gt l 58):: .int .u32 (gt l 59):: .int .u32 (gt l 60):: .int .u32 (gt l 61):: .int .u32 (gt l 62):: .int .u32 (gt l 63)::[])
attribute [go_sem] nu
def ke (l:(List Int)):V:= .agg [.int .u32 (gt l 0),.int .u32 (gt l 1),.int .u32 (gt l 2),.int .u32 (gt l 3),.int .u32 (gt l 4),.int .u32 (gt l 5),.int .u32 (gt l 6),.int .u32 (gt l 7)]
attribute [go_sem] ke
def xI:V:= .agg [.int .u32 0,.int .u32 0,.int .u32 0,.int .u32 0,.int .u32 0,.int .u32 0,.int .u32 0,.int .u32 0]
attribute [go_sem] xI
def fY:V:= .agg (.int .u8 0:: .int .u8 0:: .int .u8 0:: .int .u8 0:: .int .u8 0:: .int .u8 0:: .int .u8 0:: .int .u8 0:: .int .u8 0:: .int .u8 0:: .int .u8 0:: .int .u8 0:: .int .u8 0:: .int .u8 0:: .int .u8 0:: .int .u8 0:: .int .u8 0:: .int .u8 0:: .int .u8 0:: .int .u8 0:: .int .u8 0:: .int .u8 0:: .int .u8 0:: .int .u8 0:: .int .u8 0:: .int .u8 0:: .int .u8 0:: .int .u8 0:: .int .u8 0:: .int .u8 0:: .int .u8 0:: .int .u8 0::[])
attribute [go_sem] fY
def jq (a b:eH):Bool:=((gt a.Payee 0)==(gt b.Payee 0)&&((gt a.Payee 1)==(gt b.Payee 1)&&((gt a.Payee 2)==(gt b.Payee 2)&&((gt a.Payee 3)==(gt b.Payee 3)&&((gt a.Payee 4)==(gt b.Payee 4)&&((gt a.Payee 5)==(gt b.Payee 5)&&((gt a.Payee 6)==(gt b.Payee 6)&&((gt a.Payee 7)==(gt b.Payee 7)&&((gt a.Payee 8)==(gt b.Payee 8)&&((gt a.Payee 9)==(gt b.Payee 9)&&((gt a.Payee 10)==(gt b.Payee 10)&&((gt a.Payee 11)==(gt b.Payee 11)&&((gt a.Payee 12)==(gt b.Payee 12)&&((gt a.Payee 13)==(gt b.Payee 13)&&((gt a.Payee 14)==(gt b.Payee 14)&&((gt a.Payee 15)==(gt b.Payee 15)&&((gt a.Payee 16)==(gt b.Payee 16)&&((gt a.Payee 17)==(gt b.Payee 17)&&((gt a.Payee 18)==(gt b.Payee 18)&&((gt a.Payee 19)==(gt b.Payee 19)&&((gt a.Payee 20)==(gt b.Payee 20)&&((gt a.Payee 21)==(gt b.Payee 21)&&((gt a.Payee 22)==(gt b.Payee 22)&&((gt a.Payee 23)==(gt b.Payee 23)&&((gt a.Payee 24)==(gt b.Payee 24)&&((gt a.Payee 25)==(gt b.Payee 25)&&((gt a.Payee 26)==(gt b.Payee 26)&&((gt a.Payee 27)==(gt b.Payee 27)&&((gt a.Payee 28)==(gt b.Payee 28)&&((gt a.Payee 29)==(gt b.Payee 29)&&((gt a.Payee 30)==(gt b.Payee 30)&&((gt a.Payee 31)==(gt b.Payee 31)&&(a.Time==b.Time&&a.Number==b.Number)))))))))))))))))))))))))))))))))
attribute [go_sem] jq
def nv (x:de):V:= .agg (.int .i64 x.A:: .int .i64 x.B:: .int .i64 x.Spend.Coin.Bank:: .int .i64 x.Spend.Coin.Epoch:: .int .i64 x.Spend.Coin.Denom:: .int .i64 x.Spend.Coin.Depth:: .int .i64 x.Spend.Coin.A:: .int .u8 (gt x.Spend.Coin.Root 0):: .int .u8 (gt x.Spend.Coin.Root 1):: .int .u8 (gt x.Spend.Coin.Root 2):: .int .u8 (gt x.Spend.Coin.Root 3):: .int .u8 (gt x.Spend.Coin.Root 4):: .int .u8 (gt x.Spend.Coin.Root 5):: .int .u8 (gt x.Spend.Coin.Root 6):: .int .u8 (gt x.Spend.Coin.Root 7):: .int .u8 (gt x.Spend.Coin.Root 8):: .int .u8 (gt x.Spend.Coin.Root 9):: .int .u8 (gt x.Spend.Coin.Root 10):: .int .u8 (gt x.Spend.Coin.Root 11):: .int .u8 (gt x.Spend.Coin.Root 12):: .int .u8 (gt x.Spend.Coin.Root 13):: .int .u8 (gt x.Spend.Coin.Root 14):: .int .u8 (gt x.Spend.Coin.Root 15):: .int .u8 (gt x.Spend.Coin.Root 16):: .int .u8 (gt x.Spend.Coin.Root 17):: .int .u8 (gt x.Spend.Coin.Root 18):: .int .u8 (gt x.Spend.Coin.Root 19):: .int .u8 (gt x.Spend.Coin.Root 20):: .int .u8 (gt x.Spend.Coin.Root 21):: .int .u8 (gt x.Spend.Coin.Root 22):: .int .u8 (gt x.Spend.Coin.Root 23):: .int .u8 (gt x.Spend.Coin.Root 24):: .int .u8 (gt x.Spend.Coin.Root 25):: .int .u8 (gt x.Spend.Coin.Root 26):: .int .u8 (gt x.Spend.Coin.Root 27):: .int .u8 (gt x.Spend.Coin.Root 28):: .int .u8 (gt x.Spend.Coin.Root 29):: .int .u8 (gt x.Spend.Coin.Root 30):: .int .u8 (gt x.Spend.Coin.Root 31):: .int .i64 x.Spend.Coin.Sign.Z:: .int .i64 x.Spend.Coin.Sign.A:: .int .i64 x.Spend.Coin.Sign.B:: .int .i64 x.Spend.Coin.Sign.R:: .int .i64 x.Spend.Node.Level:: .int .i64 x.Spend.Node.Index:: .int .u8 (gt x.Spend.Context.Payee 0):: .int .u8 (gt x.Spend.Context.Payee 1):: .int .u8 (gt x.Spend.Context.Payee 2):: .int .u8 (gt x.Spend.Context.Payee 3):: .int .u8 (gt x.Spend.Context.Payee 4):: .int .u8 (gt x.Spend.Context.Payee 5):: .int .u8 (gt x.Spend.Context.Payee 6):: .int .u8 (gt x.Spend.Context.Payee 7):: .int .u8 (gt x.Spend.Context.Payee 8):: .int .u8 (gt x.Spend.Context.Payee 9):: .int .u8 (gt x.Spend.Context.Payee 10):: .int .u8 (gt x.Spend.Context.Payee 11):: .int .u8 (gt x.Spend.Context.Payee 12):: .int .u8 (gt x.Spend.Context.Payee 13):: .int .u8 (gt x.Spend.Context.Payee 14):: .int .u8 (gt x.Spend.Context.Payee 15):: .int .u8 (gt x.Spend.Context.Payee 16):: .int .u8 (gt x.Spend.Context.Payee 17):: .int .u8 (gt x.Spend.Context.Payee 18):: .int .u8 (gt x.Spend.Context.Payee 19):: .int .u8 (gt x.Spend.Context.Payee 20):: .int .u8 (gt x.Spend.Context.Payee 21):: .int .u8 (gt x.Spend.Context.Payee 22):: .int .u8 (gt x.Spend.Context.Payee 23):: .int .u8 (gt x.Spend.Context.Payee 24):: .int .u8 (gt x.Spend.Context.Payee 25):: .int .u8 (gt x.Spend.Context.Payee 26):: .int .u8 (gt x.Spend.Context.Payee 27):: .int .u8 (gt x.Spend.Context.Payee 28):: .int .u8 (gt x.Spend.Context.Payee 29):: .int .u8 (gt x.Spend.Context.Payee 30):: .int .u8 (gt x.Spend.Context.Payee 31):: .int .i64 x.Spend.Context.Time:: .int .i64 x.Spend.Context.Number:: .sl none 3 true (x.Spend.Leaves.map dQ):: .int .i64 x.Spend.Path.Index:: .sl none 32 true (x.Spend.Path.L.map aH):: .int .i64 x.Leaf::[])
attribute [go_sem] nv
def fZ (x:cf):V:= .agg (.int .u8 (gt x.State 0):: .int .u8 (gt x.State 1):: .int .u8 (gt x.State 2):: .int .u8 (gt x.State 3):: .int .u8 (gt x.State 4):: .int .u8 (gt x.State 5):: .int .u8 (gt x.State 6):: .int .u8 (gt x.State 7):: .int .u8 (gt x.State 8):: .int .u8 (gt x.State 9):: .int .u8 (gt x.State 10):: .int .u8 (gt x.State 11):: .int .u8 (gt x.State 12):: .int .u8 (gt x.State 13):: .int .u8 (gt x.State 14):: .int .u8 (gt x.State 15):: .int .u8 (gt x.State 16):: .int .u8 (gt x.State 17):: .int .u8 (gt x.State 18):: .int .u8 (gt x.State 19):: .int .u8 (gt x.State 20):: .int .u8 (gt x.State 21):: .int .u8 (gt x.State 22):: .int .u8 (gt x.State 23):: .int .u8 (gt x.State 24):: .int .u8 (gt x.State 25):: .int .u8 (gt x.State 26):: .int .u8 (gt x.State 27):: .int .u8 (gt x.State 28):: .int .u8 (gt x.State 29):: .int .u8 (gt x.State 30):: .int .u8 (gt x.State 31):: .int .i64 x.Count::[])
attribute [go_sem] fZ
def nw (a b:bu):Bool:=(a.Bank==b.Bank&&(a.Epoch==b.Epoch&&(a.Denom==b.Denom&&(a.Depth==b.Depth&&(a.A==b.A&&((gt a.Root 0)==(gt b.Root 0)&&((gt a.Root 1)==(gt b.Root 1)&&((gt a.Root 2)==(gt b.Root 2)&&((gt a.Root 3)==(gt b.Root 3)&&((gt a.Root 4)==(gt b.Root 4)&&((gt a.Root 5)==(gt b.Root 5)&&((gt a.Root 6)==(gt b.Root 6)&&((gt a.Root 7)==(gt b.Root 7)&&((gt a.Root 8)==(gt b.Root 8)&&((gt a.Root 9)==(gt b.Root 9)&&((gt a.Root 10)==(gt b.Root 10)&&((gt a.Root 11)==(gt b.Root 11)&&((gt a.Root 12)==(gt b.Root 12)&&((gt a.Root 13)==(gt b.Root 13)&&((gt a.Root 14)==(gt b.Root 14)&&((gt a.Root 15)==(gt b.Root 15)&&((gt a.Root 16)==(gt b.Root 16)&&((gt a.Root 17)==(gt b.Root 17)&&((gt a.Root 18)==(gt b.Root 18)&&((gt a.Root 19)==(gt b.Root 19)&&((gt a.Root 20)==(gt b.Root 20)&&((gt a.Root 21)==(gt b.Root 21)&&((gt a.Root 22)==(gt b.Root 22)&&((gt a.Root 23)==(gt b.Root 23)&&((gt a.Root 24)==(gt b.Root 24)&&((gt a.Root 25)==(gt b.Root 25)&&((gt a.Root 26)==(gt b.Root 26)&&((gt a.Root 27)==(gt b.Root 27)&&((gt a.Root 28)==(gt b.Root 28)&&((gt a.Root 29)==(gt b.Root 29)&&((gt a.Root 30)==(gt b.Root 30)&&((gt a.Root 31)==(gt b.Root 31)&&(a.Sign.Z==b.Sign.Z&&(a.Sign.A==b.Sign.A&&(a.Sign.B==b.Sign.B&&a.Sign.R==b.Sign.R))))))))))))))))))))))))))))))))))))))))
attribute [go_sem] nw
def ny (a b:fG):Bool:=(a.Level==b.Level&&a.Index==b.Index)
attribute [go_sem] ny
def lV (a b:dO):Bool:=(a.B==b.B&&(a.R1==b.R1&&a.R2==b.R2))
attribute [go_sem] lV
def lW (a b:bW):Bool:=(a.Kind==b.Kind&&(a.A==b.A&&a.B==b.B))
attribute [go_sem] lW
def Kk:V:= .agg (.int .u8 0:: .int .u8 0:: .int .u8 0:: .int .u8 0:: .int .u8 0:: .int .u8 0:: .int .u8 0:: .int .u8 0:: .int .u8 0:: .int .u8 0:: .int .u8 0:: .int .u8 0:: .int .u8 0:: .int .u8 0:: .int .u8 0:: .int .u8 0:: .int .u8 0:: .int .u8 0:: .int .u8 0:: .int .u8 0:: .int .u8 0:: .int .u8 0:: .int .u8 0:: .int .u8 0:: .int .u8 0:: .int .u8 0:: .int .u8 0:: .int .u8 0:: .int .u8 0:: .int .u8 0:: .int .u8 0:: .int .u8 0:: .int .i64 0:: .int .i64 0:: .int .i64 0::[])
attribute [go_sem] Kk
def xJ (x:aO):V:= .agg [.int .i64 x.P,.int .i64 x.Q,.int .i64 x.G]
attribute [go_sem] xJ
def xK (x:gN):V:= .agg [.int .i64 x.H,.int .i64 x.H1,.int .i64 x.H2]
attribute [go_sem] xK
end Go.Proofs.YteibkofekpejgaaGreatDoor
